/- A logic of small values, and walks in it: Meshes, specs, shapes: what may be. Specs: what may be; Bound; what Do refuses. -/
import Derived.Test.YtfjbabacpnnjmaaAv9
set_option linter.unusedVariables false
set_option linter.unusedSimpArgs false
set_option linter.deprecated false
namespace Go.Proofs.Ytfjbabacpnnjmaa.Av
open Go Go.Av
set_option maxRecDepth 20000
set_option maxHeartbeats 4000000

attribute [local go_sem] step_apply stepD_apply stepE_apply
attribute [local go_sem] aopq_mv aopq_pk aopq_al aopq_bx aopq_bd aopq_bs aopq_ld aopq_st aopq_nc aopq_bin aopq_un aopq_cv aopq_mi aopq_mf aopq_mm aopq_ms aopq_sc aopq_fa aopq_fl aopq_ia aopq_lk aopq_mu aopq_lm aopq_rg aopq_en aopq_ta aopq_ex aopq_ln aopq_ap aopq_mx aopq.eq_3 aop.eq_1 aop.eq_2 aop.eq_3 aop.eq_4 aop.eq_5 aop.eq_6 aop.eq_7 aop.eq_8 aop.eq_9 aop_bin atS_apply aop_un_not aop_un_neg aop.eq_14 aop.eq_15 aop.eq_16 aop.eq_17 aop.eq_18 aop_sc cutS_apply cutN_apply cutL_apply cutO_apply aop.eq_20 aop.eq_21 aop.eq_22 aop.eq_23 aop.eq_24 aop.eq_25 aop.eq_26 aop.eq_27 aop.eq_28 aop.eq_29 aop.eq_30 aop.eq_31 aop.eq_32 blk_push next_push blk_set next_set blk_kill next_kill frL_nil frL_cons Fits_nil Fits_cons Int.reduceBEq Int.reduceBNe Nat.sub_zero Option.map_some Option.map_none List.set_cons_succ true_or or_true false_or or_false Int.le_refl Int.cast_ofNat_Int decide_true decide_false List.cons_append fillA fillR rowsOf List.replicate_succ List.replicate_zero Nat.zero_mul getD_drop List.length_drop splice List.nil_append List.append_nil cond_true cond_false List.set_cons_zero List.length_set ev put_some put_none upd_apply abin asNat bounds row1 mk List.length_cons List.length_nil List.length_map List.drop_zero List.drop_succ_cons List.drop_nil List.getD_cons_zero List.getD_cons_succ Option.getD_none Option.getD_some List.take_succ_cons List.take_zero List.take_nil true_and and_true Int.toNat_natCast if_true if_false Nat.zero_add Nat.add_zero List.map_cons List.map_nil Nat.reduceEqDiff Nat.left_eq_add Nat.add_eq_left Nat.add_left_cancel_iff Nat.add_assoc Nat.reduceSub Nat.reduceAdd Nat.reduceLeDiff Nat.le_refl Nat.zero_le Nat.zero_lt_one Nat.lt_add_one Int.reduceLT Int.reduceLE Int.reduceToNat Nat.reduceLT Nat.reduceBEq Bool.false_eq_true Nat.reduceBNe ne_eq not_false_eq_true not_true_eq_false false_and and_false reduceIte Int.natCast_nonneg reduceCtorEq parts_agg parts_bool parts_int parts_str parts_lit parts_nils parts_sl parts_ptr Int.natCast_nonneg Int.natCast_nonneg beq_self_eq_true bne_self_eq_false Bool.true_and Bool.false_and Bool.and_true Bool.and_false Bool.true_or Bool.false_or Bool.or_true Bool.or_false Bool.not_true Bool.not_false
attribute [local go_sem] instr0 instr1 instr2 instr10 instr11 instr12 instrN instrA instr_len node0 node1 node2 node3 node4 node5 node6 nodeA node_len I ints progA progsA

def okMesh (s : List Int) (i : Nat) : Bool := decide (1 ≤ s.getD i 0) && decide (s.getD i 0 ≤ 8) && decide (i < 3)
def meshB (s : List Int) : Bool := (List.range s.length).all (okMesh s) && decide (prodI s ≤ 8)
def devE (s : List Int) : Int := if meshB s = true then prodI s else 0
theorem mesh_bound {s : List Int} : ∀ i, i ≤ s.length → (List.range i).all (okMesh s) = true → i ≤ 3 ∧ 1 ≤ prodI (s.take i) ∧ prodI (s.take i) ≤ 8 ^ i
  | 0, _, _ => by simp [prodI]
  | i + 1, hi, h => by
    rw [List.range_succ, List.all_append, Bool.and_eq_true] at h
    obtain ⟨h1, h2, h3⟩ := mesh_bound i (by omega) h.1
    have h4 : okMesh s i = true := by simpa using h.2
    simp only [okMesh, Bool.and_eq_true, decide_eq_true_eq] at h4
    have hs : s.getD i 0 = s[i] := by simp [List.getD_eq_getElem?_getD, show i < s.length by omega]
    rw [hs] at h4
    rw [prodI_take (by omega)]
    refine ⟨by omega, ?_, ?_⟩
    · have := Int.mul_le_mul h2 h4.1.1 (by omega) (by omega : (0 : Int) ≤ prodI (s.take i)); omega
    · rw [Int.pow_succ]
      exact Int.mul_le_mul h3 h4.1.2 (by omega) (Int.pow_nonneg (by decide))
theorem mesh_bad {s : List Int} {i : Nat} (hi : i < s.length) (h : okMesh s i = false) : meshB s = false := by
  simp only [meshB, Bool.and_eq_false_iff]
  refine .inl (Bool.eq_false_iff.2 fun hall => ?_)
  rw [List.all_eq_true] at hall
  have := hall i (by simpa using hi)
  rw [this] at h; cases h
theorem mesh_mul {s : List Int} {i : Nat} (hi : i < s.length) (ha : (List.range (i + 1)).all (okMesh s) = true) : IntKind.i64.wrap (prodI (s.take i) * s.getD i 0) = prodI (s.take (i + 1)) := by
  have hsi : s.getD i 0 = s[i] := by simp [List.getD_eq_getElem?_getD, hi]
  have b4 := mesh_bound (i + 1) (by omega) ha
  have b5 : (8 : Int) ^ (i + 1) ≤ 8 ^ 3 := by
    rcases (by omega : i = 0 ∨ i = 1 ∨ i = 2) with rfl | rfl | rfl <;> decide
  rw [prodI_take hi, ← hsi, IntWalk.i64_in]
  rw [prodI_take hi, ← hsi] at b4; omega
theorem devE_in (s : List Int) : 0 ≤ devE s ∧ devE s ≤ 8 ∧ (meshB s = true → 1 ≤ devE s) := by
  unfold devE; split
  · rename_i h
    simp only [meshB, Bool.and_eq_true, decide_eq_true_eq] at h
    have := mesh_bound s.length (Nat.le_refl _) h.1
    rw [List.take_length] at this
    exact ⟨by omega, h.2, fun _ => this.2.1⟩
  · rename_i h; exact ⟨by omega, by omega, fun h' => absurd h' h⟩
theorem mesh_all {s : List Int} (h : meshB s = true) : (List.range s.length).all (okMesh s) = true := by
  simp only [meshB, Bool.and_eq_true] at h; exact h.1
theorem all_le {s : List Int} {f : Nat → Bool} {n i : Nat} (h : (List.range n).all f = true) (hi : i ≤ n) : (List.range i).all f = true := by
  rw [List.all_eq_true] at h ⊢
  intro j hj
  exact h j (List.mem_range.2 (by have := List.mem_range.1 hj; omega))

/-- parquetryref14.Right -/
theorem meshRef_spec (s : List Int) (σ : St) : T Try.prog 114 [ints s] σ (.bool (meshB s)) σ := by
  refine in114 (by simp) fun wf hab => ?_
  have hl := hab_ints (hab 0 (by simp))
  clear hab
  unfold c114
  first | refine .seq (.rg fun A hA K hK => ?_) | refine .seq (.seq (.rg fun A hA K hK => ?_)) | refine .rg fun A hA K hK => ?_ | refine .seq (.rd fun A hA K hK => ?_) | refine .seq (.seq (.rd fun A hA K hK => ?_)) | refine .rd fun A hA K hK => ?_
  simp (maxSteps := 1000000) only [go_sem, hA.nil, hA.go, hA.yes, hA.noT, hA.noF, hA.skp]
  refine hK _ _ ?_; clear hK K hA A
  first | refine .seq (.rg fun A hA K hK => ?_) | refine .seq (.seq (.rg fun A hA K hK => ?_)) | refine .rg fun A hA K hK => ?_ | refine .seq (.rd fun A hA K hK => ?_) | refine .seq (.seq (.rd fun A hA K hK => ?_)) | refine .rd fun A hA K hK => ?_
  simp (maxSteps := 1000000) only [go_sem, hA.nil, hA.go, hA.yes, hA.noT, hA.noF, hA.skp]
  refine hK _ _ ?_; clear hK K hA A
  first | refine .seq (.rg fun A hA K hK => ?_) | refine .seq (.seq (.rg fun A hA K hK => ?_)) | refine .rg fun A hA K hK => ?_ | refine .seq (.rd fun A hA K hK => ?_) | refine .seq (.seq (.rd fun A hA K hK => ?_)) | refine .rd fun A hA K hK => ?_
  simp (maxSteps := 1000000) only [go_sem, hA.nil, hA.go, hA.yes, hA.noT, hA.noF, hA.skp]
  refine hK _ _ ?_; clear hK K hA A
  refine .rangeK (N := s.length) (fun i L t => L = [(0, ints s), (3, I (prodI (s.take i))), (6, I s.length), (7, I i)] ∧ σ = t ∧ (List.range i).all (okMesh s) = true) hl
    ⟨_, ⟨rfl, rfl, by simp⟩, by simp (maxSteps := 1000000) only [go_sem, prodI, List.foldl_nil]; try rfl⟩ ?_ ?_ ?_
  · rintro i L t ⟨rfl, _⟩
    exact ⟨by simp (maxSteps := 1000000) only [go_sem], by simp (maxSteps := 1000000) only [go_sem], rfl⟩
  · rintro i L t hi ⟨rfl, rfl, ha⟩
    have e0 : (i : Int) < s.length := by omega
    have hg : (s.map fun n => [I n]).getD i [] = [I (s.getD i 0)] := by rw [ints_get hi]; simp [List.getD_eq_getElem?_getD, hi]
    first | refine .seq (.rg fun A hA K hK => ?_) | refine .seq (.seq (.rg fun A hA K hK => ?_)) | refine .rg fun A hA K hK => ?_ | refine .seq (.rd fun A hA K hK => ?_) | refine .seq (.seq (.rd fun A hA K hK => ?_)) | refine .rd fun A hA K hK => ?_
    simp (maxSteps := 1000000) only [go_sem, hA.nil, hA.go, hA.yes, hA.noT, hA.noF, hA.skp]
    refine hK _ _ ?_; clear hK K hA A
    refine .midK (fun L t => L = [(0, ints s), (3, I (prodI (s.take i))), (4, I i), (6, I s.length), (7, I i)] ∧ σ = t ∧ okMesh s i = true) ?_ ?_
    · by_cases h3 : (i : Int) ≥ 3
      · have hb := mesh_bad hi (by simp only [okMesh, Bool.and_eq_false_iff, decide_eq_false_iff_not]; omega)
        first | refine .seq (.rg fun A hA K hK => ?_) | refine .seq (.seq (.rg fun A hA K hK => ?_)) | refine .rg fun A hA K hK => ?_ | refine .seq (.rd fun A hA K hK => ?_) | refine .seq (.seq (.rd fun A hA K hK => ?_)) | refine .rd fun A hA K hK => ?_
        simp (maxSteps := 1000000) only [go_sem, hA.nil, hA.go, hA.yes, hA.noT, hA.noF, hA.skp, e0, hg, h3]
        refine hK _ _ ?_; clear hK K hA A
        refine .cond (t := true) (by simp (maxSteps := 1000000) only [go_sem]) (fun _ => ?_) (fun h => by cases h)
        first | refine .seq (.rg fun A hA K hK => ?_) | refine .seq (.seq (.rg fun A hA K hK => ?_)) | refine .rg fun A hA K hK => ?_ | refine .seq (.rd fun A hA K hK => ?_) | refine .seq (.seq (.rd fun A hA K hK => ?_)) | refine .rd fun A hA K hK => ?_
        simp (maxSteps := 1000000) only [go_sem, hA.nil, hA.go, hA.yes, hA.noT, hA.noF, hA.skp]
        refine hK _ _ ?_; clear hK K hA A
        exact .ret (ret1 (by simp (maxSteps := 1000000) only [go_sem, hb]) rfl)
      · by_cases h1 : s.getD i 0 < 1
        · have hb := mesh_bad hi (by simp only [okMesh, Bool.and_eq_false_iff, decide_eq_false_iff_not]; omega)
          first | refine .seq (.rg fun A hA K hK => ?_) | refine .seq (.seq (.rg fun A hA K hK => ?_)) | refine .rg fun A hA K hK => ?_ | refine .seq (.rd fun A hA K hK => ?_) | refine .seq (.seq (.rd fun A hA K hK => ?_)) | refine .rd fun A hA K hK => ?_
          simp (maxSteps := 1000000) only [go_sem, hA.nil, hA.go, hA.yes, hA.noT, hA.noF, hA.skp, e0, hg, h1, h3]
          refine hK _ _ ?_; clear hK K hA A
          refine .cond (t := true) (by simp (maxSteps := 1000000) only [go_sem]) (fun _ => ?_) (fun h => by cases h)
          first | refine .seq (.rg fun A hA K hK => ?_) | refine .seq (.seq (.rg fun A hA K hK => ?_)) | refine .rg fun A hA K hK => ?_ | refine .seq (.rd fun A hA K hK => ?_) | refine .seq (.seq (.rd fun A hA K hK => ?_)) | refine .rd fun A hA K hK => ?_
          simp (maxSteps := 1000000) only [go_sem, hA.nil, hA.go, hA.yes, hA.noT, hA.noF, hA.skp]
          refine hK _ _ ?_; clear hK K hA A
          exact .ret (ret1 (by simp (maxSteps := 1000000) only [go_sem, hb]) rfl)
        · by_cases h2 : s.getD i 0 > 8
          · have hb := mesh_bad hi (by simp only [okMesh, Bool.and_eq_false_iff, decide_eq_false_iff_not]; omega)
            first | refine .seq (.rg fun A hA K hK => ?_) | refine .seq (.seq (.rg fun A hA K hK => ?_)) | refine .rg fun A hA K hK => ?_ | refine .seq (.rd fun A hA K hK => ?_) | refine .seq (.seq (.rd fun A hA K hK => ?_)) | refine .rd fun A hA K hK => ?_
            simp (maxSteps := 1000000) only [go_sem, hA.nil, hA.go, hA.yes, hA.noT, hA.noF, hA.skp, e0, hg, h1, h2, h3]
            refine hK _ _ ?_; clear hK K hA A
            refine .cond (t := true) (by simp (maxSteps := 1000000) only [go_sem]) (fun _ => ?_) (fun h => by cases h)
            first | refine .seq (.rg fun A hA K hK => ?_) | refine .seq (.seq (.rg fun A hA K hK => ?_)) | refine .rg fun A hA K hK => ?_ | refine .seq (.rd fun A hA K hK => ?_) | refine .seq (.seq (.rd fun A hA K hK => ?_)) | refine .rd fun A hA K hK => ?_
            simp (maxSteps := 1000000) only [go_sem, hA.nil, hA.go, hA.yes, hA.noT, hA.noF, hA.skp]
            refine hK _ _ ?_; clear hK K hA A
            exact .ret (ret1 (by simp (maxSteps := 1000000) only [go_sem, hb]) rfl)
          · first | refine .seq (.rg fun A hA K hK => ?_) | refine .seq (.seq (.rg fun A hA K hK => ?_)) | refine .rg fun A hA K hK => ?_ | refine .seq (.rd fun A hA K hK => ?_) | refine .seq (.seq (.rd fun A hA K hK => ?_)) | refine .rd fun A hA K hK => ?_
            simp (maxSteps := 1000000) only [go_sem, hA.nil, hA.go, hA.yes, hA.noT, hA.noF, hA.skp, e0, hg, h1, h2, h3]
            refine hK _ _ ?_; clear hK K hA A
            refine .cond (t := false) (by simp (maxSteps := 1000000) only [go_sem]) (fun h => by cases h) (fun _ => .skip ?_)
            exact ⟨_, ⟨rfl, rfl, by simp only [okMesh, Bool.and_eq_true, decide_eq_true_eq]; omega⟩, by simp (maxSteps := 1000000) only [go_sem]⟩
    · rintro L t ⟨rfl, rfl, hok⟩
      have ha' : (List.range (i + 1)).all (okMesh s) = true := by rw [List.range_succ, List.all_append, ha]; simpa using hok
      have w1 := mesh_mul hi ha'
      first | refine .seq (.rg fun A hA K hK => ?_) | refine .seq (.seq (.rg fun A hA K hK => ?_)) | refine .rg fun A hA K hK => ?_ | refine .seq (.rd fun A hA K hK => ?_) | refine .seq (.seq (.rd fun A hA K hK => ?_)) | refine .rd fun A hA K hK => ?_
      simp (maxSteps := 1000000) only [go_sem, hA.nil, hA.go, hA.yes, hA.noT, hA.noF, hA.skp, e0, hg, w1]
      refine hK _ _ ?_; clear hK K hA A
      exact ⟨by simp (maxSteps := 1000000) only [go_sem], _, ⟨rfl, rfl, ha'⟩, by simp (maxSteps := 1000000) only [go_sem]; try rfl⟩
  · rintro L t F ⟨rfl, rfl, ha⟩ hf
    simp (maxSteps := 1000000) only [go_sem] at hf
    rw [List.take_length] at hf
    have hr : meshB s = decide (prodI s ≤ 8) := by rw [meshB, ha]; rfl
    first | refine .seq (.rg fun A hA K hK => ?_) | refine .seq (.seq (.rg fun A hA K hK => ?_)) | refine .rg fun A hA K hK => ?_ | refine .seq (.rd fun A hA K hK => ?_) | refine .seq (.seq (.rd fun A hA K hK => ?_)) | refine .rd fun A hA K hK => ?_
    simp (maxSteps := 1000000) only [go_sem, hA.nil, hA.go, hA.yes, hA.noT, hA.noF, hA.skp, hf]
    refine hK _ _ ?_; clear hK K hA A
    exact .ret (ret1 (by simp (maxSteps := 1000000) only [go_sem, hr]) rfl)

/-- parquetryref14.Devices -/
theorem devRef_spec (s : List Int) (σ : St) : T Try.prog 86 [ints s] σ (I (devE s)) σ := by
  refine in86 (by simp) fun wf hab => ?_
  have hl := hab_ints (hab 0 (by simp))
  clear hab
  unfold c86
  first | refine .seq (.rg fun A hA K hK => ?_) | refine .seq (.seq (.rg fun A hA K hK => ?_)) | refine .rg fun A hA K hK => ?_ | refine .seq (.rd fun A hA K hK => ?_) | refine .seq (.seq (.rd fun A hA K hK => ?_)) | refine .rd fun A hA K hK => ?_
  simp (maxSteps := 1000000) only [go_sem, hA.nil, hA.go, hA.yes, hA.noT, hA.noF, hA.skp]
  refine hK _ _ ?_; clear hK K hA A
  first | refine .seq (.rg fun A hA K hK => ?_) | refine .seq (.seq (.rg fun A hA K hK => ?_)) | refine .rg fun A hA K hK => ?_ | refine .seq (.rd fun A hA K hK => ?_) | refine .seq (.seq (.rd fun A hA K hK => ?_)) | refine .rd fun A hA K hK => ?_
  simp (maxSteps := 1000000) only [go_sem, hA.nil, hA.go, hA.yes, hA.noT, hA.noF, hA.skp]
  first | refine aopq_call (meshRef_spec s _) (by simp (maxSteps := 1000000) only [go_sem]) ?_ | refine aop_call (meshRef_spec s _) (by simp (maxSteps := 1000000) only [go_sem]) ?_
  try simp (maxSteps := 1000000) only [go_sem, hA.nil, hA.go, hA.yes, hA.noT, hA.noF, hA.skp]
  refine hK _ _ ?_; clear hK K hA A
  refine .cond (t := !meshB s) (by simp (maxSteps := 1000000) only [go_sem]) (fun ht => ?_) (fun ht => .skip ?_)
  · have hs : devE s = 0 := if_neg (by intro h; rw [h] at ht; cases ht)
    first | refine .seq (.rg fun A hA K hK => ?_) | refine .seq (.seq (.rg fun A hA K hK => ?_)) | refine .rg fun A hA K hK => ?_ | refine .seq (.rd fun A hA K hK => ?_) | refine .seq (.seq (.rd fun A hA K hK => ?_)) | refine .rd fun A hA K hK => ?_
    simp (maxSteps := 1000000) only [go_sem, hA.nil, hA.go, hA.yes, hA.noT, hA.noF, hA.skp]
    refine hK _ _ ?_; clear hK K hA A
    exact .ret (ret1 (by simp (maxSteps := 1000000) only [go_sem, hs]) rfl)
  have hr : meshB s = true := by simpa using ht
  have hs : devE s = prodI s := if_pos hr
  have ha := mesh_all hr
  first | refine .seq (.rg fun A hA K hK => ?_) | refine .seq (.seq (.rg fun A hA K hK => ?_)) | refine .rg fun A hA K hK => ?_ | refine .seq (.rd fun A hA K hK => ?_) | refine .seq (.seq (.rd fun A hA K hK => ?_)) | refine .rd fun A hA K hK => ?_
  simp (maxSteps := 1000000) only [go_sem, hA.nil, hA.go, hA.yes, hA.noT, hA.noF, hA.skp]
  refine hK _ _ ?_; clear hK K hA A
  first | refine .seq (.rg fun A hA K hK => ?_) | refine .seq (.seq (.rg fun A hA K hK => ?_)) | refine .rg fun A hA K hK => ?_ | refine .seq (.rd fun A hA K hK => ?_) | refine .seq (.seq (.rd fun A hA K hK => ?_)) | refine .rd fun A hA K hK => ?_
  simp (maxSteps := 1000000) only [go_sem, hA.nil, hA.go, hA.yes, hA.noT, hA.noF, hA.skp]
  refine hK _ _ ?_; clear hK K hA A
  refine .rangeK (N := s.length) (fun i L t => L = [(0, ints s), (3, I (prodI (s.take i))), (9, I s.length), (10, I i)] ∧ σ = t) hl
    ⟨_, ⟨rfl, rfl⟩, by simp (maxSteps := 1000000) only [go_sem, prodI, List.foldl_nil]; try rfl⟩ ?_ ?_ ?_
  · rintro i L t ⟨rfl, _⟩
    exact ⟨by simp (maxSteps := 1000000) only [go_sem], by simp (maxSteps := 1000000) only [go_sem], rfl⟩
  · rintro i L t hi ⟨rfl, rfl⟩
    have e0 : (i : Int) < s.length := by omega
    have hg : (s.map fun n => [I n]).getD i [] = [I (s.getD i 0)] := by rw [ints_get hi]; simp [List.getD_eq_getElem?_getD, hi]
    have w1 := mesh_mul hi (all_le (s := s) ha (by omega))
    first | refine .seq (.rg fun A hA K hK => ?_) | refine .seq (.seq (.rg fun A hA K hK => ?_)) | refine .rg fun A hA K hK => ?_ | refine .seq (.rd fun A hA K hK => ?_) | refine .seq (.seq (.rd fun A hA K hK => ?_)) | refine .rd fun A hA K hK => ?_
    simp (maxSteps := 1000000) only [go_sem, hA.nil, hA.go, hA.yes, hA.noT, hA.noF, hA.skp]
    refine hK _ _ ?_; clear hK K hA A
    first | refine .seq (.rg fun A hA K hK => ?_) | refine .seq (.seq (.rg fun A hA K hK => ?_)) | refine .rg fun A hA K hK => ?_ | refine .seq (.rd fun A hA K hK => ?_) | refine .seq (.seq (.rd fun A hA K hK => ?_)) | refine .rd fun A hA K hK => ?_
    simp (maxSteps := 1000000) only [go_sem, hA.nil, hA.go, hA.yes, hA.noT, hA.noF, hA.skp, e0, hg, w1]
    refine hK _ _ ?_; clear hK K hA A
    exact ⟨by simp (maxSteps := 1000000) only [go_sem], _, ⟨rfl, rfl⟩, by simp (maxSteps := 1000000) only [go_sem]; try rfl⟩
  · rintro L t F ⟨rfl, rfl⟩ hf
    simp (maxSteps := 1000000) only [go_sem] at hf
    rw [List.take_length] at hf
    first | refine .seq (.rg fun A hA K hK => ?_) | refine .seq (.seq (.rg fun A hA K hK => ?_)) | refine .rg fun A hA K hK => ?_ | refine .seq (.rd fun A hA K hK => ?_) | refine .seq (.seq (.rd fun A hA K hK => ?_)) | refine .rd fun A hA K hK => ?_
    simp (maxSteps := 1000000) only [go_sem, hA.nil, hA.go, hA.yes, hA.noT, hA.noF, hA.skp, hf]
    refine hK _ _ ?_; clear hK K hA A
    exact .ret (ret1 (by simp (maxSteps := 1000000) only [go_sem, hs]) rfl)

/-- mesh.Right -/
theorem mesh_spec (s : List Int) (σ : St) : T Try.prog 131 [ints s] σ (.bool (meshB s)) σ := by
  refine in131 (by simp) fun wf hab => ?_
  have hl := hab_ints (hab 0 (by simp))
  clear hab
  unfold c131
  by_cases h3 : (s.length : Int) > 3
  · have hb : meshB s = false := mesh_bad (i := 3) (by omega) (by simp [okMesh])
    first | refine .seq (.rg fun A hA K hK => ?_) | refine .seq (.seq (.rg fun A hA K hK => ?_)) | refine .rg fun A hA K hK => ?_ | refine .seq (.rd fun A hA K hK => ?_) | refine .seq (.seq (.rd fun A hA K hK => ?_)) | refine .rd fun A hA K hK => ?_
    simp (maxSteps := 1000000) only [go_sem, hA.nil, hA.go, hA.yes, hA.noT, hA.noF, hA.skp]
    refine hK _ _ ?_; clear hK K hA A
    first | refine .seq (.rg fun A hA K hK => ?_) | refine .seq (.seq (.rg fun A hA K hK => ?_)) | refine .rg fun A hA K hK => ?_ | refine .seq (.rd fun A hA K hK => ?_) | refine .seq (.seq (.rd fun A hA K hK => ?_)) | refine .rd fun A hA K hK => ?_
    simp (maxSteps := 1000000) only [go_sem, hA.nil, hA.go, hA.yes, hA.noT, hA.noF, hA.skp, h3]
    refine hK _ _ ?_; clear hK K hA A
    refine .cond (t := true) (by simp (maxSteps := 1000000) only [go_sem, h3]) (fun _ => ?_) (fun h => by cases h)
    first | refine .seq (.rg fun A hA K hK => ?_) | refine .seq (.seq (.rg fun A hA K hK => ?_)) | refine .rg fun A hA K hK => ?_ | refine .seq (.rd fun A hA K hK => ?_) | refine .seq (.seq (.rd fun A hA K hK => ?_)) | refine .rd fun A hA K hK => ?_
    simp (maxSteps := 1000000) only [go_sem, hA.nil, hA.go, hA.yes, hA.noT, hA.noF, hA.skp]
    refine hK _ _ ?_; clear hK K hA A
    exact .ret (ret1 (by simp (maxSteps := 1000000) only [go_sem, hb]) rfl)
  first | refine .seq (.rg fun A hA K hK => ?_) | refine .seq (.seq (.rg fun A hA K hK => ?_)) | refine .rg fun A hA K hK => ?_ | refine .seq (.rd fun A hA K hK => ?_) | refine .seq (.seq (.rd fun A hA K hK => ?_)) | refine .rd fun A hA K hK => ?_
  simp (maxSteps := 1000000) only [go_sem, hA.nil, hA.go, hA.yes, hA.noT, hA.noF, hA.skp]
  refine hK _ _ ?_; clear hK K hA A
  first | refine .seq (.rg fun A hA K hK => ?_) | refine .seq (.seq (.rg fun A hA K hK => ?_)) | refine .rg fun A hA K hK => ?_ | refine .seq (.rd fun A hA K hK => ?_) | refine .seq (.seq (.rd fun A hA K hK => ?_)) | refine .rd fun A hA K hK => ?_
  simp (maxSteps := 1000000) only [go_sem, hA.nil, hA.go, hA.yes, hA.noT, hA.noF, hA.skp, h3]
  refine hK _ _ ?_; clear hK K hA A
  refine .cond (t := false) (by simp (maxSteps := 1000000) only [go_sem, h3]) (fun h => by cases h) (fun _ => .skip ?_)
  first | refine .seq (.rg fun A hA K hK => ?_) | refine .seq (.seq (.rg fun A hA K hK => ?_)) | refine .rg fun A hA K hK => ?_ | refine .seq (.rd fun A hA K hK => ?_) | refine .seq (.seq (.rd fun A hA K hK => ?_)) | refine .rd fun A hA K hK => ?_
  simp (maxSteps := 1000000) only [go_sem, hA.nil, hA.go, hA.yes, hA.noT, hA.noF, hA.skp]
  refine hK _ _ ?_; clear hK K hA A
  first | refine .seq (.rg fun A hA K hK => ?_) | refine .seq (.seq (.rg fun A hA K hK => ?_)) | refine .rg fun A hA K hK => ?_ | refine .seq (.rd fun A hA K hK => ?_) | refine .seq (.seq (.rd fun A hA K hK => ?_)) | refine .rd fun A hA K hK => ?_
  simp (maxSteps := 1000000) only [go_sem, hA.nil, hA.go, hA.yes, hA.noT, hA.noF, hA.skp]
  refine hK _ _ ?_; clear hK K hA A
  refine .rangeK (N := s.length) (fun i L t => L = [(3, I (prodI (s.take i))), (9, ints s), (10, I s.length), (11, I i)] ∧ σ = t ∧ (List.range i).all (okMesh s) = true) hl
    ⟨_, ⟨rfl, rfl, by simp⟩, by simp (maxSteps := 1000000) only [go_sem, prodI, List.foldl_nil]; try rfl⟩ ?_ ?_ ?_
  · rintro i L t ⟨rfl, _⟩
    exact ⟨by simp (maxSteps := 1000000) only [go_sem], by simp (maxSteps := 1000000) only [go_sem], rfl⟩
  · rintro i L t hi ⟨rfl, rfl, ha⟩
    have e0 : (i : Int) < s.length := by omega
    have hg : (s.map fun n => [I n]).getD i [] = [I (s.getD i 0)] := by rw [ints_get hi]; simp [List.getD_eq_getElem?_getD, hi]
    first | refine .seq (.rg fun A hA K hK => ?_) | refine .seq (.seq (.rg fun A hA K hK => ?_)) | refine .rg fun A hA K hK => ?_ | refine .seq (.rd fun A hA K hK => ?_) | refine .seq (.seq (.rd fun A hA K hK => ?_)) | refine .rd fun A hA K hK => ?_
    simp (maxSteps := 1000000) only [go_sem, hA.nil, hA.go, hA.yes, hA.noT, hA.noF, hA.skp, e0, hg]
    refine hK _ _ ?_; clear hK K hA A
    refine .midK (fun L t => L = [(3, I (prodI (s.take i))), (5, I (s.getD i 0)), (9, ints s), (10, I s.length), (11, I i)] ∧ σ = t ∧ okMesh s i = true) ?_ ?_
    · by_cases h1 : s.getD i 0 < 1
      · have hb := mesh_bad hi (by simp only [okMesh, Bool.and_eq_false_iff, decide_eq_false_iff_not]; omega)
        first | refine .seq (.rg fun A hA K hK => ?_) | refine .seq (.seq (.rg fun A hA K hK => ?_)) | refine .rg fun A hA K hK => ?_ | refine .seq (.rd fun A hA K hK => ?_) | refine .seq (.seq (.rd fun A hA K hK => ?_)) | refine .rd fun A hA K hK => ?_
        simp (maxSteps := 1000000) only [go_sem, hA.nil, hA.go, hA.yes, hA.noT, hA.noF, hA.skp, h1]
        refine hK _ _ ?_; clear hK K hA A
        refine .cond (t := true) (by simp (maxSteps := 1000000) only [go_sem]) (fun _ => ?_) (fun h => by cases h)
        first | refine .seq (.rg fun A hA K hK => ?_) | refine .seq (.seq (.rg fun A hA K hK => ?_)) | refine .rg fun A hA K hK => ?_ | refine .seq (.rd fun A hA K hK => ?_) | refine .seq (.seq (.rd fun A hA K hK => ?_)) | refine .rd fun A hA K hK => ?_
        simp (maxSteps := 1000000) only [go_sem, hA.nil, hA.go, hA.yes, hA.noT, hA.noF, hA.skp]
        refine hK _ _ ?_; clear hK K hA A
        exact .ret (ret1 (by simp (maxSteps := 1000000) only [go_sem, hb]) rfl)
      · by_cases h2 : s.getD i 0 > 8
        · have hb := mesh_bad hi (by simp only [okMesh, Bool.and_eq_false_iff, decide_eq_false_iff_not]; omega)
          first | refine .seq (.rg fun A hA K hK => ?_) | refine .seq (.seq (.rg fun A hA K hK => ?_)) | refine .rg fun A hA K hK => ?_ | refine .seq (.rd fun A hA K hK => ?_) | refine .seq (.seq (.rd fun A hA K hK => ?_)) | refine .rd fun A hA K hK => ?_
          simp (maxSteps := 1000000) only [go_sem, hA.nil, hA.go, hA.yes, hA.noT, hA.noF, hA.skp, h1, h2]
          refine hK _ _ ?_; clear hK K hA A
          refine .cond (t := true) (by simp (maxSteps := 1000000) only [go_sem]) (fun _ => ?_) (fun h => by cases h)
          first | refine .seq (.rg fun A hA K hK => ?_) | refine .seq (.seq (.rg fun A hA K hK => ?_)) | refine .rg fun A hA K hK => ?_ | refine .seq (.rd fun A hA K hK => ?_) | refine .seq (.seq (.rd fun A hA K hK => ?_)) | refine .rd fun A hA K hK => ?_
          simp (maxSteps := 1000000) only [go_sem, hA.nil, hA.go, hA.yes, hA.noT, hA.noF, hA.skp]
          refine hK _ _ ?_; clear hK K hA A
          exact .ret (ret1 (by simp (maxSteps := 1000000) only [go_sem, hb]) rfl)
        · first | refine .seq (.rg fun A hA K hK => ?_) | refine .seq (.seq (.rg fun A hA K hK => ?_)) | refine .rg fun A hA K hK => ?_ | refine .seq (.rd fun A hA K hK => ?_) | refine .seq (.seq (.rd fun A hA K hK => ?_)) | refine .rd fun A hA K hK => ?_
          simp (maxSteps := 1000000) only [go_sem, hA.nil, hA.go, hA.yes, hA.noT, hA.noF, hA.skp, h1, h2]
          refine hK _ _ ?_; clear hK K hA A
          refine .cond (t := false) (by simp (maxSteps := 1000000) only [go_sem]) (fun h => by cases h) (fun _ => .skip ?_)
          exact ⟨_, ⟨rfl, rfl, by simp only [okMesh, Bool.and_eq_true, decide_eq_true_eq]; omega⟩, by simp (maxSteps := 1000000) only [go_sem]⟩
    · rintro L t ⟨rfl, rfl, hok⟩
      have ha' : (List.range (i + 1)).all (okMesh s) = true := by rw [List.range_succ, List.all_append, ha]; simpa using hok
      have w1 := mesh_mul hi ha'
      first | refine .seq (.rg fun A hA K hK => ?_) | refine .seq (.seq (.rg fun A hA K hK => ?_)) | refine .rg fun A hA K hK => ?_ | refine .seq (.rd fun A hA K hK => ?_) | refine .seq (.seq (.rd fun A hA K hK => ?_)) | refine .rd fun A hA K hK => ?_
      simp (maxSteps := 1000000) only [go_sem, hA.nil, hA.go, hA.yes, hA.noT, hA.noF, hA.skp, w1]
      refine hK _ _ ?_; clear hK K hA A
      exact ⟨by simp (maxSteps := 1000000) only [go_sem], _, ⟨rfl, rfl, ha'⟩, by simp (maxSteps := 1000000) only [go_sem]; try rfl⟩
  · rintro L t F ⟨rfl, rfl, ha⟩ hf
    simp (maxSteps := 1000000) only [go_sem] at hf
    rw [List.take_length] at hf
    have hr : meshB s = decide (prodI s ≤ 8) := by rw [meshB, ha]; rfl
    first | refine .seq (.rg fun A hA K hK => ?_) | refine .seq (.seq (.rg fun A hA K hK => ?_)) | refine .rg fun A hA K hK => ?_ | refine .seq (.rd fun A hA K hK => ?_) | refine .seq (.seq (.rd fun A hA K hK => ?_)) | refine .rd fun A hA K hK => ?_
    simp (maxSteps := 1000000) only [go_sem, hA.nil, hA.go, hA.yes, hA.noT, hA.noF, hA.skp, hf]
    refine hK _ _ ?_; clear hK K hA A
    exact .ret (ret1 (by simp (maxSteps := 1000000) only [go_sem, hr]) rfl)

/-- mesh.Devices -/
theorem dev_spec (s : List Int) (σ : St) : T Try.prog 117 [ints s] σ (I (devE s)) σ := by
  refine in117 (by simp) fun wf hab => ?_
  have hl := hab_ints (hab 0 (by simp))
  clear hab
  unfold c117
  first | refine .seq (.rg fun A hA K hK => ?_) | refine .seq (.seq (.rg fun A hA K hK => ?_)) | refine .rg fun A hA K hK => ?_ | refine .seq (.rd fun A hA K hK => ?_) | refine .seq (.seq (.rd fun A hA K hK => ?_)) | refine .rd fun A hA K hK => ?_
  simp (maxSteps := 1000000) only [go_sem, hA.nil, hA.go, hA.yes, hA.noT, hA.noF, hA.skp]
  refine hK _ _ ?_; clear hK K hA A
  first | refine .seq (.rg fun A hA K hK => ?_) | refine .seq (.seq (.rg fun A hA K hK => ?_)) | refine .rg fun A hA K hK => ?_ | refine .seq (.rd fun A hA K hK => ?_) | refine .seq (.seq (.rd fun A hA K hK => ?_)) | refine .rd fun A hA K hK => ?_
  simp (maxSteps := 1000000) only [go_sem, hA.nil, hA.go, hA.yes, hA.noT, hA.noF, hA.skp]
  first | refine aopq_call (mesh_spec s _) (by simp (maxSteps := 1000000) only [go_sem]) ?_ | refine aop_call (mesh_spec s _) (by simp (maxSteps := 1000000) only [go_sem]) ?_
  try simp (maxSteps := 1000000) only [go_sem, hA.nil, hA.go, hA.yes, hA.noT, hA.noF, hA.skp]
  refine hK _ _ ?_; clear hK K hA A
  refine .cond (t := !meshB s) (by simp (maxSteps := 1000000) only [go_sem]) (fun ht => ?_) (fun ht => .skip ?_)
  · have hs : devE s = 0 := if_neg (by intro h; rw [h] at ht; cases ht)
    first | refine .seq (.rg fun A hA K hK => ?_) | refine .seq (.seq (.rg fun A hA K hK => ?_)) | refine .rg fun A hA K hK => ?_ | refine .seq (.rd fun A hA K hK => ?_) | refine .seq (.seq (.rd fun A hA K hK => ?_)) | refine .rd fun A hA K hK => ?_
    simp (maxSteps := 1000000) only [go_sem, hA.nil, hA.go, hA.yes, hA.noT, hA.noF, hA.skp]
    refine hK _ _ ?_; clear hK K hA A
    exact .ret (ret1 (by simp (maxSteps := 1000000) only [go_sem, hs]) rfl)
  have hr : meshB s = true := by simpa using ht
  have hs : devE s = prodI s := if_pos hr
  have ha := mesh_all hr
  first | refine .seq (.rg fun A hA K hK => ?_) | refine .seq (.seq (.rg fun A hA K hK => ?_)) | refine .rg fun A hA K hK => ?_ | refine .seq (.rd fun A hA K hK => ?_) | refine .seq (.seq (.rd fun A hA K hK => ?_)) | refine .rd fun A hA K hK => ?_
  simp (maxSteps := 1000000) only [go_sem, hA.nil, hA.go, hA.yes, hA.noT, hA.noF, hA.skp]
  refine hK _ _ ?_; clear hK K hA A
  first | refine .seq (.rg fun A hA K hK => ?_) | refine .seq (.seq (.rg fun A hA K hK => ?_)) | refine .rg fun A hA K hK => ?_ | refine .seq (.rd fun A hA K hK => ?_) | refine .seq (.seq (.rd fun A hA K hK => ?_)) | refine .rd fun A hA K hK => ?_
  simp (maxSteps := 1000000) only [go_sem, hA.nil, hA.go, hA.yes, hA.noT, hA.noF, hA.skp]
  refine hK _ _ ?_; clear hK K hA A
  refine .rangeK (N := s.length) (fun i L t => L = [(3, I (prodI (s.take i))), (9, ints s), (10, I s.length), (11, I i)] ∧ σ = t) hl
    ⟨_, ⟨rfl, rfl⟩, by simp (maxSteps := 1000000) only [go_sem, prodI, List.foldl_nil]; try rfl⟩ ?_ ?_ ?_
  · rintro i L t ⟨rfl, _⟩
    exact ⟨by simp (maxSteps := 1000000) only [go_sem], by simp (maxSteps := 1000000) only [go_sem], rfl⟩
  · rintro i L t hi ⟨rfl, rfl⟩
    have e0 : (i : Int) < s.length := by omega
    have hg : (s.map fun n => [I n]).getD i [] = [I (s.getD i 0)] := by rw [ints_get hi]; simp [List.getD_eq_getElem?_getD, hi]
    have w1 := mesh_mul hi (all_le (s := s) ha (by omega))
    first | refine .seq (.rg fun A hA K hK => ?_) | refine .seq (.seq (.rg fun A hA K hK => ?_)) | refine .rg fun A hA K hK => ?_ | refine .seq (.rd fun A hA K hK => ?_) | refine .seq (.seq (.rd fun A hA K hK => ?_)) | refine .rd fun A hA K hK => ?_
    simp (maxSteps := 1000000) only [go_sem, hA.nil, hA.go, hA.yes, hA.noT, hA.noF, hA.skp, e0, hg]
    refine hK _ _ ?_; clear hK K hA A
    first | refine .seq (.rg fun A hA K hK => ?_) | refine .seq (.seq (.rg fun A hA K hK => ?_)) | refine .rg fun A hA K hK => ?_ | refine .seq (.rd fun A hA K hK => ?_) | refine .seq (.seq (.rd fun A hA K hK => ?_)) | refine .rd fun A hA K hK => ?_
    simp (maxSteps := 1000000) only [go_sem, hA.nil, hA.go, hA.yes, hA.noT, hA.noF, hA.skp, w1]
    refine hK _ _ ?_; clear hK K hA A
    exact ⟨by simp (maxSteps := 1000000) only [go_sem], _, ⟨rfl, rfl⟩, by simp (maxSteps := 1000000) only [go_sem]; try rfl⟩
  · rintro L t F ⟨rfl, rfl⟩ hf
    simp (maxSteps := 1000000) only [go_sem] at hf
    rw [List.take_length] at hf
    first | refine .seq (.rg fun A hA K hK => ?_) | refine .seq (.seq (.rg fun A hA K hK => ?_)) | refine .rg fun A hA K hK => ?_ | refine .seq (.rd fun A hA K hK => ?_) | refine .seq (.seq (.rd fun A hA K hK => ?_)) | refine .rd fun A hA K hK => ?_
    simp (maxSteps := 1000000) only [go_sem, hA.nil, hA.go, hA.yes, hA.noT, hA.noF, hA.skp, hf]
    refine hK _ _ ?_; clear hK K hA A
    exact .ret (ret1 (by simp (maxSteps := 1000000) only [go_sem, hs]) rfl)

theorem shape_bad {s : List Int} {i : Nat} (hi : i < s.length) (h : okDim s i = false) : rightS s = false := by
  simp only [rightS, Bool.and_eq_false_iff]
  refine .inl (Bool.eq_false_iff.2 fun hall => ?_)
  rw [List.all_eq_true] at hall
  have := hall i (by simpa using hi)
  rw [this] at h; cases h
/-- shape.Right -/
theorem shape_spec (s : List Int) (σ : St) : T Try.prog 132 [ints s] σ (.bool (rightS s)) σ := by
  refine in132 (by simp) fun wf hab => ?_
  have hl := hab_ints (hab 0 (by simp))
  clear hab
  unfold c132
  by_cases h3 : (s.length : Int) > 4
  · have hb : rightS s = false := shape_bad (i := 4) (by omega) (by simp [okDim])
    first | refine .seq (.rg fun A hA K hK => ?_) | refine .seq (.seq (.rg fun A hA K hK => ?_)) | refine .rg fun A hA K hK => ?_ | refine .seq (.rd fun A hA K hK => ?_) | refine .seq (.seq (.rd fun A hA K hK => ?_)) | refine .rd fun A hA K hK => ?_
    simp (maxSteps := 1000000) only [go_sem, hA.nil, hA.go, hA.yes, hA.noT, hA.noF, hA.skp]
    refine hK _ _ ?_; clear hK K hA A
    first | refine .seq (.rg fun A hA K hK => ?_) | refine .seq (.seq (.rg fun A hA K hK => ?_)) | refine .rg fun A hA K hK => ?_ | refine .seq (.rd fun A hA K hK => ?_) | refine .seq (.seq (.rd fun A hA K hK => ?_)) | refine .rd fun A hA K hK => ?_
    simp (maxSteps := 1000000) only [go_sem, hA.nil, hA.go, hA.yes, hA.noT, hA.noF, hA.skp, h3]
    refine hK _ _ ?_; clear hK K hA A
    refine .cond (t := true) (by simp (maxSteps := 1000000) only [go_sem, h3]) (fun _ => ?_) (fun h => by cases h)
    first | refine .seq (.rg fun A hA K hK => ?_) | refine .seq (.seq (.rg fun A hA K hK => ?_)) | refine .rg fun A hA K hK => ?_ | refine .seq (.rd fun A hA K hK => ?_) | refine .seq (.seq (.rd fun A hA K hK => ?_)) | refine .rd fun A hA K hK => ?_
    simp (maxSteps := 1000000) only [go_sem, hA.nil, hA.go, hA.yes, hA.noT, hA.noF, hA.skp]
    refine hK _ _ ?_; clear hK K hA A
    exact .ret (ret1 (by simp (maxSteps := 1000000) only [go_sem, hb]) rfl)
  first | refine .seq (.rg fun A hA K hK => ?_) | refine .seq (.seq (.rg fun A hA K hK => ?_)) | refine .rg fun A hA K hK => ?_ | refine .seq (.rd fun A hA K hK => ?_) | refine .seq (.seq (.rd fun A hA K hK => ?_)) | refine .rd fun A hA K hK => ?_
  simp (maxSteps := 1000000) only [go_sem, hA.nil, hA.go, hA.yes, hA.noT, hA.noF, hA.skp]
  refine hK _ _ ?_; clear hK K hA A
  first | refine .seq (.rg fun A hA K hK => ?_) | refine .seq (.seq (.rg fun A hA K hK => ?_)) | refine .rg fun A hA K hK => ?_ | refine .seq (.rd fun A hA K hK => ?_) | refine .seq (.seq (.rd fun A hA K hK => ?_)) | refine .rd fun A hA K hK => ?_
  simp (maxSteps := 1000000) only [go_sem, hA.nil, hA.go, hA.yes, hA.noT, hA.noF, hA.skp, h3]
  refine hK _ _ ?_; clear hK K hA A
  refine .cond (t := false) (by simp (maxSteps := 1000000) only [go_sem, h3]) (fun h => by cases h) (fun _ => .skip ?_)
  first | refine .seq (.rg fun A hA K hK => ?_) | refine .seq (.seq (.rg fun A hA K hK => ?_)) | refine .rg fun A hA K hK => ?_ | refine .seq (.rd fun A hA K hK => ?_) | refine .seq (.seq (.rd fun A hA K hK => ?_)) | refine .rd fun A hA K hK => ?_
  simp (maxSteps := 1000000) only [go_sem, hA.nil, hA.go, hA.yes, hA.noT, hA.noF, hA.skp]
  refine hK _ _ ?_; clear hK K hA A
  first | refine .seq (.rg fun A hA K hK => ?_) | refine .seq (.seq (.rg fun A hA K hK => ?_)) | refine .rg fun A hA K hK => ?_ | refine .seq (.rd fun A hA K hK => ?_) | refine .seq (.seq (.rd fun A hA K hK => ?_)) | refine .rd fun A hA K hK => ?_
  simp (maxSteps := 1000000) only [go_sem, hA.nil, hA.go, hA.yes, hA.noT, hA.noF, hA.skp]
  refine hK _ _ ?_; clear hK K hA A
  refine .rangeK (N := s.length) (fun i L t => L = [(3, I (prodI (s.take i))), (9, ints s), (10, I s.length), (11, I i)] ∧ σ = t ∧ (List.range i).all (okDim s) = true) hl
    ⟨_, ⟨rfl, rfl, by simp⟩, by simp (maxSteps := 1000000) only [go_sem, prodI, List.foldl_nil]; try rfl⟩ ?_ ?_ ?_
  · rintro i L t ⟨rfl, _⟩
    exact ⟨by simp (maxSteps := 1000000) only [go_sem], by simp (maxSteps := 1000000) only [go_sem], rfl⟩
  · rintro i L t hi ⟨rfl, rfl, ha⟩
    have e0 : (i : Int) < s.length := by omega
    have hg : (s.map fun n => [I n]).getD i [] = [I (s.getD i 0)] := by rw [ints_get hi]; simp [List.getD_eq_getElem?_getD, hi]
    obtain ⟨b1, b2, b3⟩ := prodI_bound i (by omega) ha
    have hsi : s.getD i 0 = s[i] := by simp [List.getD_eq_getElem?_getD, hi]
    first | refine .seq (.rg fun A hA K hK => ?_) | refine .seq (.seq (.rg fun A hA K hK => ?_)) | refine .rg fun A hA K hK => ?_ | refine .seq (.rd fun A hA K hK => ?_) | refine .seq (.seq (.rd fun A hA K hK => ?_)) | refine .rd fun A hA K hK => ?_
    simp (maxSteps := 1000000) only [go_sem, hA.nil, hA.go, hA.yes, hA.noT, hA.noF, hA.skp, e0, hg]
    refine hK _ _ ?_; clear hK K hA A
    refine .midK (fun L t => L = [(3, I (prodI (s.take i))), (5, I (s.getD i 0)), (9, ints s), (10, I s.length), (11, I i)] ∧ σ = t ∧ okDim s i = true) ?_ ?_
    · by_cases h1 : s.getD i 0 < 0
      · have hb := shape_bad hi (by simp only [okDim, Bool.and_eq_false_iff, decide_eq_false_iff_not]; omega)
        first | refine .seq (.rg fun A hA K hK => ?_) | refine .seq (.seq (.rg fun A hA K hK => ?_)) | refine .rg fun A hA K hK => ?_ | refine .seq (.rd fun A hA K hK => ?_) | refine .seq (.seq (.rd fun A hA K hK => ?_)) | refine .rd fun A hA K hK => ?_
        simp (maxSteps := 1000000) only [go_sem, hA.nil, hA.go, hA.yes, hA.noT, hA.noF, hA.skp, h1]
        refine hK _ _ ?_; clear hK K hA A
        refine .cond (t := true) (by simp (maxSteps := 1000000) only [go_sem]) (fun _ => ?_) (fun h => by cases h)
        first | refine .seq (.rg fun A hA K hK => ?_) | refine .seq (.seq (.rg fun A hA K hK => ?_)) | refine .rg fun A hA K hK => ?_ | refine .seq (.rd fun A hA K hK => ?_) | refine .seq (.seq (.rd fun A hA K hK => ?_)) | refine .rd fun A hA K hK => ?_
        simp (maxSteps := 1000000) only [go_sem, hA.nil, hA.go, hA.yes, hA.noT, hA.noF, hA.skp]
        refine hK _ _ ?_; clear hK K hA A
        exact .ret (ret1 (by simp (maxSteps := 1000000) only [go_sem, hb]) rfl)
      · by_cases h2 : s.getD i 0 > 32
        · have hb := shape_bad hi (by simp only [okDim, Bool.and_eq_false_iff, decide_eq_false_iff_not]; omega)
          first | refine .seq (.rg fun A hA K hK => ?_) | refine .seq (.seq (.rg fun A hA K hK => ?_)) | refine .rg fun A hA K hK => ?_ | refine .seq (.rd fun A hA K hK => ?_) | refine .seq (.seq (.rd fun A hA K hK => ?_)) | refine .rd fun A hA K hK => ?_
          simp (maxSteps := 1000000) only [go_sem, hA.nil, hA.go, hA.yes, hA.noT, hA.noF, hA.skp, h1, h2]
          refine hK _ _ ?_; clear hK K hA A
          refine .cond (t := true) (by simp (maxSteps := 1000000) only [go_sem]) (fun _ => ?_) (fun h => by cases h)
          first | refine .seq (.rg fun A hA K hK => ?_) | refine .seq (.seq (.rg fun A hA K hK => ?_)) | refine .rg fun A hA K hK => ?_ | refine .seq (.rd fun A hA K hK => ?_) | refine .seq (.seq (.rd fun A hA K hK => ?_)) | refine .rd fun A hA K hK => ?_
          simp (maxSteps := 1000000) only [go_sem, hA.nil, hA.go, hA.yes, hA.noT, hA.noF, hA.skp]
          refine hK _ _ ?_; clear hK K hA A
          exact .ret (ret1 (by simp (maxSteps := 1000000) only [go_sem, hb]) rfl)
        · first | refine .seq (.rg fun A hA K hK => ?_) | refine .seq (.seq (.rg fun A hA K hK => ?_)) | refine .rg fun A hA K hK => ?_ | refine .seq (.rd fun A hA K hK => ?_) | refine .seq (.seq (.rd fun A hA K hK => ?_)) | refine .rd fun A hA K hK => ?_
          simp (maxSteps := 1000000) only [go_sem, hA.nil, hA.go, hA.yes, hA.noT, hA.noF, hA.skp, h1, h2]
          refine hK _ _ ?_; clear hK K hA A
          refine .cond (t := false) (by simp (maxSteps := 1000000) only [go_sem]) (fun h => by cases h) (fun _ => .skip ?_)
          exact ⟨_, ⟨rfl, rfl, by simp only [okDim, Bool.and_eq_true, decide_eq_true_eq]; omega⟩, by simp (maxSteps := 1000000) only [go_sem]⟩
    · rintro L t ⟨rfl, rfl, hok⟩
      have ha' : (List.range (i + 1)).all (okDim s) = true := by rw [List.range_succ, List.all_append, ha]; simpa using hok
      have b4 := prodI_bound (i + 1) (by omega) ha'
      have b5 : (32 : Int) ^ (i + 1) ≤ 32 ^ 4 := by
        rcases (by omega : i = 0 ∨ i = 1 ∨ i = 2 ∨ i = 3) with rfl | rfl | rfl | rfl <;> decide
      have w1 : IntKind.i64.wrap (prodI (s.take i) * s.getD i 0) = prodI (s.take (i + 1)) := by
        rw [prodI_take hi, ← hsi, IntWalk.i64_in]
        rw [prodI_take hi, ← hsi] at b4; omega
      first | refine .seq (.rg fun A hA K hK => ?_) | refine .seq (.seq (.rg fun A hA K hK => ?_)) | refine .rg fun A hA K hK => ?_ | refine .seq (.rd fun A hA K hK => ?_) | refine .seq (.seq (.rd fun A hA K hK => ?_)) | refine .rd fun A hA K hK => ?_
      simp (maxSteps := 1000000) only [go_sem, hA.nil, hA.go, hA.yes, hA.noT, hA.noF, hA.skp, w1]
      refine hK _ _ ?_; clear hK K hA A
      exact ⟨by simp (maxSteps := 1000000) only [go_sem], _, ⟨rfl, rfl, ha'⟩, by simp (maxSteps := 1000000) only [go_sem]; try rfl⟩
  · rintro L t F ⟨rfl, rfl, ha⟩ hf
    simp (maxSteps := 1000000) only [go_sem] at hf
    rw [List.take_length] at hf
    have hr : rightS s = decide (prodI s ≤ 4096) := by rw [rightS, ha]; rfl
    first | refine .seq (.rg fun A hA K hK => ?_) | refine .seq (.seq (.rg fun A hA K hK => ?_)) | refine .rg fun A hA K hK => ?_ | refine .seq (.rd fun A hA K hK => ?_) | refine .seq (.seq (.rd fun A hA K hK => ?_)) | refine .rd fun A hA K hK => ?_
    simp (maxSteps := 1000000) only [go_sem, hA.nil, hA.go, hA.yes, hA.noT, hA.noF, hA.skp, hf]
    refine hK _ _ ?_; clear hK K hA A
    exact .ret (ret1 (by simp (maxSteps := 1000000) only [go_sem, hr]) rfl)

def idxI (l : List Int) (x : Int) : Int := match l.findIdx? (fun y => x == y) with
  | some i => i
  | none => -1
theorem idx_at {l : List Int} {i : Nat} {x : Int} (hi : i < l.length) (hno : (l.take i).all (fun y => !(x == y)) = true) :
    ((x == l[i]) = true → idxI l x = i) ∧ ((x == l[i]) = false → (l.take (i + 1)).all (fun y => !(x == y)) = true) := by
  constructor
  · intro h
    have : l.findIdx? (fun y => x == y) = some i := by
      rw [List.findIdx?_eq_some_iff_getElem]
      refine ⟨hi, h, fun j hj => ?_⟩
      have := List.all_eq_true.1 hno l[j] (by rw [List.mem_take_iff_getElem]; exact ⟨j, by omega, rfl⟩)
      simpa using this
    simp only [idxI, this]
  · intro h
    rw [List.take_succ_eq_append_getElem hi, List.all_append, hno]
    simp [h]
theorem idx_none {l : List Int} {x : Int} (hno : (l.take l.length).all (fun y => !(x == y)) = true) : idxI l x = -1 := by
  rw [List.take_length] at hno
  have : l.findIdx? (fun y => x == y) = none := by
    rw [List.findIdx?_eq_none_iff]
    intro y hy
    have := List.all_eq_true.1 hno y hy
    simpa using this
  simp only [idxI, this]
theorem idx_contains (l : List Int) (x : Int) : decide (idxI l x ≥ 0) = l.contains x := by
  unfold idxI
  cases h : l.findIdx? (fun y => x == y) with
  | none =>
    rw [List.findIdx?_eq_none_iff] at h
    have : l.contains x = false := by
      rw [Bool.eq_false_iff]; intro hc
      have := h x (by simpa using hc)
      simp at this
    rw [this]; simp
  | some i =>
    obtain ⟨hi, h1, _⟩ := List.findIdx?_eq_some_iff_getElem.1 h
    have : l.contains x = true := by
      have e : x = l[i] := by simpa using h1
      rw [e]; simp
    rw [this]; simp
/-- slices.Index -/
theorem indexInt_spec (l : List Int) (x : Int) (σ : St) : T Try.prog 127 [ints l, I x] σ (I (idxI l x)) σ := by
  refine in127 (by simp) fun wf hab => ?_
  have hl := hab_ints (hab 0 (by simp))
  clear hab
  unfold c127
  first | refine .seq (.rg fun A hA K hK => ?_) | refine .seq (.seq (.rg fun A hA K hK => ?_)) | refine .rg fun A hA K hK => ?_ | refine .seq (.rd fun A hA K hK => ?_) | refine .seq (.seq (.rd fun A hA K hK => ?_)) | refine .rd fun A hA K hK => ?_
  simp (maxSteps := 1000000) only [go_sem, hA.nil, hA.go, hA.yes, hA.noT, hA.noF, hA.skp]
  refine hK _ _ ?_; clear hK K hA A
  first | refine .seq (.rg fun A hA K hK => ?_) | refine .seq (.seq (.rg fun A hA K hK => ?_)) | refine .rg fun A hA K hK => ?_ | refine .seq (.rd fun A hA K hK => ?_) | refine .seq (.seq (.rd fun A hA K hK => ?_)) | refine .rd fun A hA K hK => ?_
  simp (maxSteps := 1000000) only [go_sem, hA.nil, hA.go, hA.yes, hA.noT, hA.noF, hA.skp]
  refine hK _ _ ?_; clear hK K hA A
  refine .rangeK (N := l.length) (fun i L t => L = [(0, ints l), (1, I x), (7, I l.length), (8, I i)] ∧ σ = t ∧ (l.take i).all (fun y => !(x == y)) = true) hl
    ⟨_, ⟨rfl, rfl, by simp⟩, by simp (maxSteps := 1000000) only [go_sem]; try rfl⟩ ?_ ?_ ?_
  · rintro i L t ⟨rfl, _⟩
    exact ⟨by simp (maxSteps := 1000000) only [go_sem], by simp (maxSteps := 1000000) only [go_sem], rfl⟩
  · rintro i L t hi ⟨rfl, rfl, hno⟩
    have e0 : (i : Int) < l.length := by omega
    have hg := ints_get hi
    obtain ⟨i1, i2⟩ := idx_at hi hno
    generalize l[i] = y at hg i1 i2
    first | refine .seq (.rg fun A hA K hK => ?_) | refine .seq (.seq (.rg fun A hA K hK => ?_)) | refine .rg fun A hA K hK => ?_ | refine .seq (.rd fun A hA K hK => ?_) | refine .seq (.seq (.rd fun A hA K hK => ?_)) | refine .rd fun A hA K hK => ?_
    simp (maxSteps := 1000000) only [go_sem, hA.nil, hA.go, hA.yes, hA.noT, hA.noF, hA.skp]
    refine hK _ _ ?_; clear hK K hA A
    first | refine .seq (.rg fun A hA K hK => ?_) | refine .seq (.seq (.rg fun A hA K hK => ?_)) | refine .rg fun A hA K hK => ?_ | refine .seq (.rd fun A hA K hK => ?_) | refine .seq (.seq (.rd fun A hA K hK => ?_)) | refine .rd fun A hA K hK => ?_
    simp (maxSteps := 1000000) only [go_sem, hA.nil, hA.go, hA.yes, hA.noT, hA.noF, hA.skp, e0, hg, hi]
    refine hK _ _ ?_; clear hK K hA A
    refine .cond (t := x == y) (by simp (maxSteps := 1000000) only [go_sem]) (fun ht => ?_) (fun ht => .skip ?_)
    · have := i1 ht
      first | refine .seq (.rg fun A hA K hK => ?_) | refine .seq (.seq (.rg fun A hA K hK => ?_)) | refine .rg fun A hA K hK => ?_ | refine .seq (.rd fun A hA K hK => ?_) | refine .seq (.seq (.rd fun A hA K hK => ?_)) | refine .rd fun A hA K hK => ?_
      simp (maxSteps := 1000000) only [go_sem, hA.nil, hA.go, hA.yes, hA.noT, hA.noF, hA.skp]
      refine hK _ _ ?_; clear hK K hA A
      exact .ret (ret1 (by simp (maxSteps := 1000000) only [go_sem, this]) rfl)
    · exact ⟨by simp (maxSteps := 1000000) only [go_sem], _, ⟨rfl, rfl, i2 ht⟩, by simp (maxSteps := 1000000) only [go_sem]; try rfl⟩
  · rintro L t F ⟨rfl, rfl, hno⟩ hf
    simp (maxSteps := 1000000) only [go_sem] at hf
    have := idx_none hno
    first | refine .seq (.rg fun A hA K hK => ?_) | refine .seq (.seq (.rg fun A hA K hK => ?_)) | refine .rg fun A hA K hK => ?_ | refine .seq (.rd fun A hA K hK => ?_) | refine .seq (.seq (.rd fun A hA K hK => ?_)) | refine .rd fun A hA K hK => ?_
    simp (maxSteps := 1000000) only [go_sem, hA.nil, hA.go, hA.yes, hA.noT, hA.noF, hA.skp]
    refine hK _ _ ?_; clear hK K hA A
    exact .ret (ret1 (by simp (maxSteps := 1000000) only [go_sem, this]) rfl)
/-- slices.Contains -/
theorem containsInt_spec (l : List Int) (x : Int) (σ : St) : T Try.prog 107 [ints l, I x] σ (.bool (l.contains x)) σ := by
  refine in107 (by simp) fun wf hab => ?_
  clear hab
  have hc := idx_contains l x
  unfold c107
  first | refine .seq (.rg fun A hA K hK => ?_) | refine .seq (.seq (.rg fun A hA K hK => ?_)) | refine .rg fun A hA K hK => ?_ | refine .seq (.rd fun A hA K hK => ?_) | refine .seq (.seq (.rd fun A hA K hK => ?_)) | refine .rd fun A hA K hK => ?_
  simp (maxSteps := 1000000) only [go_sem, hA.nil, hA.go, hA.yes, hA.noT, hA.noF, hA.skp]
  refine hK _ _ ?_; clear hK K hA A
  first | refine .seq (.rg fun A hA K hK => ?_) | refine .seq (.seq (.rg fun A hA K hK => ?_)) | refine .rg fun A hA K hK => ?_ | refine .seq (.rd fun A hA K hK => ?_) | refine .seq (.seq (.rd fun A hA K hK => ?_)) | refine .rd fun A hA K hK => ?_
  simp (maxSteps := 1000000) only [go_sem, hA.nil, hA.go, hA.yes, hA.noT, hA.noF, hA.skp]
  first | refine aopq_call (indexInt_spec l x _) (by simp (maxSteps := 1000000) only [go_sem]) ?_ | refine aop_call (indexInt_spec l x _) (by simp (maxSteps := 1000000) only [go_sem]) ?_
  try simp (maxSteps := 1000000) only [go_sem, hA.nil, hA.go, hA.yes, hA.noT, hA.noF, hA.skp]
  refine hK _ _ ?_; clear hK K hA A
  exact .ret (ret1 (by simp (maxSteps := 1000000) only [go_sem, hc]) rfl)
end Go.Proofs.Ytfjbabacpnnjmaa.Av

namespace Go.Proofs.Ytfjbabacpnnjmaa.Av
open Go Go.Av
set_option maxRecDepth 20000
set_option maxHeartbeats 4000000

attribute [local go_sem] step_apply stepD_apply stepE_apply
attribute [local go_sem] aopq_mv aopq_pk aopq_al aopq_bx aopq_bd aopq_bs aopq_ld aopq_st aopq_nc aopq_bin aopq_un aopq_cv aopq_mi aopq_mf aopq_mm aopq_ms aopq_sc aopq_fa aopq_fl aopq_ia aopq_lk aopq_mu aopq_lm aopq_rg aopq_en aopq_ta aopq_ex aopq_ln aopq_ap aopq_mx aopq.eq_3 aop.eq_1 aop.eq_2 aop.eq_3 aop.eq_4 aop.eq_5 aop.eq_6 aop.eq_7 aop.eq_8 aop.eq_9 aop_bin atS_apply aop_un_not aop_un_neg aop.eq_14 aop.eq_15 aop.eq_16 aop.eq_17 aop.eq_18 aop_sc cutS_apply cutN_apply cutL_apply cutO_apply aop.eq_20 aop.eq_21 aop.eq_22 aop.eq_23 aop.eq_24 aop.eq_25 aop.eq_26 aop.eq_27 aop.eq_28 aop.eq_29 aop.eq_30 aop.eq_31 aop.eq_32 blk_push next_push blk_set next_set blk_kill next_kill frL_nil frL_cons Fits_nil Fits_cons Int.reduceBEq Int.reduceBNe Nat.sub_zero Option.map_some Option.map_none List.set_cons_succ true_or or_true false_or or_false Int.le_refl Int.cast_ofNat_Int decide_true decide_false List.cons_append fillA fillR rowsOf List.replicate_succ List.replicate_zero Nat.zero_mul getD_drop List.length_drop splice List.nil_append List.append_nil cond_true cond_false List.set_cons_zero List.length_set ev put_some put_none upd_apply abin asNat bounds row1 mk List.length_cons List.length_nil List.length_map List.drop_zero List.drop_succ_cons List.drop_nil List.getD_cons_zero List.getD_cons_succ Option.getD_none Option.getD_some List.take_succ_cons List.take_zero List.take_nil true_and and_true Int.toNat_natCast if_true if_false Nat.zero_add Nat.add_zero List.map_cons List.map_nil Nat.reduceEqDiff Nat.left_eq_add Nat.add_eq_left Nat.add_left_cancel_iff Nat.add_assoc Nat.reduceSub Nat.reduceAdd Nat.reduceLeDiff Nat.le_refl Nat.zero_le Nat.zero_lt_one Nat.lt_add_one Int.reduceLT Int.reduceLE Int.reduceToNat Nat.reduceLT Nat.reduceBEq Bool.false_eq_true Nat.reduceBNe ne_eq not_false_eq_true not_true_eq_false false_and and_false reduceIte Int.natCast_nonneg reduceCtorEq parts_agg parts_bool parts_int parts_str parts_lit parts_nils parts_sl parts_ptr Int.natCast_nonneg Int.natCast_nonneg beq_self_eq_true bne_self_eq_false Bool.true_and Bool.false_and Bool.and_true Bool.and_false Bool.true_or Bool.false_or Bool.or_true Bool.or_false Bool.not_true Bool.not_false
attribute [local go_sem] instr0 instr1 instr2 instr10 instr11 instr12 instrN instrA instr_len node0 node1 node2 node3 node4 node5 node6 nodeA node_len I ints progA progsA

def okSpec (sizes sp : List Int) (i : Nat) : Bool := decide (-1 ≤ sp.getD i 0) && decide (sp.getD i 0 < sizes.length) && (sp.getD i 0 == -1 || !(sp.take i).contains (sp.getD i 0))
def specB (sizes sp : List Int) (r : Int) : Bool := meshB sizes && ((sp.length : Int) == r) && (List.range sp.length).all (okSpec sizes sp)
theorem spec_bad {sizes sp : List Int} {r : Int} {i : Nat} (hi : i < sp.length) (h : okSpec sizes sp i = false) : specB sizes sp r = false := by
  simp only [specB, Bool.and_eq_false_iff]
  refine .inr (Bool.eq_false_iff.2 fun hall => ?_)
  rw [List.all_eq_true] at hall
  have := hall i (by simpa using hi)
  rw [this] at h; cases h

/-- spec.Right -/
theorem spec_spec (sizes sp : List Int) (r : Int) (σ : St) : T Try.prog 133 [ints sizes, ints sp, I r] σ (.bool (specB sizes sp r)) σ := by
  refine in133 (by simp) fun wf hab => ?_
  have hz := hab_ints (hab 0 (by simp))
  have hl := hab_ints (hab 1 (by simp))
  clear hab
  have hm := mesh_spec sizes σ
  unfold c133
  by_cases hM : meshB sizes = true
  · rw [hM] at hm
    by_cases hr : (sp.length : Int) = r
    · have c1 : ((sp.length : Int) != r) = false := by simpa using hr
      first | refine .seq (.rg fun A hA K hK => ?_) | refine .seq (.seq (.rg fun A hA K hK => ?_)) | refine .rg fun A hA K hK => ?_ | refine .seq (.rd fun A hA K hK => ?_) | refine .seq (.seq (.rd fun A hA K hK => ?_)) | refine .rd fun A hA K hK => ?_
      simp (maxSteps := 1000000) only [go_sem, hA.nil, hA.go, hA.yes, hA.noT, hA.noF, hA.skp]
      refine hK _ _ ?_; clear hK K hA A
      first | refine .seq (.rg fun A hA K hK => ?_) | refine .seq (.seq (.rg fun A hA K hK => ?_)) | refine .rg fun A hA K hK => ?_ | refine .seq (.rd fun A hA K hK => ?_) | refine .seq (.seq (.rd fun A hA K hK => ?_)) | refine .rd fun A hA K hK => ?_
      simp (maxSteps := 1000000) only [go_sem, hA.nil, hA.go, hA.yes, hA.noT, hA.noF, hA.skp, c1]
      first | refine aopq_call (hm) (by simp (maxSteps := 1000000) only [go_sem]) ?_ | refine aop_call (hm) (by simp (maxSteps := 1000000) only [go_sem]) ?_
      try simp (maxSteps := 1000000) only [go_sem, hA.nil, hA.go, hA.yes, hA.noT, hA.noF, hA.skp]
      try simp (maxSteps := 1000000) only [go_sem, hA.nil, hA.go, hA.yes, hA.noT, hA.noF, hA.skp, c1]
      refine hK _ _ ?_; clear hK K hA A
      refine .cond (t := false) (by simp (maxSteps := 1000000) only [go_sem, c1]) (fun h => by cases h) (fun _ => .skip ?_)
      first | refine .seq (.rg fun A hA K hK => ?_) | refine .seq (.seq (.rg fun A hA K hK => ?_)) | refine .rg fun A hA K hK => ?_ | refine .seq (.rd fun A hA K hK => ?_) | refine .seq (.seq (.rd fun A hA K hK => ?_)) | refine .rd fun A hA K hK => ?_
      simp (maxSteps := 1000000) only [go_sem, hA.nil, hA.go, hA.yes, hA.noT, hA.noF, hA.skp]
      refine hK _ _ ?_; clear hK K hA A
      refine .rangeK (N := sp.length) (fun i L t => L = [(0, ints sizes), (1, ints sp), (18, ints sp), (19, I sp.length), (20, I i)] ∧ σ = t ∧ (List.range i).all (okSpec sizes sp) = true) hl
        ⟨_, ⟨rfl, rfl, by simp⟩, by simp (maxSteps := 1000000) only [go_sem]; try rfl⟩ ?_ ?_ ?_
      · rintro i L t ⟨rfl, _⟩
        exact ⟨by simp (maxSteps := 1000000) only [go_sem], by simp (maxSteps := 1000000) only [go_sem], rfl⟩
      · rintro i L t hi ⟨rfl, rfl, ha⟩
        have e0 : (i : Int) < sp.length := by omega
        have e2 : (i : Int) ≤ sp.length := by omega
        have hg : (sp.map fun n => [I n]).getD i [] = [I (sp.getD i 0)] := by rw [ints_get hi]; simp [List.getD_eq_getElem?_getD, hi]
        first | refine .seq (.rg fun A hA K hK => ?_) | refine .seq (.seq (.rg fun A hA K hK => ?_)) | refine .rg fun A hA K hK => ?_ | refine .seq (.rd fun A hA K hK => ?_) | refine .seq (.seq (.rd fun A hA K hK => ?_)) | refine .rd fun A hA K hK => ?_
        simp (maxSteps := 1000000) only [go_sem, hA.nil, hA.go, hA.yes, hA.noT, hA.noF, hA.skp, e0, hg]
        refine hK _ _ ?_; clear hK K hA A
        by_cases h1 : sp.getD i 0 < -1
        · have hb := spec_bad (sizes := sizes) (r := r) hi (by simp only [okSpec, decide_eq_false (show ¬ (-1 ≤ sp.getD i 0) by omega), Bool.false_and])
          first | refine .seq (.rg fun A hA K hK => ?_) | refine .seq (.seq (.rg fun A hA K hK => ?_)) | refine .rg fun A hA K hK => ?_ | refine .seq (.rd fun A hA K hK => ?_) | refine .seq (.seq (.rd fun A hA K hK => ?_)) | refine .rd fun A hA K hK => ?_
          simp (maxSteps := 1000000) only [go_sem, hA.nil, hA.go, hA.yes, hA.noT, hA.noF, hA.skp, h1]
          refine hK _ _ ?_; clear hK K hA A
          refine .cond (t := true) (by simp (maxSteps := 1000000) only [go_sem]) (fun _ => ?_) (fun h => by cases h)
          first | refine .seq (.rg fun A hA K hK => ?_) | refine .seq (.seq (.rg fun A hA K hK => ?_)) | refine .rg fun A hA K hK => ?_ | refine .seq (.rd fun A hA K hK => ?_) | refine .seq (.seq (.rd fun A hA K hK => ?_)) | refine .rd fun A hA K hK => ?_
          simp (maxSteps := 1000000) only [go_sem, hA.nil, hA.go, hA.yes, hA.noT, hA.noF, hA.skp]
          refine hK _ _ ?_; clear hK K hA A
          exact .ret (ret1 (by simp (maxSteps := 1000000) only [go_sem, hb]) rfl)
        · by_cases h2 : sp.getD i 0 ≥ sizes.length
          · have hb := spec_bad (sizes := sizes) (r := r) hi (by simp only [okSpec, decide_eq_false (show ¬ (sp.getD i 0 < sizes.length) by omega), Bool.and_false, Bool.false_and])
            first | refine .seq (.rg fun A hA K hK => ?_) | refine .seq (.seq (.rg fun A hA K hK => ?_)) | refine .rg fun A hA K hK => ?_ | refine .seq (.rd fun A hA K hK => ?_) | refine .seq (.seq (.rd fun A hA K hK => ?_)) | refine .rd fun A hA K hK => ?_
            simp (maxSteps := 1000000) only [go_sem, hA.nil, hA.go, hA.yes, hA.noT, hA.noF, hA.skp, h1, h2]
            refine hK _ _ ?_; clear hK K hA A
            refine .cond (t := true) (by simp (maxSteps := 1000000) only [go_sem]) (fun _ => ?_) (fun h => by cases h)
            first | refine .seq (.rg fun A hA K hK => ?_) | refine .seq (.seq (.rg fun A hA K hK => ?_)) | refine .rg fun A hA K hK => ?_ | refine .seq (.rd fun A hA K hK => ?_) | refine .seq (.seq (.rd fun A hA K hK => ?_)) | refine .rd fun A hA K hK => ?_
            simp (maxSteps := 1000000) only [go_sem, hA.nil, hA.go, hA.yes, hA.noT, hA.noF, hA.skp]
            refine hK _ _ ?_; clear hK K hA A
            exact .ret (ret1 (by simp (maxSteps := 1000000) only [go_sem, hb]) rfl)
          · by_cases h3 : sp.getD i 0 = -1
            · have c3 : (sp.getD i 0 != -1) = false := by simpa using h3
              first | refine .seq (.rg fun A hA K hK => ?_) | refine .seq (.seq (.rg fun A hA K hK => ?_)) | refine .rg fun A hA K hK => ?_ | refine .seq (.rd fun A hA K hK => ?_) | refine .seq (.seq (.rd fun A hA K hK => ?_)) | refine .rd fun A hA K hK => ?_
              simp (maxSteps := 1000000) only [go_sem, hA.nil, hA.go, hA.yes, hA.noT, hA.noF, hA.skp, h1, h2, c3]
              refine hK _ _ ?_; clear hK K hA A
              refine .cond (t := false) (by simp (maxSteps := 1000000) only [go_sem]) (fun h => by cases h) (fun _ => .skip ?_)
              refine ⟨by simp (maxSteps := 1000000) only [go_sem], _, ⟨rfl, rfl, ?_⟩, by simp (maxSteps := 1000000) only [go_sem]; try rfl⟩
              rw [List.range_succ, List.all_append, ha]
              simp only [List.all_cons, List.all_nil, Bool.and_true, Bool.true_and, okSpec, h3, beq_self_eq_true, Bool.true_or]
              simp only [Bool.and_eq_true, decide_eq_true_eq]; omega
            · have c3 : (sp.getD i 0 != -1) = true := by simpa using h3
              have htk : ((sp.map fun n => [AV.int .i64 n]).take i) = (sp.take i).map fun n => [AV.int .i64 n] := by rw [List.map_take]
              have hcn := containsInt_spec (sp.take i) (sp.getD i 0) σ
              first | refine .seq (.rg fun A hA K hK => ?_) | refine .seq (.seq (.rg fun A hA K hK => ?_)) | refine .rg fun A hA K hK => ?_ | refine .seq (.rd fun A hA K hK => ?_) | refine .seq (.seq (.rd fun A hA K hK => ?_)) | refine .rd fun A hA K hK => ?_
              simp (maxSteps := 1000000) only [go_sem, hA.nil, hA.go, hA.yes, hA.noT, hA.noF, hA.skp, h1, h2, c3, e2, htk]
              first | refine aopq_call (hcn) (by simp (maxSteps := 1000000) only [go_sem]) ?_ | refine aop_call (hcn) (by simp (maxSteps := 1000000) only [go_sem]) ?_
              try simp (maxSteps := 1000000) only [go_sem, hA.nil, hA.go, hA.yes, hA.noT, hA.noF, hA.skp]
              try simp (maxSteps := 1000000) only [go_sem, hA.nil, hA.go, hA.yes, hA.noT, hA.noF, hA.skp]
              refine hK _ _ ?_; clear hK K hA A
              refine .cond (t := (sp.take i).contains (sp.getD i 0)) (by simp (maxSteps := 1000000) only [go_sem]) (fun ht => ?_) (fun ht => .skip ?_)
              · have c4 : (sp.getD i 0 == -1) = false := by simpa using h3
                have hb := spec_bad (sizes := sizes) (r := r) hi (by simp only [okSpec, c4, ht, Bool.not_true, Bool.or_self, Bool.and_false])
                first | refine .seq (.rg fun A hA K hK => ?_) | refine .seq (.seq (.rg fun A hA K hK => ?_)) | refine .rg fun A hA K hK => ?_ | refine .seq (.rd fun A hA K hK => ?_) | refine .seq (.seq (.rd fun A hA K hK => ?_)) | refine .rd fun A hA K hK => ?_
                simp (maxSteps := 1000000) only [go_sem, hA.nil, hA.go, hA.yes, hA.noT, hA.noF, hA.skp]
                refine hK _ _ ?_; clear hK K hA A
                exact .ret (ret1 (by simp (maxSteps := 1000000) only [go_sem, hb]) rfl)
              · refine ⟨by simp (maxSteps := 1000000) only [go_sem], _, ⟨rfl, rfl, ?_⟩, by simp (maxSteps := 1000000) only [go_sem]; try rfl⟩
                rw [List.range_succ, List.all_append, ha]
                simp only [List.all_cons, List.all_nil, Bool.and_true, Bool.true_and, okSpec, ht, Bool.not_false, Bool.or_true]
                simp only [Bool.and_eq_true, decide_eq_true_eq]; omega
      · rintro L t F ⟨rfl, rfl, ha⟩ hf
        have c2 : ((sp.length : Int) == r) = true := by simpa using hr
        have hs : specB sizes sp r = true := by simp only [specB, hM, ha, c2, Bool.and_self]
        first | refine .seq (.rg fun A hA K hK => ?_) | refine .seq (.seq (.rg fun A hA K hK => ?_)) | refine .rg fun A hA K hK => ?_ | refine .seq (.rd fun A hA K hK => ?_) | refine .seq (.seq (.rd fun A hA K hK => ?_)) | refine .rd fun A hA K hK => ?_
        simp (maxSteps := 1000000) only [go_sem, hA.nil, hA.go, hA.yes, hA.noT, hA.noF, hA.skp]
        refine hK _ _ ?_; clear hK K hA A
        exact .ret (ret1 (by simp (maxSteps := 1000000) only [go_sem, hs]) rfl)
    · have c1 : ((sp.length : Int) != r) = true := by simpa using hr
      have c2 : ((sp.length : Int) == r) = false := by simpa using hr
      have hs : specB sizes sp r = false := by simp only [specB, c2, Bool.and_false, Bool.false_and]
      first | refine .seq (.rg fun A hA K hK => ?_) | refine .seq (.seq (.rg fun A hA K hK => ?_)) | refine .rg fun A hA K hK => ?_ | refine .seq (.rd fun A hA K hK => ?_) | refine .seq (.seq (.rd fun A hA K hK => ?_)) | refine .rd fun A hA K hK => ?_
      simp (maxSteps := 1000000) only [go_sem, hA.nil, hA.go, hA.yes, hA.noT, hA.noF, hA.skp]
      refine hK _ _ ?_; clear hK K hA A
      first | refine .seq (.rg fun A hA K hK => ?_) | refine .seq (.seq (.rg fun A hA K hK => ?_)) | refine .rg fun A hA K hK => ?_ | refine .seq (.rd fun A hA K hK => ?_) | refine .seq (.seq (.rd fun A hA K hK => ?_)) | refine .rd fun A hA K hK => ?_
      simp (maxSteps := 1000000) only [go_sem, hA.nil, hA.go, hA.yes, hA.noT, hA.noF, hA.skp, c1]
      first | refine aopq_call (hm) (by simp (maxSteps := 1000000) only [go_sem]) ?_ | refine aop_call (hm) (by simp (maxSteps := 1000000) only [go_sem]) ?_
      try simp (maxSteps := 1000000) only [go_sem, hA.nil, hA.go, hA.yes, hA.noT, hA.noF, hA.skp]
      try simp (maxSteps := 1000000) only [go_sem, hA.nil, hA.go, hA.yes, hA.noT, hA.noF, hA.skp, c1]
      refine hK _ _ ?_; clear hK K hA A
      refine .cond (t := true) (by simp (maxSteps := 1000000) only [go_sem, c1]) (fun _ => ?_) (fun h => by cases h)
      first | refine .seq (.rg fun A hA K hK => ?_) | refine .seq (.seq (.rg fun A hA K hK => ?_)) | refine .rg fun A hA K hK => ?_ | refine .seq (.rd fun A hA K hK => ?_) | refine .seq (.seq (.rd fun A hA K hK => ?_)) | refine .rd fun A hA K hK => ?_
      simp (maxSteps := 1000000) only [go_sem, hA.nil, hA.go, hA.yes, hA.noT, hA.noF, hA.skp]
      refine hK _ _ ?_; clear hK K hA A
      exact .ret (ret1 (by simp (maxSteps := 1000000) only [go_sem, hs]) rfl)
  · have hM : meshB sizes = false := by simpa using hM
    rw [hM] at hm
    have hs : specB sizes sp r = false := by simp only [specB, hM, Bool.false_and]
    first | refine .seq (.rg fun A hA K hK => ?_) | refine .seq (.seq (.rg fun A hA K hK => ?_)) | refine .rg fun A hA K hK => ?_ | refine .seq (.rd fun A hA K hK => ?_) | refine .seq (.seq (.rd fun A hA K hK => ?_)) | refine .rd fun A hA K hK => ?_
    simp (maxSteps := 1000000) only [go_sem, hA.nil, hA.go, hA.yes, hA.noT, hA.noF, hA.skp]
    refine hK _ _ ?_; clear hK K hA A
    first | refine .seq (.rg fun A hA K hK => ?_) | refine .seq (.seq (.rg fun A hA K hK => ?_)) | refine .rg fun A hA K hK => ?_ | refine .seq (.rd fun A hA K hK => ?_) | refine .seq (.seq (.rd fun A hA K hK => ?_)) | refine .rd fun A hA K hK => ?_
    simp (maxSteps := 1000000) only [go_sem, hA.nil, hA.go, hA.yes, hA.noT, hA.noF, hA.skp]
    first | refine aopq_call (hm) (by simp (maxSteps := 1000000) only [go_sem]) ?_ | refine aop_call (hm) (by simp (maxSteps := 1000000) only [go_sem]) ?_
    try simp (maxSteps := 1000000) only [go_sem, hA.nil, hA.go, hA.yes, hA.noT, hA.noF, hA.skp]
    try simp (maxSteps := 1000000) only [go_sem, hA.nil, hA.go, hA.yes, hA.noT, hA.noF, hA.skp]
    refine hK _ _ ?_; clear hK K hA A
    refine .cond (t := true) (by simp (maxSteps := 1000000) only [go_sem]) (fun _ => ?_) (fun h => by cases h)
    first | refine .seq (.rg fun A hA K hK => ?_) | refine .seq (.seq (.rg fun A hA K hK => ?_)) | refine .rg fun A hA K hK => ?_ | refine .seq (.rd fun A hA K hK => ?_) | refine .seq (.seq (.rd fun A hA K hK => ?_)) | refine .rd fun A hA K hK => ?_
    simp (maxSteps := 1000000) only [go_sem, hA.nil, hA.go, hA.yes, hA.noT, hA.noF, hA.skp]
    refine hK _ _ ?_; clear hK K hA A
    exact .ret (ret1 (by simp (maxSteps := 1000000) only [go_sem, hs]) rfl)

theorem cont_take {sp : List Int} {k : Nat} {x : Int} (hk : k < sp.length) : (sp.take (k + 1)).contains x = ((sp.take k).contains x || sp.getD k 0 == x) := by
  rw [List.take_succ_eq_append_getElem hk]
  have : sp.getD k 0 = sp[k] := by simp [List.getD_eq_getElem?_getD, hk]
  rw [this]
  generalize sp[k] = y
  generalize sp.take k = t
  rw [Bool.eq_iff_iff, Bool.or_eq_true, List.contains_iff_mem, List.contains_iff_mem, List.mem_append, List.mem_singleton, beq_iff_eq]
  exact ⟨fun h => h.imp id Eq.symm, fun h => h.imp id Eq.symm⟩
/-- parquetryref14.Spec -/
theorem specRef_spec (sizes sp : List Int) (r : Int) (σ : St) : T Try.prog 115 [ints sizes, ints sp, I r] σ (.bool (specB sizes sp r)) σ := by
  refine in115 (by simp) fun wf hab => ?_
  have hz := hab_ints (hab 0 (by simp))
  have hl := hab_ints (hab 1 (by simp))
  clear hab
  have hm := meshRef_spec sizes σ
  unfold c115
  by_cases hM : meshB sizes = true
  · rw [hM] at hm
    by_cases hr : (sp.length : Int) = r
    · have c1 : ((sp.length : Int) != r) = false := by simpa using hr
      first | refine .seq (.rg fun A hA K hK => ?_) | refine .seq (.seq (.rg fun A hA K hK => ?_)) | refine .rg fun A hA K hK => ?_ | refine .seq (.rd fun A hA K hK => ?_) | refine .seq (.seq (.rd fun A hA K hK => ?_)) | refine .rd fun A hA K hK => ?_
      simp (maxSteps := 1000000) only [go_sem, hA.nil, hA.go, hA.yes, hA.noT, hA.noF, hA.skp]
      refine hK _ _ ?_; clear hK K hA A
      first | refine .seq (.rg fun A hA K hK => ?_) | refine .seq (.seq (.rg fun A hA K hK => ?_)) | refine .rg fun A hA K hK => ?_ | refine .seq (.rd fun A hA K hK => ?_) | refine .seq (.seq (.rd fun A hA K hK => ?_)) | refine .rd fun A hA K hK => ?_
      simp (maxSteps := 1000000) only [go_sem, hA.nil, hA.go, hA.yes, hA.noT, hA.noF, hA.skp, c1]
      first | refine aopq_call (hm) (by simp (maxSteps := 1000000) only [go_sem]) ?_ | refine aop_call (hm) (by simp (maxSteps := 1000000) only [go_sem]) ?_
      try simp (maxSteps := 1000000) only [go_sem, hA.nil, hA.go, hA.yes, hA.noT, hA.noF, hA.skp]
      try simp (maxSteps := 1000000) only [go_sem, hA.nil, hA.go, hA.yes, hA.noT, hA.noF, hA.skp, c1]
      refine hK _ _ ?_; clear hK K hA A
      refine .cond (t := false) (by simp (maxSteps := 1000000) only [go_sem, c1]) (fun h => by cases h) (fun _ => .skip ?_)
      first | refine .seq (.rg fun A hA K hK => ?_) | refine .seq (.seq (.rg fun A hA K hK => ?_)) | refine .rg fun A hA K hK => ?_ | refine .seq (.rd fun A hA K hK => ?_) | refine .seq (.seq (.rd fun A hA K hK => ?_)) | refine .rd fun A hA K hK => ?_
      simp (maxSteps := 1000000) only [go_sem, hA.nil, hA.go, hA.yes, hA.noT, hA.noF, hA.skp]
      refine hK _ _ ?_; clear hK K hA A
      refine .rangeK (N := sp.length) (fun i L t => L = [(0, ints sizes), (1, ints sp), (19, I sp.length), (20, I i)] ∧ σ = t ∧ (List.range i).all (okSpec sizes sp) = true) hl
        ⟨_, ⟨rfl, rfl, by simp⟩, by simp (maxSteps := 1000000) only [go_sem]; try rfl⟩ ?_ ?_ ?_
      · rintro i L t ⟨rfl, _⟩
        exact ⟨by simp (maxSteps := 1000000) only [go_sem], by simp (maxSteps := 1000000) only [go_sem], rfl⟩
      · rintro i L t hi ⟨rfl, rfl, ha⟩
        have e0 : (i : Int) < sp.length := by omega
        have hg : (sp.map fun n => [I n]).getD i [] = [I (sp.getD i 0)] := by rw [ints_get hi]; simp [List.getD_eq_getElem?_getD, hi]
        first | refine .seq (.rg fun A hA K hK => ?_) | refine .seq (.seq (.rg fun A hA K hK => ?_)) | refine .rg fun A hA K hK => ?_ | refine .seq (.rd fun A hA K hK => ?_) | refine .seq (.seq (.rd fun A hA K hK => ?_)) | refine .rd fun A hA K hK => ?_
        simp (maxSteps := 1000000) only [go_sem, hA.nil, hA.go, hA.yes, hA.noT, hA.noF, hA.skp]
        refine hK _ _ ?_; clear hK K hA A
        by_cases h1 : sp.getD i 0 < -1
        · have hb := spec_bad (sizes := sizes) (r := r) hi (by simp only [okSpec, decide_eq_false (show ¬ (-1 ≤ sp.getD i 0) by omega), Bool.false_and])
          first | refine .seq (.rg fun A hA K hK => ?_) | refine .seq (.seq (.rg fun A hA K hK => ?_)) | refine .rg fun A hA K hK => ?_ | refine .seq (.rd fun A hA K hK => ?_) | refine .seq (.seq (.rd fun A hA K hK => ?_)) | refine .rd fun A hA K hK => ?_
          simp (maxSteps := 1000000) only [go_sem, hA.nil, hA.go, hA.yes, hA.noT, hA.noF, hA.skp, e0, hg, h1]
          refine hK _ _ ?_; clear hK K hA A
          refine .cond (t := true) (by simp (maxSteps := 1000000) only [go_sem]) (fun _ => ?_) (fun h => by cases h)
          first | refine .seq (.rg fun A hA K hK => ?_) | refine .seq (.seq (.rg fun A hA K hK => ?_)) | refine .rg fun A hA K hK => ?_ | refine .seq (.rd fun A hA K hK => ?_) | refine .seq (.seq (.rd fun A hA K hK => ?_)) | refine .rd fun A hA K hK => ?_
          simp (maxSteps := 1000000) only [go_sem, hA.nil, hA.go, hA.yes, hA.noT, hA.noF, hA.skp]
          refine hK _ _ ?_; clear hK K hA A
          exact .ret (ret1 (by simp (maxSteps := 1000000) only [go_sem, hb]) rfl)
        · by_cases h2 : sp.getD i 0 ≥ sizes.length
          · have hb := spec_bad (sizes := sizes) (r := r) hi (by simp only [okSpec, decide_eq_false (show ¬ (sp.getD i 0 < sizes.length) by omega), Bool.and_false, Bool.false_and])
            first | refine .seq (.rg fun A hA K hK => ?_) | refine .seq (.seq (.rg fun A hA K hK => ?_)) | refine .rg fun A hA K hK => ?_ | refine .seq (.rd fun A hA K hK => ?_) | refine .seq (.seq (.rd fun A hA K hK => ?_)) | refine .rd fun A hA K hK => ?_
            simp (maxSteps := 1000000) only [go_sem, hA.nil, hA.go, hA.yes, hA.noT, hA.noF, hA.skp, e0, hg, h1, h2]
            refine hK _ _ ?_; clear hK K hA A
            refine .cond (t := true) (by simp (maxSteps := 1000000) only [go_sem]) (fun _ => ?_) (fun h => by cases h)
            first | refine .seq (.rg fun A hA K hK => ?_) | refine .seq (.seq (.rg fun A hA K hK => ?_)) | refine .rg fun A hA K hK => ?_ | refine .seq (.rd fun A hA K hK => ?_) | refine .seq (.seq (.rd fun A hA K hK => ?_)) | refine .rd fun A hA K hK => ?_
            simp (maxSteps := 1000000) only [go_sem, hA.nil, hA.go, hA.yes, hA.noT, hA.noF, hA.skp]
            refine hK _ _ ?_; clear hK K hA A
            exact .ret (ret1 (by simp (maxSteps := 1000000) only [go_sem, hb]) rfl)
          · first | refine .seq (.rg fun A hA K hK => ?_) | refine .seq (.seq (.rg fun A hA K hK => ?_)) | refine .rg fun A hA K hK => ?_ | refine .seq (.rd fun A hA K hK => ?_) | refine .seq (.seq (.rd fun A hA K hK => ?_)) | refine .rd fun A hA K hK => ?_
            simp (maxSteps := 1000000) only [go_sem, hA.nil, hA.go, hA.yes, hA.noT, hA.noF, hA.skp, e0, hg, h1, h2]
            refine hK _ _ ?_; clear hK K hA A
            refine .cond (t := false) (by simp (maxSteps := 1000000) only [go_sem]) (fun h => by cases h) (fun _ => .skip ?_)
            first | refine .seq (.rg fun A hA K hK => ?_) | refine .seq (.seq (.rg fun A hA K hK => ?_)) | refine .rg fun A hA K hK => ?_ | refine .seq (.rd fun A hA K hK => ?_) | refine .seq (.seq (.rd fun A hA K hK => ?_)) | refine .rd fun A hA K hK => ?_
            simp (maxSteps := 1000000) only [go_sem, hA.nil, hA.go, hA.yes, hA.noT, hA.noF, hA.skp]
            refine hK _ _ ?_; clear hK K hA A
            refine .countK (N := i) (fun k L t => L = [(0, ints sizes), (1, ints sp), (7, I i), (8, I k), (19, I sp.length), (20, I i)] ∧ σ = t ∧ (sp.getD i 0 = -1 ∨ (sp.take k).contains (sp.getD i 0) = false)) (by omega) ⟨_, ⟨rfl, rfl, by simp⟩, by simp (maxSteps := 1000000) only [go_sem]; try rfl⟩ ?_ ?_ ?_
            · rintro k L t hk ⟨rfl, rfl, hc⟩
              first | refine .seq (.rg fun A hA K hK => ?_) | refine .seq (.seq (.rg fun A hA K hK => ?_)) | refine .rg fun A hA K hK => ?_ | refine .seq (.rd fun A hA K hK => ?_) | refine .seq (.seq (.rd fun A hA K hK => ?_)) | refine .rd fun A hA K hK => ?_
              simp (maxSteps := 1000000) only [go_sem, hA.nil, hA.go, hA.yes, hA.noT, hA.noF, hA.skp]
              refine hK _ _ ?_; clear hK K hA A
              exact ⟨rfl, by simp (maxSteps := 1000000) only [go_sem, Int.ofNat_lt], _, ⟨rfl, rfl, hc⟩, by simp (maxSteps := 1000000) only [go_sem]⟩
            · rintro k L t hk ⟨rfl, rfl, hc⟩
              have hks : k < sp.length := by omega
              have e1 : (k : Int) < sp.length := by omega
              have hgk : (sp.map fun n => [I n]).getD k [] = [I (sp.getD k 0)] := by rw [ints_get hks]; simp [List.getD_eq_getElem?_getD, hks]
              by_cases h3 : sp.getD k 0 = sp.getD i 0
              · have c3 : (sp.getD k 0 == sp.getD i 0) = true := by simpa using h3
                by_cases h4 : sp.getD i 0 ≥ 0
                · have c4 : (sp.getD i 0 == -1) = false := beq_eq_false_iff_ne.2 (by omega)
                  have c5 : (sp.take i).contains (sp.getD i 0) = true := by
                    rw [List.contains_iff_mem, ← h3, List.mem_take_iff_getElem]
                    exact ⟨k, by omega, by simp [List.getD_eq_getElem?_getD, hks]⟩
                  have hb := spec_bad (sizes := sizes) (r := r) hi (by simp only [okSpec, c4, c5, Bool.not_true, Bool.or_self, Bool.and_false])
                  first | refine .seq (.rg fun A hA K hK => ?_) | refine .seq (.seq (.rg fun A hA K hK => ?_)) | refine .rg fun A hA K hK => ?_ | refine .seq (.rd fun A hA K hK => ?_) | refine .seq (.seq (.rd fun A hA K hK => ?_)) | refine .rd fun A hA K hK => ?_
                  simp (maxSteps := 1000000) only [go_sem, hA.nil, hA.go, hA.yes, hA.noT, hA.noF, hA.skp, e0, e1, hg, hgk, c3, h4]
                  refine hK _ _ ?_; clear hK K hA A
                  refine .cond (t := true) (by simp (maxSteps := 1000000) only [go_sem]) (fun _ => ?_) (fun h => by cases h)
                  first | refine .seq (.rg fun A hA K hK => ?_) | refine .seq (.seq (.rg fun A hA K hK => ?_)) | refine .rg fun A hA K hK => ?_ | refine .seq (.rd fun A hA K hK => ?_) | refine .seq (.seq (.rd fun A hA K hK => ?_)) | refine .rd fun A hA K hK => ?_
                  simp (maxSteps := 1000000) only [go_sem, hA.nil, hA.go, hA.yes, hA.noT, hA.noF, hA.skp]
                  refine hK _ _ ?_; clear hK K hA A
                  exact .ret (ret1 (by simp (maxSteps := 1000000) only [go_sem, hb]) rfl)
                · first | refine .seq (.rg fun A hA K hK => ?_) | refine .seq (.seq (.rg fun A hA K hK => ?_)) | refine .rg fun A hA K hK => ?_ | refine .seq (.rd fun A hA K hK => ?_) | refine .seq (.seq (.rd fun A hA K hK => ?_)) | refine .rd fun A hA K hK => ?_
                  simp (maxSteps := 1000000) only [go_sem, hA.nil, hA.go, hA.yes, hA.noT, hA.noF, hA.skp, e0, e1, hg, hgk, c3, h4]
                  refine hK _ _ ?_; clear hK K hA A
                  refine .cond (t := false) (by simp (maxSteps := 1000000) only [go_sem]) (fun h => by cases h) (fun _ => .skip ?_)
                  exact ⟨by simp (maxSteps := 1000000) only [go_sem], _, ⟨rfl, rfl, .inl (by omega)⟩, by simp (maxSteps := 1000000) only [go_sem]; try rfl⟩
              · have c3 : (sp.getD k 0 == sp.getD i 0) = false := by simpa using h3
                first | refine .seq (.rg fun A hA K hK => ?_) | refine .seq (.seq (.rg fun A hA K hK => ?_)) | refine .rg fun A hA K hK => ?_ | refine .seq (.rd fun A hA K hK => ?_) | refine .seq (.seq (.rd fun A hA K hK => ?_)) | refine .rd fun A hA K hK => ?_
                simp (maxSteps := 1000000) only [go_sem, hA.nil, hA.go, hA.yes, hA.noT, hA.noF, hA.skp, e0, e1, hg, hgk, c3]
                refine hK _ _ ?_; clear hK K hA A
                refine .cond (t := false) (by simp (maxSteps := 1000000) only [go_sem]) (fun h => by cases h) (fun _ => .skip ?_)
                refine ⟨by simp (maxSteps := 1000000) only [go_sem], _, ⟨rfl, rfl, ?_⟩, by simp (maxSteps := 1000000) only [go_sem]; try rfl⟩
                rcases hc with hc | hc
                · exact .inl hc
                · rw [cont_take hks, hc, c3]; exact .inr rfl
            · rintro L t F ⟨rfl, rfl, hc⟩ hf
              simp (maxSteps := 1000000) only [go_sem] at hf
              refine ⟨by simp (maxSteps := 1000000) only [go_sem, hf], _, ⟨rfl, rfl, ?_⟩, by simp (maxSteps := 1000000) only [go_sem, hf]; try rfl⟩
              rw [List.range_succ, List.all_append, ha]
              simp only [List.all_cons, List.all_nil, Bool.and_true, Bool.true_and, okSpec, decide_eq_true (show -1 ≤ sp.getD i 0 by omega), decide_eq_true (show sp.getD i 0 < sizes.length by omega)]
              rcases hc with hc | hc
              · rw [hc]; rfl
              · rw [hc]; simp
      · rintro L t F ⟨rfl, rfl, ha⟩ hf
        have c2 : ((sp.length : Int) == r) = true := by simpa using hr
        have hs : specB sizes sp r = true := by simp only [specB, hM, ha, c2, Bool.and_self]
        first | refine .seq (.rg fun A hA K hK => ?_) | refine .seq (.seq (.rg fun A hA K hK => ?_)) | refine .rg fun A hA K hK => ?_ | refine .seq (.rd fun A hA K hK => ?_) | refine .seq (.seq (.rd fun A hA K hK => ?_)) | refine .rd fun A hA K hK => ?_
        simp (maxSteps := 1000000) only [go_sem, hA.nil, hA.go, hA.yes, hA.noT, hA.noF, hA.skp]
        refine hK _ _ ?_; clear hK K hA A
        exact .ret (ret1 (by simp (maxSteps := 1000000) only [go_sem, hs]) rfl)
    · have c1 : ((sp.length : Int) != r) = true := by simpa using hr
      have c2 : ((sp.length : Int) == r) = false := by simpa using hr
      have hs : specB sizes sp r = false := by simp only [specB, c2, Bool.and_false, Bool.false_and]
      first | refine .seq (.rg fun A hA K hK => ?_) | refine .seq (.seq (.rg fun A hA K hK => ?_)) | refine .rg fun A hA K hK => ?_ | refine .seq (.rd fun A hA K hK => ?_) | refine .seq (.seq (.rd fun A hA K hK => ?_)) | refine .rd fun A hA K hK => ?_
      simp (maxSteps := 1000000) only [go_sem, hA.nil, hA.go, hA.yes, hA.noT, hA.noF, hA.skp]
      refine hK _ _ ?_; clear hK K hA A
      first | refine .seq (.rg fun A hA K hK => ?_) | refine .seq (.seq (.rg fun A hA K hK => ?_)) | refine .rg fun A hA K hK => ?_ | refine .seq (.rd fun A hA K hK => ?_) | refine .seq (.seq (.rd fun A hA K hK => ?_)) | refine .rd fun A hA K hK => ?_
      simp (maxSteps := 1000000) only [go_sem, hA.nil, hA.go, hA.yes, hA.noT, hA.noF, hA.skp, c1]
      first | refine aopq_call (hm) (by simp (maxSteps := 1000000) only [go_sem]) ?_ | refine aop_call (hm) (by simp (maxSteps := 1000000) only [go_sem]) ?_
      try simp (maxSteps := 1000000) only [go_sem, hA.nil, hA.go, hA.yes, hA.noT, hA.noF, hA.skp]
      try simp (maxSteps := 1000000) only [go_sem, hA.nil, hA.go, hA.yes, hA.noT, hA.noF, hA.skp, c1]
      refine hK _ _ ?_; clear hK K hA A
      refine .cond (t := true) (by simp (maxSteps := 1000000) only [go_sem, c1]) (fun _ => ?_) (fun h => by cases h)
      first | refine .seq (.rg fun A hA K hK => ?_) | refine .seq (.seq (.rg fun A hA K hK => ?_)) | refine .rg fun A hA K hK => ?_ | refine .seq (.rd fun A hA K hK => ?_) | refine .seq (.seq (.rd fun A hA K hK => ?_)) | refine .rd fun A hA K hK => ?_
      simp (maxSteps := 1000000) only [go_sem, hA.nil, hA.go, hA.yes, hA.noT, hA.noF, hA.skp]
      refine hK _ _ ?_; clear hK K hA A
      exact .ret (ret1 (by simp (maxSteps := 1000000) only [go_sem, hs]) rfl)
  · have hM : meshB sizes = false := by simpa using hM
    rw [hM] at hm
    have hs : specB sizes sp r = false := by simp only [specB, hM, Bool.false_and]
    first | refine .seq (.rg fun A hA K hK => ?_) | refine .seq (.seq (.rg fun A hA K hK => ?_)) | refine .rg fun A hA K hK => ?_ | refine .seq (.rd fun A hA K hK => ?_) | refine .seq (.seq (.rd fun A hA K hK => ?_)) | refine .rd fun A hA K hK => ?_
    simp (maxSteps := 1000000) only [go_sem, hA.nil, hA.go, hA.yes, hA.noT, hA.noF, hA.skp]
    refine hK _ _ ?_; clear hK K hA A
    first | refine .seq (.rg fun A hA K hK => ?_) | refine .seq (.seq (.rg fun A hA K hK => ?_)) | refine .rg fun A hA K hK => ?_ | refine .seq (.rd fun A hA K hK => ?_) | refine .seq (.seq (.rd fun A hA K hK => ?_)) | refine .rd fun A hA K hK => ?_
    simp (maxSteps := 1000000) only [go_sem, hA.nil, hA.go, hA.yes, hA.noT, hA.noF, hA.skp]
    first | refine aopq_call (hm) (by simp (maxSteps := 1000000) only [go_sem]) ?_ | refine aop_call (hm) (by simp (maxSteps := 1000000) only [go_sem]) ?_
    try simp (maxSteps := 1000000) only [go_sem, hA.nil, hA.go, hA.yes, hA.noT, hA.noF, hA.skp]
    try simp (maxSteps := 1000000) only [go_sem, hA.nil, hA.go, hA.yes, hA.noT, hA.noF, hA.skp]
    refine hK _ _ ?_; clear hK K hA A
    refine .cond (t := true) (by simp (maxSteps := 1000000) only [go_sem]) (fun _ => ?_) (fun h => by cases h)
    first | refine .seq (.rg fun A hA K hK => ?_) | refine .seq (.seq (.rg fun A hA K hK => ?_)) | refine .rg fun A hA K hK => ?_ | refine .seq (.rd fun A hA K hK => ?_) | refine .seq (.seq (.rd fun A hA K hK => ?_)) | refine .rd fun A hA K hK => ?_
    simp (maxSteps := 1000000) only [go_sem, hA.nil, hA.go, hA.yes, hA.noT, hA.noF, hA.skp]
    refine hK _ _ ?_; clear hK K hA A
    exact .ret (ret1 (by simp (maxSteps := 1000000) only [go_sem, hs]) rfl)

def mayB (sizes s fr to : List Int) : Bool := meshB sizes && (rightS s && (specB sizes fr s.length && specB sizes to s.length))
/-- move.may -/
theorem mayM_spec (sizes s fr to : List Int) (σ : St) : T Try.prog 116 [ints sizes, ints s, ints fr, ints to] σ (.bool (mayB sizes s fr to)) σ := by
  refine in116 (by simp) fun wf hab => ?_
  clear hab
  have q1 := mesh_spec sizes σ
  have q2 := shape_spec s σ
  have q3 := spec_spec sizes fr s.length σ
  have q4 := spec_spec sizes to s.length σ
  unfold c116
  first | refine .seq (.rg fun A hA K hK => ?_) | refine .seq (.seq (.rg fun A hA K hK => ?_)) | refine .rg fun A hA K hK => ?_ | refine .seq (.rd fun A hA K hK => ?_) | refine .seq (.seq (.rd fun A hA K hK => ?_)) | refine .rd fun A hA K hK => ?_
  simp (maxSteps := 1000000) only [go_sem, hA.nil, hA.go, hA.yes, hA.noT, hA.noF, hA.skp]
  refine hK _ _ ?_; clear hK K hA A
  cases h1 : meshB sizes <;> rw [h1] at q1
  · first | refine .seq (.rg fun A hA K hK => ?_) | refine .seq (.seq (.rg fun A hA K hK => ?_)) | refine .rg fun A hA K hK => ?_ | refine .seq (.rd fun A hA K hK => ?_) | refine .seq (.seq (.rd fun A hA K hK => ?_)) | refine .rd fun A hA K hK => ?_
    simp (maxSteps := 1000000) only [go_sem, hA.nil, hA.go, hA.yes, hA.noT, hA.noF, hA.skp]
    first | refine aopq_call (q1) (by simp (maxSteps := 1000000) only [go_sem]) ?_ | refine aop_call (q1) (by simp (maxSteps := 1000000) only [go_sem]) ?_
    try simp (maxSteps := 1000000) only [go_sem, hA.nil, hA.go, hA.yes, hA.noT, hA.noF, hA.skp]
    try simp (maxSteps := 1000000) only [go_sem, hA.nil, hA.go, hA.yes, hA.noT, hA.noF, hA.skp]
    refine hK _ _ ?_; clear hK K hA A
    exact .ret (ret1 (by simp (maxSteps := 1000000) only [go_sem, mayB, h1]) rfl)
  cases h2 : rightS s <;> rw [h2] at q2
  · first | refine .seq (.rg fun A hA K hK => ?_) | refine .seq (.seq (.rg fun A hA K hK => ?_)) | refine .rg fun A hA K hK => ?_ | refine .seq (.rd fun A hA K hK => ?_) | refine .seq (.seq (.rd fun A hA K hK => ?_)) | refine .rd fun A hA K hK => ?_
    simp (maxSteps := 1000000) only [go_sem, hA.nil, hA.go, hA.yes, hA.noT, hA.noF, hA.skp]
    first | refine aopq_call (q1) (by simp (maxSteps := 1000000) only [go_sem]) ?_ | refine aop_call (q1) (by simp (maxSteps := 1000000) only [go_sem]) ?_
    try simp (maxSteps := 1000000) only [go_sem, hA.nil, hA.go, hA.yes, hA.noT, hA.noF, hA.skp]
    try simp (maxSteps := 1000000) only [go_sem, hA.nil, hA.go, hA.yes, hA.noT, hA.noF, hA.skp]
    first | refine aopq_call (q2) (by simp (maxSteps := 1000000) only [go_sem]) ?_ | refine aop_call (q2) (by simp (maxSteps := 1000000) only [go_sem]) ?_
    try simp (maxSteps := 1000000) only [go_sem, hA.nil, hA.go, hA.yes, hA.noT, hA.noF, hA.skp]
    try simp (maxSteps := 1000000) only [go_sem, hA.nil, hA.go, hA.yes, hA.noT, hA.noF, hA.skp]
    refine hK _ _ ?_; clear hK K hA A
    exact .ret (ret1 (by simp (maxSteps := 1000000) only [go_sem, mayB, h1, h2]) rfl)
  cases h3 : specB sizes fr s.length <;> rw [h3] at q3
  · first | refine .seq (.rg fun A hA K hK => ?_) | refine .seq (.seq (.rg fun A hA K hK => ?_)) | refine .rg fun A hA K hK => ?_ | refine .seq (.rd fun A hA K hK => ?_) | refine .seq (.seq (.rd fun A hA K hK => ?_)) | refine .rd fun A hA K hK => ?_
    simp (maxSteps := 1000000) only [go_sem, hA.nil, hA.go, hA.yes, hA.noT, hA.noF, hA.skp]
    first | refine aopq_call (q1) (by simp (maxSteps := 1000000) only [go_sem]) ?_ | refine aop_call (q1) (by simp (maxSteps := 1000000) only [go_sem]) ?_
    try simp (maxSteps := 1000000) only [go_sem, hA.nil, hA.go, hA.yes, hA.noT, hA.noF, hA.skp]
    try simp (maxSteps := 1000000) only [go_sem, hA.nil, hA.go, hA.yes, hA.noT, hA.noF, hA.skp]
    first | refine aopq_call (q2) (by simp (maxSteps := 1000000) only [go_sem]) ?_ | refine aop_call (q2) (by simp (maxSteps := 1000000) only [go_sem]) ?_
    try simp (maxSteps := 1000000) only [go_sem, hA.nil, hA.go, hA.yes, hA.noT, hA.noF, hA.skp]
    try simp (maxSteps := 1000000) only [go_sem, hA.nil, hA.go, hA.yes, hA.noT, hA.noF, hA.skp]
    first | refine aopq_call (q3) (by simp (maxSteps := 1000000) only [go_sem, List.length_map]) ?_ | refine aop_call (q3) (by simp (maxSteps := 1000000) only [go_sem, List.length_map]) ?_
    try simp (maxSteps := 1000000) only [go_sem, hA.nil, hA.go, hA.yes, hA.noT, hA.noF, hA.skp, List.length_map]
    try simp (maxSteps := 1000000) only [go_sem, hA.nil, hA.go, hA.yes, hA.noT, hA.noF, hA.skp]
    refine hK _ _ ?_; clear hK K hA A
    exact .ret (ret1 (by simp (maxSteps := 1000000) only [go_sem, mayB, h1, h2, h3]) rfl)
  · first | refine .seq (.rg fun A hA K hK => ?_) | refine .seq (.seq (.rg fun A hA K hK => ?_)) | refine .rg fun A hA K hK => ?_ | refine .seq (.rd fun A hA K hK => ?_) | refine .seq (.seq (.rd fun A hA K hK => ?_)) | refine .rd fun A hA K hK => ?_
    simp (maxSteps := 1000000) only [go_sem, hA.nil, hA.go, hA.yes, hA.noT, hA.noF, hA.skp]
    first | refine aopq_call (q1) (by simp (maxSteps := 1000000) only [go_sem]) ?_ | refine aop_call (q1) (by simp (maxSteps := 1000000) only [go_sem]) ?_
    try simp (maxSteps := 1000000) only [go_sem, hA.nil, hA.go, hA.yes, hA.noT, hA.noF, hA.skp]
    try simp (maxSteps := 1000000) only [go_sem, hA.nil, hA.go, hA.yes, hA.noT, hA.noF, hA.skp]
    first | refine aopq_call (q2) (by simp (maxSteps := 1000000) only [go_sem]) ?_ | refine aop_call (q2) (by simp (maxSteps := 1000000) only [go_sem]) ?_
    try simp (maxSteps := 1000000) only [go_sem, hA.nil, hA.go, hA.yes, hA.noT, hA.noF, hA.skp]
    try simp (maxSteps := 1000000) only [go_sem, hA.nil, hA.go, hA.yes, hA.noT, hA.noF, hA.skp]
    first | refine aopq_call (q3) (by simp (maxSteps := 1000000) only [go_sem, List.length_map]) ?_ | refine aop_call (q3) (by simp (maxSteps := 1000000) only [go_sem, List.length_map]) ?_
    try simp (maxSteps := 1000000) only [go_sem, hA.nil, hA.go, hA.yes, hA.noT, hA.noF, hA.skp, List.length_map]
    try simp (maxSteps := 1000000) only [go_sem, hA.nil, hA.go, hA.yes, hA.noT, hA.noF, hA.skp]
    first | refine aopq_call (q4) (by simp (maxSteps := 1000000) only [go_sem, List.length_map]) ?_ | refine aop_call (q4) (by simp (maxSteps := 1000000) only [go_sem, List.length_map]) ?_
    try simp (maxSteps := 1000000) only [go_sem, hA.nil, hA.go, hA.yes, hA.noT, hA.noF, hA.skp, List.length_map]
    try simp (maxSteps := 1000000) only [go_sem, hA.nil, hA.go, hA.yes, hA.noT, hA.noF, hA.skp]
    refine hK _ _ ?_; clear hK K hA A
    exact .ret (ret1 (by simp (maxSteps := 1000000) only [go_sem, mayB, h1, h2, h3]) rfl)
/-- parquetrylaw23.may -/
theorem mayL_spec (sizes s fr to : List Int) (σ : St) : T Try.prog 87 [ints sizes, ints s, ints fr, ints to] σ (.bool (mayB sizes s fr to)) σ := by
  refine in87 (by simp) fun wf hab => ?_
  clear hab
  have q1 := meshRef_spec sizes σ
  have q2 := right1_spec s σ
  have q3 := specRef_spec sizes fr s.length σ
  have q4 := specRef_spec sizes to s.length σ
  unfold c87
  first | refine .seq (.rg fun A hA K hK => ?_) | refine .seq (.seq (.rg fun A hA K hK => ?_)) | refine .rg fun A hA K hK => ?_ | refine .seq (.rd fun A hA K hK => ?_) | refine .seq (.seq (.rd fun A hA K hK => ?_)) | refine .rd fun A hA K hK => ?_
  simp (maxSteps := 1000000) only [go_sem, hA.nil, hA.go, hA.yes, hA.noT, hA.noF, hA.skp]
  refine hK _ _ ?_; clear hK K hA A
  cases h1 : meshB sizes <;> rw [h1] at q1
  · first | refine .seq (.rg fun A hA K hK => ?_) | refine .seq (.seq (.rg fun A hA K hK => ?_)) | refine .rg fun A hA K hK => ?_ | refine .seq (.rd fun A hA K hK => ?_) | refine .seq (.seq (.rd fun A hA K hK => ?_)) | refine .rd fun A hA K hK => ?_
    simp (maxSteps := 1000000) only [go_sem, hA.nil, hA.go, hA.yes, hA.noT, hA.noF, hA.skp]
    first | refine aopq_call (q1) (by simp (maxSteps := 1000000) only [go_sem]) ?_ | refine aop_call (q1) (by simp (maxSteps := 1000000) only [go_sem]) ?_
    try simp (maxSteps := 1000000) only [go_sem, hA.nil, hA.go, hA.yes, hA.noT, hA.noF, hA.skp]
    try simp (maxSteps := 1000000) only [go_sem, hA.nil, hA.go, hA.yes, hA.noT, hA.noF, hA.skp]
    refine hK _ _ ?_; clear hK K hA A
    exact .ret (ret1 (by simp (maxSteps := 1000000) only [go_sem, mayB, h1]) rfl)
  cases h2 : rightS s <;> rw [h2] at q2
  · first | refine .seq (.rg fun A hA K hK => ?_) | refine .seq (.seq (.rg fun A hA K hK => ?_)) | refine .rg fun A hA K hK => ?_ | refine .seq (.rd fun A hA K hK => ?_) | refine .seq (.seq (.rd fun A hA K hK => ?_)) | refine .rd fun A hA K hK => ?_
    simp (maxSteps := 1000000) only [go_sem, hA.nil, hA.go, hA.yes, hA.noT, hA.noF, hA.skp]
    first | refine aopq_call (q1) (by simp (maxSteps := 1000000) only [go_sem]) ?_ | refine aop_call (q1) (by simp (maxSteps := 1000000) only [go_sem]) ?_
    try simp (maxSteps := 1000000) only [go_sem, hA.nil, hA.go, hA.yes, hA.noT, hA.noF, hA.skp]
    try simp (maxSteps := 1000000) only [go_sem, hA.nil, hA.go, hA.yes, hA.noT, hA.noF, hA.skp]
    first | refine aopq_call (q2) (by simp (maxSteps := 1000000) only [go_sem]) ?_ | refine aop_call (q2) (by simp (maxSteps := 1000000) only [go_sem]) ?_
    try simp (maxSteps := 1000000) only [go_sem, hA.nil, hA.go, hA.yes, hA.noT, hA.noF, hA.skp]
    try simp (maxSteps := 1000000) only [go_sem, hA.nil, hA.go, hA.yes, hA.noT, hA.noF, hA.skp]
    refine hK _ _ ?_; clear hK K hA A
    exact .ret (ret1 (by simp (maxSteps := 1000000) only [go_sem, mayB, h1, h2]) rfl)
  cases h3 : specB sizes fr s.length <;> rw [h3] at q3
  · first | refine .seq (.rg fun A hA K hK => ?_) | refine .seq (.seq (.rg fun A hA K hK => ?_)) | refine .rg fun A hA K hK => ?_ | refine .seq (.rd fun A hA K hK => ?_) | refine .seq (.seq (.rd fun A hA K hK => ?_)) | refine .rd fun A hA K hK => ?_
    simp (maxSteps := 1000000) only [go_sem, hA.nil, hA.go, hA.yes, hA.noT, hA.noF, hA.skp]
    first | refine aopq_call (q1) (by simp (maxSteps := 1000000) only [go_sem]) ?_ | refine aop_call (q1) (by simp (maxSteps := 1000000) only [go_sem]) ?_
    try simp (maxSteps := 1000000) only [go_sem, hA.nil, hA.go, hA.yes, hA.noT, hA.noF, hA.skp]
    try simp (maxSteps := 1000000) only [go_sem, hA.nil, hA.go, hA.yes, hA.noT, hA.noF, hA.skp]
    first | refine aopq_call (q2) (by simp (maxSteps := 1000000) only [go_sem]) ?_ | refine aop_call (q2) (by simp (maxSteps := 1000000) only [go_sem]) ?_
    try simp (maxSteps := 1000000) only [go_sem, hA.nil, hA.go, hA.yes, hA.noT, hA.noF, hA.skp]
    try simp (maxSteps := 1000000) only [go_sem, hA.nil, hA.go, hA.yes, hA.noT, hA.noF, hA.skp]
    first | refine aopq_call (q3) (by simp (maxSteps := 1000000) only [go_sem, List.length_map]) ?_ | refine aop_call (q3) (by simp (maxSteps := 1000000) only [go_sem, List.length_map]) ?_
    try simp (maxSteps := 1000000) only [go_sem, hA.nil, hA.go, hA.yes, hA.noT, hA.noF, hA.skp, List.length_map]
    try simp (maxSteps := 1000000) only [go_sem, hA.nil, hA.go, hA.yes, hA.noT, hA.noF, hA.skp]
    refine hK _ _ ?_; clear hK K hA A
    exact .ret (ret1 (by simp (maxSteps := 1000000) only [go_sem, mayB, h1, h2, h3]) rfl)
  · first | refine .seq (.rg fun A hA K hK => ?_) | refine .seq (.seq (.rg fun A hA K hK => ?_)) | refine .rg fun A hA K hK => ?_ | refine .seq (.rd fun A hA K hK => ?_) | refine .seq (.seq (.rd fun A hA K hK => ?_)) | refine .rd fun A hA K hK => ?_
    simp (maxSteps := 1000000) only [go_sem, hA.nil, hA.go, hA.yes, hA.noT, hA.noF, hA.skp]
    first | refine aopq_call (q1) (by simp (maxSteps := 1000000) only [go_sem]) ?_ | refine aop_call (q1) (by simp (maxSteps := 1000000) only [go_sem]) ?_
    try simp (maxSteps := 1000000) only [go_sem, hA.nil, hA.go, hA.yes, hA.noT, hA.noF, hA.skp]
    try simp (maxSteps := 1000000) only [go_sem, hA.nil, hA.go, hA.yes, hA.noT, hA.noF, hA.skp]
    first | refine aopq_call (q2) (by simp (maxSteps := 1000000) only [go_sem]) ?_ | refine aop_call (q2) (by simp (maxSteps := 1000000) only [go_sem]) ?_
    try simp (maxSteps := 1000000) only [go_sem, hA.nil, hA.go, hA.yes, hA.noT, hA.noF, hA.skp]
    try simp (maxSteps := 1000000) only [go_sem, hA.nil, hA.go, hA.yes, hA.noT, hA.noF, hA.skp]
    first | refine aopq_call (q3) (by simp (maxSteps := 1000000) only [go_sem, List.length_map]) ?_ | refine aop_call (q3) (by simp (maxSteps := 1000000) only [go_sem, List.length_map]) ?_
    try simp (maxSteps := 1000000) only [go_sem, hA.nil, hA.go, hA.yes, hA.noT, hA.noF, hA.skp, List.length_map]
    try simp (maxSteps := 1000000) only [go_sem, hA.nil, hA.go, hA.yes, hA.noT, hA.noF, hA.skp]
    first | refine aopq_call (q4) (by simp (maxSteps := 1000000) only [go_sem, List.length_map]) ?_ | refine aop_call (q4) (by simp (maxSteps := 1000000) only [go_sem, List.length_map]) ?_
    try simp (maxSteps := 1000000) only [go_sem, hA.nil, hA.go, hA.yes, hA.noT, hA.noF, hA.skp, List.length_map]
    try simp (maxSteps := 1000000) only [go_sem, hA.nil, hA.go, hA.yes, hA.noT, hA.noF, hA.skp]
    refine hK _ _ ?_; clear hK K hA A
    exact .ret (ret1 (by simp (maxSteps := 1000000) only [go_sem, mayB, h1, h2, h3]) rfl)

def boundE (sizes s fr to : List Int) : Int := if mayB sizes s fr to = true then 64 * devE sizes * devE sizes + 64 else 0
theorem bound_wrap (sizes : List Int) : IntKind.i64.wrap (64 * devE sizes) = 64 * devE sizes ∧ IntKind.i64.wrap (64 * devE sizes * devE sizes) = 64 * devE sizes * devE sizes ∧ IntKind.i64.wrap (64 * devE sizes * devE sizes + 64) = 64 * devE sizes * devE sizes + 64 := by
  obtain ⟨h1, h2, -⟩ := devE_in sizes
  have h3 : 0 ≤ 64 * devE sizes * devE sizes ∧ 64 * devE sizes * devE sizes ≤ 4096 := by
    generalize devE sizes = n at *
    have : n = 0 ∨ n = 1 ∨ n = 2 ∨ n = 3 ∨ n = 4 ∨ n = 5 ∨ n = 6 ∨ n = 7 ∨ n = 8 := by omega
    rcases this with rfl | rfl | rfl | rfl | rfl | rfl | rfl | rfl | rfl <;> decide
  exact ⟨IntWalk.i64_in _ (by omega), IntWalk.i64_in _ (by omega), IntWalk.i64_in _ (by omega)⟩
/-- move.Bound -/
theorem bound_spec (sizes s fr to : List Int) (σ : St) : T Try.prog 88 [ints sizes, ints s, ints fr, ints to] σ (I (boundE sizes s fr to)) σ := by
  refine in88 (by simp) fun wf hab => ?_
  clear hab
  obtain ⟨w1, w2, w3⟩ := bound_wrap sizes
  unfold c88
  first | refine .seq (.rg fun A hA K hK => ?_) | refine .seq (.seq (.rg fun A hA K hK => ?_)) | refine .rg fun A hA K hK => ?_ | refine .seq (.rd fun A hA K hK => ?_) | refine .seq (.seq (.rd fun A hA K hK => ?_)) | refine .rd fun A hA K hK => ?_
  simp (maxSteps := 1000000) only [go_sem, hA.nil, hA.go, hA.yes, hA.noT, hA.noF, hA.skp]
  refine hK _ _ ?_; clear hK K hA A
  first | refine .seq (.rg fun A hA K hK => ?_) | refine .seq (.seq (.rg fun A hA K hK => ?_)) | refine .rg fun A hA K hK => ?_ | refine .seq (.rd fun A hA K hK => ?_) | refine .seq (.seq (.rd fun A hA K hK => ?_)) | refine .rd fun A hA K hK => ?_
  simp (maxSteps := 1000000) only [go_sem, hA.nil, hA.go, hA.yes, hA.noT, hA.noF, hA.skp]
  first | refine aopq_call (mayM_spec sizes s fr to σ) (by simp (maxSteps := 1000000) only [go_sem]) ?_ | refine aop_call (mayM_spec sizes s fr to σ) (by simp (maxSteps := 1000000) only [go_sem]) ?_
  try simp (maxSteps := 1000000) only [go_sem, hA.nil, hA.go, hA.yes, hA.noT, hA.noF, hA.skp]
  refine hK _ _ ?_; clear hK K hA A
  refine .cond (t := !mayB sizes s fr to) (by simp (maxSteps := 1000000) only [go_sem]) (fun ht => ?_) (fun ht => .skip ?_)
  · have hb : boundE sizes s fr to = 0 := if_neg (by intro h; rw [h] at ht; cases ht)
    first | refine .seq (.rg fun A hA K hK => ?_) | refine .seq (.seq (.rg fun A hA K hK => ?_)) | refine .rg fun A hA K hK => ?_ | refine .seq (.rd fun A hA K hK => ?_) | refine .seq (.seq (.rd fun A hA K hK => ?_)) | refine .rd fun A hA K hK => ?_
    simp (maxSteps := 1000000) only [go_sem, hA.nil, hA.go, hA.yes, hA.noT, hA.noF, hA.skp]
    refine hK _ _ ?_; clear hK K hA A
    exact .ret (ret1 (by simp (maxSteps := 1000000) only [go_sem, hb]) rfl)
  · have hb : boundE sizes s fr to = 64 * devE sizes * devE sizes + 64 := if_pos (by simpa using ht)
    first | refine .seq (.rg fun A hA K hK => ?_) | refine .seq (.seq (.rg fun A hA K hK => ?_)) | refine .rg fun A hA K hK => ?_ | refine .seq (.rd fun A hA K hK => ?_) | refine .seq (.seq (.rd fun A hA K hK => ?_)) | refine .rd fun A hA K hK => ?_
    simp (maxSteps := 1000000) only [go_sem, hA.nil, hA.go, hA.yes, hA.noT, hA.noF, hA.skp]
    first | refine aopq_call (dev_spec sizes σ) (by simp (maxSteps := 1000000) only [go_sem]) ?_ | refine aop_call (dev_spec sizes σ) (by simp (maxSteps := 1000000) only [go_sem]) ?_
    try simp (maxSteps := 1000000) only [go_sem, hA.nil, hA.go, hA.yes, hA.noT, hA.noF, hA.skp]
    refine hK _ _ ?_; clear hK K hA A
    first | refine .seq (.rg fun A hA K hK => ?_) | refine .seq (.seq (.rg fun A hA K hK => ?_)) | refine .rg fun A hA K hK => ?_ | refine .seq (.rd fun A hA K hK => ?_) | refine .seq (.seq (.rd fun A hA K hK => ?_)) | refine .rd fun A hA K hK => ?_
    simp (maxSteps := 1000000) only [go_sem, hA.nil, hA.go, hA.yes, hA.noT, hA.noF, hA.skp, w1, w2, w3]
    refine hK _ _ ?_; clear hK K hA A
    exact .ret (ret1 (by simp (maxSteps := 1000000) only [go_sem, hb]) rfl)
end Go.Proofs.Ytfjbabacpnnjmaa.Av
