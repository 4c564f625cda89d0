/- A logic of small values, and walks in it: Shapes: Right, Size; a tensor that is filled. A tensor that is filled; numbers and tensors of a tape. Numbers and tensors of a tape. The code of some functions in few words, and that it is the program's. Printed by a program. A row of one's own handed to a function: told as a plain list. -/
import Derived.Test.YtfjbabacpnnjmaaAv8
import Derived.Test.YtfjbabacpnnjmaaProg
import Derived.KernelRfl
set_option linter.unusedVariables false
set_option linter.unusedSimpArgs false
set_option linter.deprecated false
namespace Go.Proofs.Ytfjbabacpnnjmaa.Av
open Go Go.Av
set_option maxRecDepth 20000
set_option maxHeartbeats 4000000

attribute [local go_sem] step_apply stepD_apply stepE_apply
attribute [local go_sem] aopq_mv aopq_pk aopq_al aopq_bx aopq_bd aopq_bs aopq_ld aopq_st aopq_nc aopq_bin aopq_un aopq_cv aopq_mi aopq_mf aopq_mm aopq_ms aopq_sc aopq_fa aopq_fl aopq_ia aopq_lk aopq_mu aopq_lm aopq_rg aopq_en aopq_ta aopq_ex aopq_ln aopq_ap aopq_mx aopq.eq_3 aop.eq_1 aop.eq_2 aop.eq_3 aop.eq_4 aop.eq_5 aop.eq_6 aop.eq_7 aop.eq_8 aop.eq_9 aop_bin atS_apply aop_un_not aop_un_neg aop.eq_14 aop.eq_15 aop.eq_16 aop.eq_17 aop.eq_18 aop_sc cutS_apply cutN_apply cutL_apply cutO_apply aop.eq_20 aop.eq_21 aop.eq_22 aop.eq_23 aop.eq_24 aop.eq_25 aop.eq_26 aop.eq_27 aop.eq_28 aop.eq_29 aop.eq_30 aop.eq_31 aop.eq_32 blk_push next_push blk_set next_set blk_kill next_kill frL_nil frL_cons Fits_nil Fits_cons Int.reduceBEq Int.reduceBNe Nat.sub_zero Option.map_some Option.map_none List.set_cons_succ true_or or_true false_or or_false Int.le_refl Int.cast_ofNat_Int decide_true decide_false List.cons_append fillA fillR rowsOf List.replicate_succ List.replicate_zero Nat.zero_mul getD_drop List.length_drop splice List.nil_append List.append_nil cond_true cond_false List.set_cons_zero List.length_set ev put_some put_none upd_apply abin asNat bounds row1 mk List.length_cons List.length_nil List.length_map List.drop_zero List.drop_succ_cons List.drop_nil List.getD_cons_zero List.getD_cons_succ Option.getD_none Option.getD_some List.take_succ_cons List.take_zero List.take_nil true_and and_true Int.toNat_natCast if_true if_false Nat.zero_add Nat.add_zero List.map_cons List.map_nil Nat.reduceEqDiff Nat.left_eq_add Nat.add_eq_left Nat.add_left_cancel_iff Nat.add_assoc Nat.reduceSub Nat.reduceAdd Nat.reduceLeDiff Nat.le_refl Nat.zero_le Nat.zero_lt_one Nat.lt_add_one Int.reduceLT Int.reduceLE Int.reduceToNat Nat.reduceLT Nat.reduceBEq Bool.false_eq_true Nat.reduceBNe ne_eq not_false_eq_true not_true_eq_false false_and and_false reduceIte Int.natCast_nonneg reduceCtorEq parts_agg parts_bool parts_int parts_str parts_lit parts_nils parts_sl parts_ptr Int.natCast_nonneg Int.natCast_nonneg beq_self_eq_true bne_self_eq_false Bool.true_and Bool.false_and Bool.and_true Bool.and_false Bool.true_or Bool.false_or Bool.or_true Bool.or_false Bool.not_true Bool.not_false
attribute [local go_sem] instr0 instr1 instr2 instr10 instr11 instr12 instrN instrA instr_len node0 node1 node2 node3 node4 node5 node6 nodeA node_len I ints progA progsA

/-- parquetryref1.Right -/
def okDim (s : List Int) (i : Nat) : Bool := decide (0 ≤ s.getD i 0) && decide (s.getD i 0 ≤ 32) && decide (i < 4)
def prodI (s : List Int) : Int := s.foldl (fun n x => n * x) 1
def rightS (s : List Int) : Bool := (List.range s.length).all (okDim s) && decide (prodI s ≤ 4096)

theorem prodI_take {s : List Int} {i : Nat} (h : i < s.length) : prodI (s.take (i + 1)) = prodI (s.take i) * s[i] := foldl_take _ _ s i h
theorem prodI_bound {s : List Int} : ∀ i, i ≤ s.length → (List.range i).all (okDim s) = true → i ≤ 4 ∧ 0 ≤ prodI (s.take i) ∧ prodI (s.take i) ≤ 32 ^ i
  | 0, _, _ => by simp [prodI]
  | i + 1, hi, h => by
    rw [List.range_succ, List.all_append, Bool.and_eq_true] at h
    obtain ⟨h1, h2, h3⟩ := prodI_bound i (by omega) h.1
    have h4 : okDim s i = true := by simpa using h.2
    simp only [okDim, Bool.and_eq_true, decide_eq_true_eq] at h4
    have hs : s.getD i 0 = s[i] := by simp [List.getD_eq_getElem?_getD, show i < s.length by omega]
    rw [hs] at h4
    rw [prodI_take (by omega)]
    refine ⟨by omega, Int.mul_nonneg h2 h4.1.1, ?_⟩
    rw [Int.pow_succ]
    exact Int.mul_le_mul h3 h4.1.2 h4.1.1 (Int.pow_nonneg (by decide))

theorem right1_spec (s : List Int) (σ : St) : T Try.prog 93 [ints s] σ (.bool (rightS s)) σ := by
  refine in93 (by simp) fun wf hab => ?_
  have hl := hab_ints (hab 0 (by simp))
  clear hab
  unfold c93
  first | refine .seq (.rg fun A hA K hK => ?_) | refine .seq (.seq (.rg fun A hA K hK => ?_)) | refine .rg fun A hA K hK => ?_ | refine .seq (.rd fun A hA K hK => ?_) | refine .seq (.seq (.rd fun A hA K hK => ?_)) | refine .rd fun A hA K hK => ?_
  simp (maxSteps := 1000000) only [go_sem, hA.nil, hA.go, hA.yes, hA.noT, hA.noF, hA.skp]
  refine hK _ _ ?_; clear hK K hA A
  first | refine .seq (.rg fun A hA K hK => ?_) | refine .seq (.seq (.rg fun A hA K hK => ?_)) | refine .rg fun A hA K hK => ?_ | refine .seq (.rd fun A hA K hK => ?_) | refine .seq (.seq (.rd fun A hA K hK => ?_)) | refine .rd fun A hA K hK => ?_
  simp (maxSteps := 1000000) only [go_sem, hA.nil, hA.go, hA.yes, hA.noT, hA.noF, hA.skp]
  refine hK _ _ ?_; clear hK K hA A
  first | refine .seq (.rg fun A hA K hK => ?_) | refine .seq (.seq (.rg fun A hA K hK => ?_)) | refine .rg fun A hA K hK => ?_ | refine .seq (.rd fun A hA K hK => ?_) | refine .seq (.seq (.rd fun A hA K hK => ?_)) | refine .rd fun A hA K hK => ?_
  simp (maxSteps := 1000000) only [go_sem, hA.nil, hA.go, hA.yes, hA.noT, hA.noF, hA.skp]
  refine hK _ _ ?_; clear hK K hA A
  refine .countK (N := s.length) (fun i L t => L = [(0, ints s), (3, I (prodI (s.take i))), (4, I i)] ∧ σ = t ∧ (List.range i).all (okDim s) = true) hl
    ⟨_, ⟨rfl, rfl, by simp⟩, by simp (maxSteps := 1000000) only [go_sem, prodI, List.foldl_nil]; try rfl⟩ ?_ ?_ ?_
  · rintro i L t hi ⟨rfl, rfl, ha⟩
    first | refine .seq (.rg fun A hA K hK => ?_) | refine .seq (.seq (.rg fun A hA K hK => ?_)) | refine .rg fun A hA K hK => ?_ | refine .seq (.rd fun A hA K hK => ?_) | refine .seq (.seq (.rd fun A hA K hK => ?_)) | refine .rd fun A hA K hK => ?_
    simp (maxSteps := 1000000) only [go_sem, hA.nil, hA.go, hA.yes, hA.noT, hA.noF, hA.skp]
    refine hK _ _ ?_; clear hK K hA A
    exact ⟨rfl, by simp (maxSteps := 1000000) only [go_sem, Int.ofNat_lt], _, ⟨rfl, rfl, ha⟩, by simp (maxSteps := 1000000) only [go_sem]⟩
  · rintro i L t hi ⟨rfl, rfl, ha⟩
    have e0 : (i : Int) < s.length := by omega
    have hg : (s.map fun n => [I n]).getD i [] = [I (s.getD i 0)] := by rw [ints_get hi]; simp [List.getD_eq_getElem?_getD, hi]
    obtain ⟨b1, b2, b3⟩ := prodI_bound i (by omega) ha
    have hsi : s.getD i 0 = s[i] := by simp [List.getD_eq_getElem?_getD, hi]
    have bad : okDim s i = false → rightS s = false := by
      intro h
      simp only [rightS, Bool.and_eq_false_iff]
      refine .inl (Bool.eq_false_iff.2 fun hall => ?_)
      rw [List.all_eq_true] at hall
      have := hall i (by simpa using hi)
      rw [this] at h; cases h
    refine .midK (fun L t => L = [(0, ints s), (3, I (prodI (s.take i))), (4, I i)] ∧ σ = t ∧ okDim s i = true) ?_ ?_
    · by_cases h1 : s.getD i 0 < 0
      · have hb := bad (by simp only [okDim, Bool.and_eq_false_iff, decide_eq_false_iff_not]; omega)
        first | refine .seq (.rg fun A hA K hK => ?_) | refine .seq (.seq (.rg fun A hA K hK => ?_)) | refine .rg fun A hA K hK => ?_ | refine .seq (.rd fun A hA K hK => ?_) | refine .seq (.seq (.rd fun A hA K hK => ?_)) | refine .rd fun A hA K hK => ?_
        simp (maxSteps := 1000000) only [go_sem, hA.nil, hA.go, hA.yes, hA.noT, hA.noF, hA.skp, e0, hg, h1]
        refine hK _ _ ?_; clear hK K hA A
        refine .cond (t := true) (by simp (maxSteps := 1000000) only [go_sem]) (fun _ => ?_) (fun h => by cases h)
        first | refine .seq (.rg fun A hA K hK => ?_) | refine .seq (.seq (.rg fun A hA K hK => ?_)) | refine .rg fun A hA K hK => ?_ | refine .seq (.rd fun A hA K hK => ?_) | refine .seq (.seq (.rd fun A hA K hK => ?_)) | refine .rd fun A hA K hK => ?_
        simp (maxSteps := 1000000) only [go_sem, hA.nil, hA.go, hA.yes, hA.noT, hA.noF, hA.skp]
        refine hK _ _ ?_; clear hK K hA A
        exact .ret (ret1 (by simp (maxSteps := 1000000) only [go_sem, hb]) rfl)
      · by_cases h2 : s.getD i 0 > 32
        · have hb := bad (by simp only [okDim, Bool.and_eq_false_iff, decide_eq_false_iff_not]; omega)
          first | refine .seq (.rg fun A hA K hK => ?_) | refine .seq (.seq (.rg fun A hA K hK => ?_)) | refine .rg fun A hA K hK => ?_ | refine .seq (.rd fun A hA K hK => ?_) | refine .seq (.seq (.rd fun A hA K hK => ?_)) | refine .rd fun A hA K hK => ?_
          simp (maxSteps := 1000000) only [go_sem, hA.nil, hA.go, hA.yes, hA.noT, hA.noF, hA.skp, e0, hg, h1, h2]
          refine hK _ _ ?_; clear hK K hA A
          refine .cond (t := true) (by simp (maxSteps := 1000000) only [go_sem]) (fun _ => ?_) (fun h => by cases h)
          first | refine .seq (.rg fun A hA K hK => ?_) | refine .seq (.seq (.rg fun A hA K hK => ?_)) | refine .rg fun A hA K hK => ?_ | refine .seq (.rd fun A hA K hK => ?_) | refine .seq (.seq (.rd fun A hA K hK => ?_)) | refine .rd fun A hA K hK => ?_
          simp (maxSteps := 1000000) only [go_sem, hA.nil, hA.go, hA.yes, hA.noT, hA.noF, hA.skp]
          refine hK _ _ ?_; clear hK K hA A
          exact .ret (ret1 (by simp (maxSteps := 1000000) only [go_sem, hb]) rfl)
        · by_cases h3 : (i : Int) ≥ 4
          · have hb := bad (by simp only [okDim, Bool.and_eq_false_iff, decide_eq_false_iff_not]; omega)
            first | refine .seq (.rg fun A hA K hK => ?_) | refine .seq (.seq (.rg fun A hA K hK => ?_)) | refine .rg fun A hA K hK => ?_ | refine .seq (.rd fun A hA K hK => ?_) | refine .seq (.seq (.rd fun A hA K hK => ?_)) | refine .rd fun A hA K hK => ?_
            simp (maxSteps := 1000000) only [go_sem, hA.nil, hA.go, hA.yes, hA.noT, hA.noF, hA.skp, e0, hg, h1, h2, h3]
            refine hK _ _ ?_; clear hK K hA A
            refine .cond (t := true) (by simp (maxSteps := 1000000) only [go_sem]) (fun _ => ?_) (fun h => by cases h)
            first | refine .seq (.rg fun A hA K hK => ?_) | refine .seq (.seq (.rg fun A hA K hK => ?_)) | refine .rg fun A hA K hK => ?_ | refine .seq (.rd fun A hA K hK => ?_) | refine .seq (.seq (.rd fun A hA K hK => ?_)) | refine .rd fun A hA K hK => ?_
            simp (maxSteps := 1000000) only [go_sem, hA.nil, hA.go, hA.yes, hA.noT, hA.noF, hA.skp]
            refine hK _ _ ?_; clear hK K hA A
            exact .ret (ret1 (by simp (maxSteps := 1000000) only [go_sem, hb]) rfl)
          · first | refine .seq (.rg fun A hA K hK => ?_) | refine .seq (.seq (.rg fun A hA K hK => ?_)) | refine .rg fun A hA K hK => ?_ | refine .seq (.rd fun A hA K hK => ?_) | refine .seq (.seq (.rd fun A hA K hK => ?_)) | refine .rd fun A hA K hK => ?_
            simp (maxSteps := 1000000) only [go_sem, hA.nil, hA.go, hA.yes, hA.noT, hA.noF, hA.skp, e0, hg, h1, h2, h3]
            refine hK _ _ ?_; clear hK K hA A
            refine .cond (t := false) (by simp (maxSteps := 1000000) only [go_sem]) (fun h => by cases h) (fun _ => .skip ?_)
            exact ⟨_, ⟨rfl, rfl, by simp only [okDim, Bool.and_eq_true, decide_eq_true_eq]; omega⟩, by simp (maxSteps := 1000000) only [go_sem]⟩
    · rintro L t ⟨rfl, rfl, hok⟩
      have hok' := hok
      simp only [okDim, Bool.and_eq_true, decide_eq_true_eq] at hok'
      have ha' : (List.range (i + 1)).all (okDim s) = true := by rw [List.range_succ, List.all_append, ha]; simpa using hok
      have b4 := prodI_bound (i + 1) (by omega) ha'
      have b5 : (32 : Int) ^ (i + 1) ≤ 32 ^ 4 := by
        rcases (by omega : i = 0 ∨ i = 1 ∨ i = 2 ∨ i = 3) with rfl | rfl | rfl | rfl <;> decide
      have w1 : IntKind.i64.wrap (prodI (s.take i) * s.getD i 0) = prodI (s.take (i + 1)) := by
        rw [prodI_take hi, ← hsi, IntWalk.i64_in]
        rw [prodI_take hi, ← hsi] at b4; omega
      first | refine .seq (.rg fun A hA K hK => ?_) | refine .seq (.seq (.rg fun A hA K hK => ?_)) | refine .rg fun A hA K hK => ?_ | refine .seq (.rd fun A hA K hK => ?_) | refine .seq (.seq (.rd fun A hA K hK => ?_)) | refine .rd fun A hA K hK => ?_
      simp (maxSteps := 1000000) only [go_sem, hA.nil, hA.go, hA.yes, hA.noT, hA.noF, hA.skp, e0, hg, w1]
      refine hK _ _ ?_; clear hK K hA A
      exact ⟨by simp (maxSteps := 1000000) only [go_sem], _, ⟨rfl, rfl, ha'⟩, by simp (maxSteps := 1000000) only [go_sem]; try rfl⟩
  · rintro L t F ⟨rfl, rfl, ha⟩ hf
    simp (maxSteps := 1000000) only [go_sem] at hf
    rw [List.take_length] at hf
    have hr : rightS s = decide (prodI s ≤ 4096) := by rw [rightS, ha]; rfl
    first | refine .seq (.rg fun A hA K hK => ?_) | refine .seq (.seq (.rg fun A hA K hK => ?_)) | refine .rg fun A hA K hK => ?_ | refine .seq (.rd fun A hA K hK => ?_) | refine .seq (.seq (.rd fun A hA K hK => ?_)) | refine .rd fun A hA K hK => ?_
    simp (maxSteps := 1000000) only [go_sem, hA.nil, hA.go, hA.yes, hA.noT, hA.noF, hA.skp, hf]
    refine hK _ _ ?_; clear hK K hA A
    exact .ret (ret1 (by simp (maxSteps := 1000000) only [go_sem, hr]) rfl)


def sizeE (s : List Int) : Int := if rightS s = true then prodI s else 0
theorem sizeE_in (s : List Int) : 0 ≤ sizeE s ∧ sizeE s ≤ 4096 := by
  unfold sizeE; split
  · rename_i h
    simp only [rightS, Bool.and_eq_true, decide_eq_true_eq] at h
    have := prodI_bound s.length (Nat.le_refl _) h.1
    rw [List.take_length] at this
    exact ⟨this.2.1, h.2⟩
  · omega

/-- parquetryref1.Size -/
theorem size_spec (s : List Int) (σ : St) : T Try.prog 91 [ints s] σ (I (sizeE s)) σ := by
  refine in91 (by simp) fun wf hab => ?_
  have hl := hab_ints (hab 0 (by simp))
  clear hab
  unfold c91
  first | refine .seq (.rg fun A hA K hK => ?_) | refine .seq (.seq (.rg fun A hA K hK => ?_)) | refine .rg fun A hA K hK => ?_ | refine .seq (.rd fun A hA K hK => ?_) | refine .seq (.seq (.rd fun A hA K hK => ?_)) | refine .rd fun A hA K hK => ?_
  simp (maxSteps := 1000000) only [go_sem, hA.nil, hA.go, hA.yes, hA.noT, hA.noF, hA.skp]
  refine hK _ _ ?_; clear hK K hA A
  first | refine .seq (.rg fun A hA K hK => ?_) | refine .seq (.seq (.rg fun A hA K hK => ?_)) | refine .rg fun A hA K hK => ?_ | refine .seq (.rd fun A hA K hK => ?_) | refine .seq (.seq (.rd fun A hA K hK => ?_)) | refine .rd fun A hA K hK => ?_
  simp (maxSteps := 1000000) only [go_sem, hA.nil, hA.go, hA.yes, hA.noT, hA.noF, hA.skp]
  first | refine aopq_call (right1_spec s _) (by simp (maxSteps := 1000000) only [go_sem]) ?_ | refine aop_call (right1_spec s _) (by simp (maxSteps := 1000000) only [go_sem]) ?_
  try simp (maxSteps := 1000000) only [go_sem, hA.nil, hA.go, hA.yes, hA.noT, hA.noF, hA.skp]
  refine hK _ _ ?_; clear hK K hA A
  refine .cond (t := !rightS s) (by simp (maxSteps := 1000000) only [go_sem]) (fun ht => ?_) (fun ht => .skip ?_)
  · have hs : sizeE s = 0 := if_neg (by intro h; rw [h] at ht; cases ht)
    first | refine .seq (.rg fun A hA K hK => ?_) | refine .seq (.seq (.rg fun A hA K hK => ?_)) | refine .rg fun A hA K hK => ?_ | refine .seq (.rd fun A hA K hK => ?_) | refine .seq (.seq (.rd fun A hA K hK => ?_)) | refine .rd fun A hA K hK => ?_
    simp (maxSteps := 1000000) only [go_sem, hA.nil, hA.go, hA.yes, hA.noT, hA.noF, hA.skp]
    refine hK _ _ ?_; clear hK K hA A
    exact .ret (ret1 (by simp (maxSteps := 1000000) only [go_sem, hs]) rfl)
  have hr : rightS s = true := by simpa using ht
  have hs : sizeE s = prodI s := if_pos hr
  have ha : (List.range s.length).all (okDim s) = true := by
    simp only [rightS, Bool.and_eq_true] at hr; exact hr.1
  first | refine .seq (.rg fun A hA K hK => ?_) | refine .seq (.seq (.rg fun A hA K hK => ?_)) | refine .rg fun A hA K hK => ?_ | refine .seq (.rd fun A hA K hK => ?_) | refine .seq (.seq (.rd fun A hA K hK => ?_)) | refine .rd fun A hA K hK => ?_
  simp (maxSteps := 1000000) only [go_sem, hA.nil, hA.go, hA.yes, hA.noT, hA.noF, hA.skp]
  refine hK _ _ ?_; clear hK K hA A
  first | refine .seq (.rg fun A hA K hK => ?_) | refine .seq (.seq (.rg fun A hA K hK => ?_)) | refine .rg fun A hA K hK => ?_ | refine .seq (.rd fun A hA K hK => ?_) | refine .seq (.seq (.rd fun A hA K hK => ?_)) | refine .rd fun A hA K hK => ?_
  simp (maxSteps := 1000000) only [go_sem, hA.nil, hA.go, hA.yes, hA.noT, hA.noF, hA.skp]
  refine hK _ _ ?_; clear hK K hA A
  refine .countK (N := s.length) (fun i L t => L = [(0, ints s), (3, I (prodI (s.take i))), (4, I i)] ∧ σ = t) hl
    ⟨_, ⟨rfl, rfl⟩, by simp (maxSteps := 1000000) only [go_sem, prodI, List.foldl_nil]; try rfl⟩ ?_ ?_ ?_
  · rintro i L t hi ⟨rfl, rfl⟩
    first | refine .seq (.rg fun A hA K hK => ?_) | refine .seq (.seq (.rg fun A hA K hK => ?_)) | refine .rg fun A hA K hK => ?_ | refine .seq (.rd fun A hA K hK => ?_) | refine .seq (.seq (.rd fun A hA K hK => ?_)) | refine .rd fun A hA K hK => ?_
    simp (maxSteps := 1000000) only [go_sem, hA.nil, hA.go, hA.yes, hA.noT, hA.noF, hA.skp]
    refine hK _ _ ?_; clear hK K hA A
    exact ⟨rfl, by simp (maxSteps := 1000000) only [go_sem, Int.ofNat_lt], _, ⟨rfl, rfl⟩, by simp (maxSteps := 1000000) only [go_sem]⟩
  · rintro i L t hi ⟨rfl, rfl⟩
    have e0 : (i : Int) < s.length := by omega
    have hg : (s.map fun n => [I n]).getD i [] = [I (s.getD i 0)] := by rw [ints_get hi]; simp [List.getD_eq_getElem?_getD, hi]
    have hsi : s.getD i 0 = s[i] := by simp [List.getD_eq_getElem?_getD, hi]
    have ha' : (List.range (i + 1)).all (okDim s) = true := by
      rw [List.all_eq_true] at ha ⊢
      intro x hx
      exact ha x (by simp at hx ⊢; omega)
    have b4 := prodI_bound (i + 1) (by omega) ha'
    have b5 : (32 : Int) ^ (i + 1) ≤ 32 ^ 4 := by
      rcases (by omega : i = 0 ∨ i = 1 ∨ i = 2 ∨ i = 3) with rfl | rfl | rfl | rfl <;> decide
    have w1 : IntKind.i64.wrap (prodI (s.take i) * s.getD i 0) = prodI (s.take (i + 1)) := by
      rw [prodI_take hi, ← hsi, IntWalk.i64_in]
      rw [prodI_take hi, ← hsi] at b4; omega
    first | refine .seq (.rg fun A hA K hK => ?_) | refine .seq (.seq (.rg fun A hA K hK => ?_)) | refine .rg fun A hA K hK => ?_ | refine .seq (.rd fun A hA K hK => ?_) | refine .seq (.seq (.rd fun A hA K hK => ?_)) | refine .rd fun A hA K hK => ?_
    simp (maxSteps := 1000000) only [go_sem, hA.nil, hA.go, hA.yes, hA.noT, hA.noF, hA.skp, e0, hg, w1]
    refine hK _ _ ?_; clear hK K hA A
    exact ⟨by simp (maxSteps := 1000000) only [go_sem], _, ⟨rfl, rfl⟩, by simp (maxSteps := 1000000) only [go_sem]; try rfl⟩
  · rintro L t F ⟨rfl, rfl⟩ hf
    simp (maxSteps := 1000000) only [go_sem] at hf
    rw [List.take_length] at hf
    first | refine .seq (.rg fun A hA K hK => ?_) | refine .seq (.seq (.rg fun A hA K hK => ?_)) | refine .rg fun A hA K hK => ?_ | refine .seq (.rd fun A hA K hK => ?_) | refine .seq (.seq (.rd fun A hA K hK => ?_)) | refine .rd fun A hA K hK => ?_
    simp (maxSteps := 1000000) only [go_sem, hA.nil, hA.go, hA.yes, hA.noT, hA.noF, hA.skp, hf]
    refine hK _ _ ?_; clear hK K hA A
    exact .ret (ret1 (by simp (maxSteps := 1000000) only [go_sem, hs]) rfl)

end Go.Proofs.Ytfjbabacpnnjmaa.Av

namespace Go.Proofs.Ytfjbabacpnnjmaa.Av
open Go Go.Av
set_option maxRecDepth 20000
set_option maxHeartbeats 4000000

attribute [local go_sem] step_apply stepD_apply stepE_apply
attribute [local go_sem] aopq_mv aopq_pk aopq_al aopq_bx aopq_bd aopq_bs aopq_ld aopq_st aopq_nc aopq_bin aopq_un aopq_cv aopq_mi aopq_mf aopq_mm aopq_ms aopq_sc aopq_fa aopq_fl aopq_ia aopq_lk aopq_mu aopq_lm aopq_rg aopq_en aopq_ta aopq_ex aopq_ln aopq_ap aopq_mx aopq.eq_3 aop.eq_1 aop.eq_2 aop.eq_3 aop.eq_4 aop.eq_5 aop.eq_6 aop.eq_7 aop.eq_8 aop.eq_9 aop_bin atS_apply aop_un_not aop_un_neg aop.eq_14 aop.eq_15 aop.eq_16 aop.eq_17 aop.eq_18 aop_sc cutS_apply cutN_apply cutL_apply cutO_apply aop.eq_20 aop.eq_21 aop.eq_22 aop.eq_23 aop.eq_24 aop.eq_25 aop.eq_26 aop.eq_27 aop.eq_28 aop.eq_29 aop.eq_30 aop.eq_31 aop.eq_32 blk_push next_push blk_set next_set blk_kill next_kill frL_nil frL_cons Fits_nil Fits_cons Int.reduceBEq Int.reduceBNe Nat.sub_zero Option.map_some Option.map_none List.set_cons_succ true_or or_true false_or or_false Int.le_refl Int.cast_ofNat_Int decide_true decide_false List.cons_append fillA fillR rowsOf List.replicate_succ List.replicate_zero Nat.zero_mul getD_drop List.length_drop splice List.nil_append List.append_nil cond_true cond_false List.set_cons_zero List.length_set ev put_some put_none upd_apply abin asNat bounds row1 mk List.length_cons List.length_nil List.length_map List.drop_zero List.drop_succ_cons List.drop_nil List.getD_cons_zero List.getD_cons_succ Option.getD_none Option.getD_some List.take_succ_cons List.take_zero List.take_nil true_and and_true Int.toNat_natCast if_true if_false Nat.zero_add Nat.add_zero List.map_cons List.map_nil Nat.reduceEqDiff Nat.left_eq_add Nat.add_eq_left Nat.add_left_cancel_iff Nat.add_assoc Nat.reduceSub Nat.reduceAdd Nat.reduceLeDiff Nat.le_refl Nat.zero_le Nat.zero_lt_one Nat.lt_add_one Int.reduceLT Int.reduceLE Int.reduceToNat Nat.reduceLT Nat.reduceBEq Bool.false_eq_true Nat.reduceBNe ne_eq not_false_eq_true not_true_eq_false false_and and_false reduceIte Int.natCast_nonneg reduceCtorEq parts_agg parts_bool parts_int parts_str parts_lit parts_nils parts_sl parts_ptr Int.natCast_nonneg Int.natCast_nonneg beq_self_eq_true bne_self_eq_false Bool.true_and Bool.false_and Bool.and_true Bool.and_false Bool.true_or Bool.false_or Bool.or_true Bool.or_false Bool.not_true Bool.not_false
attribute [local go_sem] instr0 instr1 instr2 instr10 instr11 instr12 instrN instrA instr_len node0 node1 node2 node3 node4 node5 node6 nodeA node_len I ints progA progsA

/-- A cell of a struct in a slot's block becomes plain. -/
theorem frz1 {P : Program} {n0 : Nat} {c : C} {Q : Exit → Fr → St → Prop} {F : Fr} {σ : St} (b' j : Nat) {c' n sz sz' : Nat} {row : List AV} {rows : List (List AV)} (hb' : σ.blk b' = some (.cells sz' [row])) (hj : j < row.length) (hc : row.getD j .undef = .sl c' 0 n) (hb : σ.blk c' = some (.cells sz rows)) (hne : b' ≠ c') (hn : n = rows.length)
    (h : SWP P n0 c Q F ((σ.kill c').set b' (.cells sz' [row.set j (.lit sz rows)]))) : SWP P n0 c Q F σ := by
  refine .ent (.freezeAt (i := 0) (j := j) hb' (by simp) (by simpa using hj) (by simpa using hc) hb hne (by omega)) ?_
  subst hn; simpa using h

/-- parquetryref1.Fill: its numbers are the caller's own. -/
theorem fill_spec (s : List Int) (hs : s.length ≤ 2 ^ 20) (n : Int) (σ : St) : TQ Try.prog 48 [ints s, I n] σ fun v t => ∃ b, v = .agg [ints s, .sl b 0 (sizeE s).toNat] ∧ t.blk b = some (.cells 1 (List.replicate (sizeE s).toNat [I n])) ∧ σ.next ≤ b ∧ b < t.next ∧ Ext σ t := by
  refine in48 (by simp) fun wf hab => ?_
  clear hab
  obtain ⟨z0, z1⟩ := sizeE_in s
  obtain ⟨N, hN⟩ := Int.eq_ofNat_of_zero_le z0
  rw [hN] at z1 ⊢
  rw [Int.toNat_natCast]
  have m1 : s.length ≤ most := by simp only [most]; omega
  have m2 : s.length * 8 ≤ most := by simp only [most]; omega
  unfold c48
  first | refine .seq (.rg fun A hA K hK => ?_) | refine .seq (.seq (.rg fun A hA K hK => ?_)) | refine .rg fun A hA K hK => ?_ | refine .seq (.rd fun A hA K hK => ?_) | refine .seq (.seq (.rd fun A hA K hK => ?_)) | refine .rd fun A hA K hK => ?_
  simp (maxSteps := 1000000) only [go_sem, hA.nil, hA.go, hA.yes, hA.noT, hA.noF, hA.skp]
  refine hK _ _ ?_; clear hK K hA A
  refine .midK (fun L t => L = [(0, ints s), (1, I n), (4, .ptr σ.next 0 0), (5, .ptr (σ.next + 2) 0 0)] ∧ ∃ c, t.blk (σ.next + 2) = some (.cells 2 [[ints s, .sl c 0 0]]) ∧ t.blk c = some (.cells 1 []) ∧ t.blk σ.next = some (.cells 2 [[.nils, .nils]]) ∧
    σ.next + 2 < c ∧ c < t.next ∧ ∀ b, b < σ.next → t.blk b = σ.blk b) (.entQ ?_) ?_
  · first | refine .seq (.rg fun A hA K hK => ?_) | refine .seq (.seq (.rg fun A hA K hK => ?_)) | refine .rg fun A hA K hK => ?_ | refine .seq (.rd fun A hA K hK => ?_) | refine .seq (.seq (.rd fun A hA K hK => ?_)) | refine .rd fun A hA K hK => ?_
    simp (maxSteps := 1000000) only [go_sem, hA.nil, hA.go, hA.yes, hA.noT, hA.noF, hA.skp, m1, m2, List.length_map]
    refine hK _ _ ?_; clear hK K hA A
    have ht : List.take s.length (s.map fun n => [I n]) = s.map fun n => [I n] := List.take_of_length_le (by simp)
    refine ⟨_, _, Ent.trans (.freezeAt (b' := σ.next + 2) (b := σ.next + 1) (sz' := 2) (sz := 1) (i := 0) (j := 0) (off := 0) (n := s.length) (rows' := [[.sl (σ.next + 1) 0 s.length, .nils]]) (rows := s.map fun n => [I n]) (by simp (maxSteps := 1000000) only [go_sem]) (by simp) (by simp) rfl (by simp (maxSteps := 1000000) only [go_sem]) (by omega) (by simp))
      (.virtAt (b' := σ.next + 2) (i := 0) (j := 1) 1 (sz' := 2) (rows' := [[ints s, .nils]]) (by simp (maxSteps := 1000000) only [go_sem, ht]) (by simp) (by simp) rfl), _, ⟨rfl, σ.next + 3, ?_, ?_, ?_, by omega, ?_, fun b hb => ?_⟩, by simp (maxSteps := 1000000) only [go_sem]⟩
    · simp (maxSteps := 1000000) only [go_sem, ht]
    · simp (maxSteps := 1000000) only [go_sem]
    · simp (maxSteps := 1000000) only [go_sem]
    · simp (maxSteps := 1000000) only [go_sem]; try omega
    · simp (disch := omega) only [go_sem, if_neg]
  rintro L t ⟨rfl, c, h5, hc, h4, hcn, hct, hx⟩
  first | refine .seq (.rg fun A hA K hK => ?_) | refine .seq (.seq (.rg fun A hA K hK => ?_)) | refine .rg fun A hA K hK => ?_ | refine .seq (.rd fun A hA K hK => ?_) | refine .seq (.seq (.rd fun A hA K hK => ?_)) | refine .rd fun A hA K hK => ?_
  simp (maxSteps := 1000000) only [go_sem, hA.nil, hA.go, hA.yes, hA.noT, hA.noF, hA.skp]
  refine hK _ _ ?_; clear hK K hA A
  refine .countK (N := N) (fun i L t => L = [(0, ints s), (1, I n), (4, .ptr σ.next 0 0), (5, .ptr (σ.next + 2) 0 0), (6, I i)] ∧ ∃ c, t.blk (σ.next + 2) = some (.cells 2 [[ints s, .sl c 0 i]]) ∧ t.blk c = some (.cells 1 (List.replicate i [I n])) ∧ t.blk σ.next = some (.cells 2 [[.nils, .nils]]) ∧
    σ.next + 2 < c ∧ c < t.next ∧ ∀ b, b < σ.next → t.blk b = σ.blk b) (by simp only [most]; omega) ⟨_, ⟨rfl, c, h5, hc, h4, hcn, hct, hx⟩, by simp (maxSteps := 1000000) only [go_sem]; try rfl⟩ ?_ ?_ ?_
  · rintro i L t hi ⟨rfl, hh⟩
    first | refine .seq (.rg fun A hA K hK => ?_) | refine .seq (.seq (.rg fun A hA K hK => ?_)) | refine .rg fun A hA K hK => ?_ | refine .seq (.rd fun A hA K hK => ?_) | refine .seq (.seq (.rd fun A hA K hK => ?_)) | refine .rd fun A hA K hK => ?_
    simp (maxSteps := 1000000) only [go_sem, hA.nil, hA.go, hA.yes, hA.noT, hA.noF, hA.skp]
    first | refine aopq_call (size_spec s _) (by simp (maxSteps := 1000000) only [go_sem, hN]) ?_ | refine aop_call (size_spec s _) (by simp (maxSteps := 1000000) only [go_sem, hN]) ?_
    try simp (maxSteps := 1000000) only [go_sem, hA.nil, hA.go, hA.yes, hA.noT, hA.noF, hA.skp, hN]
    refine hK _ _ ?_; clear hK K hA A
    exact ⟨rfl, by simp (maxSteps := 1000000) only [go_sem, Int.ofNat_lt], _, ⟨rfl, hh⟩, by simp (maxSteps := 1000000) only [go_sem]⟩
  · rintro i L t hi ⟨rfl, c, h5, hc, h4, hcn, hct, hx⟩
    have e1 : ¬ σ.next + 2 = t.next := by omega
    have e2 : ¬ σ.next + 2 = c := by omega
    have e3 : ¬ σ.next = t.next := by omega
    have e4 : ¬ σ.next = c := by omega
    have e5 : ¬ t.next = σ.next + 2 := by omega
    have m3 : i + 1 ≤ most := by simp only [most]; omega
    have m4 : (i + 1) * 8 ≤ most := by simp only [most]; omega
    have ht : List.take i (List.replicate i [I n]) = List.replicate i [I n] := List.take_of_length_le (by simp)
    first | refine .seq (.rg fun A hA K hK => ?_) | refine .seq (.seq (.rg fun A hA K hK => ?_)) | refine .rg fun A hA K hK => ?_ | refine .seq (.rd fun A hA K hK => ?_) | refine .seq (.seq (.rd fun A hA K hK => ?_)) | refine .rd fun A hA K hK => ?_
    simp (maxSteps := 1000000) only [go_sem, hA.nil, hA.go, hA.yes, hA.noT, hA.noF, hA.skp, h5, hc, e1, e2, m3, m4, ht, List.length_replicate]
    refine hK _ _ ?_; clear hK K hA A
    refine ⟨by simp (maxSteps := 1000000) only [go_sem], _, ⟨rfl, t.next, ?_, ?_, ?_, by omega, ?_, fun b hb => ?_⟩, by simp (maxSteps := 1000000) only [go_sem]; try rfl⟩
    · simp (maxSteps := 1000000) only [go_sem]; try rfl
    · simp (maxSteps := 1000000) only [go_sem, e5, List.replicate_succ']
    · simp (maxSteps := 1000000) only [go_sem, e3, e4, h4]; try (simp; omega)
    · simp (maxSteps := 1000000) only [go_sem]; try omega
    · simp (disch := omega) only [go_sem, if_neg, hx b hb]
  · rintro L t F ⟨rfl, c, h5, hc, h4, hcn, hct, hx⟩ hf
    simp (maxSteps := 1000000) only [go_sem] at hf
    have e6 : ¬ σ.next = σ.next + 2 := by omega
    have e7 : ¬ c = σ.next := by omega
    first | refine .seq (.rg fun A hA K hK => ?_) | refine .seq (.seq (.rg fun A hA K hK => ?_)) | refine .rg fun A hA K hK => ?_ | refine .seq (.rd fun A hA K hK => ?_) | refine .seq (.seq (.rd fun A hA K hK => ?_)) | refine .rd fun A hA K hK => ?_
    simp (maxSteps := 1000000) only [go_sem, hA.nil, hA.go, hA.yes, hA.noT, hA.noF, hA.skp, hf, h5, h4]
    refine hK _ _ ?_; clear hK K hA A
    refine .ret ⟨[.agg [ints s, .sl c 0 N]], by simp [resOne, hf, go_sem], _, _, .refl _ _ _, c, rfl, by simp (maxSteps := 1000000) only [go_sem, e7, hc], by omega, by simp (maxSteps := 1000000) only [go_sem]; exact hct, by simp (maxSteps := 1000000) only [go_sem]; omega, fun b hb => ?_⟩
    simp (disch := omega) only [go_sem, if_neg, hx b hb]

end Go.Proofs.Ytfjbabacpnnjmaa.Av

namespace Go.Proofs.Ytfjbabacpnnjmaa.Av
open Go Go.Av
set_option maxRecDepth 20000
set_option maxHeartbeats 4000000

attribute [local go_sem] step_apply stepD_apply stepE_apply
attribute [local go_sem] aopq_mv aopq_pk aopq_al aopq_bx aopq_bd aopq_bs aopq_ld aopq_st aopq_nc aopq_bin aopq_un aopq_cv aopq_mi aopq_mf aopq_mm aopq_ms aopq_sc aopq_fa aopq_fl aopq_ia aopq_lk aopq_mu aopq_lm aopq_rg aopq_en aopq_ta aopq_ex aopq_ln aopq_ap aopq_mx aopq.eq_3 aop.eq_1 aop.eq_2 aop.eq_3 aop.eq_4 aop.eq_5 aop.eq_6 aop.eq_7 aop.eq_8 aop.eq_9 aop_bin atS_apply aop_un_not aop_un_neg aop.eq_14 aop.eq_15 aop.eq_16 aop.eq_17 aop.eq_18 aop_sc cutS_apply cutN_apply cutL_apply cutO_apply aop.eq_20 aop.eq_21 aop.eq_22 aop.eq_23 aop.eq_24 aop.eq_25 aop.eq_26 aop.eq_27 aop.eq_28 aop.eq_29 aop.eq_30 aop.eq_31 aop.eq_32 blk_push next_push blk_set next_set blk_kill next_kill frL_nil frL_cons Fits_nil Fits_cons Int.reduceBEq Int.reduceBNe Nat.sub_zero Option.map_some Option.map_none List.set_cons_succ true_or or_true false_or or_false Int.le_refl Int.cast_ofNat_Int decide_true decide_false List.cons_append fillA fillR rowsOf List.replicate_succ List.replicate_zero Nat.zero_mul getD_drop List.length_drop splice List.nil_append List.append_nil cond_true cond_false List.set_cons_zero List.length_set ev put_some put_none upd_apply abin asNat bounds row1 mk List.length_cons List.length_nil List.length_map List.drop_zero List.drop_succ_cons List.drop_nil List.getD_cons_zero List.getD_cons_succ Option.getD_none Option.getD_some List.take_succ_cons List.take_zero List.take_nil true_and and_true Int.toNat_natCast if_true if_false Nat.zero_add Nat.add_zero List.map_cons List.map_nil Nat.reduceEqDiff Nat.left_eq_add Nat.add_eq_left Nat.add_left_cancel_iff Nat.add_assoc Nat.reduceSub Nat.reduceAdd Nat.reduceLeDiff Nat.le_refl Nat.zero_le Nat.zero_lt_one Nat.lt_add_one Int.reduceLT Int.reduceLE Int.reduceToNat Nat.reduceLT Nat.reduceBEq Bool.false_eq_true Nat.reduceBNe ne_eq not_false_eq_true not_true_eq_false false_and and_false reduceIte Int.natCast_nonneg reduceCtorEq parts_agg parts_bool parts_int parts_str parts_lit parts_nils parts_sl parts_ptr Int.natCast_nonneg Int.natCast_nonneg beq_self_eq_true bne_self_eq_false Bool.true_and Bool.false_and Bool.and_true Bool.and_false Bool.true_or Bool.false_or Bool.or_true Bool.or_false Bool.not_true Bool.not_false
attribute [local go_sem] instr0 instr1 instr2 instr10 instr11 instr12 instrN instrA instr_len node0 node1 node2 node3 node4 node5 node6 nodeA node_len I ints progA progsA

def tabN : List Int := [9223372036854775807, -9223372036854775808, 4611686018427387904, -1099511627776, 8589934592, 3037000500]
def numE (l : List Int) (p : Nat) : Int := if nxE l p 9 = 0 then tabN.getD (nxE l (nxP l p 9) 6).toNat 0 else if nxE l p 9 = 1 then 0 else IntKind.i64.wrap (nxE l (nxP l p 9) 19 - 9)
def numP (l : List Int) (p : Nat) : Nat := if nxE l p 9 = 0 then nxP l (nxP l p 9) 6 else if nxE l p 9 = 1 then nxP l p 9 else nxP l (nxP l p 9) 19
theorem nxP_le {l : List Int} {p : Nat} (h : p ≤ l.length) (n : Int) : nxP l p n ≤ l.length := by
  unfold nxP; split <;> omega
theorem numP_le {l : List Int} {p : Nat} (h : p ≤ l.length) : numP l p ≤ l.length := by
  unfold numP; split
  · exact nxP_le (nxP_le h _) _
  · split
    · exact nxP_le h _
    · exact nxP_le (nxP_le h _) _
theorem set_set (σ : St) (b : Nat) (B B' : Blk) : (σ.set b B).set b B' = σ.set b B' := by
  simp only [St.set, St.mk.injEq, true_and]
  funext c; split <;> rfl

section
variable {σ : St} {l : List Int} {p bT : Nat}
theorem next_ok (hb : σ.blk bT = some (tapeB l p)) (hp : p ≤ l.length) (hl : l.length ≤ most) (n : Int) : T Try.prog 53 [.ptr bT 0 0, I n] σ (I (nxE l p n)) (σ.set bT (tapeB l (nxP l p n))) :=
  next_spec hb n (by simp only [most] at hl; omega)

/-- Tape.Number -/
theorem number_spec (hb : σ.blk bT = some (tapeB l p)) (hp : p ≤ l.length) (hl : l.length ≤ most) : T Try.prog 106 [.ptr bT 0 0] σ (I (numE l p)) (σ.set bT (tapeB l (numP l p))) := by
  refine in106 (by simp) fun wf hab => ?_
  clear hab
  have hb1 : (σ.set bT (tapeB l (nxP l p 9))).blk bT = some (tapeB l (nxP l p 9)) := by rw [blk_set, if_pos rfl]
  have hp1 := nxP_le hp 9
  unfold c106
  first | refine .seq (.rg fun A hA K hK => ?_) | refine .seq (.seq (.rg fun A hA K hK => ?_)) | refine .rg fun A hA K hK => ?_ | refine .seq (.rd fun A hA K hK => ?_) | refine .seq (.seq (.rd fun A hA K hK => ?_)) | refine .rd fun A hA K hK => ?_
  simp (maxSteps := 1000000) only [go_sem, hA.nil, hA.go, hA.yes, hA.noT, hA.noF, hA.skp]
  refine hK _ _ ?_; clear hK K hA A
  first | refine .seq (.rg fun A hA K hK => ?_) | refine .seq (.seq (.rg fun A hA K hK => ?_)) | refine .rg fun A hA K hK => ?_ | refine .seq (.rd fun A hA K hK => ?_) | refine .seq (.seq (.rd fun A hA K hK => ?_)) | refine .rd fun A hA K hK => ?_
  simp (maxSteps := 1000000) only [go_sem, hA.nil, hA.go, hA.yes, hA.noT, hA.noF, hA.skp]
  refine aopq_callT (next_ok hb hp hl 9) (by simp (maxSteps := 1000000) only [go_sem]) ?_
  try simp (maxSteps := 1000000) only [go_sem, hA.nil, hA.go, hA.yes, hA.noT, hA.noF, hA.skp]
  refine hK _ _ ?_; clear hK K hA A
  by_cases h0 : nxE l p 9 = 0
  · have e1 : numE l p = tabN.getD (nxE l (nxP l p 9) 6).toNat 0 := if_pos h0
    have e2 : numP l p = nxP l (nxP l p 9) 6 := if_pos h0
    have hj := nxE_in l (nxP l p 9) 6
    obtain ⟨j, hj'⟩ := Int.eq_ofNat_of_zero_le hj.1
    have hj6 : j < 6 := by have := hj.2.1 (by decide); omega
    have hg : (tabN.map fun n => [I n]).getD j [] = [I (tabN.getD j 0)] := by
      have hj7 : j < tabN.length := hj6
      rw [ints_get hj7]; simp [List.getD_eq_getElem?_getD, hj7]
    refine .block ?_
    first | refine .seq (.rg fun A hA K hK => ?_) | refine .seq (.seq (.rg fun A hA K hK => ?_)) | refine .rg fun A hA K hK => ?_ | refine .seq (.rd fun A hA K hK => ?_) | refine .seq (.seq (.rd fun A hA K hK => ?_)) | refine .rd fun A hA K hK => ?_
    simp (maxSteps := 1000000) only [go_sem, hA.nil, hA.go, hA.yes, hA.noT, hA.noF, hA.skp, h0]
    refine hK _ _ ?_; clear hK K hA A
    refine .cond (t := true) (by simp (maxSteps := 1000000) only [go_sem]) (fun _ => ?_) (fun h => by cases h)
    first | refine .seq (.rg fun A hA K hK => ?_) | refine .seq (.seq (.rg fun A hA K hK => ?_)) | refine .rg fun A hA K hK => ?_ | refine .seq (.rd fun A hA K hK => ?_) | refine .seq (.seq (.rd fun A hA K hK => ?_)) | refine .rd fun A hA K hK => ?_
    simp (maxSteps := 1000000) only [go_sem, hA.nil, hA.go, hA.yes, hA.noT, hA.noF, hA.skp]
    refine aopq_callT (next_ok hb1 hp1 hl 6) (by simp (maxSteps := 1000000) only [go_sem]) ?_
    simp only [tabN, List.map_cons, List.map_nil] at hg
    have hj8 : (j : Int) < 6 := by omega
    have hj9 : (j : Int) < ((6 : Nat) : Int) := by omega
    try simp (maxSteps := 1000000) only [go_sem, hA.nil, hA.go, hA.yes, hA.noT, hA.noF, hA.skp, hj', hg, hj8, hj9]
    refine hK _ _ ?_; clear hK K hA A
    exact .ret (retS (by simp (maxSteps := 1000000) only [go_sem]; try rfl) ⟨by rw [e1, hj', Int.toNat_natCast]; rfl, by rw [set_set, e2]⟩)
  · have b0 : (nxE l p 9 == 0) = false := by simpa using h0
    refine .block ?_
    first | refine .seq (.rg fun A hA K hK => ?_) | refine .seq (.seq (.rg fun A hA K hK => ?_)) | refine .rg fun A hA K hK => ?_ | refine .seq (.rd fun A hA K hK => ?_) | refine .seq (.seq (.rd fun A hA K hK => ?_)) | refine .rd fun A hA K hK => ?_
    simp (maxSteps := 1000000) only [go_sem, hA.nil, hA.go, hA.yes, hA.noT, hA.noF, hA.skp, b0]
    refine hK _ _ ?_; clear hK K hA A
    refine .cond (t := false) (by simp (maxSteps := 1000000) only [go_sem]) (fun h => by cases h) (fun _ => ?_)
    by_cases h1 : nxE l p 9 = 1
    · have e1 : numE l p = 0 := by rw [numE, if_neg h0, if_pos h1]
      have e2 : numP l p = nxP l p 9 := by rw [numP, if_neg h0, if_pos h1]
      first | refine .seq (.rg fun A hA K hK => ?_) | refine .seq (.seq (.rg fun A hA K hK => ?_)) | refine .rg fun A hA K hK => ?_ | refine .seq (.rd fun A hA K hK => ?_) | refine .seq (.seq (.rd fun A hA K hK => ?_)) | refine .rd fun A hA K hK => ?_
      simp (maxSteps := 1000000) only [go_sem, hA.nil, hA.go, hA.yes, hA.noT, hA.noF, hA.skp, h1]
      refine hK _ _ ?_; clear hK K hA A
      refine .cond (t := true) (by simp (maxSteps := 1000000) only [go_sem]) (fun _ => ?_) (fun h => by cases h)
      first | refine .seq (.rg fun A hA K hK => ?_) | refine .seq (.seq (.rg fun A hA K hK => ?_)) | refine .rg fun A hA K hK => ?_ | refine .seq (.rd fun A hA K hK => ?_) | refine .seq (.seq (.rd fun A hA K hK => ?_)) | refine .rd fun A hA K hK => ?_
      simp (maxSteps := 1000000) only [go_sem, hA.nil, hA.go, hA.yes, hA.noT, hA.noF, hA.skp]
      refine hK _ _ ?_; clear hK K hA A
      exact .ret (retS (by simp (maxSteps := 1000000) only [go_sem]; try rfl) ⟨by rw [e1], by rw [e2]⟩)
    · have e1 : numE l p = IntKind.i64.wrap (nxE l (nxP l p 9) 19 - 9) := by rw [numE, if_neg h0, if_neg h1]
      have e2 : numP l p = nxP l (nxP l p 9) 19 := by rw [numP, if_neg h0, if_neg h1]
      have b1 : (nxE l p 9 == 1) = false := by simpa using h1
      first | refine .seq (.rg fun A hA K hK => ?_) | refine .seq (.seq (.rg fun A hA K hK => ?_)) | refine .rg fun A hA K hK => ?_ | refine .seq (.rd fun A hA K hK => ?_) | refine .seq (.seq (.rd fun A hA K hK => ?_)) | refine .rd fun A hA K hK => ?_
      simp (maxSteps := 1000000) only [go_sem, hA.nil, hA.go, hA.yes, hA.noT, hA.noF, hA.skp, b1]
      refine hK _ _ ?_; clear hK K hA A
      refine .cond (t := false) (by simp (maxSteps := 1000000) only [go_sem]) (fun h => by cases h) (fun _ => .skip ?_)
      first | refine .seq (.rg fun A hA K hK => ?_) | refine .seq (.seq (.rg fun A hA K hK => ?_)) | refine .rg fun A hA K hK => ?_ | refine .seq (.rd fun A hA K hK => ?_) | refine .seq (.seq (.rd fun A hA K hK => ?_)) | refine .rd fun A hA K hK => ?_
      simp (maxSteps := 1000000) only [go_sem, hA.nil, hA.go, hA.yes, hA.noT, hA.noF, hA.skp]
      refine aopq_callT (next_ok hb1 hp1 hl 19) (by simp (maxSteps := 1000000) only [go_sem]) ?_
      try simp (maxSteps := 1000000) only [go_sem, hA.nil, hA.go, hA.yes, hA.noT, hA.noF, hA.skp]
      refine hK _ _ ?_; clear hK K hA A
      exact .ret (retS (by simp (maxSteps := 1000000) only [go_sem]; try rfl) ⟨by rw [e1], by rw [set_set, e2]⟩)

/-- Tape.Tensor -/
theorem tensor_spec (hb : σ.blk bT = some (tapeB l p)) (hp : p ≤ l.length) (hl : l.length ≤ most) (s : List Int) (hs : s.length ≤ 2 ^ 20) :
    TQ Try.prog 70 [.ptr bT 0 0, ints s] σ fun v t => ∃ data p', v = .agg [ints s, ints data] ∧ data.length = (sizeE s).toNat ∧ p' ≤ l.length ∧ t.blk bT = some (tapeB l p') ∧ σ.next ≤ t.next ∧ ∀ b, b < σ.next → b ≠ bT → t.blk b = σ.blk b := by
  refine in70 (by simp) fun wf hab => ?_
  clear hab
  obtain ⟨z0, z1⟩ := sizeE_in s
  generalize hN : (sizeE s).toNat = N at *
  have hN2 : N ≤ 4096 := by omega
  have hbT : bT < σ.next := by
    rcases Nat.lt_or_ge bT σ.next with h | h
    · exact h
    · rw [wf.1 bT h] at hb; cases hb
  unfold c70
  first | refine .seq (.rg fun A hA K hK => ?_) | refine .seq (.seq (.rg fun A hA K hK => ?_)) | refine .rg fun A hA K hK => ?_ | refine .seq (.rd fun A hA K hK => ?_) | refine .seq (.seq (.rd fun A hA K hK => ?_)) | refine .rd fun A hA K hK => ?_
  simp (maxSteps := 1000000) only [go_sem, hA.nil, hA.go, hA.yes, hA.noT, hA.noF, hA.skp]
  refine hK _ _ ?_; clear hK K hA A
  refine .midK (fun L t => L = [(0, .ptr bT 0 0), (4, .ptr σ.next 0 0), (5, .ptr (t.next - 1) 0 0)] ∧ σ.next < t.next - 1 ∧ (∃ c, t.blk (t.next - 1) = some (.cells 2 [[ints s, .sl c 0 N]]) ∧ t.blk c = some (.cells 1 (List.replicate N [I 0])) ∧ σ.next < c ∧ c < t.next - 1) ∧
    t.blk σ.next = some (.cells 2 [[.lit 1 [], .lit 1 []]]) ∧ ∀ b, b < σ.next → t.blk b = σ.blk b) ?_ ?_
  · first | refine .seq (.rg fun A hA K hK => ?_) | refine .seq (.seq (.rg fun A hA K hK => ?_)) | refine .rg fun A hA K hK => ?_ | refine .seq (.rd fun A hA K hK => ?_) | refine .seq (.seq (.rd fun A hA K hK => ?_)) | refine .rd fun A hA K hK => ?_
    simp (maxSteps := 1000000) only [go_sem, hA.nil, hA.go, hA.yes, hA.noT, hA.noF, hA.skp]
    refine aopq_callQ (fill_spec s hs 0 _) (by simp (maxSteps := 1000000) only [go_sem]) ?_
    rintro v t ⟨c, rfl, h1, h2, h3, hx⟩
    rw [hN] at h1 ⊢
    try simp (maxSteps := 1000000) only [go_sem, hA.nil, hA.go, hA.yes, hA.noT, hA.noF, hA.skp]
    refine hK _ _ ?_; clear hK K hA A
    have hx1 := hx.1
    rw [next_push] at h2 hx1
    refine ⟨_, ⟨by rw [next_set, next_push, Nat.add_sub_cancel], ?_, ⟨c, ?_, ?_, ?_, ?_⟩, ?_, fun b hb => ?_⟩, by simp (maxSteps := 1000000) only [go_sem, Nat.add_sub_cancel]⟩
    · simp (maxSteps := 1000000) only [go_sem, Nat.add_sub_cancel]; omega
    · simp (maxSteps := 1000000) only [go_sem, Nat.add_sub_cancel]
    · have e1 : ¬ c = t.next := by omega
      simp (maxSteps := 1000000) only [go_sem, Nat.add_sub_cancel, e1, h1]
    · omega
    · simp (maxSteps := 1000000) only [go_sem, Nat.add_sub_cancel]; omega
    · have e1 : ¬ σ.next = t.next := by omega
      simp (maxSteps := 1000000) only [go_sem, e1]
      rw [hx.2 _ (by rw [next_push]; omega)]
      simp (maxSteps := 1000000) only [go_sem]
    · have e1 : ¬ b = t.next := by omega
      have e2 : ¬ b = σ.next := by omega
      simp (maxSteps := 1000000) only [go_sem, e1]
      rw [hx.2 _ (by rw [next_push]; omega)]
      simp (maxSteps := 1000000) only [go_sem, e2]
  rintro L t ⟨rfl, hn, ⟨c, h5, hc, hc1, hc2⟩, h4, hx⟩
  generalize hq : t.next - 1 = b5 at *
  have hb5 : b5 < t.next := by omega
  clear hq
  first | refine .seq (.rg fun A hA K hK => ?_) | refine .seq (.seq (.rg fun A hA K hK => ?_)) | refine .rg fun A hA K hK => ?_ | refine .seq (.rd fun A hA K hK => ?_) | refine .seq (.seq (.rd fun A hA K hK => ?_)) | refine .rd fun A hA K hK => ?_
  simp (maxSteps := 1000000) only [go_sem, hA.nil, hA.go, hA.yes, hA.noT, hA.noF, hA.skp, h5]
  refine hK _ _ ?_; clear hK K hA A
  refine .rangeK (N := N) (fun i L t => L = [(0, .ptr bT 0 0), (4, .ptr σ.next 0 0), (5, .ptr b5 0 0), (11, I N), (12, I i)] ∧ b5 < t.next ∧ (∃ ds : List Int, ds.length = N ∧ t.blk c = some (.cells 1 (ds.map fun n => [I n]))) ∧
    t.blk b5 = some (.cells 2 [[ints s, .sl c 0 N]]) ∧ t.blk σ.next = some (.cells 2 [[.lit 1 [], .lit 1 []]]) ∧ (∃ p', p' ≤ l.length ∧ t.blk bT = some (tapeB l p')) ∧ ∀ b, b < σ.next → b ≠ bT → t.blk b = σ.blk b) (by simp only [most]; omega)
    ⟨_, ⟨rfl, hb5, ⟨List.replicate N 0, by simp, by rw [hc]; simp⟩, h5, h4, ⟨p, hp, by rw [hx bT hbT]; exact hb⟩, fun b h _ => hx b h⟩, by simp (maxSteps := 1000000) only [go_sem]; try rfl⟩ ?_ ?_ ?_
  · rintro i L t ⟨rfl, _⟩
    exact ⟨by simp (maxSteps := 1000000) only [go_sem], by simp (maxSteps := 1000000) only [go_sem], rfl⟩
  · rintro i L t hi ⟨rfl, hb5, ⟨ds, hds, hc⟩, h5, h4, ⟨p', hp', hbt⟩, hx⟩
    have e1 : ¬ b5 = bT := by omega
    have e2 : ¬ c = bT := by omega
    have e3 : (i : Int) < N := by omega
    have e4 : i < ds.length := by omega
    have e5 : ¬ b5 = c := by omega
    have e6 : ¬ σ.next = bT := by omega
    have e7 : ¬ σ.next = c := by omega
    have e8 : ¬ bT = c := by omega
    have hg : (ds.map fun n => [I n]).getD i [] = [I (ds.getD i 0)] := by rw [ints_get e4]; simp [List.getD_eq_getElem?_getD, e4]
    have hset : ∀ x, (ds.map fun n => [I n]).set i [I x] = (ds.set i x).map fun n => [I n] := fun x => by rw [List.map_set]
    first | refine .seq (.rg fun A hA K hK => ?_) | refine .seq (.seq (.rg fun A hA K hK => ?_)) | refine .rg fun A hA K hK => ?_ | refine .seq (.rd fun A hA K hK => ?_) | refine .seq (.seq (.rd fun A hA K hK => ?_)) | refine .rd fun A hA K hK => ?_
    simp (maxSteps := 1000000) only [go_sem, hA.nil, hA.go, hA.yes, hA.noT, hA.noF, hA.skp]
    refine hK _ _ ?_; clear hK K hA A
    refine .rdx fun A hA K hK => ?_
    simp (maxSteps := 200000) only [go_sem, hA.nil, hA.pur, hA.go, hA.yes, hA.noT, hA.noF, hA.skp, pure_mv, eff_mv, pure_pk, eff_pk, pure_al, eff_al, pure_bx, eff_bx, pure_bd, eff_bd, pure_bs, eff_bs, pure_ld, eff_ld, pure_st, eff_st, pure_nc, eff_nc, pure_bin, eff_bin, pure_un, eff_un, pure_cv, eff_cv, pure_mi, eff_mi, pure_mf, eff_mf, pure_mm, eff_mm, pure_ms, eff_ms, pure_sc, eff_sc, pure_fa, eff_fa, pure_fl, eff_fl, pure_ia, eff_ia, pure_lk, eff_lk, pure_mu, eff_mu, pure_lm, eff_lm, pure_rg, eff_rg, pure_nx, eff_nx, pure_en, eff_en, pure_ta, eff_ta, pure_ex, eff_ex, pure_ln, eff_ln, pure_ap, eff_ap, pure_mx, eff_mx, pure_call, eff_call, pure_callv, eff_callv, chk_nil, chk_cons, again, List.contains_cons, List.contains_nil, h5, e1]
    refine aop_callF (number_spec hbt hp' hl) (by simp (maxSteps := 1000000) only [go_sem]) ?_
    simp (maxSteps := 200000) only [go_sem, hA.nil, hA.pur, hA.go, hA.yes, hA.noT, hA.noF, hA.skp, pure_mv, eff_mv, pure_pk, eff_pk, pure_al, eff_al, pure_bx, eff_bx, pure_bd, eff_bd, pure_bs, eff_bs, pure_ld, eff_ld, pure_st, eff_st, pure_nc, eff_nc, pure_bin, eff_bin, pure_un, eff_un, pure_cv, eff_cv, pure_mi, eff_mi, pure_mf, eff_mf, pure_mm, eff_mm, pure_ms, eff_ms, pure_sc, eff_sc, pure_fa, eff_fa, pure_fl, eff_fl, pure_ia, eff_ia, pure_lk, eff_lk, pure_mu, eff_mu, pure_lm, eff_lm, pure_rg, eff_rg, pure_nx, eff_nx, pure_en, eff_en, pure_ta, eff_ta, pure_ex, eff_ex, pure_ln, eff_ln, pure_ap, eff_ap, pure_mx, eff_mx, pure_call, eff_call, pure_callv, eff_callv, chk_nil, chk_cons, again, List.contains_cons, List.contains_nil, h5, e1, e2, hc, e3, e4, hg]
    refine hK _ _ ?_; clear hK K hA A
    refine ⟨by simp (maxSteps := 1000000) only [go_sem], _, ⟨rfl, by simp (maxSteps := 1000000) only [go_sem]; exact hb5, ⟨ds.set i (numE l p'), by simpa using hds, ?_⟩, by simp (maxSteps := 1000000) only [go_sem, e5, e1, h5], by simp (maxSteps := 1000000) only [go_sem, e6, e7, h4], ⟨numP l p', numP_le hp', by simp (maxSteps := 1000000) only [go_sem, e8]⟩, fun b h1 h2 => ?_⟩, by simp (maxSteps := 1000000) only [go_sem]; try rfl⟩
    · simp (maxSteps := 1000000) only [go_sem]; rw [hset]
    · have e9 : ¬ b = c := by omega
      simp (maxSteps := 1000000) only [go_sem, e9, h2, hx b h1 h2]
  · rintro L t F ⟨rfl, hb5, ⟨ds, hds, hc⟩, h5, h4, ⟨p', hp', hbt⟩, hx⟩ hf
    simp (maxSteps := 1000000) only [go_sem] at hf
    have e1 : ¬ σ.next = b5 := by omega
    have e2 : ¬ σ.next = c := by omega
    have e3 : ¬ bT = b5 := by omega
    have e4 : ¬ bT = c := by omega
    have e5 : ¬ bT = σ.next := by omega
    refine frz1 b5 1 h5 (by simp) rfl hc (by omega) (by simpa using hds.symm) ?_
    first | refine .seq (.rg fun A hA K hK => ?_) | refine .seq (.seq (.rg fun A hA K hK => ?_)) | refine .rg fun A hA K hK => ?_ | refine .seq (.rd fun A hA K hK => ?_) | refine .seq (.seq (.rd fun A hA K hK => ?_)) | refine .rd fun A hA K hK => ?_
    simp (maxSteps := 1000000) only [go_sem, hA.nil, hA.go, hA.yes, hA.noT, hA.noF, hA.skp, hf, e1, e2, h4]
    refine hK _ _ ?_; clear hK K hA A
    refine .ret ⟨[.agg [ints s, ints ds]], by simp [resOne, hf, go_sem], _, _, .refl _ _ _, ds, p', rfl, hds, hp', by simp (maxSteps := 1000000) only [go_sem, e3, e4, e5, hbt], by simp (maxSteps := 1000000) only [go_sem]; omega, fun b h1 h2 => ?_⟩
    have e6 : ¬ b = b5 := by omega
    have e7 : ¬ b = c := by omega
    have e8 : ¬ b = σ.next := by omega
    simp (maxSteps := 1000000) only [go_sem, e6, e7, e8, hx b h1 h2]
end
end Go.Proofs.Ytfjbabacpnnjmaa.Av

namespace Go.Proofs.Ytfjbabacpnnjmaa.Av
open Go Go.Av

/-! parquetry/parquetrylaw23.MoveRefuses -/
def c13 : C :=
  (.seq (.reg [⟨some 14, none, .mv (.k (.bool false))⟩])
  (.seq (.reg [⟨some 20, none, .mv (.t 0)⟩, ⟨some 21, none, .call false 45 [(.t 20)]⟩, ⟨some 19, none, .mv (.t 21)⟩, ⟨some 22, none, .ex (.t 19) 0⟩, ⟨some 23, none, .ex (.t 19) 1⟩, ⟨some 24, none, .ex (.t 19) 2⟩, ⟨some 25, none, .ex (.t 19) 3⟩, ⟨some 15, none, .al [.lit 1 [], .lit 1 []]⟩, ⟨none, none, .st 2 (.t 15) (.t 22)⟩, ⟨some 16, none, .mv (.t 23)⟩, ⟨some 17, none, .mv (.t 24)⟩, ⟨some 18, none, .mv (.t 25)⟩])
  (.seq (.reg [⟨some 26, none, .mv (.t 1)⟩, ⟨some 27, none, .mv (.t 2)⟩, ⟨some 28, none, .mv (.t 3)⟩, ⟨some 29, none, .mv (.t 4)⟩, ⟨some 30, none, .mv (.t 5)⟩, ⟨some 31, none, .mv (.t 6)⟩, ⟨some 32, none, .call true 46 [(.t 26), (.t 27), (.t 28), (.t 29), (.t 30), (.t 31)]⟩, ⟨some 33, none, .mv (.t 32)⟩, ⟨some 34, (some (33, true)), .mv (.t 1)⟩, ⟨some 35, (some (33, true)), .mv (.t 16)⟩, ⟨some 36, (some (33, true)), .fa 0 (.t 15)⟩, ⟨some 37, (some (33, true)), .ld none (.t 36)⟩, ⟨some 38, (some (33, true)), .mv (.t 17)⟩, ⟨some 39, (some (33, true)), .mv (.t 5)⟩, ⟨some 40, (some (33, true)), .mv (.t 6)⟩, ⟨some 41, (some (33, true)), .call true 46 [(.t 34), (.t 35), (.t 37), (.t 38), (.t 39), (.t 40)]⟩, ⟨some 42, none, .pk (.t 33) (.t 41) (.k (.bool false))⟩, ⟨some 43, none, .mv (.t 42)⟩, ⟨some 44, (some (43, true)), .mv (.t 1)⟩, ⟨some 45, (some (43, true)), .mv (.t 16)⟩, ⟨some 46, (some (43, true)), .fa 0 (.t 15)⟩, ⟨some 47, (some (43, true)), .ld none (.t 46)⟩, ⟨some 48, (some (43, true)), .mv (.t 17)⟩, ⟨some 49, (some (43, true)), .mv (.t 18)⟩, ⟨some 50, (some (43, true)), .mv (.t 6)⟩, ⟨some 51, (some (43, true)), .call true 46 [(.t 44), (.t 45), (.t 47), (.t 48), (.t 49), (.t 50)]⟩, ⟨some 52, none, .pk (.t 43) (.t 51) (.k (.bool false))⟩, ⟨some 53, none, .mv (.t 52)⟩, ⟨some 54, (some (53, true)), .call true 47 []⟩, ⟨some 55, none, .pk (.t 53) (.t 54) (.k (.bool false))⟩, ⟨some 14, none, .mv (.t 55)⟩])
  .ret)))
set_option maxRecDepth 100000 in
theorem er13 : (Try.f13.body.bind (erC Try.prog cfg 56)) = some c13 := by kernel_rfl
theorem in13 {args : List AV} {σ : St} {Q : AV → St → Prop} (hlen : args.length ≤ 56) (h : σ.Wf → (∀ i, i < args.length → Hab (args.getD i .undef)) → SWP Try.prog σ.next c13 (retQ σ.next [.t 14] Q) (fun i => args.getD i .undef) σ) : TQ Try.prog 13 args σ Q := by
  obtain ⟨k, hb, hk⟩ := Option.bind_eq_some_iff.1 er13
  exact TQ_of (fn := Try.f13) Try.func13 (by kernel_rfl) hb (erC_is mixed hk) (by kernel_rfl) hlen h

/-! (*parquetry/parquetrykeep.Tape).Shape -/
def c38 : C :=
  (.seq (.reg [⟨some 2, none, .mv (.k (.nils))⟩])
  (.seq (.reg [⟨some 3, none, .mv (.k (.nils))⟩])
  (.seq (.seq (.reg [⟨some 5, none, .mv (.t 0)⟩, ⟨some 6, none, .call false 53 [(.t 5), (.k (.int .i64 4))]⟩, ⟨some 4, none, .mv (.t 6)⟩])
  (.block 0
    (.loop
      (.seq (.seq (.reg [⟨some 7, none, .mv (.t 4)⟩, ⟨some 8, none, .bin .gtr 0 (.t 7) (.k (.int .i64 0))⟩])
      (.cond (.t 8)
        .skip
        (.exit 0)))
      (.seq (.block 1
        (.reg [⟨some 11, none, .mv (.t 3)⟩, ⟨some 12, none, .bs false 1 [.int .i64 0] 8 [(0, (.k (.int .i64 1))), (1, (.k (.int .i64 2))), (2, (.k (.int .i64 3))), (3, (.k (.int .i64 4))), (4, (.k (.int .i64 5))), (5, (.k (.int .i64 0))), (6, (.k (.int .i64 7))), (7, (.k (.int .i64 2)))]⟩, ⟨some 13, none, .mv (.t 0)⟩, ⟨some 14, none, .call false 53 [(.t 13), (.k (.int .i64 8))]⟩, ⟨some 15, none, .ia 1 (.t 12) (.t 14)⟩, ⟨some 16, none, .ld none (.t 15)⟩, ⟨some 17, none, .bs false 1 [.int .i64 0] 1 [(0, (.t 16))]⟩, ⟨some 18, none, .ap 1 8 (.t 11) (.t 17)⟩, ⟨some 3, none, .mv (.t 18)⟩]))
      (.reg [⟨some 9, none, .mv (.t 4)⟩, ⟨some 10, none, .bin .sub 0 (.t 9) (.k (.int .i64 1))⟩, ⟨some 4, none, .mv (.t 10)⟩]))))))
  (.seq (.reg [⟨some 19, none, .mv (.t 3)⟩, ⟨some 2, none, .mv (.t 19)⟩])
  .ret))))
set_option maxRecDepth 100000 in
theorem er38 : (Try.f38.body.bind (erC Try.prog cfg 20)) = some c38 := by kernel_rfl
theorem in38 {args : List AV} {σ : St} {Q : AV → St → Prop} (hlen : args.length ≤ 20) (h : σ.Wf → (∀ i, i < args.length → Hab (args.getD i .undef)) → SWP Try.prog σ.next c38 (retQ σ.next [.t 2] Q) (fun i => args.getD i .undef) σ) : TQ Try.prog 38 args σ Q := by
  obtain ⟨k, hb, hk⟩ := Option.bind_eq_some_iff.1 er38
  exact TQ_of (fn := Try.f38) Try.func38 (by kernel_rfl) hb (erC_is mixed hk) (by kernel_rfl) hlen h

/-! parquetry/parquetrylaw23.made -/
def c45 : C :=
  (.seq (.reg [⟨some 2, none, .al [.lit 1 [], .lit 1 []]⟩, ⟨some 3, none, .mv (.k (.nils))⟩, ⟨some 4, none, .mv (.k (.nils))⟩, ⟨some 5, none, .mv (.k (.nils))⟩])
  (.seq (.reg [⟨some 9, none, .mv (.t 0)⟩, ⟨some 10, none, .bd [.nils, .int .i64 0] [(0, 1, (.t 9))]⟩, ⟨some 11, none, .bx (.t 10)⟩, ⟨some 6, none, .mv (.t 11)⟩])
  (.seq (.reg [⟨some 12, none, .bs false 1 [.int .i64 0] 1 [(0, (.k (.int .i64 2)))]⟩, ⟨some 13, none, .bs false 1 [.int .i64 0] 2 [(0, (.k (.int .i64 2))), (1, (.k (.int .i64 4)))]⟩, ⟨some 14, none, .bs false 1 [.int .i64 0] 2 [(0, (.k (.int .i64 3))), (1, (.k (.int .i64 2)))]⟩, ⟨some 15, none, .bs false 1 [.int .i64 0] 3 [(0, (.k (.int .i64 2))), (1, (.k (.int .i64 2))), (2, (.k (.int .i64 2)))]⟩, ⟨some 16, none, .bs false 1 [.int .i64 0] 0 []⟩, ⟨some 17, none, .bs false 1 [.int .i64 0] 1 [(0, (.k (.int .i64 5)))]⟩, ⟨some 18, none, .bs false 1 [.int .i64 0] 2 [(0, (.k (.int .i64 2))), (1, (.k (.int .i64 2)))]⟩, ⟨some 19, none, .bs false 1 [.lit 1 []] 7 [(0, (.t 12)), (1, (.t 13)), (2, (.t 14)), (3, (.t 15)), (4, (.t 16)), (5, (.t 17)), (6, (.t 18))]⟩, ⟨some 20, none, .mv (.t 6)⟩, ⟨some 21, none, .call false 53 [(.t 20), (.k (.int .i64 7))]⟩, ⟨some 22, none, .ia 1 (.t 19) (.t 21)⟩, ⟨some 23, none, .ld none (.t 22)⟩, ⟨some 7, none, .mv (.t 23)⟩])
  (.seq (.reg [⟨some 24, none, .mv (.t 6)⟩, ⟨some 25, none, .mv (.t 6)⟩, ⟨some 26, none, .call false 38 [(.t 25)]⟩, ⟨some 27, none, .call false 70 [(.t 24), (.t 26)]⟩, ⟨some 8, none, .al [.lit 1 [], .lit 1 []]⟩, ⟨none, none, .st 2 (.t 8) (.t 27)⟩])
  (.seq (.dr [[], [], [], [], [], [4], [5, 4], [2, 3, 6, 5, 4], [], [], [], [10], [11, 10], [8, 9, 12, 7, 11, 10, 2, 3, 6, 5, 4], [0, 13, 8, 9, 12, 7, 11, 10, 2, 3, 6, 5, 4], [1, 14, 0, 13, 8, 9, 12, 7, 11, 10, 2, 3, 6, 5, 4], [7, 15, 0, 1, 2, 3, 4, 5, 6, 14, 13, 8, 9, 12, 11, 10], [13, 16, 0, 1, 2, 3, 4, 5, 6, 7, 8, 9, 10, 11, 12, 14, 15]] [⟨some 28, none, .ld (some 2) (.t 8)⟩, ⟨some 29, none, .mv (.t 7)⟩, ⟨some 30, none, .mv (.t 6)⟩, ⟨some 31, none, .mv (.t 7)⟩, ⟨some 32, none, .fa 0 (.t 8)⟩, ⟨some 33, none, .ld none (.t 32)⟩, ⟨some 34, none, .ln false (.t 33)⟩, ⟨some 35, none, .call false 85 [(.t 30), (.t 31), (.t 34)]⟩, ⟨some 36, none, .mv (.t 6)⟩, ⟨some 37, none, .mv (.t 7)⟩, ⟨some 38, none, .fa 0 (.t 8)⟩, ⟨some 39, none, .ld none (.t 38)⟩, ⟨some 40, none, .ln false (.t 39)⟩, ⟨some 41, none, .call false 85 [(.t 36), (.t 37), (.t 40)]⟩, ⟨none, none, .st 2 (.t 2) (.t 28)⟩, ⟨some 3, none, .mv (.t 29)⟩, ⟨some 4, none, .mv (.t 35)⟩, ⟨some 5, none, .mv (.t 41)⟩])
  .ret)))))
set_option maxRecDepth 100000 in
theorem er45 : (Try.f45.body.bind (erC Try.prog cfg 42)) = some c45 := by kernel_rfl
theorem in45 {args : List AV} {σ : St} {Q : AV → St → Prop} (hlen : args.length ≤ 42) (h : σ.Wf → (∀ i, i < args.length → Hab (args.getD i .undef)) → SWP Try.prog σ.next c45 (retQ σ.next [.c (some 2) 2, .t 3, .t 4, .t 5] Q) (fun i => args.getD i .undef) σ) : TQ Try.prog 45 args σ Q := by
  obtain ⟨k, hb, hk⟩ := Option.bind_eq_some_iff.1 er45
  exact TQ_of (fn := Try.f45) Try.func45 (by kernel_rfl) hb (erC_is mixed hk) (by kernel_rfl) hlen h

/-! parquetry/parquetrylaw23.refuses -/
def c46 : C :=
  (.seq (.reg [⟨some 12, none, .mv (.k (.bool false))⟩])
  (.seq (.reg [⟨some 20, none, .mv (.t 0)⟩, ⟨some 21, none, .bin .and 0 (.t 20) (.k (.int .i64 7))⟩, ⟨some 22, none, .bin .add 0 (.k (.int .i64 1)) (.t 21)⟩, ⟨some 23, none, .call false 22 [(.t 22)]⟩, ⟨some 13, none, .mv (.t 23)⟩])
  (.seq (.seq (.reg [⟨some 24, none, .mv (.t 13)⟩, ⟨some 25, none, .bin .eql 2 (.t 24) (.k (.nilp))⟩])
  (.cond (.t 25)
    (.seq (.reg [⟨some 12, none, .mv (.k (.bool false))⟩])
    .ret)
    .skip))
  (.seq (.reg [⟨some 26, none, .mv (.t 1)⟩, ⟨some 27, none, .call true 86 [(.t 26)]⟩, ⟨some 14, none, .mv (.t 27)⟩])
  (.seq (.reg [⟨some 15, none, .mv (.k (.int .i64 0))⟩])
  (.seq (.seq (.reg [⟨some 28, none, .mv (.t 1)⟩, ⟨some 29, none, .mv (.t 2)⟩, ⟨some 30, none, .mv (.t 3)⟩, ⟨some 31, none, .mv (.t 4)⟩, ⟨some 32, none, .call true 87 [(.t 28), (.t 29), (.t 30), (.t 31)]⟩])
  (.cond (.t 32)
    (.reg [⟨some 33, none, .mv (.t 14)⟩, ⟨some 34, none, .bin .mul 0 (.k (.int .i64 64)) (.t 33)⟩, ⟨some 35, none, .mv (.t 14)⟩, ⟨some 36, none, .bin .mul 0 (.t 34) (.t 35)⟩, ⟨some 37, none, .bin .add 0 (.t 36) (.k (.int .i64 64))⟩, ⟨some 15, none, .mv (.t 37)⟩])
    .skip))
  (.seq (.seq (.reg [⟨some 38, none, .mv (.t 1)⟩, ⟨some 39, none, .mv (.t 2)⟩, ⟨some 40, none, .mv (.t 3)⟩, ⟨some 41, none, .mv (.t 4)⟩, ⟨some 42, none, .call true 88 [(.t 38), (.t 39), (.t 40), (.t 41)]⟩, ⟨some 43, none, .mv (.t 15)⟩, ⟨some 44, none, .bin .neq 0 (.t 42) (.t 43)⟩])
  (.cond (.t 44)
    (.seq (.reg [⟨some 12, none, .mv (.k (.bool false))⟩])
    .ret)
    .skip))
  (.seq (.reg [⟨some 45, none, .mv (.t 15)⟩, ⟨some 46, none, .bin .gtr 0 (.t 45) (.k (.int .i64 0))⟩, ⟨some 47, none, .mv (.t 46)⟩, ⟨some 48, (some (47, true)), .mv (.t 14)⟩, ⟨some 49, (some (47, true)), .mv (.t 13)⟩, ⟨some 50, (some (47, true)), .call true 28 [(.t 49)]⟩, ⟨some 51, (some (47, true)), .bin .eql 0 (.t 48) (.t 50)⟩, ⟨some 52, none, .pk (.t 47) (.t 51) (.k (.bool false))⟩, ⟨some 53, none, .mv (.t 52)⟩, ⟨some 54, (some (53, true)), .mv (.t 5)⟩, ⟨some 55, (some (53, true)), .ln false (.t 54)⟩, ⟨some 56, (some (53, true)), .mv (.t 14)⟩, ⟨some 57, (some (53, true)), .bin .eql 0 (.t 55) (.t 56)⟩, ⟨some 58, none, .pk (.t 53) (.t 57) (.k (.bool false))⟩, ⟨some 16, none, .mv (.t 58)⟩])
  (.seq (.seq (.reg [⟨some 59, none, .mv (.t 5)⟩, ⟨some 60, none, .ln false (.t 59)⟩, ⟨some 61, none, .mv (.k (.int .i64 0))⟩])
  (.block 0
    (.loop
      (.seq (.reg [⟨some 62, none, .bin .lss 0 (.t 61) (.t 60)⟩])
      (.seq (.cond (.t 62)
        .skip
        (.exit 0))
      (.seq (.block 1
        (.seq (.reg [⟨some 63, none, .mv (.t 61)⟩, ⟨some 17, none, .mv (.t 63)⟩])
        (.reg [⟨some 64, none, .mv (.t 16)⟩, ⟨some 65, none, .mv (.t 64)⟩, ⟨some 66, (some (65, true)), .mv (.t 5)⟩, ⟨some 67, (some (65, true)), .mv (.t 17)⟩, ⟨some 68, (some (65, true)), .ia 1 (.t 66) (.t 67)⟩, ⟨some 69, (some (65, true)), .ld none (.t 68)⟩, ⟨some 70, (some (65, true)), .bin .geq 0 (.t 69) (.k (.int .i64 0))⟩, ⟨some 71, none, .pk (.t 65) (.t 70) (.k (.bool false))⟩, ⟨some 16, none, .mv (.t 71)⟩])))
      (.reg [⟨some 72, none, .bin .add 0 (.t 61) (.k (.int .i64 1))⟩, ⟨some 61, none, .mv (.t 72)⟩])))))))
  (.seq (.seq (.reg [⟨some 73, none, .mv (.t 16)⟩])
  (.cond (.t 73)
    (.seq (.reg [⟨some 12, none, .mv (.k (.bool true))⟩])
    .ret)
    .skip))
  (.seq (.reg [⟨some 75, none, .mv (.t 13)⟩, ⟨some 76, none, .mv (.t 1)⟩, ⟨some 77, none, .mv (.t 2)⟩, ⟨some 78, none, .mv (.t 3)⟩, ⟨some 79, none, .mv (.t 4)⟩, ⟨some 80, none, .mv (.t 5)⟩, ⟨some 81, none, .call false 89 [(.t 75), (.t 76), (.t 77), (.t 78), (.t 79), (.t 80)]⟩, ⟨some 74, none, .mv (.t 81)⟩, ⟨some 82, none, .ex (.t 74) 0⟩, ⟨some 83, none, .ex (.t 74) 1⟩, ⟨some 18, none, .mv (.t 82)⟩, ⟨some 19, none, .mv (.t 83)⟩])
  (.seq (.reg [⟨some 84, none, .mv (.t 19)⟩, ⟨some 85, none, .bin .eql 0 (.t 84) (.k (.int .i64 1))⟩, ⟨some 86, none, .mv (.t 85)⟩, ⟨some 87, (some (86, true)), .mv (.t 18)⟩, ⟨some 88, (some (86, true)), .ln false (.t 87)⟩, ⟨some 89, (some (86, true)), .bin .eql 0 (.t 88) (.k (.int .i64 0))⟩, ⟨some 90, none, .pk (.t 86) (.t 89) (.k (.bool false))⟩, ⟨some 91, none, .mv (.t 90)⟩, ⟨some 92, (some (91, true)), .mv (.t 13)⟩, ⟨some 93, (some (91, true)), .call true 27 [(.t 92)]⟩, ⟨some 94, (some (91, true)), .call true 90 [(.t 93)]⟩, ⟨some 95, (some (91, true)), .bin .eql 0 (.t 94) (.k (.int .i64 0))⟩, ⟨some 96, none, .pk (.t 91) (.t 95) (.k (.bool false))⟩, ⟨some 12, none, .mv (.t 96)⟩])
  .ret))))))))))))
set_option maxRecDepth 100000 in
theorem er46 : (Try.f46.body.bind (erC Try.prog cfg 97)) = some c46 := by kernel_rfl
theorem in46 {args : List AV} {σ : St} {Q : AV → St → Prop} (hlen : args.length ≤ 97) (h : σ.Wf → (∀ i, i < args.length → Hab (args.getD i .undef)) → SWP Try.prog σ.next c46 (retQ σ.next [.t 12] Q) (fun i => args.getD i .undef) σ) : TQ Try.prog 46 args σ Q := by
  obtain ⟨k, hb, hk⟩ := Option.bind_eq_some_iff.1 er46
  exact TQ_of (fn := Try.f46) Try.func46 (by kernel_rfl) hb (erC_is mixed hk) (by kernel_rfl) hlen h

/-! parquetry/parquetrylaw23.known -/
def c47 : C :=
  (.seq (.reg [⟨some 0, none, .mv (.k (.bool false))⟩])
  (.seq (.reg [⟨some 6, none, .call false 22 [(.k (.int .i64 2))]⟩, ⟨some 1, none, .mv (.t 6)⟩])
  (.seq (.reg [⟨some 8, none, .mv (.t 1)⟩, ⟨some 9, none, .bs false 1 [.int .i64 0] 1 [(0, (.k (.int .i64 2)))]⟩, ⟨some 10, none, .bs false 1 [.int .i64 0] 1 [(0, (.k (.int .i64 4)))]⟩, ⟨some 11, none, .bs false 1 [.int .i64 0] 1 [(0, (.k (.int .i64 0)))]⟩, ⟨some 12, none, .bs false 1 [.int .i64 0] 2 [(0, (.k (.int .i64 0))), (1, (.k (.int .i64 (-1))))]⟩, ⟨some 13, none, .bs false 1 [.int .i64 0] 2 [(0, (.k (.int .i64 0))), (1, (.k (.int .i64 0)))]⟩, ⟨some 14, none, .call false 89 [(.t 8), (.t 9), (.t 10), (.t 11), (.t 12), (.t 13)]⟩, ⟨some 7, none, .mv (.t 14)⟩, ⟨some 15, none, .ex (.t 7) 0⟩, ⟨some 16, none, .ex (.t 7) 1⟩, ⟨some 2, none, .mv (.t 15)⟩, ⟨some 3, none, .mv (.t 16)⟩])
  (.seq (.reg [⟨some 18, none, .bs false 1 [.int .i64 0] 1 [(0, (.k (.int .i64 0)))]⟩, ⟨some 19, none, .call false 89 [(.k (.nilp)), (.k (.nils)), (.k (.nils)), (.k (.nils)), (.k (.nils)), (.t 18)]⟩, ⟨some 17, none, .mv (.t 19)⟩, ⟨some 20, none, .ex (.t 17) 0⟩, ⟨some 21, none, .ex (.t 17) 1⟩, ⟨some 4, none, .mv (.t 20)⟩, ⟨some 5, none, .mv (.t 21)⟩])
  (.seq (.reg [⟨some 22, none, .mv (.t 3)⟩, ⟨some 23, none, .bin .eql 0 (.t 22) (.k (.int .i64 1))⟩, ⟨some 24, none, .mv (.t 23)⟩, ⟨some 25, (some (24, true)), .mv (.t 5)⟩, ⟨some 26, (some (24, true)), .bin .eql 0 (.t 25) (.k (.int .i64 1))⟩, ⟨some 27, none, .pk (.t 24) (.t 26) (.k (.bool false))⟩, ⟨some 28, none, .mv (.t 27)⟩, ⟨some 29, (some (28, true)), .bs false 1 [.int .i64 0] 1 [(0, (.k (.int .i64 2)))]⟩, ⟨some 30, (some (28, true)), .bs false 1 [.int .i64 0] 1 [(0, (.k (.int .i64 4)))]⟩, ⟨some 31, (some (28, true)), .bs false 1 [.int .i64 0] 1 [(0, (.k (.int .i64 0)))]⟩, ⟨some 32, (some (28, true)), .bs false 1 [.int .i64 0] 1 [(0, (.k (.int .i64 (-1))))]⟩, ⟨some 33, (some (28, true)), .call true 88 [(.t 29), (.t 30), (.t 31), (.t 32)]⟩, ⟨some 34, (some (28, true)), .bin .eql 0 (.t 33) (.k (.int .i64 320))⟩, ⟨some 35, none, .pk (.t 28) (.t 34) (.k (.bool false))⟩, ⟨some 36, none, .mv (.t 35)⟩, ⟨some 37, (some (36, true)), .bs false 1 [.int .i64 0] 1 [(0, (.k (.int .i64 9)))]⟩, ⟨some 38, (some (36, true)), .call true 88 [(.t 37), (.k (.nils)), (.k (.nils)), (.k (.nils))]⟩, ⟨some 39, (some (36, true)), .bin .eql 0 (.t 38) (.k (.int .i64 0))⟩, ⟨some 40, none, .pk (.t 36) (.t 39) (.k (.bool false))⟩, ⟨some 0, none, .mv (.t 40)⟩])
  .ret)))))
set_option maxRecDepth 100000 in
theorem er47 : (Try.f47.body.bind (erC Try.prog cfg 41)) = some c47 := by kernel_rfl
theorem in47 {args : List AV} {σ : St} {Q : AV → St → Prop} (hlen : args.length ≤ 41) (h : σ.Wf → (∀ i, i < args.length → Hab (args.getD i .undef)) → SWP Try.prog σ.next c47 (retQ σ.next [.t 0] Q) (fun i => args.getD i .undef) σ) : TQ Try.prog 47 args σ Q := by
  obtain ⟨k, hb, hk⟩ := Option.bind_eq_some_iff.1 er47
  exact TQ_of (fn := Try.f47) Try.func47 (by kernel_rfl) hb (erC_is mixed hk) (by kernel_rfl) hlen h

/-! parquetry/parquetrylaw21.count -/
def c50 : C :=
  (.seq (.reg [⟨some 2, none, .mv (.k (.int .i64 0))⟩])
  (.seq (.reg [⟨some 3, none, .mv (.k (.int .i64 0))⟩])
  (.seq (.seq (.reg [⟨some 5, none, .mv (.t 0)⟩, ⟨some 6, none, .ln false (.t 5)⟩, ⟨some 7, none, .mv (.k (.int .i64 0))⟩])
  (.block 0
    (.loop
      (.seq (.reg [⟨some 8, none, .bin .lss 0 (.t 7) (.t 6)⟩])
      (.seq (.cond (.t 8)
        .skip
        (.exit 0))
      (.seq (.block 1
        (.seq (.reg [⟨some 9, none, .mv (.t 7)⟩, ⟨some 4, none, .mv (.t 9)⟩])
        (.reg [⟨some 10, none, .mv (.t 3)⟩, ⟨some 11, none, .mv (.t 0)⟩, ⟨some 12, none, .mv (.t 4)⟩, ⟨some 13, none, .ia 1 (.t 11) (.t 12)⟩, ⟨some 14, none, .ld none (.t 13)⟩, ⟨some 15, none, .ln false (.t 14)⟩, ⟨some 16, none, .bin .add 0 (.t 10) (.t 15)⟩, ⟨some 3, none, .mv (.t 16)⟩])))
      (.reg [⟨some 17, none, .bin .add 0 (.t 7) (.k (.int .i64 1))⟩, ⟨some 7, none, .mv (.t 17)⟩])))))))
  (.seq (.reg [⟨some 18, none, .mv (.t 3)⟩, ⟨some 2, none, .mv (.t 18)⟩])
  .ret))))
set_option maxRecDepth 100000 in
theorem er50 : (Try.f50.body.bind (erC Try.prog cfg 19)) = some c50 := by kernel_rfl
theorem in50 {args : List AV} {σ : St} {Q : AV → St → Prop} (hlen : args.length ≤ 19) (h : σ.Wf → (∀ i, i < args.length → Hab (args.getD i .undef)) → SWP Try.prog σ.next c50 (retQ σ.next [.t 2] Q) (fun i => args.getD i .undef) σ) : TQ Try.prog 50 args σ Q := by
  obtain ⟨k, hb, hk⟩ := Option.bind_eq_some_iff.1 er50
  exact TQ_of (fn := Try.f50) Try.func50 (by kernel_rfl) hb (erC_is mixed hk) (by kernel_rfl) hlen h

/-! (*parquetry/parquetrykeep.Tape).Spec -/
def c85 : C :=
  (.seq (.reg [⟨some 6, none, .mv (.k (.nils))⟩])
  (.seq (.reg [⟨some 11, none, .mv (.t 2)⟩, ⟨some 12, none, .ms 1 8 [.int .i64 0] (.t 11) (.t 11)⟩, ⟨some 7, none, .mv (.t 12)⟩])
  (.seq (.reg [⟨some 13, none, .mv (.t 1)⟩, ⟨some 14, none, .ln false (.t 13)⟩, ⟨some 15, none, .ms 1 1 [.bool false] (.t 14) (.t 14)⟩, ⟨some 8, none, .mv (.t 15)⟩])
  (.seq (.seq (.reg [⟨some 16, none, .mv (.t 7)⟩, ⟨some 17, none, .ln false (.t 16)⟩, ⟨some 18, none, .mv (.k (.int .i64 0))⟩])
  (.block 0
    (.loop
      (.seq (.reg [⟨some 19, none, .bin .lss 0 (.t 18) (.t 17)⟩])
      (.seq (.cond (.t 19)
        .skip
        (.exit 0))
      (.seq (.block 1
        (.seq (.reg [⟨some 20, none, .mv (.t 18)⟩, ⟨some 9, none, .mv (.t 20)⟩])
        (.seq (.reg [⟨some 21, none, .mv (.t 7)⟩, ⟨some 22, none, .mv (.t 9)⟩, ⟨some 23, none, .ia 1 (.t 21) (.t 22)⟩, ⟨none, none, .st 1 (.t 23) (.k (.int .i64 (-1)))⟩])
        (.seq (.reg [⟨some 24, none, .mv (.t 1)⟩, ⟨some 25, none, .ln false (.t 24)⟩, ⟨some 26, none, .bin .gtr 0 (.t 25) (.k (.int .i64 0))⟩, ⟨some 27, none, .mv (.t 26)⟩, ⟨some 28, (some (27, true)), .mv (.t 0)⟩, ⟨some 29, (some (27, true)), .call false 53 [(.t 28), (.k (.int .i64 2))]⟩, ⟨some 30, (some (27, true)), .bin .eql 0 (.t 29) (.k (.int .i64 0))⟩, ⟨some 31, none, .pk (.t 27) (.t 30) (.k (.bool false))⟩])
        (.cond (.t 31)
          (.seq (.reg [⟨some 32, none, .mv (.t 0)⟩, ⟨some 33, none, .mv (.t 1)⟩, ⟨some 34, none, .ln false (.t 33)⟩, ⟨some 35, none, .call false 53 [(.t 32), (.t 34)]⟩, ⟨some 10, none, .mv (.t 35)⟩])
          (.seq (.reg [⟨some 36, none, .mv (.t 8)⟩, ⟨some 37, none, .mv (.t 10)⟩, ⟨some 38, none, .ia 1 (.t 36) (.t 37)⟩, ⟨some 39, none, .ld none (.t 38)⟩, ⟨some 40, none, .un .not (.t 39)⟩])
          (.cond (.t 40)
            (.reg [⟨some 41, none, .mv (.t 7)⟩, ⟨some 42, none, .mv (.t 9)⟩, ⟨some 43, none, .mv (.t 8)⟩, ⟨some 44, none, .mv (.t 10)⟩, ⟨some 45, none, .mv (.t 10)⟩, ⟨some 46, none, .ia 1 (.t 41) (.t 42)⟩, ⟨none, none, .st 1 (.t 46) (.t 45)⟩, ⟨some 47, none, .ia 1 (.t 43) (.t 44)⟩, ⟨none, none, .st 1 (.t 47) (.k (.bool true))⟩])
            .skip)))
          .skip)))))
      (.reg [⟨some 48, none, .bin .add 0 (.t 18) (.k (.int .i64 1))⟩, ⟨some 18, none, .mv (.t 48)⟩])))))))
  (.seq (.reg [⟨some 49, none, .mv (.t 7)⟩, ⟨some 6, none, .mv (.t 49)⟩])
  .ret)))))
set_option maxRecDepth 100000 in
theorem er85 : (Try.f85.body.bind (erC Try.prog cfg 50)) = some c85 := by kernel_rfl
theorem in85 {args : List AV} {σ : St} {Q : AV → St → Prop} (hlen : args.length ≤ 50) (h : σ.Wf → (∀ i, i < args.length → Hab (args.getD i .undef)) → SWP Try.prog σ.next c85 (retQ σ.next [.t 6] Q) (fun i => args.getD i .undef) σ) : TQ Try.prog 85 args σ Q := by
  obtain ⟨k, hb, hk⟩ := Option.bind_eq_some_iff.1 er85
  exact TQ_of (fn := Try.f85) Try.func85 (by kernel_rfl) hb (erC_is mixed hk) (by kernel_rfl) hlen h

/-! parquetry/parquetryref14.Devices -/
def c86 : C :=
  (.seq (.reg [⟨some 2, none, .mv (.k (.int .i64 0))⟩])
  (.seq (.seq (.reg [⟨some 5, none, .mv (.t 0)⟩, ⟨some 6, none, .call true 114 [(.t 5)]⟩, ⟨some 7, none, .un .not (.t 6)⟩])
  (.cond (.t 7)
    (.seq (.reg [⟨some 2, none, .mv (.k (.int .i64 0))⟩])
    .ret)
    .skip))
  (.seq (.reg [⟨some 3, none, .mv (.k (.int .i64 1))⟩])
  (.seq (.seq (.reg [⟨some 8, none, .mv (.t 0)⟩, ⟨some 9, none, .ln false (.t 8)⟩, ⟨some 10, none, .mv (.k (.int .i64 0))⟩])
  (.block 0
    (.loop
      (.seq (.reg [⟨some 11, none, .bin .lss 0 (.t 10) (.t 9)⟩])
      (.seq (.cond (.t 11)
        .skip
        (.exit 0))
      (.seq (.block 1
        (.seq (.reg [⟨some 12, none, .mv (.t 10)⟩, ⟨some 4, none, .mv (.t 12)⟩])
        (.reg [⟨some 13, none, .mv (.t 3)⟩, ⟨some 14, none, .mv (.t 0)⟩, ⟨some 15, none, .mv (.t 4)⟩, ⟨some 16, none, .ia 1 (.t 14) (.t 15)⟩, ⟨some 17, none, .ld none (.t 16)⟩, ⟨some 18, none, .bin .mul 0 (.t 13) (.t 17)⟩, ⟨some 3, none, .mv (.t 18)⟩])))
      (.reg [⟨some 19, none, .bin .add 0 (.t 10) (.k (.int .i64 1))⟩, ⟨some 10, none, .mv (.t 19)⟩])))))))
  (.seq (.reg [⟨some 20, none, .mv (.t 3)⟩, ⟨some 2, none, .mv (.t 20)⟩])
  .ret)))))
set_option maxRecDepth 100000 in
theorem er86 : (Try.f86.body.bind (erC Try.prog cfg 21)) = some c86 := by kernel_rfl
theorem in86 {args : List AV} {σ : St} {Q : AV → St → Prop} (hlen : args.length ≤ 21) (h : σ.Wf → (∀ i, i < args.length → Hab (args.getD i .undef)) → SWP Try.prog σ.next c86 (retQ σ.next [.t 2] Q) (fun i => args.getD i .undef) σ) : TQ Try.prog 86 args σ Q := by
  obtain ⟨k, hb, hk⟩ := Option.bind_eq_some_iff.1 er86
  exact TQ_of (fn := Try.f86) Try.func86 (by kernel_rfl) hb (erC_is mixed hk) (by kernel_rfl) hlen h

/-! parquetry/parquetrylaw23.may -/
def c87 : C :=
  (.seq (.reg [⟨some 8, none, .mv (.k (.bool false))⟩])
  (.seq (.reg [⟨some 9, none, .mv (.t 0)⟩, ⟨some 10, none, .call true 114 [(.t 9)]⟩, ⟨some 11, none, .mv (.t 10)⟩, ⟨some 12, (some (11, true)), .mv (.t 1)⟩, ⟨some 13, (some (11, true)), .call true 93 [(.t 12)]⟩, ⟨some 14, none, .pk (.t 11) (.t 13) (.k (.bool false))⟩, ⟨some 15, none, .mv (.t 14)⟩, ⟨some 16, (some (15, true)), .mv (.t 0)⟩, ⟨some 17, (some (15, true)), .mv (.t 2)⟩, ⟨some 18, (some (15, true)), .mv (.t 1)⟩, ⟨some 19, (some (15, true)), .ln false (.t 18)⟩, ⟨some 20, (some (15, true)), .call true 115 [(.t 16), (.t 17), (.t 19)]⟩, ⟨some 21, none, .pk (.t 15) (.t 20) (.k (.bool false))⟩, ⟨some 22, none, .mv (.t 21)⟩, ⟨some 23, (some (22, true)), .mv (.t 0)⟩, ⟨some 24, (some (22, true)), .mv (.t 3)⟩, ⟨some 25, (some (22, true)), .mv (.t 1)⟩, ⟨some 26, (some (22, true)), .ln false (.t 25)⟩, ⟨some 27, (some (22, true)), .call true 115 [(.t 23), (.t 24), (.t 26)]⟩, ⟨some 28, none, .pk (.t 22) (.t 27) (.k (.bool false))⟩, ⟨some 8, none, .mv (.t 28)⟩])
  .ret))
set_option maxRecDepth 100000 in
theorem er87 : (Try.f87.body.bind (erC Try.prog cfg 29)) = some c87 := by kernel_rfl
theorem in87 {args : List AV} {σ : St} {Q : AV → St → Prop} (hlen : args.length ≤ 29) (h : σ.Wf → (∀ i, i < args.length → Hab (args.getD i .undef)) → SWP Try.prog σ.next c87 (retQ σ.next [.t 8] Q) (fun i => args.getD i .undef) σ) : TQ Try.prog 87 args σ Q := by
  obtain ⟨k, hb, hk⟩ := Option.bind_eq_some_iff.1 er87
  exact TQ_of (fn := Try.f87) Try.func87 (by kernel_rfl) hb (erC_is mixed hk) (by kernel_rfl) hlen h

/-! parquetry/move.Bound -/
def c88 : C :=
  (.seq (.reg [⟨some 8, none, .mv (.k (.int .i64 0))⟩])
  (.seq (.seq (.reg [⟨some 10, none, .mv (.t 0)⟩, ⟨some 11, none, .mv (.t 1)⟩, ⟨some 12, none, .mv (.t 2)⟩, ⟨some 13, none, .mv (.t 3)⟩, ⟨some 14, none, .call true 116 [(.t 10), (.t 11), (.t 12), (.t 13)]⟩, ⟨some 15, none, .un .not (.t 14)⟩])
  (.cond (.t 15)
    (.seq (.reg [⟨some 8, none, .mv (.k (.int .i64 0))⟩])
    .ret)
    .skip))
  (.seq (.reg [⟨some 16, none, .mv (.t 0)⟩, ⟨some 17, none, .call true 117 [(.t 16)]⟩, ⟨some 9, none, .mv (.t 17)⟩])
  (.seq (.reg [⟨some 18, none, .mv (.t 9)⟩, ⟨some 19, none, .bin .mul 0 (.k (.int .i64 64)) (.t 18)⟩, ⟨some 20, none, .mv (.t 9)⟩, ⟨some 21, none, .bin .mul 0 (.t 19) (.t 20)⟩, ⟨some 22, none, .bin .add 0 (.t 21) (.k (.int .i64 64))⟩, ⟨some 8, none, .mv (.t 22)⟩])
  .ret))))
set_option maxRecDepth 100000 in
theorem er88 : (Try.f88.body.bind (erC Try.prog cfg 23)) = some c88 := by kernel_rfl
theorem in88 {args : List AV} {σ : St} {Q : AV → St → Prop} (hlen : args.length ≤ 23) (h : σ.Wf → (∀ i, i < args.length → Hab (args.getD i .undef)) → SWP Try.prog σ.next c88 (retQ σ.next [.t 8] Q) (fun i => args.getD i .undef) σ) : TQ Try.prog 88 args σ Q := by
  obtain ⟨k, hb, hk⟩ := Option.bind_eq_some_iff.1 er88
  exact TQ_of (fn := Try.f88) Try.func88 (by kernel_rfl) hb (erC_is mixed hk) (by kernel_rfl) hlen h

/-! parquetry/move.Do -/
def c89 : C :=
  (.seq (.reg [⟨some 12, none, .mv (.k (.nils))⟩, ⟨some 13, none, .mv (.k (.int .i64 0))⟩])
  (.seq (.reg [⟨some 25, none, .mv (.t 1)⟩, ⟨some 26, none, .call true 117 [(.t 25)]⟩, ⟨some 14, none, .mv (.t 26)⟩])
  (.seq (.seq (.reg [⟨some 27, none, .mv (.t 0)⟩, ⟨some 28, none, .bin .eql 2 (.t 27) (.k (.nilp))⟩, ⟨some 29, none, .mv (.t 28)⟩, ⟨some 30, (some (29, false)), .mv (.t 1)⟩, ⟨some 31, (some (29, false)), .mv (.t 2)⟩, ⟨some 32, (some (29, false)), .mv (.t 3)⟩, ⟨some 33, (some (29, false)), .mv (.t 4)⟩, ⟨some 34, (some (29, false)), .call true 116 [(.t 30), (.t 31), (.t 32), (.t 33)]⟩, ⟨some 35, (some (29, false)), .un .not (.t 34)⟩, ⟨some 36, none, .pk (.t 29) (.k (.bool true)) (.t 35)⟩, ⟨some 37, none, .mv (.t 36)⟩, ⟨some 38, (some (37, false)), .mv (.t 0)⟩, ⟨some 39, (some (37, false)), .call true 28 [(.t 38)]⟩, ⟨some 40, (some (37, false)), .mv (.t 14)⟩, ⟨some 41, (some (37, false)), .bin .neq 0 (.t 39) (.t 40)⟩, ⟨some 42, none, .pk (.t 37) (.k (.bool true)) (.t 41)⟩, ⟨some 43, none, .mv (.t 42)⟩, ⟨some 44, (some (43, false)), .mv (.t 5)⟩, ⟨some 45, (some (43, false)), .ln false (.t 44)⟩, ⟨some 46, (some (43, false)), .mv (.t 14)⟩, ⟨some 47, (some (43, false)), .bin .neq 0 (.t 45) (.t 46)⟩, ⟨some 48, none, .pk (.t 43) (.k (.bool true)) (.t 47)⟩, ⟨some 49, none, .mv (.t 48)⟩, ⟨some 50, (some (49, false)), .mv (.t 5)⟩, ⟨some 51, (some (49, false)), .call true 118 [(.t 50), (.k (.func 119 []))]⟩, ⟨some 52, none, .pk (.t 49) (.k (.bool true)) (.t 51)⟩])
  (.cond (.t 52)
    (.seq (.reg [⟨some 12, none, .mv (.k (.nils))⟩, ⟨some 13, none, .mv (.k (.int .i64 1))⟩])
    .ret)
    .skip))
  (.seq (.reg [⟨some 53, none, .mv (.t 1)⟩, ⟨some 54, none, .mv (.t 2)⟩, ⟨some 55, none, .mv (.t 3)⟩, ⟨some 56, none, .mv (.t 4)⟩, ⟨some 57, none, .call true 120 [(.t 53), (.t 54), (.t 55), (.t 56)]⟩, ⟨some 15, none, .al [.nils, .nils, .nils, .nils, .nils]⟩, ⟨none, none, .st 5 (.t 15) (.t 57)⟩])
  (.seq (.seq (.reg [⟨some 58, none, .mv (.t 14)⟩, ⟨some 59, none, .mv (.k (.int .i64 0))⟩])
  (.block 0
    (.loop
      (.seq (.reg [⟨some 60, none, .bin .lss 0 (.t 59) (.t 58)⟩])
      (.seq (.cond (.t 60)
        .skip
        (.exit 0))
      (.seq (.block 1
        (.seq (.reg [⟨some 61, none, .mv (.t 59)⟩, ⟨some 16, none, .mv (.t 61)⟩])
        (.seq (.drs [⟨some 62, none, .mv (.t 0)⟩, ⟨some 63, none, .mv (.t 16)⟩, ⟨some 64, none, .call true 61 [(.t 62), (.t 63)]⟩, ⟨some 65, none, .ld (some 5) (.t 15)⟩, ⟨some 66, none, .mv (.t 16)⟩, ⟨some 67, none, .call true 121 [(.t 65), (.t 66)]⟩, ⟨some 68, none, .bin .lss 0 (.t 64) (.t 67)⟩])
        (.cond (.t 68)
          (.seq (.reg [⟨some 12, none, .mv (.k (.nils))⟩, ⟨some 13, none, .mv (.k (.int .i64 3))⟩])
          .ret)
          .skip))))
      (.reg [⟨some 69, none, .bin .add 0 (.t 59) (.k (.int .i64 1))⟩, ⟨some 59, none, .mv (.t 69)⟩])))))))
  (.seq (.reg [⟨some 70, none, .mv (.t 5)⟩, ⟨some 71, none, .call true 72 [(.t 70)]⟩, ⟨some 17, none, .mv (.t 71)⟩])
  (.seq (.seq (.reg [⟨some 72, none, .fa 4 (.t 15)⟩, ⟨some 73, none, .ld none (.t 72)⟩, ⟨some 74, none, .ln false (.t 73)⟩, ⟨some 75, none, .mv (.k (.int .i64 0))⟩])
  (.block 2
    (.loop
      (.seq (.reg [⟨some 76, none, .bin .lss 0 (.t 75) (.t 74)⟩])
      (.seq (.cond (.t 76)
        .skip
        (.exit 2))
      (.seq (.block 3
        (.seq (.reg [⟨some 77, none, .ia 1 (.t 73) (.t 75)⟩, ⟨some 78, none, .ld none (.t 77)⟩, ⟨some 19, none, .mv (.t 78)⟩])
        (.seq (.reg [⟨some 80, none, .ld (some 5) (.t 15)⟩, ⟨some 81, none, .mv (.t 0)⟩, ⟨some 82, none, .mv (.t 19)⟩, ⟨some 83, none, .mv (.t 17)⟩, ⟨some 84, none, .call false 122 [(.t 80), (.t 81), (.t 82), (.t 83)]⟩, ⟨some 79, none, .mv (.t 84)⟩, ⟨some 85, none, .ex (.t 79) 0⟩, ⟨some 86, none, .ex (.t 79) 1⟩, ⟨some 20, none, .mv (.t 85)⟩, ⟨some 21, none, .mv (.t 86)⟩])
        (.seq (.seq (.reg [⟨some 87, none, .mv (.t 21)⟩, ⟨some 88, none, .bin .neq 0 (.t 87) (.k (.int .i64 0))⟩])
        (.cond (.t 88)
          (.seq (.reg [⟨some 89, none, .mv (.t 21)⟩, ⟨some 12, none, .mv (.k (.nils))⟩, ⟨some 13, none, .mv (.t 89)⟩])
          .ret)
          .skip))
        (.reg [⟨some 90, none, .mv (.t 20)⟩, ⟨some 17, none, .mv (.t 90)⟩])))))
      (.reg [⟨some 91, none, .bin .add 0 (.t 75) (.k (.int .i64 1))⟩, ⟨some 75, none, .mv (.t 91)⟩])))))))
  (.seq (.seq (.reg [⟨some 92, none, .mv (.t 17)⟩, ⟨some 93, none, .ln false (.t 92)⟩, ⟨some 94, none, .mv (.k (.int .i64 0))⟩])
  (.block 4
    (.loop
      (.seq (.reg [⟨some 95, none, .bin .lss 0 (.t 94) (.t 93)⟩])
      (.seq (.cond (.t 95)
        .skip
        (.exit 4))
      (.seq (.block 5
        (.seq (.reg [⟨some 96, none, .mv (.t 94)⟩, ⟨some 22, none, .mv (.t 96)⟩])
        (.seq (.reg [⟨some 98, none, .ld (some 5) (.t 15)⟩, ⟨some 99, none, .mv (.t 22)⟩, ⟨some 100, none, .call true 123 [(.t 98), (.t 99)]⟩, ⟨some 97, none, .mv (.t 100)⟩, ⟨some 101, none, .ex (.t 97) 0⟩, ⟨some 102, none, .ex (.t 97) 1⟩, ⟨some 23, none, .mv (.t 101)⟩, ⟨some 24, none, .mv (.t 102)⟩])
        (.seq (.reg [⟨some 103, none, .mv (.t 24)⟩])
        (.cond (.t 103)
          (.reg [⟨some 104, none, .mv (.t 17)⟩, ⟨some 105, none, .mv (.t 22)⟩, ⟨some 106, none, .mv (.t 0)⟩, ⟨some 107, none, .mv (.t 22)⟩, ⟨some 108, none, .mv (.t 23)⟩, ⟨some 109, none, .bd [.int .i64 0, .lit 1 [], .lit 1 [], .lit 1 [], .int .i64 0, .int .i64 0, .str ⟨#[]⟩] [(0, 1, (.k (.int .i64 15))), (3, 1, (.t 108))]⟩, ⟨some 110, none, .mv (.t 17)⟩, ⟨some 111, none, .mv (.t 22)⟩, ⟨some 112, none, .ia 1 (.t 110) (.t 111)⟩, ⟨some 113, none, .ld none (.t 112)⟩, ⟨some 114, none, .bs false 1 [.int .i64 0] 1 [(0, (.t 113))]⟩, ⟨some 115, none, .call false 78 [(.t 106), (.t 107), (.t 109), (.t 114)]⟩, ⟨some 116, none, .ia 1 (.t 104) (.t 105)⟩, ⟨none, none, .st 1 (.t 116) (.t 115)⟩])
          .skip)))))
      (.reg [⟨some 117, none, .bin .add 0 (.t 94) (.k (.int .i64 1))⟩, ⟨some 94, none, .mv (.t 117)⟩])))))))
  (.seq (.reg [⟨some 118, none, .mv (.t 17)⟩, ⟨some 12, none, .mv (.t 118)⟩, ⟨some 13, none, .mv (.k (.int .i64 0))⟩])
  .ret)))))))))
set_option maxRecDepth 100000 in
theorem er89 : (Try.f89.body.bind (erC Try.prog cfg 119)) = some c89 := by kernel_rfl
theorem in89 {args : List AV} {σ : St} {Q : AV → St → Prop} (hlen : args.length ≤ 119) (h : σ.Wf → (∀ i, i < args.length → Hab (args.getD i .undef)) → SWP Try.prog σ.next c89 (retQ σ.next [.t 12, .t 13] Q) (fun i => args.getD i .undef) σ) : TQ Try.prog 89 args σ Q := by
  obtain ⟨k, hb, hk⟩ := Option.bind_eq_some_iff.1 er89
  exact TQ_of (fn := Try.f89) Try.func89 (by kernel_rfl) hb (erC_is mixed hk) (by kernel_rfl) hlen h

/-! parquetry/parquetrylaw23.count -/
def c90 : C :=
  (.seq (.reg [⟨some 2, none, .mv (.k (.int .i64 0))⟩])
  (.seq (.reg [⟨some 3, none, .mv (.k (.int .i64 0))⟩])
  (.seq (.seq (.reg [⟨some 5, none, .mv (.t 0)⟩, ⟨some 6, none, .ln false (.t 5)⟩, ⟨some 7, none, .mv (.k (.int .i64 0))⟩])
  (.block 0
    (.loop
      (.seq (.reg [⟨some 8, none, .bin .lss 0 (.t 7) (.t 6)⟩])
      (.seq (.cond (.t 8)
        .skip
        (.exit 0))
      (.seq (.block 1
        (.seq (.reg [⟨some 9, none, .mv (.t 7)⟩, ⟨some 4, none, .mv (.t 9)⟩])
        (.reg [⟨some 10, none, .mv (.t 3)⟩, ⟨some 11, none, .mv (.t 0)⟩, ⟨some 12, none, .mv (.t 4)⟩, ⟨some 13, none, .ia 1 (.t 11) (.t 12)⟩, ⟨some 14, none, .ld none (.t 13)⟩, ⟨some 15, none, .ln false (.t 14)⟩, ⟨some 16, none, .bin .add 0 (.t 10) (.t 15)⟩, ⟨some 3, none, .mv (.t 16)⟩])))
      (.reg [⟨some 17, none, .bin .add 0 (.t 7) (.k (.int .i64 1))⟩, ⟨some 7, none, .mv (.t 17)⟩])))))))
  (.seq (.reg [⟨some 18, none, .mv (.t 3)⟩, ⟨some 2, none, .mv (.t 18)⟩])
  .ret))))
set_option maxRecDepth 100000 in
theorem er90 : (Try.f90.body.bind (erC Try.prog cfg 19)) = some c90 := by kernel_rfl
theorem in90 {args : List AV} {σ : St} {Q : AV → St → Prop} (hlen : args.length ≤ 19) (h : σ.Wf → (∀ i, i < args.length → Hab (args.getD i .undef)) → SWP Try.prog σ.next c90 (retQ σ.next [.t 2] Q) (fun i => args.getD i .undef) σ) : TQ Try.prog 90 args σ Q := by
  obtain ⟨k, hb, hk⟩ := Option.bind_eq_some_iff.1 er90
  exact TQ_of (fn := Try.f90) Try.func90 (by kernel_rfl) hb (erC_is mixed hk) (by kernel_rfl) hlen h

/-! slices.Contains[[]int,int] -/
def c107 : C :=
  (.seq (.reg [⟨some 4, none, .mv (.k (.bool false))⟩])
  (.seq (.reg [⟨some 5, none, .mv (.t 0)⟩, ⟨some 6, none, .mv (.t 1)⟩, ⟨some 7, none, .call true 127 [(.t 5), (.t 6)]⟩, ⟨some 8, none, .bin .geq 0 (.t 7) (.k (.int .i64 0))⟩, ⟨some 4, none, .mv (.t 8)⟩])
  .ret))
set_option maxRecDepth 100000 in
theorem er107 : (Try.f107.body.bind (erC Try.prog cfg 9)) = some c107 := by kernel_rfl
theorem in107 {args : List AV} {σ : St} {Q : AV → St → Prop} (hlen : args.length ≤ 9) (h : σ.Wf → (∀ i, i < args.length → Hab (args.getD i .undef)) → SWP Try.prog σ.next c107 (retQ σ.next [.t 4] Q) (fun i => args.getD i .undef) σ) : TQ Try.prog 107 args σ Q := by
  obtain ⟨k, hb, hk⟩ := Option.bind_eq_some_iff.1 er107
  exact TQ_of (fn := Try.f107) Try.func107 (by kernel_rfl) hb (erC_is mixed hk) (by kernel_rfl) hlen h

/-! parquetry/parquetryref14.Right -/
def c114 : C :=
  (.seq (.reg [⟨some 2, none, .mv (.k (.bool false))⟩])
  (.seq (.reg [⟨some 3, none, .mv (.k (.int .i64 1))⟩])
  (.seq (.seq (.reg [⟨some 5, none, .mv (.t 0)⟩, ⟨some 6, none, .ln false (.t 5)⟩, ⟨some 7, none, .mv (.k (.int .i64 0))⟩])
  (.block 0
    (.loop
      (.seq (.reg [⟨some 8, none, .bin .lss 0 (.t 7) (.t 6)⟩])
      (.seq (.cond (.t 8)
        .skip
        (.exit 0))
      (.seq (.block 1
        (.seq (.reg [⟨some 9, none, .mv (.t 7)⟩, ⟨some 4, none, .mv (.t 9)⟩])
        (.seq (.seq (.reg [⟨some 10, none, .mv (.t 4)⟩, ⟨some 11, none, .bin .geq 0 (.t 10) (.k (.int .i64 3))⟩, ⟨some 12, none, .mv (.t 11)⟩, ⟨some 13, (some (12, false)), .mv (.t 0)⟩, ⟨some 14, (some (12, false)), .mv (.t 4)⟩, ⟨some 15, (some (12, false)), .ia 1 (.t 13) (.t 14)⟩, ⟨some 16, (some (12, false)), .ld none (.t 15)⟩, ⟨some 17, (some (12, false)), .bin .lss 0 (.t 16) (.k (.int .i64 1))⟩, ⟨some 18, none, .pk (.t 12) (.k (.bool true)) (.t 17)⟩, ⟨some 19, none, .mv (.t 18)⟩, ⟨some 20, (some (19, false)), .mv (.t 0)⟩, ⟨some 21, (some (19, false)), .mv (.t 4)⟩, ⟨some 22, (some (19, false)), .ia 1 (.t 20) (.t 21)⟩, ⟨some 23, (some (19, false)), .ld none (.t 22)⟩, ⟨some 24, (some (19, false)), .bin .gtr 0 (.t 23) (.k (.int .i64 8))⟩, ⟨some 25, none, .pk (.t 19) (.k (.bool true)) (.t 24)⟩])
        (.cond (.t 25)
          (.seq (.reg [⟨some 2, none, .mv (.k (.bool false))⟩])
          .ret)
          .skip))
        (.reg [⟨some 26, none, .mv (.t 3)⟩, ⟨some 27, none, .mv (.t 0)⟩, ⟨some 28, none, .mv (.t 4)⟩, ⟨some 29, none, .ia 1 (.t 27) (.t 28)⟩, ⟨some 30, none, .ld none (.t 29)⟩, ⟨some 31, none, .bin .mul 0 (.t 26) (.t 30)⟩, ⟨some 3, none, .mv (.t 31)⟩]))))
      (.reg [⟨some 32, none, .bin .add 0 (.t 7) (.k (.int .i64 1))⟩, ⟨some 7, none, .mv (.t 32)⟩])))))))
  (.seq (.reg [⟨some 33, none, .mv (.t 3)⟩, ⟨some 34, none, .bin .leq 0 (.t 33) (.k (.int .i64 8))⟩, ⟨some 2, none, .mv (.t 34)⟩])
  .ret))))
set_option maxRecDepth 100000 in
theorem er114 : (Try.f114.body.bind (erC Try.prog cfg 35)) = some c114 := by kernel_rfl
theorem in114 {args : List AV} {σ : St} {Q : AV → St → Prop} (hlen : args.length ≤ 35) (h : σ.Wf → (∀ i, i < args.length → Hab (args.getD i .undef)) → SWP Try.prog σ.next c114 (retQ σ.next [.t 2] Q) (fun i => args.getD i .undef) σ) : TQ Try.prog 114 args σ Q := by
  obtain ⟨k, hb, hk⟩ := Option.bind_eq_some_iff.1 er114
  exact TQ_of (fn := Try.f114) Try.func114 (by kernel_rfl) hb (erC_is mixed hk) (by kernel_rfl) hlen h

/-! parquetry/parquetryref14.Spec -/
def c115 : C :=
  (.seq (.reg [⟨some 6, none, .mv (.k (.bool false))⟩])
  (.seq (.seq (.reg [⟨some 9, none, .mv (.t 0)⟩, ⟨some 10, none, .call true 114 [(.t 9)]⟩, ⟨some 11, none, .un .not (.t 10)⟩, ⟨some 12, none, .mv (.t 11)⟩, ⟨some 13, (some (12, false)), .mv (.t 1)⟩, ⟨some 14, (some (12, false)), .ln false (.t 13)⟩, ⟨some 15, (some (12, false)), .mv (.t 2)⟩, ⟨some 16, (some (12, false)), .bin .neq 0 (.t 14) (.t 15)⟩, ⟨some 17, none, .pk (.t 12) (.k (.bool true)) (.t 16)⟩])
  (.cond (.t 17)
    (.seq (.reg [⟨some 6, none, .mv (.k (.bool false))⟩])
    .ret)
    .skip))
  (.seq (.seq (.reg [⟨some 18, none, .mv (.t 1)⟩, ⟨some 19, none, .ln false (.t 18)⟩, ⟨some 20, none, .mv (.k (.int .i64 0))⟩])
  (.block 0
    (.loop
      (.seq (.reg [⟨some 21, none, .bin .lss 0 (.t 20) (.t 19)⟩])
      (.seq (.cond (.t 21)
        .skip
        (.exit 0))
      (.seq (.block 1
        (.seq (.reg [⟨some 22, none, .mv (.t 20)⟩, ⟨some 7, none, .mv (.t 22)⟩])
        (.seq (.seq (.reg [⟨some 23, none, .mv (.t 1)⟩, ⟨some 24, none, .mv (.t 7)⟩, ⟨some 25, none, .ia 1 (.t 23) (.t 24)⟩, ⟨some 26, none, .ld none (.t 25)⟩, ⟨some 27, none, .bin .lss 0 (.t 26) (.k (.int .i64 (-1)))⟩, ⟨some 28, none, .mv (.t 27)⟩, ⟨some 29, (some (28, false)), .mv (.t 1)⟩, ⟨some 30, (some (28, false)), .mv (.t 7)⟩, ⟨some 31, (some (28, false)), .ia 1 (.t 29) (.t 30)⟩, ⟨some 32, (some (28, false)), .ld none (.t 31)⟩, ⟨some 33, (some (28, false)), .mv (.t 0)⟩, ⟨some 34, (some (28, false)), .ln false (.t 33)⟩, ⟨some 35, (some (28, false)), .bin .geq 0 (.t 32) (.t 34)⟩, ⟨some 36, none, .pk (.t 28) (.k (.bool true)) (.t 35)⟩])
        (.cond (.t 36)
          (.seq (.reg [⟨some 6, none, .mv (.k (.bool false))⟩])
          .ret)
          .skip))
        (.seq (.reg [⟨some 8, none, .mv (.k (.int .i64 0))⟩])
        (.block 2
          (.loop
            (.seq (.seq (.reg [⟨some 37, none, .mv (.t 8)⟩, ⟨some 38, none, .mv (.t 7)⟩, ⟨some 39, none, .bin .lss 0 (.t 37) (.t 38)⟩])
            (.cond (.t 39)
              .skip
              (.exit 2)))
            (.seq (.block 3
              (.seq (.drs [⟨some 42, none, .mv (.t 1)⟩, ⟨some 43, none, .mv (.t 8)⟩, ⟨some 44, none, .ia 1 (.t 42) (.t 43)⟩, ⟨some 45, none, .ld none (.t 44)⟩, ⟨some 46, none, .mv (.t 1)⟩, ⟨some 47, none, .mv (.t 7)⟩, ⟨some 48, none, .ia 1 (.t 46) (.t 47)⟩, ⟨some 49, none, .ld none (.t 48)⟩, ⟨some 50, none, .bin .eql 0 (.t 45) (.t 49)⟩, ⟨some 51, none, .mv (.t 50)⟩, ⟨some 52, (some (51, true)), .mv (.t 1)⟩, ⟨some 53, (some (51, true)), .mv (.t 7)⟩, ⟨some 54, (some (51, true)), .ia 1 (.t 52) (.t 53)⟩, ⟨some 55, (some (51, true)), .ld none (.t 54)⟩, ⟨some 56, (some (51, true)), .bin .geq 0 (.t 55) (.k (.int .i64 0))⟩, ⟨some 57, none, .pk (.t 51) (.t 56) (.k (.bool false))⟩])
              (.cond (.t 57)
                (.seq (.reg [⟨some 6, none, .mv (.k (.bool false))⟩])
                .ret)
                .skip)))
            (.reg [⟨some 40, none, .mv (.t 8)⟩, ⟨some 41, none, .bin .add 0 (.t 40) (.k (.int .i64 1))⟩, ⟨some 8, none, .mv (.t 41)⟩])))))))))
      (.reg [⟨some 58, none, .bin .add 0 (.t 20) (.k (.int .i64 1))⟩, ⟨some 20, none, .mv (.t 58)⟩])))))))
  (.seq (.reg [⟨some 6, none, .mv (.k (.bool true))⟩])
  .ret))))
set_option maxRecDepth 100000 in
theorem er115 : (Try.f115.body.bind (erC Try.prog cfg 59)) = some c115 := by kernel_rfl
theorem in115 {args : List AV} {σ : St} {Q : AV → St → Prop} (hlen : args.length ≤ 59) (h : σ.Wf → (∀ i, i < args.length → Hab (args.getD i .undef)) → SWP Try.prog σ.next c115 (retQ σ.next [.t 6] Q) (fun i => args.getD i .undef) σ) : TQ Try.prog 115 args σ Q := by
  obtain ⟨k, hb, hk⟩ := Option.bind_eq_some_iff.1 er115
  exact TQ_of (fn := Try.f115) Try.func115 (by kernel_rfl) hb (erC_is mixed hk) (by kernel_rfl) hlen h

/-! parquetry/move.may -/
def c116 : C :=
  (.seq (.reg [⟨some 8, none, .mv (.k (.bool false))⟩])
  (.seq (.reg [⟨some 9, none, .mv (.t 0)⟩, ⟨some 10, none, .call true 131 [(.t 9)]⟩, ⟨some 11, none, .mv (.t 10)⟩, ⟨some 12, (some (11, true)), .mv (.t 1)⟩, ⟨some 13, (some (11, true)), .call true 132 [(.t 12)]⟩, ⟨some 14, none, .pk (.t 11) (.t 13) (.k (.bool false))⟩, ⟨some 15, none, .mv (.t 14)⟩, ⟨some 16, (some (15, true)), .mv (.t 0)⟩, ⟨some 17, (some (15, true)), .mv (.t 2)⟩, ⟨some 18, (some (15, true)), .mv (.t 1)⟩, ⟨some 19, (some (15, true)), .ln false (.t 18)⟩, ⟨some 20, (some (15, true)), .call true 133 [(.t 16), (.t 17), (.t 19)]⟩, ⟨some 21, none, .pk (.t 15) (.t 20) (.k (.bool false))⟩, ⟨some 22, none, .mv (.t 21)⟩, ⟨some 23, (some (22, true)), .mv (.t 0)⟩, ⟨some 24, (some (22, true)), .mv (.t 3)⟩, ⟨some 25, (some (22, true)), .mv (.t 1)⟩, ⟨some 26, (some (22, true)), .ln false (.t 25)⟩, ⟨some 27, (some (22, true)), .call true 133 [(.t 23), (.t 24), (.t 26)]⟩, ⟨some 28, none, .pk (.t 22) (.t 27) (.k (.bool false))⟩, ⟨some 8, none, .mv (.t 28)⟩])
  .ret))
set_option maxRecDepth 100000 in
theorem er116 : (Try.f116.body.bind (erC Try.prog cfg 29)) = some c116 := by kernel_rfl
theorem in116 {args : List AV} {σ : St} {Q : AV → St → Prop} (hlen : args.length ≤ 29) (h : σ.Wf → (∀ i, i < args.length → Hab (args.getD i .undef)) → SWP Try.prog σ.next c116 (retQ σ.next [.t 8] Q) (fun i => args.getD i .undef) σ) : TQ Try.prog 116 args σ Q := by
  obtain ⟨k, hb, hk⟩ := Option.bind_eq_some_iff.1 er116
  exact TQ_of (fn := Try.f116) Try.func116 (by kernel_rfl) hb (erC_is mixed hk) (by kernel_rfl) hlen h

/-! parquetry/mesh.Devices -/
def c117 : C :=
  (.seq (.reg [⟨some 2, none, .mv (.k (.int .i64 0))⟩])
  (.seq (.seq (.reg [⟨some 6, none, .mv (.t 0)⟩, ⟨some 7, none, .call true 131 [(.t 6)]⟩, ⟨some 8, none, .un .not (.t 7)⟩])
  (.cond (.t 8)
    (.seq (.reg [⟨some 2, none, .mv (.k (.int .i64 0))⟩])
    .ret)
    .skip))
  (.seq (.reg [⟨some 3, none, .mv (.k (.int .i64 1))⟩])
  (.seq (.seq (.reg [⟨some 9, none, .mv (.t 0)⟩, ⟨some 10, none, .ln false (.t 9)⟩, ⟨some 11, none, .mv (.k (.int .i64 0))⟩])
  (.block 0
    (.loop
      (.seq (.reg [⟨some 12, none, .bin .lss 0 (.t 11) (.t 10)⟩])
      (.seq (.cond (.t 12)
        .skip
        (.exit 0))
      (.seq (.block 1
        (.seq (.reg [⟨some 13, none, .ia 1 (.t 9) (.t 11)⟩, ⟨some 14, none, .ld none (.t 13)⟩, ⟨some 5, none, .mv (.t 14)⟩])
        (.reg [⟨some 15, none, .mv (.t 3)⟩, ⟨some 16, none, .mv (.t 5)⟩, ⟨some 17, none, .bin .mul 0 (.t 15) (.t 16)⟩, ⟨some 3, none, .mv (.t 17)⟩])))
      (.reg [⟨some 18, none, .bin .add 0 (.t 11) (.k (.int .i64 1))⟩, ⟨some 11, none, .mv (.t 18)⟩])))))))
  (.seq (.reg [⟨some 19, none, .mv (.t 3)⟩, ⟨some 2, none, .mv (.t 19)⟩])
  .ret)))))
set_option maxRecDepth 100000 in
theorem er117 : (Try.f117.body.bind (erC Try.prog cfg 20)) = some c117 := by kernel_rfl
theorem in117 {args : List AV} {σ : St} {Q : AV → St → Prop} (hlen : args.length ≤ 20) (h : σ.Wf → (∀ i, i < args.length → Hab (args.getD i .undef)) → SWP Try.prog σ.next c117 (retQ σ.next [.t 2] Q) (fun i => args.getD i .undef) σ) : TQ Try.prog 117 args σ Q := by
  obtain ⟨k, hb, hk⟩ := Option.bind_eq_some_iff.1 er117
  exact TQ_of (fn := Try.f117) Try.func117 (by kernel_rfl) hb (erC_is mixed hk) (by kernel_rfl) hlen h

/-! slices.ContainsFunc[[]int,int] -/
def c118 : C :=
  (.seq (.reg [⟨some 4, none, .mv (.k (.bool false))⟩])
  (.seq (.reg [⟨some 5, none, .mv (.t 0)⟩, ⟨some 6, none, .mv (.t 1)⟩, ⟨some 7, none, .call true 134 [(.t 5), (.t 6)]⟩, ⟨some 8, none, .bin .geq 0 (.t 7) (.k (.int .i64 0))⟩, ⟨some 4, none, .mv (.t 8)⟩])
  .ret))
set_option maxRecDepth 100000 in
theorem er118 : (Try.f118.body.bind (erC Try.prog cfg 9)) = some c118 := by kernel_rfl
theorem in118 {args : List AV} {σ : St} {Q : AV → St → Prop} (hlen : args.length ≤ 9) (h : σ.Wf → (∀ i, i < args.length → Hab (args.getD i .undef)) → SWP Try.prog σ.next c118 (retQ σ.next [.t 4] Q) (fun i => args.getD i .undef) σ) : TQ Try.prog 118 args σ Q := by
  obtain ⟨k, hb, hk⟩ := Option.bind_eq_some_iff.1 er118
  exact TQ_of (fn := Try.f118) Try.func118 (by kernel_rfl) hb (erC_is mixed hk) (by kernel_rfl) hlen h

/-! parquetry/move.Do$1 -/
def c119 : C :=
  (.seq (.reg [⟨some 2, none, .mv (.k (.bool false))⟩])
  (.seq (.reg [⟨some 3, none, .mv (.t 0)⟩, ⟨some 4, none, .bin .lss 0 (.t 3) (.k (.int .i64 0))⟩, ⟨some 2, none, .mv (.t 4)⟩])
  .ret))
set_option maxRecDepth 100000 in
theorem er119 : (Try.f119.body.bind (erC Try.prog cfg 5)) = some c119 := by kernel_rfl
theorem in119 {args : List AV} {σ : St} {Q : AV → St → Prop} (hlen : args.length ≤ 5) (h : σ.Wf → (∀ i, i < args.length → Hab (args.getD i .undef)) → SWP Try.prog σ.next c119 (retQ σ.next [.t 2] Q) (fun i => args.getD i .undef) σ) : TQ Try.prog 119 args σ Q := by
  obtain ⟨k, hb, hk⟩ := Option.bind_eq_some_iff.1 er119
  exact TQ_of (fn := Try.f119) Try.func119 (by kernel_rfl) hb (erC_is mixed hk) (by kernel_rfl) hlen h

/-! slices.Index[[]int,int] -/
def c127 : C :=
  (.seq (.reg [⟨some 4, none, .mv (.k (.int .i64 0))⟩])
  (.seq (.seq (.reg [⟨some 6, none, .mv (.t 0)⟩, ⟨some 7, none, .ln false (.t 6)⟩, ⟨some 8, none, .mv (.k (.int .i64 0))⟩])
  (.block 0
    (.loop
      (.seq (.reg [⟨some 9, none, .bin .lss 0 (.t 8) (.t 7)⟩])
      (.seq (.cond (.t 9)
        .skip
        (.exit 0))
      (.seq (.block 1
        (.seq (.reg [⟨some 10, none, .mv (.t 8)⟩, ⟨some 5, none, .mv (.t 10)⟩])
        (.seq (.reg [⟨some 11, none, .mv (.t 1)⟩, ⟨some 12, none, .mv (.t 0)⟩, ⟨some 13, none, .mv (.t 5)⟩, ⟨some 14, none, .ia 1 (.t 12) (.t 13)⟩, ⟨some 15, none, .ld none (.t 14)⟩, ⟨some 16, none, .bin .eql 0 (.t 11) (.t 15)⟩])
        (.cond (.t 16)
          (.seq (.reg [⟨some 17, none, .mv (.t 5)⟩, ⟨some 4, none, .mv (.t 17)⟩])
          .ret)
          .skip))))
      (.reg [⟨some 18, none, .bin .add 0 (.t 8) (.k (.int .i64 1))⟩, ⟨some 8, none, .mv (.t 18)⟩])))))))
  (.seq (.reg [⟨some 4, none, .mv (.k (.int .i64 (-1)))⟩])
  .ret)))
set_option maxRecDepth 100000 in
theorem er127 : (Try.f127.body.bind (erC Try.prog cfg 19)) = some c127 := by kernel_rfl
theorem in127 {args : List AV} {σ : St} {Q : AV → St → Prop} (hlen : args.length ≤ 19) (h : σ.Wf → (∀ i, i < args.length → Hab (args.getD i .undef)) → SWP Try.prog σ.next c127 (retQ σ.next [.t 4] Q) (fun i => args.getD i .undef) σ) : TQ Try.prog 127 args σ Q := by
  obtain ⟨k, hb, hk⟩ := Option.bind_eq_some_iff.1 er127
  exact TQ_of (fn := Try.f127) Try.func127 (by kernel_rfl) hb (erC_is mixed hk) (by kernel_rfl) hlen h

/-! parquetry/mesh.Right -/
def c131 : C :=
  (.seq (.reg [⟨some 2, none, .mv (.k (.bool false))⟩])
  (.seq (.seq (.reg [⟨some 6, none, .mv (.t 0)⟩, ⟨some 7, none, .ln false (.t 6)⟩, ⟨some 8, none, .bin .gtr 0 (.t 7) (.k (.int .i64 3))⟩])
  (.cond (.t 8)
    (.seq (.reg [⟨some 2, none, .mv (.k (.bool false))⟩])
    .ret)
    .skip))
  (.seq (.reg [⟨some 3, none, .mv (.k (.int .i64 1))⟩])
  (.seq (.seq (.reg [⟨some 9, none, .mv (.t 0)⟩, ⟨some 10, none, .ln false (.t 9)⟩, ⟨some 11, none, .mv (.k (.int .i64 0))⟩])
  (.block 0
    (.loop
      (.seq (.reg [⟨some 12, none, .bin .lss 0 (.t 11) (.t 10)⟩])
      (.seq (.cond (.t 12)
        .skip
        (.exit 0))
      (.seq (.block 1
        (.seq (.reg [⟨some 13, none, .ia 1 (.t 9) (.t 11)⟩, ⟨some 14, none, .ld none (.t 13)⟩, ⟨some 5, none, .mv (.t 14)⟩])
        (.seq (.seq (.reg [⟨some 15, none, .mv (.t 5)⟩, ⟨some 16, none, .bin .lss 0 (.t 15) (.k (.int .i64 1))⟩, ⟨some 17, none, .mv (.t 16)⟩, ⟨some 18, (some (17, false)), .mv (.t 5)⟩, ⟨some 19, (some (17, false)), .bin .gtr 0 (.t 18) (.k (.int .i64 8))⟩, ⟨some 20, none, .pk (.t 17) (.k (.bool true)) (.t 19)⟩])
        (.cond (.t 20)
          (.seq (.reg [⟨some 2, none, .mv (.k (.bool false))⟩])
          .ret)
          .skip))
        (.reg [⟨some 21, none, .mv (.t 3)⟩, ⟨some 22, none, .mv (.t 5)⟩, ⟨some 23, none, .bin .mul 0 (.t 21) (.t 22)⟩, ⟨some 3, none, .mv (.t 23)⟩]))))
      (.reg [⟨some 24, none, .bin .add 0 (.t 11) (.k (.int .i64 1))⟩, ⟨some 11, none, .mv (.t 24)⟩])))))))
  (.seq (.reg [⟨some 25, none, .mv (.t 3)⟩, ⟨some 26, none, .bin .leq 0 (.t 25) (.k (.int .i64 8))⟩, ⟨some 2, none, .mv (.t 26)⟩])
  .ret)))))
set_option maxRecDepth 100000 in
theorem er131 : (Try.f131.body.bind (erC Try.prog cfg 27)) = some c131 := by kernel_rfl
theorem in131 {args : List AV} {σ : St} {Q : AV → St → Prop} (hlen : args.length ≤ 27) (h : σ.Wf → (∀ i, i < args.length → Hab (args.getD i .undef)) → SWP Try.prog σ.next c131 (retQ σ.next [.t 2] Q) (fun i => args.getD i .undef) σ) : TQ Try.prog 131 args σ Q := by
  obtain ⟨k, hb, hk⟩ := Option.bind_eq_some_iff.1 er131
  exact TQ_of (fn := Try.f131) Try.func131 (by kernel_rfl) hb (erC_is mixed hk) (by kernel_rfl) hlen h

/-! parquetry/shape.Right -/
def c132 : C :=
  (.seq (.reg [⟨some 2, none, .mv (.k (.bool false))⟩])
  (.seq (.seq (.reg [⟨some 6, none, .mv (.t 0)⟩, ⟨some 7, none, .ln false (.t 6)⟩, ⟨some 8, none, .bin .gtr 0 (.t 7) (.k (.int .i64 4))⟩])
  (.cond (.t 8)
    (.seq (.reg [⟨some 2, none, .mv (.k (.bool false))⟩])
    .ret)
    .skip))
  (.seq (.reg [⟨some 3, none, .mv (.k (.int .i64 1))⟩])
  (.seq (.seq (.reg [⟨some 9, none, .mv (.t 0)⟩, ⟨some 10, none, .ln false (.t 9)⟩, ⟨some 11, none, .mv (.k (.int .i64 0))⟩])
  (.block 0
    (.loop
      (.seq (.reg [⟨some 12, none, .bin .lss 0 (.t 11) (.t 10)⟩])
      (.seq (.cond (.t 12)
        .skip
        (.exit 0))
      (.seq (.block 1
        (.seq (.reg [⟨some 13, none, .ia 1 (.t 9) (.t 11)⟩, ⟨some 14, none, .ld none (.t 13)⟩, ⟨some 5, none, .mv (.t 14)⟩])
        (.seq (.seq (.reg [⟨some 15, none, .mv (.t 5)⟩, ⟨some 16, none, .bin .lss 0 (.t 15) (.k (.int .i64 0))⟩, ⟨some 17, none, .mv (.t 16)⟩, ⟨some 18, (some (17, false)), .mv (.t 5)⟩, ⟨some 19, (some (17, false)), .bin .gtr 0 (.t 18) (.k (.int .i64 32))⟩, ⟨some 20, none, .pk (.t 17) (.k (.bool true)) (.t 19)⟩])
        (.cond (.t 20)
          (.seq (.reg [⟨some 2, none, .mv (.k (.bool false))⟩])
          .ret)
          .skip))
        (.reg [⟨some 21, none, .mv (.t 3)⟩, ⟨some 22, none, .mv (.t 5)⟩, ⟨some 23, none, .bin .mul 0 (.t 21) (.t 22)⟩, ⟨some 3, none, .mv (.t 23)⟩]))))
      (.reg [⟨some 24, none, .bin .add 0 (.t 11) (.k (.int .i64 1))⟩, ⟨some 11, none, .mv (.t 24)⟩])))))))
  (.seq (.reg [⟨some 25, none, .mv (.t 3)⟩, ⟨some 26, none, .bin .leq 0 (.t 25) (.k (.int .i64 4096))⟩, ⟨some 2, none, .mv (.t 26)⟩])
  .ret)))))
set_option maxRecDepth 100000 in
theorem er132 : (Try.f132.body.bind (erC Try.prog cfg 27)) = some c132 := by kernel_rfl
theorem in132 {args : List AV} {σ : St} {Q : AV → St → Prop} (hlen : args.length ≤ 27) (h : σ.Wf → (∀ i, i < args.length → Hab (args.getD i .undef)) → SWP Try.prog σ.next c132 (retQ σ.next [.t 2] Q) (fun i => args.getD i .undef) σ) : TQ Try.prog 132 args σ Q := by
  obtain ⟨k, hb, hk⟩ := Option.bind_eq_some_iff.1 er132
  exact TQ_of (fn := Try.f132) Try.func132 (by kernel_rfl) hb (erC_is mixed hk) (by kernel_rfl) hlen h

/-! parquetry/spec.Right -/
def c133 : C :=
  (.seq (.reg [⟨some 6, none, .mv (.k (.bool false))⟩])
  (.seq (.seq (.reg [⟨some 9, none, .mv (.t 0)⟩, ⟨some 10, none, .call true 131 [(.t 9)]⟩, ⟨some 11, none, .un .not (.t 10)⟩, ⟨some 12, none, .mv (.t 11)⟩, ⟨some 13, (some (12, false)), .mv (.t 1)⟩, ⟨some 14, (some (12, false)), .ln false (.t 13)⟩, ⟨some 15, (some (12, false)), .mv (.t 2)⟩, ⟨some 16, (some (12, false)), .bin .neq 0 (.t 14) (.t 15)⟩, ⟨some 17, none, .pk (.t 12) (.k (.bool true)) (.t 16)⟩])
  (.cond (.t 17)
    (.seq (.reg [⟨some 6, none, .mv (.k (.bool false))⟩])
    .ret)
    .skip))
  (.seq (.seq (.reg [⟨some 18, none, .mv (.t 1)⟩, ⟨some 19, none, .ln false (.t 18)⟩, ⟨some 20, none, .mv (.k (.int .i64 0))⟩])
  (.block 0
    (.loop
      (.seq (.reg [⟨some 21, none, .bin .lss 0 (.t 20) (.t 19)⟩])
      (.seq (.cond (.t 21)
        .skip
        (.exit 0))
      (.seq (.block 1
        (.seq (.reg [⟨some 22, none, .mv (.t 20)⟩, ⟨some 23, none, .ia 1 (.t 18) (.t 20)⟩, ⟨some 24, none, .ld none (.t 23)⟩, ⟨some 7, none, .mv (.t 22)⟩, ⟨some 8, none, .mv (.t 24)⟩])
        (.seq (.reg [⟨some 25, none, .mv (.t 8)⟩, ⟨some 26, none, .bin .lss 0 (.t 25) (.k (.int .i64 (-1)))⟩, ⟨some 27, none, .mv (.t 26)⟩, ⟨some 28, (some (27, false)), .mv (.t 8)⟩, ⟨some 29, (some (27, false)), .mv (.t 0)⟩, ⟨some 30, (some (27, false)), .ln false (.t 29)⟩, ⟨some 31, (some (27, false)), .bin .geq 0 (.t 28) (.t 30)⟩, ⟨some 32, none, .pk (.t 27) (.k (.bool true)) (.t 31)⟩, ⟨some 33, none, .mv (.t 32)⟩, ⟨some 34, (some (33, false)), .mv (.t 8)⟩, ⟨some 35, (some (33, false)), .bin .neq 0 (.t 34) (.k (.int .i64 (-1)))⟩, ⟨some 36, (some (33, false)), .mv (.t 35)⟩, ⟨some 37, (some (36, true)), .mv (.t 1)⟩, ⟨some 38, (some (36, true)), .mv (.t 7)⟩, ⟨some 39, (some (36, true)), .sc 1 (.t 37) none (some (.t 38)) none⟩, ⟨some 40, (some (36, true)), .mv (.t 8)⟩, ⟨some 41, (some (36, true)), .call true 107 [(.t 39), (.t 40)]⟩, ⟨some 42, (some (33, false)), .pk (.t 36) (.t 41) (.k (.bool false))⟩, ⟨some 43, none, .pk (.t 33) (.k (.bool true)) (.t 42)⟩])
        (.cond (.t 43)
          (.seq (.reg [⟨some 6, none, .mv (.k (.bool false))⟩])
          .ret)
          .skip))))
      (.reg [⟨some 44, none, .bin .add 0 (.t 20) (.k (.int .i64 1))⟩, ⟨some 20, none, .mv (.t 44)⟩])))))))
  (.seq (.reg [⟨some 6, none, .mv (.k (.bool true))⟩])
  .ret))))
set_option maxRecDepth 100000 in
theorem er133 : (Try.f133.body.bind (erC Try.prog cfg 45)) = some c133 := by kernel_rfl
theorem in133 {args : List AV} {σ : St} {Q : AV → St → Prop} (hlen : args.length ≤ 45) (h : σ.Wf → (∀ i, i < args.length → Hab (args.getD i .undef)) → SWP Try.prog σ.next c133 (retQ σ.next [.t 6] Q) (fun i => args.getD i .undef) σ) : TQ Try.prog 133 args σ Q := by
  obtain ⟨k, hb, hk⟩ := Option.bind_eq_some_iff.1 er133
  exact TQ_of (fn := Try.f133) Try.func133 (by kernel_rfl) hb (erC_is mixed hk) (by kernel_rfl) hlen h

/-! slices.IndexFunc[[]int,int] -/
def c134 : C :=
  (.seq (.reg [⟨some 4, none, .mv (.k (.int .i64 0))⟩])
  (.seq (.seq (.reg [⟨some 6, none, .mv (.t 0)⟩, ⟨some 7, none, .ln false (.t 6)⟩, ⟨some 8, none, .mv (.k (.int .i64 0))⟩])
  (.block 0
    (.loop
      (.seq (.reg [⟨some 9, none, .bin .lss 0 (.t 8) (.t 7)⟩])
      (.seq (.cond (.t 9)
        .skip
        (.exit 0))
      (.seq (.block 1
        (.seq (.reg [⟨some 10, none, .mv (.t 8)⟩, ⟨some 5, none, .mv (.t 10)⟩])
        (.seq (.reg [⟨some 11, none, .mv (.t 1)⟩, ⟨some 12, none, .mv (.t 0)⟩, ⟨some 13, none, .mv (.t 5)⟩, ⟨some 14, none, .ia 1 (.t 12) (.t 13)⟩, ⟨some 15, none, .ld none (.t 14)⟩, ⟨some 16, none, .callv true (.t 11) [(.t 15)]⟩])
        (.cond (.t 16)
          (.seq (.reg [⟨some 17, none, .mv (.t 5)⟩, ⟨some 4, none, .mv (.t 17)⟩])
          .ret)
          .skip))))
      (.reg [⟨some 18, none, .bin .add 0 (.t 8) (.k (.int .i64 1))⟩, ⟨some 8, none, .mv (.t 18)⟩])))))))
  (.seq (.reg [⟨some 4, none, .mv (.k (.int .i64 (-1)))⟩])
  .ret)))
set_option maxRecDepth 100000 in
theorem er134 : (Try.f134.body.bind (erC Try.prog cfg 19)) = some c134 := by kernel_rfl
theorem in134 {args : List AV} {σ : St} {Q : AV → St → Prop} (hlen : args.length ≤ 19) (h : σ.Wf → (∀ i, i < args.length → Hab (args.getD i .undef)) → SWP Try.prog σ.next c134 (retQ σ.next [.t 4] Q) (fun i => args.getD i .undef) σ) : TQ Try.prog 134 args σ Q := by
  obtain ⟨k, hb, hk⟩ := Option.bind_eq_some_iff.1 er134
  exact TQ_of (fn := Try.f134) Try.func134 (by kernel_rfl) hb (erC_is mixed hk) (by kernel_rfl) hlen h

end Go.Proofs.Ytfjbabacpnnjmaa.Av

namespace Go.Av
theorem TQ.frz {P : Program} {f : FuncId} {args : List AV} {σ : St} {Q : AV → St → Prop} (i : Nat) {b n sz : Nat} {rows : List (List AV)} (hi : args.getD i .undef = .sl b 0 n) (hb : σ.blk b = some (.cells sz rows)) (hn : n = rows.length)
    (h : TQ P f (args.set i (.lit sz rows)) (σ.kill b) Q) : TQ P f args σ Q := by
  refine ⟨h.1, fun W0 e w cargs hr hlen hv => ?_⟩
  obtain ⟨x, hx, _⟩ := hr.own b _ hb
  obtain ⟨e', l, hR, hcut⟩ := hr.freeze hb hx
  refine (h.2 W0 e' w cargs hR (by simpa using hlen) fun j hj => ?_).mono fun en w' ⟨e'', cv, v, s, h1, h2, h3, h4, h5⟩ => ⟨e'', cv, v, s, h1, l.trans h2, h3, h4, h5⟩
  have hj' : j < args.length := by simpa using hj
  by_cases hji : j = i
  · subst hji
    have hq := hv j hj'
    rw [hi] at hq
    have := hcut 0 n _ hq (by omega)
    rw [List.getD_eq_getElem?_getD, List.getElem?_set, if_pos rfl, if_pos hj', Option.getD_some]
    subst hn; simpa using this
  · rw [List.getD_eq_getElem?_getD, List.getElem?_set, if_neg (by omega), ← List.getD_eq_getElem?_getD]; exact (hv j hj').mono l
theorem T.toQ {P : Program} {f : FuncId} {args : List AV} {σ : St} {v : AV} {σ' : St} (h : T P f args σ v σ') : TQ P f args σ fun v' s' => v' = v ∧ s' = σ' := h
end Go.Av
