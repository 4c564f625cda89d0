/- A logic of small values, and walks in it: CodeMakes. -/
import Derived.Test.YtfjbabacpnnjmaaAv11
set_option linter.unusedVariables false
set_option linter.unusedSimpArgs false
set_option linter.deprecated false
namespace Go.Proofs.Ytfjbabacpnnjmaa.Av
open Go Go.Av
set_option maxRecDepth 20000
set_option maxHeartbeats 4000000

attribute [local go_sem] step_apply stepD_apply stepE_apply
attribute [local go_sem] aopq_mv aopq_pk aopq_al aopq_bx aopq_bd aopq_bs aopq_ld aopq_st aopq_nc aopq_bin aopq_un aopq_cv aopq_mi aopq_mf aopq_mm aopq_ms aopq_sc aopq_fa aopq_fl aopq_ia aopq_lk aopq_mu aopq_lm aopq_rg aopq_en aopq_ta aopq_ex aopq_ln aopq_ap aopq_mx aopq.eq_3 aop.eq_1 aop.eq_2 aop.eq_3 aop.eq_4 aop.eq_5 aop.eq_6 aop.eq_7 aop.eq_8 aop.eq_9 aop_bin atS_apply aop_un_not aop_un_neg aop.eq_14 aop.eq_15 aop.eq_16 aop.eq_17 aop.eq_18 aop_sc cutS_apply cutN_apply cutL_apply cutO_apply aop.eq_20 aop.eq_21 aop.eq_22 aop.eq_23 aop.eq_24 aop.eq_25 aop.eq_26 aop.eq_27 aop.eq_28 aop.eq_29 aop.eq_30 aop.eq_31 aop.eq_32 blk_push next_push blk_set next_set blk_kill next_kill frL_nil frL_cons Fits_nil Fits_cons Int.reduceBEq Int.reduceBNe Nat.sub_zero Option.map_some Option.map_none List.set_cons_succ true_or or_true false_or or_false Int.le_refl Int.cast_ofNat_Int decide_true decide_false List.cons_append fillA fillR rowsOf List.replicate_succ List.replicate_zero Nat.zero_mul getD_drop List.length_drop splice List.nil_append List.append_nil cond_true cond_false List.set_cons_zero List.length_set ev put_some put_none upd_apply abin asNat bounds row1 mk List.length_cons List.length_nil List.length_map List.drop_zero List.drop_succ_cons List.drop_nil List.getD_cons_zero List.getD_cons_succ Option.getD_none Option.getD_some List.take_succ_cons List.take_zero List.take_nil true_and and_true Int.toNat_natCast if_true if_false Nat.zero_add Nat.add_zero List.map_cons List.map_nil Nat.reduceEqDiff Nat.left_eq_add Nat.add_eq_left Nat.add_left_cancel_iff Nat.add_assoc Nat.reduceSub Nat.reduceAdd Nat.reduceLeDiff Nat.le_refl Nat.zero_le Nat.zero_lt_one Nat.lt_add_one Int.reduceLT Int.reduceLE Int.reduceToNat Nat.reduceLT Nat.reduceBEq Bool.false_eq_true Nat.reduceBNe ne_eq not_false_eq_true not_true_eq_false false_and and_false reduceIte Int.natCast_nonneg reduceCtorEq parts_agg parts_bool parts_int parts_str parts_lit parts_nils parts_sl parts_ptr Int.natCast_nonneg Int.natCast_nonneg beq_self_eq_true bne_self_eq_false Bool.true_and Bool.false_and Bool.and_true Bool.and_false Bool.true_or Bool.false_or Bool.or_true Bool.or_false Bool.not_true Bool.not_false
attribute [local go_sem] instr0 instr1 instr2 instr10 instr11 instr12 instrN instrA instr_len node0 node1 node2 node3 node4 node5 node6 nodeA node_len I ints progA progsA

/-- What CodeMakes keeps beside its Maker: programs and registers of its own. -/
structure WK (o : Nat → Option Nat) (s : St) (bW bG : Nat) (vw : List AV) (ps : List (List Instr)) (rs : List Int) : Prop where
  oW : o bW = some 1000
  oG : o bG = some 1001
  lt : ∀ c, o c ≠ none → c < s.next
  hW : s.blk bW = some (.cells 1 (vw.map fun v => [v]))
  hG : s.blk bG = some (.cells 1 (rs.map fun r => [I r]))
  hv : vw.length = ps.length
  n9 : ps.length ≤ 900
  hr : ∀ d, d < ps.length → Row1 o (2000 + d) s 13 (vw.getD d .undef) ((ps.getD d []).map instrL)
section wk
variable {o : Nat → Option Nat} {σ : St} {bW bG : Nat} {vw : List AV} {ps : List (List Instr)} {rs : List Int}
theorem WK.frame (h : WK o σ bW bG vw ps rs) {s : St} (hn : σ.next ≤ s.next) (hs : ∀ c, o c ≠ none → s.blk c = σ.blk c) : WK o s bW bG vw ps rs :=
  ⟨h.oW, h.oG, fun c hc => Nat.lt_of_lt_of_le (h.lt c hc) hn, by rw [hs bW (by rw [h.oW]; simp)]; exact h.hW, by rw [hs bG (by rw [h.oG]; simp)]; exact h.hG, h.hv, h.n9, fun d hd => (h.hr d hd).frame fun c hc => hs c (by rw [hc]; simp)⟩
theorem WK.grow (h : WK o σ bW bG vw ps rs) {d : Nat} (hd : d < ps.length) (p' : List Instr) :
    WK (newLab o σ.next (2000 + d)) (growS σ bW vw d 13 (p'.map instrL)) bW bG (vw.set d (.sl σ.next 0 p'.length)) (ps.set d p') rs ∧ ∀ c, c < σ.next → o c = none → (growS σ bW vw d 13 (p'.map instrL)).blk c = σ.blk c := by
  have n9 := h.n9
  have hr := h.hr d hd
  have lt : ∀ {c x}, o c = some x → c < σ.next := fun hx => h.lt _ (by rw [hx]; simp)
  have frl : ∀ {c x}, o c = some x → x ≠ 2000 + d → x ≠ 1000 → (growS σ bW vw d 13 (p'.map instrL)).blk c = σ.blk c := fun hx h2 h3 => growS_blk hr _ (by rw [hx]; simpa using h2) (lt hx) (by rintro rfl; rw [h.oW] at hx; cases hx; exact h3 rfl)
  refine ⟨⟨newLab_old h.lt h.oW, newLab_old h.lt h.oG, newLab_lt h.lt (by rw [growS_next]; omega), ?_, ?_, by simp [h.hv], by simpa using n9, fun k hk => ?_⟩, fun c hc ho => growS_blk hr c (by rw [ho]; simp) hc (by rintro rfl; rw [h.oW] at ho; cases ho)⟩
  · rw [growS_arr, List.length_map]
  · rw [frl h.oG (by omega) (by decide)]; exact h.hG
  · have hk' : k < ps.length := by simpa using hk
    by_cases hkd : k = d
    · subst hkd
      rw [getD_set_eq _ _ (by rw [h.hv]; exact hd), getD_set_eq _ _ hd]
      refine .inr ⟨σ.next, by rw [List.length_map], by simp [newLab], growS_new bW vw k 13 _ (lt h.oW)⟩
    · rw [getD_set_ne _ _ hkd, getD_set_ne _ _ hkd]
      exact ((h.hr k hk').frame fun c hc => frl hc (by omega) (by omega)).newLab fun c hc => newLab_old h.lt hc
theorem WK.setG (h : WK o σ bW bG vw ps rs) (rs' : List Int) : WK o (σ.set bG (.cells 1 (rs'.map fun r => [I r]))) bW bG vw ps rs' ∧ ∀ c, o c = none → (σ.set bG (.cells 1 (rs'.map fun r => [I r]))).blk c = σ.blk c := by
  have n9 := h.n9
  have ne : ∀ {c x}, o c = some x → x ≠ 1001 → (σ.set bG (.cells 1 (rs'.map fun r => [I r]))).blk c = σ.blk c := fun hc hx => by
    rw [blk_set, if_neg (by rintro rfl; rw [h.oG] at hc; cases hc; exact hx rfl)]
  refine ⟨⟨h.oW, h.oG, h.lt, by rw [ne h.oW (by decide)]; exact h.hW, by rw [blk_set, if_pos rfl], h.hv, h.n9, fun d hd => (h.hr d hd).frame fun c hc => ne hc (by omega)⟩, fun c hc => ?_⟩
  rw [blk_set, if_neg (by rintro rfl; rw [h.oG] at hc; cases hc)]
end wk

/-- The Maker and what is kept beside it, in step. -/
structure MkW (n0 : Nat) (B : Nat → Option Blk) (s : St) (b bL bR bW bG : Nat) (o o2 : Nat → Option Nat) (vs vw : List AV) (ps : List (List Instr)) (rs : List Int) (tg : Int) (n i : Nat) : Prop where
  km : Mk o s b bL bR vs ps rs tg
  wk : WK o2 s bW bG vw ps rs
  ap : ∀ c, o2 c ≠ none → o c = none
  low : ∀ c, c < n0 → o c = none ∧ o2 c = none
  old : ∀ c, c < n0 → s.blk c = B c
  nx : n0 ≤ s.next
  len : ps.length = n
  p : ∀ d, (ps.getD d []).length ≤ i
  r : ∀ d, 0 ≤ rs.getD d 0 ∧ rs.getD d 0 ≤ i
  t : 0 ≤ tg ∧ tg ≤ i
  sm : ∀ p ∈ ps, ∀ i ∈ p, i.Sm
section mkw
variable {n0 : Nat} {B : Nat → Option Blk} {σ s : St} {b bL bR bW bG : Nat} {o o2 o' : Nat → Option Nat} {vs vw vs' : List AV} {ps ps' : List (List Instr)} {rs rs' : List Int} {tg tg' : Int} {n i : Nat}
/-- The Maker is turned. -/
theorem MkW.turn (h : MkW n0 B σ b bL bR bW bG o o2 vs vw ps rs tg n i) (hm : Mk o' s b bL bR vs' ps' rs' tg') (hg : Grow o σ o' s) : WK o2 s bW bG vw ps rs ∧ (∀ c, o2 c ≠ none → o' c = none) ∧ (∀ c, c < n0 → o' c = none) ∧ (∀ c, c < n0 → s.blk c = B c) ∧ n0 ≤ s.next :=
  ⟨h.wk.frame hg.1 fun c hc => hg.2.2 c (h.wk.lt c hc) (h.ap c hc), fun c hc => by rw [hg.2.1 c (h.wk.lt c hc)]; exact h.ap c hc, fun c hc => by rw [hg.2.1 c (Nat.lt_of_lt_of_le hc h.nx)]; exact (h.low c hc).1,
    fun c hc => by rw [hg.2.2 c (Nat.lt_of_lt_of_le hc h.nx) (h.low c hc).1]; exact h.old c hc, Nat.le_trans h.nx hg.1⟩
end mkw

theorem and_nat (x : Int) (k : Nat) (hk : k ≤ 1000) : 0 ≤ bits .and .i64 x k ∧ bits .and .i64 x k ≤ k := by
  have e : bits .and .i64 x k = IntKind.i64.wrap (((BitVec.ofInt IntKind.i64.bits x &&& BitVec.ofInt IntKind.i64.bits (k : Int)).toNat : Nat) : Int) := rfl
  have h : (BitVec.ofInt IntKind.i64.bits x &&& BitVec.ofInt IntKind.i64.bits (k : Int)).toNat ≤ k := by
    rw [BitVec.toNat_and]
    refine Nat.le_trans Nat.and_le_right ?_
    rw [BitVec.ofInt_natCast, BitVec.toNat_ofNat]
    exact Nat.mod_le _ _
  rw [e, IntWalk.i64_in _ (by omega)]
  omega
theorem regs_set (rs : List Int) (d : Nat) (x : Int) : (rs.map fun r => [I r]).set d [I x] = (rs.set d x).map fun r => [I r] := by rw [List.map_set]
/-- law18.CodeMakes -/
theorem codeMakes_spec (l : List Int) (dv : Int) (σ : St) : T Try.prog 7 [ints l, I dv] σ (.bool true) σ := by
  refine in7 (by simp) fun wf hab => ?_
  have hll := hab_ints (hab 0 (by simp))
  clear hab
  unfold c7
  first | refine .seq (.rg fun A hA K hK => ?_) | refine .seq (.seq (.rg fun A hA K hK => ?_)) | refine .rg fun A hA K hK => ?_ | refine .seq (.rd fun A hA K hK => ?_) | refine .seq (.seq (.rd fun A hA K hK => ?_)) | refine .rd fun A hA K hK => ?_
  simp (maxSteps := 1000000) only [go_sem, hA.nil, hA.go, hA.yes, hA.noT, hA.noF, hA.skp]
  refine hK _ _ ?_; clear hK K hA A
  have ha := and_nat dv 7 (by decide)
  have ha : 0 ≤ bits .and .i64 dv 7 ∧ bits .and .i64 dv 7 ≤ 7 := ha
  have hb4 := tmod_small (bits .and .i64 dv 7) 4 (by decide)
  have hb0 := Int.tmod_nonneg 4 ha.1
  obtain ⟨n, hn⟩ := Int.eq_ofNat_of_zero_le (show 0 ≤ 1 + (bits .and .i64 dv 7).tmod 4 by omega)
  have w1 : IntKind.i64.wrap (1 + (bits .and .i64 dv 7).tmod 4) = n := by rw [hn]; exact IntWalk.i64_in _ (by omega)
  have n1 : 1 ≤ n := by omega
  have n4 : n ≤ 4 := by omega
  first | refine .seq (.rg fun A hA K hK => ?_) | refine .seq (.seq (.rg fun A hA K hK => ?_)) | refine .rg fun A hA K hK => ?_ | refine .seq (.rd fun A hA K hK => ?_) | refine .seq (.seq (.rd fun A hA K hK => ?_)) | refine .rd fun A hA K hK => ?_
  simp (maxSteps := 1000000) only [go_sem, hA.nil, hA.go, hA.yes, hA.noT, hA.noF, hA.skp, w1]
  refine ⟨by decide, ?_⟩
  refine hK _ _ ?_; clear hK K hA A
  clear w1 hn hb0 hb4 ha
  refine .keep [(0, ints l), (5, I n)] (by simp (maxSteps := 1000000) only [go_sem]) ?_
  first | refine .seq (.rg fun A hA K hK => ?_) | refine .seq (.seq (.rg fun A hA K hK => ?_)) | refine .rg fun A hA K hK => ?_ | refine .seq (.rd fun A hA K hK => ?_) | refine .seq (.seq (.rd fun A hA K hK => ?_)) | refine .rd fun A hA K hK => ?_
  simp (maxSteps := 1000000) only [go_sem, hA.nil, hA.go, hA.yes, hA.noT, hA.noF, hA.skp]
  refine aopq_callQ (new_spec n (by omega) (by omega) σ) (by simp (maxSteps := 1000000) only [go_sem]) ?_
  rintro v s ⟨o, bb, bL, bR, vs, rfl, hm, hn1, ho, hx⟩
  try simp (maxSteps := 1000000) only [go_sem, hA.nil, hA.go, hA.yes, hA.noT, hA.noF, hA.skp]
  refine hK _ _ ?_; clear hK K hA A
  first | refine .seq (.rg fun A hA K hK => ?_) | refine .seq (.seq (.rg fun A hA K hK => ?_)) | refine .rg fun A hA K hK => ?_ | refine .seq (.rd fun A hA K hK => ?_) | refine .seq (.seq (.rd fun A hA K hK => ?_)) | refine .rd fun A hA K hK => ?_
  simp (maxSteps := 1000000) only [go_sem, hA.nil, hA.go, hA.yes, hA.noT, hA.noF, hA.skp]
  refine hK _ _ ?_; clear hK K hA A
  refine .cond (t := false) (by simp (maxSteps := 1000000) only [go_sem]) (fun h => by cases h) (fun _ => .skip ?_)
  have m0 : (n : Int) ≤ most := by simp only [most]; omega
  have m1 : (n : Int) * 24 ≤ most := by simp only [most]; omega
  have m2 : (n : Int) * 8 ≤ most := by simp only [most]; omega
  first | refine .seq (.rg fun A hA K hK => ?_) | refine .seq (.seq (.rg fun A hA K hK => ?_)) | refine .rg fun A hA K hK => ?_ | refine .seq (.rd fun A hA K hK => ?_) | refine .seq (.seq (.rd fun A hA K hK => ?_)) | refine .rd fun A hA K hK => ?_
  simp (maxSteps := 1000000) only [go_sem, hA.nil, hA.go, hA.yes, hA.noT, hA.noF, hA.skp, m0, m1]
  refine hK _ _ ?_; clear hK K hA A
  first | refine .seq (.rg fun A hA K hK => ?_) | refine .seq (.seq (.rg fun A hA K hK => ?_)) | refine .rg fun A hA K hK => ?_ | refine .seq (.rd fun A hA K hK => ?_) | refine .seq (.seq (.rd fun A hA K hK => ?_)) | refine .rd fun A hA K hK => ?_
  simp (maxSteps := 1000000) only [go_sem, hA.nil, hA.go, hA.yes, hA.noT, hA.noF, hA.skp, m0, m2]
  refine hK _ _ ?_; clear hK K hA A
  first | refine .seq (.rg fun A hA K hK => ?_) | refine .seq (.seq (.rg fun A hA K hK => ?_)) | refine .rg fun A hA K hK => ?_ | refine .seq (.rd fun A hA K hK => ?_) | refine .seq (.seq (.rd fun A hA K hK => ?_)) | refine .rd fun A hA K hK => ?_
  simp (maxSteps := 1000000) only [go_sem, hA.nil, hA.go, hA.yes, hA.noT, hA.noF, hA.skp]
  refine hK _ _ ?_; clear hK K hA A
  first | refine .seq (.rg fun A hA K hK => ?_) | refine .seq (.seq (.rg fun A hA K hK => ?_)) | refine .rg fun A hA K hK => ?_ | refine .seq (.rd fun A hA K hK => ?_) | refine .seq (.seq (.rd fun A hA K hK => ?_)) | refine .rd fun A hA K hK => ?_
  simp (maxSteps := 1000000) only [go_sem, hA.nil, hA.go, hA.yes, hA.noT, hA.noF, hA.skp]
  refine hK _ _ ?_; clear hK K hA A
  refine .keep [(0, ints l), (5, I n), (6, .ptr bb 0 0), (7, .sl s.next 0 n), (8, .sl (s.next + 1) 0 n), (9, I 0), (10, I 0)] (by simp (maxSteps := 1000000) only [go_sem]) ?_
  have hrep : ∀ (d : Nat), (List.replicate n ([] : List Instr)).getD d [] = [] := fun d => rep_nil n d
  have h0 : MkW σ.next σ.blk ((s.push (.cells 1 (List.replicate n [.nils]))).push (.cells 1 (List.replicate n [I 0]))) bb bL bR s.next (s.next + 1) o (fun c => if c = s.next then some 1000 else if c = s.next + 1 then some 1001 else none) vs (List.replicate n .nils) (List.replicate n []) (List.replicate n 0) 0 n 0 := by
    have hm : Mk o s bb bL bR vs (List.replicate n []) (List.replicate n 0) 0 := hm
    have hlt := hm.lt
    refine ⟨hm.frame (by simp (maxSteps := 1000000) only [go_sem]; omega) fun c hc => ?_, ⟨by simp, by simp, fun c hc => ?_, by simp (maxSteps := 1000000) only [go_sem, List.map_replicate], by simp (maxSteps := 1000000) only [go_sem, List.map_replicate], by simp, by simp; omega, fun d hd => .inl ⟨rep_get _ _ _ _ (by simpa using hd), by rw [hrep]; rfl⟩⟩, fun c hc => ?_, fun c hc => ⟨?_, ?_⟩, fun c hc => ?_, by simp (maxSteps := 1000000) only [go_sem]; omega, by simp, fun d => by rw [hrep]; simp, fun d => ?_, by simp, fun p hp i hi => ?_⟩
    · have := hlt c hc; simp (disch := omega) only [go_sem, if_neg]
    · by_cases q1 : c = s.next; · simp (maxSteps := 1000000) only [go_sem]; omega
      by_cases q2 : c = s.next + 1; · simp (maxSteps := 1000000) only [go_sem]; omega
      simp [q1, q2] at hc
    · cases hoc : o c with
      | none => rfl
      | some x =>
        have := hlt c (by rw [hoc]; simp)
        rw [if_neg (by omega), if_neg (by omega)] at hc; exact absurd rfl hc
    · cases hoc : o c with
      | none => rfl
      | some x => have := ho c (by rw [hoc]; simp); omega
    · rw [if_neg (by omega), if_neg (by omega)]
    · simp (disch := omega) only [go_sem, if_neg, hx c hc]
    · simp only [List.getD_eq_getElem?_getD, List.getElem?_replicate]; split <;> simp
    · rw [(List.mem_replicate.1 hp).2] at hi; simp at hi
  generalize (s.push (.cells 1 (List.replicate n [.nils]))).push (.cells 1 (List.replicate n [I 0])) = t0 at h0 ⊢
  generalize s.next = bW at h0 ⊢
  generalize bW + 1 = bG at h0 ⊢
  generalize (fun c => if c = bW then some 1000 else if c = bG then some 1001 else none) = o2 at h0
  generalize List.replicate n AV.nils = vw at h0
  generalize List.replicate n ([] : List Instr) = ps at h0
  generalize List.replicate n (0 : Int) = rs at h0
  clear hm hn1 ho hx m0 m1 m2 hrep
  refine .loopK (fun m L t => ∃ i o o2 vs vw ps rs tg, m = 60 - i ∧ i ≤ 60 ∧ L = [(0, ints l), (5, I n), (6, .ptr bb 0 0), (7, .sl bW 0 n), (8, .sl bG 0 n), (9, I tg), (10, I (i : Nat))] ∧ MkW σ.next σ.blk t bb bL bR bW bG o o2 vs vw ps rs tg n i) 60 ⟨_, ⟨0, o, o2, vs, vw, ps, rs, 0, rfl, by omega, rfl, h0⟩, by simp (maxSteps := 1000000) only [go_sem]; try rfl⟩ ?_
  clear h0
  rintro m L t ⟨i, o, o2, vs, vw, ps, rs, tg, hmi, hi60, rfl, h⟩
  refine .seq (.midK (fun L u => L = [(0, ints l), (5, I n), (6, .ptr bb 0 0), (7, .sl bW 0 n), (8, .sl bG 0 n), (9, I tg), (10, I i), (32, .bool (decide ((i : Int) < l.length ∧ (i : Int) < 60)))] ∧ u = t) ?_ ?_)
  · by_cases h1 : (i : Int) < l.length
    · by_cases h2 : (i : Int) < 60
      · first | refine .seq (.rg fun A hA K hK => ?_) | refine .seq (.seq (.rg fun A hA K hK => ?_)) | refine .rg fun A hA K hK => ?_ | refine .seq (.rd fun A hA K hK => ?_) | refine .seq (.seq (.rd fun A hA K hK => ?_)) | refine .rd fun A hA K hK => ?_
        simp (maxSteps := 1000000) only [go_sem, hA.nil, hA.go, hA.yes, hA.noT, hA.noF, hA.skp, h1, h2]
        refine hK _ _ ?_; clear hK K hA A
        exact ⟨_, ⟨rfl, rfl⟩, by simp (maxSteps := 1000000) only [go_sem, h1, h2]⟩
      · first | refine .seq (.rg fun A hA K hK => ?_) | refine .seq (.seq (.rg fun A hA K hK => ?_)) | refine .rg fun A hA K hK => ?_ | refine .seq (.rd fun A hA K hK => ?_) | refine .seq (.seq (.rd fun A hA K hK => ?_)) | refine .rd fun A hA K hK => ?_
        simp (maxSteps := 1000000) only [go_sem, hA.nil, hA.go, hA.yes, hA.noT, hA.noF, hA.skp, h1, h2]
        refine hK _ _ ?_; clear hK K hA A
        exact ⟨_, ⟨rfl, rfl⟩, by simp (maxSteps := 1000000) only [go_sem, h1, h2]⟩
    · first | refine .seq (.rg fun A hA K hK => ?_) | refine .seq (.seq (.rg fun A hA K hK => ?_)) | refine .rg fun A hA K hK => ?_ | refine .seq (.rd fun A hA K hK => ?_) | refine .seq (.seq (.rd fun A hA K hK => ?_)) | refine .rd fun A hA K hK => ?_
      simp (maxSteps := 1000000) only [go_sem, hA.nil, hA.go, hA.yes, hA.noT, hA.noF, hA.skp, h1]
      refine hK _ _ ?_; clear hK K hA A
      exact ⟨_, ⟨rfl, rfl⟩, by simp (maxSteps := 1000000) only [go_sem, h1]⟩
  rintro L u ⟨rfl, rfl⟩
  refine .cond (t := decide ((i : Int) < l.length ∧ (i : Int) < 60)) (by simp (maxSteps := 1000000) only [go_sem]) (fun ht => .skip ?_) (fun ht => .exit ?_)
  · have ht := of_decide_eq_true ht
    have hil : i < l.length := by omega
    refine .midK (fun L t => ∃ o o2 vs vw ps rs tg, L = [(0, ints l), (5, I n), (6, .ptr bb 0 0), (7, .sl bW 0 n), (8, .sl bG 0 n), (9, I tg), (10, I i)] ∧ MkW σ.next σ.blk t bb bL bR bW bG o o2 vs vw ps rs tg n (i + 1)) ?_ ?_
    · refine .block ?_
      have hgi := ints_get hil
      generalize l[i] = a at hgi
      have e1 := ht.1
      have w1 : IntKind.i64.wrap ((n : Int) + 1) = ((n + 1 : Nat) : Int) := IntWalk.i64_in _ (by omega)
      have w0 : ¬ (((n + 1 : Nat) : Int) = 0) := by omega
      have hm := tmod_small a ((n + 1 : Nat) : Int) (by omega)
      have w2 : IntKind.i64.wrap (a.tmod ((n + 1 : Nat) : Int) + n) = a.tmod ((n + 1 : Nat) : Int) + n := IntWalk.i64_in _ (by omega)
      have w3 : IntKind.i64.wrap (a.tmod ((n + 1 : Nat) : Int) + n + 1) = a.tmod ((n + 1 : Nat) : Int) + n + 1 := IntWalk.i64_in _ (by omega)
      obtain ⟨d, w4⟩ := Int.eq_ofNat_of_zero_le (Int.tmod_nonneg ((n + 1 : Nat) : Int) (show 0 ≤ a.tmod ((n + 1 : Nat) : Int) + n + 1 by omega))
      have hdn1 := Int.tmod_lt_of_pos (a.tmod ((n + 1 : Nat) : Int) + n + 1) (show (0 : Int) < ((n + 1 : Nat) : Int) by omega)
      rw [w4] at hdn1
      first | refine .seq (.rg fun A hA K hK => ?_) | refine .seq (.seq (.rg fun A hA K hK => ?_)) | refine .rg fun A hA K hK => ?_ | refine .seq (.rd fun A hA K hK => ?_) | refine .seq (.seq (.rd fun A hA K hK => ?_)) | refine .rd fun A hA K hK => ?_
      simp (maxSteps := 1000000) only [go_sem, hA.nil, hA.go, hA.yes, hA.noT, hA.noF, hA.skp, hgi, e1, w1, w0, w2, w3, w4]
      refine hK _ _ ?_; clear hK K hA A
      clear w0 w1 w2 w3 w4 hm hgi
      refine .keep [(0, ints l), (5, I n), (6, .ptr bb 0 0), (7, .sl bW 0 n), (8, .sl bG 0 n), (9, I tg), (10, I i), (11, I d)] (by simp (maxSteps := 1000000) only [go_sem]) ?_
      have hb := h.km.hb
      have hpn := h.len
      have hrn := h.km.hr
      have htg := h.t
      by_cases hdn : d = n
      · -- no such device
        have c1 : ((d : Int) == n) = true := by rw [hdn]; simp
        have bad : ¬ (0 ≤ (d : Int) ∧ (d : Int) < ps.length) := by omega
        first | refine .seq (.rg fun A hA K hK => ?_) | refine .seq (.seq (.rg fun A hA K hK => ?_)) | refine .rg fun A hA K hK => ?_ | refine .seq (.rd fun A hA K hK => ?_) | refine .seq (.seq (.rd fun A hA K hK => ?_)) | refine .rd fun A hA K hK => ?_
        simp (maxSteps := 1000000) only [go_sem, hA.nil, hA.go, hA.yes, hA.noT, hA.noF, hA.skp, c1]
        refine hK _ _ ?_; clear hK K hA A
        refine .cond (t := true) (by simp (maxSteps := 1000000) only [go_sem, c1]) (fun _ => ?_) (fun h => by cases h)
        first | refine .seq (.rg fun A hA K hK => ?_) | refine .seq (.seq (.rg fun A hA K hK => ?_)) | refine .rg fun A hA K hK => ?_ | refine .seq (.rd fun A hA K hK => ?_) | refine .seq (.seq (.rd fun A hA K hK => ?_)) | refine .rd fun A hA K hK => ?_
        simp (maxSteps := 1000000) only [go_sem, hA.nil, hA.go, hA.yes, hA.noT, hA.noF, hA.skp]
        refine aopq_callT (fresh_bad hb d bad) (by simp (maxSteps := 1000000) only [go_sem]) ?_
        try simp (maxSteps := 1000000) only [go_sem, hA.nil, hA.go, hA.yes, hA.noT, hA.noF, hA.skp]
        refine aopq_callT (put_bad hb d bad zeroInstr) (by simp (maxSteps := 1000000) only [go_sem, zeroInstr, instrL, emptyN]) ?_
        try simp (maxSteps := 1000000) only [go_sem, hA.nil, hA.go, hA.yes, hA.noT, hA.noF, hA.skp]
        refine aopq_callQ (tag_spec h.km (by omega)) (by simp (maxSteps := 1000000) only [go_sem]) ?_
        rintro v s2 ⟨rfl, hm2, hg2⟩
        try simp (maxSteps := 1000000) only [go_sem, hA.nil, hA.go, hA.yes, hA.noT, hA.noF, hA.skp]
        refine hK _ _ ?_; clear hK K hA A
        refine .cond (t := false) (by simp (maxSteps := 1000000) only [go_sem]) (fun h => by cases h) (fun _ => .skip ?_)
        have w6 : IntKind.i64.wrap (tg + 1) = tg + 1 := IntWalk.i64_in _ (by omega)
        first | refine .seq (.rg fun A hA K hK => ?_) | refine .seq (.seq (.rg fun A hA K hK => ?_)) | refine .rg fun A hA K hK => ?_ | refine .seq (.rd fun A hA K hK => ?_) | refine .seq (.seq (.rd fun A hA K hK => ?_)) | refine .rd fun A hA K hK => ?_
        simp (maxSteps := 1000000) only [go_sem, hA.nil, hA.go, hA.yes, hA.noT, hA.noF, hA.skp, w6]
        refine hK _ _ ?_; clear hK K hA A
        refine .exit ?_
        simp only [blockQ, thenQ, if_true]
        obtain ⟨k1, k2, k3, k4, k5⟩ := h.turn hm2 hg2
        exact ⟨_, ⟨o, o2, vs, vw, ps, rs, tg + 1, rfl, hm2, k1, k2, fun c hc => ⟨k3 c hc, (h.low c hc).2⟩, k4, k5, hpn, fun e => by have := h.p e; omega, fun e => by have := h.r e; omega, by omega, h.sm⟩, by simp (maxSteps := 1000000) only [go_sem]⟩
      · have c1 : ((d : Int) == n) = false := by rw [beq_eq_false_iff_ne]; omega
        have hdl : d < ps.length := by omega
        have hdr : d < rs.length := by omega
        first | refine .seq (.rg fun A hA K hK => ?_) | refine .seq (.seq (.rg fun A hA K hK => ?_)) | refine .rg fun A hA K hK => ?_ | refine .seq (.rd fun A hA K hK => ?_) | refine .seq (.seq (.rd fun A hA K hK => ?_)) | refine .rd fun A hA K hK => ?_
        simp (maxSteps := 1000000) only [go_sem, hA.nil, hA.go, hA.yes, hA.noT, hA.noF, hA.skp, c1]
        refine hK _ _ ?_; clear hK K hA A
        refine .cond (t := false) (by simp (maxSteps := 1000000) only [go_sem, c1]) (fun h => by cases h) (fun _ => .skip ?_)
        have hrd := h.r d
        have hpd := h.p d
        first | refine .seq (.rg fun A hA K hK => ?_) | refine .seq (.seq (.rg fun A hA K hK => ?_)) | refine .rg fun A hA K hK => ?_ | refine .seq (.rd fun A hA K hK => ?_) | refine .seq (.seq (.rd fun A hA K hK => ?_)) | refine .rd fun A hA K hK => ?_
        simp (maxSteps := 1000000) only [go_sem, hA.nil, hA.go, hA.yes, hA.noT, hA.noF, hA.skp]
        refine aopq_callQ (fresh_spec h.km d hdl (by omega)) (by simp (maxSteps := 1000000) only [go_sem]) ?_
        rintro v s2 ⟨rfl, hm2, hg2⟩
        try simp (maxSteps := 1000000) only [go_sem, hA.nil, hA.go, hA.yes, hA.noT, hA.noF, hA.skp]
        refine hK _ _ ?_; clear hK K hA A
        generalize hr : rs.getD d 0 = r at hm2 hrd
        obtain ⟨k1, k2, k3, k4, k5⟩ := h.turn hm2 hg2
        have hG := k1.hG
        have hgr := regs_get hdr
        rw [hr] at hgr
        have e0 : (d : Int) < n := by omega
        first | refine .seq (.rg fun A hA K hK => ?_) | refine .seq (.seq (.rg fun A hA K hK => ?_)) | refine .rg fun A hA K hK => ?_ | refine .seq (.rd fun A hA K hK => ?_) | refine .seq (.seq (.rd fun A hA K hK => ?_)) | refine .rd fun A hA K hK => ?_
        simp (maxSteps := 1000000) only [go_sem, hA.nil, hA.go, hA.yes, hA.noT, hA.noF, hA.skp, hG, hgr, hdr, e0]
        refine aopq_callQ (put_spec hm2 d hdl (by omega) (takeI r i) (by simp [Instr.Sm, Node.Sm, takeI, emptyN])) (by simp (maxSteps := 1000000) only [go_sem, takeI, instrL, emptyN]) ?_
        rintro v s3 ⟨rfl, o3, vs3, hm3, hg3⟩
        try simp (maxSteps := 1000000) only [go_sem, hA.nil, hA.go, hA.yes, hA.noT, hA.noF, hA.skp]
        refine hK _ _ ?_; clear hK K hA A
        refine .cond (t := false) (by simp (maxSteps := 1000000) only [go_sem]) (fun h => by cases h) (fun _ => .skip ?_)
        obtain ⟨j1, j2, j3, j4, j5⟩ := h.turn hm3 (hg2.trans hg3)
        clear k1 k2 k3 k4 k5 hG hm2
        have hG := j1.hG
        have w7 : IntKind.i64.wrap (r + 1) = r + 1 := IntWalk.i64_in _ (by omega)
        first | refine .seq (.rg fun A hA K hK => ?_) | refine .seq (.seq (.rg fun A hA K hK => ?_)) | refine .rg fun A hA K hK => ?_ | refine .seq (.rd fun A hA K hK => ?_) | refine .seq (.seq (.rd fun A hA K hK => ?_)) | refine .rd fun A hA K hK => ?_
        simp (maxSteps := 1000000) only [go_sem, hA.nil, hA.go, hA.yes, hA.noT, hA.noF, hA.skp, hG, hgr, hdr, e0, w7, regs_set]
        refine hK _ _ ?_; clear hK K hA A
        obtain ⟨l1, l2⟩ := j1.setG (rs.set d (r + 1))
        have hm4 := hm3.frame (s := s3.set bG (.cells 1 ((rs.set d (r + 1)).map fun r => [I r]))) (Nat.le_refl _) fun c hc => l2 c (by
          cases hh : o2 c with
          | none => rfl
          | some x => exact absurd (j2 c (by rw [hh]; simp)) hc)
        have j6 : ∀ c, c < σ.next → (s3.set bG (.cells 1 ((rs.set d (r + 1)).map fun r => [I r]))).blk c = σ.blk c := fun c hc => by rw [l2 c (h.low c hc).2]; exact j4 c hc
        have j7 : σ.next ≤ (s3.set bG (.cells 1 ((rs.set d (r + 1)).map fun r => [I r]))).next := j5
        generalize s3.set bG (.cells 1 ((rs.set d (r + 1)).map fun r => [I r])) = s4 at l1 hm4 j6 j7 ⊢
        clear l2 j1 j4 j5 hm3 hG hg2 hg3
        have hdw : d < vw.length := by rw [l1.hv]; exact hdl
        have hW := l1.hW
        have hgw := vs_get hdw
        have ltW : bW < s4.next := l1.lt _ (by rw [l1.oW]; simp)
        have nW : ¬ bW = s4.next := by omega
        refine SWP.mono (Q := fun ex F t => ex = .normal ∧ Fits F [(0, ints l), (5, I n), (6, .ptr bb 0 0), (7, .sl bW 0 n), (8, .sl bG 0 n), (9, I tg), (10, I i)] ∧ growS s4 bW vw d 13 ((ps.getD d [] ++ [takeI r i]).map instrL) = t) ?_ ?_
        · rcases l1.hr d hdl with ⟨q1, q2⟩ | ⟨c, q1, q2, q3⟩
          · rw [q1] at hgw
            have e3 : ps.getD d [] = [] := by simpa using q2
            first | refine .seq (.rg fun A hA K hK => ?_) | refine .seq (.seq (.rg fun A hA K hK => ?_)) | refine .rg fun A hA K hK => ?_ | refine .seq (.rd fun A hA K hK => ?_) | refine .seq (.seq (.rd fun A hA K hK => ?_)) | refine .rd fun A hA K hK => ?_
            simp (maxSteps := 1000000) only [go_sem, hA.nil, hA.go, hA.yes, hA.noT, hA.noF, hA.skp, hW, hgw, hdw, e0, nW]
            refine ⟨by decide, by decide, ?_⟩
            refine hK _ _ ?_; clear hK K hA A
            refine ⟨rfl, by simp (maxSteps := 1000000) only [go_sem], ?_⟩
            rw [growS, q1, e3]; rfl
          · rw [q1] at hgw
            have ltc := l1.lt c (by rw [q2]; simp)
            have n9 := l1.n9
            have ncW : ¬ c = bW := ne_lab q2 l1.oW (by omega)
            have nWc : ¬ bW = c := fun e => ncW e.symm
            have m1 : (ps.getD d []).length + 1 ≤ most := by simp only [most]; omega
            have m2 : ((ps.getD d []).length + 1) * 176 ≤ most := by simp only [most]; omega
            have ht : List.take (ps.getD d []).length (List.map instrL (ps.getD d [])) = List.map instrL (ps.getD d []) := List.take_of_length_le (by simp)
            first | refine .seq (.rg fun A hA K hK => ?_) | refine .seq (.seq (.rg fun A hA K hK => ?_)) | refine .rg fun A hA K hK => ?_ | refine .seq (.rd fun A hA K hK => ?_) | refine .seq (.seq (.rd fun A hA K hK => ?_)) | refine .rd fun A hA K hK => ?_
            simp (maxSteps := 1000000) only [go_sem, hA.nil, hA.go, hA.yes, hA.noT, hA.noF, hA.skp, hW, hgw, hdw, e0, nW, nWc, q3, m1, m2, ht]
            refine hK _ _ ?_; clear hK K hA A
            refine ⟨rfl, by simp (maxSteps := 1000000) only [go_sem], ?_⟩
            rw [growS, q1]; simp only [killV, List.map_append, List.length_append, List.length_map, List.map_cons, List.map_nil, List.length_cons, List.length_nil]; rfl
        · rintro ex F t ⟨rfl, hf, rfl⟩
          obtain ⟨g1, g2⟩ := l1.grow hdl (ps.getD d [] ++ [takeI r i])
          refine ⟨_, ⟨o3, newLab o2 s4.next (2000 + d), vs3, _, _, _, tg, rfl, hm4.frame (by rw [growS_next]; omega) fun c hc => g2 c (hm4.lt c hc) ?_, g1, fun c hc => ?_, fun c hc => ⟨j3 c hc, ?_⟩, fun c hc => by rw [g2 c (by omega) (h.low c hc).2]; exact j6 c hc, by rw [growS_next]; omega, by simpa using hpn, fun e => ?_, fun e => ?_, by omega, fun p hp x hx => ?_⟩, hf⟩
          · cases hh : o2 c with
            | none => rfl
            | some x => exact absurd (j2 c (by rw [hh]; simp)) hc
          · by_cases hcs : c = s4.next
            · cases hh : o3 c with
              | none => rfl
              | some x => have := hm4.lt c (by rw [hh]; simp); omega
            · simp only [newLab] at hc; rw [if_neg hcs] at hc; exact j2 c hc
          · simp only [newLab]; rw [if_neg (by omega)]; exact (h.low c hc).2
          · by_cases hed : e = d
            · subst hed; rw [getD_set_eq _ _ hdl]; simp only [List.length_append, List.length_cons, List.length_nil]; omega
            · rw [getD_set_ne _ _ hed]; have := h.p e; omega
          · by_cases hed : e = d
            · subst hed; rw [getD_set_eq _ _ hdr]; omega
            · rw [getD_set_ne _ _ hed]; have := h.r e; omega
          · rcases List.mem_or_eq_of_mem_set hp with hp | rfl
            · exact h.sm p hp x hx
            · rcases List.mem_append.1 hx with hx | hx
              · rw [getD_at' hdl] at hx; exact h.sm _ (List.getElem_mem hdl) x hx
              · rw [List.mem_singleton.1 hx]; simp [Instr.Sm, Node.Sm, takeI, emptyN]
    · rintro L t ⟨o, o2, vs, vw, ps, rs, tg, rfl, h⟩
      have w5 : IntKind.i64.wrap ((i : Int) + 1) = ((i + 1 : Nat) : Int) := IntWalk.i64_in _ (by omega)
      first | refine .seq (.rg fun A hA K hK => ?_) | refine .seq (.seq (.rg fun A hA K hK => ?_)) | refine .rg fun A hA K hK => ?_ | refine .seq (.rd fun A hA K hK => ?_) | refine .seq (.seq (.rd fun A hA K hK => ?_)) | refine .rd fun A hA K hK => ?_
      simp (maxSteps := 1000000) only [go_sem, hA.nil, hA.go, hA.yes, hA.noT, hA.noF, hA.skp, w5]
      refine hK _ _ ?_; clear hK K hA A
      exact ⟨60 - (i + 1), by omega, _, ⟨i + 1, o, o2, vs, vw, ps, rs, tg, rfl, by omega, rfl, h⟩, by simp (maxSteps := 1000000) only [go_sem]⟩
  · simp only [thenQ, loopQ, if_true]
    have hlen := h.len
    have hdd : ∀ d, d < (ps.map fun q => q.map instrL).length → Row1 o2 (2000 + d) u 13 (vw.getD d .undef) ((ps.map fun q => q.map instrL).getD d []) := fun d hd => by
      have hd' : d < ps.length := by simpa using hd
      have e : (ps.map fun q => q.map instrL).getD d [] = (ps.getD d []).map instrL := by simp [List.getD_eq_getElem?_getD, hd']
      rw [e]; exact h.wk.hr d hd'
    have n9 := h.wk.n9
    obtain ⟨z, rows, q1, q2, q3, q4, q5, q6⟩ := nestEnt (n0 := σ.next) (F := frL [(0, ints l), (5, I n), (6, .ptr bb 0 0), (7, .sl bW 0 n), (8, .sl bG 0 n), (9, I tg), (10, I i), (32, .bool (decide ((i : Int) < l.length ∧ (i : Int) < 60)))])
      (xs := ps.map fun q => q.map instrL) (lab := fun d => 2000 + d) (by rw [List.length_map]; exact h.wk.hv) h.wk.hW (fun d e he => by have he : 2000 + d = 2000 + e := he; omega) (fun d => by rw [h.wk.oW]; simp; omega) hdd ps.length (by simp)
    have hrows : rows = ps.map fun q => [progA q] := by
      refine List.ext_getElem (by simpa using q4) fun d h1 h2 => ?_
      have hd' : d < ps.length := by simpa using h2
      have := q5 d (by simpa using hd')
      rw [if_pos hd', getD_at' h1] at this
      rw [this]; simp [List.getD_eq_getElem?_getD, hd', progA]
    refine .ent q1 (.frz 7 (b := bW) (n := n) (by simp (maxSteps := 1000000) only [go_sem]) q3 (by rw [q4]; simp [hlen]) ?_)
    rw [hrows]
    have apo : ∀ c, o c ≠ none → o2 c = none := fun c hc => by
      cases hh : o2 c with
      | none => rfl
      | some x => exact absurd (h.ap c (by rw [hh]; simp)) hc
    have fr : ∀ c, o2 c = none → (z.kill bW).blk c = u.blk c := fun c hc => by
      have ncW : ¬ c = bW := by rintro rfl; rw [h.wk.oW] at hc; cases hc
      rw [blk_kill, if_neg ncW, q6 c ncW (fun d _ => by rw [hc]; simp)]
    have km := h.km.frame (s := z.kill bW) (by rw [next_kill, q2]; exact Nat.le_refl _) fun c hc => fr c (apo c hc)
    have hx : ∀ c, c < σ.next → (z.kill bW).blk c = σ.blk c := fun c hc => by rw [fr c (h.low c hc).2]; exact h.old c hc
    have hsm : ∀ p ∈ ps, p.length ≤ 2 ^ 20 ∧ ∀ i ∈ p, i.Sm := fun p hp => ⟨by
      obtain ⟨d, hd, rfl⟩ := List.getElem_of_mem hp
      have := h.p d
      rw [getD_at' hd] at this; omega, h.sm p hp⟩
    have hb := km.hb
    have c2 : ((ps.length : Int) == n) = true := by rw [hlen]; simp
    generalize z.kill bW = y at km hx hb ⊢
    refine .keep [(5, I n), (6, .ptr bb 0 0), (7, progsA ps)] (by simp (maxSteps := 1000000) only [go_sem]) ?_
    first | refine .seq (.rg fun A hA K hK => ?_) | refine .seq (.seq (.rg fun A hA K hK => ?_)) | refine .rg fun A hA K hK => ?_ | refine .seq (.rd fun A hA K hK => ?_) | refine .seq (.seq (.rd fun A hA K hK => ?_)) | refine .rd fun A hA K hK => ?_
    simp (maxSteps := 1000000) only [go_sem, hA.nil, hA.go, hA.yes, hA.noT, hA.noF, hA.skp]
    first | refine aopq_call (programs_spec km hsm (by omega)) (by simp (maxSteps := 1000000) only [go_sem]) ?_ | refine aop_call (programs_spec km hsm (by omega)) (by simp (maxSteps := 1000000) only [go_sem]) ?_
    try simp (maxSteps := 1000000) only [go_sem, hA.nil, hA.go, hA.yes, hA.noT, hA.noF, hA.skp]
    first | refine aopq_call (sameP_spec ps y) (by simp (maxSteps := 1000000) only [go_sem]) ?_ | refine aop_call (sameP_spec ps y) (by simp (maxSteps := 1000000) only [go_sem]) ?_
    try simp (maxSteps := 1000000) only [go_sem, hA.nil, hA.go, hA.yes, hA.noT, hA.noF, hA.skp]
    first | refine aopq_call (devices_spec hb) (by simp (maxSteps := 1000000) only [go_sem, c2]) ?_ | refine aop_call (devices_spec hb) (by simp (maxSteps := 1000000) only [go_sem, c2]) ?_
    try simp (maxSteps := 1000000) only [go_sem, hA.nil, hA.go, hA.yes, hA.noT, hA.noF, hA.skp, c2]
    first | refine aopq_call (known_spec y) (by simp (maxSteps := 1000000) only [go_sem, c2]) ?_ | refine aop_call (known_spec y) (by simp (maxSteps := 1000000) only [go_sem, c2]) ?_
    try simp (maxSteps := 1000000) only [go_sem, hA.nil, hA.go, hA.yes, hA.noT, hA.noF, hA.skp, c2]
    refine hK _ _ ?_; clear hK K hA A
    exact .ret (retB (by simp (maxSteps := 1000000) only [go_sem, c2]) wf hx (.bool _) ⟨rfl, rfl⟩)
end Go.Proofs.Ytfjbabacpnnjmaa.Av
