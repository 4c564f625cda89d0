/- A logic of small values, and walks in it: A tensor that is filled; numbers and tensors of a tape. Numbers and tensors of a tape. keep's maker: put. keep's maker: put, recv, same. keep's maker: recv, same. keep's same: which registers have a shape. keep's maker: one step more. -/
import Derived.Test.YtfjbabacpnnjmaaAv8
set_option linter.unusedVariables false
set_option linter.unusedSimpArgs false
set_option linter.deprecated false
namespace Go.Proofs.Ytfjbabacpnnjmaa.Av
open Go Go.Av
set_option maxRecDepth 20000
set_option maxHeartbeats 4000000

attribute [local go_sem] step_apply stepD_apply stepE_apply
attribute [local go_sem] aopq_mv aopq_pk aopq_al aopq_bx aopq_bd aopq_bs aopq_ld aopq_st aopq_nc aopq_bin aopq_un aopq_cv aopq_mi aopq_mf aopq_mm aopq_ms aopq_sc aopq_fa aopq_fl aopq_ia aopq_lk aopq_mu aopq_lm aopq_rg aopq_en aopq_ta aopq_ex aopq_ln aopq_ap aopq_mx aopq.eq_3 aop.eq_1 aop.eq_2 aop.eq_3 aop.eq_4 aop.eq_5 aop.eq_6 aop.eq_7 aop.eq_8 aop.eq_9 aop_bin atS_apply aop_un_not aop_un_neg aop.eq_14 aop.eq_15 aop.eq_16 aop.eq_17 aop.eq_18 aop_sc cutS_apply cutN_apply cutL_apply cutO_apply aop.eq_20 aop.eq_21 aop.eq_22 aop.eq_23 aop.eq_24 aop.eq_25 aop.eq_26 aop.eq_27 aop.eq_28 aop.eq_29 aop.eq_30 aop.eq_31 aop.eq_32 blk_push next_push blk_set next_set blk_kill next_kill frL_nil frL_cons Fits_nil Fits_cons Int.reduceBEq Int.reduceBNe Nat.sub_zero Option.map_some Option.map_none List.set_cons_succ true_or or_true false_or or_false Int.le_refl Int.cast_ofNat_Int decide_true decide_false List.cons_append fillA fillR rowsOf List.replicate_succ List.replicate_zero Nat.zero_mul getD_drop List.length_drop splice List.nil_append List.append_nil cond_true cond_false List.set_cons_zero List.length_set ev put_some put_none upd_apply abin asNat bounds row1 mk List.length_cons List.length_nil List.length_map List.drop_zero List.drop_succ_cons List.drop_nil List.getD_cons_zero List.getD_cons_succ Option.getD_none Option.getD_some List.take_succ_cons List.take_zero List.take_nil true_and and_true Int.toNat_natCast if_true if_false Nat.zero_add Nat.add_zero List.map_cons List.map_nil Nat.reduceEqDiff Nat.left_eq_add Nat.add_eq_left Nat.add_left_cancel_iff Nat.add_assoc Nat.reduceSub Nat.reduceAdd Nat.reduceLeDiff Nat.le_refl Nat.zero_le Nat.zero_lt_one Nat.lt_add_one Int.reduceLT Int.reduceLE Int.reduceToNat Nat.reduceLT Nat.reduceBEq Bool.false_eq_true Nat.reduceBNe ne_eq not_false_eq_true not_true_eq_false false_and and_false reduceIte Int.natCast_nonneg reduceCtorEq parts_agg parts_bool parts_int parts_str parts_lit parts_nils parts_sl parts_ptr Int.natCast_nonneg Int.natCast_nonneg beq_self_eq_true bne_self_eq_false Bool.true_and Bool.false_and Bool.and_true Bool.and_false Bool.true_or Bool.false_or Bool.or_true Bool.or_false Bool.not_true Bool.not_false
attribute [local go_sem] instr0 instr1 instr2 instr10 instr11 instr12 instrN instrA instr_len node0 node1 node2 node3 node4 node5 node6 nodeA node_len I ints progA progsA

/-- A cell of a struct in a slot's block becomes plain. -/
theorem frz1 {P : Program} {n0 : Nat} {c : C} {Q : Exit → Fr → St → Prop} {F : Fr} {σ : St} (b' j : Nat) {c' n sz sz' : Nat} {row : List AV} {rows : List (List AV)} (hb' : σ.blk b' = some (.cells sz' [row])) (hj : j < row.length) (hc : row.getD j .undef = .sl c' 0 n) (hb : σ.blk c' = some (.cells sz rows)) (hne : b' ≠ c') (hn : n = rows.length)
    (h : SWP P n0 c Q F ((σ.kill c').set b' (.cells sz' [row.set j (.lit sz rows)]))) : SWP P n0 c Q F σ := by
  refine .ent (.freezeAt (i := 0) (j := j) hb' (by simp) (by simpa using hj) (by simpa using hc) hb hne (by omega)) ?_
  subst hn; simpa using h

/-- parquetryref1.Fill: its numbers are the caller's own. -/
theorem fill_spec (s : List Int) (hs : s.length ≤ 2 ^ 20) (n : Int) (σ : St) : TQ Try.prog 48 [ints s, I n] σ fun v t => ∃ b, v = .agg [ints s, .sl b 0 (sizeE s).toNat] ∧ t.blk b = some (.cells 1 (List.replicate (sizeE s).toNat [I n])) ∧ σ.next ≤ b ∧ b < t.next ∧ Ext σ t := by
  refine in48 (by simp) fun wf hab => ?_
  clear hab
  obtain ⟨z0, z1⟩ := sizeE_in s
  obtain ⟨N, hN⟩ := Int.eq_ofNat_of_zero_le z0
  rw [hN] at z1 ⊢
  rw [Int.toNat_natCast]
  have m1 : s.length ≤ most := by simp only [most]; omega
  have m2 : s.length * 8 ≤ most := by simp only [most]; omega
  unfold c48
  first | refine .seq (.rg fun A hA K hK => ?_) | refine .seq (.seq (.rg fun A hA K hK => ?_)) | refine .rg fun A hA K hK => ?_ | refine .seq (.rd fun A hA K hK => ?_) | refine .seq (.seq (.rd fun A hA K hK => ?_)) | refine .rd fun A hA K hK => ?_
  simp (maxSteps := 1000000) only [go_sem, hA.nil, hA.go, hA.yes, hA.noT, hA.noF, hA.skp]
  refine hK _ _ ?_; clear hK K hA A
  refine .midK (fun L t => L = [(0, ints s), (1, I n), (4, .ptr σ.next 0 0), (5, .ptr (σ.next + 2) 0 0)] ∧ ∃ c, t.blk (σ.next + 2) = some (.cells 2 [[ints s, .sl c 0 0]]) ∧ t.blk c = some (.cells 1 []) ∧ t.blk σ.next = some (.cells 2 [[.nils, .nils]]) ∧
    σ.next + 2 < c ∧ c < t.next ∧ ∀ b, b < σ.next → t.blk b = σ.blk b) (.entQ ?_) ?_
  · first | refine .seq (.rg fun A hA K hK => ?_) | refine .seq (.seq (.rg fun A hA K hK => ?_)) | refine .rg fun A hA K hK => ?_ | refine .seq (.rd fun A hA K hK => ?_) | refine .seq (.seq (.rd fun A hA K hK => ?_)) | refine .rd fun A hA K hK => ?_
    simp (maxSteps := 1000000) only [go_sem, hA.nil, hA.go, hA.yes, hA.noT, hA.noF, hA.skp, m1, m2, List.length_map]
    refine hK _ _ ?_; clear hK K hA A
    have ht : List.take s.length (s.map fun n => [I n]) = s.map fun n => [I n] := List.take_of_length_le (by simp)
    refine ⟨_, _, Ent.trans (.freezeAt (b' := σ.next + 2) (b := σ.next + 1) (sz' := 2) (sz := 1) (i := 0) (j := 0) (off := 0) (n := s.length) (rows' := [[.sl (σ.next + 1) 0 s.length, .nils]]) (rows := s.map fun n => [I n]) (by simp (maxSteps := 1000000) only [go_sem]) (by simp) (by simp) rfl (by simp (maxSteps := 1000000) only [go_sem]) (by omega) (by simp))
      (.virtAt (b' := σ.next + 2) (i := 0) (j := 1) 1 (sz' := 2) (rows' := [[ints s, .nils]]) (by simp (maxSteps := 1000000) only [go_sem, ht]) (by simp) (by simp) rfl), _, ⟨rfl, σ.next + 3, ?_, ?_, ?_, by omega, ?_, fun b hb => ?_⟩, by simp (maxSteps := 1000000) only [go_sem]⟩
    · simp (maxSteps := 1000000) only [go_sem, ht]
    · simp (maxSteps := 1000000) only [go_sem]
    · simp (maxSteps := 1000000) only [go_sem]
    · simp (maxSteps := 1000000) only [go_sem]; try omega
    · simp (disch := omega) only [go_sem, if_neg]
  rintro L t ⟨rfl, c, h5, hc, h4, hcn, hct, hx⟩
  first | refine .seq (.rg fun A hA K hK => ?_) | refine .seq (.seq (.rg fun A hA K hK => ?_)) | refine .rg fun A hA K hK => ?_ | refine .seq (.rd fun A hA K hK => ?_) | refine .seq (.seq (.rd fun A hA K hK => ?_)) | refine .rd fun A hA K hK => ?_
  simp (maxSteps := 1000000) only [go_sem, hA.nil, hA.go, hA.yes, hA.noT, hA.noF, hA.skp]
  refine hK _ _ ?_; clear hK K hA A
  refine .countK (N := N) (fun i L t => L = [(0, ints s), (1, I n), (4, .ptr σ.next 0 0), (5, .ptr (σ.next + 2) 0 0), (6, I i)] ∧ ∃ c, t.blk (σ.next + 2) = some (.cells 2 [[ints s, .sl c 0 i]]) ∧ t.blk c = some (.cells 1 (List.replicate i [I n])) ∧ t.blk σ.next = some (.cells 2 [[.nils, .nils]]) ∧
    σ.next + 2 < c ∧ c < t.next ∧ ∀ b, b < σ.next → t.blk b = σ.blk b) (by simp only [most]; omega) ⟨_, ⟨rfl, c, h5, hc, h4, hcn, hct, hx⟩, by simp (maxSteps := 1000000) only [go_sem]; try rfl⟩ ?_ ?_ ?_
  · rintro i L t hi ⟨rfl, hh⟩
    first | refine .seq (.rg fun A hA K hK => ?_) | refine .seq (.seq (.rg fun A hA K hK => ?_)) | refine .rg fun A hA K hK => ?_ | refine .seq (.rd fun A hA K hK => ?_) | refine .seq (.seq (.rd fun A hA K hK => ?_)) | refine .rd fun A hA K hK => ?_
    simp (maxSteps := 1000000) only [go_sem, hA.nil, hA.go, hA.yes, hA.noT, hA.noF, hA.skp]
    first | refine aopq_call (size_spec s _) (by simp (maxSteps := 1000000) only [go_sem, hN]) ?_ | refine aop_call (size_spec s _) (by simp (maxSteps := 1000000) only [go_sem, hN]) ?_
    try simp (maxSteps := 1000000) only [go_sem, hA.nil, hA.go, hA.yes, hA.noT, hA.noF, hA.skp, hN]
    refine hK _ _ ?_; clear hK K hA A
    exact ⟨rfl, by simp (maxSteps := 1000000) only [go_sem, Int.ofNat_lt], _, ⟨rfl, hh⟩, by simp (maxSteps := 1000000) only [go_sem]⟩
  · rintro i L t hi ⟨rfl, c, h5, hc, h4, hcn, hct, hx⟩
    have e1 : ¬ σ.next + 2 = t.next := by omega
    have e2 : ¬ σ.next + 2 = c := by omega
    have e3 : ¬ σ.next = t.next := by omega
    have e4 : ¬ σ.next = c := by omega
    have e5 : ¬ t.next = σ.next + 2 := by omega
    have m3 : i + 1 ≤ most := by simp only [most]; omega
    have m4 : (i + 1) * 8 ≤ most := by simp only [most]; omega
    have ht : List.take i (List.replicate i [I n]) = List.replicate i [I n] := List.take_of_length_le (by simp)
    first | refine .seq (.rg fun A hA K hK => ?_) | refine .seq (.seq (.rg fun A hA K hK => ?_)) | refine .rg fun A hA K hK => ?_ | refine .seq (.rd fun A hA K hK => ?_) | refine .seq (.seq (.rd fun A hA K hK => ?_)) | refine .rd fun A hA K hK => ?_
    simp (maxSteps := 1000000) only [go_sem, hA.nil, hA.go, hA.yes, hA.noT, hA.noF, hA.skp, h5, hc, e1, e2, m3, m4, ht, List.length_replicate]
    refine hK _ _ ?_; clear hK K hA A
    refine ⟨by simp (maxSteps := 1000000) only [go_sem], _, ⟨rfl, t.next, ?_, ?_, ?_, by omega, ?_, fun b hb => ?_⟩, by simp (maxSteps := 1000000) only [go_sem]; try rfl⟩
    · simp (maxSteps := 1000000) only [go_sem]; try rfl
    · simp (maxSteps := 1000000) only [go_sem, e5, List.replicate_succ']
    · simp (maxSteps := 1000000) only [go_sem, e3, e4, h4]; try (simp; omega)
    · simp (maxSteps := 1000000) only [go_sem]; try omega
    · simp (disch := omega) only [go_sem, if_neg, hx b hb]
  · rintro L t F ⟨rfl, c, h5, hc, h4, hcn, hct, hx⟩ hf
    simp (maxSteps := 1000000) only [go_sem] at hf
    have e6 : ¬ σ.next = σ.next + 2 := by omega
    have e7 : ¬ c = σ.next := by omega
    first | refine .seq (.rg fun A hA K hK => ?_) | refine .seq (.seq (.rg fun A hA K hK => ?_)) | refine .rg fun A hA K hK => ?_ | refine .seq (.rd fun A hA K hK => ?_) | refine .seq (.seq (.rd fun A hA K hK => ?_)) | refine .rd fun A hA K hK => ?_
    simp (maxSteps := 1000000) only [go_sem, hA.nil, hA.go, hA.yes, hA.noT, hA.noF, hA.skp, hf, h5, h4]
    refine hK _ _ ?_; clear hK K hA A
    refine .ret ⟨[.agg [ints s, .sl c 0 N]], by simp [resOne, hf, go_sem], _, _, .refl _ _ _, c, rfl, by simp (maxSteps := 1000000) only [go_sem, e7, hc], by omega, by simp (maxSteps := 1000000) only [go_sem]; exact hct, by simp (maxSteps := 1000000) only [go_sem]; omega, fun b hb => ?_⟩
    simp (disch := omega) only [go_sem, if_neg, hx b hb]

end Go.Proofs.Ytfjbabacpnnjmaa.Av

namespace Go.Proofs.Ytfjbabacpnnjmaa.Av
open Go Go.Av
set_option maxRecDepth 20000
set_option maxHeartbeats 4000000

attribute [local go_sem] step_apply stepD_apply stepE_apply
attribute [local go_sem] aopq_mv aopq_pk aopq_al aopq_bx aopq_bd aopq_bs aopq_ld aopq_st aopq_nc aopq_bin aopq_un aopq_cv aopq_mi aopq_mf aopq_mm aopq_ms aopq_sc aopq_fa aopq_fl aopq_ia aopq_lk aopq_mu aopq_lm aopq_rg aopq_en aopq_ta aopq_ex aopq_ln aopq_ap aopq_mx aopq.eq_3 aop.eq_1 aop.eq_2 aop.eq_3 aop.eq_4 aop.eq_5 aop.eq_6 aop.eq_7 aop.eq_8 aop.eq_9 aop_bin atS_apply aop_un_not aop_un_neg aop.eq_14 aop.eq_15 aop.eq_16 aop.eq_17 aop.eq_18 aop_sc cutS_apply cutN_apply cutL_apply cutO_apply aop.eq_20 aop.eq_21 aop.eq_22 aop.eq_23 aop.eq_24 aop.eq_25 aop.eq_26 aop.eq_27 aop.eq_28 aop.eq_29 aop.eq_30 aop.eq_31 aop.eq_32 blk_push next_push blk_set next_set blk_kill next_kill frL_nil frL_cons Fits_nil Fits_cons Int.reduceBEq Int.reduceBNe Nat.sub_zero Option.map_some Option.map_none List.set_cons_succ true_or or_true false_or or_false Int.le_refl Int.cast_ofNat_Int decide_true decide_false List.cons_append fillA fillR rowsOf List.replicate_succ List.replicate_zero Nat.zero_mul getD_drop List.length_drop splice List.nil_append List.append_nil cond_true cond_false List.set_cons_zero List.length_set ev put_some put_none upd_apply abin asNat bounds row1 mk List.length_cons List.length_nil List.length_map List.drop_zero List.drop_succ_cons List.drop_nil List.getD_cons_zero List.getD_cons_succ Option.getD_none Option.getD_some List.take_succ_cons List.take_zero List.take_nil true_and and_true Int.toNat_natCast if_true if_false Nat.zero_add Nat.add_zero List.map_cons List.map_nil Nat.reduceEqDiff Nat.left_eq_add Nat.add_eq_left Nat.add_left_cancel_iff Nat.add_assoc Nat.reduceSub Nat.reduceAdd Nat.reduceLeDiff Nat.le_refl Nat.zero_le Nat.zero_lt_one Nat.lt_add_one Int.reduceLT Int.reduceLE Int.reduceToNat Nat.reduceLT Nat.reduceBEq Bool.false_eq_true Nat.reduceBNe ne_eq not_false_eq_true not_true_eq_false false_and and_false reduceIte Int.natCast_nonneg reduceCtorEq parts_agg parts_bool parts_int parts_str parts_lit parts_nils parts_sl parts_ptr Int.natCast_nonneg Int.natCast_nonneg beq_self_eq_true bne_self_eq_false Bool.true_and Bool.false_and Bool.and_true Bool.and_false Bool.true_or Bool.false_or Bool.or_true Bool.or_false Bool.not_true Bool.not_false
attribute [local go_sem] instr0 instr1 instr2 instr10 instr11 instr12 instrN instrA instr_len node0 node1 node2 node3 node4 node5 node6 nodeA node_len I ints progA progsA

def tabN : List Int := [9223372036854775807, -9223372036854775808, 4611686018427387904, -1099511627776, 8589934592, 3037000500]
def numE (l : List Int) (p : Nat) : Int := if nxE l p 9 = 0 then tabN.getD (nxE l (nxP l p 9) 6).toNat 0 else if nxE l p 9 = 1 then 0 else IntKind.i64.wrap (nxE l (nxP l p 9) 19 - 9)
def numP (l : List Int) (p : Nat) : Nat := if nxE l p 9 = 0 then nxP l (nxP l p 9) 6 else if nxE l p 9 = 1 then nxP l p 9 else nxP l (nxP l p 9) 19
theorem nxP_le {l : List Int} {p : Nat} (h : p ≤ l.length) (n : Int) : nxP l p n ≤ l.length := by
  unfold nxP; split <;> omega
theorem numP_le {l : List Int} {p : Nat} (h : p ≤ l.length) : numP l p ≤ l.length := by
  unfold numP; split
  · exact nxP_le (nxP_le h _) _
  · split
    · exact nxP_le h _
    · exact nxP_le (nxP_le h _) _
theorem set_set (σ : St) (b : Nat) (B B' : Blk) : (σ.set b B).set b B' = σ.set b B' := by
  simp only [St.set, St.mk.injEq, true_and]
  funext c; split <;> rfl

section
variable {σ : St} {l : List Int} {p bT : Nat}
theorem next_ok (hb : σ.blk bT = some (tapeB l p)) (hp : p ≤ l.length) (hl : l.length ≤ most) (n : Int) : T Try.prog 53 [.ptr bT 0 0, I n] σ (I (nxE l p n)) (σ.set bT (tapeB l (nxP l p n))) :=
  next_spec hb n (by simp only [most] at hl; omega)

/-- Tape.Number -/
theorem number_spec (hb : σ.blk bT = some (tapeB l p)) (hp : p ≤ l.length) (hl : l.length ≤ most) : T Try.prog 106 [.ptr bT 0 0] σ (I (numE l p)) (σ.set bT (tapeB l (numP l p))) := by
  refine in106 (by simp) fun wf hab => ?_
  clear hab
  have hb1 : (σ.set bT (tapeB l (nxP l p 9))).blk bT = some (tapeB l (nxP l p 9)) := by rw [blk_set, if_pos rfl]
  have hp1 := nxP_le hp 9
  unfold c106
  first | refine .seq (.rg fun A hA K hK => ?_) | refine .seq (.seq (.rg fun A hA K hK => ?_)) | refine .rg fun A hA K hK => ?_ | refine .seq (.rd fun A hA K hK => ?_) | refine .seq (.seq (.rd fun A hA K hK => ?_)) | refine .rd fun A hA K hK => ?_
  simp (maxSteps := 1000000) only [go_sem, hA.nil, hA.go, hA.yes, hA.noT, hA.noF, hA.skp]
  refine hK _ _ ?_; clear hK K hA A
  first | refine .seq (.rg fun A hA K hK => ?_) | refine .seq (.seq (.rg fun A hA K hK => ?_)) | refine .rg fun A hA K hK => ?_ | refine .seq (.rd fun A hA K hK => ?_) | refine .seq (.seq (.rd fun A hA K hK => ?_)) | refine .rd fun A hA K hK => ?_
  simp (maxSteps := 1000000) only [go_sem, hA.nil, hA.go, hA.yes, hA.noT, hA.noF, hA.skp]
  refine aopq_callT (next_ok hb hp hl 9) (by simp (maxSteps := 1000000) only [go_sem]) ?_
  try simp (maxSteps := 1000000) only [go_sem, hA.nil, hA.go, hA.yes, hA.noT, hA.noF, hA.skp]
  refine hK _ _ ?_; clear hK K hA A
  by_cases h0 : nxE l p 9 = 0
  · have e1 : numE l p = tabN.getD (nxE l (nxP l p 9) 6).toNat 0 := if_pos h0
    have e2 : numP l p = nxP l (nxP l p 9) 6 := if_pos h0
    have hj := nxE_in l (nxP l p 9) 6
    obtain ⟨j, hj'⟩ := Int.eq_ofNat_of_zero_le hj.1
    have hj6 : j < 6 := by have := hj.2.1 (by decide); omega
    have hg : (tabN.map fun n => [I n]).getD j [] = [I (tabN.getD j 0)] := by
      have hj7 : j < tabN.length := hj6
      rw [ints_get hj7]; simp [List.getD_eq_getElem?_getD, hj7]
    refine .block ?_
    first | refine .seq (.rg fun A hA K hK => ?_) | refine .seq (.seq (.rg fun A hA K hK => ?_)) | refine .rg fun A hA K hK => ?_ | refine .seq (.rd fun A hA K hK => ?_) | refine .seq (.seq (.rd fun A hA K hK => ?_)) | refine .rd fun A hA K hK => ?_
    simp (maxSteps := 1000000) only [go_sem, hA.nil, hA.go, hA.yes, hA.noT, hA.noF, hA.skp, h0]
    refine hK _ _ ?_; clear hK K hA A
    refine .cond (t := true) (by simp (maxSteps := 1000000) only [go_sem]) (fun _ => ?_) (fun h => by cases h)
    first | refine .seq (.rg fun A hA K hK => ?_) | refine .seq (.seq (.rg fun A hA K hK => ?_)) | refine .rg fun A hA K hK => ?_ | refine .seq (.rd fun A hA K hK => ?_) | refine .seq (.seq (.rd fun A hA K hK => ?_)) | refine .rd fun A hA K hK => ?_
    simp (maxSteps := 1000000) only [go_sem, hA.nil, hA.go, hA.yes, hA.noT, hA.noF, hA.skp]
    refine aopq_callT (next_ok hb1 hp1 hl 6) (by simp (maxSteps := 1000000) only [go_sem]) ?_
    simp only [tabN, List.map_cons, List.map_nil] at hg
    have hj8 : (j : Int) < 6 := by omega
    have hj9 : (j : Int) < ((6 : Nat) : Int) := by omega
    try simp (maxSteps := 1000000) only [go_sem, hA.nil, hA.go, hA.yes, hA.noT, hA.noF, hA.skp, hj', hg, hj8, hj9]
    refine hK _ _ ?_; clear hK K hA A
    exact .ret (retS (by simp (maxSteps := 1000000) only [go_sem]; try rfl) ⟨by rw [e1, hj', Int.toNat_natCast]; rfl, by rw [set_set, e2]⟩)
  · have b0 : (nxE l p 9 == 0) = false := by simpa using h0
    refine .block ?_
    first | refine .seq (.rg fun A hA K hK => ?_) | refine .seq (.seq (.rg fun A hA K hK => ?_)) | refine .rg fun A hA K hK => ?_ | refine .seq (.rd fun A hA K hK => ?_) | refine .seq (.seq (.rd fun A hA K hK => ?_)) | refine .rd fun A hA K hK => ?_
    simp (maxSteps := 1000000) only [go_sem, hA.nil, hA.go, hA.yes, hA.noT, hA.noF, hA.skp, b0]
    refine hK _ _ ?_; clear hK K hA A
    refine .cond (t := false) (by simp (maxSteps := 1000000) only [go_sem]) (fun h => by cases h) (fun _ => ?_)
    by_cases h1 : nxE l p 9 = 1
    · have e1 : numE l p = 0 := by rw [numE, if_neg h0, if_pos h1]
      have e2 : numP l p = nxP l p 9 := by rw [numP, if_neg h0, if_pos h1]
      first | refine .seq (.rg fun A hA K hK => ?_) | refine .seq (.seq (.rg fun A hA K hK => ?_)) | refine .rg fun A hA K hK => ?_ | refine .seq (.rd fun A hA K hK => ?_) | refine .seq (.seq (.rd fun A hA K hK => ?_)) | refine .rd fun A hA K hK => ?_
      simp (maxSteps := 1000000) only [go_sem, hA.nil, hA.go, hA.yes, hA.noT, hA.noF, hA.skp, h1]
      refine hK _ _ ?_; clear hK K hA A
      refine .cond (t := true) (by simp (maxSteps := 1000000) only [go_sem]) (fun _ => ?_) (fun h => by cases h)
      first | refine .seq (.rg fun A hA K hK => ?_) | refine .seq (.seq (.rg fun A hA K hK => ?_)) | refine .rg fun A hA K hK => ?_ | refine .seq (.rd fun A hA K hK => ?_) | refine .seq (.seq (.rd fun A hA K hK => ?_)) | refine .rd fun A hA K hK => ?_
      simp (maxSteps := 1000000) only [go_sem, hA.nil, hA.go, hA.yes, hA.noT, hA.noF, hA.skp]
      refine hK _ _ ?_; clear hK K hA A
      exact .ret (retS (by simp (maxSteps := 1000000) only [go_sem]; try rfl) ⟨by rw [e1], by rw [e2]⟩)
    · have e1 : numE l p = IntKind.i64.wrap (nxE l (nxP l p 9) 19 - 9) := by rw [numE, if_neg h0, if_neg h1]
      have e2 : numP l p = nxP l (nxP l p 9) 19 := by rw [numP, if_neg h0, if_neg h1]
      have b1 : (nxE l p 9 == 1) = false := by simpa using h1
      first | refine .seq (.rg fun A hA K hK => ?_) | refine .seq (.seq (.rg fun A hA K hK => ?_)) | refine .rg fun A hA K hK => ?_ | refine .seq (.rd fun A hA K hK => ?_) | refine .seq (.seq (.rd fun A hA K hK => ?_)) | refine .rd fun A hA K hK => ?_
      simp (maxSteps := 1000000) only [go_sem, hA.nil, hA.go, hA.yes, hA.noT, hA.noF, hA.skp, b1]
      refine hK _ _ ?_; clear hK K hA A
      refine .cond (t := false) (by simp (maxSteps := 1000000) only [go_sem]) (fun h => by cases h) (fun _ => .skip ?_)
      first | refine .seq (.rg fun A hA K hK => ?_) | refine .seq (.seq (.rg fun A hA K hK => ?_)) | refine .rg fun A hA K hK => ?_ | refine .seq (.rd fun A hA K hK => ?_) | refine .seq (.seq (.rd fun A hA K hK => ?_)) | refine .rd fun A hA K hK => ?_
      simp (maxSteps := 1000000) only [go_sem, hA.nil, hA.go, hA.yes, hA.noT, hA.noF, hA.skp]
      refine aopq_callT (next_ok hb1 hp1 hl 19) (by simp (maxSteps := 1000000) only [go_sem]) ?_
      try simp (maxSteps := 1000000) only [go_sem, hA.nil, hA.go, hA.yes, hA.noT, hA.noF, hA.skp]
      refine hK _ _ ?_; clear hK K hA A
      exact .ret (retS (by simp (maxSteps := 1000000) only [go_sem]; try rfl) ⟨by rw [e1], by rw [set_set, e2]⟩)

/-- Tape.Tensor -/
theorem tensor_spec (hb : σ.blk bT = some (tapeB l p)) (hp : p ≤ l.length) (hl : l.length ≤ most) (s : List Int) (hs : s.length ≤ 2 ^ 20) :
    TQ Try.prog 70 [.ptr bT 0 0, ints s] σ fun v t => ∃ data p', v = .agg [ints s, ints data] ∧ data.length = (sizeE s).toNat ∧ p' ≤ l.length ∧ t.blk bT = some (tapeB l p') ∧ σ.next ≤ t.next ∧ ∀ b, b < σ.next → b ≠ bT → t.blk b = σ.blk b := by
  refine in70 (by simp) fun wf hab => ?_
  clear hab
  obtain ⟨z0, z1⟩ := sizeE_in s
  generalize hN : (sizeE s).toNat = N at *
  have hN2 : N ≤ 4096 := by omega
  have hbT : bT < σ.next := by
    rcases Nat.lt_or_ge bT σ.next with h | h
    · exact h
    · rw [wf.1 bT h] at hb; cases hb
  unfold c70
  first | refine .seq (.rg fun A hA K hK => ?_) | refine .seq (.seq (.rg fun A hA K hK => ?_)) | refine .rg fun A hA K hK => ?_ | refine .seq (.rd fun A hA K hK => ?_) | refine .seq (.seq (.rd fun A hA K hK => ?_)) | refine .rd fun A hA K hK => ?_
  simp (maxSteps := 1000000) only [go_sem, hA.nil, hA.go, hA.yes, hA.noT, hA.noF, hA.skp]
  refine hK _ _ ?_; clear hK K hA A
  refine .midK (fun L t => L = [(0, .ptr bT 0 0), (4, .ptr σ.next 0 0), (5, .ptr (t.next - 1) 0 0)] ∧ σ.next < t.next - 1 ∧ (∃ c, t.blk (t.next - 1) = some (.cells 2 [[ints s, .sl c 0 N]]) ∧ t.blk c = some (.cells 1 (List.replicate N [I 0])) ∧ σ.next < c ∧ c < t.next - 1) ∧
    t.blk σ.next = some (.cells 2 [[.lit 1 [], .lit 1 []]]) ∧ ∀ b, b < σ.next → t.blk b = σ.blk b) ?_ ?_
  · first | refine .seq (.rg fun A hA K hK => ?_) | refine .seq (.seq (.rg fun A hA K hK => ?_)) | refine .rg fun A hA K hK => ?_ | refine .seq (.rd fun A hA K hK => ?_) | refine .seq (.seq (.rd fun A hA K hK => ?_)) | refine .rd fun A hA K hK => ?_
    simp (maxSteps := 1000000) only [go_sem, hA.nil, hA.go, hA.yes, hA.noT, hA.noF, hA.skp]
    refine aopq_callQ (fill_spec s hs 0 _) (by simp (maxSteps := 1000000) only [go_sem]) ?_
    rintro v t ⟨c, rfl, h1, h2, h3, hx⟩
    rw [hN] at h1 ⊢
    try simp (maxSteps := 1000000) only [go_sem, hA.nil, hA.go, hA.yes, hA.noT, hA.noF, hA.skp]
    refine hK _ _ ?_; clear hK K hA A
    have hx1 := hx.1
    rw [next_push] at h2 hx1
    refine ⟨_, ⟨by rw [next_set, next_push, Nat.add_sub_cancel], ?_, ⟨c, ?_, ?_, ?_, ?_⟩, ?_, fun b hb => ?_⟩, by simp (maxSteps := 1000000) only [go_sem, Nat.add_sub_cancel]⟩
    · simp (maxSteps := 1000000) only [go_sem, Nat.add_sub_cancel]; omega
    · simp (maxSteps := 1000000) only [go_sem, Nat.add_sub_cancel]
    · have e1 : ¬ c = t.next := by omega
      simp (maxSteps := 1000000) only [go_sem, Nat.add_sub_cancel, e1, h1]
    · omega
    · simp (maxSteps := 1000000) only [go_sem, Nat.add_sub_cancel]; omega
    · have e1 : ¬ σ.next = t.next := by omega
      simp (maxSteps := 1000000) only [go_sem, e1]
      rw [hx.2 _ (by rw [next_push]; omega)]
      simp (maxSteps := 1000000) only [go_sem]
    · have e1 : ¬ b = t.next := by omega
      have e2 : ¬ b = σ.next := by omega
      simp (maxSteps := 1000000) only [go_sem, e1]
      rw [hx.2 _ (by rw [next_push]; omega)]
      simp (maxSteps := 1000000) only [go_sem, e2]
  rintro L t ⟨rfl, hn, ⟨c, h5, hc, hc1, hc2⟩, h4, hx⟩
  generalize hq : t.next - 1 = b5 at *
  have hb5 : b5 < t.next := by omega
  clear hq
  first | refine .seq (.rg fun A hA K hK => ?_) | refine .seq (.seq (.rg fun A hA K hK => ?_)) | refine .rg fun A hA K hK => ?_ | refine .seq (.rd fun A hA K hK => ?_) | refine .seq (.seq (.rd fun A hA K hK => ?_)) | refine .rd fun A hA K hK => ?_
  simp (maxSteps := 1000000) only [go_sem, hA.nil, hA.go, hA.yes, hA.noT, hA.noF, hA.skp, h5]
  refine hK _ _ ?_; clear hK K hA A
  refine .rangeK (N := N) (fun i L t => L = [(0, .ptr bT 0 0), (4, .ptr σ.next 0 0), (5, .ptr b5 0 0), (11, I N), (12, I i)] ∧ b5 < t.next ∧ (∃ ds : List Int, ds.length = N ∧ t.blk c = some (.cells 1 (ds.map fun n => [I n]))) ∧
    t.blk b5 = some (.cells 2 [[ints s, .sl c 0 N]]) ∧ t.blk σ.next = some (.cells 2 [[.lit 1 [], .lit 1 []]]) ∧ (∃ p', p' ≤ l.length ∧ t.blk bT = some (tapeB l p')) ∧ ∀ b, b < σ.next → b ≠ bT → t.blk b = σ.blk b) (by simp only [most]; omega)
    ⟨_, ⟨rfl, hb5, ⟨List.replicate N 0, by simp, by rw [hc]; simp⟩, h5, h4, ⟨p, hp, by rw [hx bT hbT]; exact hb⟩, fun b h _ => hx b h⟩, by simp (maxSteps := 1000000) only [go_sem]; try rfl⟩ ?_ ?_ ?_
  · rintro i L t ⟨rfl, _⟩
    exact ⟨by simp (maxSteps := 1000000) only [go_sem], by simp (maxSteps := 1000000) only [go_sem], rfl⟩
  · rintro i L t hi ⟨rfl, hb5, ⟨ds, hds, hc⟩, h5, h4, ⟨p', hp', hbt⟩, hx⟩
    have e1 : ¬ b5 = bT := by omega
    have e2 : ¬ c = bT := by omega
    have e3 : (i : Int) < N := by omega
    have e4 : i < ds.length := by omega
    have e5 : ¬ b5 = c := by omega
    have e6 : ¬ σ.next = bT := by omega
    have e7 : ¬ σ.next = c := by omega
    have e8 : ¬ bT = c := by omega
    have hg : (ds.map fun n => [I n]).getD i [] = [I (ds.getD i 0)] := by rw [ints_get e4]; simp [List.getD_eq_getElem?_getD, e4]
    have hset : ∀ x, (ds.map fun n => [I n]).set i [I x] = (ds.set i x).map fun n => [I n] := fun x => by rw [List.map_set]
    first | refine .seq (.rg fun A hA K hK => ?_) | refine .seq (.seq (.rg fun A hA K hK => ?_)) | refine .rg fun A hA K hK => ?_ | refine .seq (.rd fun A hA K hK => ?_) | refine .seq (.seq (.rd fun A hA K hK => ?_)) | refine .rd fun A hA K hK => ?_
    simp (maxSteps := 1000000) only [go_sem, hA.nil, hA.go, hA.yes, hA.noT, hA.noF, hA.skp]
    refine hK _ _ ?_; clear hK K hA A
    refine .rdx fun A hA K hK => ?_
    simp (maxSteps := 200000) only [go_sem, hA.nil, hA.pur, hA.go, hA.yes, hA.noT, hA.noF, hA.skp, pure_mv, eff_mv, pure_pk, eff_pk, pure_al, eff_al, pure_bx, eff_bx, pure_bd, eff_bd, pure_bs, eff_bs, pure_ld, eff_ld, pure_st, eff_st, pure_nc, eff_nc, pure_bin, eff_bin, pure_un, eff_un, pure_cv, eff_cv, pure_mi, eff_mi, pure_mf, eff_mf, pure_mm, eff_mm, pure_ms, eff_ms, pure_sc, eff_sc, pure_fa, eff_fa, pure_fl, eff_fl, pure_ia, eff_ia, pure_lk, eff_lk, pure_mu, eff_mu, pure_lm, eff_lm, pure_rg, eff_rg, pure_nx, eff_nx, pure_en, eff_en, pure_ta, eff_ta, pure_ex, eff_ex, pure_ln, eff_ln, pure_ap, eff_ap, pure_mx, eff_mx, pure_call, eff_call, pure_callv, eff_callv, chk_nil, chk_cons, again, List.contains_cons, List.contains_nil, h5, e1]
    refine aop_callF (number_spec hbt hp' hl) (by simp (maxSteps := 1000000) only [go_sem]) ?_
    simp (maxSteps := 200000) only [go_sem, hA.nil, hA.pur, hA.go, hA.yes, hA.noT, hA.noF, hA.skp, pure_mv, eff_mv, pure_pk, eff_pk, pure_al, eff_al, pure_bx, eff_bx, pure_bd, eff_bd, pure_bs, eff_bs, pure_ld, eff_ld, pure_st, eff_st, pure_nc, eff_nc, pure_bin, eff_bin, pure_un, eff_un, pure_cv, eff_cv, pure_mi, eff_mi, pure_mf, eff_mf, pure_mm, eff_mm, pure_ms, eff_ms, pure_sc, eff_sc, pure_fa, eff_fa, pure_fl, eff_fl, pure_ia, eff_ia, pure_lk, eff_lk, pure_mu, eff_mu, pure_lm, eff_lm, pure_rg, eff_rg, pure_nx, eff_nx, pure_en, eff_en, pure_ta, eff_ta, pure_ex, eff_ex, pure_ln, eff_ln, pure_ap, eff_ap, pure_mx, eff_mx, pure_call, eff_call, pure_callv, eff_callv, chk_nil, chk_cons, again, List.contains_cons, List.contains_nil, h5, e1, e2, hc, e3, e4, hg]
    refine hK _ _ ?_; clear hK K hA A
    refine ⟨by simp (maxSteps := 1000000) only [go_sem], _, ⟨rfl, by simp (maxSteps := 1000000) only [go_sem]; exact hb5, ⟨ds.set i (numE l p'), by simpa using hds, ?_⟩, by simp (maxSteps := 1000000) only [go_sem, e5, e1, h5], by simp (maxSteps := 1000000) only [go_sem, e6, e7, h4], ⟨numP l p', numP_le hp', by simp (maxSteps := 1000000) only [go_sem, e8]⟩, fun b h1 h2 => ?_⟩, by simp (maxSteps := 1000000) only [go_sem]; try rfl⟩
    · simp (maxSteps := 1000000) only [go_sem]; rw [hset]
    · have e9 : ¬ b = c := by omega
      simp (maxSteps := 1000000) only [go_sem, e9, h2, hx b h1 h2]
  · rintro L t F ⟨rfl, hb5, ⟨ds, hds, hc⟩, h5, h4, ⟨p', hp', hbt⟩, hx⟩ hf
    simp (maxSteps := 1000000) only [go_sem] at hf
    have e1 : ¬ σ.next = b5 := by omega
    have e2 : ¬ σ.next = c := by omega
    have e3 : ¬ bT = b5 := by omega
    have e4 : ¬ bT = c := by omega
    have e5 : ¬ bT = σ.next := by omega
    refine frz1 b5 1 h5 (by simp) rfl hc (by omega) (by simpa using hds.symm) ?_
    first | refine .seq (.rg fun A hA K hK => ?_) | refine .seq (.seq (.rg fun A hA K hK => ?_)) | refine .rg fun A hA K hK => ?_ | refine .seq (.rd fun A hA K hK => ?_) | refine .seq (.seq (.rd fun A hA K hK => ?_)) | refine .rd fun A hA K hK => ?_
    simp (maxSteps := 1000000) only [go_sem, hA.nil, hA.go, hA.yes, hA.noT, hA.noF, hA.skp, hf, e1, e2, h4]
    refine hK _ _ ?_; clear hK K hA A
    refine .ret ⟨[.agg [ints s, ints ds]], by simp [resOne, hf, go_sem], _, _, .refl _ _ _, ds, p', rfl, hds, hp', by simp (maxSteps := 1000000) only [go_sem, e3, e4, e5, hbt], by simp (maxSteps := 1000000) only [go_sem]; omega, fun b h1 h2 => ?_⟩
    have e6 : ¬ b = b5 := by omega
    have e7 : ¬ b = c := by omega
    have e8 : ¬ b = σ.next := by omega
    simp (maxSteps := 1000000) only [go_sem, e6, e7, e8, hx b h1 h2]
end
end Go.Proofs.Ytfjbabacpnnjmaa.Av

namespace Go.Proofs.Ytfjbabacpnnjmaa.Av
open Go Go.Av
set_option maxRecDepth 20000
set_option maxHeartbeats 4000000

attribute [local go_sem] step_apply stepD_apply stepE_apply
attribute [local go_sem] aopq_mv aopq_pk aopq_al aopq_bx aopq_bd aopq_bs aopq_ld aopq_st aopq_nc aopq_bin aopq_un aopq_cv aopq_mi aopq_mf aopq_mm aopq_ms aopq_sc aopq_fa aopq_fl aopq_ia aopq_lk aopq_mu aopq_lm aopq_rg aopq_en aopq_ta aopq_ex aopq_ln aopq_ap aopq_mx aopq.eq_3 aop.eq_1 aop.eq_2 aop.eq_3 aop.eq_4 aop.eq_5 aop.eq_6 aop.eq_7 aop.eq_8 aop.eq_9 aop_bin atS_apply aop_un_not aop_un_neg aop.eq_14 aop.eq_15 aop.eq_16 aop.eq_17 aop.eq_18 aop_sc cutS_apply cutN_apply cutL_apply cutO_apply aop.eq_20 aop.eq_21 aop.eq_22 aop.eq_23 aop.eq_24 aop.eq_25 aop.eq_26 aop.eq_27 aop.eq_28 aop.eq_29 aop.eq_30 aop.eq_31 aop.eq_32 blk_push next_push blk_set next_set blk_kill next_kill frL_nil frL_cons Fits_nil Fits_cons Int.reduceBEq Int.reduceBNe Nat.sub_zero Option.map_some Option.map_none List.set_cons_succ true_or or_true false_or or_false Int.le_refl Int.cast_ofNat_Int decide_true decide_false List.cons_append fillA fillR rowsOf List.replicate_succ List.replicate_zero Nat.zero_mul getD_drop List.length_drop splice List.nil_append List.append_nil cond_true cond_false List.set_cons_zero List.length_set ev put_some put_none upd_apply abin asNat bounds row1 mk List.length_cons List.length_nil List.length_map List.drop_zero List.drop_succ_cons List.drop_nil List.getD_cons_zero List.getD_cons_succ Option.getD_none Option.getD_some List.take_succ_cons List.take_zero List.take_nil true_and and_true Int.toNat_natCast if_true if_false Nat.zero_add Nat.add_zero List.map_cons List.map_nil Nat.reduceEqDiff Nat.left_eq_add Nat.add_eq_left Nat.add_left_cancel_iff Nat.add_assoc Nat.reduceSub Nat.reduceAdd Nat.reduceLeDiff Nat.le_refl Nat.zero_le Nat.zero_lt_one Nat.lt_add_one Int.reduceLT Int.reduceLE Int.reduceToNat Nat.reduceLT Nat.reduceBEq Bool.false_eq_true Nat.reduceBNe ne_eq not_false_eq_true not_true_eq_false false_and and_false reduceIte Int.natCast_nonneg reduceCtorEq parts_agg parts_bool parts_int parts_str parts_lit parts_nils parts_sl parts_ptr Int.natCast_nonneg Int.natCast_nonneg beq_self_eq_true bne_self_eq_false Bool.true_and Bool.false_and Bool.and_true Bool.and_false Bool.true_or Bool.false_or Bool.or_true Bool.or_false Bool.not_true Bool.not_false
attribute [local go_sem] instr0 instr1 instr2 instr10 instr11 instr12 instrN instrA instr_len node0 node1 node2 node3 node4 node5 node6 nodeA node_len I ints progA progsA

structure Msg where
  from_ : Int
  to : Int
  tag : Int
  shape : List Int
def msgL (m : Msg) : List AV := [I m.from_, I m.to, I m.tag, ints m.shape, .lit 1 []]
def shapeL (s : List Int) : List AV := [ints s]

/-- keep's maker in memory. -/
structure KM (o : Nat → Option Nat) (s : St) (b bL bR : Nat) (vl vr : List AV) (vw : AV) (ps : List (List Instr)) (rs : List (List (List Int))) (w : List Msg) (tg : Int) : Prop where
  own0 : o b = some 0
  ownL : o bL = some 1
  ownR : o bR = some 2
  lt : ∀ c, o c ≠ none → c < s.next
  hb : s.blk b = some (.cells 4 [[.sl bL 0 ps.length, .sl bR 0 rs.length, vw, I tg]])
  hL : s.blk bL = some (.cells 1 (vl.map fun v => [v]))
  hR : s.blk bR = some (.cells 1 (vr.map fun v => [v]))
  hvl : vl.length = ps.length
  hvr : vr.length = rs.length
  hlr : rs.length = ps.length
  hd : ∀ d, d < ps.length → Row1 o (4 + 2 * d) s 13 (vl.getD d .undef) ((ps.getD d []).map instrL)
  hs : ∀ d, d < rs.length → Row1 o (5 + 2 * d) s 1 (vr.getD d .undef) ((rs.getD d []).map shapeL)
  hw : Row1 o 3 s 5 vw (w.map msgL)

/-- What is not the maker's stays; its own grows by new blocks. -/
def GrowF (o : Nat → Option Nat) (σ : St) (o' : Nat → Option Nat) (s : St) : Prop :=
  σ.next ≤ s.next ∧ (∀ c, c < σ.next → o' c = o c) ∧ ∀ c, c < σ.next → (∀ x, o c = some x → 2000 ≤ x) → s.blk c = σ.blk c
theorem GrowF.refl (o : Nat → Option Nat) (σ : St) : GrowF o σ o σ := ⟨Nat.le_refl _, fun _ _ => rfl, fun _ _ _ => rfl⟩
theorem GrowF.trans {o o' o'' : Nat → Option Nat} {σ s t : St} (h : GrowF o σ o' s) (h' : GrowF o' s o'' t) : GrowF o σ o'' t :=
  ⟨Nat.le_trans h.1 h'.1, fun c hc => by rw [h'.2.1 c (Nat.lt_of_lt_of_le hc h.1), h.2.1 c hc], fun c hc ho => by
    rw [h'.2.2 c (Nat.lt_of_lt_of_le hc h.1) (by rw [h.2.1 c hc]; exact ho), h.2.2 c hc ho]⟩

theorem Row1.frame {o : Nat → Option Nat} {σ s : St} {l sz : Nat} {v : AV} {rows : List (List AV)} (h : Row1 o l σ sz v rows) (hs : ∀ c, o c = some l → s.blk c = σ.blk c) : Row1 o l s sz v rows := by
  rcases h with h | ⟨c, h1, h2, h3⟩
  · exact .inl h
  · exact .inr ⟨c, h1, h2, by rw [hs c h2]; exact h3⟩
theorem Row1.newLab {o : Nat → Option Nat} {s : St} {l sz : Nat} {v : AV} {rows : List (List AV)} (h : Row1 o l s sz v rows) {o' : Nat → Option Nat} (hs : ∀ c, o c = some l → o' c = some l) : Row1 o' l s sz v rows := by
  rcases h with h | ⟨c, h1, h2, h3⟩
  · exact .inl h
  · exact .inr ⟨c, h1, hs c h2, h3⟩

section km
variable {o : Nat → Option Nat} {σ : St} {b bL bR : Nat} {vl vr : List AV} {vw : AV} {ps : List (List Instr)} {rs : List (List (List Int))} {w : List Msg} {tg : Int}
theorem KM.frame (h : KM o σ b bL bR vl vr vw ps rs w tg) {s : St} (hn : σ.next ≤ s.next) (hs : ∀ c, o c ≠ none → s.blk c = σ.blk c) : KM o s b bL bR vl vr vw ps rs w tg :=
  ⟨h.own0, h.ownL, h.ownR, fun c hc => Nat.lt_of_lt_of_le (h.lt c hc) hn, by rw [hs b (by rw [h.own0]; simp)]; exact h.hb, by rw [hs bL (by rw [h.ownL]; simp)]; exact h.hL, by rw [hs bR (by rw [h.ownR]; simp)]; exact h.hR,
    h.hvl, h.hvr, h.hlr, fun d hd => (h.hd d hd).frame fun c hc => hs c (by rw [hc]; simp), fun d hd => (h.hs d hd).frame fun c hc => hs c (by rw [hc]; simp), h.hw.frame fun c hc => hs c (by rw [hc]; simp)⟩

def killV (σ : St) : AV → St
  | .sl c _ _ => σ.kill c
  | _ => σ
/-- A row of an array of rows has grown. -/
def growS (σ : St) (bA : Nat) (va : List AV) (d sz : Nat) (rows : List (List AV)) : St :=
  ((killV σ (va.getD d .undef)).push (.cells sz rows)).set bA (.cells 1 ((va.map fun v => [v]).set d [.sl σ.next 0 rows.length]))
theorem killV_next (σ : St) (v : AV) : (killV σ v).next = σ.next := by unfold killV; split <;> rfl
theorem growS_next (σ : St) (bA : Nat) (va : List AV) (d sz : Nat) (rows : List (List AV)) : (growS σ bA va d sz rows).next = σ.next + 1 := by simp only [growS, next_set, next_push, killV_next]
theorem killV_blk {σ : St} {v : AV} {l sz : Nat} {rows : List (List AV)} (h : Row1 o l σ sz v rows) (c : Nat) (hc : o c ≠ some l) : (killV σ v).blk c = σ.blk c := by
  rcases h with ⟨rfl, _⟩ | ⟨c', rfl, h2, _⟩
  · rfl
  · simp only [killV, blk_kill]
    rw [if_neg]
    rintro rfl; exact hc h2
theorem growS_blk {bA : Nat} {va : List AV} {d sz l sz' : Nat} {rows rows' : List (List AV)} (h : Row1 o l σ sz' (va.getD d .undef) rows') (c : Nat) (hc : o c ≠ some l) (hn : c < σ.next) (hA : c ≠ bA) : (growS σ bA va d sz rows).blk c = σ.blk c := by
  simp only [growS, blk_set, blk_push, killV_next]
  rw [if_neg hA, if_neg (by omega), killV_blk h c hc]
theorem growS_new (bA : Nat) (va : List AV) (d sz : Nat) (rows : List (List AV)) (hA : bA < σ.next) : (growS σ bA va d sz rows).blk σ.next = some (.cells sz rows) := by
  simp only [growS, blk_set, blk_push, killV_next]
  rw [if_neg (by omega), if_pos trivial]
theorem growS_arr (bA : Nat) (va : List AV) (d sz : Nat) (rows : List (List AV)) : (growS σ bA va d sz rows).blk bA = some (.cells 1 ((va.set d (.sl σ.next 0 rows.length)).map fun v => [v])) := by
  simp only [growS, blk_set]
  rw [if_pos trivial, List.map_set]

def newLab (o : Nat → Option Nat) (n l : Nat) : Nat → Option Nat := fun c => if c = n then some l else o c
theorem newLab_old {n l c x : Nat} (hlt : ∀ c, o c ≠ none → c < n) (h : o c = some x) : newLab o n l c = some x := by
  have := hlt c (by rw [h]; simp)
  simp only [newLab]; rw [if_neg (by omega)]; exact h
theorem newLab_lt {n l : Nat} {s : St} (hlt : ∀ c, o c ≠ none → c < n) (hs : n < s.next) : ∀ c, newLab o n l c ≠ none → c < s.next := by
  intro c hc
  simp only [newLab] at hc
  by_cases h : c = n
  · omega
  · rw [if_neg h] at hc; have := hlt c hc; omega
theorem getD_set_ne {α : Type} {l : List α} {d k : Nat} (x y : α) (h : k ≠ d) : (l.set d x).getD k y = l.getD k y := by
  rw [List.getD_eq_getElem?_getD, List.getElem?_set, if_neg (by omega), ← List.getD_eq_getElem?_getD]
theorem getD_set_eq {α : Type} {l : List α} {d : Nat} (x y : α) (h : d < l.length) : (l.set d x).getD d y = x := by
  simp [List.getD_eq_getElem?_getD, h]

theorem KM.growL (h : KM o σ b bL bR vl vr vw ps rs w tg) {d : Nat} (hd : d < ps.length) (h9 : d < 900) (p' : List Instr) :
    KM (newLab o σ.next (4 + 2 * d)) (growS σ bL vl d 13 (p'.map instrL)) b bL bR (vl.set d (.sl σ.next 0 p'.length)) vr vw (ps.set d p') rs w tg ∧ GrowF o σ (newLab o σ.next (4 + 2 * d)) (growS σ bL vl d 13 (p'.map instrL)) := by
  have hr := h.hd d hd
  have lt : ∀ {c x}, o c = some x → c < σ.next := fun hx => h.lt _ (by rw [hx]; simp)
  have fr : ∀ c, o c ≠ none → o c ≠ some (4 + 2 * d) → c ≠ bL → (growS σ bL vl d 13 (p'.map instrL)).blk c = σ.blk c := fun c h1 h2 h3 => growS_blk hr c h2 (h.lt c h1) h3
  have frl : ∀ {c x}, o c = some x → x ≠ 4 + 2 * d → x ≠ 1 → (growS σ bL vl d 13 (p'.map instrL)).blk c = σ.blk c := fun hx h2 h3 => fr _ (by rw [hx]; simp) (by rw [hx]; simpa using h2) (by rintro rfl; rw [h.ownL] at hx; cases hx; exact h3 rfl)
  refine ⟨⟨newLab_old h.lt h.own0, newLab_old h.lt h.ownL, newLab_old h.lt h.ownR, newLab_lt h.lt (by rw [growS_next]; omega), ?_, ?_, ?_, by simp [h.hvl], h.hvr, by simp [h.hlr], fun k hk => ?_, fun k hk => ?_, ?_⟩, ?_⟩
  · rw [frl h.own0 (by omega) (by decide), List.length_set]; exact h.hb
  · rw [growS_arr, List.length_map]
  · rw [frl h.ownR (by omega) (by decide)]; exact h.hR
  · have hk' : k < ps.length := by simpa using hk
    by_cases hkd : k = d
    · subst hkd
      rw [getD_set_eq _ _ (by rw [h.hvl]; exact hd), getD_set_eq _ _ hd]
      refine .inr ⟨σ.next, by rw [List.length_map], by simp [newLab], growS_new bL vl k 13 _ (lt h.ownL)⟩
    · rw [getD_set_ne _ _ hkd, getD_set_ne _ _ hkd]
      exact ((h.hd k hk').frame fun c hc => frl hc (by omega) (by omega)).newLab fun c hc => newLab_old h.lt hc
  · exact ((h.hs k hk).frame fun c hc => frl hc (by omega) (by omega)).newLab fun c hc => newLab_old h.lt hc
  · exact (h.hw.frame fun c hc => frl hc (by omega) (by omega)).newLab fun c hc => newLab_old h.lt hc
  · refine ⟨by rw [growS_next]; omega, fun c hc => ?_, fun c hc ho => growS_blk hr c (fun e => by have := ho _ e; omega) hc (by rintro rfl; have := ho _ h.ownL; omega)⟩
    simp only [newLab]; rw [if_neg (by omega)]

theorem KM.growR (h : KM o σ b bL bR vl vr vw ps rs w tg) {d : Nat} (hd : d < rs.length) (h9 : d < 900) (p' : List (List Int)) :
    KM (newLab o σ.next (5 + 2 * d)) (growS σ bR vr d 1 (p'.map shapeL)) b bL bR vl (vr.set d (.sl σ.next 0 p'.length)) vw ps (rs.set d p') w tg ∧ GrowF o σ (newLab o σ.next (5 + 2 * d)) (growS σ bR vr d 1 (p'.map shapeL)) := by
  have hr := h.hs d hd
  have lt : ∀ {c x}, o c = some x → c < σ.next := fun hx => h.lt _ (by rw [hx]; simp)
  have fr : ∀ c, o c ≠ none → o c ≠ some (5 + 2 * d) → c ≠ bR → (growS σ bR vr d 1 (p'.map shapeL)).blk c = σ.blk c := fun c h1 h2 h3 => growS_blk hr c h2 (h.lt c h1) h3
  have frl : ∀ {c x}, o c = some x → x ≠ 5 + 2 * d → x ≠ 2 → (growS σ bR vr d 1 (p'.map shapeL)).blk c = σ.blk c := fun hx h2 h3 => fr _ (by rw [hx]; simp) (by rw [hx]; simpa using h2) (by rintro rfl; rw [h.ownR] at hx; cases hx; exact h3 rfl)
  refine ⟨⟨newLab_old h.lt h.own0, newLab_old h.lt h.ownL, newLab_old h.lt h.ownR, newLab_lt h.lt (by rw [growS_next]; omega), ?_, ?_, ?_, h.hvl, by simp [h.hvr], by simp [h.hlr], fun k hk => ?_, fun k hk => ?_, ?_⟩, ?_⟩
  · rw [frl h.own0 (by omega) (by decide), List.length_set]; exact h.hb
  · rw [frl h.ownL (by omega) (by decide)]; exact h.hL
  · rw [growS_arr, List.length_map]
  · exact ((h.hd k hk).frame fun c hc => frl hc (by omega) (by omega)).newLab fun c hc => newLab_old h.lt hc
  · have hk' : k < rs.length := by simpa using hk
    by_cases hkd : k = d
    · subst hkd
      rw [getD_set_eq _ _ (by rw [h.hvr]; exact hd), getD_set_eq _ _ hd]
      refine .inr ⟨σ.next, by rw [List.length_map], by simp [newLab], growS_new bR vr k 1 _ (lt h.ownR)⟩
    · rw [getD_set_ne _ _ hkd, getD_set_ne _ _ hkd]
      exact ((h.hs k hk').frame fun c hc => frl hc (by omega) (by omega)).newLab fun c hc => newLab_old h.lt hc
  · exact (h.hw.frame fun c hc => frl hc (by omega) (by omega)).newLab fun c hc => newLab_old h.lt hc
  · refine ⟨by rw [growS_next]; omega, fun c hc => ?_, fun c hc ho => growS_blk hr c (fun e => by have := ho _ e; omega) hc (by rintro rfl; have := ho _ h.ownR; omega)⟩
    simp only [newLab]; rw [if_neg (by omega)]
end km
end Go.Proofs.Ytfjbabacpnnjmaa.Av

namespace Go.Proofs.Ytfjbabacpnnjmaa.Av
open Go Go.Av
set_option maxRecDepth 20000
set_option maxHeartbeats 4000000

attribute [local go_sem] step_apply stepD_apply stepE_apply
attribute [local go_sem] aopq_mv aopq_pk aopq_al aopq_bx aopq_bd aopq_bs aopq_ld aopq_st aopq_nc aopq_bin aopq_un aopq_cv aopq_mi aopq_mf aopq_mm aopq_ms aopq_sc aopq_fa aopq_fl aopq_ia aopq_lk aopq_mu aopq_lm aopq_rg aopq_en aopq_ta aopq_ex aopq_ln aopq_ap aopq_mx aopq.eq_3 aop.eq_1 aop.eq_2 aop.eq_3 aop.eq_4 aop.eq_5 aop.eq_6 aop.eq_7 aop.eq_8 aop.eq_9 aop_bin atS_apply aop_un_not aop_un_neg aop.eq_14 aop.eq_15 aop.eq_16 aop.eq_17 aop.eq_18 aop_sc cutS_apply cutN_apply cutL_apply cutO_apply aop.eq_20 aop.eq_21 aop.eq_22 aop.eq_23 aop.eq_24 aop.eq_25 aop.eq_26 aop.eq_27 aop.eq_28 aop.eq_29 aop.eq_30 aop.eq_31 aop.eq_32 blk_push next_push blk_set next_set blk_kill next_kill frL_nil frL_cons Fits_nil Fits_cons Int.reduceBEq Int.reduceBNe Nat.sub_zero Option.map_some Option.map_none List.set_cons_succ true_or or_true false_or or_false Int.le_refl Int.cast_ofNat_Int decide_true decide_false List.cons_append fillA fillR rowsOf List.replicate_succ List.replicate_zero Nat.zero_mul getD_drop List.length_drop splice List.nil_append List.append_nil cond_true cond_false List.set_cons_zero List.length_set ev put_some put_none upd_apply abin asNat bounds row1 mk List.length_cons List.length_nil List.length_map List.drop_zero List.drop_succ_cons List.drop_nil List.getD_cons_zero List.getD_cons_succ Option.getD_none Option.getD_some List.take_succ_cons List.take_zero List.take_nil true_and and_true Int.toNat_natCast if_true if_false Nat.zero_add Nat.add_zero List.map_cons List.map_nil Nat.reduceEqDiff Nat.left_eq_add Nat.add_eq_left Nat.add_left_cancel_iff Nat.add_assoc Nat.reduceSub Nat.reduceAdd Nat.reduceLeDiff Nat.le_refl Nat.zero_le Nat.zero_lt_one Nat.lt_add_one Int.reduceLT Int.reduceLE Int.reduceToNat Nat.reduceLT Nat.reduceBEq Bool.false_eq_true Nat.reduceBNe ne_eq not_false_eq_true not_true_eq_false false_and and_false reduceIte Int.natCast_nonneg reduceCtorEq parts_agg parts_bool parts_int parts_str parts_lit parts_nils parts_sl parts_ptr Int.natCast_nonneg Int.natCast_nonneg beq_self_eq_true bne_self_eq_false Bool.true_and Bool.false_and Bool.and_true Bool.and_false Bool.true_or Bool.false_or Bool.or_true Bool.or_false Bool.not_true Bool.not_false
attribute [local go_sem] instr0 instr1 instr2 instr10 instr11 instr12 instrN instrA instr_len node0 node1 node2 node3 node4 node5 node6 nodeA node_len I ints progA progsA

theorem retS0n {n0 : Nat} {F : Fr} {σ : St} {Q : AV → St → Prop} (hq : Q (.tup []) σ) : retQ n0 [] Q .normal F σ := ⟨[], by simp, .tup [], σ, .refl _ _ _, hq⟩
section km
variable {o : Nat → Option Nat} {σ : St} {b bL bR : Nat} {vl vr : List AV} {vw : AV} {ps : List (List Instr)} {rs : List (List (List Int))} {w : List Msg} {tg : Int}

/-- maker.put of a Send -/
theorem put_send (h : KM o σ b bL bR vl vr vw ps rs w tg) (d : Nat) (hd : d < ps.length) (hlen : (ps.getD d []).length ≤ 2 ^ 20) (i : Instr) (hk : i.kind = 3) (v : AV) :
    T Try.prog 96 [.ptr b 0 0, I d, .agg (instrL i), v] σ (.tup []) (growS (σ.push (.cells 13 [instrL i])) bL vl d 13 ((ps.getD d [] ++ [i]).map instrL)) := by
  refine in96 (by simp) fun wf hab => ?_
  clear hab
  have hlt := h.lt
  have e0 : (d : Int) < ps.length := by omega
  have hdv : d < vl.length := by rw [h.hvl]; exact hd
  have hkb : (i.kind != 3) = false := by rw [hk]; rfl
  unfold c96
  first | refine .seq (.rg fun A hA K hK => ?_) | refine .seq (.seq (.rg fun A hA K hK => ?_)) | refine .rg fun A hA K hK => ?_ | refine .seq (.rd fun A hA K hK => ?_) | refine .seq (.seq (.rd fun A hA K hK => ?_)) | refine .rd fun A hA K hK => ?_
  simp (maxSteps := 1000000) only [go_sem, hA.nil, hA.go, hA.yes, hA.noT, hA.noF, hA.skp]
  refine hK _ _ ?_; clear hK K hA A
  have h1 : KM o (σ.push (.cells 13 [instrL i])) b bL bR vl vr vw ps rs w tg := h.frame (by simp (maxSteps := 1000000) only [go_sem]; omega) fun c hc => by
    have := hlt c hc; rw [blk_push, if_neg (by omega)]
  generalize hS : σ.push (.cells 13 [instrL i]) = s1 at *
  have hbx : s1.blk σ.next = some (.cells 13 [instrL i]) := by subst hS; simp (maxSteps := 1000000) only [go_sem]
  have hns : s1.next = σ.next + 1 := by subst hS; simp (maxSteps := 1000000) only [go_sem]
  clear hS h
  have hb := h1.hb
  have hL := h1.hL
  have hg := vs_get hdv
  first | refine .seq (.rg fun A hA K hK => ?_) | refine .seq (.seq (.rg fun A hA K hK => ?_)) | refine .rg fun A hA K hK => ?_ | refine .seq (.rd fun A hA K hK => ?_) | refine .seq (.seq (.rd fun A hA K hK => ?_)) | refine .rd fun A hA K hK => ?_
  simp (maxSteps := 1000000) only [go_sem, hA.nil, hA.go, hA.yes, hA.noT, hA.noF, hA.skp, hbx]
  refine hK _ _ ?_; clear hK K hA A
  refine .cond (t := false) (by simp (maxSteps := 1000000) only [go_sem, hkb]) (fun h => by cases h) (fun _ => .skip ?_)
  have lts : ∀ {c x}, o c = some x → c < s1.next := fun hx => h1.lt _ (by rw [hx]; simp)
  have ltb := lts h1.own0
  have ltL := lts h1.ownL
  have nsb : ¬ b = s1.next := by omega
  have nsL : ¬ bL = s1.next := by omega
  have n5 : ¬ σ.next = s1.next := by omega
  rcases h1.hd d hd with ⟨q1, q2⟩ | ⟨c, q1, q2, q3⟩
  · rw [q1] at hg
    have e3 : ps.getD d [] = [] := by simpa using q2
    refine .rdx fun A hA K hK => ?_
    simp (maxSteps := 200000) only [go_sem, hA.nil, hA.pur, hA.go, hA.yes, hA.noT, hA.noF, hA.skp, pure_mv, eff_mv, pure_pk, eff_pk, pure_al, eff_al, pure_bx, eff_bx, pure_bd, eff_bd, pure_bs, eff_bs, pure_ld, eff_ld, pure_st, eff_st, pure_nc, eff_nc, pure_bin, eff_bin, pure_un, eff_un, pure_cv, eff_cv, pure_mi, eff_mi, pure_mf, eff_mf, pure_mm, eff_mm, pure_ms, eff_ms, pure_sc, eff_sc, pure_fa, eff_fa, pure_fl, eff_fl, pure_ia, eff_ia, pure_lk, eff_lk, pure_mu, eff_mu, pure_lm, eff_lm, pure_rg, eff_rg, pure_nx, eff_nx, pure_en, eff_en, pure_ta, eff_ta, pure_ex, eff_ex, pure_ln, eff_ln, pure_ap, eff_ap, pure_mx, eff_mx, pure_call, eff_call, pure_callv, eff_callv, chk_nil, chk_cons, again, List.contains_cons, List.contains_nil, hb, hL, hg, hbx, e0, hdv, nsb, nsL, n5]
    refine ⟨by decide, by decide, ?_⟩
    refine hK _ _ ?_; clear hK K hA A
    refine retS0n ⟨rfl, ?_⟩
    rw [growS, q1, e3]; rfl
  · rw [q1] at hg
    have ltc := lts q2
    have ncL := ne_lab q2 h1.ownL (by omega)
    have ncb := ne_lab q2 h1.own0 (by omega)
    have nbc : ¬ b = c := fun e => ncb e.symm
    have nLc : ¬ bL = c := fun e => ncL e.symm
    have m1 : (ps.getD d []).length + 1 ≤ most := by simp only [most]; omega
    have m2 : ((ps.getD d []).length + 1) * 176 ≤ most := by simp only [most]; omega
    have ht : List.take (ps.getD d []).length (List.map instrL (ps.getD d [])) = List.map instrL (ps.getD d []) := List.take_of_length_le (by simp)
    refine .rdx fun A hA K hK => ?_
    simp (maxSteps := 200000) only [go_sem, hA.nil, hA.pur, hA.go, hA.yes, hA.noT, hA.noF, hA.skp, pure_mv, eff_mv, pure_pk, eff_pk, pure_al, eff_al, pure_bx, eff_bx, pure_bd, eff_bd, pure_bs, eff_bs, pure_ld, eff_ld, pure_st, eff_st, pure_nc, eff_nc, pure_bin, eff_bin, pure_un, eff_un, pure_cv, eff_cv, pure_mi, eff_mi, pure_mf, eff_mf, pure_mm, eff_mm, pure_ms, eff_ms, pure_sc, eff_sc, pure_fa, eff_fa, pure_fl, eff_fl, pure_ia, eff_ia, pure_lk, eff_lk, pure_mu, eff_mu, pure_lm, eff_lm, pure_rg, eff_rg, pure_nx, eff_nx, pure_en, eff_en, pure_ta, eff_ta, pure_ex, eff_ex, pure_ln, eff_ln, pure_ap, eff_ap, pure_mx, eff_mx, pure_call, eff_call, pure_callv, eff_callv, chk_nil, chk_cons, again, List.contains_cons, List.contains_nil, hb, hL, hg, hbx, e0, hdv, nsb, nsL, n5, q3, m1, m2, ht, nLc, nbc]
    refine hK _ _ ?_; clear hK K hA A
    refine retS0n ⟨rfl, ?_⟩
    rw [growS, q1]; simp only [killV, List.map_append, List.length_append, List.length_map, List.map_cons, List.map_nil, List.length_cons, List.length_nil]

/-- What is put, where it is no Send. -/
def withOut (i : Instr) (n : Int) : Instr := { i with out := n }
def putS (σ : St) (bL bR : Nat) (vl vr : List AV) (d : Nat) (i : Instr) (p : List Instr) (r : List (List Int)) (sh : List Int) : St :=
  growS (growS ((σ.push (.cells 13 [instrL i])).set σ.next (.cells 13 [instrL (withOut i r.length)])) bR vr d 1 ((r ++ [sh]).map shapeL)) bL vl d 13 ((p ++ [withOut i r.length]).map instrL)

/-- maker.put of another one -/
theorem put_other (h : KM o σ b bL bR vl vr vw ps rs w tg) (d : Nat) (hd : d < ps.length) (h9 : d < 900) (hlen : (ps.getD d []).length ≤ 2 ^ 20) (hlen2 : (rs.getD d []).length ≤ 2 ^ 20) (i : Instr) (hk : i.kind ≠ 3) (sh : List Int) :
    T Try.prog 96 [.ptr b 0 0, I d, .agg (instrL i), ints sh] σ (.tup []) (putS σ bL bR vl vr d i (ps.getD d []) (rs.getD d []) sh) := by
  refine in96 (by simp) fun wf hab => ?_
  clear hab
  have hlt := h.lt
  have e0 : (d : Int) < ps.length := by omega
  have hdr : d < rs.length := by rw [h.hlr]; exact hd
  have e0r : (d : Int) < rs.length := by omega
  have hdv : d < vl.length := by rw [h.hvl]; exact hd
  have hdw : d < vr.length := by rw [h.hvr]; exact hdr
  have hkb : (i.kind != 3) = true := by simpa using hk
  unfold c96 putS
  first | refine .seq (.rg fun A hA K hK => ?_) | refine .seq (.seq (.rg fun A hA K hK => ?_)) | refine .rg fun A hA K hK => ?_ | refine .seq (.rd fun A hA K hK => ?_) | refine .seq (.seq (.rd fun A hA K hK => ?_)) | refine .rd fun A hA K hK => ?_
  simp (maxSteps := 1000000) only [go_sem, hA.nil, hA.go, hA.yes, hA.noT, hA.noF, hA.skp]
  refine hK _ _ ?_; clear hK K hA A
  have h1 : KM o (σ.push (.cells 13 [instrL i])) b bL bR vl vr vw ps rs w tg := h.frame (by simp (maxSteps := 1000000) only [go_sem]; omega) fun c hc => by
    have := hlt c hc; rw [blk_push, if_neg (by omega)]
  generalize hS : σ.push (.cells 13 [instrL i]) = s1 at *
  have hbx : s1.blk σ.next = some (.cells 13 [instrL i]) := by subst hS; simp (maxSteps := 1000000) only [go_sem]
  have hns : s1.next = σ.next + 1 := by subst hS; simp (maxSteps := 1000000) only [go_sem]
  clear hS
  have hb := h1.hb
  have hR := h1.hR
  have hg := vs_get hdw
  have lts : ∀ {c x}, o c = some x → c < σ.next := fun hx => h.lt _ (by rw [hx]; simp)
  have ltb := lts h1.own0
  have ltL := lts h1.ownL
  have ltR := lts h1.ownR
  have n1 : ¬ b = σ.next := by omega
  have n2 : ¬ bR = σ.next := by omega
  first | refine .seq (.rg fun A hA K hK => ?_) | refine .seq (.seq (.rg fun A hA K hK => ?_)) | refine .rg fun A hA K hK => ?_ | refine .seq (.rd fun A hA K hK => ?_) | refine .seq (.seq (.rd fun A hA K hK => ?_)) | refine .rd fun A hA K hK => ?_
  simp (maxSteps := 1000000) only [go_sem, hA.nil, hA.go, hA.yes, hA.noT, hA.noF, hA.skp, hbx]
  refine hK _ _ ?_; clear hK K hA A
  refine .thenK (fun L t => L = [(0, .ptr b 0 0), (1, I d), (6, .ptr σ.next 0 0)] ∧ t = growS (s1.set σ.next (.cells 13 [instrL (withOut i (rs.getD d []).length)])) bR vr d 1 ((rs.getD d [] ++ [sh]).map shapeL)) ?_ ?_
  · refine .cond (t := true) (by simp (maxSteps := 1000000) only [go_sem, hkb]) (fun _ => ?_) (fun h => by cases h)
    refine .midK (fun L t => L = [(0, .ptr b 0 0), (1, I d), (3, ints sh), (6, .ptr σ.next 0 0)] ∧ t = s1.set σ.next (.cells 13 [instrL (withOut i (rs.getD d []).length)])) ?_ ?_
    · rcases h1.hs d hdr with ⟨q1, q2⟩ | ⟨c, q1, q2, q3⟩
      · rw [q1] at hg
        have e3 : rs.getD d [] = [] := by simpa using q2
        first | refine .seq (.rg fun A hA K hK => ?_) | refine .seq (.seq (.rg fun A hA K hK => ?_)) | refine .rg fun A hA K hK => ?_ | refine .seq (.rd fun A hA K hK => ?_) | refine .seq (.seq (.rd fun A hA K hK => ?_)) | refine .rd fun A hA K hK => ?_
        simp (maxSteps := 1000000) only [go_sem, hA.nil, hA.go, hA.yes, hA.noT, hA.noF, hA.skp, hb, hR, hg, hbx, e0r, hdw, instrL]
        refine hK _ _ ?_; clear hK K hA A
        exact ⟨_, ⟨rfl, by rw [e3]; rfl⟩, by simp (maxSteps := 1000000) only [go_sem]⟩
      · rw [q1] at hg
        first | refine .seq (.rg fun A hA K hK => ?_) | refine .seq (.seq (.rg fun A hA K hK => ?_)) | refine .rg fun A hA K hK => ?_ | refine .seq (.rd fun A hA K hK => ?_) | refine .seq (.seq (.rd fun A hA K hK => ?_)) | refine .rd fun A hA K hK => ?_
        simp (maxSteps := 1000000) only [go_sem, hA.nil, hA.go, hA.yes, hA.noT, hA.noF, hA.skp, hb, hR, hg, hbx, e0r, hdw, instrL]
        refine hK _ _ ?_; clear hK K hA A
        exact ⟨_, ⟨rfl, rfl⟩, by simp (maxSteps := 1000000) only [go_sem]⟩
    rintro L t ⟨rfl, ht⟩
    have h2 : KM o t b bL bR vl vr vw ps rs w tg := h1.frame (by rw [ht]; exact Nat.le_refl _) fun c hc => by
      have := hlt c hc; rw [ht, blk_set, if_neg (by omega)]
    have htn : t.next = σ.next + 1 := by rw [ht]; exact hns
    rw [← ht]
    clear ht
    have hb := h2.hb
    have hR := h2.hR
    have nsb : ¬ b = t.next := by omega
    have nsR : ¬ bR = t.next := by omega
    rcases h2.hs d hdr with ⟨q1, q2⟩ | ⟨c, q1, q2, q3⟩
    · rw [q1] at hg
      have e3 : rs.getD d [] = [] := by simpa using q2
      refine .rdx fun A hA K hK => ?_
      simp (maxSteps := 200000) only [go_sem, hA.nil, hA.pur, hA.go, hA.yes, hA.noT, hA.noF, hA.skp, pure_mv, eff_mv, pure_pk, eff_pk, pure_al, eff_al, pure_bx, eff_bx, pure_bd, eff_bd, pure_bs, eff_bs, pure_ld, eff_ld, pure_st, eff_st, pure_nc, eff_nc, pure_bin, eff_bin, pure_un, eff_un, pure_cv, eff_cv, pure_mi, eff_mi, pure_mf, eff_mf, pure_mm, eff_mm, pure_ms, eff_ms, pure_sc, eff_sc, pure_fa, eff_fa, pure_fl, eff_fl, pure_ia, eff_ia, pure_lk, eff_lk, pure_mu, eff_mu, pure_lm, eff_lm, pure_rg, eff_rg, pure_nx, eff_nx, pure_en, eff_en, pure_ta, eff_ta, pure_ex, eff_ex, pure_ln, eff_ln, pure_ap, eff_ap, pure_mx, eff_mx, pure_call, eff_call, pure_callv, eff_callv, chk_nil, chk_cons, again, List.contains_cons, List.contains_nil, hb, hR, hg, e0r, hdw, nsb, nsR]
      refine ⟨by decide, by decide, ?_⟩
      refine hK _ _ ?_; clear hK K hA A
      refine ⟨_, ⟨rfl, ?_⟩, by simp (maxSteps := 1000000) only [go_sem]⟩
      rw [growS, q1, e3]; rfl
    · rw [q1] at hg
      rw [List.length_map] at hg
      have ltc := lts q2
      have ncR := ne_lab q2 h1.ownR (by omega)
      have ncb := ne_lab q2 h1.own0 (by omega)
      have nbc : ¬ b = c := fun e => ncb e.symm
      have nRc : ¬ bR = c := fun e => ncR e.symm
      have m1 : (rs.getD d []).length + 1 ≤ most := by simp only [most]; omega
      have m2 : ((rs.getD d []).length + 1) * 24 ≤ most := by simp only [most]; omega
      have ht : List.take (rs.getD d []).length (List.map shapeL (rs.getD d [])) = List.map shapeL (rs.getD d []) := List.take_of_length_le (by simp)
      refine .rdx fun A hA K hK => ?_
      simp (maxSteps := 200000) only [go_sem, hA.nil, hA.pur, hA.go, hA.yes, hA.noT, hA.noF, hA.skp, pure_mv, eff_mv, pure_pk, eff_pk, pure_al, eff_al, pure_bx, eff_bx, pure_bd, eff_bd, pure_bs, eff_bs, pure_ld, eff_ld, pure_st, eff_st, pure_nc, eff_nc, pure_bin, eff_bin, pure_un, eff_un, pure_cv, eff_cv, pure_mi, eff_mi, pure_mf, eff_mf, pure_mm, eff_mm, pure_ms, eff_ms, pure_sc, eff_sc, pure_fa, eff_fa, pure_fl, eff_fl, pure_ia, eff_ia, pure_lk, eff_lk, pure_mu, eff_mu, pure_lm, eff_lm, pure_rg, eff_rg, pure_nx, eff_nx, pure_en, eff_en, pure_ta, eff_ta, pure_ex, eff_ex, pure_ln, eff_ln, pure_ap, eff_ap, pure_mx, eff_mx, pure_call, eff_call, pure_callv, eff_callv, chk_nil, chk_cons, again, List.contains_cons, List.contains_nil, hb, hR, hg, e0r, hdw, nsb, nsR, q3, m1, m2, ht, nRc, nbc]
      refine hK _ _ ?_; clear hK K hA A
      refine ⟨_, ⟨rfl, ?_⟩, by simp (maxSteps := 1000000) only [go_sem]⟩
      rw [growS, q1]; simp only [killV, List.map_append, List.length_append, List.length_map, List.map_cons, List.map_nil, List.length_cons, List.length_nil, shapeL, ints]
  rintro L t ⟨rfl, ht⟩
  rw [← ht]
  have h2 : KM o (s1.set σ.next (.cells 13 [instrL (withOut i (rs.getD d []).length)])) b bL bR vl vr vw ps rs w tg := h1.frame (Nat.le_refl _) fun c hc => by
    have := hlt c hc; rw [blk_set, if_neg (by omega)]
  obtain ⟨h3, hgr⟩ := h2.growR hdr h9 (rs.getD d [] ++ [sh])
  rw [← ht] at h3 hgr
  have hn3 : σ.next + 2 = t.next := by rw [ht, growS_next, next_set, hns]
  have hbx3 : t.blk σ.next = some (.cells 13 [instrL (withOut i (rs.getD d []).length)]) := by
    have ho : o σ.next = none := by
      cases hh : o σ.next with
      | none => rfl
      | some x => have := h.lt σ.next (by rw [hh]; simp); omega
    rw [hgr.2.2 σ.next (by rw [next_set, hns]; omega) (by rw [ho]; simp), blk_set, if_pos rfl]
  clear ht h2 hgr hbx hb hR hg
  generalize newLab o (s1.set σ.next (.cells 13 [instrL (withOut i (rs.getD d []).length)])).next (5 + 2 * d) = o3 at h3
  generalize withOut i (rs.getD d []).length = i' at *
  have hb := h3.hb
  have hL := h3.hL
  have hg := vs_get hdv
  have lt3 : ∀ {c x}, o3 c = some x → c < t.next := fun hx => h3.lt _ (by rw [hx]; simp)
  have nsb : ¬ b = t.next := by omega
  have nsL : ¬ bL = t.next := by omega
  have n5 : ¬ σ.next = t.next := by omega
  rcases h3.hd d hd with ⟨q1, q2⟩ | ⟨c, q1, q2, q3⟩
  · rw [q1] at hg
    have e3 : ps.getD d [] = [] := by simpa using q2
    refine .rdx fun A hA K hK => ?_
    simp (maxSteps := 200000) only [go_sem, hA.nil, hA.pur, hA.go, hA.yes, hA.noT, hA.noF, hA.skp, pure_mv, eff_mv, pure_pk, eff_pk, pure_al, eff_al, pure_bx, eff_bx, pure_bd, eff_bd, pure_bs, eff_bs, pure_ld, eff_ld, pure_st, eff_st, pure_nc, eff_nc, pure_bin, eff_bin, pure_un, eff_un, pure_cv, eff_cv, pure_mi, eff_mi, pure_mf, eff_mf, pure_mm, eff_mm, pure_ms, eff_ms, pure_sc, eff_sc, pure_fa, eff_fa, pure_fl, eff_fl, pure_ia, eff_ia, pure_lk, eff_lk, pure_mu, eff_mu, pure_lm, eff_lm, pure_rg, eff_rg, pure_nx, eff_nx, pure_en, eff_en, pure_ta, eff_ta, pure_ex, eff_ex, pure_ln, eff_ln, pure_ap, eff_ap, pure_mx, eff_mx, pure_call, eff_call, pure_callv, eff_callv, chk_nil, chk_cons, again, List.contains_cons, List.contains_nil, hb, hL, hg, hbx3, e0, hdv, nsb, nsL, n5]
    refine ⟨by decide, by decide, ?_⟩
    refine hK _ _ ?_; clear hK K hA A
    refine retS0n ⟨rfl, ?_⟩
    rw [growS, q1, e3]; rfl
  · rw [q1] at hg
    have ltc := lt3 q2
    have ncL := ne_lab q2 h3.ownL (by omega)
    have ncb := ne_lab q2 h3.own0 (by omega)
    have nbc : ¬ b = c := fun e => ncb e.symm
    have nLc : ¬ bL = c := fun e => ncL e.symm
    have m1 : (ps.getD d []).length + 1 ≤ most := by simp only [most]; omega
    have m2 : ((ps.getD d []).length + 1) * 176 ≤ most := by simp only [most]; omega
    have ht : List.take (ps.getD d []).length (List.map instrL (ps.getD d [])) = List.map instrL (ps.getD d []) := List.take_of_length_le (by simp)
    refine .rdx fun A hA K hK => ?_
    simp (maxSteps := 200000) only [go_sem, hA.nil, hA.pur, hA.go, hA.yes, hA.noT, hA.noF, hA.skp, pure_mv, eff_mv, pure_pk, eff_pk, pure_al, eff_al, pure_bx, eff_bx, pure_bd, eff_bd, pure_bs, eff_bs, pure_ld, eff_ld, pure_st, eff_st, pure_nc, eff_nc, pure_bin, eff_bin, pure_un, eff_un, pure_cv, eff_cv, pure_mi, eff_mi, pure_mf, eff_mf, pure_mm, eff_mm, pure_ms, eff_ms, pure_sc, eff_sc, pure_fa, eff_fa, pure_fl, eff_fl, pure_ia, eff_ia, pure_lk, eff_lk, pure_mu, eff_mu, pure_lm, eff_lm, pure_rg, eff_rg, pure_nx, eff_nx, pure_en, eff_en, pure_ta, eff_ta, pure_ex, eff_ex, pure_ln, eff_ln, pure_ap, eff_ap, pure_mx, eff_mx, pure_call, eff_call, pure_callv, eff_callv, chk_nil, chk_cons, again, List.contains_cons, List.contains_nil, hb, hL, hg, hbx3, e0, hdv, nsb, nsL, n5, q3, m1, m2, ht, nLc, nbc]
    refine hK _ _ ?_; clear hK K hA A
    refine retS0n ⟨rfl, ?_⟩
    rw [growS, q1]; simp only [killV, List.map_append, List.length_append, List.length_map, List.map_cons, List.map_nil, List.length_cons, List.length_nil]

end km
end Go.Proofs.Ytfjbabacpnnjmaa.Av

namespace Go.Proofs.Ytfjbabacpnnjmaa.Av
open Go Go.Av
set_option maxRecDepth 20000
set_option maxHeartbeats 4000000

attribute [local go_sem] step_apply stepD_apply stepE_apply
attribute [local go_sem] aopq_mv aopq_pk aopq_al aopq_bx aopq_bd aopq_bs aopq_ld aopq_st aopq_nc aopq_bin aopq_un aopq_cv aopq_mi aopq_mf aopq_mm aopq_ms aopq_sc aopq_fa aopq_fl aopq_ia aopq_lk aopq_mu aopq_lm aopq_rg aopq_en aopq_ta aopq_ex aopq_ln aopq_ap aopq_mx aopq.eq_3 aop.eq_1 aop.eq_2 aop.eq_3 aop.eq_4 aop.eq_5 aop.eq_6 aop.eq_7 aop.eq_8 aop.eq_9 aop_bin atS_apply aop_un_not aop_un_neg aop.eq_14 aop.eq_15 aop.eq_16 aop.eq_17 aop.eq_18 aop_sc cutS_apply cutN_apply cutL_apply cutO_apply aop.eq_20 aop.eq_21 aop.eq_22 aop.eq_23 aop.eq_24 aop.eq_25 aop.eq_26 aop.eq_27 aop.eq_28 aop.eq_29 aop.eq_30 aop.eq_31 aop.eq_32 blk_push next_push blk_set next_set blk_kill next_kill frL_nil frL_cons Fits_nil Fits_cons Int.reduceBEq Int.reduceBNe Nat.sub_zero Option.map_some Option.map_none List.set_cons_succ true_or or_true false_or or_false Int.le_refl Int.cast_ofNat_Int decide_true decide_false List.cons_append fillA fillR rowsOf List.replicate_succ List.replicate_zero Nat.zero_mul getD_drop List.length_drop splice List.nil_append List.append_nil cond_true cond_false List.set_cons_zero List.length_set ev put_some put_none upd_apply abin asNat bounds row1 mk List.length_cons List.length_nil List.length_map List.drop_zero List.drop_succ_cons List.drop_nil List.getD_cons_zero List.getD_cons_succ Option.getD_none Option.getD_some List.take_succ_cons List.take_zero List.take_nil true_and and_true Int.toNat_natCast if_true if_false Nat.zero_add Nat.add_zero List.map_cons List.map_nil Nat.reduceEqDiff Nat.left_eq_add Nat.add_eq_left Nat.add_left_cancel_iff Nat.add_assoc Nat.reduceSub Nat.reduceAdd Nat.reduceLeDiff Nat.le_refl Nat.zero_le Nat.zero_lt_one Nat.lt_add_one Int.reduceLT Int.reduceLE Int.reduceToNat Nat.reduceLT Nat.reduceBEq Bool.false_eq_true Nat.reduceBNe ne_eq not_false_eq_true not_true_eq_false false_and and_false reduceIte Int.natCast_nonneg reduceCtorEq parts_agg parts_bool parts_int parts_str parts_lit parts_nils parts_sl parts_ptr Int.natCast_nonneg Int.natCast_nonneg beq_self_eq_true bne_self_eq_false Bool.true_and Bool.false_and Bool.and_true Bool.and_false Bool.true_or Bool.false_or Bool.or_true Bool.or_false Bool.not_true Bool.not_false
attribute [local go_sem] instr0 instr1 instr2 instr10 instr11 instr12 instrN instrA instr_len node0 node1 node2 node3 node4 node5 node6 nodeA node_len I ints progA progsA

section km
variable {o : Nat → Option Nat} {σ : St} {b bL bR : Nat} {vl vr : List AV} {vw : AV} {ps : List (List Instr)} {rs : List (List (List Int))} {w : List Msg} {tg : Int}

/-- What waits, and the tag, told anew. -/
theorem KM.putW (h : KM o σ b bL bR vl vr vw ps rs w tg) {s : St} {c' : Nat} {w' : List Msg} {tg' : Int} (hc : σ.next ≤ c') (hcs : c' < s.next) (hb : s.blk b = some (.cells 4 [[.sl bL 0 ps.length, .sl bR 0 rs.length, .sl c' 0 w'.length, I tg']]))
    (hc' : s.blk c' = some (.cells 5 (w'.map msgL))) (hs : ∀ c, c < σ.next → o c ≠ some 3 → c ≠ b → s.blk c = σ.blk c) :
    KM (newLab o c' 3) s b bL bR vl vr (.sl c' 0 w'.length) ps rs w' tg' ∧ GrowF o σ (newLab o c' 3) s := by
  have hlt : ∀ c, o c ≠ none → c < c' := fun c hcc => by have := h.lt c hcc; omega
  have lt : ∀ {c x}, o c = some x → c < σ.next := fun hx => h.lt _ (by rw [hx]; simp)
  have frl : ∀ {c x}, o c = some x → x ≠ 3 → x ≠ 0 → s.blk c = σ.blk c := fun hx h2 h3 => hs _ (lt hx) (by rw [hx]; simpa using h2) (by rintro rfl; rw [h.own0] at hx; cases hx; exact h3 rfl)
  refine ⟨⟨newLab_old hlt h.own0, newLab_old hlt h.ownL, newLab_old hlt h.ownR, newLab_lt hlt hcs, hb, ?_, ?_, h.hvl, h.hvr, h.hlr, fun k hk => ?_, fun k hk => ?_, ?_⟩, ?_⟩
  · rw [frl h.ownL (by decide) (by decide)]; exact h.hL
  · rw [frl h.ownR (by decide) (by decide)]; exact h.hR
  · exact ((h.hd k hk).frame fun c hc => frl hc (by omega) (by omega)).newLab fun c hc => newLab_old hlt hc
  · exact ((h.hs k hk).frame fun c hc => frl hc (by omega) (by omega)).newLab fun c hc => newLab_old hlt hc
  · exact .inr ⟨c', by rw [List.length_map], by simp [newLab], hc'⟩
  · refine ⟨by omega, fun c hcc => by simp only [newLab]; rw [if_neg (by omega)], fun c hcc ho => hs c hcc (fun e => by have := ho _ e; omega) (by rintro rfl; have := ho _ h.own0; omega)⟩

theorem msg_get {w : List Msg} {k : Nat} (h : k < w.length) : (w.map msgL).getD k [] = msgL w[k] := by simp [h]

/-- The maker behind a put. -/
theorem KM.afterPut (h : KM o σ b bL bR vl vr vw ps rs w tg) (d : Nat) (hd : d < ps.length) (h9 : d < 900) (i : Instr) (sh : List Int) :
    ∃ o' vl' vr', KM o' (putS σ bL bR vl vr d i (ps.getD d []) (rs.getD d []) sh) b bL bR vl' vr' vw (ps.set d (ps.getD d [] ++ [withOut i (rs.getD d []).length])) (rs.set d (rs.getD d [] ++ [sh])) w tg ∧ GrowF o σ o' (putS σ bL bR vl vr d i (ps.getD d []) (rs.getD d []) sh) := by
  have hlt := h.lt
  have h2 : KM o ((σ.push (.cells 13 [instrL i])).set σ.next (.cells 13 [instrL (withOut i (rs.getD d []).length)])) b bL bR vl vr vw ps rs w tg := h.frame (by rw [next_set, next_push]; omega) fun c hc => by
    have := hlt c hc; rw [blk_set, if_neg (by omega), blk_push, if_neg (by omega)]
  obtain ⟨h3, g3⟩ := h2.growR (by rw [h.hlr]; exact hd) h9 (rs.getD d [] ++ [sh])
  obtain ⟨h4, g4⟩ := h3.growL hd h9 (ps.getD d [] ++ [withOut i (rs.getD d []).length])
  refine ⟨_, _, _, h4, GrowF.trans (o' := o) ⟨?_, fun _ _ => rfl, fun c hc _ => ?_⟩ (g3.trans g4)⟩
  · rw [next_set, next_push]; omega
  · rw [blk_set, if_neg (by omega), blk_push, if_neg (by omega)]
theorem KM.afterSend (h : KM o σ b bL bR vl vr vw ps rs w tg) (d : Nat) (hd : d < ps.length) (h9 : d < 900) (i : Instr) :
    ∃ o' vl', KM o' (growS (σ.push (.cells 13 [instrL i])) bL vl d 13 ((ps.getD d [] ++ [i]).map instrL)) b bL bR vl' vr vw (ps.set d (ps.getD d [] ++ [i])) rs w tg ∧ GrowF o σ o' (growS (σ.push (.cells 13 [instrL i])) bL vl d 13 ((ps.getD d [] ++ [i]).map instrL)) := by
  have hlt := h.lt
  have h2 : KM o (σ.push (.cells 13 [instrL i])) b bL bR vl vr vw ps rs w tg := h.frame (by rw [next_push]; omega) fun c hc => by
    have := hlt c hc; rw [blk_push, if_neg (by omega)]
  obtain ⟨h4, g4⟩ := h2.growL hd h9 (ps.getD d [] ++ [i])
  refine ⟨_, _, h4, GrowF.trans (o' := o) ⟨?_, fun _ _ => rfl, fun c hc _ => ?_⟩ g4⟩
  · rw [next_push]; omega
  · rw [blk_push, if_neg (by omega)]

def recvI (m : Msg) : Instr := ⟨4, 0, [], emptyN, 0, m.from_, m.tag⟩

/-- maker.recv -/
theorem recv_spec (h : KM o σ b bL bR vl vr vw ps rs w tg) (k d : Nat) (hk : k < w.length) (hto : w[k].to = d) (hd : d < ps.length) (h9 : d < 900) (hlen : (ps.getD d []).length ≤ 2 ^ 20) (hlen2 : (rs.getD d []).length ≤ 2 ^ 20) (hw : w.length ≤ 2 ^ 20) :
    TQ Try.prog 56 [.ptr b 0 0, I k] σ fun v t => v = .tup [] ∧ ∃ o' vl' vr' vw', KM o' t b bL bR vl' vr' vw' (ps.set d (ps.getD d [] ++ [withOut (recvI w[k]) (rs.getD d []).length])) (rs.set d (rs.getD d [] ++ [w[k].shape])) (w.eraseIdx k) tg ∧ GrowF o σ o' t := by
  refine in56 (by simp) fun wf hab => ?_
  clear hab
  have hlt := h.lt
  have hb := h.hb
  have e0 : (k : Int) < w.length := by omega
  have hg := msg_get hk
  have ltb : b < σ.next := hlt _ (by rw [h.own0]; simp)
  rcases h.hw with ⟨rfl, q2⟩ | ⟨c, rfl, q2, q3⟩
  · have : w = [] := by simpa using q2
    subst this; simp at hk
  rw [List.length_map] at hb
  have ltc : c < σ.next := hlt _ (by rw [q2]; simp)
  have ncb := ne_lab q2 h.own0 (by decide)
  have nbc : ¬ b = c := fun e => ncb e.symm
  unfold c56
  first | refine .seq (.rg fun A hA K hK => ?_) | refine .seq (.seq (.rg fun A hA K hK => ?_)) | refine .rg fun A hA K hK => ?_ | refine .seq (.rd fun A hA K hK => ?_) | refine .seq (.seq (.rd fun A hA K hK => ?_)) | refine .rd fun A hA K hK => ?_
  simp (maxSteps := 1000000) only [go_sem, hA.nil, hA.go, hA.yes, hA.noT, hA.noF, hA.skp, hb, q3, e0, hk, hg, List.length_map, msgL]
  refine hK _ _ ?_; clear hK K hA A
  have n1 : ¬ b = σ.next := by omega
  have n2 : ¬ c = σ.next := by omega
  have n3 : ¬ b = σ.next + 1 := by omega
  have n4 : ¬ b = σ.next + 2 := by omega
  have n5 : ¬ c = σ.next + 1 := by omega
  have n6 : ¬ c = σ.next + 2 := by omega
  refine .midK (fun L t => L = [(0, .ptr b 0 0), (4, .ptr σ.next 0 0)] ∧ t.blk σ.next = some (.cells 5 [msgL w[k]]) ∧ ∃ o' vw', KM o' t b bL bR vl vr vw' ps rs (w.eraseIdx k) tg ∧ GrowF o σ o' t) ?_ ?_
  · refine .rdx fun A hA K hK => ?_
    have m0 : (k : Int) ≤ w.length := by omega
    have m1 : k ≤ most := by simp only [most]; omega
    have w1 : IntKind.i64.wrap ((k : Int) + 1) = ((k + 1 : Nat) : Int) := IntWalk.i64_in _ (by omega)
    have m2 : ((k + 1 : Nat) : Int) ≤ w.length := by omega
    have m3 : k ≤ w.length := by omega
    have m4 : k + (1 + (w.length - (k + 1))) ≤ w.length := by omega
    have m5 : k * 72 ≤ most := by simp only [most]; omega
    have m6 : min k w.length = k := by omega
    simp (maxSteps := 200000) only [go_sem, hA.nil, hA.pur, hA.go, hA.yes, hA.noT, hA.noF, hA.skp, pure_mv, eff_mv, pure_pk, eff_pk, pure_al, eff_al, pure_bx, eff_bx, pure_bd, eff_bd, pure_bs, eff_bs, pure_ld, eff_ld, pure_st, eff_st, pure_nc, eff_nc, pure_bin, eff_bin, pure_un, eff_un, pure_cv, eff_cv, pure_mi, eff_mi, pure_mf, eff_mf, pure_mm, eff_mm, pure_ms, eff_ms, pure_sc, eff_sc, pure_fa, eff_fa, pure_fl, eff_fl, pure_ia, eff_ia, pure_lk, eff_lk, pure_mu, eff_mu, pure_lm, eff_lm, pure_rg, eff_rg, pure_nx, eff_nx, pure_en, eff_en, pure_ta, eff_ta, pure_ex, eff_ex, pure_ln, eff_ln, pure_ap, eff_ap, pure_mx, eff_mx, pure_call, eff_call, pure_callv, eff_callv, chk_nil, chk_cons, again, List.contains_cons, List.contains_nil, hb, q3, n1, n2, n3, n4, n5, n6, ncb, nbc, w1, m0, m1, m2, m3, m4, m5, m6, List.length_map, List.length_take, Int.natCast_nonneg]
    refine ⟨by simp only [most, List.length_take, List.length_drop, List.length_map]; omega, by simp only [most, List.length_take, List.length_drop, List.length_map]; omega, ?_⟩
    refine hK _ _ ?_; clear hK K hA A
    have hel : (w.eraseIdx k).length = w.length - 1 := by rw [List.length_eraseIdx, if_pos hk]
    have hle : k + min (w.length - (k + 1)) (w.length - (k + 1)) = (w.eraseIdx k).length := by omega
    have hrows : List.take k (List.take k (List.map msgL w)) ++ List.take (w.length - (k + 1)) (List.drop (k + 1) (List.map msgL w)) = (w.eraseIdx k).map msgL := by
      rw [List.eraseIdx_eq_take_drop_succ, List.map_append, List.map_take, List.map_drop, List.take_take, Nat.min_self]
      congr 1
      exact List.take_of_length_le (by simp)
    rw [hle, hrows]
    have h2 := h.putW (s := ((((((σ.push (.cells 5 [[I 0, I 0, I 0, .lit 1 [], .lit 1 []]])).set σ.next (.cells 5 [[I w[k].from_, I w[k].to, I w[k].tag, ints w[k].shape, .lit 1 []]])).push (.cells 5 (List.take k (List.map msgL w)))).kill (σ.next + 1)).push (.cells 5 ((w.eraseIdx k).map msgL))).set b
      (.cells 4 [[.sl bL 0 ps.length, .sl bR 0 rs.length, .sl (σ.next + 2) 0 (w.eraseIdx k).length, I tg]]))) (c' := σ.next + 2) (w' := w.eraseIdx k) (tg' := tg) (by omega) (by simp (maxSteps := 1000000) only [go_sem]; try omega) (by simp (maxSteps := 1000000) only [go_sem]) (by simp (maxSteps := 1000000) only [go_sem, show ¬ σ.next + 2 = b by omega]) (fun c2 h1 h2 h3 => by
        have q : ¬ c2 = c := by rintro rfl; exact h2 (by assumption)
        simp (disch := omega) only [go_sem, if_neg])
    refine ⟨_, ⟨rfl, ?_, _, _, h2⟩, by simp (maxSteps := 1000000) only [go_sem]⟩
    · simp (maxSteps := 1000000) only [go_sem, show ¬ σ.next = b by omega, msgL]
  rintro L t ⟨rfl, hbx, o', vw', hm, hgr⟩
  have hbx2 : t.blk σ.next = some (.cells 5 [[I w[k].from_, I d, I w[k].tag, ints w[k].shape, .lit 1 []]]) := by rw [hbx, msgL, hto]
  obtain ⟨o2, vl2, vr2, hm2, hg2⟩ := hm.afterPut d hd h9 (recvI w[k]) w[k].shape
  first | refine .seq (.rg fun A hA K hK => ?_) | refine .seq (.seq (.rg fun A hA K hK => ?_)) | refine .rg fun A hA K hK => ?_ | refine .seq (.rd fun A hA K hK => ?_) | refine .seq (.seq (.rd fun A hA K hK => ?_)) | refine .rd fun A hA K hK => ?_
  simp (maxSteps := 1000000) only [go_sem, hA.nil, hA.go, hA.yes, hA.noT, hA.noF, hA.skp, hbx2]
  refine aopq_callT (put_other hm d hd h9 hlen hlen2 (recvI w[k]) (by simp [recvI]) w[k].shape) (by simp (maxSteps := 1000000) only [go_sem, recvI, instrL, emptyN]) ?_
  try simp (maxSteps := 1000000) only [go_sem, hA.nil, hA.go, hA.yes, hA.noT, hA.noF, hA.skp]
  refine hK _ _ ?_; clear hK K hA A
  exact retS0n ⟨rfl, _, _, _, _, hm2, hgr.trans hg2⟩
end km
end Go.Proofs.Ytfjbabacpnnjmaa.Av

namespace Go.Proofs.Ytfjbabacpnnjmaa.Av
open Go Go.Av
set_option maxRecDepth 20000
set_option maxHeartbeats 4000000

attribute [local go_sem] step_apply stepD_apply stepE_apply
attribute [local go_sem] aopq_mv aopq_pk aopq_al aopq_bx aopq_bd aopq_bs aopq_ld aopq_st aopq_nc aopq_bin aopq_un aopq_cv aopq_mi aopq_mf aopq_mm aopq_ms aopq_sc aopq_fa aopq_fl aopq_ia aopq_lk aopq_mu aopq_lm aopq_rg aopq_en aopq_ta aopq_ex aopq_ln aopq_ap aopq_mx aopq.eq_3 aop.eq_1 aop.eq_2 aop.eq_3 aop.eq_4 aop.eq_5 aop.eq_6 aop.eq_7 aop.eq_8 aop.eq_9 aop_bin atS_apply aop_un_not aop_un_neg aop.eq_14 aop.eq_15 aop.eq_16 aop.eq_17 aop.eq_18 aop_sc cutS_apply cutN_apply cutL_apply cutO_apply aop.eq_20 aop.eq_21 aop.eq_22 aop.eq_23 aop.eq_24 aop.eq_25 aop.eq_26 aop.eq_27 aop.eq_28 aop.eq_29 aop.eq_30 aop.eq_31 aop.eq_32 blk_push next_push blk_set next_set blk_kill next_kill frL_nil frL_cons Fits_nil Fits_cons Int.reduceBEq Int.reduceBNe Nat.sub_zero Option.map_some Option.map_none List.set_cons_succ true_or or_true false_or or_false Int.le_refl Int.cast_ofNat_Int decide_true decide_false List.cons_append fillA fillR rowsOf List.replicate_succ List.replicate_zero Nat.zero_mul getD_drop List.length_drop splice List.nil_append List.append_nil cond_true cond_false List.set_cons_zero List.length_set ev put_some put_none upd_apply abin asNat bounds row1 mk List.length_cons List.length_nil List.length_map List.drop_zero List.drop_succ_cons List.drop_nil List.getD_cons_zero List.getD_cons_succ Option.getD_none Option.getD_some List.take_succ_cons List.take_zero List.take_nil true_and and_true Int.toNat_natCast if_true if_false Nat.zero_add Nat.add_zero List.map_cons List.map_nil Nat.reduceEqDiff Nat.left_eq_add Nat.add_eq_left Nat.add_left_cancel_iff Nat.add_assoc Nat.reduceSub Nat.reduceAdd Nat.reduceLeDiff Nat.le_refl Nat.zero_le Nat.zero_lt_one Nat.lt_add_one Int.reduceLT Int.reduceLE Int.reduceToNat Nat.reduceLT Nat.reduceBEq Bool.false_eq_true Nat.reduceBNe ne_eq not_false_eq_true not_true_eq_false false_and and_false reduceIte Int.natCast_nonneg reduceCtorEq parts_agg parts_bool parts_int parts_str parts_lit parts_nils parts_sl parts_ptr Int.natCast_nonneg Int.natCast_nonneg beq_self_eq_true bne_self_eq_false Bool.true_and Bool.false_and Bool.and_true Bool.and_false Bool.true_or Bool.false_or Bool.or_true Bool.or_false Bool.not_true Bool.not_false
attribute [local go_sem] instr0 instr1 instr2 instr10 instr11 instr12 instrN instrA instr_len node0 node1 node2 node3 node4 node5 node6 nodeA node_len I ints progA progsA

def sameE (shapes : List (List Int)) (s : List Int) (n : Nat) : List Int := ((List.range n).filter fun i => shapes.getD i [] == s).map fun (i : Nat) => (i : Int)
theorem sameE_succ (shapes : List (List Int)) (s : List Int) (n : Nat) : sameE shapes s (n + 1) = if (shapes.getD n [] == s) = true then sameE shapes s n ++ [(n : Int)] else sameE shapes s n := by
  simp only [sameE, List.range_succ, List.filter_append, List.map_append]
  split
  · rename_i h; rw [List.filter_cons, if_pos h]; rfl
  · rename_i h; rw [List.filter_cons, if_neg h]; simp
theorem sameE_len (shapes : List (List Int)) (s : List Int) (n : Nat) : (sameE shapes s n).length ≤ n := by
  have := List.length_filter_le (fun i => shapes.getD i [] == s) (List.range n)
  simpa [sameE] using this
theorem sameE_mem {shapes : List (List Int)} {s : List Int} {n : Nat} {x : Int} (h : x ∈ sameE shapes s n) : ∃ i : Nat, x = i ∧ i < n ∧ shapes.getD i [] = s := by
  simp only [sameE, List.mem_map, List.mem_filter, List.mem_range] at h
  obtain ⟨i, ⟨h1, h2⟩, rfl⟩ := h
  exact ⟨i, rfl, h1, by simpa using h2⟩
theorem sameE_has {shapes : List (List Int)} {s : List Int} {n i : Nat} (hi : i < n) (h : shapes.getD i [] = s) : (i : Int) ∈ sameE shapes s n := by
  simp only [sameE, List.mem_map, List.mem_filter, List.mem_range]
  exact ⟨i, ⟨hi, by simpa using h⟩, rfl⟩

theorem shape_get {l : List (List Int)} {i : Nat} (h : i < l.length) : (l.map shapeL).getD i [] = [ints (l.getD i [])] := by simp [List.getD_eq_getElem?_getD, h, shapeL]

/-- keep.same -/
theorem keepSame_spec {σ : St} {c : Nat} (shapes : List (List Int)) (s : List Int) (hb : σ.blk c = some (.cells 1 (shapes.map shapeL))) (hn : shapes.length ≤ 2 ^ 20) :
    T Try.prog 97 [.sl c 0 shapes.length, ints s] σ (ints (sameE shapes s shapes.length)) σ := by
  refine in97 (by simp) fun wf hab => ?_
  clear hab
  have hlt : c < σ.next := by
    rcases Nat.lt_or_ge c σ.next with h | h
    · exact h
    · rw [wf.1 c h] at hb; cases hb
  unfold c97
  first | refine .seq (.rg fun A hA K hK => ?_) | refine .seq (.seq (.rg fun A hA K hK => ?_)) | refine .rg fun A hA K hK => ?_ | refine .seq (.rd fun A hA K hK => ?_) | refine .seq (.seq (.rd fun A hA K hK => ?_)) | refine .rd fun A hA K hK => ?_
  simp (maxSteps := 1000000) only [go_sem, hA.nil, hA.go, hA.yes, hA.noT, hA.noF, hA.skp]
  refine hK _ _ ?_; clear hK K hA A
  first | refine .seq (.rg fun A hA K hK => ?_) | refine .seq (.seq (.rg fun A hA K hK => ?_)) | refine .rg fun A hA K hK => ?_ | refine .seq (.rd fun A hA K hK => ?_) | refine .seq (.seq (.rd fun A hA K hK => ?_)) | refine .rd fun A hA K hK => ?_
  simp (maxSteps := 1000000) only [go_sem, hA.nil, hA.go, hA.yes, hA.noT, hA.noF, hA.skp]
  refine hK _ _ ?_; clear hK K hA A
  first | refine .seq (.rg fun A hA K hK => ?_) | refine .seq (.seq (.rg fun A hA K hK => ?_)) | refine .rg fun A hA K hK => ?_ | refine .seq (.rd fun A hA K hK => ?_) | refine .seq (.seq (.rd fun A hA K hK => ?_)) | refine .rd fun A hA K hK => ?_
  simp (maxSteps := 1000000) only [go_sem, hA.nil, hA.go, hA.yes, hA.noT, hA.noF, hA.skp]
  refine hK _ _ ?_; clear hK K hA A
  refine .rangeK (N := shapes.length) (fun i L t => L = [(0, .sl c 0 shapes.length), (1, ints s), (5, (L.getD 2 (0, .undef)).2), (8, I shapes.length), (9, I i)] ∧ ((L.getD 2 (0, .undef)).2 = .nils ∧ sameE shapes s i = [] ∨ ∃ c', (L.getD 2 (0, .undef)).2 = .sl c' 0 (sameE shapes s i).length ∧ σ.next ≤ c' ∧ c' < t.next ∧ t.blk c' = some (.cells 1 ((sameE shapes s i).map fun n => [I n]))) ∧ σ.next ≤ t.next ∧ ∀ b, b < σ.next → t.blk b = σ.blk b)
    (by simp only [most]; omega) ⟨[(0, .sl c 0 shapes.length), (1, ints s), (5, .nils), (8, I shapes.length), (9, I 0)], ⟨rfl, .inl ⟨rfl, rfl⟩, Nat.le_refl _, fun _ _ => rfl⟩, by simp (maxSteps := 1000000) only [go_sem]⟩ ?_ ?_ ?_
  · rintro i L t ⟨hL, _⟩
    rw [hL]
    exact ⟨by simp (maxSteps := 1000000) only [go_sem], by simp (maxSteps := 1000000) only [go_sem], rfl⟩
  · rintro i L t hi ⟨hL, hv, hnx, hx⟩
    generalize (L.getD 2 (0, .undef)).2 = v at *
    subst hL
    have e0 : (i : Int) < shapes.length := by omega
    have hbt : t.blk c = some (.cells 1 (shapes.map shapeL)) := by rw [hx c hlt]; exact hb
    have hg := shape_get hi
    have hs := sameE_succ shapes s i
    have hlen := sameE_len shapes s i
    first | refine .seq (.rg fun A hA K hK => ?_) | refine .seq (.seq (.rg fun A hA K hK => ?_)) | refine .rg fun A hA K hK => ?_ | refine .seq (.rd fun A hA K hK => ?_) | refine .seq (.seq (.rd fun A hA K hK => ?_)) | refine .rd fun A hA K hK => ?_
    simp (maxSteps := 1000000) only [go_sem, hA.nil, hA.go, hA.yes, hA.noT, hA.noF, hA.skp]
    refine hK _ _ ?_; clear hK K hA A
    first | refine .seq (.rg fun A hA K hK => ?_) | refine .seq (.seq (.rg fun A hA K hK => ?_)) | refine .rg fun A hA K hK => ?_ | refine .seq (.rd fun A hA K hK => ?_) | refine .seq (.seq (.rd fun A hA K hK => ?_)) | refine .rd fun A hA K hK => ?_
    simp (maxSteps := 1000000) only [go_sem, hA.nil, hA.go, hA.yes, hA.noT, hA.noF, hA.skp, hbt, e0, hi, hg]
    first | refine aopq_call (ints_spec (shapes.getD i []) s t) (by simp (maxSteps := 1000000) only [go_sem]) ?_ | refine aop_call (ints_spec (shapes.getD i []) s t) (by simp (maxSteps := 1000000) only [go_sem]) ?_
    try simp (maxSteps := 1000000) only [go_sem, hA.nil, hA.go, hA.yes, hA.noT, hA.noF, hA.skp]
    refine hK _ _ ?_; clear hK K hA A
    refine .cond (t := shapes.getD i [] == s) (by simp (maxSteps := 1000000) only [go_sem]) (fun ht => ?_) (fun ht => .skip ?_)
    · rw [if_pos ht] at hs
      rcases hv with ⟨rfl, h0⟩ | ⟨c', rfl, h1, h2, h3⟩
      · rw [h0] at hs
        first | refine .seq (.rg fun A hA K hK => ?_) | refine .seq (.seq (.rg fun A hA K hK => ?_)) | refine .rg fun A hA K hK => ?_ | refine .seq (.rd fun A hA K hK => ?_) | refine .seq (.seq (.rd fun A hA K hK => ?_)) | refine .rd fun A hA K hK => ?_
        simp (maxSteps := 1000000) only [go_sem, hA.nil, hA.go, hA.yes, hA.noT, hA.noF, hA.skp]
        refine ⟨by decide, by decide, ?_⟩
        refine hK _ _ ?_; clear hK K hA A
        refine ⟨by simp (maxSteps := 1000000) only [go_sem], [(0, .sl c 0 shapes.length), (1, ints s), (5, .sl t.next 0 1), (8, I shapes.length), (9, I (i + 1 : Nat))], ⟨rfl, .inr ⟨t.next, by rw [hs]; rfl, hnx, by simp (maxSteps := 1000000) only [go_sem]; try omega, by rw [hs]; simp (maxSteps := 1000000) only [go_sem]⟩, by simp (maxSteps := 1000000) only [go_sem]; try omega, fun b hb => ?_⟩, by simp (maxSteps := 1000000) only [go_sem]⟩
        simp (disch := omega) only [go_sem, if_neg, hx b hb]
      · have m1 : (sameE shapes s i).length + 1 ≤ most := by simp only [most]; omega
        have m2 : ((sameE shapes s i).length + 1) * 8 ≤ most := by simp only [most]; omega
        have htk : List.take (sameE shapes s i).length (List.map (fun n => [I n]) (sameE shapes s i)) = List.map (fun n => [I n]) (sameE shapes s i) := List.take_of_length_le (by simp)
        first | refine .seq (.rg fun A hA K hK => ?_) | refine .seq (.seq (.rg fun A hA K hK => ?_)) | refine .rg fun A hA K hK => ?_ | refine .seq (.rd fun A hA K hK => ?_) | refine .seq (.seq (.rd fun A hA K hK => ?_)) | refine .rd fun A hA K hK => ?_
        simp (maxSteps := 1000000) only [go_sem, hA.nil, hA.go, hA.yes, hA.noT, hA.noF, hA.skp, h3, m1, m2, htk]
        refine hK _ _ ?_; clear hK K hA A
        refine ⟨by simp (maxSteps := 1000000) only [go_sem], [(0, .sl c 0 shapes.length), (1, ints s), (5, .sl t.next 0 ((sameE shapes s i).length + 1)), (8, I shapes.length), (9, I (i + 1 : Nat))], ⟨rfl, .inr ⟨t.next, by rw [hs, List.length_append]; rfl, hnx, by simp (maxSteps := 1000000) only [go_sem]; try omega, by rw [hs]; simp (maxSteps := 1000000) only [go_sem, List.map_append]⟩, by simp (maxSteps := 1000000) only [go_sem]; try omega, fun b hb => ?_⟩, by simp (maxSteps := 1000000) only [go_sem]⟩
        simp (disch := omega) only [go_sem, if_neg, hx b hb]
    · rw [if_neg (by rw [ht]; simp)] at hs
      refine ⟨by simp (maxSteps := 1000000) only [go_sem], [(0, .sl c 0 shapes.length), (1, ints s), (5, v), (8, I shapes.length), (9, I (i + 1 : Nat))], ⟨rfl, by rw [hs]; exact hv, hnx, hx⟩, by simp (maxSteps := 1000000) only [go_sem]⟩
  · rintro L t F ⟨hL, hv, hnx, hx⟩ hf
    generalize (L.getD 2 (0, .undef)).2 = v at *
    subst hL
    simp (maxSteps := 1000000) only [go_sem] at hf
    first | refine .seq (.rg fun A hA K hK => ?_) | refine .seq (.seq (.rg fun A hA K hK => ?_)) | refine .rg fun A hA K hK => ?_ | refine .seq (.rd fun A hA K hK => ?_) | refine .seq (.seq (.rd fun A hA K hK => ?_)) | refine .rd fun A hA K hK => ?_
    simp (maxSteps := 1000000) only [go_sem, hA.nil, hA.go, hA.yes, hA.noT, hA.noF, hA.skp, hf]
    refine hK _ _ ?_; clear hK K hA A
    rcases hv with ⟨rfl, h0⟩ | ⟨c', rfl, h1, h2, h3⟩
    · refine .ent (.lit0 (i := 4) 1 (by simp (maxSteps := 1000000) only [go_sem])) (.ret (retB (v := ints []) (by simp (maxSteps := 1000000) only [go_sem, ints]; try rfl) wf (fun b hb => hx b hb) (ints_lt _) ⟨by rw [h0], rfl⟩))
    · refine .frz 4 (b := c') (n := (sameE shapes s shapes.length).length) (by simp (maxSteps := 1000000) only [go_sem]) h3 (by simp) (.ret (retB (by simp (maxSteps := 1000000) only [go_sem]; try rfl) wf (fun b hb => ?_) (ints_lt _) ⟨rfl, rfl⟩))
      simp (disch := omega) only [go_sem, if_neg, hx b hb]

end Go.Proofs.Ytfjbabacpnnjmaa.Av

namespace Go.Proofs.Ytfjbabacpnnjmaa.Av
open Go Go.Av
set_option maxRecDepth 20000
set_option maxHeartbeats 4000000

attribute [local go_sem] step_apply stepD_apply stepE_apply
attribute [local go_sem] aopq_mv aopq_pk aopq_al aopq_bx aopq_bd aopq_bs aopq_ld aopq_st aopq_nc aopq_bin aopq_un aopq_cv aopq_mi aopq_mf aopq_mm aopq_ms aopq_sc aopq_fa aopq_fl aopq_ia aopq_lk aopq_mu aopq_lm aopq_rg aopq_en aopq_ta aopq_ex aopq_ln aopq_ap aopq_mx aopq.eq_3 aop.eq_1 aop.eq_2 aop.eq_3 aop.eq_4 aop.eq_5 aop.eq_6 aop.eq_7 aop.eq_8 aop.eq_9 aop_bin atS_apply aop_un_not aop_un_neg aop.eq_14 aop.eq_15 aop.eq_16 aop.eq_17 aop.eq_18 aop_sc cutS_apply cutN_apply cutL_apply cutO_apply aop.eq_20 aop.eq_21 aop.eq_22 aop.eq_23 aop.eq_24 aop.eq_25 aop.eq_26 aop.eq_27 aop.eq_28 aop.eq_29 aop.eq_30 aop.eq_31 aop.eq_32 blk_push next_push blk_set next_set blk_kill next_kill frL_nil frL_cons Fits_nil Fits_cons Int.reduceBEq Int.reduceBNe Nat.sub_zero Option.map_some Option.map_none List.set_cons_succ true_or or_true false_or or_false Int.le_refl Int.cast_ofNat_Int decide_true decide_false List.cons_append fillA fillR rowsOf List.replicate_succ List.replicate_zero Nat.zero_mul getD_drop List.length_drop splice List.nil_append List.append_nil cond_true cond_false List.set_cons_zero List.length_set ev put_some put_none upd_apply abin asNat bounds row1 mk List.length_cons List.length_nil List.length_map List.drop_zero List.drop_succ_cons List.drop_nil List.getD_cons_zero List.getD_cons_succ Option.getD_none Option.getD_some List.take_succ_cons List.take_zero List.take_nil true_and and_true Int.toNat_natCast if_true if_false Nat.zero_add Nat.add_zero List.map_cons List.map_nil Nat.reduceEqDiff Nat.left_eq_add Nat.add_eq_left Nat.add_left_cancel_iff Nat.add_assoc Nat.reduceSub Nat.reduceAdd Nat.reduceLeDiff Nat.le_refl Nat.zero_le Nat.zero_lt_one Nat.lt_add_one Int.reduceLT Int.reduceLE Int.reduceToNat Nat.reduceLT Nat.reduceBEq Bool.false_eq_true Nat.reduceBNe ne_eq not_false_eq_true not_true_eq_false false_and and_false reduceIte Int.natCast_nonneg reduceCtorEq parts_agg parts_bool parts_int parts_str parts_lit parts_nils parts_sl parts_ptr Int.natCast_nonneg Int.natCast_nonneg beq_self_eq_true bne_self_eq_false Bool.true_and Bool.false_and Bool.and_true Bool.and_false Bool.true_or Bool.false_or Bool.or_true Bool.or_false Bool.not_true Bool.not_false
attribute [local go_sem] instr0 instr1 instr2 instr10 instr11 instr12 instrN instrA instr_len node0 node1 node2 node3 node4 node5 node6 nodeA node_len I ints progA progsA

/-- A maker, plain: programs, shapes of registers, what waits, the next tag. -/
structure MS where
  ps : List (List Instr)
  rs : List (List (List Int))
  w : List Msg
  tg : Int

def MS.putO (m : MS) (d : Nat) (i : Instr) (sh : List Int) : MS := { m with ps := m.ps.set d (m.ps.getD d [] ++ [withOut i (m.rs.getD d []).length]), rs := m.rs.set d (m.rs.getD d [] ++ [sh]) }
def workI (ins : List Int) (op : Int) : Instr := ⟨2, 0, ins, ⟨op, [], [], [], 0, 0, ⟨#[]⟩⟩, 0, 0, 0⟩

/-- What a step may bring about. -/
inductive MStep (d : Nat) (m : MS) : MS → Prop
  | same : MStep d m m
  | take (n : Int) (sh : List Int) (hn : 0 ≤ n) (hl : n ≤ 2 ^ 47) (hs : sh.length ≤ 1) : MStep d m (m.putO d (takeI 0 n) sh)
  | work (ins : List Int) (op : Int) (sh : List Int) (hl : ins.length ≤ 2) (hi : ∀ r ∈ ins, ∃ j : Nat, r = j ∧ j < (m.rs.getD d []).length) (hs : sh ∈ m.rs.getD d []) : MStep d m (m.putO d (workI ins op) sh)
  | send (a e : Nat) (sh : List Int) (ha : a < (m.rs.getD d []).length) (hsh : (m.rs.getD d []).getD a [] = sh) (he : e < m.ps.length) (t : Int) (h1 : m.tg < t) (h3 : t ≤ m.tg + 3) :
      MStep d m { m with ps := m.ps.set d (m.ps.getD d [] ++ [sendI a e m.tg]), w := m.w ++ [⟨d, e, m.tg, sh⟩], tg := t }
  | recv (k e : Nat) (hk : k < m.w.length) (he : m.w[k].to = e) (hl : e < m.ps.length) : MStep d m { (m.putO e (recvI m.w[k]) m.w[k].shape) with w := m.w.eraseIdx k }

/-- Sizes that stay small, messages that go somewhere. -/
structure MSOk (m : MS) : Prop where
  lr : m.rs.length = m.ps.length
  n4 : m.ps.length ≤ 4
  p : ∀ d, (m.ps.getD d []).length ≤ 1000
  r : ∀ d, (m.rs.getD d []).length ≤ 1000
  s : ∀ d, ∀ sh ∈ m.rs.getD d [], sh.length ≤ 1
  w : m.w.length ≤ 1000
  to : ∀ k (hk : k < m.w.length), ∃ e : Nat, m.w[k].to = e ∧ e < m.ps.length
  tg : 0 ≤ m.tg ∧ m.tg ≤ 2 ^ 40

/-- The maker, the tape and what is given, in memory. -/
structure PK (o : Nat → Option Nat) (s : St) (b bL bR bT bG : Nat) (vl vr : List AV) (vw : AV) (vg : List AV) (m : MS) (gs : List (List (List AV))) (l : List Int) (p : Nat) : Prop where
  km : KM o s b bL bR vl vr vw m.ps m.rs m.w m.tg
  oT : o bT = some 2000
  hT : s.blk bT = some (tapeB l p)
  hp : p ≤ l.length
  oG : o bG = some 3000
  hG : s.blk bG = some (.cells 1 (vg.map fun v => [v]))
  hvg : vg.length = m.ps.length
  hgs : gs.length = m.ps.length
  hg : ∀ d, d < m.ps.length → Row1 o (3001 + d) s 2 (vg.getD d .undef) (gs.getD d [])
  n9 : m.ps.length ≤ 900

section pk
variable {o : Nat → Option Nat} {σ : St} {b bL bR bT bG : Nat} {vl vr : List AV} {vw : AV} {vg : List AV} {m : MS} {gs : List (List (List AV))} {l : List Int} {p : Nat}
theorem PK.lt (h : PK o σ b bL bR bT bG vl vr vw vg m gs l p) {c x : Nat} (hc : o c = some x) : c < σ.next := h.km.lt c (by rw [hc]; simp)
theorem PK.frame (h : PK o σ b bL bR bT bG vl vr vw vg m gs l p) {s : St} (hn : σ.next ≤ s.next) (hs : ∀ c, o c ≠ none → s.blk c = σ.blk c) : PK o s b bL bR bT bG vl vr vw vg m gs l p :=
  ⟨h.km.frame hn hs, h.oT, by rw [hs bT (by rw [h.oT]; simp)]; exact h.hT, h.hp, h.oG, by rw [hs bG (by rw [h.oG]; simp)]; exact h.hG, h.hvg, h.hgs, fun d hd => (h.hg d hd).frame fun c hc => hs c (by rw [hc]; simp), h.n9⟩
theorem PK.tape (h : PK o σ b bL bR bT bG vl vr vw vg m gs l p) {p' : Nat} (hp' : p' ≤ l.length) : PK o (σ.set bT (tapeB l p')) b bL bR bT bG vl vr vw vg m gs l p' := by
  have ne : ∀ {c x}, o c = some x → x ≠ 2000 → (σ.set bT (tapeB l p')).blk c = σ.blk c := fun hc hx => by
    rw [blk_set, if_neg (ne_lab hc h.oT hx)]
  have km : KM o (σ.set bT (tapeB l p')) b bL bR vl vr vw m.ps m.rs m.w m.tg := by
    have n9 := h.n9
    have hlr := h.km.hlr
    refine ⟨h.km.own0, h.km.ownL, h.km.ownR, h.km.lt, by rw [ne h.km.own0 (by decide)]; exact h.km.hb, by rw [ne h.km.ownL (by decide)]; exact h.km.hL, by rw [ne h.km.ownR (by decide)]; exact h.km.hR, h.km.hvl, h.km.hvr, h.km.hlr, fun d hd => ?_, fun d hd => ?_, h.km.hw.frame fun c hc => ne hc (by decide)⟩
    · exact (h.km.hd d hd).frame fun c hc => ne hc (by omega)
    · exact (h.km.hs d hd).frame fun c hc => ne hc (by omega)
  exact ⟨km, h.oT, by rw [blk_set, if_pos rfl], hp', h.oG, by rw [ne h.oG (by decide)]; exact h.hG, h.hvg, h.hgs, fun d hd => (h.hg d hd).frame fun c hc => ne hc (by omega), h.n9⟩
theorem PK.put (h : PK o σ b bL bR bT bG vl vr vw vg m gs l p) {o' : Nat → Option Nat} {s : St} {vl' vr' : List AV} {vw' : AV} {m' : MS} (hk : KM o' s b bL bR vl' vr' vw' m'.ps m'.rs m'.w m'.tg) (hg : GrowF o σ o' s) (hm : m'.ps.length = m.ps.length) :
    PK o' s b bL bR bT bG vl' vr' vw' vg m' gs l p := by
  have same : ∀ {c x}, o c = some x → 2000 ≤ x → s.blk c = σ.blk c := fun hc hx => hg.2.2 _ (h.lt hc) (fun y hy => by rw [hc] at hy; cases hy; exact hx)
  have lab : ∀ {c x}, o c = some x → o' c = some x := fun hc => by rw [hg.2.1 _ (h.lt hc)]; exact hc
  exact ⟨hk, lab h.oT, by rw [same h.oT (by decide)]; exact h.hT, h.hp, lab h.oG, by rw [same h.oG (by decide)]; exact h.hG, by rw [hm]; exact h.hvg, by rw [hm]; exact h.hgs,
    fun d hd => ((h.hg d (by omega)).frame fun c hc => same hc (by omega)).newLab fun c hc => lab hc, by rw [hm]; exact h.n9⟩

theorem GrowF.grow {o o' : Nat → Option Nat} {σ s : St} (h : GrowF o σ o' s) : Grow o σ o' s := ⟨h.1, h.2.1, fun c hc ho => h.2.2 c hc (by rw [ho]; simp)⟩

theorem PK.give (h : PK o σ b bL bR bT bG vl vr vw vg m gs l p) {d : Nat} (hd : d < m.ps.length) (gr : List (List AV)) :
    PK (newLab o σ.next (3001 + d)) (growS σ bG vg d 2 gr) b bL bR bT bG vl vr vw (vg.set d (.sl σ.next 0 gr.length)) m (gs.set d gr) l p ∧ Grow o σ (newLab o σ.next (3001 + d)) (growS σ bG vg d 2 gr) := by
  have n9 := h.n9
  have hlr := h.km.hlr
  have hr := h.hg d hd
  have frl : ∀ {c x}, o c = some x → x ≠ 3001 + d → x ≠ 3000 → (growS σ bG vg d 2 gr).blk c = σ.blk c := fun hx h2 h3 => growS_blk hr _ (by rw [hx]; simpa using h2) (h.lt hx) (ne_lab hx h.oG h3)
  have k := h.km
  refine ⟨⟨⟨newLab_old k.lt k.own0, newLab_old k.lt k.ownL, newLab_old k.lt k.ownR, newLab_lt k.lt (by rw [growS_next]; omega), by rw [frl k.own0 (by omega) (by decide)]; exact k.hb, by rw [frl k.ownL (by omega) (by decide)]; exact k.hL,
    by rw [frl k.ownR (by omega) (by decide)]; exact k.hR, k.hvl, k.hvr, k.hlr, fun e he => ((k.hd e he).frame fun c hc => frl hc (by omega) (by omega)).newLab fun c hc => newLab_old k.lt hc, fun e he => ((k.hs e he).frame fun c hc => frl hc (by omega) (by omega)).newLab fun c hc => newLab_old k.lt hc,
    (k.hw.frame fun c hc => frl hc (by omega) (by omega)).newLab fun c hc => newLab_old k.lt hc⟩, newLab_old k.lt h.oT, by rw [frl h.oT (by omega) (by decide)]; exact h.hT, h.hp, newLab_old k.lt h.oG, by rw [growS_arr], by simp [h.hvg], by simp [h.hgs], fun e he => ?_, h.n9⟩, ?_⟩
  · by_cases hed : e = d
    · subst hed
      rw [getD_set_eq _ _ (by rw [h.hvg]; exact hd), getD_set_eq _ _ (by rw [h.hgs]; exact hd)]
      exact .inr ⟨σ.next, rfl, by simp [newLab], growS_new bG vg e 2 _ (h.lt h.oG)⟩
    · rw [getD_set_ne _ _ hed, getD_set_ne _ _ hed]
      exact ((h.hg e he).frame fun c hc => frl hc (by omega) (by omega)).newLab fun c hc => newLab_old k.lt hc
  · refine ⟨by rw [growS_next]; omega, fun c hc => ?_, fun c hc ho => growS_blk hr c (by rw [ho]; simp) hc (by rintro rfl; rw [h.oG] at ho; cases ho)⟩
    simp only [newLab]; rw [if_neg (by omega)]
end pk
end Go.Proofs.Ytfjbabacpnnjmaa.Av
