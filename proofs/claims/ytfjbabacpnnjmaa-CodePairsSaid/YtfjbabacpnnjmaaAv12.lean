/- A logic of small values, and walks in it: CodePairs. -/
import Derived.Test.YtfjbabacpnnjmaaAv11
set_option linter.unusedVariables false
set_option linter.unusedSimpArgs false
set_option linter.deprecated false
namespace Go.Proofs.Ytfjbabacpnnjmaa.Av
open Go Go.Av
set_option maxRecDepth 20000
set_option maxHeartbeats 4000000

attribute [local go_sem] step_apply stepD_apply stepE_apply
attribute [local go_sem] aopq_mv aopq_pk aopq_al aopq_bx aopq_bd aopq_bs aopq_ld aopq_st aopq_nc aopq_bin aopq_un aopq_cv aopq_mi aopq_mf aopq_mm aopq_ms aopq_sc aopq_fa aopq_fl aopq_ia aopq_lk aopq_mu aopq_lm aopq_rg aopq_en aopq_ta aopq_ex aopq_ln aopq_ap aopq_mx aopq.eq_3 aop.eq_1 aop.eq_2 aop.eq_3 aop.eq_4 aop.eq_5 aop.eq_6 aop.eq_7 aop.eq_8 aop.eq_9 aop_bin atS_apply aop_un_not aop_un_neg aop.eq_14 aop.eq_15 aop.eq_16 aop.eq_17 aop.eq_18 aop_sc cutS_apply cutN_apply cutL_apply cutO_apply aop.eq_20 aop.eq_21 aop.eq_22 aop.eq_23 aop.eq_24 aop.eq_25 aop.eq_26 aop.eq_27 aop.eq_28 aop.eq_29 aop.eq_30 aop.eq_31 aop.eq_32 blk_push next_push blk_set next_set blk_kill next_kill frL_nil frL_cons Fits_nil Fits_cons Int.reduceBEq Int.reduceBNe Nat.sub_zero Option.map_some Option.map_none List.set_cons_succ true_or or_true false_or or_false Int.le_refl Int.cast_ofNat_Int decide_true decide_false List.cons_append fillA fillR rowsOf List.replicate_succ List.replicate_zero Nat.zero_mul getD_drop List.length_drop splice List.nil_append List.append_nil cond_true cond_false List.set_cons_zero List.length_set ev put_some put_none upd_apply abin asNat bounds row1 mk List.length_cons List.length_nil List.length_map List.drop_zero List.drop_succ_cons List.drop_nil List.getD_cons_zero List.getD_cons_succ Option.getD_none Option.getD_some List.take_succ_cons List.take_zero List.take_nil true_and and_true Int.toNat_natCast if_true if_false Nat.zero_add Nat.add_zero List.map_cons List.map_nil Nat.reduceEqDiff Nat.left_eq_add Nat.add_eq_left Nat.add_left_cancel_iff Nat.add_assoc Nat.reduceSub Nat.reduceAdd Nat.reduceLeDiff Nat.le_refl Nat.zero_le Nat.zero_lt_one Nat.lt_add_one Int.reduceLT Int.reduceLE Int.reduceToNat Nat.reduceLT Nat.reduceBEq Bool.false_eq_true Nat.reduceBNe ne_eq not_false_eq_true not_true_eq_false false_and and_false reduceIte Int.natCast_nonneg reduceCtorEq parts_agg parts_bool parts_int parts_str parts_lit parts_nils parts_sl parts_ptr Int.natCast_nonneg Int.natCast_nonneg beq_self_eq_true bne_self_eq_false Bool.true_and Bool.false_and Bool.and_true Bool.and_false Bool.true_or Bool.false_or Bool.or_true Bool.or_false Bool.not_true Bool.not_false
attribute [local go_sem] instr0 instr1 instr2 instr10 instr11 instr12 instrN instrA instr_len node0 node1 node2 node3 node4 node5 node6 nodeA node_len I ints progA progsA

theorem setA (ps : List (List Instr)) (k : Nat) (w : List AV) (q : List Instr) : ((ps.map fun p => [progA p]).set k w).set k [.lit 13 (q.map instrL)] = (ps.set k q).map fun p => [progA p] := by
  rw [List.set_set, List.map_set]; rfl
/-- law18.CodePairs -/
theorem codePairs_spec (l : List Int) (d : Int) (σ : St) : T Try.prog 8 [ints l, I d] σ (.bool true) σ := by
  refine in8 (by simp) fun wf hab => ?_
  clear hab
  unfold c8
  first | refine .seq (.rg fun A hA K hK => ?_) | refine .seq (.seq (.rg fun A hA K hK => ?_)) | refine .rg fun A hA K hK => ?_ | refine .seq (.rd fun A hA K hK => ?_) | refine .seq (.seq (.rd fun A hA K hK => ?_)) | refine .rd fun A hA K hK => ?_
  simp (maxSteps := 1000000) only [go_sem, hA.nil, hA.go, hA.yes, hA.noT, hA.noF, hA.skp]
  refine hK _ _ ?_; clear hK K hA A
  first | refine .seq (.rg fun A hA K hK => ?_) | refine .seq (.seq (.rg fun A hA K hK => ?_)) | refine .rg fun A hA K hK => ?_ | refine .seq (.rd fun A hA K hK => ?_) | refine .seq (.seq (.rd fun A hA K hK => ?_)) | refine .rd fun A hA K hK => ?_
  simp (maxSteps := 1000000) only [go_sem, hA.nil, hA.go, hA.yes, hA.noT, hA.noF, hA.skp]
  refine aopq_callQ (programs_keep l σ) (by simp (maxSteps := 1000000) only [go_sem]) ?_
  rintro v s ⟨rfl, c, m, rfl, hm, hc, hw⟩
  have hz := hm.sz
  have hi := hm.inv (by omega)
  have hr0 := hi.right hz (by omega)
  have hp0 := hi.pairs hz (by omega) hw
  have tp0 := pairs_spec m.ps s
  have tr0 := right_spec m.ps s
  rw [hp0] at tp0
  rw [hr0] at tr0
  try simp (maxSteps := 1000000) only [go_sem, hA.nil, hA.go, hA.yes, hA.noT, hA.noF, hA.skp]
  refine hK _ _ ?_; clear hK K hA A
  refine .keep [(1, I d), (5, progsA m.ps)] (by simp (maxSteps := 1000000) only [go_sem]) ?_
  first | refine .seq (.rg fun A hA K hK => ?_) | refine .seq (.seq (.rg fun A hA K hK => ?_)) | refine .rg fun A hA K hK => ?_ | refine .seq (.rd fun A hA K hK => ?_) | refine .seq (.seq (.rd fun A hA K hK => ?_)) | refine .rd fun A hA K hK => ?_
  simp (maxSteps := 1000000) only [go_sem, hA.nil, hA.go, hA.yes, hA.noT, hA.noF, hA.skp]
  first | refine aopq_call (tp0) (by simp (maxSteps := 1000000) only [go_sem]) ?_ | refine aop_call (tp0) (by simp (maxSteps := 1000000) only [go_sem]) ?_
  try simp (maxSteps := 1000000) only [go_sem, hA.nil, hA.go, hA.yes, hA.noT, hA.noF, hA.skp]
  first | refine aopq_call (tr0) (by simp (maxSteps := 1000000) only [go_sem]) ?_ | refine aop_call (tr0) (by simp (maxSteps := 1000000) only [go_sem]) ?_
  try simp (maxSteps := 1000000) only [go_sem, hA.nil, hA.go, hA.yes, hA.noT, hA.noF, hA.skp]
  refine hK _ _ ?_; clear hK K hA A
  refine .cond (t := false) (by simp (maxSteps := 1000000) only [go_sem]) (fun h => by cases h) (fun _ => .skip ?_)
  clear tp0 tr0
  have n1 := hz.n1
  have n4 := hz.n4
  have hd := tmod_small d m.ps.length (by omega)
  have w0 : ¬ ((m.ps.length : Int) = 0) := by omega
  have w1 : IntKind.i64.wrap (d.tmod m.ps.length + m.ps.length) = d.tmod m.ps.length + m.ps.length := IntWalk.i64_in _ (by omega)
  obtain ⟨k, hk⟩ := Int.eq_ofNat_of_zero_le (Int.tmod_nonneg (m.ps.length : Int) (show 0 ≤ d.tmod m.ps.length + m.ps.length by omega))
  have hkl : k < m.ps.length := by have := Int.tmod_lt_of_pos (d.tmod m.ps.length + m.ps.length) (show 0 < (m.ps.length : Int) by omega); omega
  first | refine .seq (.rg fun A hA K hK => ?_) | refine .seq (.seq (.rg fun A hA K hK => ?_)) | refine .rg fun A hA K hK => ?_ | refine .seq (.rd fun A hA K hK => ?_) | refine .seq (.seq (.rd fun A hA K hK => ?_)) | refine .rd fun A hA K hK => ?_
  simp (maxSteps := 1000000) only [go_sem, hA.nil, hA.go, hA.yes, hA.noT, hA.noF, hA.skp, w0, w1, hk]
  refine hK _ _ ?_; clear hK K hA A
  clear w0 w1 hk hd
  have e0 : (k : Int) < m.ps.length := by omega
  have hg := progs_get' hkl
  have hpl := hz.p k
  rw [getD_at' hkl] at hpl
  first | refine .seq (.rg fun A hA K hK => ?_) | refine .seq (.seq (.rg fun A hA K hK => ?_)) | refine .rg fun A hA K hK => ?_ | refine .seq (.rd fun A hA K hK => ?_) | refine .seq (.seq (.rd fun A hA K hK => ?_)) | refine .rd fun A hA K hK => ?_
  simp (maxSteps := 1000000) only [go_sem, hA.nil, hA.go, hA.yes, hA.noT, hA.noF, hA.skp, e0, hkl, hg]
  refine hK _ _ ?_; clear hK K hA A
  refine .rangeK (N := m.ps[k].length) (fun n L t => L = [(5, progsA m.ps), (7, I k), (38, progA m.ps[k]), (39, I m.ps[k].length), (40, I n)] ∧ Ext s t) (by simp only [most]; omega) ⟨_, ⟨rfl, .refl s⟩, by simp (maxSteps := 1000000) only [go_sem]; try rfl⟩ ?_ ?_ ?_
  · rintro n L t ⟨rfl, _⟩
    exact ⟨by simp (maxSteps := 1000000) only [go_sem], by simp (maxSteps := 1000000) only [go_sem], rfl⟩
  · rintro n L t hn ⟨rfl, hx⟩
    have e1 : (n : Int) < m.ps[k].length := by omega
    have hgn := prog_get hn
    generalize hq : m.ps[k][n] = x at hgn
    first | refine .seq (.rg fun A hA K hK => ?_) | refine .seq (.seq (.rg fun A hA K hK => ?_)) | refine .rg fun A hA K hK => ?_ | refine .seq (.rd fun A hA K hK => ?_) | refine .seq (.seq (.rd fun A hA K hK => ?_)) | refine .rd fun A hA K hK => ?_
    simp (maxSteps := 1000000) only [go_sem, hA.nil, hA.go, hA.yes, hA.noT, hA.noF, hA.skp, e1, hn, hgn]
    refine hK _ _ ?_; clear hK K hA A
    refine .midK (fun L u => L = [(5, progsA m.ps), (7, I k), (8, I n), (9, .ptr t.next 0 0), (38, progA m.ps[k]), (39, I m.ps[k].length), (40, I n)] ∧ u.blk t.next = some (.cells 13 [instrL x]) ∧ u.next = t.next + 1 ∧ Ext s u ∧ x.kind = 3) ?_ ?_
    · first | refine .seq (.rg fun A hA K hK => ?_) | refine .seq (.seq (.rg fun A hA K hK => ?_)) | refine .rg fun A hA K hK => ?_ | refine .seq (.rd fun A hA K hK => ?_) | refine .seq (.seq (.rd fun A hA K hK => ?_)) | refine .rd fun A hA K hK => ?_
      simp (maxSteps := 1000000) only [go_sem, hA.nil, hA.go, hA.yes, hA.noT, hA.noF, hA.skp]
      refine hK _ _ ?_; clear hK K hA A
      have hx1 := hx.1
      by_cases hs : x.kind = 3
      · have hb : (x.kind != 3) = false := by rw [hs]; rfl
        refine .cond (t := false) (by simp (maxSteps := 1000000) only [go_sem, hb]) (fun h => by cases h) (fun _ => .skip ?_)
        refine ⟨_, ⟨rfl, by simp (maxSteps := 1000000) only [go_sem], by simp (maxSteps := 1000000) only [go_sem], ⟨by simp (maxSteps := 1000000) only [go_sem]; try omega, fun b hb => ?_⟩, hs⟩, by simp (maxSteps := 1000000) only [go_sem]⟩
        simp (disch := omega) only [go_sem, if_neg, hx.2 b hb]
      · have hb : (x.kind != 3) = true := by simpa using hs
        refine .cond (t := true) (by simp (maxSteps := 1000000) only [go_sem, hb]) (fun _ => .exit ?_) (fun h => by cases h)
        simp only [thenQ, roundK, if_true]
        refine ⟨by simp (maxSteps := 1000000) only [go_sem], _, ⟨rfl, ⟨by simp (maxSteps := 1000000) only [go_sem]; try omega, fun b hb => ?_⟩⟩, by simp (maxSteps := 1000000) only [go_sem]; try rfl⟩
        simp (disch := omega) only [go_sem, if_neg, hx.2 b hb]
    rintro L u ⟨rfl, h9, hun, hxu, hs⟩
    have m1 : m.ps.length ≤ most := by simp only [most]; omega
    have m2 : m.ps.length * 24 ≤ most := by simp only [most]; omega
    first | refine .seq (.rg fun A hA K hK => ?_) | refine .seq (.seq (.rg fun A hA K hK => ?_)) | refine .rg fun A hA K hK => ?_ | refine .seq (.rd fun A hA K hK => ?_) | refine .seq (.seq (.rd fun A hA K hK => ?_)) | refine .rd fun A hA K hK => ?_
    simp (maxSteps := 1000000) only [go_sem, hA.nil, hA.go, hA.yes, hA.noT, hA.noF, hA.skp, m1, m2]
    refine hK _ _ ?_; clear hK K hA A
    have hxu1 := hxu.1
    have q1 : List.take n (List.map instrL m.ps[k]) = List.map instrL (m.ps[k].take n) := by rw [List.map_take]
    have q2 : (m.ps[k].take n).length = n := by rw [List.length_take]; omega
    have q3 : List.take n (List.map instrL (m.ps[k].take n)) = List.map instrL (m.ps[k].take n) := List.take_of_length_le (by rw [List.length_map, q2]; omega)
    have q4 : List.take (m.ps[k].length - (n + 1)) (List.drop (n + 1) (List.map instrL m.ps[k])) = List.map instrL (m.ps[k].drop (n + 1)) := by rw [List.map_drop]; exact List.take_of_length_le (by simp)
    have q5 : (m.ps[k].drop (n + 1)).length = m.ps[k].length - (n + 1) := List.length_drop
    have q6 : n + (m.ps[k].length - (n + 1)) = m.ps[k].length - 1 := by omega
    have w1 : IntKind.i64.wrap ((n : Int) + 1) = ((n + 1 : Nat) : Int) := IntWalk.i64_in _ (by omega)
    have b1 : n ≤ most := by simp only [most]; omega
    have b2 : n * 176 ≤ most := by simp only [most]; omega
    have b3 : (n : Int) ≤ m.ps[k].length := by omega
    have b4 : ((n + 1 : Nat) : Int) ≤ m.ps[k].length := by omega
    have b5 : n + (m.ps[k].length - (n + 1)) ≤ most := by simp only [most]; omega
    have b6 : (n + (m.ps[k].length - (n + 1))) * 176 ≤ most := by simp only [most]; omega
    refine .midK (fun L v => ∃ b10 c10, L = [(5, progsA m.ps), (7, I k), (8, I n), (9, .ptr t.next 0 0), (10, .sl b10 0 m.ps.length), (38, progA m.ps[k]), (39, I m.ps[k].length), (40, I n)] ∧ v.blk t.next = some (.cells 13 [instrL x]) ∧ Ext s v ∧ s.next ≤ b10 ∧ t.next < b10 ∧ b10 < c10 ∧ c10 < v.next ∧
      v.blk b10 = some (.cells 1 ((m.ps.map fun p => [progA p]).set k [.sl c10 0 (m.ps[k].length - 1)])) ∧ v.blk c10 = some (.cells 13 ((m.ps[k].take n ++ m.ps[k].drop (n + 1)).map instrL))) ?_ ?_
    · refine .rdx fun A hA K hK => ?_
      simp (maxSteps := 200000) only [go_sem, hA.nil, hA.pur, hA.go, hA.yes, hA.noT, hA.noF, hA.skp, pure_mv, eff_mv, pure_pk, eff_pk, pure_al, eff_al, pure_bx, eff_bx, pure_bd, eff_bd, pure_bs, eff_bs, pure_ld, eff_ld, pure_st, eff_st, pure_nc, eff_nc, pure_bin, eff_bin, pure_un, eff_un, pure_cv, eff_cv, pure_mi, eff_mi, pure_mf, eff_mf, pure_mm, eff_mm, pure_ms, eff_ms, pure_sc, eff_sc, pure_fa, eff_fa, pure_fl, eff_fl, pure_ia, eff_ia, pure_lk, eff_lk, pure_mu, eff_mu, pure_lm, eff_lm, pure_rg, eff_rg, pure_nx, eff_nx, pure_en, eff_en, pure_ta, eff_ta, pure_ex, eff_ex, pure_ln, eff_ln, pure_ap, eff_ap, pure_mx, eff_mx, pure_call, eff_call, pure_callv, eff_callv, chk_nil, chk_cons, again, List.contains_cons, List.contains_nil, e0, hkl, hg, q1, q2, q3, q4, q5, w1, b1, b2, b3, b4, b5, b6]
      refine hK _ _ ?_; clear hK K hA A
      refine ⟨_, ⟨u.next, u.next + 2, rfl, by simp (disch := omega) only [go_sem, if_neg, h9], ⟨by simp (maxSteps := 1000000) only [go_sem]; omega, fun b hb => ?_⟩, by omega, by omega, by omega, by simp (maxSteps := 1000000) only [go_sem], by simp (maxSteps := 1000000) only [go_sem, q6], by simp (disch := omega) only [go_sem, if_neg, if_pos, List.map_append]⟩, by simp (maxSteps := 1000000) only [go_sem, q6]⟩
      simp (disch := omega) only [go_sem, if_neg, hxu.2 b hb]
    rintro L v ⟨b10, c10, rfl, h9', hxv, k1, k2, k3, k4, hb10, hc10⟩
    first | refine .seq (.rg fun A hA K hK => ?_) | refine .seq (.seq (.rg fun A hA K hK => ?_)) | refine .rg fun A hA K hK => ?_ | refine .seq (.rd fun A hA K hK => ?_) | refine .seq (.seq (.rd fun A hA K hK => ?_)) | refine .rd fun A hA K hK => ?_
    simp (maxSteps := 1000000) only [go_sem, hA.nil, hA.go, hA.yes, hA.noT, hA.noF, hA.skp, m1, m2]
    refine hK _ _ ?_; clear hK K hA A
    have hxv1 := hxv.1
    have r2 : List.take m.ps[k].length (List.map instrL m.ps[k]) = List.map instrL m.ps[k] := List.take_of_length_le (by simp)
    have d1 : m.ps[k].length ≤ most := by simp only [most]; omega
    have d2 : m.ps[k].length * 176 ≤ most := by simp only [most]; omega
    have d3 : m.ps[k].length + 1 ≤ most := by simp only [most]; omega
    have d4 : (m.ps[k].length + 1) * 176 ≤ most := by simp only [most]; omega
    have d5 : ¬ t.next = v.next := by omega
    have d6 : ¬ t.next = v.next + 1 := by omega
    refine .midK (fun L y => ∃ b11 c11, L = [(5, progsA m.ps), (7, I k), (10, .sl b10 0 m.ps.length), (11, .sl b11 0 m.ps.length), (38, progA m.ps[k]), (39, I m.ps[k].length), (40, I n)] ∧ Ext s y ∧ c10 < b11 ∧ b11 < c11 ∧ c11 < y.next ∧
      y.blk b10 = some (.cells 1 ((m.ps.map fun p => [progA p]).set k [.sl c10 0 (m.ps[k].length - 1)])) ∧ y.blk c10 = some (.cells 13 ((m.ps[k].take n ++ m.ps[k].drop (n + 1)).map instrL)) ∧
      y.blk b11 = some (.cells 1 ((m.ps.map fun p => [progA p]).set k [.sl c11 0 (m.ps[k].length + 1)])) ∧ y.blk c11 = some (.cells 13 ((m.ps[k] ++ [x]).map instrL))) ?_ ?_
    · refine .rdx fun A hA K hK => ?_
      simp (maxSteps := 200000) only [go_sem, hA.nil, hA.pur, hA.go, hA.yes, hA.noT, hA.noF, hA.skp, pure_mv, eff_mv, pure_pk, eff_pk, pure_al, eff_al, pure_bx, eff_bx, pure_bd, eff_bd, pure_bs, eff_bs, pure_ld, eff_ld, pure_st, eff_st, pure_nc, eff_nc, pure_bin, eff_bin, pure_un, eff_un, pure_cv, eff_cv, pure_mi, eff_mi, pure_mf, eff_mf, pure_mm, eff_mm, pure_ms, eff_ms, pure_sc, eff_sc, pure_fa, eff_fa, pure_fl, eff_fl, pure_ia, eff_ia, pure_lk, eff_lk, pure_mu, eff_mu, pure_lm, eff_lm, pure_rg, eff_rg, pure_nx, eff_nx, pure_en, eff_en, pure_ta, eff_ta, pure_ex, eff_ex, pure_ln, eff_ln, pure_ap, eff_ap, pure_mx, eff_mx, pure_call, eff_call, pure_callv, eff_callv, chk_nil, chk_cons, again, List.contains_cons, List.contains_nil, e0, hkl, hg, r2, d1, d2, d3, d4, d5, d6, h9']
      refine hK _ _ ?_; clear hK K hA A
      refine ⟨_, ⟨v.next, v.next + 2, rfl, ⟨by simp (maxSteps := 1000000) only [go_sem]; omega, fun b hb => ?_⟩, by omega, by omega, by simp (maxSteps := 1000000) only [go_sem], ?_, ?_, by simp (maxSteps := 1000000) only [go_sem], by simp (disch := omega) only [go_sem, if_neg, if_pos, List.map_append]⟩, by simp (maxSteps := 1000000) only [go_sem]⟩
      · simp (disch := omega) only [go_sem, if_neg, hxv.2 b hb]
      · simp (disch := omega) only [go_sem, if_neg, hb10]
      · simp (disch := omega) only [go_sem, if_neg, hc10]
    clear q1 q2 q3 q4 q5 q6 w1 b1 b2 b3 b4 b5 b6 r2 d1 d2 d3 d4 d5 d6 h9 h9' hb10 hc10
    rintro L y ⟨b11, c11, rfl, hxy, k5, k6, k7, hb10, hc10, hb11, hc11⟩
    have hxy1 := hxy.1
    have hkm : k < (m.ps.map fun p => [progA p]).length := by simpa using hkl
    refine .frzAt b10 k hb10 (by rw [List.length_set]; exact hkm) (getD_set_eq _ _ hkm) hc10 (by omega) (by simp; omega) ?_
    refine .frzAt b11 k (by simp (disch := omega) only [blk_set, blk_kill, if_neg]; exact hb11) (by rw [List.length_set]; exact hkm) (getD_set_eq _ _ hkm) (by simp (disch := omega) only [blk_set, blk_kill, if_neg]; exact hc11) (by omega) (by simp) ?_
    refine .frz 10 (b := b10) (n := m.ps.length) (sz := 1) (rows := (m.ps.set k (m.ps[k].take n ++ m.ps[k].drop (n + 1))).map fun p => [progA p]) (by simp (maxSteps := 1000000) only [go_sem]) (by simp (disch := omega) only [blk_set, blk_kill, if_neg, if_true, setA]) (by simp) ?_
    refine .frz 11 (b := b11) (n := m.ps.length) (sz := 1) (rows := (m.ps.set k (m.ps[k] ++ [x])).map fun p => [progA p]) (by simp (maxSteps := 1000000) only [go_sem]) (by simp (disch := omega) only [blk_set, blk_kill, if_neg, if_true, setA]) (by simp) ?_
    generalize hzs : St.kill _ b11 = z
    have hzx : Ext s z := by
      subst hzs
      refine ⟨by simp (maxSteps := 1000000) only [go_sem]; omega, fun b hb => ?_⟩
      simp (disch := omega) only [blk_set, blk_kill, if_neg, hxy.2 b hb]
    clear hzs hb10 hc10 hb11 hc11
    have hsp : m.ps.getD k [] = m.ps[k].take n ++ x :: m.ps[k].drop (n + 1) := by
      rw [getD_at' hkl, ← hq, ← List.drop_eq_getElem_cons hn, List.take_append_drop]
    have z1 := hi.pairs_less hz (by omega) hw hkl hsp hs
    have z2 := hi.pairs_more hz (by omega) hkl hsp hs
    have z3 := count_less hz (by omega) hkl hsp
    have z4 := sends_more hz (by omega) hkl hs
    rw [getD_at' hkl] at z2 z4
    have hfl := hz.flat (by omega)
    have z5 : sndE m.ps = (m.ps.flatten.countP fun i => i.kind == 3) := sndE_is (by omega)
    have z6 : cntE m.ps = m.ps.flatten.length := cntE_is (by omega)
    have z7 : (m.ps.flatten.countP fun i => i.kind == 3) ≤ m.ps.flatten.length := List.countP_le_length
    have w1 : IntKind.i64.wrap (sndE m.ps + 1) = sndE m.ps + 1 := IntWalk.i64_in _ (by omega)
    have w2 : IntKind.i64.wrap (cntE m.ps - 1) = cntE m.ps - 1 := IntWalk.i64_in _ (by omega)
    have t1 := pairs_spec (m.ps.set k (m.ps[k].take n ++ m.ps[k].drop (n + 1))) z
    have t2 := pairs_spec (m.ps.set k (m.ps[k] ++ [x])) z
    have t3 := codeSends_spec (m.ps.set k (m.ps[k] ++ [x])) z
    have t4 := codeSends_spec m.ps z
    have t5 := codeCount_spec (m.ps.set k (m.ps[k].take n ++ m.ps[k].drop (n + 1))) z
    have t6 := codeCount_spec m.ps z
    rw [z1] at t1
    rw [z2] at t2
    rw [z4] at t3
    rw [z3] at t5
    clear z1 z2 z3 z4 z5 z6 z7
    generalize sndE m.ps = S at w1 t3 t4
    generalize cntE m.ps = E at w2 t5 t6
    first | refine .seq (.rg fun A hA K hK => ?_) | refine .seq (.seq (.rg fun A hA K hK => ?_)) | refine .rg fun A hA K hK => ?_ | refine .seq (.rd fun A hA K hK => ?_) | refine .seq (.seq (.rd fun A hA K hK => ?_)) | refine .rd fun A hA K hK => ?_
    simp (maxSteps := 1000000) only [go_sem, hA.nil, hA.go, hA.yes, hA.noT, hA.noF, hA.skp]
    first | refine aopq_call (t1) (by simp (maxSteps := 1000000) only [go_sem]) ?_ | refine aop_call (t1) (by simp (maxSteps := 1000000) only [go_sem]) ?_
    try simp (maxSteps := 1000000) only [go_sem, hA.nil, hA.go, hA.yes, hA.noT, hA.noF, hA.skp]
    first | refine aopq_call (t2) (by simp (maxSteps := 1000000) only [go_sem]) ?_ | refine aop_call (t2) (by simp (maxSteps := 1000000) only [go_sem]) ?_
    try simp (maxSteps := 1000000) only [go_sem, hA.nil, hA.go, hA.yes, hA.noT, hA.noF, hA.skp]
    first | refine aopq_call (t3) (by simp (maxSteps := 1000000) only [go_sem]) ?_ | refine aop_call (t3) (by simp (maxSteps := 1000000) only [go_sem]) ?_
    try simp (maxSteps := 1000000) only [go_sem, hA.nil, hA.go, hA.yes, hA.noT, hA.noF, hA.skp]
    first | refine aopq_call (t4) (by simp (maxSteps := 1000000) only [go_sem, w1]) ?_ | refine aop_call (t4) (by simp (maxSteps := 1000000) only [go_sem, w1]) ?_
    try simp (maxSteps := 1000000) only [go_sem, hA.nil, hA.go, hA.yes, hA.noT, hA.noF, hA.skp, w1]
    first | refine aopq_call (t5) (by simp (maxSteps := 1000000) only [go_sem, w1]) ?_ | refine aop_call (t5) (by simp (maxSteps := 1000000) only [go_sem, w1]) ?_
    try simp (maxSteps := 1000000) only [go_sem, hA.nil, hA.go, hA.yes, hA.noT, hA.noF, hA.skp, w1]
    first | refine aopq_call (t6) (by simp (maxSteps := 1000000) only [go_sem, w1, w2]) ?_ | refine aop_call (t6) (by simp (maxSteps := 1000000) only [go_sem, w1, w2]) ?_
    try simp (maxSteps := 1000000) only [go_sem, hA.nil, hA.go, hA.yes, hA.noT, hA.noF, hA.skp, w1, w2]
    refine hK _ _ ?_; clear hK K hA A
    refine .cond (t := false) (by simp (maxSteps := 1000000) only [go_sem, w1, w2]) (fun h => by cases h) (fun _ => .skip ?_)
    exact ⟨by simp (maxSteps := 1000000) only [go_sem], _, ⟨rfl, hzx⟩, by simp (maxSteps := 1000000) only [go_sem]; try rfl⟩
  · rintro L t F ⟨rfl, hx⟩ hf
    first | refine .seq (.rg fun A hA K hK => ?_) | refine .seq (.seq (.rg fun A hA K hK => ?_)) | refine .rg fun A hA K hK => ?_ | refine .seq (.rd fun A hA K hK => ?_) | refine .seq (.seq (.rd fun A hA K hK => ?_)) | refine .rd fun A hA K hK => ?_
    simp (maxSteps := 1000000) only [go_sem, hA.nil, hA.go, hA.yes, hA.noT, hA.noF, hA.skp]
    first | refine aopq_call (known_spec t) (by simp (maxSteps := 1000000) only [go_sem]) ?_ | refine aop_call (known_spec t) (by simp (maxSteps := 1000000) only [go_sem]) ?_
    try simp (maxSteps := 1000000) only [go_sem, hA.nil, hA.go, hA.yes, hA.noT, hA.noF, hA.skp]
    refine hK _ _ ?_; clear hK K hA A
    exact .ret (retB (by simp (maxSteps := 1000000) only [go_sem]; try rfl) wf hx.2 (.bool _) ⟨rfl, rfl⟩)
end Go.Proofs.Ytfjbabacpnnjmaa.Av
