/- A logic of small values, and walks in it: A row of one's own handed to a function: told as a plain list. The Maker's Fresh and Put, with the memory behind them told. The ring's small steps: put, Work, deliver. Within, at; the tape. Shapes: Right, Size; a tensor that is filled. A tensor that is filled; numbers and tensors of a tape. Numbers and tensors of a tape. The machine of chapter 20's reference: what it is in memory; find, Halted. -/
import Derived.Test.YtfjbabacpnnjmaaAv9
set_option linter.unusedVariables false
set_option linter.unusedSimpArgs false
set_option linter.deprecated false
namespace Go.Av
theorem TQ.frz {P : Program} {f : FuncId} {args : List AV} {σ : St} {Q : AV → St → Prop} (i : Nat) {b n sz : Nat} {rows : List (List AV)} (hi : args.getD i .undef = .sl b 0 n) (hb : σ.blk b = some (.cells sz rows)) (hn : n = rows.length)
  (h : TQ P f (args.set i (.lit sz rows)) (σ.kill b) Q) : TQ P f args σ Q := by
 refine ⟨h.1, fun W0 e w cargs hr hlen hv => ?_⟩
 obtain ⟨x, hx, _⟩ := hr.own b _ hb
 obtain ⟨e', l, hR, hcut⟩ := hr.freeze hb hx
 refine (h.2 W0 e' w cargs hR (by simpa using hlen) fun j hj => ?_).mono fun en w' ⟨e'', cv, v, s, h1, h2, h3, h4, h5⟩ => ⟨e'', cv, v, s, h1, l.trans h2, h3, h4, h5⟩
 have hj' : j < args.length := by simpa using hj
 by_cases hji : j = i
 ·subst hji
  have hq := hv j hj'
  rw [hi] at hq
  have := hcut 0 n _ hq (by omega)
  rw [List.getD_eq_getElem?_getD, List.getElem?_set, if_pos rfl, if_pos hj', Option.getD_some]
  subst hn; simpa using this
 ·rw [List.getD_eq_getElem?_getD, List.getElem?_set, if_neg (by omega), ← List.getD_eq_getElem?_getD]; exact (hv j hj').mono l
theorem T.toQ {P : Program} {f : FuncId} {args : List AV} {σ : St} {v : AV} {σ' : St} (h : T P f args σ v σ') : TQ P f args σ fun v' s' => v' = v ∧ s' = σ' := h
end Go.Av
namespace Go.Proofs.Ytfjbabacpnnjmaa.Av
open Go Go.Av
set_option maxRecDepth 20000
set_option maxHeartbeats 4000000

attribute [local go_sem] step_apply stepD_apply stepE_apply
attribute [local go_sem] aopq_mv aopq_pk aopq_al aopq_bx aopq_bd aopq_bs aopq_ld aopq_st aopq_nc aopq_bin aopq_un aopq_cv aopq_mi aopq_mf aopq_mm aopq_ms aopq_sc aopq_fa aopq_fl aopq_ia aopq_lk aopq_mu aopq_lm aopq_rg aopq_en aopq_ta aopq_ex aopq_ln aopq_ap aopq_mx aopq.eq_3 aop.eq_1 aop.eq_2 aop.eq_3 aop.eq_4 aop.eq_5 aop.eq_6 aop.eq_7 aop.eq_8 aop.eq_9 aop_bin atS_apply aop_un_not aop_un_neg aop.eq_14 aop.eq_15 aop.eq_16 aop.eq_17 aop.eq_18 aop_sc cutS_apply cutN_apply cutL_apply cutO_apply aop.eq_20 aop.eq_21 aop.eq_22 aop.eq_23 aop.eq_24 aop.eq_25 aop.eq_26 aop.eq_27 aop.eq_28 aop.eq_29 aop.eq_30 aop.eq_31 aop.eq_32 blk_push next_push blk_set next_set blk_kill next_kill frL_nil frL_cons Fits_nil Fits_cons Int.reduceBEq Int.reduceBNe Nat.sub_zero Option.map_some Option.map_none List.set_cons_succ true_or or_true false_or or_false Int.le_refl Int.cast_ofNat_Int decide_true decide_false List.cons_append fillA fillR rowsOf List.replicate_succ List.replicate_zero Nat.zero_mul getD_drop List.length_drop splice List.nil_append List.append_nil cond_true cond_false List.set_cons_zero List.length_set ev put_some put_none upd_apply abin asNat bounds row1 mk List.length_cons List.length_nil List.length_map List.drop_zero List.drop_succ_cons List.drop_nil List.getD_cons_zero List.getD_cons_succ Option.getD_none Option.getD_some List.take_succ_cons List.take_zero List.take_nil true_and and_true Int.toNat_natCast if_true if_false Nat.zero_add Nat.add_zero List.map_cons List.map_nil Nat.reduceEqDiff Nat.left_eq_add Nat.add_eq_left Nat.add_left_cancel_iff Nat.add_assoc Nat.reduceSub Nat.reduceAdd Nat.reduceLeDiff Nat.le_refl Nat.zero_le Nat.zero_lt_one Nat.lt_add_one Int.reduceLT Int.reduceLE Int.reduceToNat Nat.reduceLT Nat.reduceBEq Bool.false_eq_true Nat.reduceBNe ne_eq not_false_eq_true not_true_eq_false false_and and_false reduceIte Int.natCast_nonneg reduceCtorEq parts_agg parts_bool parts_int parts_str parts_lit parts_nils parts_sl parts_ptr Int.natCast_nonneg Int.natCast_nonneg beq_self_eq_true bne_self_eq_false Bool.true_and Bool.false_and Bool.and_true Bool.and_false Bool.true_or Bool.false_or Bool.or_true Bool.or_false Bool.not_true Bool.not_false
attribute [local go_sem] instr0 instr1 instr2 instr10 instr11 instr12 instrN instrA instr_len node0 node1 node2 node3 node4 node5 node6 nodeA node_len I ints progA progsA

section mk
variable {o : Nat → Option Nat} {σ : St} {b bL bR : Nat} {vs : List AV} {ps : List (List Instr)} {rs : List Int} {tg : Int}
theorem fresh_T (h : Mk o σ b bL bR vs ps rs tg) (d : Nat) (hd : d < ps.length) (ht : 0 ≤ rs.getD d 0 ∧ rs.getD d 0 < 2 ^ 62) :
  T Try.prog 23 [.ptr b 0 0, I d] σ (I (rs.getD d 0)) (σ.set bR (.cells 1 ((rs.set d (rs.getD d 0 + 1)).map fun r => [I r]))) ∧ Mk o (σ.set bR (.cells 1 ((rs.set d (rs.getD d 0 + 1)).map fun r => [I r]))) b bL bR vs ps (rs.set d (rs.getD d 0 + 1)) tg ∧
   Grow o σ o (σ.set bR (.cells 1 ((rs.set d (rs.getD d 0 + 1)).map fun r => [I r]))) := by
 have hb := h.hb
 have hR := h.hR
 have hr := h.hr
 have hdr : d < rs.length := by omega
 have nb := ne_lab h.ownR h.own0 (by decide)
 have nb' := ne_lab h.own0 h.ownR (by decide)
 refine ⟨?_, ?_, ?_⟩
 ·refine in23 (by simp) fun wf hab => ?_
  clear hab
  have e0 : (d : Int) < ps.length := by omega
  have e0' : (d : Int) < rs.length := by omega
  have e1 : IntKind.i64.wrap (rs.getD d 0 + 1) = rs.getD d 0 + 1 := IntWalk.i64_in _ (by omega)
  have e2 : IntKind.i64.wrap (rs.getD d 0 + 1 - 1) = rs.getD d 0 := by rw [IntWalk.i64_in _ (by omega)]; omega
  have hg := regs_get hdr
  have hset : ((rs.map fun r => [I r]).set d [I (rs.getD d 0 + 1)]) = (rs.set d (rs.getD d 0 + 1)).map fun r => [I r] := by rw [List.map_set]
  unfold c23
  refine .seq (.rg fun A hA K hK => ?_)
  simp (maxSteps := 1000000) only [go_sem, hA.nil, hA.go, hA.yes, hA.noT, hA.noF, hA.skp]
  refine hK _ _ ?_; clear hK K hA A
  refine .seq (.seq (.rg fun A hA K hK => ?_))
  simp (maxSteps := 1000000) only [go_sem, hA.nil, hA.go, hA.yes, hA.noT, hA.noF, hA.skp]
  refine aopq_call (there_spec (ps := ps) hb d) (by simp (maxSteps := 1000000) only [go_sem]) ?_
  try simp (maxSteps := 1000000) only [go_sem, hA.nil, hA.go, hA.yes, hA.noT, hA.noF, hA.skp]
  refine hK _ _ ?_; clear hK K hA A
  refine .cond (t := false) (by simp [go_sem, e0]) (fun h => by cases h) (fun _ => .skip ?_)
  refine .seq (.rg fun A hA K hK => ?_)
  simp (maxSteps := 1000000) only [go_sem, hA.nil, hA.go, hA.yes, hA.noT, hA.noF, hA.skp, hb, hR, hg, e0', hdr, e1]
  refine hK _ _ ?_; clear hK K hA A
  have hg2 : ((rs.map fun r => [I r]).set d [I (rs.getD d 0 + 1)]).getD d [] = [I (rs.getD d 0 + 1)] := by simp [List.getD_eq_getElem?_getD, hdr]
  refine .seq (.rg fun A hA K hK => ?_)
  simp (maxSteps := 1000000) only [go_sem, hA.nil, hA.go, hA.yes, hA.noT, hA.noF, hA.skp, hb, nb, nb', e0', hdr, hg2, e2]
  refine hK _ _ ?_; clear hK K hA A
  refine .ret (retS (by simp (maxSteps := 1000000) only [go_sem]) ⟨rfl, ?_⟩)
  exact congrArg _ (congrArg _ hset)
 ·have nbL := ne_lab h.ownL h.ownR (by decide)
  refine ⟨h.own0, h.ownR, h.ownL, h.lt, by simp (maxSteps := 1000000) only [go_sem, nb', List.length_set]; exact hb, by simp (maxSteps := 1000000) only [go_sem, nbL]; exact h.hL, by simp (maxSteps := 1000000) only [go_sem], h.hv, by simp [hr], fun k hk => ?_⟩
  rcases h.hd k hk with hh | ⟨c, h1, h2, h3⟩
  ·exact .inl hh
  ·have := ne_lab h2 h.ownR (by omega)
   exact .inr ⟨c, h1, h2, by simp (maxSteps := 1000000) only [go_sem, this]; exact h3⟩
 ·refine ⟨Nat.le_refl _, fun _ _ => rfl, fun c hc ho => ?_⟩
  have : ¬ c = bR := by rintro rfl; rw [h.ownR] at ho; cases ho
  simp (maxSteps := 1000000) only [go_sem, this]

/-- code.Maker.Put, where there is room -/
theorem put_T (h : Mk o σ b bL bR vs ps rs tg) (d : Nat) (hd : d < ps.length) (hlen : (ps.getD d []).length < 65536) (i : Instr) (hi : i.Sm) :
  ∃ s, T Try.prog 24 [.ptr b 0 0, I d, .agg (instrL i)] σ (I 0) s ∧ ∃ o' vs', Mk o' s b bL bR vs' (ps.set d (ps.getD d [] ++ [i])) rs tg ∧ Grow o σ o' s := by
 have hlt := h.lt
 have e0 : (d : Int) < ps.length := by omega
 have hdv : d < vs.length := by rw [h.hv]; exact hd
 have nx : ∀ c, c < σ.next → ¬ c = σ.next := fun c hc => by omega
 have h1 : Mk o (σ.push (.cells 13 [instrL i])) b bL bR vs ps rs tg := h.frame (by simp (maxSteps := 1000000) only [go_sem]; omega) fun c hc => by
  have := nx c (hlt c hc); simp only [blk_push, if_neg this]
 obtain ⟨s1, hS⟩ : ∃ s1, σ.push (.cells 13 [instrL i]) = s1 := ⟨_, rfl⟩
 rw [hS] at h1
 have hbx : s1.blk σ.next = some (.cells 13 [instrL i]) := by subst hS; simp (maxSteps := 1000000) only [go_sem]
 have hns : s1.next = σ.next + 1 := by subst hS; simp (maxSteps := 1000000) only [go_sem]
 have hfr : ∀ c, c < σ.next → s1.blk c = σ.blk c := fun c hc => by subst hS; have := nx c hc; simp only [blk_push, if_neg this]
 have hb := h1.hb
 have hL := h1.hL
 have hg := vs_get hdv
 have nLb := ne_lab h1.ownL h1.own0 (by decide)
 have nbL := ne_lab h1.own0 h1.ownL (by decide)
 have lts : ∀ {c x}, o c = some x → c < s1.next := fun hx => h1.lt _ (by rw [hx]; simp)
 have ltb := lts h1.own0
 have ltL := lts h1.ownL
 have nsb : ¬ b = s1.next := by omega
 have nsL : ¬ bL = s1.next := by omega
 have n5 : ¬ σ.next = s1.next := by omega
 have nsL2 : ¬ s1.next = bL := fun e => nsL e.symm
 have fin : ∀ (s2 : St) (c' : Nat), s1.next ≤ c' → c' < s2.next → s1.next ≤ s2.next → (∀ c, c < s1.next → o c ≠ some (3 + d) → c ≠ bL → s2.blk c = s1.blk c) →
   s2.blk bL = some (.cells 1 ((vs.map fun v => [v]).set d [.sl c' 0 (ps.getD d [] ++ [i]).length])) → s2.blk c' = some (.cells 13 ((ps.getD d [] ++ [i]).map instrL)) →
   ∃ o' vs', Mk o' s2 b bL bR vs' (ps.set d (ps.getD d [] ++ [i])) rs tg ∧ Grow o σ o' s2 := by
  intro s2 c' q1 q2 q3 q4 q5 q6
  obtain ⟨o', vs', g1, g2⟩ := h1.grow hd _ q1 q2 q3 q4 q5 q6
  refine ⟨o', vs', g1, ?_⟩
  refine Grow.trans (o' := o) (s := s1) ⟨by omega, fun _ _ => rfl, fun c hc _ => hfr c hc⟩ g2
 rcases h1.hd d hd with ⟨q1, q2⟩ | ⟨c, q1, q2, q3⟩
 ·rw [q1] at hg
  have e3 : ps.getD d [] = [] := by simpa using q2
  refine ⟨(s1.push (.cells 13 [instrL i])).set bL (.cells 1 ((vs.map fun v => [v]).set d [.sl s1.next 0 1])), ?_, fin _ s1.next (Nat.le_refl _) (by simp (maxSteps := 1000000) only [go_sem]) (by simp (maxSteps := 1000000) only [go_sem]; try omega) (fun c hc ho hcL => ?_) ?_ ?_⟩
  ·refine in24 (by simp) fun wf hab => ?_
   clear hab
   unfold c24
   refine .midK (fun L s => L = [(0, .ptr b 0 0), (1, I d), (5, .ptr σ.next 0 0)] ∧ s = s1) ?_ ?_
   ·refine .rg fun A hA K hK => ?_
    simp (maxSteps := 1000000) only [go_sem, hA.nil, hA.go, hA.yes, hA.noT, hA.noF, hA.skp]
    refine hK _ _ ?_; clear hK K hA A
    exact ⟨_, ⟨rfl, hS⟩, by simp (maxSteps := 1000000) only [go_sem]⟩
   rintro L s ⟨rfl, rfl⟩
   refine .midK (fun L t => L = [(0, .ptr b 0 0), (1, I d), (5, .ptr σ.next 0 0)] ∧ t = s) (.block ?_) ?_
   ·refine .seq (.rg fun A hA K hK => ?_)
    simp (maxSteps := 1000000) only [go_sem, hA.nil, hA.go, hA.yes, hA.noT, hA.noF, hA.skp]
    refine aopq_call (there_spec (ps := ps) hb d) (by simp (maxSteps := 1000000) only [go_sem]) ?_
    try simp (maxSteps := 1000000) only [go_sem, hA.nil, hA.go, hA.yes, hA.noT, hA.noF, hA.skp]
    refine hK _ _ ?_; clear hK K hA A
    refine .cond (t := false) (by simp [go_sem, e0]) (fun h => by cases h) (fun _ => ?_)
    refine .seq (.rg fun A hA K hK => ?_)
    simp (maxSteps := 1000000) only [go_sem, hA.nil, hA.go, hA.yes, hA.noT, hA.noF, hA.skp]
    have e5 : (ps.getD d []).length < 65536 := hlen
    have e3' : (if 0 ≤ (d : Int) ∧ (d : Int) < ps.length then IntKind.i64.wrap (65536 - ((ps.getD (d : Int).toNat []).length : Nat)) else 0) = (65536 - ((ps.getD d []).length : Nat) : Int) := by
     rw [if_pos ⟨by omega, e0⟩, Int.toNat_natCast, IntWalk.i64_in _ (by omega)]
    have e4 : ¬ ((65536 - ((ps.getD d []).length : Nat) : Int) < 1) := by omega
    refine aopq_call ((room_spec h1 d).to (congrArg I e3') rfl) (by simp (maxSteps := 1000000) only [go_sem]) ?_
    try simp (maxSteps := 1000000) only [go_sem, hA.nil, hA.go, hA.yes, hA.noT, hA.noF, hA.skp]
    refine hK _ _ ?_; clear hK K hA A
    refine .cond (t := false) (by simp (maxSteps := 1000000) only [go_sem, e4]) (fun h => by cases h) (fun _ => .skip ?_)
    exact ⟨_, ⟨rfl, rfl⟩, by simp (maxSteps := 1000000) only [go_sem]⟩
   rintro L t ⟨rfl, rfl⟩
   refine .seq (.rdx fun A hA K hK => ?_)
   simp (maxSteps := 200000) only [go_sem, hA.nil, hA.pur, hA.go, hA.yes, hA.noT, hA.noF, hA.skp, pure_mv, eff_mv, pure_pk, eff_pk, pure_al, eff_al, pure_bx, eff_bx, pure_bd, eff_bd, pure_bs, eff_bs, pure_ld, eff_ld, pure_st, eff_st, pure_nc, eff_nc, pure_bin, eff_bin, pure_un, eff_un, pure_cv, eff_cv, pure_mi, eff_mi, pure_mf, eff_mf, pure_mm, eff_mm, pure_ms, eff_ms, pure_sc, eff_sc, pure_fa, eff_fa, pure_fl, eff_fl, pure_ia, eff_ia, pure_lk, eff_lk, pure_mu, eff_mu, pure_lm, eff_lm, pure_rg, eff_rg, pure_nx, eff_nx, pure_en, eff_en, pure_ta, eff_ta, pure_ex, eff_ex, pure_ln, eff_ln, pure_ap, eff_ap, pure_mx, eff_mx, pure_call, eff_call, pure_callv, eff_callv, chk_nil, chk_cons, again, List.contains_cons, List.contains_nil, hb, hL, hg, hbx, e0, hdv, nsb, nsL, n5]
   refine aop_call (own_spec i hi _) (by simp (maxSteps := 1000000) only [go_sem]) ?_
   simp (maxSteps := 200000) only [go_sem, hA.nil, hA.pur, hA.go, hA.yes, hA.noT, hA.noF, hA.skp, pure_mv, eff_mv, pure_pk, eff_pk, pure_al, eff_al, pure_bx, eff_bx, pure_bd, eff_bd, pure_bs, eff_bs, pure_ld, eff_ld, pure_st, eff_st, pure_nc, eff_nc, pure_bin, eff_bin, pure_un, eff_un, pure_cv, eff_cv, pure_mi, eff_mi, pure_mf, eff_mf, pure_mm, eff_mm, pure_ms, eff_ms, pure_sc, eff_sc, pure_fa, eff_fa, pure_fl, eff_fl, pure_ia, eff_ia, pure_lk, eff_lk, pure_mu, eff_mu, pure_lm, eff_lm, pure_rg, eff_rg, pure_nx, eff_nx, pure_en, eff_en, pure_ta, eff_ta, pure_ex, eff_ex, pure_ln, eff_ln, pure_ap, eff_ap, pure_mx, eff_mx, pure_call, eff_call, pure_callv, eff_callv, chk_nil, chk_cons, again, List.contains_cons, List.contains_nil, hb, hL, hg, hbx, e0, hdv, nsb, nsL, n5]
   refine ⟨by decide, by decide, ?_⟩
   refine hK _ _ ?_; clear hK K hA A
   refine .seq (.rg fun A hA K hK => ?_)
   simp (maxSteps := 1000000) only [go_sem, hA.nil, hA.go, hA.yes, hA.noT, hA.noF, hA.skp]
   refine hK _ _ ?_; clear hK K hA A
   exact .ret (retS (by simp (maxSteps := 1000000) only [go_sem]) ⟨rfl, rfl⟩)
  ·simp (disch := omega) only [go_sem, if_neg]
  ·simp (maxSteps := 1000000) only [go_sem, e3]
  ·simp (maxSteps := 1000000) only [go_sem, e3, nsL2]
 ·rw [q1] at hg
  have hlen' : (ps.getD d []).length < 65536 := hlen
  have ltc := lts q2
  have ncb := ne_lab q2 h1.own0 (by omega)
  have ncL := ne_lab q2 h1.ownL (by omega)
  have ncs : ¬ c = s1.next := by omega
  have nLc : ¬ bL = c := fun e => ncL e.symm
  have nbc : ¬ b = c := fun e => ncb e.symm
  have nsc2 : ¬ s1.next = c := fun e => ncs e.symm
  have m1 : (ps.getD d []).length + 1 ≤ most := by simp only [most]; omega
  have m2 : ((ps.getD d []).length + 1) * 176 ≤ most := by simp only [most]; omega
  have ht : List.take (ps.getD d []).length (List.map instrL (ps.getD d [])) = List.map instrL (ps.getD d []) := List.take_of_length_le (by simp)
  refine ⟨((s1.kill c).push (.cells 13 ((ps.getD d [] ++ [i]).map instrL))).set bL (.cells 1 ((vs.map fun v => [v]).set d [.sl s1.next 0 (ps.getD d [] ++ [i]).length])), ?_, fin _ s1.next (Nat.le_refl _) (by simp (maxSteps := 1000000) only [go_sem]) (by simp (maxSteps := 1000000) only [go_sem]; try omega) (fun c2 hc ho hcL => ?_) ?_ ?_⟩
  ·refine in24 (by simp) fun wf hab => ?_
   clear hab
   unfold c24
   refine .midK (fun L s => L = [(0, .ptr b 0 0), (1, I d), (5, .ptr σ.next 0 0)] ∧ s = s1) ?_ ?_
   ·refine .rg fun A hA K hK => ?_
    simp (maxSteps := 1000000) only [go_sem, hA.nil, hA.go, hA.yes, hA.noT, hA.noF, hA.skp]
    refine hK _ _ ?_; clear hK K hA A
    exact ⟨_, ⟨rfl, hS⟩, by simp (maxSteps := 1000000) only [go_sem]⟩
   rintro L s ⟨rfl, rfl⟩
   refine .midK (fun L t => L = [(0, .ptr b 0 0), (1, I d), (5, .ptr σ.next 0 0)] ∧ t = s) (.block ?_) ?_
   ·refine .seq (.rg fun A hA K hK => ?_)
    simp (maxSteps := 1000000) only [go_sem, hA.nil, hA.go, hA.yes, hA.noT, hA.noF, hA.skp]
    refine aopq_call (there_spec (ps := ps) hb d) (by simp (maxSteps := 1000000) only [go_sem]) ?_
    try simp (maxSteps := 1000000) only [go_sem, hA.nil, hA.go, hA.yes, hA.noT, hA.noF, hA.skp]
    refine hK _ _ ?_; clear hK K hA A
    refine .cond (t := false) (by simp [go_sem, e0]) (fun h => by cases h) (fun _ => ?_)
    refine .seq (.rg fun A hA K hK => ?_)
    simp (maxSteps := 1000000) only [go_sem, hA.nil, hA.go, hA.yes, hA.noT, hA.noF, hA.skp]
    have e5 : (ps.getD d []).length < 65536 := hlen
    have e3' : (if 0 ≤ (d : Int) ∧ (d : Int) < ps.length then IntKind.i64.wrap (65536 - ((ps.getD (d : Int).toNat []).length : Nat)) else 0) = (65536 - ((ps.getD d []).length : Nat) : Int) := by
     rw [if_pos ⟨by omega, e0⟩, Int.toNat_natCast, IntWalk.i64_in _ (by omega)]
    have e4 : ¬ ((65536 - ((ps.getD d []).length : Nat) : Int) < 1) := by omega
    refine aopq_call ((room_spec h1 d).to (congrArg I e3') rfl) (by simp (maxSteps := 1000000) only [go_sem]) ?_
    try simp (maxSteps := 1000000) only [go_sem, hA.nil, hA.go, hA.yes, hA.noT, hA.noF, hA.skp]
    refine hK _ _ ?_; clear hK K hA A
    refine .cond (t := false) (by simp (maxSteps := 1000000) only [go_sem, e4]) (fun h => by cases h) (fun _ => .skip ?_)
    exact ⟨_, ⟨rfl, rfl⟩, by simp (maxSteps := 1000000) only [go_sem]⟩
   rintro L t ⟨rfl, rfl⟩
   refine .seq (.rdx fun A hA K hK => ?_)
   simp (maxSteps := 200000) only [go_sem, hA.nil, hA.pur, hA.go, hA.yes, hA.noT, hA.noF, hA.skp, pure_mv, eff_mv, pure_pk, eff_pk, pure_al, eff_al, pure_bx, eff_bx, pure_bd, eff_bd, pure_bs, eff_bs, pure_ld, eff_ld, pure_st, eff_st, pure_nc, eff_nc, pure_bin, eff_bin, pure_un, eff_un, pure_cv, eff_cv, pure_mi, eff_mi, pure_mf, eff_mf, pure_mm, eff_mm, pure_ms, eff_ms, pure_sc, eff_sc, pure_fa, eff_fa, pure_fl, eff_fl, pure_ia, eff_ia, pure_lk, eff_lk, pure_mu, eff_mu, pure_lm, eff_lm, pure_rg, eff_rg, pure_nx, eff_nx, pure_en, eff_en, pure_ta, eff_ta, pure_ex, eff_ex, pure_ln, eff_ln, pure_ap, eff_ap, pure_mx, eff_mx, pure_call, eff_call, pure_callv, eff_callv, chk_nil, chk_cons, again, List.contains_cons, List.contains_nil, hb, hL, hg, hbx, e0, hdv, nsb, nsL, n5, q3, m1, m2, ht, nLc, nbc]
   refine aop_call (own_spec i hi _) (by simp (maxSteps := 1000000) only [go_sem]) ?_
   simp (maxSteps := 200000) only [go_sem, hA.nil, hA.pur, hA.go, hA.yes, hA.noT, hA.noF, hA.skp, pure_mv, eff_mv, pure_pk, eff_pk, pure_al, eff_al, pure_bx, eff_bx, pure_bd, eff_bd, pure_bs, eff_bs, pure_ld, eff_ld, pure_st, eff_st, pure_nc, eff_nc, pure_bin, eff_bin, pure_un, eff_un, pure_cv, eff_cv, pure_mi, eff_mi, pure_mf, eff_mf, pure_mm, eff_mm, pure_ms, eff_ms, pure_sc, eff_sc, pure_fa, eff_fa, pure_fl, eff_fl, pure_ia, eff_ia, pure_lk, eff_lk, pure_mu, eff_mu, pure_lm, eff_lm, pure_rg, eff_rg, pure_nx, eff_nx, pure_en, eff_en, pure_ta, eff_ta, pure_ex, eff_ex, pure_ln, eff_ln, pure_ap, eff_ap, pure_mx, eff_mx, pure_call, eff_call, pure_callv, eff_callv, chk_nil, chk_cons, again, List.contains_cons, List.contains_nil, hb, hL, hg, hbx, e0, hdv, nsb, nsL, n5, q3, m1, m2, ht, nLc, nbc]
   refine hK _ _ ?_; clear hK K hA A
   refine .seq (.rg fun A hA K hK => ?_)
   simp (maxSteps := 1000000) only [go_sem, hA.nil, hA.go, hA.yes, hA.noT, hA.noF, hA.skp]
   refine hK _ _ ?_; clear hK K hA A
   refine .ret (retS (by simp (maxSteps := 1000000) only [go_sem]) ⟨rfl, ?_⟩)
   simp only [List.map_append, List.length_append, List.length_map, List.map_cons, List.map_nil, List.length_cons, List.length_nil, Nat.zero_add, instrL, I, ints]
  ·have : ¬ c2 = c := by rintro rfl; exact ho q2
   simp (disch := omega) only [go_sem, if_neg, this]
  ·simp (maxSteps := 1000000) only [go_sem, List.length_append]
  ·simp (maxSteps := 1000000) only [go_sem, nsL2, nsc2, List.map_append]
end mk
/-- A maker, plain: programs, the next registers, the next tag. -/
structure MkS where
 ps : List (List Instr)
 rs : List Int
 tg : Int
def MkS.put (m : MkS) (d : Nat) (i : Instr) : MkS := { m with ps := m.ps.set d (m.ps.getD d [] ++ [i]) }
def MkS.fresh (m : MkS) (d : Nat) : MkS := { m with rs := m.rs.set d (m.rs.getD d 0 + 1) }
def MkI (o : Nat → Option Nat) (s : St) (b bL bR : Nat) (m : MkS) : Prop := ∃ vs, Mk o s b bL bR vs m.ps m.rs m.tg
/-- Small enough, with room for more. -/
structure MkS.Sm (m : MkS) (k : Nat) : Prop where
 rl : m.rs.length = m.ps.length
 len : ∀ d, (m.ps.getD d []).length ≤ k
 r0 : ∀ d, 0 ≤ m.rs.getD d 0
 rk : ∀ d, m.rs.getD d 0 ≤ k
 t0 : 0 ≤ m.tg
 tk : m.tg ≤ k
 is : ∀ d, ∀ i ∈ m.ps.getD d [], i.Sm
 pl : m.ps.length ≤ 8
theorem gset_ne {α : Type} {l : List α} {d k : Nat} (x y : α) (h : k ≠ d) : (l.set d x).getD k y = l.getD k y := by
 rw [List.getD_eq_getElem?_getD, List.getElem?_set, if_neg (by omega), ← List.getD_eq_getElem?_getD]
theorem gset_eq {α : Type} {l : List α} {d : Nat} (x y : α) (h : d < l.length) : (l.set d x).getD d y = x := by
 simp [List.getD_eq_getElem?_getD, h]
theorem gset_out {α : Type} {l : List α} {d : Nat} (x : α) (h : ¬ d < l.length) : l.set d x = l := List.set_eq_of_length_le (by omega)
theorem MkS.Sm.mono {m : MkS} {k k' : Nat} (h : m.Sm k) (hk : k ≤ k') : m.Sm k' :=
 ⟨h.rl, fun d => Nat.le_trans (h.len d) hk, h.r0, fun d => by have := h.rk d; omega, h.t0, by have := h.tk; omega, h.is, h.pl⟩
theorem MkS.Sm.put {m : MkS} {k : Nat} (h : m.Sm k) (d : Nat) {i : Instr} (hi : i.Sm) : (m.put d i).Sm (k + 1) := by
 have h' := h.mono (Nat.le_succ k)
 by_cases hd : d < m.ps.length
 ·refine ⟨by simpa [MkS.put] using h.rl, fun e => ?_, h'.r0, h'.rk, h'.t0, h'.tk, fun e j hj => ?_, by simpa [MkS.put] using h.pl⟩
  ·simp only [MkS.put]
   by_cases hed : e = d
   ·subst hed; rw [gset_eq _ _ hd]; have := h.len e; simp only [List.length_append, List.length_cons, List.length_nil]; omega
   ·rw [gset_ne _ _ hed]; exact h'.len e
  ·simp only [MkS.put] at hj
   by_cases hed : e = d
   ·subst hed; rw [gset_eq _ _ hd] at hj
    rcases List.mem_append.1 hj with hj | hj
    ·exact h.is e j hj
    ·rw [List.mem_singleton.1 hj]; exact hi
   ·rw [gset_ne _ _ hed] at hj; exact h.is e j hj
 ·have : m.put d i = m := by simp only [MkS.put, gset_out _ hd]
  rw [this]; exact h'
theorem MkS.Sm.fresh {m : MkS} {k : Nat} (h : m.Sm k) (d : Nat) : (m.fresh d).Sm (k + 1) := by
 have h' := h.mono (Nat.le_succ k)
 by_cases hd : d < m.rs.length
 ·refine ⟨by simpa [MkS.fresh] using h.rl, h'.len, fun e => ?_, fun e => ?_, h'.t0, h'.tk, h.is, h.pl⟩
  ·simp only [MkS.fresh]
   by_cases hed : e = d
   ·subst hed; rw [gset_eq _ _ hd]; have := h.r0 e; omega
   ·rw [gset_ne _ _ hed]; exact h.r0 e
  ·simp only [MkS.fresh]
   by_cases hed : e = d
   ·subst hed; rw [gset_eq _ _ hd]; have := h.rk e; omega
   ·rw [gset_ne _ _ hed]; exact h'.rk e
 ·have : m.fresh d = m := by simp only [MkS.fresh, gset_out _ hd]
  rw [this]; exact h'

theorem rS0 {n0 : Nat} {F : Fr} {σ : St} {Q : AV → St → Prop} (hq : Q (.tup []) σ) : retQ n0 [] Q .normal F σ := ⟨[], by simp, .tup [], σ, .refl _ _ _, hq⟩
section mk
variable {o : Nat → Option Nat} {σ : St} {b bL bR k : Nat} {m : MkS}
theorem MkI.lt (h : MkI o σ b bL bR m) : ∀ c, o c ≠ none → c < σ.next := by obtain ⟨vs, h⟩ := h; exact h.lt
theorem MkI.frame (h : MkI o σ b bL bR m) {s : St} (hn : σ.next ≤ s.next) (hs : ∀ c, o c ≠ none → s.blk c = σ.blk c) : MkI o s b bL bR m := by obtain ⟨vs, h⟩ := h; exact ⟨vs, h.frame hn hs⟩
theorem growExt {s : St} (hn : σ.next ≤ s.next) (hs : ∀ c, c < σ.next → s.blk c = σ.blk c) : Grow o σ o s := ⟨hn, fun _ _ => rfl, fun c hc _ => hs c hc⟩
theorem MkI.ext (h : MkI o σ b bL bR m) {s : St} (hn : σ.next ≤ s.next) (hs : ∀ c, c < σ.next → s.blk c = σ.blk c) : MkI o s b bL bR m ∧ Grow o σ o s :=
 ⟨h.frame hn fun c hc => hs c (h.lt c hc), growExt hn hs⟩

/-- ring.put -/
theorem rput_T (h : MkI o σ b bL bR m) (hk : m.Sm k) (h6 : k < 65536) (d : Nat) (hd : d < m.ps.length) (i : Instr) (hi : i.Sm) :
  ∃ s, T Try.prog 109 [.ptr b 0 0, I d, .agg (instrL i)] σ (.tup []) s ∧ ∃ o', MkI o' s b bL bR (m.put d i) ∧ Grow o σ o' s := by
 obtain ⟨u, hu⟩ : ∃ u, σ.push (.cells 13 [instrL i]) = u := ⟨_, rfl⟩
 have h5 : u.blk σ.next = some (.cells 13 [instrL i]) := by rw [← hu, blk_push, if_pos rfl]
 obtain ⟨h1, g1⟩ := h.ext (s := u) (by rw [← hu, next_push]; omega) fun c hc => by rw [← hu, blk_push, if_neg (by omega)]
 obtain ⟨vs, hm⟩ := h1
 obtain ⟨s, hT, o', vs', h2, g2⟩ := put_T hm d hd (by have := hk.len d; omega) i hi
 refine ⟨s, ?_, o', ⟨vs', h2⟩, g1.trans g2⟩
 refine in109 (by simp) fun wf hab => ?_
 clear hab
 unfold c109
 refine .midK (fun L v => L = [(0, .ptr b 0 0), (1, I d), (5, .ptr σ.next 0 0)] ∧ v = u) ?_ ?_
 ·refine .rg fun A hA K hK => ?_
  simp (maxSteps := 1000000) only [go_sem, hA.nil, hA.go, hA.yes, hA.noT, hA.noF, hA.skp, instrL]
  refine hK _ _ ?_; clear hK K hA A
  exact ⟨_, ⟨rfl, hu⟩, by simp (maxSteps := 1000000) only [go_sem]⟩
 rintro L v ⟨rfl, rfl⟩
 simp only [instrL] at h5
 refine .rg fun A hA K hK => ?_
 simp (maxSteps := 1000000) only [go_sem, hA.nil, hA.go, hA.yes, hA.noT, hA.noF, hA.skp, h5]
 refine aopq_callT hT (by simp (maxSteps := 1000000) only [go_sem, instrL]) ?_
 try simp (maxSteps := 1000000) only [go_sem, hA.nil, hA.go, hA.yes, hA.noT, hA.noF, hA.skp]
 refine hK _ _ ?_; clear hK K hA A
 exact rS0 ⟨rfl, rfl⟩

def workI (r : Int) (ins : List Int) (n : Node) : Instr := ⟨2, r, ins, n, 0, 0, 0⟩
def sendJ (r to tag : Int) : Instr := ⟨3, 0, [r], emptyN, 0, to, tag⟩
def recvJ (r frm tag : Int) : Instr := ⟨4, r, [], emptyN, 0, frm, tag⟩

/-- ring.Work -/
theorem work_T (h : MkI o σ b bL bR m) (hk : m.Sm k) (h6 : k + 1 < 65536) (d : Nat) (hd : d < m.ps.length) (n : Node) (ins : List Int) (hi : ∀ r, (workI r ins n).Sm) :
  ∃ s, T Try.prog 78 [.ptr b 0 0, I d, .agg (nodeL n), ints ins] σ (I (m.rs.getD d 0)) s ∧ ∃ o', MkI o' s b bL bR ((m.fresh d).put d (workI (m.rs.getD d 0) ins n)) ∧ Grow o σ o' s := by
 obtain ⟨u, hu⟩ : ∃ u, σ.push (.cells 7 [nodeL n]) = u := ⟨_, rfl⟩
 have h5 : u.blk σ.next = some (.cells 7 [nodeL n]) := by rw [← hu, blk_push, if_pos rfl]
 have hun : u.next = σ.next + 1 := by rw [← hu, next_push]
 obtain ⟨h1, g1⟩ := h.ext (s := u) (by omega) fun c hc => by rw [← hu, blk_push, if_neg (by omega)]
 have ho : o σ.next = none := by
  cases hh : o σ.next with
  | none => rfl
  | some x => have := h.lt σ.next (by rw [hh]; simp); omega
 obtain ⟨vs, hm⟩ := h1
 simp only [nodeL] at h5
 have r0 := hk.r0 d
 have rk := hk.rk d
 obtain ⟨hT1, h2, g2⟩ := fresh_T hm d hd ⟨r0, by omega⟩
 generalize u.set bR (.cells 1 ((m.rs.set d (m.rs.getD d 0 + 1)).map fun r => [I r])) = s1 at hT1 h2 g2
 have hM2 : MkI o s1 b bL bR (m.fresh d) := ⟨_, h2⟩
 have h5s : s1.blk σ.next = some (.cells 7 [[I n.op, ints n.ins, ints n.shape, ints n.a, I n.n, I n.how, .str n.note]]) := (g2.2.2 _ (by omega) ho).trans h5
 obtain ⟨s, hT, o', h3, g3⟩ := rput_T hM2 (hk.fresh d) (by omega) d hd (workI (m.rs.getD d 0) ins n) (hi _)
 refine ⟨s, ?_, o', h3, g1.trans (g2.trans g3)⟩
 refine in78 (by simp) fun wf hab => ?_
 clear hab
 unfold c78
 refine .midK (fun L v => L = [(0, .ptr b 0 0), (1, I d), (3, ints ins), (6, .ptr σ.next 0 0)] ∧ v = u) ?_ ?_
 ·refine .rg fun A hA K hK => ?_
  simp (maxSteps := 1000000) only [go_sem, hA.nil, hA.go, hA.yes, hA.noT, hA.noF, hA.skp, nodeL]
  refine hK _ _ ?_; clear hK K hA A
  exact ⟨_, ⟨rfl, hu⟩, by simp (maxSteps := 1000000) only [go_sem]⟩
 rintro L v ⟨rfl, rfl⟩
 refine .seq (.rg fun A hA K hK => ?_)
 simp (maxSteps := 1000000) only [go_sem, hA.nil, hA.go, hA.yes, hA.noT, hA.noF, hA.skp]
 refine aopq_callT hT1 (by simp (maxSteps := 1000000) only [go_sem]) ?_
 try simp (maxSteps := 1000000) only [go_sem, hA.nil, hA.go, hA.yes, hA.noT, hA.noF, hA.skp]
 refine hK _ _ ?_; clear hK K hA A
 refine .seq (.rg fun A hA K hK => ?_)
 simp (maxSteps := 1000000) only [go_sem, hA.nil, hA.go, hA.yes, hA.noT, hA.noF, hA.skp, h5s]
 refine aopq_callT hT (by simp (maxSteps := 1000000) only [go_sem, instrL, workI]) ?_
 try simp (maxSteps := 1000000) only [go_sem, hA.nil, hA.go, hA.yes, hA.noT, hA.noF, hA.skp]
 refine hK _ _ ?_; clear hK K hA A
 refine .seq (.rg fun A hA K hK => ?_)
 simp (maxSteps := 1000000) only [go_sem, hA.nil, hA.go, hA.yes, hA.noT, hA.noF, hA.skp]
 refine hK _ _ ?_; clear hK K hA A
 exact .ret (retS (by simp (maxSteps := 1000000) only [go_sem]; try rfl) ⟨rfl, rfl⟩)
end mk
def withinE (n lo hi : Int) : Int :=
 if n ≥ lo ∧ n ≤ hi then n else lo + (if n.tmod (hi - lo + 1) < 0 then n.tmod (hi - lo + 1) + (hi - lo + 1) else n.tmod (hi - lo + 1))
theorem tmod_small (n k : Int) (h : 0 < k) : -k < n.tmod k ∧ n.tmod k < k := by
 have h1 := Int.tmod_lt_of_pos n h
 have h2 := Int.tmod_lt_of_pos (-n) h
 rw [Int.neg_tmod] at h2
 exact ⟨by omega, h1⟩
theorem withinE_in (n lo hi : Int) (h : lo ≤ hi) : lo ≤ withinE n lo hi ∧ withinE n lo hi ≤ hi := by
 unfold withinE
 have := tmod_small n (hi - lo + 1) (by omega)
 split
 ·omega
 ·split <;> omega

/-- parquetrybook.Within -/
theorem within_spec (n lo hi : Int) (h : lo ≤ hi) (hl : -2 ^ 60 ≤ lo) (hh : hi ≤ 2 ^ 60) (σ : St) : T Try.prog 36 [I n, I lo, I hi] σ (I (withinE n lo hi)) σ := by
 refine in36 (by simp) fun wf hab => ?_
 clear hab
 have w1 : IntKind.i64.wrap (hi - lo) = hi - lo := IntWalk.i64_in _ (by omega)
 have w2 : IntKind.i64.wrap (hi - lo + 1) = hi - lo + 1 := IntWalk.i64_in _ (by omega)
 have w0 : ¬ (hi - lo + 1 = 0) := by omega
 have hm := tmod_small n (hi - lo + 1) (by omega)
 have rest : ∀ F s, F 0 = I n → F 1 = I lo → F 2 = I hi → s = σ → ¬ (n ≥ lo ∧ n ≤ hi) → SWP Try.prog σ.next (.seq (.reg [⟨some 16, none, .mv (.t 0)⟩, ⟨some 17, none, .mv (.t 2)⟩, ⟨some 18, none, .mv (.t 1)⟩, ⟨some 19, none, .bin .sub 0 (.t 17) (.t 18)⟩, ⟨some 20, none, .bin .add 0 (.t 19) (.k (.int .i64 1))⟩, ⟨some 21, none, .bin .rem 0 (.t 16) (.t 20)⟩, ⟨some 0, none, .mv (.t 21)⟩])
   (.seq (.seq (.reg [⟨some 22, none, .mv (.t 0)⟩, ⟨some 23, none, .bin .lss 0 (.t 22) (.k (.int .i64 0))⟩])
   (.cond (.t 23)
    (.reg [⟨some 24, none, .mv (.t 0)⟩, ⟨some 25, none, .mv (.t 2)⟩, ⟨some 26, none, .bin .add 0 (.t 24) (.t 25)⟩, ⟨some 27, none, .mv (.t 1)⟩, ⟨some 28, none, .bin .sub 0 (.t 26) (.t 27)⟩, ⟨some 29, none, .bin .add 0 (.t 28) (.k (.int .i64 1))⟩, ⟨some 0, none, .mv (.t 29)⟩])
    .skip))
   (.seq (.reg [⟨some 30, none, .mv (.t 1)⟩, ⟨some 31, none, .mv (.t 0)⟩, ⟨some 32, none, .bin .add 0 (.t 30) (.t 31)⟩, ⟨some 6, none, .mv (.t 32)⟩])
   .ret))) (retQ σ.next [.t 6] fun v' s' => v' = I (withinE n lo hi) ∧ s' = σ) F s := by
  rintro F s h0 h1 h2 rfl hno
  refine .seq (.rg fun A hA K hK => ?_)
  simp (maxSteps := 1000000) only [go_sem, hA.nil, hA.go, hA.yes, hA.noT, hA.noF, hA.skp, h0, h1, h2, w1, w2, w0]
  refine hK _ _ ?_; clear hK K hA A
  refine .seq (.seq (.rg fun A hA K hK => ?_))
  simp (maxSteps := 1000000) only [go_sem, hA.nil, hA.go, hA.yes, hA.noT, hA.noF, hA.skp]
  refine hK _ _ ?_; clear hK K hA A
  by_cases hneg : n.tmod (hi - lo + 1) < 0
  ·have w3 : IntKind.i64.wrap (n.tmod (hi - lo + 1) + hi) = n.tmod (hi - lo + 1) + hi := IntWalk.i64_in _ (by omega)
   have w4 : IntKind.i64.wrap (n.tmod (hi - lo + 1) + hi - lo) = n.tmod (hi - lo + 1) + hi - lo := IntWalk.i64_in _ (by omega)
   have w5 : IntKind.i64.wrap (n.tmod (hi - lo + 1) + hi - lo + 1) = n.tmod (hi - lo + 1) + hi - lo + 1 := IntWalk.i64_in _ (by omega)
   have w6 : IntKind.i64.wrap (lo + (n.tmod (hi - lo + 1) + hi - lo + 1)) = withinE n lo hi := by
    rw [withinE, if_neg hno, if_pos hneg, IntWalk.i64_in _ (by omega)]; omega
   refine .cond (t := true) (by simp (maxSteps := 1000000) only [go_sem, hneg]) (fun _ => ?_) (fun h => by cases h)
   refine .rg fun A hA K hK => ?_
   simp (maxSteps := 1000000) only [go_sem, hA.nil, hA.go, hA.yes, hA.noT, hA.noF, hA.skp, h1, h2, w3, w4, w5]
   refine hK _ _ ?_; clear hK K hA A
   refine .seq (.rg fun A hA K hK => ?_)
   simp (maxSteps := 1000000) only [go_sem, hA.nil, hA.go, hA.yes, hA.noT, hA.noF, hA.skp, h1, w6]
   refine hK _ _ ?_; clear hK K hA A
   exact .ret (ret1 (by simp (maxSteps := 1000000) only [go_sem]) rfl)
  ·have w6 : IntKind.i64.wrap (lo + n.tmod (hi - lo + 1)) = withinE n lo hi := by
    rw [withinE, if_neg hno, if_neg hneg, IntWalk.i64_in _ (by omega)]
   refine .cond (t := false) (by simp (maxSteps := 1000000) only [go_sem, hneg]) (fun h => by cases h) (fun _ => .skip ?_)
   refine .seq (.rg fun A hA K hK => ?_)
   simp (maxSteps := 1000000) only [go_sem, hA.nil, hA.go, hA.yes, hA.noT, hA.noF, hA.skp, h1, w6]
   refine hK _ _ ?_; clear hK K hA A
   exact .ret (ret1 (by simp (maxSteps := 1000000) only [go_sem]) rfl)
 unfold c36
 refine .seq (.rg fun A hA K hK => ?_)
 simp (maxSteps := 1000000) only [go_sem, hA.nil, hA.go, hA.yes, hA.noT, hA.noF, hA.skp]
 refine hK _ _ ?_; clear hK K hA A
 by_cases h1 : n ≥ lo
 ·by_cases h2 : n ≤ hi
  ·refine .seq (.seq (.rg fun A hA K hK => ?_))
   simp (maxSteps := 1000000) only [go_sem, hA.nil, hA.go, hA.yes, hA.noT, hA.noF, hA.skp, h1, h2]
   refine hK _ _ ?_; clear hK K hA A
   refine .cond (t := true) (by simp (maxSteps := 1000000) only [go_sem, h1, h2]) (fun _ => ?_) (fun h => by cases h)
   refine .seq (.rg fun A hA K hK => ?_)
   simp (maxSteps := 1000000) only [go_sem, hA.nil, hA.go, hA.yes, hA.noT, hA.noF, hA.skp]
   refine hK _ _ ?_; clear hK K hA A
   exact .ret (ret1 (by rw [withinE, if_pos ⟨h1, h2⟩]; simp (maxSteps := 1000000) only [go_sem]) rfl)
  ·refine .seq (.seq (.rg fun A hA K hK => ?_))
   simp (maxSteps := 1000000) only [go_sem, hA.nil, hA.go, hA.yes, hA.noT, hA.noF, hA.skp, h1, h2]
   refine hK _ _ ?_; clear hK K hA A
   refine .cond (t := false) (by simp (maxSteps := 1000000) only [go_sem, h1, h2]) (fun h => by cases h) (fun _ => .skip ?_)
   exact rest _ _ (by simp (maxSteps := 1000000) only [go_sem]) (by simp (maxSteps := 1000000) only [go_sem]) (by simp (maxSteps := 1000000) only [go_sem]) rfl (fun h => h2 h.2)
 ·refine .seq (.seq (.rg fun A hA K hK => ?_))
  simp (maxSteps := 1000000) only [go_sem, hA.nil, hA.go, hA.yes, hA.noT, hA.noF, hA.skp, h1]
  refine hK _ _ ?_; clear hK K hA A
  refine .cond (t := false) (by simp (maxSteps := 1000000) only [go_sem, h1]) (fun h => by cases h) (fun _ => .skip ?_)
  exact rest _ _ (by simp (maxSteps := 1000000) only [go_sem]) (by simp (maxSteps := 1000000) only [go_sem]) (by simp (maxSteps := 1000000) only [go_sem]) rfl (fun h => h1 h.1)

/-! The tape: what is read, and where one is then. -/
def nxE (l : List Int) (p : Nat) (n : Int) : Int := if l.length ≤ p ∨ n < 1 then 0 else (withinE (l.getD p 0) 0 1073741824).tmod n
def nxP (l : List Int) (p : Nat) (n : Int) : Nat := if l.length ≤ p ∨ n < 1 then p else p + 1
theorem nxE_in (l : List Int) (p : Nat) (n : Int) : 0 ≤ nxE l p n ∧ (1 ≤ n → nxE l p n < n) ∧ nxE l p n ≤ 1073741824 := by
 have h1 := withinE_in (l.getD p 0) 0 1073741824 (by decide)
 unfold nxE
 split
 ·omega
 ·refine ⟨Int.tmod_nonneg _ h1.1, fun h => Int.tmod_lt_of_pos _ (by omega), ?_⟩
  have h2 : (withinE (l.getD p 0) 0 1073741824).tmod n ≤ withinE (l.getD p 0) 0 1073741824 := by
   rcases Int.lt_or_le (withinE (l.getD p 0) 0 1073741824) n with h | h
   ·rw [Int.tmod_eq_of_lt h1.1 h]; omega
   ·have := Int.tmod_lt_of_pos (withinE (l.getD p 0) 0 1073741824) (show 0 < n by omega)
    omega
  omega
abbrev tapeB (l : List Int) (p : Nat) : Blk := .cells 2 [[ints l, I p]]

theorem set_same {σ : St} {b : Nat} {B : Blk} (h : σ.blk b = some B) : σ.set b B = σ := by
 cases σ with
 | mk nx bl =>
  simp only [St.set, St.mk.injEq, true_and]
  funext c
  by_cases hc : c = b
  ·subst hc; rw [if_pos rfl]; exact h.symm
  ·rw [if_neg hc]


/-- Tape.Next -/
theorem next_spec {σ : St} {l : List Int} {p bT : Nat} (hb : σ.blk bT = some (tapeB l p)) (n : Int) (hp : p ≤ 2 ^ 50) : T Try.prog 53 [.ptr bT 0 0, I n] σ (I (nxE l p n)) (σ.set bT (tapeB l (nxP l p n))) := by
 refine in53 (by simp) fun wf hab => ?_
 clear hab
 simp only [tapeB] at hb
 unfold c53
 refine .seq (.rg fun A hA K hK => ?_)
 simp (maxSteps := 1000000) only [go_sem, hA.nil, hA.go, hA.yes, hA.noT, hA.noF, hA.skp]
 refine hK _ _ ?_; clear hK K hA A
 by_cases h1 : (p : Int) ≥ l.length
 ·have e1 : nxE l p n = 0 := if_pos (.inl (by omega))
  have e2 : nxP l p n = p := if_pos (.inl (by omega))
  refine .seq (.seq (.rd fun A hA K hK => ?_))
  simp (maxSteps := 1000000) only [go_sem, hA.nil, hA.go, hA.yes, hA.noT, hA.noF, hA.skp, hb, h1]
  refine hK _ _ ?_; clear hK K hA A
  refine .cond (t := true) (by simp (maxSteps := 1000000) only [go_sem]) (fun _ => ?_) (fun h => by cases h)
  refine .seq (.rg fun A hA K hK => ?_)
  simp (maxSteps := 1000000) only [go_sem, hA.nil, hA.go, hA.yes, hA.noT, hA.noF, hA.skp]
  refine hK _ _ ?_; clear hK K hA A
  exact .ret (retS (by simp (maxSteps := 1000000) only [go_sem]; try rfl) ⟨by rw [e1], by rw [e2, set_same hb]⟩)
 ·by_cases h2 : n < 1
  ·have e1 : nxE l p n = 0 := if_pos (.inr h2)
   have e2 : nxP l p n = p := if_pos (.inr h2)
   refine .seq (.seq (.rd fun A hA K hK => ?_))
   simp (maxSteps := 1000000) only [go_sem, hA.nil, hA.go, hA.yes, hA.noT, hA.noF, hA.skp, hb, h1, h2]
   refine hK _ _ ?_; clear hK K hA A
   refine .cond (t := true) (by simp (maxSteps := 1000000) only [go_sem]) (fun _ => ?_) (fun h => by cases h)
   refine .seq (.rg fun A hA K hK => ?_)
   simp (maxSteps := 1000000) only [go_sem, hA.nil, hA.go, hA.yes, hA.noT, hA.noF, hA.skp]
   refine hK _ _ ?_; clear hK K hA A
   exact .ret (retS (by simp (maxSteps := 1000000) only [go_sem]; try rfl) ⟨by rw [e1], by rw [e2, set_same hb]⟩)
  ·have hp' : p < l.length := by omega
   have e1 : nxE l p n = (withinE (l.getD p 0) 0 1073741824).tmod n := if_neg (by omega)
   have e2 : nxP l p n = p + 1 := if_neg (by omega)
   have w1 : IntKind.i64.wrap ((p : Int) + 1) = ((p + 1 : Nat) : Int) := IntWalk.i64_in _ (by omega)
   have w2 : IntKind.i64.wrap (((p + 1 : Nat) : Int) - 1) = p := by rw [IntWalk.i64_in _ (by omega)]; omega
   have e0 : (p : Int) < l.length := by omega
   have n0 : ¬ n = 0 := by omega
   have hg : (l.map fun n => [I n]).getD p [] = [I (l.getD p 0)] := by rw [ints_get hp']; simp [List.getD_eq_getElem?_getD, hp']
   refine .seq (.seq (.rd fun A hA K hK => ?_))
   simp (maxSteps := 1000000) only [go_sem, hA.nil, hA.go, hA.yes, hA.noT, hA.noF, hA.skp, hb, h1, h2]
   refine hK _ _ ?_; clear hK K hA A
   refine .cond (t := false) (by simp (maxSteps := 1000000) only [go_sem]) (fun h => by cases h) (fun _ => .skip ?_)
   refine .seq (.rg fun A hA K hK => ?_)
   simp (maxSteps := 1000000) only [go_sem, hA.nil, hA.go, hA.yes, hA.noT, hA.noF, hA.skp, hb, w1]
   refine hK _ _ ?_; clear hK K hA A
   refine .seq (.rd fun A hA K hK => ?_)
   simp (maxSteps := 1000000) only [go_sem, hA.nil, hA.go, hA.yes, hA.noT, hA.noF, hA.skp, w2, e0, hg]
   refine aopq_call (within_spec (l.getD p 0) 0 1073741824 (by decide) (by decide) (by decide) _) (by simp (maxSteps := 1000000) only [go_sem, n0]) ?_
   try simp (maxSteps := 1000000) only [go_sem, hA.nil, hA.go, hA.yes, hA.noT, hA.noF, hA.skp, n0]
   refine hK _ _ ?_; clear hK K hA A
   exact .ret (retS (by simp (maxSteps := 1000000) only [go_sem]; try rfl) ⟨by rw [e1], by rw [e2]; simp only [tapeB, ints]⟩)

/-- parquetryref1.Right -/
def okDim (s : List Int) (i : Nat) : Bool := decide (0 ≤ s.getD i 0) && decide (s.getD i 0 ≤ 32) && decide (i < 4)
def prodI (s : List Int) : Int := s.foldl (fun n x => n * x) 1
def rightS (s : List Int) : Bool := (List.range s.length).all (okDim s) && decide (prodI s ≤ 4096)

theorem prodI_take {s : List Int} {i : Nat} (h : i < s.length) : prodI (s.take (i + 1)) = prodI (s.take i) * s[i] := foldl_take _ _ s i h
theorem prodI_bound {s : List Int} : ∀ i, i ≤ s.length → (List.range i).all (okDim s) = true → i ≤ 4 ∧ 0 ≤ prodI (s.take i) ∧ prodI (s.take i) ≤ 32 ^ i
 | 0, _, _ => by simp [prodI]
 | i + 1, hi, h => by
  rw [List.range_succ, List.all_append, Bool.and_eq_true] at h
  obtain ⟨h1, h2, h3⟩ := prodI_bound i (by omega) h.1
  have h4 : okDim s i = true := by simpa using h.2
  simp only [okDim, Bool.and_eq_true, decide_eq_true_eq] at h4
  have hs : s.getD i 0 = s[i] := by simp [List.getD_eq_getElem?_getD, show i < s.length by omega]
  rw [hs] at h4
  rw [prodI_take (by omega)]
  refine ⟨by omega, Int.mul_nonneg h2 h4.1.1, ?_⟩
  rw [Int.pow_succ]
  exact Int.mul_le_mul h3 h4.1.2 h4.1.1 (Int.pow_nonneg (by decide))

theorem right1_spec (s : List Int) (σ : St) : T Try.prog 93 [ints s] σ (.bool (rightS s)) σ := by
 refine in93 (by simp) fun wf hab => ?_
 have hl := hab_ints (hab 0 (by simp))
 clear hab
 unfold c93
 refine .seq (.rg fun A hA K hK => ?_)
 simp (maxSteps := 1000000) only [go_sem, hA.nil, hA.go, hA.yes, hA.noT, hA.noF, hA.skp]
 refine hK _ _ ?_; clear hK K hA A
 refine .seq (.rg fun A hA K hK => ?_)
 simp (maxSteps := 1000000) only [go_sem, hA.nil, hA.go, hA.yes, hA.noT, hA.noF, hA.skp]
 refine hK _ _ ?_; clear hK K hA A
 refine .seq (.seq (.rg fun A hA K hK => ?_))
 simp (maxSteps := 1000000) only [go_sem, hA.nil, hA.go, hA.yes, hA.noT, hA.noF, hA.skp]
 refine hK _ _ ?_; clear hK K hA A
 refine .countK (N := s.length) (fun i L t => L = [(0, ints s), (3, I (prodI (s.take i))), (4, I i)] ∧ σ = t ∧ (List.range i).all (okDim s) = true) hl
  ⟨_, ⟨rfl, rfl, by simp⟩, by simp (maxSteps := 1000000) only [go_sem, prodI, List.foldl_nil]; try rfl⟩ ?_ ?_ ?_
 ·rintro i L t hi ⟨rfl, rfl, ha⟩
  refine .rg fun A hA K hK => ?_
  simp (maxSteps := 1000000) only [go_sem, hA.nil, hA.go, hA.yes, hA.noT, hA.noF, hA.skp]
  refine hK _ _ ?_; clear hK K hA A
  exact ⟨rfl, by simp (maxSteps := 1000000) only [go_sem, Int.ofNat_lt], _, ⟨rfl, rfl, ha⟩, by simp (maxSteps := 1000000) only [go_sem]⟩
 ·rintro i L t hi ⟨rfl, rfl, ha⟩
  have e0 : (i : Int) < s.length := by omega
  have hg : (s.map fun n => [I n]).getD i [] = [I (s.getD i 0)] := by rw [ints_get hi]; simp [List.getD_eq_getElem?_getD, hi]
  obtain ⟨b1, b2, b3⟩ := prodI_bound i (by omega) ha
  have hsi : s.getD i 0 = s[i] := by simp [List.getD_eq_getElem?_getD, hi]
  have bad : okDim s i = false → rightS s = false := by
   intro h
   simp only [rightS, Bool.and_eq_false_iff]
   refine .inl (Bool.eq_false_iff.2 fun hall => ?_)
   rw [List.all_eq_true] at hall
   have := hall i (by simpa using hi)
   rw [this] at h; cases h
  refine .midK (fun L t => L = [(0, ints s), (3, I (prodI (s.take i))), (4, I i)] ∧ σ = t ∧ okDim s i = true) ?_ ?_
  ·by_cases h1 : s.getD i 0 < 0
   ·have hb := bad (by simp only [okDim, Bool.and_eq_false_iff, decide_eq_false_iff_not]; omega)
    refine .seq (.rg fun A hA K hK => ?_)
    simp (maxSteps := 1000000) only [go_sem, hA.nil, hA.go, hA.yes, hA.noT, hA.noF, hA.skp, e0, hg, h1]
    refine hK _ _ ?_; clear hK K hA A
    refine .cond (t := true) (by simp (maxSteps := 1000000) only [go_sem]) (fun _ => ?_) (fun h => by cases h)
    refine .seq (.rg fun A hA K hK => ?_)
    simp (maxSteps := 1000000) only [go_sem, hA.nil, hA.go, hA.yes, hA.noT, hA.noF, hA.skp]
    refine hK _ _ ?_; clear hK K hA A
    exact .ret (ret1 (by simp (maxSteps := 1000000) only [go_sem, hb]) rfl)
   ·by_cases h2 : s.getD i 0 > 32
    ·have hb := bad (by simp only [okDim, Bool.and_eq_false_iff, decide_eq_false_iff_not]; omega)
     refine .seq (.rg fun A hA K hK => ?_)
     simp (maxSteps := 1000000) only [go_sem, hA.nil, hA.go, hA.yes, hA.noT, hA.noF, hA.skp, e0, hg, h1, h2]
     refine hK _ _ ?_; clear hK K hA A
     refine .cond (t := true) (by simp (maxSteps := 1000000) only [go_sem]) (fun _ => ?_) (fun h => by cases h)
     refine .seq (.rg fun A hA K hK => ?_)
     simp (maxSteps := 1000000) only [go_sem, hA.nil, hA.go, hA.yes, hA.noT, hA.noF, hA.skp]
     refine hK _ _ ?_; clear hK K hA A
     exact .ret (ret1 (by simp (maxSteps := 1000000) only [go_sem, hb]) rfl)
    ·by_cases h3 : (i : Int) ≥ 4
     ·have hb := bad (by simp only [okDim, Bool.and_eq_false_iff, decide_eq_false_iff_not]; omega)
      refine .seq (.rg fun A hA K hK => ?_)
      simp (maxSteps := 1000000) only [go_sem, hA.nil, hA.go, hA.yes, hA.noT, hA.noF, hA.skp, e0, hg, h1, h2, h3]
      refine hK _ _ ?_; clear hK K hA A
      refine .cond (t := true) (by simp (maxSteps := 1000000) only [go_sem]) (fun _ => ?_) (fun h => by cases h)
      refine .seq (.rg fun A hA K hK => ?_)
      simp (maxSteps := 1000000) only [go_sem, hA.nil, hA.go, hA.yes, hA.noT, hA.noF, hA.skp]
      refine hK _ _ ?_; clear hK K hA A
      exact .ret (ret1 (by simp (maxSteps := 1000000) only [go_sem, hb]) rfl)
     ·refine .seq (.rg fun A hA K hK => ?_)
      simp (maxSteps := 1000000) only [go_sem, hA.nil, hA.go, hA.yes, hA.noT, hA.noF, hA.skp, e0, hg, h1, h2, h3]
      refine hK _ _ ?_; clear hK K hA A
      refine .cond (t := false) (by simp (maxSteps := 1000000) only [go_sem]) (fun h => by cases h) (fun _ => .skip ?_)
      exact ⟨_, ⟨rfl, rfl, by simp only [okDim, Bool.and_eq_true, decide_eq_true_eq]; omega⟩, by simp (maxSteps := 1000000) only [go_sem]⟩
  ·rintro L t ⟨rfl, rfl, hok⟩
   have hok' := hok
   simp only [okDim, Bool.and_eq_true, decide_eq_true_eq] at hok'
   have ha' : (List.range (i + 1)).all (okDim s) = true := by rw [List.range_succ, List.all_append, ha]; simpa using hok
   have b4 := prodI_bound (i + 1) (by omega) ha'
   have b5 : (32 : Int) ^ (i + 1) ≤ 32 ^ 4 := by
    rcases (by omega : i = 0 ∨ i = 1 ∨ i = 2 ∨ i = 3) with rfl | rfl | rfl | rfl <;> decide
   have w1 : IntKind.i64.wrap (prodI (s.take i) * s.getD i 0) = prodI (s.take (i + 1)) := by
    rw [prodI_take hi, ← hsi, IntWalk.i64_in]
    rw [prodI_take hi, ← hsi] at b4; omega
   refine .rg fun A hA K hK => ?_
   simp (maxSteps := 1000000) only [go_sem, hA.nil, hA.go, hA.yes, hA.noT, hA.noF, hA.skp, e0, hg, w1]
   refine hK _ _ ?_; clear hK K hA A
   exact ⟨by simp (maxSteps := 1000000) only [go_sem], _, ⟨rfl, rfl, ha'⟩, by simp (maxSteps := 1000000) only [go_sem]; try rfl⟩
 ·rintro L t F ⟨rfl, rfl, ha⟩ hf
  simp (maxSteps := 1000000) only [go_sem] at hf
  rw [List.take_length] at hf
  have hr : rightS s = decide (prodI s ≤ 4096) := by rw [rightS, ha]; rfl
  refine .seq (.rg fun A hA K hK => ?_)
  simp (maxSteps := 1000000) only [go_sem, hA.nil, hA.go, hA.yes, hA.noT, hA.noF, hA.skp, hf]
  refine hK _ _ ?_; clear hK K hA A
  exact .ret (ret1 (by simp (maxSteps := 1000000) only [go_sem, hr]) rfl)


def sizeE (s : List Int) : Int := if rightS s = true then prodI s else 0
theorem sizeE_in (s : List Int) : 0 ≤ sizeE s ∧ sizeE s ≤ 4096 := by
 unfold sizeE; split
 ·rename_i h
  simp only [rightS, Bool.and_eq_true, decide_eq_true_eq] at h
  have := prodI_bound s.length (Nat.le_refl _) h.1
  rw [List.take_length] at this
  exact ⟨this.2.1, h.2⟩
 ·omega

/-- parquetryref1.Size -/
theorem size_spec (s : List Int) (σ : St) : T Try.prog 91 [ints s] σ (I (sizeE s)) σ := by
 refine in91 (by simp) fun wf hab => ?_
 have hl := hab_ints (hab 0 (by simp))
 clear hab
 unfold c91
 refine .seq (.rg fun A hA K hK => ?_)
 simp (maxSteps := 1000000) only [go_sem, hA.nil, hA.go, hA.yes, hA.noT, hA.noF, hA.skp]
 refine hK _ _ ?_; clear hK K hA A
 refine .seq (.seq (.rg fun A hA K hK => ?_))
 simp (maxSteps := 1000000) only [go_sem, hA.nil, hA.go, hA.yes, hA.noT, hA.noF, hA.skp]
 refine aopq_call (right1_spec s _) (by simp (maxSteps := 1000000) only [go_sem]) ?_
 try simp (maxSteps := 1000000) only [go_sem, hA.nil, hA.go, hA.yes, hA.noT, hA.noF, hA.skp]
 refine hK _ _ ?_; clear hK K hA A
 refine .cond (t := !rightS s) (by simp (maxSteps := 1000000) only [go_sem]) (fun ht => ?_) (fun ht => .skip ?_)
 ·have hs : sizeE s = 0 := if_neg (by intro h; rw [h] at ht; cases ht)
  refine .seq (.rg fun A hA K hK => ?_)
  simp (maxSteps := 1000000) only [go_sem, hA.nil, hA.go, hA.yes, hA.noT, hA.noF, hA.skp]
  refine hK _ _ ?_; clear hK K hA A
  exact .ret (ret1 (by simp (maxSteps := 1000000) only [go_sem, hs]) rfl)
 have hr : rightS s = true := by simpa using ht
 have hs : sizeE s = prodI s := if_pos hr
 have ha : (List.range s.length).all (okDim s) = true := by
  simp only [rightS, Bool.and_eq_true] at hr; exact hr.1
 refine .seq (.rg fun A hA K hK => ?_)
 simp (maxSteps := 1000000) only [go_sem, hA.nil, hA.go, hA.yes, hA.noT, hA.noF, hA.skp]
 refine hK _ _ ?_; clear hK K hA A
 refine .seq (.seq (.rg fun A hA K hK => ?_))
 simp (maxSteps := 1000000) only [go_sem, hA.nil, hA.go, hA.yes, hA.noT, hA.noF, hA.skp]
 refine hK _ _ ?_; clear hK K hA A
 refine .countK (N := s.length) (fun i L t => L = [(0, ints s), (3, I (prodI (s.take i))), (4, I i)] ∧ σ = t) hl
  ⟨_, ⟨rfl, rfl⟩, by simp (maxSteps := 1000000) only [go_sem, prodI, List.foldl_nil]; try rfl⟩ ?_ ?_ ?_
 ·rintro i L t hi ⟨rfl, rfl⟩
  refine .rg fun A hA K hK => ?_
  simp (maxSteps := 1000000) only [go_sem, hA.nil, hA.go, hA.yes, hA.noT, hA.noF, hA.skp]
  refine hK _ _ ?_; clear hK K hA A
  exact ⟨rfl, by simp (maxSteps := 1000000) only [go_sem, Int.ofNat_lt], _, ⟨rfl, rfl⟩, by simp (maxSteps := 1000000) only [go_sem]⟩
 ·rintro i L t hi ⟨rfl, rfl⟩
  have e0 : (i : Int) < s.length := by omega
  have hg : (s.map fun n => [I n]).getD i [] = [I (s.getD i 0)] := by rw [ints_get hi]; simp [List.getD_eq_getElem?_getD, hi]
  have hsi : s.getD i 0 = s[i] := by simp [List.getD_eq_getElem?_getD, hi]
  have ha' : (List.range (i + 1)).all (okDim s) = true := by
   rw [List.all_eq_true] at ha ⊢
   intro x hx
   exact ha x (by simp at hx ⊢; omega)
  have b4 := prodI_bound (i + 1) (by omega) ha'
  have b5 : (32 : Int) ^ (i + 1) ≤ 32 ^ 4 := by
   rcases (by omega : i = 0 ∨ i = 1 ∨ i = 2 ∨ i = 3) with rfl | rfl | rfl | rfl <;> decide
  have w1 : IntKind.i64.wrap (prodI (s.take i) * s.getD i 0) = prodI (s.take (i + 1)) := by
   rw [prodI_take hi, ← hsi, IntWalk.i64_in]
   rw [prodI_take hi, ← hsi] at b4; omega
  refine .rg fun A hA K hK => ?_
  simp (maxSteps := 1000000) only [go_sem, hA.nil, hA.go, hA.yes, hA.noT, hA.noF, hA.skp, e0, hg, w1]
  refine hK _ _ ?_; clear hK K hA A
  exact ⟨by simp (maxSteps := 1000000) only [go_sem], _, ⟨rfl, rfl⟩, by simp (maxSteps := 1000000) only [go_sem]; try rfl⟩
 ·rintro L t F ⟨rfl, rfl⟩ hf
  simp (maxSteps := 1000000) only [go_sem] at hf
  rw [List.take_length] at hf
  refine .seq (.rg fun A hA K hK => ?_)
  simp (maxSteps := 1000000) only [go_sem, hA.nil, hA.go, hA.yes, hA.noT, hA.noF, hA.skp, hf]
  refine hK _ _ ?_; clear hK K hA A
  exact .ret (ret1 (by simp (maxSteps := 1000000) only [go_sem, hs]) rfl)

/-- A cell of a struct in a slot's block becomes plain. -/
theorem frz1 {P : Program} {n0 : Nat} {c : C} {Q : Exit → Fr → St → Prop} {F : Fr} {σ : St} (b' j : Nat) {c' n sz sz' : Nat} {row : List AV} {rows : List (List AV)} (hb' : σ.blk b' = some (.cells sz' [row])) (hj : j < row.length) (hc : row.getD j .undef = .sl c' 0 n) (hb : σ.blk c' = some (.cells sz rows)) (hne : b' ≠ c') (hn : n = rows.length)
  (h : SWP P n0 c Q F ((σ.kill c').set b' (.cells sz' [row.set j (.lit sz rows)]))) : SWP P n0 c Q F σ := by
 refine .ent (.freezeAt (i := 0) (j := j) hb' (by simp) (by simpa using hj) (by simpa using hc) hb hne (by omega)) ?_
 subst hn; simpa using h

/-- parquetryref1.Fill: its numbers are the caller's own. -/
theorem fill_spec (s : List Int) (hs : s.length ≤ 2 ^ 20) (n : Int) (σ : St) : TQ Try.prog 48 [ints s, I n] σ fun v t => ∃ b, v = .agg [ints s, .sl b 0 (sizeE s).toNat] ∧ t.blk b = some (.cells 1 (List.replicate (sizeE s).toNat [I n])) ∧ σ.next ≤ b ∧ b < t.next ∧ Ext σ t := by
 refine in48 (by simp) fun wf hab => ?_
 clear hab
 obtain ⟨z0, z1⟩ := sizeE_in s
 obtain ⟨N, hN⟩ := Int.eq_ofNat_of_zero_le z0
 rw [hN] at z1 ⊢
 rw [Int.toNat_natCast]
 have m1 : s.length ≤ most := by simp only [most]; omega
 have m2 : s.length * 8 ≤ most := by simp only [most]; omega
 unfold c48
 refine .seq (.rg fun A hA K hK => ?_)
 simp (maxSteps := 1000000) only [go_sem, hA.nil, hA.go, hA.yes, hA.noT, hA.noF, hA.skp]
 refine hK _ _ ?_; clear hK K hA A
 refine .midK (fun L t => L = [(0, ints s), (1, I n), (4, .ptr σ.next 0 0), (5, .ptr (σ.next + 2) 0 0)] ∧ ∃ c, t.blk (σ.next + 2) = some (.cells 2 [[ints s, .sl c 0 0]]) ∧ t.blk c = some (.cells 1 []) ∧ t.blk σ.next = some (.cells 2 [[.nils, .nils]]) ∧
  σ.next + 2 < c ∧ c < t.next ∧ ∀ b, b < σ.next → t.blk b = σ.blk b) (.entQ ?_) ?_
 ·refine .rg fun A hA K hK => ?_
  simp (maxSteps := 1000000) only [go_sem, hA.nil, hA.go, hA.yes, hA.noT, hA.noF, hA.skp, m1, m2, List.length_map]
  refine hK _ _ ?_; clear hK K hA A
  have ht : List.take s.length (s.map fun n => [I n]) = s.map fun n => [I n] := List.take_of_length_le (by simp)
  refine ⟨_, _, Ent.trans (.freezeAt (b' := σ.next + 2) (b := σ.next + 1) (sz' := 2) (sz := 1) (i := 0) (j := 0) (off := 0) (n := s.length) (rows' := [[.sl (σ.next + 1) 0 s.length, .nils]]) (rows := s.map fun n => [I n]) (by simp (maxSteps := 1000000) only [go_sem]) (by simp) (by simp) rfl (by simp (maxSteps := 1000000) only [go_sem]) (by omega) (by simp))
   (.virtAt (b' := σ.next + 2) (i := 0) (j := 1) 1 (sz' := 2) (rows' := [[ints s, .nils]]) (by simp (maxSteps := 1000000) only [go_sem, ht]) (by simp) (by simp) rfl), _, ⟨rfl, σ.next + 3, ?_, ?_, ?_, by omega, ?_, fun b hb => ?_⟩, by simp (maxSteps := 1000000) only [go_sem]⟩
  ·simp (maxSteps := 1000000) only [go_sem, ht]
  ·simp (maxSteps := 1000000) only [go_sem]
  ·simp (maxSteps := 1000000) only [go_sem]
  ·simp (maxSteps := 1000000) only [go_sem]; try omega
  ·simp (disch := omega) only [go_sem, if_neg]
 rintro L t ⟨rfl, c, h5, hc, h4, hcn, hct, hx⟩
 refine .seq (.seq (.rg fun A hA K hK => ?_))
 simp (maxSteps := 1000000) only [go_sem, hA.nil, hA.go, hA.yes, hA.noT, hA.noF, hA.skp]
 refine hK _ _ ?_; clear hK K hA A
 refine .countK (N := N) (fun i L t => L = [(0, ints s), (1, I n), (4, .ptr σ.next 0 0), (5, .ptr (σ.next + 2) 0 0), (6, I i)] ∧ ∃ c, t.blk (σ.next + 2) = some (.cells 2 [[ints s, .sl c 0 i]]) ∧ t.blk c = some (.cells 1 (List.replicate i [I n])) ∧ t.blk σ.next = some (.cells 2 [[.nils, .nils]]) ∧
  σ.next + 2 < c ∧ c < t.next ∧ ∀ b, b < σ.next → t.blk b = σ.blk b) (by simp only [most]; omega) ⟨_, ⟨rfl, c, h5, hc, h4, hcn, hct, hx⟩, by simp (maxSteps := 1000000) only [go_sem]; try rfl⟩ ?_ ?_ ?_
 ·rintro i L t hi ⟨rfl, hh⟩
  refine .rg fun A hA K hK => ?_
  simp (maxSteps := 1000000) only [go_sem, hA.nil, hA.go, hA.yes, hA.noT, hA.noF, hA.skp]
  refine aopq_call (size_spec s _) (by simp (maxSteps := 1000000) only [go_sem, hN]) ?_
  try simp (maxSteps := 1000000) only [go_sem, hA.nil, hA.go, hA.yes, hA.noT, hA.noF, hA.skp, hN]
  refine hK _ _ ?_; clear hK K hA A
  exact ⟨rfl, by simp (maxSteps := 1000000) only [go_sem, Int.ofNat_lt], _, ⟨rfl, hh⟩, by simp (maxSteps := 1000000) only [go_sem]⟩
 ·rintro i L t hi ⟨rfl, c, h5, hc, h4, hcn, hct, hx⟩
  have e1 : ¬ σ.next + 2 = t.next := by omega
  have e2 : ¬ σ.next + 2 = c := by omega
  have e3 : ¬ σ.next = t.next := by omega
  have e4 : ¬ σ.next = c := by omega
  have e5 : ¬ t.next = σ.next + 2 := by omega
  have m3 : i + 1 ≤ most := by simp only [most]; omega
  have m4 : (i + 1) * 8 ≤ most := by simp only [most]; omega
  have ht : List.take i (List.replicate i [I n]) = List.replicate i [I n] := List.take_of_length_le (by simp)
  refine .rg fun A hA K hK => ?_
  simp (maxSteps := 1000000) only [go_sem, hA.nil, hA.go, hA.yes, hA.noT, hA.noF, hA.skp, h5, hc, e1, e2, m3, m4, ht, List.length_replicate]
  refine hK _ _ ?_; clear hK K hA A
  refine ⟨by simp (maxSteps := 1000000) only [go_sem], _, ⟨rfl, t.next, ?_, ?_, ?_, by omega, ?_, fun b hb => ?_⟩, by simp (maxSteps := 1000000) only [go_sem]; try rfl⟩
  ·simp (maxSteps := 1000000) only [go_sem]; try rfl
  ·simp (maxSteps := 1000000) only [go_sem, e5, List.replicate_succ']
  ·simp (maxSteps := 1000000) only [go_sem, e3, e4, h4]; try (simp; omega)
  ·simp (maxSteps := 1000000) only [go_sem]; try omega
  ·simp (disch := omega) only [go_sem, if_neg, hx b hb]
 ·rintro L t F ⟨rfl, c, h5, hc, h4, hcn, hct, hx⟩ hf
  simp (maxSteps := 1000000) only [go_sem] at hf
  have e6 : ¬ σ.next = σ.next + 2 := by omega
  have e7 : ¬ c = σ.next := by omega
  refine .seq (.rg fun A hA K hK => ?_)
  simp (maxSteps := 1000000) only [go_sem, hA.nil, hA.go, hA.yes, hA.noT, hA.noF, hA.skp, hf, h5, h4]
  refine hK _ _ ?_; clear hK K hA A
  refine .ret ⟨[.agg [ints s, .sl c 0 N]], by simp [resOne, hf, go_sem], _, _, .refl _ _ _, c, rfl, by simp (maxSteps := 1000000) only [go_sem, e7, hc], by omega, by simp (maxSteps := 1000000) only [go_sem]; exact hct, by simp (maxSteps := 1000000) only [go_sem]; omega, fun b hb => ?_⟩
  simp (disch := omega) only [go_sem, if_neg, hx b hb]

def tabN : List Int := [9223372036854775807, -9223372036854775808, 4611686018427387904, -1099511627776, 8589934592, 3037000500]
def numE (l : List Int) (p : Nat) : Int := if nxE l p 9 = 0 then tabN.getD (nxE l (nxP l p 9) 6).toNat 0 else if nxE l p 9 = 1 then 0 else IntKind.i64.wrap (nxE l (nxP l p 9) 19 - 9)
def numP (l : List Int) (p : Nat) : Nat := if nxE l p 9 = 0 then nxP l (nxP l p 9) 6 else if nxE l p 9 = 1 then nxP l p 9 else nxP l (nxP l p 9) 19
theorem nxP_le {l : List Int} {p : Nat} (h : p ≤ l.length) (n : Int) : nxP l p n ≤ l.length := by
 unfold nxP; split <;> omega
theorem numP_le {l : List Int} {p : Nat} (h : p ≤ l.length) : numP l p ≤ l.length := by
 unfold numP; split
 ·exact nxP_le (nxP_le h _) _
 ·split
  ·exact nxP_le h _
  ·exact nxP_le (nxP_le h _) _
theorem set_set (σ : St) (b : Nat) (B B' : Blk) : (σ.set b B).set b B' = σ.set b B' := by
 simp only [St.set, St.mk.injEq, true_and]
 funext c; split <;> rfl

section
variable {σ : St} {l : List Int} {p bT : Nat}
theorem next_ok (hb : σ.blk bT = some (tapeB l p)) (hp : p ≤ l.length) (hl : l.length ≤ most) (n : Int) : T Try.prog 53 [.ptr bT 0 0, I n] σ (I (nxE l p n)) (σ.set bT (tapeB l (nxP l p n))) :=
 next_spec hb n (by simp only [most] at hl; omega)

/-- Tape.Number -/
theorem number_spec (hb : σ.blk bT = some (tapeB l p)) (hp : p ≤ l.length) (hl : l.length ≤ most) : T Try.prog 106 [.ptr bT 0 0] σ (I (numE l p)) (σ.set bT (tapeB l (numP l p))) := by
 refine in106 (by simp) fun wf hab => ?_
 clear hab
 have hb1 : (σ.set bT (tapeB l (nxP l p 9))).blk bT = some (tapeB l (nxP l p 9)) := by rw [blk_set, if_pos rfl]
 have hp1 := nxP_le hp 9
 unfold c106
 refine .seq (.rg fun A hA K hK => ?_)
 simp (maxSteps := 1000000) only [go_sem, hA.nil, hA.go, hA.yes, hA.noT, hA.noF, hA.skp]
 refine hK _ _ ?_; clear hK K hA A
 refine .seq (.seq (.rg fun A hA K hK => ?_))
 simp (maxSteps := 1000000) only [go_sem, hA.nil, hA.go, hA.yes, hA.noT, hA.noF, hA.skp]
 refine aopq_callT (next_ok hb hp hl 9) (by simp (maxSteps := 1000000) only [go_sem]) ?_
 try simp (maxSteps := 1000000) only [go_sem, hA.nil, hA.go, hA.yes, hA.noT, hA.noF, hA.skp]
 refine hK _ _ ?_; clear hK K hA A
 by_cases h0 : nxE l p 9 = 0
 ·have e1 : numE l p = tabN.getD (nxE l (nxP l p 9) 6).toNat 0 := if_pos h0
  have e2 : numP l p = nxP l (nxP l p 9) 6 := if_pos h0
  have hj := nxE_in l (nxP l p 9) 6
  obtain ⟨j, hj'⟩ := Int.eq_ofNat_of_zero_le hj.1
  have hj6 : j < 6 := by have := hj.2.1 (by decide); omega
  have hg : (tabN.map fun n => [I n]).getD j [] = [I (tabN.getD j 0)] := by
   have hj7 : j < tabN.length := hj6
   rw [ints_get hj7]; simp [List.getD_eq_getElem?_getD, hj7]
  refine .block ?_
  refine .seq (.rg fun A hA K hK => ?_)
  simp (maxSteps := 1000000) only [go_sem, hA.nil, hA.go, hA.yes, hA.noT, hA.noF, hA.skp, h0]
  refine hK _ _ ?_; clear hK K hA A
  refine .cond (t := true) (by simp (maxSteps := 1000000) only [go_sem]) (fun _ => ?_) (fun h => by cases h)
  refine .seq (.rg fun A hA K hK => ?_)
  simp (maxSteps := 1000000) only [go_sem, hA.nil, hA.go, hA.yes, hA.noT, hA.noF, hA.skp]
  refine aopq_callT (next_ok hb1 hp1 hl 6) (by simp (maxSteps := 1000000) only [go_sem]) ?_
  simp only [tabN, List.map_cons, List.map_nil] at hg
  have hj8 : (j : Int) < 6 := by omega
  have hj9 : (j : Int) < ((6 : Nat) : Int) := by omega
  try simp (maxSteps := 1000000) only [go_sem, hA.nil, hA.go, hA.yes, hA.noT, hA.noF, hA.skp, hj', hg, hj8, hj9]
  refine hK _ _ ?_; clear hK K hA A
  exact .ret (retS (by simp (maxSteps := 1000000) only [go_sem]; try rfl) ⟨by rw [e1, hj', Int.toNat_natCast]; rfl, by rw [set_set, e2]⟩)
 ·have b0 : (nxE l p 9 == 0) = false := by simpa using h0
  refine .block ?_
  refine .seq (.rg fun A hA K hK => ?_)
  simp (maxSteps := 1000000) only [go_sem, hA.nil, hA.go, hA.yes, hA.noT, hA.noF, hA.skp, b0]
  refine hK _ _ ?_; clear hK K hA A
  refine .cond (t := false) (by simp (maxSteps := 1000000) only [go_sem]) (fun h => by cases h) (fun _ => ?_)
  by_cases h1 : nxE l p 9 = 1
  ·have e1 : numE l p = 0 := by rw [numE, if_neg h0, if_pos h1]
   have e2 : numP l p = nxP l p 9 := by rw [numP, if_neg h0, if_pos h1]
   refine .seq (.rg fun A hA K hK => ?_)
   simp (maxSteps := 1000000) only [go_sem, hA.nil, hA.go, hA.yes, hA.noT, hA.noF, hA.skp, h1]
   refine hK _ _ ?_; clear hK K hA A
   refine .cond (t := true) (by simp (maxSteps := 1000000) only [go_sem]) (fun _ => ?_) (fun h => by cases h)
   refine .seq (.rg fun A hA K hK => ?_)
   simp (maxSteps := 1000000) only [go_sem, hA.nil, hA.go, hA.yes, hA.noT, hA.noF, hA.skp]
   refine hK _ _ ?_; clear hK K hA A
   exact .ret (retS (by simp (maxSteps := 1000000) only [go_sem]; try rfl) ⟨by rw [e1], by rw [e2]⟩)
  ·have e1 : numE l p = IntKind.i64.wrap (nxE l (nxP l p 9) 19 - 9) := by rw [numE, if_neg h0, if_neg h1]
   have e2 : numP l p = nxP l (nxP l p 9) 19 := by rw [numP, if_neg h0, if_neg h1]
   have b1 : (nxE l p 9 == 1) = false := by simpa using h1
   refine .seq (.rg fun A hA K hK => ?_)
   simp (maxSteps := 1000000) only [go_sem, hA.nil, hA.go, hA.yes, hA.noT, hA.noF, hA.skp, b1]
   refine hK _ _ ?_; clear hK K hA A
   refine .cond (t := false) (by simp (maxSteps := 1000000) only [go_sem]) (fun h => by cases h) (fun _ => .skip ?_)
   refine .seq (.rg fun A hA K hK => ?_)
   simp (maxSteps := 1000000) only [go_sem, hA.nil, hA.go, hA.yes, hA.noT, hA.noF, hA.skp]
   refine aopq_callT (next_ok hb1 hp1 hl 19) (by simp (maxSteps := 1000000) only [go_sem]) ?_
   try simp (maxSteps := 1000000) only [go_sem, hA.nil, hA.go, hA.yes, hA.noT, hA.noF, hA.skp]
   refine hK _ _ ?_; clear hK K hA A
   exact .ret (retS (by simp (maxSteps := 1000000) only [go_sem]; try rfl) ⟨by rw [e1], by rw [set_set, e2]⟩)

/-- Tape.Tensor -/
theorem tensor_spec (hb : σ.blk bT = some (tapeB l p)) (hp : p ≤ l.length) (hl : l.length ≤ most) (s : List Int) (hs : s.length ≤ 2 ^ 20) :
  TQ Try.prog 70 [.ptr bT 0 0, ints s] σ fun v t => ∃ data p', v = .agg [ints s, ints data] ∧ data.length = (sizeE s).toNat ∧ p' ≤ l.length ∧ t.blk bT = some (tapeB l p') ∧ σ.next ≤ t.next ∧ ∀ b, b < σ.next → b ≠ bT → t.blk b = σ.blk b := by
 refine in70 (by simp) fun wf hab => ?_
 clear hab
 obtain ⟨z0, z1⟩ := sizeE_in s
 generalize hN : (sizeE s).toNat = N at *
 have hN2 : N ≤ 4096 := by omega
 have hbT : bT < σ.next := by
  rcases Nat.lt_or_ge bT σ.next with h | h
  ·exact h
  ·rw [wf.1 bT h] at hb; cases hb
 unfold c70
 refine .seq (.rg fun A hA K hK => ?_)
 simp (maxSteps := 1000000) only [go_sem, hA.nil, hA.go, hA.yes, hA.noT, hA.noF, hA.skp]
 refine hK _ _ ?_; clear hK K hA A
 refine .midK (fun L t => L = [(0, .ptr bT 0 0), (4, .ptr σ.next 0 0), (5, .ptr (t.next - 1) 0 0)] ∧ σ.next < t.next - 1 ∧ (∃ c, t.blk (t.next - 1) = some (.cells 2 [[ints s, .sl c 0 N]]) ∧ t.blk c = some (.cells 1 (List.replicate N [I 0])) ∧ σ.next < c ∧ c < t.next - 1) ∧
  t.blk σ.next = some (.cells 2 [[.lit 1 [], .lit 1 []]]) ∧ ∀ b, b < σ.next → t.blk b = σ.blk b) ?_ ?_
 ·refine .rg fun A hA K hK => ?_
  simp (maxSteps := 1000000) only [go_sem, hA.nil, hA.go, hA.yes, hA.noT, hA.noF, hA.skp]
  refine aopq_callQ (fill_spec s hs 0 _) (by simp (maxSteps := 1000000) only [go_sem]) ?_
  rintro v t ⟨c, rfl, h1, h2, h3, hx⟩
  rw [hN] at h1 ⊢
  try simp (maxSteps := 1000000) only [go_sem, hA.nil, hA.go, hA.yes, hA.noT, hA.noF, hA.skp]
  refine hK _ _ ?_; clear hK K hA A
  have hx1 := hx.1
  rw [next_push] at h2 hx1
  refine ⟨_, ⟨by rw [next_set, next_push, Nat.add_sub_cancel], ?_, ⟨c, ?_, ?_, ?_, ?_⟩, ?_, fun b hb => ?_⟩, by simp (maxSteps := 1000000) only [go_sem, Nat.add_sub_cancel]⟩
  ·simp (maxSteps := 1000000) only [go_sem, Nat.add_sub_cancel]; omega
  ·simp (maxSteps := 1000000) only [go_sem, Nat.add_sub_cancel]
  ·have e1 : ¬ c = t.next := by omega
   simp (maxSteps := 1000000) only [go_sem, Nat.add_sub_cancel, e1, h1]
  ·omega
  ·simp (maxSteps := 1000000) only [go_sem, Nat.add_sub_cancel]; omega
  ·have e1 : ¬ σ.next = t.next := by omega
   simp (maxSteps := 1000000) only [go_sem, e1]
   rw [hx.2 _ (by rw [next_push]; omega)]
   simp (maxSteps := 1000000) only [go_sem]
  ·have e1 : ¬ b = t.next := by omega
   have e2 : ¬ b = σ.next := by omega
   simp (maxSteps := 1000000) only [go_sem, e1]
   rw [hx.2 _ (by rw [next_push]; omega)]
   simp (maxSteps := 1000000) only [go_sem, e2]
 rintro L t ⟨rfl, hn, ⟨c, h5, hc, hc1, hc2⟩, h4, hx⟩
 generalize hq : t.next - 1 = b5 at *
 have hb5 : b5 < t.next := by omega
 clear hq
 refine .seq (.seq (.rg fun A hA K hK => ?_))
 simp (maxSteps := 1000000) only [go_sem, hA.nil, hA.go, hA.yes, hA.noT, hA.noF, hA.skp, h5]
 refine hK _ _ ?_; clear hK K hA A
 refine .rangeK (N := N) (fun i L t => L = [(0, .ptr bT 0 0), (4, .ptr σ.next 0 0), (5, .ptr b5 0 0), (11, I N), (12, I i)] ∧ b5 < t.next ∧ (∃ ds : List Int, ds.length = N ∧ t.blk c = some (.cells 1 (ds.map fun n => [I n]))) ∧
  t.blk b5 = some (.cells 2 [[ints s, .sl c 0 N]]) ∧ t.blk σ.next = some (.cells 2 [[.lit 1 [], .lit 1 []]]) ∧ (∃ p', p' ≤ l.length ∧ t.blk bT = some (tapeB l p')) ∧ ∀ b, b < σ.next → b ≠ bT → t.blk b = σ.blk b) (by simp only [most]; omega)
  ⟨_, ⟨rfl, hb5, ⟨List.replicate N 0, by simp, by rw [hc]; simp⟩, h5, h4, ⟨p, hp, by rw [hx bT hbT]; exact hb⟩, fun b h _ => hx b h⟩, by simp (maxSteps := 1000000) only [go_sem]; try rfl⟩ ?_ ?_ ?_
 ·rintro i L t ⟨rfl, _⟩
  exact ⟨by simp (maxSteps := 1000000) only [go_sem], by simp (maxSteps := 1000000) only [go_sem], rfl⟩
 ·rintro i L t hi ⟨rfl, hb5, ⟨ds, hds, hc⟩, h5, h4, ⟨p', hp', hbt⟩, hx⟩
  have e1 : ¬ b5 = bT := by omega
  have e2 : ¬ c = bT := by omega
  have e3 : (i : Int) < N := by omega
  have e4 : i < ds.length := by omega
  have e5 : ¬ b5 = c := by omega
  have e6 : ¬ σ.next = bT := by omega
  have e7 : ¬ σ.next = c := by omega
  have e8 : ¬ bT = c := by omega
  have hg : (ds.map fun n => [I n]).getD i [] = [I (ds.getD i 0)] := by rw [ints_get e4]; simp [List.getD_eq_getElem?_getD, e4]
  have hset : ∀ x, (ds.map fun n => [I n]).set i [I x] = (ds.set i x).map fun n => [I n] := fun x => by rw [List.map_set]
  refine .seq (.rg fun A hA K hK => ?_)
  simp (maxSteps := 1000000) only [go_sem, hA.nil, hA.go, hA.yes, hA.noT, hA.noF, hA.skp]
  refine hK _ _ ?_; clear hK K hA A
  refine .rdx fun A hA K hK => ?_
  simp (maxSteps := 200000) only [go_sem, hA.nil, hA.pur, hA.go, hA.yes, hA.noT, hA.noF, hA.skp, pure_mv, eff_mv, pure_pk, eff_pk, pure_al, eff_al, pure_bx, eff_bx, pure_bd, eff_bd, pure_bs, eff_bs, pure_ld, eff_ld, pure_st, eff_st, pure_nc, eff_nc, pure_bin, eff_bin, pure_un, eff_un, pure_cv, eff_cv, pure_mi, eff_mi, pure_mf, eff_mf, pure_mm, eff_mm, pure_ms, eff_ms, pure_sc, eff_sc, pure_fa, eff_fa, pure_fl, eff_fl, pure_ia, eff_ia, pure_lk, eff_lk, pure_mu, eff_mu, pure_lm, eff_lm, pure_rg, eff_rg, pure_nx, eff_nx, pure_en, eff_en, pure_ta, eff_ta, pure_ex, eff_ex, pure_ln, eff_ln, pure_ap, eff_ap, pure_mx, eff_mx, pure_call, eff_call, pure_callv, eff_callv, chk_nil, chk_cons, again, List.contains_cons, List.contains_nil, h5, e1]
  refine aop_callF (number_spec hbt hp' hl) (by simp (maxSteps := 1000000) only [go_sem]) ?_
  simp (maxSteps := 200000) only [go_sem, hA.nil, hA.pur, hA.go, hA.yes, hA.noT, hA.noF, hA.skp, pure_mv, eff_mv, pure_pk, eff_pk, pure_al, eff_al, pure_bx, eff_bx, pure_bd, eff_bd, pure_bs, eff_bs, pure_ld, eff_ld, pure_st, eff_st, pure_nc, eff_nc, pure_bin, eff_bin, pure_un, eff_un, pure_cv, eff_cv, pure_mi, eff_mi, pure_mf, eff_mf, pure_mm, eff_mm, pure_ms, eff_ms, pure_sc, eff_sc, pure_fa, eff_fa, pure_fl, eff_fl, pure_ia, eff_ia, pure_lk, eff_lk, pure_mu, eff_mu, pure_lm, eff_lm, pure_rg, eff_rg, pure_nx, eff_nx, pure_en, eff_en, pure_ta, eff_ta, pure_ex, eff_ex, pure_ln, eff_ln, pure_ap, eff_ap, pure_mx, eff_mx, pure_call, eff_call, pure_callv, eff_callv, chk_nil, chk_cons, again, List.contains_cons, List.contains_nil, h5, e1, e2, hc, e3, e4, hg]
  refine hK _ _ ?_; clear hK K hA A
  refine ⟨by simp (maxSteps := 1000000) only [go_sem], _, ⟨rfl, by simp (maxSteps := 1000000) only [go_sem]; exact hb5, ⟨ds.set i (numE l p'), by simpa using hds, ?_⟩, by simp (maxSteps := 1000000) only [go_sem, e5, e1, h5], by simp (maxSteps := 1000000) only [go_sem, e6, e7, h4], ⟨numP l p', numP_le hp', by simp (maxSteps := 1000000) only [go_sem, e8]⟩, fun b h1 h2 => ?_⟩, by simp (maxSteps := 1000000) only [go_sem]; try rfl⟩
  ·simp (maxSteps := 1000000) only [go_sem]; rw [hset]
  ·have e9 : ¬ b = c := by omega
   simp (maxSteps := 1000000) only [go_sem, e9, h2, hx b h1 h2]
 ·rintro L t F ⟨rfl, hb5, ⟨ds, hds, hc⟩, h5, h4, ⟨p', hp', hbt⟩, hx⟩ hf
  simp (maxSteps := 1000000) only [go_sem] at hf
  have e1 : ¬ σ.next = b5 := by omega
  have e2 : ¬ σ.next = c := by omega
  have e3 : ¬ bT = b5 := by omega
  have e4 : ¬ bT = c := by omega
  have e5 : ¬ bT = σ.next := by omega
  refine frz1 b5 1 h5 (by simp) rfl hc (by omega) (by simpa using hds.symm) ?_
  refine .seq (.rg fun A hA K hK => ?_)
  simp (maxSteps := 1000000) only [go_sem, hA.nil, hA.go, hA.yes, hA.noT, hA.noF, hA.skp, hf, e1, e2, h4]
  refine hK _ _ ?_; clear hK K hA A
  refine .ret ⟨[.agg [ints s, ints ds]], by simp [resOne, hf, go_sem], _, _, .refl _ _ _, ds, p', rfl, hds, hp', by simp (maxSteps := 1000000) only [go_sem, e3, e4, e5, hbt], by simp (maxSteps := 1000000) only [go_sem]; omega, fun b h1 h2 => ?_⟩
  have e6 : ¬ b = b5 := by omega
  have e7 : ¬ b = c := by omega
  have e8 : ¬ b = σ.next := by omega
  simp (maxSteps := 1000000) only [go_sem, e6, e7, e8, hx b h1 h2]
end
structure Ten where
 sh : List Int
 dt : List Int
def tenL (t : Ten) : List AV := [ints t.sh, ints t.dt]
structure Bg where
 frm : Int
 to : Int
 tag : Int
 t : Ten
def bgL (m : Bg) : List AV := [I m.frm, I m.to, I m.tag, ints m.t.sh, ints m.t.dt]
/-- A machine, plain: programs, what is given, registers as they were written, places, messages, how many were sent. -/
structure PM where
 l : List (List Instr)
 gv : List (List Ten)
 rg : List (List (Int × Ten))
 at_ : List Nat
 bag : List Bg
 sent : Int
def gvA (gv : List (List Ten)) : AV := .lit 1 (gv.map fun ts => [.lit 2 (ts.map tenL)])
def esT (l : List (Int × Ten)) : List (List Int × AV) := l.map fun x => ([x.1], .agg (tenL x.2))

/-- A machine in memory. 'o': which blocks are its own, and what for. -/
structure MC (o : Nat → Option Nat) (s : St) (b bR bA bW : Nat) (vB : AV) (mb : Nat → Nat) (m : PM) : Prop where
 own0 : o b = some 0
 ownR : o bR = some 1
 ownA : o bA = some 2
 ownW : o bW = some 3
 lt : ∀ c, o c ≠ none → c < s.next
 hb : s.blk b = some (.cells 7 [[progsA m.l, gvA m.gv, .sl bR 0 m.l.length, .sl bA 0 m.l.length, vB, I m.sent, .sl bW 0 m.l.length]])
 hR : s.blk bR = some (.cells 1 ((List.range m.l.length).map fun d => [.map (mb d)]))
 hA : s.blk bA = some (.cells 1 (m.at_.map fun a => [I (a : Nat)]))
 hW : s.blk bW = some (.cells 1 (List.replicate m.l.length [I 0]))
 hM : ∀ d, d < m.l.length → o (mb d) = some (5 + d) ∧ s.blk (mb d) = some (.map none (esT (m.rg.getD d [])))
 hB : Row1 o 4 s 5 vB (m.bag.map bgL)
 lg : m.gv.length = m.l.length
 lr : m.rg.length = m.l.length
 la : m.at_.length = m.l.length

def hitM (f t g : Int) (x : Bg) : Bool := x.frm == f && (x.to == t && x.tag == g)
def findM (bag : List Bg) (f t g : Int) : Option Nat := bag.findIdx? (hitM f t g)
def findI (bag : List Bg) (f t g : Int) : Int := match findM bag f t g with
 | some i => i
 | none => -1

theorem find_at {l : List Bg} {i : Nat} (hi : i < l.length) {f t g : Int} (hno : (l.take i).all (fun x => !hitM f t g x) = true) :
  (hitM f t g l[i] = true → findI l f t g = i) ∧ (hitM f t g l[i] = false → (l.take (i + 1)).all (fun x => !hitM f t g x) = true) := by
 constructor
 ·intro h
  have : findM l f t g = some i := by
   unfold findM
   rw [List.findIdx?_eq_some_iff_getElem]
   refine ⟨hi, h, fun j hj => ?_⟩
   have := List.all_eq_true.1 hno l[j] (by rw [List.mem_take_iff_getElem]; exact ⟨j, by omega, rfl⟩)
   simpa using this
  simp only [findI, this]
 ·intro h
  rw [List.take_succ_eq_append_getElem hi, List.all_append, hno]
  simp [h]
theorem find_none {l : List Bg} {f t g : Int} (hno : (l.take l.length).all (fun x => !hitM f t g x) = true) : findI l f t g = -1 := by
 rw [List.take_length] at hno
 have : findM l f t g = none := by
  unfold findM
  rw [List.findIdx?_eq_none_iff]
  intro x hx
  have := List.all_eq_true.1 hno x hx
  simpa using this
 simp only [findI, this]

theorem getD_set_ne' {α : Type} {l : List α} {d k : Nat} (x y : α) (h : k ≠ d) : (l.set d x).getD k y = l.getD k y := by
 rw [List.getD_eq_getElem?_getD, List.getElem?_set, if_neg (by omega), ← List.getD_eq_getElem?_getD]
theorem getD_set_eq' {α : Type} {l : List α} {d : Nat} (x y : α) (h : d < l.length) : (l.set d x).getD d y = x := by
 simp [List.getD_eq_getElem?_getD, h]
theorem Row1.frame {o : Nat → Option Nat} {σ s : St} {l sz : Nat} {v : AV} {rows : List (List AV)} (h : Row1 o l σ sz v rows) (hs : ∀ c, o c = some l → s.blk c = σ.blk c) : Row1 o l s sz v rows := by
 rcases h with h | ⟨c, h1, h2, h3⟩
 ·exact .inl h
 ·exact .inr ⟨c, h1, h2, by rw [hs c h2]; exact h3⟩
section mc
variable {o : Nat → Option Nat} {σ : St} {b bR bA bW : Nat} {vB : AV} {mb : Nat → Nat} {m : PM}
theorem bag_get {l : List Bg} {i : Nat} (h : i < l.length) : (l.map bgL).getD i [] = bgL l[i] := by simp [h]
/-- Machine.find -/
theorem find_spec (h : MC o σ b bR bA bW vB mb m) (hl : m.bag.length ≤ most) (f t g : Int) : T Try.prog 130 [.ptr b 0 0, I f, I t, I g] σ (I (findI m.bag f t g)) σ := by
 refine in130 (by simp) fun wf hab => ?_
 clear hab
 have hb := h.hb
 unfold c130
 refine .seq (.rg fun A hA K hK => ?_)
 simp (maxSteps := 1000000) only [go_sem, hA.nil, hA.go, hA.yes, hA.noT, hA.noF, hA.skp]
 refine hK _ _ ?_; clear hK K hA A
 refine .keep [(0, .ptr b 0 0), (1, I f), (2, I t), (3, I g)] (by simp (maxSteps := 1000000) only [go_sem]) ?_
 refine .seq (.midK (fun L u => L = [(0, .ptr b 0 0), (1, I f), (2, I t), (3, I g), (14, vB), (15, I m.bag.length), (16, I (0 : Nat))] ∧ u = σ) ?_ ?_)
 ·rcases h.hB with ⟨rfl, h2⟩ | ⟨c, rfl, h2, h3⟩
  ·have hl0 : m.bag.length = 0 := by have := congrArg List.length h2; simpa using this
   refine .rg fun A hA K hK => ?_
   simp (maxSteps := 1000000) only [go_sem, hA.nil, hA.go, hA.yes, hA.noT, hA.noF, hA.skp, hb]
   refine hK _ _ ?_; clear hK K hA A
   exact ⟨_, ⟨rfl, rfl⟩, by simp (maxSteps := 1000000) only [go_sem, hl0]; try rfl⟩
  ·rw [List.length_map] at hb
   refine .rg fun A hA K hK => ?_
   simp (maxSteps := 1000000) only [go_sem, hA.nil, hA.go, hA.yes, hA.noT, hA.noF, hA.skp, hb, h3]
   refine hK _ _ ?_; clear hK K hA A
   exact ⟨_, ⟨rfl, rfl⟩, by simp (maxSteps := 1000000) only [go_sem, List.length_map]; try rfl⟩
 rintro L u ⟨rfl, rfl⟩
 refine .rangeK (N := m.bag.length) (fun i L s => L = [(0, .ptr b 0 0), (1, I f), (2, I t), (3, I g), (14, vB), (15, I m.bag.length), (16, I i)] ∧ Ext u s ∧ (m.bag.take i).all (fun x => !hitM f t g x) = true) hl ⟨_, ⟨rfl, .refl u, by simp⟩, by simp (maxSteps := 1000000) only [go_sem]; try rfl⟩ ?_ ?_ ?_
 ·rintro i L s ⟨rfl, _⟩
  exact ⟨by simp (maxSteps := 1000000) only [go_sem], by simp (maxSteps := 1000000) only [go_sem], rfl⟩
 ·rintro i L s hi ⟨rfl, hx, hno⟩
  have e0 : (i : Int) < m.bag.length := by omega
  rcases h.hB with ⟨rfl, h2⟩ | ⟨c, rfl, h2, h3⟩
  ·have hl0 : m.bag.length = 0 := by have := congrArg List.length h2; simpa using this
   omega
  have hcl := h.lt c (by rw [h2]; simp)
  have hu3 : s.blk c = some (.cells 5 (m.bag.map bgL)) := by rw [hx.2 c hcl]; exact h3
  have hg := bag_get hi
  have hn := hx.1
  have hil : i < (m.bag.map bgL).length := by simpa using hi
  have hcu : ¬ c = s.next := by omega
  have hall := find_at hi hno
  generalize hq : m.bag[i] = x at hg hall
  rw [bgL] at hg
  refine .seq (.rg fun A hA K hK => ?_)
  simp (maxSteps := 1000000) only [go_sem, hA.nil, hA.go, hA.yes, hA.noT, hA.noF, hA.skp, hu3, hg, e0, hi, hcu, List.length_map]
  refine hK _ _ ?_; clear hK K hA A
  have hx2 : ∀ B B', Ext u { next := s.next + 1, blk := fun b => if b = s.next then some B else if b = s.next then some B' else s.blk b } := fun B B' => ext_two hx
  refine .midK (fun L v => L = [(0, .ptr b 0 0), (1, I f), (2, I t), (3, I g), (9, I i), (14, .sl c 0 (m.bag.map bgL).length), (15, I m.bag.length), (16, I i), (36, .bool (hitM f t g x))] ∧ Ext u v) ?_ ?_
  ·by_cases h1 : x.frm = f
   ·by_cases h2' : x.to = t
    ·have c1 : (x.frm == f) = true := by simpa using h1
     have c2 : (x.to == t) = true := by simpa using h2'
     refine .rg fun A hA K hK => ?_
     simp (maxSteps := 1000000) only [go_sem, hA.nil, hA.go, hA.yes, hA.noT, hA.noF, hA.skp, c1, c2]
     refine hK _ _ ?_; clear hK K hA A
     exact ⟨_, ⟨rfl, hx2 _ _⟩, by simp (maxSteps := 1000000) only [go_sem, List.length_map, hitM, c1, c2]⟩
    ·have c1 : (x.frm == f) = true := by simpa using h1
     have c2 : (x.to == t) = false := by simpa using h2'
     refine .rg fun A hA K hK => ?_
     simp (maxSteps := 1000000) only [go_sem, hA.nil, hA.go, hA.yes, hA.noT, hA.noF, hA.skp, c1, c2]
     refine hK _ _ ?_; clear hK K hA A
     exact ⟨_, ⟨rfl, hx2 _ _⟩, by simp (maxSteps := 1000000) only [go_sem, List.length_map, hitM, c1, c2]⟩
   ·have c1 : (x.frm == f) = false := by simpa using h1
    refine .rg fun A hA K hK => ?_
    simp (maxSteps := 1000000) only [go_sem, hA.nil, hA.go, hA.yes, hA.noT, hA.noF, hA.skp, c1]
    refine hK _ _ ?_; clear hK K hA A
    exact ⟨_, ⟨rfl, hx2 _ _⟩, by simp (maxSteps := 1000000) only [go_sem, List.length_map, hitM, c1]⟩
  rintro L v ⟨rfl, hx2⟩
  refine .cond (t := hitM f t g x) (by simp (maxSteps := 1000000) only [go_sem]) (fun ht => ?_) (fun ht => .skip ?_)
  ·have hf := (hall.1 ht)
   refine .seq (.rg fun A hA K hK => ?_)
   simp (maxSteps := 1000000) only [go_sem, hA.nil, hA.go, hA.yes, hA.noT, hA.noF, hA.skp]
   refine hK _ _ ?_; clear hK K hA A
   exact .ret (retB (by simp (maxSteps := 1000000) only [go_sem, hf]) wf hx2.2 (.int _ _) ⟨rfl, rfl⟩)
  ·exact ⟨by simp (maxSteps := 1000000) only [go_sem], _, ⟨rfl, hx2, hall.2 ht⟩, by simp (maxSteps := 1000000) only [go_sem]; try rfl⟩
 ·rintro L s F ⟨rfl, hx, hno⟩ hf
  simp (maxSteps := 1000000) only [go_sem] at hf
  have hf2 := find_none hno
  refine .seq (.rg fun A hA K hK => ?_)
  simp (maxSteps := 1000000) only [go_sem, hA.nil, hA.go, hA.yes, hA.noT, hA.noF, hA.skp]
  refine hK _ _ ?_; clear hK K hA A
  exact .ret (retB (by simp (maxSteps := 1000000) only [go_sem, hf2]) wf hx.2 (.int _ _) ⟨rfl, rfl⟩)

theorem MC.frame (h : MC o σ b bR bA bW vB mb m) {s : St} (hn : σ.next ≤ s.next) (hs : ∀ c, o c ≠ none → s.blk c = σ.blk c) : MC o s b bR bA bW vB mb m :=
 ⟨h.own0, h.ownR, h.ownA, h.ownW, fun c hc => Nat.lt_of_lt_of_le (h.lt c hc) hn, by rw [hs b (by rw [h.own0]; simp)]; exact h.hb, by rw [hs bR (by rw [h.ownR]; simp)]; exact h.hR, by rw [hs bA (by rw [h.ownA]; simp)]; exact h.hA, by rw [hs bW (by rw [h.ownW]; simp)]; exact h.hW,
  fun d hd => ⟨(h.hM d hd).1, by rw [hs _ (by rw [(h.hM d hd).1]; simp)]; exact (h.hM d hd).2⟩, h.hB.frame fun c hc => hs c (by rw [hc]; simp), h.lg, h.lr, h.la⟩
/-- A place further along. -/
theorem MC.setAt (h : MC o σ b bR bA bW vB mb m) (a : List Nat) (ha : a.length = m.l.length) : MC o (σ.set bA (.cells 1 (a.map fun x => [I (x : Nat)]))) b bR bA bW vB mb { m with at_ := a } ∧ Grow o σ o (σ.set bA (.cells 1 (a.map fun x => [I (x : Nat)]))) := by
 have ne : ∀ {c x}, o c = some x → x ≠ 2 → (σ.set bA (.cells 1 (a.map fun x => [I (x : Nat)]))).blk c = σ.blk c := fun hc hx => by rw [blk_set, if_neg (ne_lab hc h.ownA hx)]
 refine ⟨⟨h.own0, h.ownR, h.ownA, h.ownW, h.lt, by rw [ne h.own0 (by decide)]; exact h.hb, by rw [ne h.ownR (by decide)]; exact h.hR, by rw [blk_set, if_pos rfl], by rw [ne h.ownW (by decide)]; exact h.hW,
  fun d hd => ⟨(h.hM d hd).1, by rw [ne (h.hM d hd).1 (by omega)]; exact (h.hM d hd).2⟩, h.hB.frame fun c hc => ne hc (by decide), h.lg, h.lr, ha⟩, Nat.le_refl _, fun _ _ => rfl, fun c hc ho => ?_⟩
 rw [blk_set, if_neg]; rintro rfl; rw [h.ownA] at ho; cases ho
/-- A register is written. -/
theorem MC.setReg (h : MC o σ b bR bA bW vB mb m) {d : Nat} (hd : d < m.l.length) (r : List (Int × Ten)) : MC o (σ.set (mb d) (.map none (esT r))) b bR bA bW vB mb { m with rg := m.rg.set d r } ∧ Grow o σ o (σ.set (mb d) (.map none (esT r))) := by
 have ne : ∀ {c x}, o c = some x → x ≠ 5 + d → (σ.set (mb d) (.map none (esT r))).blk c = σ.blk c := fun hc hx => by rw [blk_set, if_neg (ne_lab hc (h.hM d hd).1 hx)]
 refine ⟨⟨h.own0, h.ownR, h.ownA, h.ownW, h.lt, by rw [ne h.own0 (by omega)]; exact h.hb, by rw [ne h.ownR (by omega)]; exact h.hR, by rw [ne h.ownA (by omega)]; exact h.hA, by rw [ne h.ownW (by omega)]; exact h.hW,
  fun e he => ⟨(h.hM e he).1, ?_⟩, h.hB.frame fun c hc => ne hc (by omega), h.lg, by simpa using h.lr, h.la⟩, Nat.le_refl _, fun _ _ => rfl, fun c hc ho => ?_⟩
 ·by_cases hed : e = d
  ·subst hed
   rw [blk_set, if_pos rfl]; simp only; rw [getD_set_eq' _ _ (by rw [h.lr]; exact hd)]
  ·rw [ne (h.hM e he).1 (by omega)]; simp only; rw [getD_set_ne' _ _ hed]; exact (h.hM e he).2
 ·rw [blk_set, if_neg]; rintro rfl; rw [(h.hM d hd).1] at ho; cases ho
end mc
end Go.Proofs.Ytfjbabacpnnjmaa.Av
