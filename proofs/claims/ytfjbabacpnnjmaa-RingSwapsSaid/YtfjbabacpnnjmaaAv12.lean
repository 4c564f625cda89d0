/- A logic of small values, and walks in it: Programs run in two orders: ref1.Same, run. Programs run in two orders: run. Programs that run, order aside: what is put one behind the other in one order comes to the same in any. Programs that were put one behind the other run, in two orders, to the same end. When programs are right, and pair, by what stands in them. What a maker has put together, and what it comes to. Single steps of a maker that keep what it comes to; letters that are sent and received. -/
import Derived.Test.YtfjbabacpnnjmaaAv11
set_option linter.unusedVariables false
set_option linter.unusedSimpArgs false
set_option linter.deprecated false
namespace Go.Proofs.Ytfjbabacpnnjmaa.Av
open Go Go.Av
set_option maxRecDepth 20000
set_option maxHeartbeats 4000000

attribute [local go_sem] step_apply stepD_apply stepE_apply
attribute [local go_sem] aopq_mv aopq_pk aopq_al aopq_bx aopq_bd aopq_bs aopq_ld aopq_st aopq_nc aopq_bin aopq_un aopq_cv aopq_mi aopq_mf aopq_mm aopq_ms aopq_sc aopq_fa aopq_fl aopq_ia aopq_lk aopq_mu aopq_lm aopq_rg aopq_en aopq_ta aopq_ex aopq_ln aopq_ap aopq_mx aopq.eq_3 aop.eq_1 aop.eq_2 aop.eq_3 aop.eq_4 aop.eq_5 aop.eq_6 aop.eq_7 aop.eq_8 aop.eq_9 aop_bin atS_apply aop_un_not aop_un_neg aop.eq_14 aop.eq_15 aop.eq_16 aop.eq_17 aop.eq_18 aop_sc cutS_apply cutN_apply cutL_apply cutO_apply aop.eq_20 aop.eq_21 aop.eq_22 aop.eq_23 aop.eq_24 aop.eq_25 aop.eq_26 aop.eq_27 aop.eq_28 aop.eq_29 aop.eq_30 aop.eq_31 aop.eq_32 blk_push next_push blk_set next_set blk_kill next_kill frL_nil frL_cons Fits_nil Fits_cons Int.reduceBEq Int.reduceBNe Nat.sub_zero Option.map_some Option.map_none List.set_cons_succ true_or or_true false_or or_false Int.le_refl Int.cast_ofNat_Int decide_true decide_false List.cons_append fillA fillR rowsOf List.replicate_succ List.replicate_zero Nat.zero_mul getD_drop List.length_drop splice List.nil_append List.append_nil cond_true cond_false List.set_cons_zero List.length_set ev put_some put_none upd_apply abin asNat bounds row1 mk List.length_cons List.length_nil List.length_map List.drop_zero List.drop_succ_cons List.drop_nil List.getD_cons_zero List.getD_cons_succ Option.getD_none Option.getD_some List.take_succ_cons List.take_zero List.take_nil true_and and_true Int.toNat_natCast if_true if_false Nat.zero_add Nat.add_zero List.map_cons List.map_nil Nat.reduceEqDiff Nat.left_eq_add Nat.add_eq_left Nat.add_left_cancel_iff Nat.add_assoc Nat.reduceSub Nat.reduceAdd Nat.reduceLeDiff Nat.le_refl Nat.zero_le Nat.zero_lt_one Nat.lt_add_one Int.reduceLT Int.reduceLE Int.reduceToNat Nat.reduceLT Nat.reduceBEq Bool.false_eq_true Nat.reduceBNe ne_eq not_false_eq_true not_true_eq_false false_and and_false reduceIte Int.natCast_nonneg reduceCtorEq parts_agg parts_bool parts_int parts_str parts_lit parts_nils parts_sl parts_ptr Int.natCast_nonneg Int.natCast_nonneg beq_self_eq_true bne_self_eq_false Bool.true_and Bool.false_and Bool.and_true Bool.and_false Bool.true_or Bool.false_or Bool.or_true Bool.or_false Bool.not_true Bool.not_false
attribute [local go_sem] instr0 instr1 instr2 instr10 instr11 instr12 instrN instrA instr_len node0 node1 node2 node3 node4 node5 node6 nodeA node_len I ints progA progsA

/-- parquetryref1.Same of a tensor and itself -/
theorem tenSame_spec (t : Ten) (σ : St) : T Try.prog 44 [.agg (tenL t), .agg (tenL t)] σ (.bool true) σ := by
 refine in44 (by simp) fun wf hab => ?_
 have hl : t.dt.length ≤ most := by
  have h0 := hab 0 (by simp)
  simp only [List.getD_cons_zero] at h0
  have h1 := h0.agg 1 (by simp [tenL])
  exact hab_ints (by simpa [tenL] using h1)
 clear hab
 have hxx : Ext σ ((σ.push (.cells 2 [tenL t])).push (.cells 2 [tenL t])) := ⟨by simp (maxSteps := 1000000) only [go_sem]; omega, fun c hc => by simp (disch := omega) only [go_sem, if_neg]⟩
 unfold c44
 refine .midK (fun L u => L = [(2, .ptr σ.next 0 0), (3, .ptr (σ.next + 1) 0 0)] ∧ u.blk σ.next = some (.cells 2 [[ints t.sh, ints t.dt]]) ∧ u.blk (σ.next + 1) = some (.cells 2 [[ints t.sh, ints t.dt]]) ∧ Ext σ u) ?_ ?_
 ·refine .rg fun A hA K hK => ?_
  simp (maxSteps := 1000000) only [go_sem, hA.nil, hA.go, hA.yes, hA.noT, hA.noF, hA.skp, tenL]
  refine hK _ _ ?_; clear hK K hA A
  exact ⟨_, ⟨rfl, by simp (maxSteps := 1000000) only [go_sem, show ¬ σ.next = σ.next + 1 by omega], by simp (maxSteps := 1000000) only [go_sem], hxx⟩, by simp (maxSteps := 1000000) only [go_sem]⟩
 rintro L u ⟨rfl, h2, h3, hx⟩
 have hst := ints_spec t.sh t.sh u
 rw [show (t.sh == t.sh) = true by simp] at hst
 have c1 : ((t.dt.length : Int) != t.dt.length) = false := by simp
 refine .seq (.seq (.rg fun A hA K hK => ?_))
 simp (maxSteps := 1000000) only [go_sem, hA.nil, hA.go, hA.yes, hA.noT, hA.noF, hA.skp, h2, h3]
 refine aopq_call (hst) (by simp (maxSteps := 1000000) only [go_sem, h2, h3, c1]) ?_
 try simp (maxSteps := 1000000) only [go_sem, hA.nil, hA.go, hA.yes, hA.noT, hA.noF, hA.skp, h2, h3, c1]
 try simp (maxSteps := 1000000) only [go_sem, hA.nil, hA.go, hA.yes, hA.noT, hA.noF, hA.skp, h2, h3, c1, List.length_map]
 refine hK _ _ ?_; clear hK K hA A
 refine .cond (t := false) (by simp (maxSteps := 1000000) only [go_sem, c1]) (fun h => by cases h) (fun _ => .skip ?_)
 refine .seq (.seq (.rg fun A hA K hK => ?_))
 simp (maxSteps := 1000000) only [go_sem, hA.nil, hA.go, hA.yes, hA.noT, hA.noF, hA.skp]
 refine hK _ _ ?_; clear hK K hA A
 refine .countK (N := t.dt.length) (fun i L s => L = [(2, .ptr σ.next 0 0), (3, .ptr (σ.next + 1) 0 0), (5, I i)] ∧ s = u) hl ⟨_, ⟨rfl, rfl⟩, by simp (maxSteps := 1000000) only [go_sem]; try rfl⟩ ?_ ?_ ?_
 ·rintro i L s hi ⟨rfl, rfl⟩
  refine .rg fun A hA K hK => ?_
  simp (maxSteps := 1000000) only [go_sem, hA.nil, hA.go, hA.yes, hA.noT, hA.noF, hA.skp, h2]
  refine hK _ _ ?_; clear hK K hA A
  exact ⟨rfl, by simp (maxSteps := 1000000) only [go_sem, List.length_map]; try simp, _, ⟨rfl, rfl⟩, by simp (maxSteps := 1000000) only [go_sem]⟩
 ·rintro i L s hi ⟨rfl, rfl⟩
  have e0 : (i : Int) < t.dt.length := by omega
  have gi := ints_get hi
  generalize t.dt[i] = n at gi
  have c2 : (n != n) = false := by simp
  refine .seq (.rd fun A hA K hK => ?_)
  simp (maxSteps := 1000000) only [go_sem, hA.nil, hA.go, hA.yes, hA.noT, hA.noF, hA.skp, h2, h3, e0, hi, gi, List.length_map]
  refine hK _ _ ?_; clear hK K hA A
  refine .cond (t := false) (by simp (maxSteps := 1000000) only [go_sem, c2]) (fun h => by cases h) (fun _ => .skip ?_)
  exact ⟨by simp (maxSteps := 1000000) only [go_sem], _, ⟨rfl, rfl⟩, by simp (maxSteps := 1000000) only [go_sem]; try rfl⟩
 ·rintro L s F ⟨rfl, rfl⟩ hf
  refine .seq (.rg fun A hA K hK => ?_)
  simp (maxSteps := 1000000) only [go_sem, hA.nil, hA.go, hA.yes, hA.noT, hA.noF, hA.skp]
  refine hK _ _ ?_; clear hK K hA A
  exact .ret (retB (by simp (maxSteps := 1000000) only [go_sem]) wf hx.2 (.bool _) ⟨rfl, rfl⟩)
def PM.init (l : List (List Instr)) (gv : List (List Ten)) : PM := ⟨l, gv, List.replicate l.length [], List.replicate l.length 0, [], 0⟩
def PM.drain (nf : Node → List Ten → Option Ten) : Nat → PM → Nat → Option PM
 | 0, _, _ => none
 | n + 1, m, d => match m.step nf d with
  | none => none
  | some (true, m') => PM.drain nf n m' d
  | some (false, m') => some m'
def PM.drains (nf : Node → List Ten → Option Ten) (f : Nat) (m : PM) : Nat → Option PM
 | 0 => some m
 | n + 1 => match PM.drain nf f m n with
  | none => none
  | some m' => PM.drains nf f m' n
def lookR (k : Int) (l : List (Int × Ten)) : Option Ten := (l.findIdx? (fun x => x.1 == k)).map fun i => (l.getD i (0, zeroT)).2
/-- Programs that run, in two orders, and come to the same. -/
def RunOk (nf : Node → List Ten → Option Ten) (l : List (List Instr)) (gv : List (List Ten)) (w : PM) : Prop :=
 ∃ f o1 o2, PM.fair nf f (PM.init l gv) = some (true, w) ∧ PM.drains nf f (PM.init l gv) l.length = some o1 ∧ PM.fair nf f o1 = some (true, o2) ∧ w.bag = [] ∧ o2.bag = [] ∧ w.sent = o2.sent ∧
  ∀ d, d < l.length → (w.rg.getD d []).length = (o2.rg.getD d []).length ∧ ∀ x ∈ w.rg.getD d [], lookR x.1 (o2.rg.getD d []) = some x.2

theorem PM.drain_l {nf : Node → List Ten → Option Ten} : ∀ {n : Nat} {m m' : PM} {d : Nat}, PM.drain nf n m d = some m' → m.Tot → m'.l = m.l ∧ m'.Tot
 | 0, _, _, _, h, _ => by cases h
 | n + 1, m, m', d, h, ht => by
  unfold PM.drain at h
  cases hs : m.step nf d with
  | none => rw [hs] at h; cases h
  | some q =>
   obtain ⟨r, m1⟩ := q
   rw [hs] at h
   cases r
   ·cases h; exact ⟨PM.step_l hs, ht.step hs⟩
   ·obtain ⟨e, t⟩ := PM.drain_l h (ht.step hs)
    exact ⟨e.trans (PM.step_l hs), t⟩
theorem PM.drains_l {nf : Node → List Ten → Option Ten} {f : Nat} : ∀ {n : Nat} {m m' : PM}, PM.drains nf f m n = some m' → m.Tot → m'.l = m.l ∧ m'.Tot
 | 0, _, _, h, ht => by cases h; exact ⟨rfl, ht⟩
 | n + 1, m, m', h, ht => by
  unfold PM.drains at h
  cases hs : PM.drain nf f m n with
  | none => rw [hs] at h; cases h
  | some m1 =>
   rw [hs] at h
   obtain ⟨e1, t1⟩ := PM.drain_l hs ht
   obtain ⟨e, t⟩ := PM.drains_l h t1
   exact ⟨e.trans e1, t⟩
theorem PM.fair_l {nf : Node → List Ten → Option Ten} : ∀ {n : Nat} {m m' : PM} {r : Bool}, PM.fair nf n m = some (r, m') → m.Tot → m'.l = m.l ∧ m'.Tot
 | 0, _, _, _, h, _ => by cases h
 | n + 1, m, m', r, h, ht => by
  unfold PM.fair at h
  cases hs : m.roundN nf m.l.length with
  | none => rw [hs] at h; cases h
  | some q =>
   obtain ⟨d, m1⟩ := q
   rw [hs] at h
   obtain ⟨e1, t1⟩ := PM.roundN_l ht hs
   cases d
   ·cases h; exact ⟨e1, t1⟩
   ·obtain ⟨e, t⟩ := PM.fair_l h t1
    exact ⟨e.trans e1, t⟩

/-- Two machines side by side. -/
structure Two (n0 : Nat) (s : St) (o1 : Nat → Option Nat) (b1 R1 A1 W1 : Nat) (v1 : AV) (mb1 : Nat → Nat) (m1 : PM) (o2 : Nat → Option Nat) (b2 R2 A2 W2 : Nat) (v2 : AV) (mb2 : Nat → Nat) (m2 : PM) : Prop where
 h1 : MC o1 s b1 R1 A1 W1 v1 mb1 m1
 h2 : MC o2 s b2 R2 A2 W2 v2 mb2 m2
 dis : ∀ c, o1 c ≠ none → o2 c = none
 lo1 : ∀ c, c < n0 → o1 c = none
 lo2 : ∀ c, c < n0 → o2 c = none
 nx : n0 ≤ s.next
section two
variable {n0 : Nat} {s : St} {o1 : Nat → Option Nat} {b1 R1 A1 W1 : Nat} {v1 : AV} {mb1 : Nat → Nat} {m1 : PM} {o2 : Nat → Option Nat} {b2 R2 A2 W2 : Nat} {v2 : AV} {mb2 : Nat → Nat} {m2 : PM}
theorem Two.left (h : Two n0 s o1 b1 R1 A1 W1 v1 mb1 m1 o2 b2 R2 A2 W2 v2 mb2 m2) {o' : Nat → Option Nat} {v' : AV} {m' : PM} {t : St} (h' : MC o' t b1 R1 A1 W1 v' mb1 m') (g : Grow o1 s o' t) :
  Two n0 t o' b1 R1 A1 W1 v' mb1 m' o2 b2 R2 A2 W2 v2 mb2 m2 ∧ ∀ c, c < n0 → t.blk c = s.blk c := by
 have d2 : ∀ c, o2 c ≠ none → o1 c = none := fun c hc => by
  cases hh : o1 c with
  | none => rfl
  | some x => exact absurd (h.dis c (by rw [hh]; simp)) hc
 refine ⟨⟨h', h.h2.frame g.1 fun c hc => g.2.2 c (h.h2.lt c hc) (d2 c hc), fun c hc => ?_, fun c hc => (g.2.1 c (Nat.lt_of_lt_of_le hc h.nx)).trans (h.lo1 c hc), h.lo2, Nat.le_trans h.nx g.1⟩, fun c hc => g.2.2 c (Nat.lt_of_lt_of_le hc h.nx) (h.lo1 c hc)⟩
 rcases Nat.lt_or_ge c s.next with hl | hl
 ·exact h.dis c (by rw [← g.2.1 c hl]; exact hc)
 ·cases hh : o2 c with
  | none => rfl
  | some x => have := h.h2.lt' hh; omega
theorem Two.right (h : Two n0 s o1 b1 R1 A1 W1 v1 mb1 m1 o2 b2 R2 A2 W2 v2 mb2 m2) {o' : Nat → Option Nat} {v' : AV} {m' : PM} {t : St} (h' : MC o' t b2 R2 A2 W2 v' mb2 m') (g : Grow o2 s o' t) :
  Two n0 t o1 b1 R1 A1 W1 v1 mb1 m1 o' b2 R2 A2 W2 v' mb2 m' ∧ ∀ c, c < n0 → t.blk c = s.blk c := by
 refine ⟨⟨h.h1.frame g.1 fun c hc => g.2.2 c (h.h1.lt c hc) (h.dis c hc), h', fun c hc => ?_, h.lo1, fun c hc => (g.2.1 c (Nat.lt_of_lt_of_le hc h.nx)).trans (h.lo2 c hc), Nat.le_trans h.nx g.1⟩, fun c hc => g.2.2 c (Nat.lt_of_lt_of_le hc h.nx) (h.lo2 c hc)⟩
 rw [g.2.1 c (h.h1.lt c hc)]; exact h.dis c hc
end two

theorem PM.init_tot (l : List (List Instr)) (gv : List (List Ten)) (ht : (l.map List.length).sum ≤ 2 ^ 20) (hi : ∀ d, ∀ i ∈ l.getD d [], i.ins.length ≤ 2 ^ 20) : (PM.init l gv).Tot := by
 refine ⟨by simp [PM.init], by simp [PM.init], by simp [PM.init], by simp [PM.init], fun d => ?_, ht, hi⟩
 have : (PM.init l gv).at_.getD d 0 = 0 := by
  simp only [PM.init, List.getD_eq_getElem?_getD, List.getElem?_replicate]; split <;> rfl
 omega

/-- law21.run -/
theorem run_spec {nf : Node → List Ten → Option Ten} (hnf : NodeOk nf) (l : List (List Instr)) (gv : List (List Ten)) (hr : rightE l = 0) (hp : pairsE l = 0) (h1 : 1 ≤ l.length) (h9 : l.length ≤ 900) (hlen : gv.length = l.length) (ht : ∀ ts ∈ gv, ∀ t ∈ ts, rightT t.sh t.dt = true)
  (hs : (l.map List.length).sum ≤ 2 ^ 20) (hins : ∀ d, ∀ i ∈ l.getD d [], i.ins.length ≤ 2 ^ 20) (w : PM) (hrun : RunOk nf l gv w) (σ : St) :
  TQ Try.prog 43 [progsA l, gvA gv] σ fun v s => ∃ o b bR bA bW vB mb, v = .tup [.ptr b 0 0, .bool true] ∧ MC o s b bR bA bW vB mb w ∧ σ.next ≤ s.next ∧ (∀ c, c < σ.next → o c = none) ∧ ∀ c, c < σ.next → s.blk c = σ.blk c := by
 refine in43 (by simp) fun wf hab => ?_
 clear hab
 obtain ⟨f, d1, d2, r1, r2, r3, r4, r5, r6, r7⟩ := hrun
 have htot := PM.init_tot l gv hs hins
 have hm9 : l.length ≤ most := by simp only [most]; omega
 have hpp := refPairs_spec l σ
 rw [hp] at hpp
 unfold c43
 refine .seq (.rg fun A hA K hK => ?_)
 simp (maxSteps := 1000000) only [go_sem, hA.nil, hA.go, hA.yes, hA.noT, hA.noF, hA.skp, gvA]
 refine hK _ _ ?_; clear hK K hA A
 refine .seq (.seq (.rg fun A hA K hK => ?_))
 simp (maxSteps := 1000000) only [go_sem, hA.nil, hA.go, hA.yes, hA.noT, hA.noF, hA.skp, gvA]
 refine aopq_call (hpp) (by simp (maxSteps := 1000000) only [go_sem]) ?_
 try simp (maxSteps := 1000000) only [go_sem, hA.nil, hA.go, hA.yes, hA.noT, hA.noF, hA.skp]
 refine hK _ _ ?_; clear hK K hA A
 refine .cond (t := false) (by simp (maxSteps := 1000000) only [go_sem]) (fun h => by cases h) (fun _ => .skip ?_)
 refine .seq (.rg fun A hA K hK => ?_)
 simp (maxSteps := 1000000) only [go_sem, hA.nil, hA.go, hA.yes, hA.noT, hA.noF, hA.skp]
 refine aopq_callQ (mnew_spec l gv hr h1 h9 hlen ht σ) (by simp (maxSteps := 1000000) only [go_sem, gvA]) ?_
 rintro v s1 ⟨o1, b1, R1, A1, W1, mb1, rfl, hM1, hx1, hlo1, hold1⟩
 try simp (maxSteps := 1000000) only [go_sem, hA.nil, hA.go, hA.yes, hA.noT, hA.noF, hA.skp]
 refine hK _ _ ?_; clear hK K hA A
 refine .seq (.rg fun A hA K hK => ?_)
 simp (maxSteps := 1000000) only [go_sem, hA.nil, hA.go, hA.yes, hA.noT, hA.noF, hA.skp]
 refine aopq_callQ (mnew_spec l gv hr h1 h9 hlen ht s1) (by simp (maxSteps := 1000000) only [go_sem, gvA]) ?_
 rintro v s2 ⟨o2, b2, R2, A2, W2, mb2, rfl, hM2, hx2, hlo2, hold2⟩
 try simp (maxSteps := 1000000) only [go_sem, hA.nil, hA.go, hA.yes, hA.noT, hA.noF, hA.skp]
 refine hK _ _ ?_; clear hK K hA A
 have hT : Two σ.next s2 o1 b1 R1 A1 W1 .nils mb1 (PM.init l gv) o2 b2 R2 A2 W2 .nils mb2 (PM.init l gv) := by
  refine ⟨hM1.frame hx2 fun c hc => hold2 c (hM1.lt c hc), hM2, fun c hc => ?_, fun c hc => ?_, fun c hc => ?_, by omega⟩
  ·have := hM1.lt c hc
   cases hh : o2 c with
   | none => rfl
   | some x => have := hlo2 c (by rw [hh]; simp); omega
  ·cases hh : o1 c with
   | none => rfl
   | some x => have := hlo1 c (by rw [hh]; simp); omega
  ·cases hh : o2 c with
   | none => rfl
   | some x => have := hlo2 c (by rw [hh]; simp); omega
 have hold : ∀ c, c < σ.next → s2.blk c = σ.blk c := fun c hc => (hold2 c (by omega)).trans (hold1 c hc)
 clear hM1 hM2 hlo1 hlo2 hold1 hold2
 refine .seq (.seq (.rg fun A hA K hK => ?_))
 simp (maxSteps := 1000000) only [go_sem, hA.nil, hA.go, hA.yes, hA.noT, hA.noF, hA.skp]
 refine hK _ _ ?_; clear hK K hA A
 refine .cond (t := false) (by simp (maxSteps := 1000000) only [go_sem]) (fun h => by cases h) (fun _ => .skip ?_)
 have wl : IntKind.i64.wrap ((l.length : Int) - 1) = (l.length : Int) - 1 := IntWalk.i64_in _ (by omega)
 refine .seq (.seq (.rg fun A hA K hK => ?_))
 simp (maxSteps := 1000000) only [go_sem, hA.nil, hA.go, hA.yes, hA.noT, hA.noF, hA.skp, wl]
 refine hK _ _ ?_; clear hK K hA A
 refine .thenK (fun L t => ∃ o' v', L = [(0, progsA l), (6, .ptr b1 0 0), (8, .ptr b2 0 0)] ∧ Two σ.next t o1 b1 R1 A1 W1 .nils mb1 (PM.init l gv) o' b2 R2 A2 W2 v' mb2 d1 ∧ (∀ c, c < σ.next → t.blk c = σ.blk c)) ?_ ?_
 ·refine .loopK (fun k L t => ∃ o' v' m, L = [(0, progsA l), (6, .ptr b1 0 0), (8, .ptr b2 0 0), (10, I ((k : Int) - 1))] ∧ Two σ.next t o1 b1 R1 A1 W1 .nils mb1 (PM.init l gv) o' b2 R2 A2 W2 v' mb2 m ∧ (∀ c, c < σ.next → t.blk c = σ.blk c) ∧ m.Tot ∧ m.l = l ∧ k ≤ l.length ∧ PM.drains nf f m k = some d1) l.length
   ⟨_, ⟨o2, .nils, _, rfl, hT, hold, htot, rfl, Nat.le_refl _, r2⟩, by simp (maxSteps := 1000000) only [go_sem]; try rfl⟩ ?_
  rintro k L t ⟨o', v', m, rfl, hT, hold, htot, hml, hkl, hdr⟩
  cases k with
  | zero =>
   cases hdr
   have z0 : ¬ ((0 : Int) - 1 ≥ 0) := by decide
   refine .seq (.seq (.rg fun A hA K hK => ?_))
   simp (maxSteps := 1000000) only [go_sem, hA.nil, hA.go, hA.yes, hA.noT, hA.noF, hA.skp]
   refine hK _ _ ?_; clear hK K hA A
   refine .cond (t := false) (by simp (maxSteps := 1000000) only [go_sem, z0]) (fun h => by cases h) (fun _ => .exit ?_)
   simp only [thenQ, loopQ, if_true]
   exact ⟨_, ⟨o', v', rfl, hT, hold⟩, by simp (maxSteps := 1000000) only [go_sem]⟩
  | succ k =>
   unfold PM.drains at hdr
   cases hd : PM.drain nf f m k with
   | none => rw [hd] at hdr; cases hdr
   | some m' =>
    rw [hd] at hdr
    have e1 : ((k + 1 : Nat) : Int) - 1 = k := by omega
    have e2 : (k : Int) ≥ 0 := by omega
    rw [e1]
    refine .seq (.seq (.rg fun A hA K hK => ?_))
    simp (maxSteps := 1000000) only [go_sem, hA.nil, hA.go, hA.yes, hA.noT, hA.noF, hA.skp]
    refine hK _ _ ?_; clear hK K hA A
    refine .cond (t := true) (by simp (maxSteps := 1000000) only [go_sem, e2]) (fun _ => .skip ?_) (fun h => by cases h)
    refine .midK (fun L t => ∃ o' v', L = [(0, progsA l), (6, .ptr b1 0 0), (8, .ptr b2 0 0), (10, I k)] ∧ Two σ.next t o1 b1 R1 A1 W1 .nils mb1 (PM.init l gv) o' b2 R2 A2 W2 v' mb2 m' ∧ (∀ c, c < σ.next → t.blk c = σ.blk c)) ?_ ?_
    ·refine .block ?_
     refine .loopK (fun n L t => ∃ o' v' m, L = [(0, progsA l), (6, .ptr b1 0 0), (8, .ptr b2 0 0), (10, I k)] ∧ Two σ.next t o1 b1 R1 A1 W1 .nils mb1 (PM.init l gv) o' b2 R2 A2 W2 v' mb2 m ∧ (∀ c, c < σ.next → t.blk c = σ.blk c) ∧ m.Tot ∧ m.l = l ∧ PM.drain nf n m k = some m') f
      ⟨_, ⟨o', v', m, rfl, hT, hold, htot, hml, hd⟩, by simp (maxSteps := 1000000) only [go_sem]⟩ ?_
     rintro n L t ⟨o3, v3, m3, rfl, hT, hold, htot, hml, hd⟩
     refine .block ?_
     cases n with
     | zero => cases hd
     | succ n =>
      unfold PM.drain at hd
      cases hst : m3.step nf k with
      | none => rw [hst] at hd; cases hd
      | some q =>
       obtain ⟨r, m4⟩ := q
       rw [hst] at hd
       refine .seq (.rg fun A hA K hK => ?_)
       simp (maxSteps := 1000000) only [go_sem, hA.nil, hA.go, hA.yes, hA.noT, hA.noF, hA.skp]
       refine aopq_callQ (mStep_spec hnf hT.h2 htot k (by rw [hml]; omega) r m4 hst) (by simp (maxSteps := 1000000) only [go_sem]) ?_
       rintro v s ⟨rfl, o4, v4, h4, g4⟩
       obtain ⟨hT4, hold4⟩ := hT.right h4 g4
       try simp (maxSteps := 1000000) only [go_sem, hA.nil, hA.go, hA.yes, hA.noT, hA.noF, hA.skp]
       refine hK _ _ ?_; clear hK K hA A
       refine .seq (.seq (.rg fun A hA K hK => ?_))
       simp (maxSteps := 1000000) only [go_sem, hA.nil, hA.go, hA.yes, hA.noT, hA.noF, hA.skp]
       refine hK _ _ ?_; clear hK K hA A
       refine .cond (t := false) (by simp (maxSteps := 1000000) only [go_sem]) (fun h => by cases h) (fun _ => .skip ?_)
       refine .seq (.rg fun A hA K hK => ?_)
       simp (maxSteps := 1000000) only [go_sem, hA.nil, hA.go, hA.yes, hA.noT, hA.noF, hA.skp]
       refine hK _ _ ?_; clear hK K hA A
       cases r
       ·refine .cond (t := true) (by simp (maxSteps := 1000000) only [go_sem]) (fun _ => ?_) (fun h => by cases h)
        cases hd
        refine .exit ?_
        simp only [thenQ, loopQ, blockQ, if_true]
        exact ⟨_, ⟨o4, v4, rfl, hT4, fun c hc => (hold4 c hc).trans (hold c hc)⟩, by simp (maxSteps := 1000000) only [go_sem]⟩
       ·refine .cond (t := false) (by simp (maxSteps := 1000000) only [go_sem]) (fun h => by cases h) (fun _ => .skip ?_)
        exact ⟨n, by omega, _, ⟨o4, v4, m4, rfl, hT4, fun c hc => (hold4 c hc).trans (hold c hc), htot.step hst, (PM.step_l hst).trans hml, hd⟩, by simp (maxSteps := 1000000) only [go_sem]⟩
    rintro L t ⟨o', v', rfl, hT, hold⟩
    obtain ⟨e3, t3⟩ := PM.drain_l hd htot
    have wk : IntKind.i64.wrap ((k : Int) - 1) = (k : Int) - 1 := IntWalk.i64_in _ (by omega)
    refine .rg fun A hA K hK => ?_
    simp (maxSteps := 1000000) only [go_sem, hA.nil, hA.go, hA.yes, hA.noT, hA.noF, hA.skp, wk]
    refine hK _ _ ?_; clear hK K hA A
    exact ⟨k, by omega, _, ⟨o', v', m', rfl, hT, hold, t3, e3.trans hml, by omega, hdr⟩, by simp (maxSteps := 1000000) only [go_sem]⟩
 rintro L t ⟨o', v', rfl, hT, hold⟩
 obtain ⟨hml1, ht1⟩ := PM.drains_l r2 htot
 refine .seq (.rg fun A hA K hK => ?_)
 simp (maxSteps := 1000000) only [go_sem, hA.nil, hA.go, hA.yes, hA.noT, hA.noF, hA.skp]
 refine aopq_callQ (fair_spec hnf hT.h1 htot hm9 f true w r1) (by simp (maxSteps := 1000000) only [go_sem]) ?_
 rintro v s ⟨rfl, o3, v3, h3, g3⟩
 obtain ⟨hT, hold3⟩ := hT.left h3 g3
 try simp (maxSteps := 1000000) only [go_sem, hA.nil, hA.go, hA.yes, hA.noT, hA.noF, hA.skp]
 refine hK _ _ ?_; clear hK K hA A
 refine .seq (.rg fun A hA K hK => ?_)
 simp (maxSteps := 1000000) only [go_sem, hA.nil, hA.go, hA.yes, hA.noT, hA.noF, hA.skp]
 refine aopq_callQ (fair_spec hnf hT.h2 ht1 (by rw [hml1]; exact hm9) f true d2 r3) (by simp (maxSteps := 1000000) only [go_sem]) ?_
 rintro v s4 ⟨rfl, o4, v4, h4, g4⟩
 obtain ⟨hT, hold4⟩ := hT.right h4 g4
 have hold : ∀ c, c < σ.next → s4.blk c = σ.blk c := fun c hc => (hold4 c hc).trans ((hold3 c hc).trans (hold c hc))
 try simp (maxSteps := 1000000) only [go_sem, hA.nil, hA.go, hA.yes, hA.noT, hA.noF, hA.skp]
 refine hK _ _ ?_; clear hK K hA A
 have hw1 := (PM.fair_l r1 htot).1
 have hw2 := (PM.fair_l r3 ht1).1.trans hml1
 have e7 : w.l = l := hw1
 have e8 : d2.l = l := hw2
 clear h3 g3 hold3 h4 g4 hold4 hml1 ht1 hw1 hw2
 refine .keep [(0, progsA l), (6, .ptr b1 0 0), (8, .ptr b2 0 0), (13, .bool true), (14, I 0), (15, .bool true), (16, I 0)] (by simp (maxSteps := 1000000) only [go_sem]) ?_
 have hb1 := hT.h1.hb
 have hb2 := hT.h2.hb
 rw [e7] at hb1
 rw [e8] at hb2
 have cs : (w.sent != d2.sent) = false := by rw [r6]; simp
 refine .midK (fun L t => L = [(0, progsA l), (6, .ptr b1 0 0), (8, .ptr b2 0 0)] ∧ t = s4) ?_ ?_
 ·have q1 := hT.h1.hB
  have q2 := hT.h2.hB
  rw [r4] at q1
  rw [r5] at q2
  have fin : ∀ {v : AV}, Row1 o3 4 s4 5 v (([] : List Bg).map bgL) → v = .nils ∨ ∃ c, v = .sl c 0 0 := by
   rintro v (⟨rfl, _⟩ | ⟨c, rfl, _⟩)
   ·exact .inl rfl
   ·exact .inr ⟨c, rfl⟩
  have fin2 : ∀ {v : AV}, Row1 o4 4 s4 5 v (([] : List Bg).map bgL) → v = .nils ∨ ∃ c, v = .sl c 0 0 := by
   rintro v (⟨rfl, _⟩ | ⟨c, rfl, _⟩)
   ·exact .inl rfl
   ·exact .inr ⟨c, rfl⟩
  rcases fin q1 with rfl | ⟨c, rfl⟩ <;> rcases fin2 q2 with rfl | ⟨c', rfl⟩
  all_goals
   simp only [gvA] at hb1 hb2
   refine .seq (.rd fun A hA K hK => ?_)
   simp (maxSteps := 1000000) only [go_sem, hA.nil, hA.go, hA.yes, hA.noT, hA.noF, hA.skp, hb1, hb2, cs]
   refine hK _ _ ?_; clear hK K hA A
   refine .cond (t := false) (by simp (maxSteps := 1000000) only [go_sem, cs]) (fun h => by cases h) (fun _ => .skip ?_)
   exact ⟨_, ⟨rfl, rfl⟩, by simp (maxSteps := 1000000) only [go_sem]⟩
 rintro L t ⟨rfl, rfl⟩
 have hR1 := hT.h1.hR
 have hR2 := hT.h2.hR
 have hM1 := hT.h1.hM
 have hM2 := hT.h2.hM
 rw [e7] at hR1 hM1
 rw [e8] at hR2 hM2
 simp only [gvA] at hb1 hb2
 have hln : (List.range l.length).length = l.length := List.length_range
 have lt1 : ∀ {c x}, o3 c = some x → c < t.next := fun hx => hT.h1.lt' hx
 have lt2 : ∀ {c x}, o4 c = some x → c < t.next := fun hx => hT.h2.lt' hx
 have lb1 := lt1 hT.h1.own0
 have lb2 := lt2 hT.h2.own0
 have lR1 := lt1 hT.h1.ownR
 have lR2 := lt2 hT.h2.ownR
 refine .midK (fun L u => L = [(6, .ptr b1 0 0)] ∧ Ext t u) ?_ ?_
 ·refine .seq (.rg fun A hA K hK => ?_)
  simp (maxSteps := 1000000) only [go_sem, hA.nil, hA.go, hA.yes, hA.noT, hA.noF, hA.skp]
  refine hK _ _ ?_; clear hK K hA A
  refine .rangeK (N := l.length) (fun d L u => L = [(0, progsA l), (6, .ptr b1 0 0), (8, .ptr b2 0 0), (112, I l.length), (113, I d)] ∧ Ext t u) hm9 ⟨_, ⟨rfl, .refl t⟩, by simp (maxSteps := 1000000) only [go_sem]; try rfl⟩ ?_ ?_ ?_
  ·rintro d L u ⟨rfl, _⟩
   exact ⟨by simp (maxSteps := 1000000) only [go_sem], by simp (maxSteps := 1000000) only [go_sem], rfl⟩
  ·rintro d L u hd ⟨rfl, hx⟩
   have e0 : (d : Int) < l.length := by omega
   have lm1 := lt1 (hM1 d hd).1
   have lm2 := lt2 (hM2 d hd).1
   have hun := hx.1
   have u1 : ∀ {c B}, t.blk c = B → c < t.next → u.blk c = B := fun h1 h2 => (hx.2 _ h2).trans h1
   have ub1 := u1 hb1 lb1
   have ub2 := u1 hb2 lb2
   have uR1 := u1 hR1 lR1
   have uR2 := u1 hR2 lR2
   have um1 := u1 (hM1 d hd).2 lm1
   have um2 := u1 (hM2 d hd).2 lm2
   have gm1 := mb_get (mb := mb1) hd
   have gm2 := mb_get (mb := mb2) hd
   obtain ⟨hle, hlk⟩ := r7 d hd
   generalize w.rg.getD d [] = rs1 at *
   generalize d2.rg.getD d [] = rs2 at *
   have hl1 : (esT rs1).length = rs1.length := by simp [esT]
   have hl2 : (esT rs2).length = rs1.length := by simp [esT, hle]
   have c1 : ((rs1.length : Int) != rs1.length) = false := by simp
   refine .seq (.rg fun A hA K hK => ?_)
   simp (maxSteps := 1000000) only [go_sem, hA.nil, hA.go, hA.yes, hA.noT, hA.noF, hA.skp]
   refine hK _ _ ?_; clear hK K hA A
   refine .seq (.seq (.rd fun A hA K hK => ?_))
   simp (maxSteps := 1000000) only [go_sem, hA.nil, hA.go, hA.yes, hA.noT, hA.noF, hA.skp, ub1, ub2, uR1, uR2, um1, um2, gm1, gm2, e0, hd, hln, hl1, hl2, c1]
   refine hK _ _ ?_; clear hK K hA A
   refine .cond (t := false) (by simp (maxSteps := 1000000) only [go_sem, c1]) (fun h => by cases h) (fun _ => .skip ?_)
   refine .seq (.rg fun A hA K hK => ?_)
   simp (maxSteps := 1000000) only [go_sem, hA.nil, hA.go, hA.yes, hA.noT, hA.noF, hA.skp, ub1, uR1, um1, gm1, e0, hd, hln, hl1]
   refine hK _ _ ?_; clear hK K hA A
   have n1 : ¬ b1 = u.next := by omega
   have n2 : ¬ b2 = u.next := by omega
   have n3 : ¬ R1 = u.next := by omega
   have n4 : ¬ R2 = u.next := by omega
   have n5 : ¬ mb1 d = u.next := by omega
   have n6 : ¬ mb2 d = u.next := by omega
   refine .loopK (fun m L s => ∃ seen : List Nat, m = (List.range rs1.length).countP (fun k => !seen.contains k) ∧ L = [(0, progsA l), (6, .ptr b1 0 0), (8, .ptr b2 0 0), (17, I d), (112, I l.length), (113, I d), (140, .iter u.next)] ∧ s.blk u.next = some (.miter (mb1 d) rs1.length seen) ∧ u.next < s.next ∧ ∀ c, c < u.next → s.blk c = u.blk c) _
    ⟨_, ⟨[], rfl, rfl, by simp (maxSteps := 1000000) only [go_sem], by simp (maxSteps := 1000000) only [go_sem]; try omega, fun c hc => by simp (disch := omega) only [go_sem, if_neg]⟩, by simp (maxSteps := 1000000) only [go_sem]⟩ ?_
   rintro m L s ⟨seen, rfl, rfl, hit, hsn, hsx⟩
   have sm1 := (hsx _ (by omega)).trans um1
   refine .seq (.rg fun A hA K hK => ?_)
   simp (maxSteps := 1000000) only [go_sem, hA.nil, hA.go, hA.yes, hA.noT, hA.noF, hA.skp, hit, sm1, hl1]
   refine ⟨fun hall => hK _ _ ?_, fun i hi hni => hK _ _ ?_⟩ <;> clear hK K hA A
   ·refine .seq (.cond (t := false) (by simp (maxSteps := 1000000) only [go_sem]) (fun h => by cases h) fun _ => .exit ?_)
    simp only [thenQ, blockQ, loopQ, if_true]
    refine ⟨by simp (maxSteps := 1000000) only [go_sem], _, ⟨rfl, ⟨by omega, fun c hc => (hsx c (by omega)).trans (hx.2 c hc)⟩⟩, by simp (maxSteps := 1000000) only [go_sem]; try rfl⟩
   ·refine .seq (.cond (t := true) (by simp (maxSteps := 1000000) only [go_sem]) (fun _ => .skip ?_) (fun h => by cases h))
    refine .block ?_
    have hgl : (seen ++ [i]).getLast? = some i := by simp
    have hxm : rs1[i] ∈ rs1 := List.getElem_mem hi
    have hes : (esT rs1).getD i ([], .undef) = ([rs1[i].1], .agg (tenL rs1[i].2)) := by simp [esT, List.getD_eq_getElem?_getD, hi]
    have hlx := hlk _ hxm
    generalize rs1[i] = x at hes hlx
    obtain ⟨k, y⟩ := x
    simp only [tenL] at hes
    have hne : ¬ mb1 d = u.next := n5
    have hka : keyA none [k] = I k := rfl
    refine .midK (fun L v => L = [(0, progsA l), (6, .ptr b1 0 0), (8, .ptr b2 0 0), (17, I d), (18, I k), (19, .ptr s.next 0 0), (112, I l.length), (113, I d), (140, .iter u.next)] ∧ v.next = s.next + 1 ∧ v.blk s.next = some (.cells 2 [[ints y.sh, ints y.dt]]) ∧ v.blk u.next = some (.miter (mb1 d) rs1.length (seen ++ [i])) ∧ ∀ c, c < u.next → v.blk c = u.blk c) ?_ ?_
    ·refine .rg fun A hA K hK => ?_
     simp (maxSteps := 1000000) only [go_sem, hA.nil, hA.go, hA.yes, hA.noT, hA.noF, hA.skp, hit, sm1, hgl, hes, hl1, hi, hne, hka]
     refine hK _ _ ?_; clear hK K hA A
     refine ⟨_, ⟨rfl, by simp (maxSteps := 1000000) only [go_sem], by simp (maxSteps := 1000000) only [go_sem], ?_, fun c hc => ?_⟩, by simp (maxSteps := 1000000) only [go_sem]⟩
     ·simp (disch := omega) only [go_sem, if_neg]
     ·rw [← hsx c hc]; simp (disch := omega) only [go_sem, if_neg]
    rintro L v ⟨rfl, hvn, hv19, hvi, hvx⟩
    have vb2 := (hvx _ (by omega)).trans ub2
    have vR2 := (hvx _ (by omega)).trans uR2
    have vm2 := (hvx _ (by omega)).trans um2
    have hkA : kA none (.int .i64 k) = some [k] := rfl
    have hfi : ∃ j, rs2.findIdx? (fun x => x.1 == k) = some j ∧ (rs2.getD j (0, zeroT)).2 = y := by
     simp only [lookR, Option.map_eq_some_iff] at hlx
     exact hlx
    obtain ⟨j, hfj, hgj⟩ := hfi
    have hjl : j < rs2.length := (List.findIdx?_eq_some_iff_getElem.1 hfj).1
    have hmf := (mfind_esT k rs2).trans hfj
    have hget := esT_get hjl
    rw [hgj] at hget
    simp only [tenL] at hget
    refine .midK (fun L v' => L = [(0, progsA l), (6, .ptr b1 0 0), (8, .ptr b2 0 0), (17, I d), (19, .ptr s.next 0 0), (20, .ptr v.next 0 0), (21, .bool true), (112, I l.length), (113, I d), (140, .iter u.next)] ∧ v'.next = v.next + 1 ∧ v'.blk v.next = some (.cells 2 [[ints y.sh, ints y.dt]]) ∧ v'.blk s.next = some (.cells 2 [[ints y.sh, ints y.dt]]) ∧ v'.blk u.next = some (.miter (mb1 d) rs1.length (seen ++ [i])) ∧ ∀ c, c < u.next → v'.blk c = u.blk c) ?_ ?_
    ·refine .rg fun A hA K hK => ?_
     simp (maxSteps := 1000000) only [go_sem, hA.nil, hA.go, hA.yes, hA.noT, hA.noF, hA.skp, vb2, vR2, vm2, gm2, e0, hd, hln, hkA, hmf, hget]
     refine hK _ _ ?_; clear hK K hA A
     refine ⟨_, ⟨rfl, by simp (maxSteps := 1000000) only [go_sem], by simp (maxSteps := 1000000) only [go_sem], ?_, ?_, fun c hc => ?_⟩, by simp (maxSteps := 1000000) only [go_sem]⟩
     ·rw [← hv19]; simp (disch := omega) only [go_sem, if_neg]
     ·rw [← hvi]; simp (disch := omega) only [go_sem, if_neg]
     ·rw [← hvx c hc]; simp (disch := omega) only [go_sem, if_neg]
    rintro L v' ⟨rfl, hwn, hw20, hw19, hwi, hwx⟩
    have hss := tenSame_spec y v'
    refine .seq (.rg fun A hA K hK => ?_)
    simp (maxSteps := 1000000) only [go_sem, hA.nil, hA.go, hA.yes, hA.noT, hA.noF, hA.skp, hw19, hw20]
    refine aopq_call (hss) (by simp (maxSteps := 1000000) only [go_sem, tenL, hw19, hw20]) ?_
    try simp (maxSteps := 1000000) only [go_sem, hA.nil, hA.go, hA.yes, hA.noT, hA.noF, hA.skp, tenL, hw19, hw20]
    refine hK _ _ ?_; clear hK K hA A
    refine .cond (t := false) (by simp (maxSteps := 1000000) only [go_sem]) (fun h => by cases h) (fun _ => .skip ?_)
    exact ⟨_, countP_lt (fun x _ h => by simp at h ⊢; exact h.1) (List.mem_range.2 hi) (by simpa using hni) (by simp), _, ⟨seen ++ [i], rfl, rfl, hwi, by omega, hwx⟩, by simp (maxSteps := 1000000) only [go_sem]⟩
  ·rintro L u F ⟨rfl, hx⟩ hf
   simp (maxSteps := 1000000) only [go_sem] at hf
   exact ⟨_, ⟨rfl, hx⟩, by simp (maxSteps := 1000000) only [go_sem, hf]⟩
 rintro L u ⟨rfl, hx⟩
 refine .seq (.rg fun A hA K hK => ?_)
 simp (maxSteps := 1000000) only [go_sem, hA.nil, hA.go, hA.yes, hA.noT, hA.noF, hA.skp]
 refine hK _ _ ?_; clear hK K hA A
 have hun := hx.1
 refine .ret (retS2 (by simp (maxSteps := 1000000) only [go_sem]; try rfl) (by simp (maxSteps := 1000000) only [go_sem]; try rfl) ⟨o3, b1, R1, A1, W1, v3, mb1, rfl, hT.h1.frame hun fun c hc => hx.2 c (hT.h1.lt c hc), by have := hT.nx; omega, hT.lo1, fun c hc => (hx.2 c (by have := hT.nx; omega)).trans (hold c hc)⟩)
end Go.Proofs.Ytfjbabacpnnjmaa.Av
namespace Go.Proofs.Ytfjbabacpnnjmaa.Av
open Go Go.Av
set_option maxRecDepth 20000
set_option maxHeartbeats 4000000

/-- Registers of each device, messages that wait, messages that were sent ever. -/
structure AS where
 rg : Nat → List (Int × Ten)
 bag : Int → Int → Int → Option Ten
 used : Int → Int → Int → Bool
def AS.init : AS := ⟨fun _ => [], fun _ _ _ => none, fun _ _ _ => false⟩
def AS.wr (s : AS) (d : Nat) (r : Int) (t : Ten) : AS := { s with rg := fun e => if e = d then putR r t (s.rg d) else s.rg e }
def AS.snd (s : AS) (f t g : Int) (x : Ten) : AS := { s with bag := fun p q r => if p = f ∧ q = t ∧ r = g then some x else s.bag p q r, used := fun p q r => if p = f ∧ q = t ∧ r = g then true else s.used p q r }
def AS.tak (s : AS) (f t g : Int) : AS := { s with bag := fun p q r => if p = f ∧ q = t ∧ r = g then none else s.bag p q r }
/-- What a device brings about by itself. -/
def locT (nf : Node → List Ten → Option Ten) (gv : List (List Ten)) (d : Nat) (i : Instr) (rs : List (Int × Ten)) : Option Ten :=
 if i.kind = 1 then (if 0 ≤ i.n then (gv.getD d [])[i.n.toNat]? else none)
 else (if i.ins = [] then none else nf i.node (i.ins.map fun r => getR r rs))
/-- An instruction done; none: it can not be. -/
def AS.ex (nf : Node → List Ten → Option Ten) (gv : List (List Ten)) (s : AS) (d : Nat) (i : Instr) : Option AS :=
 if i.kind = 1 ∨ i.kind = 2 then (locT nf gv d i (s.rg d)).map fun t => s.wr d i.out t
 else if i.kind = 3 then (match i.ins with
  | [] => none
  | r :: _ => if s.used d i.dev i.tag = true then none else some (s.snd d i.dev i.tag (getR r (s.rg d))))
 else (s.bag i.dev d i.tag).map fun t => (s.tak i.dev d i.tag).wr d i.out t
def AS.exs (nf : Node → List Ten → Option Ten) (gv : List (List Ten)) : AS → List (Nat × Instr) → Option AS
 | s, [] => some s
 | s, e :: E => match s.ex nf gv e.1 e.2 with
  | none => none
  | some s' => AS.exs nf gv s' E
/-- What waits was sent. -/
def AS.Wf (s : AS) : Prop := ∀ f t g, s.used f t g = false → s.bag f t g = none
def isRecv (i : Instr) : Prop := ¬ (i.kind = 1 ∨ i.kind = 2) ∧ ¬ i.kind = 3

section
variable {nf : Node → List Ten → Option Ten} {gv : List (List Ten)}
theorem AS.ext {s s' : AS} (h1 : ∀ d, s.rg d = s'.rg d) (h2 : ∀ f t g, s.bag f t g = s'.bag f t g) (h3 : ∀ f t g, s.used f t g = s'.used f t g) : s = s' := by
 cases s; cases s'
 simp only [AS.mk.injEq]
 exact ⟨funext h1, funext fun f => funext fun t => funext (h2 f t), funext fun f => funext fun t => funext (h3 f t)⟩
theorem AS.wf_ex {s s' : AS} {d : Nat} {i : Instr} (hw : s.Wf) (h : s.ex nf gv d i = some s') : s'.Wf := by
 unfold AS.ex at h
 split at h
 ·cases hl : locT nf gv d i (s.rg d) with
  | none => rw [hl] at h; cases h
  | some t => rw [hl] at h; cases h; exact hw
 split at h
 ·split at h
  ·cases h
  ·split at h
   ·cases h
   ·cases h
    intro f t g hu
    simp only [AS.snd] at hu ⊢
    split at hu
    ·cases hu
    ·rename_i hne; rw [if_neg hne]; exact hw _ _ _ hu
 ·cases hl : s.bag i.dev d i.tag with
  | none => rw [hl] at h; cases h
  | some t =>
   rw [hl] at h; cases h
   intro f t' g hu
   simp only [AS.tak, AS.wr] at hu ⊢
   split
   ·rfl
   ·exact hw _ _ _ hu
theorem AS.wf_init : AS.init.Wf := fun _ _ _ _ => rfl

theorem AS.ex_inv {s s' : AS} {d : Nat} {i : Instr} (h : s.ex nf gv d i = some s') :
  ((i.kind = 1 ∨ i.kind = 2) ∧ ∃ t, locT nf gv d i (s.rg d) = some t ∧ s' = s.wr d i.out t) ∨ (i.kind = 3 ∧ ∃ r rs, i.ins = r :: rs ∧ s.used d i.dev i.tag = false ∧ s' = s.snd d i.dev i.tag (getR r (s.rg d))) ∨
    (isRecv i ∧ ∃ t, s.bag i.dev d i.tag = some t ∧ s' = (s.tak i.dev d i.tag).wr d i.out t) := by
 unfold AS.ex at h
 split at h
 ·rename_i hk
  obtain ⟨t, h1, h2⟩ := Option.map_eq_some_iff.1 h
  exact .inl ⟨hk, t, h1, h2.symm⟩
 split at h
 ·rename_i hk
  split at h
  ·cases h
  ·rename_i r rs hi
   split at h
   ·cases h
   ·rename_i hu
    cases h
    exact .inr (.inl ⟨hk, r, rs, hi, by simpa using hu, rfl⟩)
 ·rename_i h1 h2
  obtain ⟨t, h3, h4⟩ := Option.map_eq_some_iff.1 h
  exact .inr (.inr ⟨⟨h1, h2⟩, t, h3, h4.symm⟩)
theorem AS.ex_loc {s : AS} {d : Nat} {i : Instr} {t : Ten} (hk : i.kind = 1 ∨ i.kind = 2) (h : locT nf gv d i (s.rg d) = some t) : s.ex nf gv d i = some (s.wr d i.out t) := by
 unfold AS.ex; rw [if_pos hk, h]; rfl
theorem AS.ex_snd {s : AS} {d : Nat} {i : Instr} {r : Int} {rs : List Int} (hk : i.kind = 3) (hi : i.ins = r :: rs) (hu : s.used d i.dev i.tag = false) : s.ex nf gv d i = some (s.snd d i.dev i.tag (getR r (s.rg d))) := by
 unfold AS.ex; rw [if_neg (by omega), if_pos hk, hi]; simp [hu]
theorem AS.ex_rcv {s : AS} {d : Nat} {i : Instr} {t : Ten} (hk : isRecv i) (h : s.bag i.dev d i.tag = some t) : s.ex nf gv d i = some ((s.tak i.dev d i.tag).wr d i.out t) := by
 unfold AS.ex; rw [if_neg hk.1, if_neg hk.2, h]; rfl

/-- Two devices' instructions may change places. -/
theorem AS.swap {s s1 s2 : AS} {d e : Nat} {i j : Instr} (hw : s.Wf) (hne : d ≠ e) (hj : s.ex nf gv e j = some s1) (hi : s1.ex nf gv d i = some s2) :
  (isRecv i ∧ s.bag i.dev d i.tag = none) ∨ ∃ s', s.ex nf gv d i = some s' ∧ s'.ex nf gv e j = some s2 := by
 have hne' : ¬ (d : Int) = e := by omega
 have hne2 : ¬ e = d := fun h => hne h.symm
 have hne2' : ¬ (e : Int) = d := by omega
 have wf : ∀ {f t g x}, s.bag f t g = some x → s.used f t g = true := fun {f t g x} h => by
  cases hu : s.used f t g with
  | true => rfl
  | false => rw [hw _ _ _ hu] at h; cases h
 rcases AS.ex_inv hj with ⟨kj, tj, vj, rfl⟩ | ⟨kj, rj, rsj, ij, uj, rfl⟩ | ⟨kj, tj, vj, rfl⟩
 ·have er : (s.wr e j.out tj).rg d = s.rg d := by simp only [AS.wr, if_neg hne]
  rcases AS.ex_inv hi with ⟨ki, ti, vi, rfl⟩ | ⟨ki, ri, rsi, ii, ui, rfl⟩ | ⟨ki, ti, vi, rfl⟩
  ·rw [er] at vi
   refine .inr ⟨_, AS.ex_loc ki vi, ?_⟩
   have er2 : (s.wr d i.out ti).rg e = s.rg e := by simp only [AS.wr, if_neg hne2]
   rw [AS.ex_loc kj (by rw [er2]; exact vj)]
   refine congrArg some (AS.ext (fun c => ?_) (fun _ _ _ => rfl) (fun _ _ _ => rfl))
   simp only [AS.wr, if_neg hne, if_neg hne2]
   by_cases h1 : c = d
   ·subst h1; simp [hne]
   ·simp [h1]
  ·refine .inr ⟨_, AS.ex_snd ki ii ui, ?_⟩
   rw [AS.ex_loc kj (by exact vj), er]; rfl
  ·refine .inr ⟨_, AS.ex_rcv ki vi, ?_⟩
   have er2 : ((s.tak i.dev d i.tag).wr d i.out ti).rg e = s.rg e := by simp only [AS.wr, AS.tak, if_neg hne2]
   rw [AS.ex_loc kj (by rw [er2]; exact vj)]
   refine congrArg some (AS.ext (fun c => ?_) (fun _ _ _ => rfl) (fun _ _ _ => rfl))
   simp only [AS.wr, AS.tak, if_neg hne, if_neg hne2]
   by_cases h1 : c = d
   ·subst h1; simp [hne]
   ·simp [h1]
 ·rcases AS.ex_inv hi with ⟨ki, ti, vi, rfl⟩ | ⟨ki, ri, rsi, ii, ui, rfl⟩ | ⟨ki, ti, vi, rfl⟩
  ·refine .inr ⟨_, AS.ex_loc ki vi, ?_⟩
   have er2 : (s.wr d i.out ti).rg e = s.rg e := by simp only [AS.wr, if_neg hne2]
   rw [AS.ex_snd (s := s.wr d i.out ti) kj ij uj, er2]; rfl
  ·have ui2 : s.used d i.dev i.tag = false := by
    simp only [AS.snd] at ui; rw [if_neg (by rintro ⟨h, _⟩; exact hne' h)] at ui; exact ui
   refine .inr ⟨_, AS.ex_snd ki ii ui2, ?_⟩
   have uj2 : (s.snd d i.dev i.tag (getR ri (s.rg d))).used e j.dev j.tag = false := by
    simp only [AS.snd]; rw [if_neg (by rintro ⟨h, _⟩; exact hne2' h)]; exact uj
   rw [AS.ex_snd kj ij uj2]
   refine congrArg some (AS.ext (fun _ => rfl) (fun p q r => ?_) (fun p q r => ?_))
   ·simp only [AS.snd]
    by_cases h1 : p = d
    ·subst h1; simp [hne']
    ·simp [h1]
   ·simp only [AS.snd]
    by_cases h1 : p = d
    ·subst h1; simp [hne']
    ·simp [h1]
  ·by_cases hk : i.dev = e ∧ (d : Int) = j.dev ∧ i.tag = j.tag
   ·refine .inl ⟨ki, ?_⟩
    obtain ⟨h1, h2, h3⟩ := hk
    rw [h1, h2, h3]; exact hw _ _ _ uj
   ·have hb : s.bag i.dev d i.tag = some ti := by
     simp only [AS.snd] at vi; rw [if_neg hk] at vi; exact vi
    refine .inr ⟨_, AS.ex_rcv ki hb, ?_⟩
    have uj2 : ((s.tak i.dev d i.tag).wr d i.out ti).used e j.dev j.tag = false := uj
    rw [AS.ex_snd kj ij uj2]
    refine congrArg some (AS.ext (fun c => ?_) (fun p q r => ?_) (fun _ _ _ => rfl))
    ·rfl
    ·simp only [AS.snd, AS.wr, AS.tak, if_neg hne2]
     by_cases h1 : p = i.dev ∧ q = d ∧ r = i.tag
     ·by_cases h2 : p = e ∧ q = j.dev ∧ r = j.tag
      ·exact absurd ⟨h1.1.symm.trans h2.1, h1.2.1.symm.trans h2.2.1, h1.2.2.symm.trans h2.2.2⟩ hk
      ·simp only [if_pos h1, if_neg h2]
     ·simp only [if_neg h1]
 ·have er : ((s.tak j.dev e j.tag).wr e j.out tj).rg d = s.rg d := by simp only [AS.wr, AS.tak, if_neg hne]
  rcases AS.ex_inv hi with ⟨ki, ti, vi, rfl⟩ | ⟨ki, ri, rsi, ii, ui, rfl⟩ | ⟨ki, ti, vi, rfl⟩
  ·rw [er] at vi
   refine .inr ⟨_, AS.ex_loc ki vi, ?_⟩
   rw [AS.ex_rcv kj (by exact vj)]
   refine congrArg some (AS.ext (fun c => ?_) (fun _ _ _ => rfl) (fun _ _ _ => rfl))
   simp only [AS.wr, AS.tak, if_neg hne, if_neg hne2]
   by_cases h1 : c = d
   ·subst h1; simp [hne]
   ·simp [h1]
  ·refine .inr ⟨_, AS.ex_snd ki ii ui, ?_⟩
   have hnk : ¬ (j.dev = d ∧ (e : Int) = i.dev ∧ j.tag = i.tag) := by
    rintro ⟨h1, h2, h3⟩
    have := wf vj
    rw [h1, h2, h3] at this
    have ui2 : s.used d i.dev i.tag = false := ui
    rw [this] at ui2; cases ui2
   have hb : (s.snd d i.dev i.tag (getR ri (s.rg d))).bag j.dev e j.tag = some tj := by
    simp only [AS.snd]; rw [if_neg hnk]; exact vj
   rw [AS.ex_rcv kj hb, er]
   refine congrArg some (AS.ext (fun c => ?_) (fun p q r => ?_) (fun _ _ _ => rfl))
   ·rfl
   ·simp only [AS.snd, AS.wr, AS.tak]
    by_cases h1 : p = d ∧ q = i.dev ∧ r = i.tag
    ·by_cases h2 : p = j.dev ∧ q = e ∧ r = j.tag
     ·exact absurd ⟨h2.1.symm.trans h1.1, h2.2.1.symm.trans h1.2.1, h2.2.2.symm.trans h1.2.2⟩ hnk
     ·simp only [if_pos h1, if_neg h2]
    ·simp only [if_neg h1]
  ·have hb : s.bag i.dev d i.tag = some ti := by
    simp only [AS.tak, AS.wr] at vi; rw [if_neg (by rintro ⟨_, h, _⟩; exact hne' h)] at vi; exact vi
   refine .inr ⟨_, AS.ex_rcv ki hb, ?_⟩
   have hb2 : ((s.tak i.dev d i.tag).wr d i.out ti).bag j.dev e j.tag = some tj := by
    simp only [AS.tak, AS.wr]; rw [if_neg (by rintro ⟨_, h, _⟩; exact hne2' h)]; exact vj
   rw [AS.ex_rcv kj hb2]
   refine congrArg some (AS.ext (fun c => ?_) (fun p q r => ?_) (fun _ _ _ => rfl))
   ·simp only [AS.wr, AS.tak, if_neg hne, if_neg hne2]
    by_cases h1 : c = d
    ·subst h1; simp [hne]
    ·simp [h1]
   ·simp only [AS.wr, AS.tak]
    by_cases h1 : q = d
    ·subst h1; simp [hne']
    ·simp [h1]
/-- A device's first instruction, brought ahead of the others'. -/
theorem AS.front {d : Nat} {i : Instr} {B : List (Nat × Instr)} {fin : AS} : ∀ {A : List (Nat × Instr)} {s : AS}, s.Wf → (∀ e ∈ A, e.1 ≠ d) → s.exs nf gv (A ++ (d, i) :: B) = some fin →
  (A ≠ [] ∧ isRecv i ∧ s.bag i.dev d i.tag = none) ∨ ∃ s', s.ex nf gv d i = some s' ∧ s'.exs nf gv (A ++ B) = some fin
 | [], s, hw, _, h => by
  simp only [List.nil_append, AS.exs] at h
  cases hx : s.ex nf gv d i with
  | none => rw [hx] at h; cases h
  | some s' => rw [hx] at h; exact .inr ⟨s', rfl, h⟩
 | (e, j) :: A, s, hw, hA, h => by
  simp only [List.cons_append, AS.exs] at h
  cases hx : s.ex nf gv e j with
  | none => rw [hx] at h; cases h
  | some s1 =>
   rw [hx] at h
   have hne : d ≠ e := fun h => hA (e, j) (by simp) h.symm
   have hne2' : ¬ (d : Int) = e := by omega
   rcases AS.front (AS.wf_ex hw hx) (fun c hc => hA c (by simp [hc])) h with ⟨_, hr, hb⟩ | ⟨s', h1, h2⟩
   ·refine .inl ⟨by simp, hr, ?_⟩
    rcases AS.ex_inv hx with ⟨kj, tj, vj, rfl⟩ | ⟨kj, rj, rsj, ij, uj, rfl⟩ | ⟨kj, tj, vj, rfl⟩
    ·exact hb
    ·simp only [AS.snd] at hb; split at hb
     ·cases hb
     ·exact hb
    ·simp only [AS.tak, AS.wr] at hb; rw [if_neg (by rintro ⟨_, h, _⟩; exact hne2' h)] at hb; exact hb
   ·rcases AS.swap hw hne hx h1 with h3 | ⟨s3, h3, h4⟩
    ·exact .inl ⟨by simp, h3⟩
    ·refine .inr ⟨s3, h3, ?_⟩
     simp only [List.cons_append, AS.exs, h4]; exact h2
end
def lkB (bag : List Bg) (f t g : Int) : Option Ten := (bag.find? (hitM f t g)).map (·.t)
def prog (d : Nat) (E : List (Nat × Instr)) : List Instr := (E.filter fun e => e.1 == d).map (·.2)
theorem hit_inj {f t g f' t' g' : Int} {x : Bg} (h : hitM f t g x = true) (h' : hitM f' t' g' x = true) : f = f' ∧ t = t' ∧ g = g' := by
 simp only [hitM, Bool.and_eq_true, beq_iff_eq] at h h'
 exact ⟨h.1.symm.trans h'.1, h.2.1.symm.trans h'.2.1, h.2.2.symm.trans h'.2.2⟩
theorem find_erase_ne {p q : Bg → Bool} (h : ∀ x, p x = true → q x = true → False) : ∀ l : List Bg, (l.eraseP p).find? q = l.find? q
 | [] => rfl
 | x :: l => by
  rw [List.eraseP_cons]
  by_cases hp : p x = true
  ·have : q x = false := by cases hq : q x with
    | false => rfl
    | true => exact (h x hp hq).elim
   simp [hp, this]
  ·simp only [hp, Bool.false_eq_true, if_false, cond_false, List.find?_cons]
   cases hq : q x with
   | true => rfl
   | false => exact find_erase_ne h l
theorem find_erase_eq {p : Bg → Bool} : ∀ l : List Bg, l.countP p ≤ 1 → (l.eraseP p).find? p = none
 | [], _ => rfl
 | x :: l, hc => by
  rw [List.eraseP_cons]
  by_cases hp : p x = true
  ·rw [List.countP_cons_of_pos hp] at hc
   have h0 : l.countP p = 0 := by omega
   simp only [hp, cond_true]
   rw [List.find?_eq_none]
   intro y hy
   have := List.countP_eq_zero.1 h0 y hy
   simpa using this
  ·rw [List.countP_cons_of_neg hp] at hc
   simp only [hp, cond_false, List.find?_cons]
   exact find_erase_eq l hc
theorem findM_none {l : List Bg} {f t g : Int} : findM l f t g = none ↔ l.find? (hitM f t g) = none := by
 simp only [findM, List.findIdx?_eq_none_iff, List.find?_eq_none, Bool.not_eq_true]
theorem findM_some {l : List Bg} {f t g : Int} {k : Nat} (h : findM l f t g = some k) : l.find? (hitM f t g) = some (l.getD k ⟨0, 0, 0, zeroT⟩) ∧ l.eraseIdx k = l.eraseP (hitM f t g) := by
 have h' := h
 unfold findM at h h'
 obtain ⟨hk, h1, h2⟩ := List.findIdx?_eq_some_iff_getElem.1 h
 constructor
 ·rw [List.getD_eq_getElem?_getD, List.getElem?_eq_getElem hk, Option.getD_some, List.find?_eq_some_iff_getElem]
  exact ⟨h1, k, hk, rfl, fun j hj => by simpa using h2 j hj⟩
 ·rw [List.eraseP_eq_eraseIdx, h']

theorem prog_split {d : Nat} {i : Instr} {ps : List Instr} : ∀ {E : List (Nat × Instr)}, prog d E = i :: ps → ∃ A B, E = A ++ (d, i) :: B ∧ (∀ e ∈ A, e.1 ≠ d) ∧ prog d (A ++ B) = ps
 | [], h => by simp [prog] at h
 | (e, j) :: E, h => by
  by_cases he : e = d
  ·subst he
   simp only [prog, List.filter_cons, beq_self_eq_true, if_true, List.map_cons, List.cons.injEq] at h
   exact ⟨[], E, by rw [h.1]; rfl, by simp, h.2⟩
  ·have hb : (e == d) = false := by simpa using he
   simp only [prog, List.filter_cons, hb, Bool.false_eq_true, if_false] at h
   obtain ⟨A, B, h1, h2, h3⟩ := prog_split (E := E) h
   refine ⟨(e, j) :: A, B, by rw [h1]; rfl, fun c hc => ?_, ?_⟩
   ·rcases List.mem_cons.1 hc with rfl | hc
    ·exact he
    ·exact h2 c hc
   ·simp only [List.cons_append, prog, List.filter_cons, hb, Bool.false_eq_true, if_false]; exact h3
theorem prog_other {d c : Nat} {i : Instr} {A B : List (Nat × Instr)} (h : c ≠ d) : prog c (A ++ (d, i) :: B) = prog c (A ++ B) := by
 have : (d == c) = false := by simpa using fun e : d = c => h e.symm
 simp [prog, List.filter_append, List.filter_cons, this]

section
variable {nf : Node → List Ten → Option Ten} {gv : List (List Ten)} {S : Int}
structure Sim (gv : List (List Ten)) (S : Int) (m : PM) (E : List (Nat × Instr)) (s : AS) : Prop where
 rg : ∀ d, d < m.l.length → m.rg.getD d [] = s.rg d
 bag : ∀ f t g, lkB m.bag f t g = s.bag f t g
 one : ∀ f t g, m.bag.countP (hitM f t g) ≤ 1
 wf : s.Wf
 rest : ∀ d, d < m.l.length → (m.l.getD d []).drop (m.at_.getD d 0) = prog d E
 gv : m.gv = gv
 dev : ∀ e ∈ E, e.1 < m.l.length
 la : m.at_.length = m.l.length
 lr : m.rg.length = m.l.length
 sent : m.sent + (E.countP fun e => e.2.kind == 3 : Nat) = S

theorem drop_cons {α : Type} {l ps : List α} {k : Nat} {i : α} (h : l.drop k = i :: ps) : l[k]? = some i ∧ l.drop (k + 1) = ps := by
 have h1 : (l.drop k)[0]? = some i := by rw [h]; rfl
 rw [List.getElem?_drop] at h1
 refine ⟨by simpa using h1, ?_⟩
 rw [← List.tail_drop, h]; rfl
theorem lkB_find {bag : List Bg} {f t g : Int} : (0 ≤ findI bag f t g) ↔ lkB bag f t g ≠ none := by
 unfold findI lkB
 cases h : findM bag f t g with
 | none => rw [findM_none.1 h]; simp
 | some k => rw [(findM_some h).1]; simp
theorem lkB_snoc {bag : List Bg} {x : Bg} {f t g : Int} (h : lkB bag x.frm x.to x.tag = none) : lkB (bag ++ [x]) f t g = if f = x.frm ∧ t = x.to ∧ g = x.tag then some x.t else lkB bag f t g := by
 simp only [lkB, List.find?_append] at h ⊢
 by_cases hk : f = x.frm ∧ t = x.to ∧ g = x.tag
 ·obtain ⟨rfl, rfl, rfl⟩ := hk
  rw [if_pos ⟨rfl, rfl, rfl⟩]
  have h0 : List.find? (hitM x.frm x.to x.tag) bag = none := by simpa using h
  rw [h0]
  simp [hitM]
 ·rw [if_neg hk]
  have : hitM f t g x = false := by
   cases hh : hitM f t g x with
   | false => rfl
   | true =>
    simp only [hitM, Bool.and_eq_true, beq_iff_eq] at hh
    exact absurd ⟨hh.1.symm, hh.2.1.symm, hh.2.2.symm⟩ hk
  simp [this]

/-- One device's step. -/
theorem Sim.step {m : PM} {E : List (Nat × Instr)} {s fin : AS} (h : Sim gv S m E s) (hx : s.exs nf gv E = some fin) (d : Nat) (hd : d < m.l.length) :
  (m.step nf d = some (false, m) ∧ ∀ e ∈ E.head?, e.1 ≠ d) ∨ ∃ m' E' s', m.step nf d = some (true, m') ∧ Sim gv S m' E' s' ∧ s'.exs nf gv E' = some fin ∧ E'.length + 1 = E.length ∧ m'.l = m.l := by
 have hr := h.rest d hd
 cases hp : prog d E with
 | nil =>
  refine .inl ⟨?_, fun e he hde => ?_⟩
  ·rw [hp] at hr
   have : (m.l.getD d [])[m.at_.getD d 0]? = none := by
    rw [List.getElem?_eq_none]; exact List.drop_eq_nil_iff.1 hr
   unfold PM.step; rw [this]
  ·cases E with
   | nil => cases he
   | cons a E =>
    cases he
    simp [prog, List.filter_cons, hde] at hp
 | cons i ps =>
  rw [hp] at hr
  obtain ⟨hi, hd1⟩ := drop_cons hr
  obtain ⟨A, B, rfl, hA, hps⟩ := prog_split hp
  have hda : d < m.at_.length := by rw [h.la]; exact hd
  have hdr : d < m.rg.length := by rw [h.lr]; exact hd
  have hrg := h.rg d hd
  have hdev : ∀ e ∈ A ++ B, e.1 < m.l.length := fun e he => h.dev e (by
   rcases List.mem_append.1 he with h | h
   ·simp [h]
   ·simp [h])
  have hrest : ∀ c, c < m.l.length → (m.l.getD c []).drop ((m.at_.set d (m.at_.getD d 0 + 1)).getD c 0) = prog c (A ++ B) := fun c hc => by
   by_cases hcd : c = d
   ·subst hcd; rw [getD_set_eq' _ _ hda, hd1, hps]
   ·rw [getD_set_ne' _ _ hcd, h.rest c hc, prog_other hcd]
  have hlen : (A ++ B).length + 1 = (A ++ (d, i) :: B).length := by simp; omega
  have hsent := h.sent
  rw [List.countP_append, List.countP_cons] at hsent
  have step_of : ∀ m' t, m.pre nf d i = some (some (m', t)) → m.step nf d = some (true, m'.fin d i t) := fun m' t hq => by
   unfold PM.step; rw [hi]; simp only [hq]
  rcases AS.front h.wf hA hx with ⟨hA0, hrc, hb⟩ | ⟨s', h1, h2⟩
  ·refine .inl ⟨?_, fun e he hde => ?_⟩
   ·have hf : findM m.bag i.dev d i.tag = none := by
     rw [findM_none]
     have := h.bag i.dev d i.tag
     rw [hb] at this
     simpa [lkB] using this
    have : m.pre nf d i = some none := by
     unfold PM.pre
     rw [if_neg (fun h => hrc.1 (.inl h)), if_neg (fun h => hrc.1 (.inr h)), if_neg hrc.2, hf]
    unfold PM.step; rw [hi]; simp only [this]
   ·cases A with
    | nil => exact hA0 rfl
    | cons a A => cases he; exact hA _ (by simp) hde
  ·refine .inr ?_
   have hwf := AS.wf_ex h.wf h1
   have wr_rg : ∀ (m' : PM) (t : Ten), m'.rg = m.rg → i.kind ≠ 3 → ∀ c, (m'.fin d i t).rg.getD c [] = if c = d then putR i.out t (m.rg.getD d []) else m.rg.getD c [] := fun m' t hm hk c => by
    simp only [PM.fin]; rw [if_neg hk, hm]
    by_cases hcd : c = d
    ·subst hcd; rw [getD_set_eq' _ _ hdr, if_pos rfl]
    ·rw [getD_set_ne' _ _ hcd, if_neg hcd]
   rcases AS.ex_inv h1 with ⟨ki, t, ht, rfl⟩ | ⟨ki, r, rs, ii, ui, rfl⟩ | ⟨ki, t, ht, rfl⟩
   ·have hpre : m.pre nf d i = some (some (m, t)) := by
     unfold PM.pre
     unfold locT at ht
     rw [← hrg, ← h.gv] at ht
     by_cases k1 : i.kind = 1
     ·rw [if_pos k1] at ht ⊢; rw [ht]; rfl
     ·rw [if_neg k1] at ht ⊢
      rw [if_pos (by rcases ki with h | h; · exact absurd h k1
                     ·exact h), ht]; rfl
    have k3 : i.kind ≠ 3 := by omega
    refine ⟨_, A ++ B, s.wr d i.out t, step_of _ _ hpre, ⟨fun c hc => ?_, h.bag, h.one, hwf, fun c hc => ?_, h.gv, hdev, ?_, ?_, ?_⟩, h2, hlen, rfl⟩
    ·rw [wr_rg m t rfl k3]; simp only [AS.wr, hrg]
     split
     ·rfl
     ·exact h.rg c hc
    ·exact hrest c hc
    ·simp only [PM.fin, List.length_set]; exact h.la
    ·simp only [PM.fin, if_neg k3, List.length_set]; exact h.lr
    ·simp only [PM.fin, List.countP_append]
     rw [if_neg (by simpa using k3)] at hsent
     omega
   ·have hb0 : lkB m.bag d i.dev i.tag = none := by rw [h.bag]; exact h.wf _ _ _ ui
    have hpre : m.pre nf d i = some (some ({ m with bag := m.bag ++ [⟨d, i.dev, i.tag, getR r (m.rg.getD d [])⟩], sent := m.sent + 1 }, zeroT)) := by
     unfold PM.pre
     rw [if_neg (by omega), if_neg (by omega), if_pos ki, ii]
     simp only
     rw [if_neg (fun hh => lkB_find.1 hh hb0)]
    refine ⟨_, A ++ B, s.snd d i.dev i.tag (getR r (s.rg d)), step_of _ _ hpre, ⟨fun c hc => ?_, fun f t g => ?_, fun f t g => ?_, hwf, fun c hc => ?_, h.gv, hdev, ?_, ?_, ?_⟩, h2, hlen, rfl⟩
    ·simp only [PM.fin, if_pos ki]; exact h.rg c hc
    ·simp only [PM.fin, AS.snd]; rw [lkB_snoc hb0, h.bag, hrg]
    ·simp only [PM.fin, List.countP_append, List.countP_cons, List.countP_nil]
     split
     ·rename_i hh
      have h0 : m.bag.countP (hitM f t g) = 0 := by
       rw [List.countP_eq_zero]
       intro y hy hy2
       simp only [hitM, Bool.and_eq_true, beq_iff_eq] at hh
       obtain ⟨e1, e2, e3⟩ := hh
       rw [e1, e2, e3] at hb0
       simp only [lkB, Option.map_eq_none_iff, List.find?_eq_none] at hb0
       exact hb0 y hy hy2
      omega
     ·have := h.one f t g; omega
    ·exact hrest c hc
    ·simp only [PM.fin, List.length_set]; exact h.la
    ·simp only [PM.fin, if_pos ki]; exact h.lr
    ·simp only [PM.fin, List.countP_append]
     rw [if_pos (by simpa using ki)] at hsent
     omega
   ·have hbk := h.bag i.dev d i.tag
    rw [ht] at hbk
    cases hf : findM m.bag i.dev d i.tag with
    | none => rw [findM_none] at hf; simp [lkB, hf] at hbk
    | some k =>
    obtain ⟨f1, f2⟩ := findM_some hf
    have hpre : m.pre nf d i = some (some ({ m with bag := m.bag.eraseIdx k }, t)) := by
     unfold PM.pre
     rw [if_neg (fun h => ki.1 (.inl h)), if_neg (fun h => ki.1 (.inr h)), if_neg ki.2, hf]
     simp only [lkB, f1, Option.map_some, Option.some.injEq] at hbk
     simp only [hbk]
    have k3 := ki.2
    refine ⟨_, A ++ B, (s.tak i.dev d i.tag).wr d i.out t, step_of _ _ hpre, ⟨fun c hc => ?_, fun f t g => ?_, fun f t g => ?_, hwf, fun c hc => ?_, h.gv, hdev, ?_, ?_, ?_⟩, h2, hlen, rfl⟩
    ·rw [wr_rg { m with bag := m.bag.eraseIdx k } t rfl k3]; simp only [AS.wr, AS.tak, hrg]
     split
     ·rfl
     ·exact h.rg c hc
    ·simp only [PM.fin, AS.wr, AS.tak]
     rw [f2]
     split
     ·rename_i hh
      obtain ⟨rfl, rfl, rfl⟩ := hh
      simp only [lkB, find_erase_eq _ (h.one _ _ _), Option.map_none]
     ·rename_i hh
      rw [← h.bag]
      simp only [lkB]
      rw [find_erase_ne (fun x h1 h2 => hh (hit_inj h2 h1))]
    ·simp only [PM.fin]
     rw [f2]
     exact Nat.le_trans (List.Sublist.countP_le List.eraseP_sublist) (h.one f t g)
    ·exact hrest c hc
    ·simp only [PM.fin, List.length_set]; exact h.la
    ·simp only [PM.fin, if_neg k3, List.length_set]; exact h.lr
    ·simp only [PM.fin, List.countP_append]
     rw [if_neg (by simpa using k3)] at hsent
     omega

theorem Sim.round {m : PM} {E : List (Nat × Instr)} {s fin : AS} (h : Sim gv S m E s) (hx : s.exs nf gv E = some fin) : ∀ n, n ≤ m.l.length →
  ∃ did m' E' s', m.roundN nf n = some (did, m') ∧ Sim gv S m' E' s' ∧ s'.exs nf gv E' = some fin ∧ m'.l = m.l ∧ (did = true → E'.length < E.length) ∧ (did = false → m' = m ∧ E' = E ∧ s' = s ∧ ∀ e ∈ E.head?, n ≤ e.1)
 | 0, _ => ⟨false, m, E, s, rfl, h, hx, rfl, by simp, fun _ => ⟨rfl, rfl, rfl, fun _ _ => Nat.zero_le _⟩⟩
 | n + 1, hn => by
  obtain ⟨did, m1, E1, s1, h1, h2, h3, h4, h5, h6⟩ := Sim.round h hx n (by omega)
  unfold PM.roundN
  rw [h1]
  simp only
  rcases h2.step h3 n (by rw [h4]; omega) with ⟨q1, q2⟩ | ⟨m2, E2, s2, q1, q2, q3, q4, q5⟩
  ·rw [q1]
   refine ⟨did || false, m1, E1, s1, rfl, h2, h3, h4, fun hd => h5 (by simpa using hd), fun hd => ?_⟩
   obtain ⟨g1, g2, g3, g4⟩ := h6 (by simpa using hd)
   refine ⟨g1, g2, g3, fun e he => ?_⟩
   have := g4 e he
   have := q2 e (by rw [g2]; exact he)
   omega
  ·rw [q1]
   refine ⟨did || true, m2, E2, s2, rfl, q2, q3, q5.trans h4, fun _ => ?_, by simp⟩
   cases did with
   | true => have := h5 rfl; omega
   | false => obtain ⟨_, g2, _⟩ := h6 rfl; rw [g2] at q4; omega
theorem Sim.fair {fin : AS} : ∀ (f : Nat) {m : PM} {E : List (Nat × Instr)} {s : AS}, Sim gv S m E s → s.exs nf gv E = some fin → E.length < f → ∃ w, PM.fair nf f m = some (true, w) ∧ Sim gv S w [] fin ∧ w.l = m.l
 | 0, _, _, _, _, _, hf => absurd hf (by omega)
 | f + 1, m, E, s, h, hx, hf => by
  obtain ⟨did, m1, E1, s1, h1, h2, h3, h4, h5, h6⟩ := h.round hx m.l.length (Nat.le_refl _)
  unfold PM.fair
  rw [h1]
  cases did with
  | true =>
   obtain ⟨w, w1, w2, w3⟩ := Sim.fair f h2 h3 (by have := h5 rfl; omega)
   exact ⟨w, w1, w2, w3.trans h4⟩
  | false =>
   obtain ⟨rfl, rfl, rfl, g⟩ := h6 rfl
   have hE : E1 = [] := by
    cases hh : E1 with
    | nil => rfl
    | cons e E =>
     have := g e (by simp [hh])
     have := h.dev e (by simp [hh])
     omega
   subst hE
   have hs : s1 = fin := by simpa [AS.exs] using hx
   subst hs
   refine ⟨m1, ?_, h, rfl⟩
   have : m1.halted = true := by
    unfold PM.halted
    rw [List.all_eq_true]
    intro d hd
    have := h.rest d (List.mem_range.1 hd)
    simpa using List.drop_eq_nil_iff.1 this
   simp only [this]
theorem Sim.drain {fin : AS} {d : Nat} : ∀ (f : Nat) {m : PM} {E : List (Nat × Instr)} {s : AS}, d < m.l.length → Sim gv S m E s → s.exs nf gv E = some fin → E.length < f → ∃ m' E' s', PM.drain nf f m d = some m' ∧ Sim gv S m' E' s' ∧ s'.exs nf gv E' = some fin ∧ E'.length ≤ E.length ∧ m'.l = m.l
 | 0, _, _, _, _, _, _, hf => absurd hf (by omega)
 | f + 1, m, E, s, hd, h, hx, hf => by
  unfold PM.drain
  rcases h.step hx d hd with ⟨q1, q2⟩ | ⟨m2, E2, s2, q1, q2, q3, q4, q5⟩
  ·rw [q1]; exact ⟨m, E, s, rfl, h, hx, Nat.le_refl _, rfl⟩
  ·rw [q1]
   obtain ⟨m', E', s', g1, g2, g3, g4, g5⟩ := Sim.drain f (by rw [q5]; exact hd) q2 q3 (by omega)
   exact ⟨m', E', s', g1, g2, g3, by omega, g5.trans q5⟩
theorem Sim.drains {fin : AS} (f : Nat) : ∀ (k : Nat) {m : PM} {E : List (Nat × Instr)} {s : AS}, k ≤ m.l.length → Sim gv S m E s → s.exs nf gv E = some fin → E.length < f → ∃ m' E' s', PM.drains nf f m k = some m' ∧ Sim gv S m' E' s' ∧ s'.exs nf gv E' = some fin ∧ E'.length ≤ E.length ∧ m'.l = m.l
 | 0, m, E, s, _, h, hx, _ => ⟨m, E, s, rfl, h, hx, Nat.le_refl _, rfl⟩
 | k + 1, m, E, s, hk, h, hx, hf => by
  obtain ⟨m1, E1, s1, h1, h2, h3, h4, h5⟩ := Sim.drain (d := k) f (by omega) h hx hf
  unfold PM.drains
  rw [h1]
  obtain ⟨m', E', s', g1, g2, g3, g4, g5⟩ := Sim.drains f k (by rw [h5]; omega) h2 h3 (by omega)
  exact ⟨m', E', s', g1, g2, g3, by omega, g5.trans h5⟩

/-- Registers' names are each there once. -/
theorem putR_keys (k : Int) (t : Ten) (l : List (Int × Ten)) (h : (l.map (·.1)).Nodup) : ((putR k t l).map (·.1)).Nodup := by
 unfold putR
 cases hf : l.findIdx? (fun x => x.1 == k) with
 | some i =>
  obtain ⟨hi, h1, _⟩ := List.findIdx?_eq_some_iff_getElem.1 hf
  have : (l.set i (k, t)).map (·.1) = l.map (·.1) := by
   rw [List.map_set]
   refine List.ext_getElem (by simp) fun j h2 h3 => ?_
   rw [List.getElem_set]
   split
   ·rename_i hij; subst hij; simpa using (by simpa using h1 : l[i].1 = k).symm
   ·rfl
  simp only [this]; exact h
 | none =>
  rw [List.findIdx?_eq_none_iff] at hf
  simp only [List.map_append, List.map_cons, List.map_nil]
  rw [List.nodup_append]
  refine ⟨h, by simp, fun a ha b hb => ?_⟩
  obtain ⟨x, hx, rfl⟩ := List.mem_map.1 ha
  have := hf x hx
  simp only [List.mem_singleton] at hb
  subst hb
  simpa using this
def AS.Keys (s : AS) : Prop := ∀ d, ((s.rg d).map (·.1)).Nodup
theorem AS.keys_ex {s s' : AS} {d : Nat} {i : Instr} (hk : s.Keys) (h : s.ex nf gv d i = some s') : s'.Keys := by
 have key : ∀ r t, (s.wr d r t).Keys := fun r t c => by
  simp only [AS.wr]; split
  ·exact putR_keys _ _ _ (hk d)
  ·exact hk c
 rcases AS.ex_inv h with ⟨_, t, _, rfl⟩ | ⟨_, r, rs, _, _, rfl⟩ | ⟨_, t, _, rfl⟩
 ·exact key _ _
 ·exact hk
 ·exact key _ _
theorem AS.keys_exs : ∀ {E : List (Nat × Instr)} {s s' : AS}, s.Keys → s.exs nf gv E = some s' → s'.Keys
 | [], _, _, hk, h => by cases h; exact hk
 | e :: E, s, s', hk, h => by
  unfold AS.exs at h
  cases hx : s.ex nf gv e.1 e.2 with
  | none => rw [hx] at h; cases h
  | some s1 => rw [hx] at h; exact AS.keys_exs (AS.keys_ex hk hx) h
theorem lookR_mem {l : List (Int × Ten)} (h : (l.map (·.1)).Nodup) {x : Int × Ten} (hx : x ∈ l) : lookR x.1 l = some x.2 := by
 unfold lookR
 obtain ⟨i, hi, rfl⟩ := List.getElem_of_mem hx
 have : l.findIdx? (fun y => y.1 == l[i].1) = some i := by
  rw [List.findIdx?_eq_some_iff_getElem]
  refine ⟨hi, by simp, fun j hj => ?_⟩
  have hn := (List.nodup_iff_pairwise_ne.1 h)
  rw [List.pairwise_iff_getElem] at hn
  have := hn j i (by simp; omega) (by simpa using hi) hj
  simpa using this
 rw [this]
 simp [List.getD_eq_getElem?_getD, hi]

/-- What is put one behind the other in an order in which it can be done runs to that end, in any order. -/
theorem runOk_of {E : List (Nat × Instr)} {fin : AS} {l : List (List Instr)} (hx : AS.init.exs nf gv E = some fin) (hbag : ∀ f t g, fin.bag f t g = none) (hl : ∀ d, l.getD d [] = prog d E) (hdev : ∀ e ∈ E, e.1 < l.length) :
  ∃ w, RunOk nf l gv w ∧ w.l = l ∧ ∀ d, d < l.length → w.rg.getD d [] = fin.rg d := by
 have h0 : Sim gv (E.countP fun e => e.2.kind == 3 : Nat) (PM.init l gv) E AS.init := by
  refine ⟨fun d hd => ?_, fun f t g => rfl, fun f t g => by simp [PM.init], AS.wf_init, fun d hd => ?_, rfl, hdev, by simp [PM.init], by simp [PM.init], by simp [PM.init]⟩
  ·have hd : d < l.length := hd
   simp [PM.init, AS.init, List.getD_eq_getElem?_getD, hd]
  ·have hd : d < l.length := hd
   simp only [PM.init]
   rw [rep_get' _ _ _ _ hd, List.drop_zero, hl]
 have hll : (PM.init l gv).l = l := rfl
 obtain ⟨w, w1, w2, w3⟩ := h0.fair (E.length + 1) hx (by omega)
 obtain ⟨o1, E1, s1, d1, d2, d3, d4, d5⟩ := Sim.drains (E.length + 1) l.length (by rw [hll]; exact Nat.le_refl _) h0 hx (by omega)
 obtain ⟨o2, p1, p2, p3⟩ := d2.fair (E.length + 1) d3 (by omega)
 have bag0 : ∀ {w : PM}, Sim gv (E.countP fun e => e.2.kind == 3 : Nat) w [] fin → w.bag = [] := fun {w} h => by
  cases hb : w.bag with
  | nil => rfl
  | cons x xs =>
   have := h.bag x.frm x.to x.tag
   rw [hbag, hb] at this
   simp [lkB, hitM] at this
 have wl : w.l = l := w3
 have ol : o2.l = l := p3.trans d5
 have hk : fin.Keys := AS.keys_exs (s := AS.init) (fun d => by simp [AS.init]) hx
 refine ⟨w, ⟨E.length + 1, o1, o2, w1, d1, p1, bag0 w2, bag0 p2, ?_, fun d hd => ?_⟩, wl, fun d hd => w2.rg d (by rw [wl]; exact hd)⟩
 ·have e1 := w2.sent
  have e2 := p2.sent
  simp only [List.countP_nil, Int.natCast_zero, Int.add_zero] at e1 e2
  exact e1.trans e2.symm
 ·rw [w2.rg d (by rw [wl]; exact hd), p2.rg d (by rw [ol]; exact hd)]
  exact ⟨rfl, fun x hx => lookR_mem (hk d) hx⟩
end
theorem firstNZ_of {xs : List Int} (h : ∀ x ∈ xs, x = 0) : firstNZ xs = 0 := by
 induction xs with
 | nil => rfl
 | cons x xs ih => rw [firstNZ, if_pos (h x (by simp))]; exact ih fun y hy => h y (by simp [hy])

def GoodS (dev : Int) (p : List Instr) : Prop := ∀ a i b, p = a ++ i :: b → formB i = true ∧ namedB a dev i = true

theorem GoodS.nil (dev : Int) : GoodS dev [] := fun a i b h => by simp at h
theorem GoodS.snoc {dev : Int} {p : List Instr} {i : Instr} (h : GoodS dev p) (hf : formB i = true) (hn : namedB p dev i = true) : GoodS dev (p ++ [i]) := by
 intro a j b hab
 rcases List.eq_nil_or_concat b with rfl | ⟨b', y, rfl⟩
 ·obtain ⟨h1, h2⟩ := List.append_inj' hab (by simp)
  have h2 : i = j := by simpa using h2
  subst h1; subst h2; exact ⟨hf, hn⟩
 ·have e : p ++ [i] = (a ++ j :: b') ++ [y] := by simpa using hab
  obtain ⟨h1, _⟩ := List.append_inj' e (by simp)
  exact h a j b' h1

theorem right_of {l : List (List Instr)} (h1 : 1 ≤ l.length) (h8 : l.length ≤ 8) (h : ∀ p ∈ l, p.length ≤ 65536 ∧ GoodS l.length p) : rightE l = 0 := by
 have e1 : ¬ ((decide ((l.length : Int) < 1) || decide ((l.length : Int) > 8)) = true) := by
  rw [decide_eq_false (by omega), decide_eq_false (by omega)]; simp
 have e2 : ¬ (l.any (fun p => decide ((p.length : Int) > 65536)) = true) := by
  rw [List.any_eq_true]; rintro ⟨p, hp, hq⟩
  have := (h p hp).1
  have := of_decide_eq_true hq; omega
 rw [rightE, if_neg e1, if_neg e2]
 refine firstNZ_of fun x hx => ?_
 obtain ⟨p, hp, rfl⟩ := List.mem_map.1 hx
 refine firstNZ_of fun y hy => ?_
 obtain ⟨n, hn, rfl⟩ := List.mem_map.1 hy
 have hn : n < p.length := List.mem_range.1 hn
 have := (h p hp).2 (p.take n) p[n] (p.drop (n + 1)) (by rw [← List.drop_eq_getElem_cons hn, List.take_append_drop])
 simp only [stepE, List.getElem?_eq_getElem hn]
 rw [if_neg (by rw [this.1]; simp), if_neg (by rw [this.2]; simp)]

def cK (kind : Int) (d : Nat) (p : List Instr) (k : Key) : Nat := (keyL kind d p).count k
def one1 (kind : Int) (d : Nat) (i : Instr) (k : Key) : Nat := if i.kind = kind ∧ keyOf kind d i = k then 1 else 0
def kc (kind : Int) (l : List (List Instr)) (k : Key) : Nat := (keysN kind l l.length).count k
theorem cK_append (kind : Int) (d : Nat) (p q : List Instr) (k : Key) : cK kind d (p ++ q) k = cK kind d p k + cK kind d q k := by
 simp [cK, keyL, List.count_append]
theorem cK_cons (kind : Int) (d : Nat) (i : Instr) (q : List Instr) (k : Key) : cK kind d (i :: q) k = one1 kind d i k + cK kind d q k := by
 by_cases h : i.kind = kind
 ·by_cases h2 : keyOf kind d i = k
  ·subst h2; simp [cK, keyL, one1, h]; omega
  ·simp [cK, keyL, one1, h, h2]
 ·simp [cK, keyL, one1, h]
theorem cK_nil (kind : Int) (d : Nat) (k : Key) : cK kind d [] k = 0 := rfl
theorem cK_one (kind : Int) (d : Nat) (i : Instr) (k : Key) : cK kind d [i] k = one1 kind d i k := by rw [cK_cons, cK_nil]; omega

theorem keys_set (kind : Int) (l : List (List Instr)) (d : Nat) (q : List Instr) (k : Key) (hd : d < l.length) (n : Nat) :
  (keysN kind (l.set d q) n).count k + (if d < n then cK kind d (l.getD d []) k else 0) = (keysN kind l n).count k + (if d < n then cK kind d q k else 0) := by
 induction n with
 | zero => simp [keysN]
 | succ n ih =>
  rw [keysN_succ, keysN_succ, List.count_append, List.count_append]
  by_cases h : n = d
  ·subst h
   rw [getD_set_eq' _ _ hd]
   rw [if_neg (by omega), if_neg (by omega)] at ih
   rw [if_pos (by omega), if_pos (by omega)]
   simp only [cK]; omega
  ·rw [getD_set_ne' _ _ h]
   by_cases h2 : d < n
   ·rw [if_pos h2, if_pos h2] at ih
    rw [if_pos (by omega), if_pos (by omega)]; omega
   ·rw [if_neg h2, if_neg h2] at ih
    rw [if_neg (by omega), if_neg (by omega)]; omega
theorem kc_set (kind : Int) {l : List (List Instr)} {d : Nat} (q : List Instr) (k : Key) (hd : d < l.length) : kc kind (l.set d q) k + cK kind d (l.getD d []) k = kc kind l k + cK kind d q k := by
 have := keys_set kind l d q k hd l.length
 rw [if_pos hd, if_pos hd] at this
 simpa [kc] using this
theorem kc_snoc (kind : Int) {l : List (List Instr)} {d : Nat} (i : Instr) (k : Key) (hd : d < l.length) : kc kind (l.set d (l.getD d [] ++ [i])) k = kc kind l k + one1 kind d i k := by
 have := kc_set kind (l.getD d [] ++ [i]) k hd
 rw [cK_append, cK_one] at this; omega

theorem pairs_zero {l : List (List Instr)} (hr : rightE l = 0) (h1 : ∀ k, kc 3 l k ≤ 1) (h : ∀ k, kc 3 l k = kc 4 l k) : pairsC l = 0 := by
 have n3 : (keysN 3 l l.length).Nodup := List.nodup_iff_count.2 h1
 have n4 : (keysN 4 l l.length).Nodup := List.nodup_iff_count.2 fun k => by have := h1 k; have := h k; simp only [kc] at *; omega
 rw [pairs_eq, pairsE, if_neg (by rw [hr]; simp), if_neg (fun h => (dup_iff l).1 h ⟨n3, n4⟩), if_neg]
 intro hm
 refine (miss_iff hr n3 n4).1 hm ⟨fun k hk => ?_, fun k hk => ?_⟩
 ·have := List.count_pos_iff.2 hk
  have := h k
  exact List.count_pos_iff.1 (by simp only [kc] at *; omega)
 ·have := List.count_pos_iff.2 hk
  have := h k
  exact List.count_pos_iff.1 (by simp only [kc] at *; omega)
theorem bare_empty : bareB emptyN = true := by simp [bareB, emptyN]
theorem lookR_put_eq (k : Int) (t : Ten) (l : List (Int × Ten)) : lookR k (putR k t l) = some t := by
 unfold lookR putR
 cases hf : l.findIdx? (fun x => x.1 == k) with
 | some i =>
  obtain ⟨hi, h1, h2⟩ := List.findIdx?_eq_some_iff_getElem.1 hf
  have : (l.set i (k, t)).findIdx? (fun x => x.1 == k) = some i := by
   rw [List.findIdx?_eq_some_iff_getElem]
   refine ⟨by simpa using hi, by simp, fun j hj => ?_⟩
   rw [List.getElem_set_ne (by omega)]; exact h2 j hj
  simp only [this, Option.map_some]
  simp [List.getD_eq_getElem?_getD, hi]
 | none =>
  have : (l ++ [(k, t)]).findIdx? (fun x => x.1 == k) = some l.length := by
   rw [List.findIdx?_append, hf]; simp
  simp only [this, Option.map_some]
  simp [List.getD_eq_getElem?_getD]
theorem lookR_put_ne {k k' : Int} (h : k' ≠ k) (t : Ten) (l : List (Int × Ten)) : lookR k' (putR k t l) = lookR k' l := by
 unfold putR
 cases hf : l.findIdx? (fun x => x.1 == k) with
 | some i =>
  obtain ⟨hi, h1, h2⟩ := List.findIdx?_eq_some_iff_getElem.1 hf
  have h1 : l[i].1 = k := by simpa using h1
  have e : (l.set i (k, t)).findIdx? (fun x => x.1 == k') = l.findIdx? (fun x => x.1 == k') := by
   have key : ∀ (l : List (Int × Ten)) (i : Nat) (hi : i < l.length), l[i].1 = k → (l.set i (k, t)).findIdx? (fun x => x.1 == k') = l.findIdx? (fun x => x.1 == k') := by
    intro l
    induction l with
    | nil => intro i hi; simp at hi
    | cons x xs ih =>
     intro i hi hx
     cases i with
     | zero =>
      have hx : x.1 = k := by simpa using hx
      have n1 : (k == k') = false := by simpa using fun e : k = k' => h e.symm
      simp [List.findIdx?_cons, hx, n1]
     | succ i =>
      simp only [List.set_cons_succ, List.findIdx?_cons]
      rw [ih i (by simpa using hi) (by simpa using hx)]
   exact key l i hi h1
  simp only [lookR]
  rw [e]
  cases hg : l.findIdx? (fun x => x.1 == k') with
  | none => rfl
  | some j =>
   obtain ⟨hj, h3, _⟩ := List.findIdx?_eq_some_iff_getElem.1 hg
   have h3 : l[j].1 = k' := by simpa using h3
   have : j ≠ i := by rintro rfl; exact h (h3.symm.trans h1)
   simp only [Option.map_some]
   rw [getD_set_ne' _ _ this]
 | none =>
  have n1 : (k == k') = false := by simpa using fun e : k = k' => h e.symm
  simp only [lookR, List.findIdx?_append]
  cases hg : l.findIdx? (fun x => x.1 == k') with
  | none => simp [n1]
  | some j =>
   obtain ⟨hj, _, _⟩ := List.findIdx?_eq_some_iff_getElem.1 hg
   simp [List.getD_eq_getElem?_getD, List.getElem?_append, hj]
theorem getR_lookR {k : Int} {l : List (Int × Ten)} {t : Ten} (h : lookR k l = some t) : getR k l = t := by
 unfold lookR at h
 unfold getR
 cases hf : l.findIdx? (fun x => x.1 == k) with
 | none => rw [hf] at h; cases h
 | some i => rw [hf] at h; simpa using h

theorem prog_snoc (c d : Nat) (i : Instr) (E : List (Nat × Instr)) : prog c (E ++ [(d, i)]) = if c = d then prog c E ++ [i] else prog c E := by
 by_cases h : c = d
 ·subst h; simp [prog, List.filter_append]
 ·have : (d == c) = false := by simpa using fun e : d = c => h e.symm
  rw [if_neg h]; simp [prog, List.filter_append, this]
theorem exs_snoc {nf : Node → List Ten → Option Ten} {gv : List (List Ten)} {d : Nat} {i : Instr} {s2 : AS} : ∀ {E : List (Nat × Instr)} {s s1 : AS}, s.exs nf gv E = some s1 → s1.ex nf gv d i = some s2 → s.exs nf gv (E ++ [(d, i)]) = some s2
 | [], s, s1, h, h2 => by cases h; simp only [List.nil_append, AS.exs, h2]
 | e :: E, s, s1, h, h2 => by
  unfold AS.exs at h
  cases hx : s.ex nf gv e.1 e.2 with
  | none => rw [hx] at h; cases h
  | some s3 =>
   rw [hx] at h
   simp only [List.cons_append, AS.exs, hx]
   exact exs_snoc h h2
theorem kc_shape (kind : Int) (l : List (List Instr)) (k : Key) (h : ∀ a b c : Int, k ≠ [a, b, c]) : kc kind l k = 0 := by
 unfold kc
 rw [List.count_eq_zero]
 intro hm
 simp only [keysN, List.mem_flatMap, keyL, List.mem_map] at hm
 obtain ⟨d, _, i, _, rfl⟩ := hm
 unfold keyOf at h
 split at h
 ·exact h _ _ _ rfl
 ·exact h _ _ _ rfl
theorem one1_3 (d : Nat) (i : Instr) (f t g : Int) : one1 3 d i [f, t, g] = if i.kind = 3 ∧ f = d ∧ t = i.dev ∧ g = i.tag then 1 else 0 := by
 unfold one1 keyOf
 by_cases h : i.kind = 3
 ·simp only [h, true_and]
  have : ([(d : Int), i.dev, i.tag] = [f, t, g]) ↔ (f = d ∧ t = i.dev ∧ g = i.tag) := by
   simp only [List.cons.injEq, and_true]
   constructor <;> rintro ⟨a, b, c⟩ <;> exact ⟨a.symm, b.symm, c.symm⟩
  simp [this]
 ·simp [h]
theorem one1_4 (d : Nat) (i : Instr) (f t g : Int) : one1 4 d i [f, t, g] = if i.kind = 4 ∧ f = i.dev ∧ t = d ∧ g = i.tag then 1 else 0 := by
 unfold one1 keyOf
 by_cases h : i.kind = 4
 ·simp only [h, true_and]
  have : ([i.dev, (d : Int), i.tag] = [f, t, g]) ↔ (f = i.dev ∧ t = d ∧ g = i.tag) := by
   simp only [List.cons.injEq, and_true]
   constructor <;> rintro ⟨a, b, c⟩ <;> exact ⟨a.symm, b.symm, c.symm⟩
  simp [this]
 ·simp [h]

def b2n (b : Bool) : Nat := cond b 1 0
section
variable {nf : Node → List Ten → Option Ten} {gv : List (List Ten)}
/-- A maker, what was put in order, what it comes to. -/
structure RI (nf : Node → List Ten → Option Ten) (gv : List (List Ten)) (n : Nat) (m : MkS) (E : List (Nat × Instr)) (s : AS) : Prop where
 lp : m.ps.length = n
 n1 : 1 ≤ n
 sm : m.Sm E.length
 ex : AS.init.exs nf gv E = some s
 ps : ∀ d, m.ps.getD d [] = prog d E
 dev : ∀ e ∈ E, e.1 < n
 good : ∀ d, d < n → GoodS n (m.ps.getD d [])
 reg : ∀ d, d < n → ∀ r, wrote (m.ps.getD d []) r = true → 0 ≤ r ∧ r < m.rs.getD d 0
 has : ∀ d, d < n → ∀ r, wrote (m.ps.getD d []) r = true ↔ lookR r (s.rg d) ≠ none
 tag : ∀ f t g, s.used f t g = true → g < m.tg
 wf : s.Wf
 c3 : ∀ f t g, kc 3 m.ps [f, t, g] = b2n (s.used f t g)
 c4 : ∀ f t g, kc 4 m.ps [f, t, g] = b2n (s.used f t g && (s.bag f t g).isNone)

/-- Registers stay. -/
def AS.Le (s s' : AS) : Prop := ∀ d r t, lookR r (s.rg d) = some t → lookR r (s'.rg d) = some t
theorem AS.Le.refl (s : AS) : s.Le s := fun _ _ _ h => h
theorem AS.Le.trans {a b c : AS} (h : a.Le b) (h' : b.Le c) : a.Le c := fun d r t hh => h' d r t (h d r t hh)

theorem RI.lr {n : Nat} {m : MkS} {E : List (Nat × Instr)} {s : AS} (h : RI nf gv n m E s) : m.rs.length = n := h.sm.rl.trans h.lp
theorem RI.fresh_new {n : Nat} {m : MkS} {E : List (Nat × Instr)} {s : AS} (h : RI nf gv n m E s) {d : Nat} (hd : d < n) : lookR (m.rs.getD d 0) (s.rg d) = none ∧ wrote (m.ps.getD d []) (m.rs.getD d 0) = false := by
 have : wrote (m.ps.getD d []) (m.rs.getD d 0) = false := by
  cases hw : wrote (m.ps.getD d []) (m.rs.getD d 0) with
  | false => rfl
  | true => have := (h.reg d hd _ hw).2; omega
 refine ⟨?_, this⟩
 cases hl : lookR (m.rs.getD d 0) (s.rg d) with
 | none => rfl
 | some x =>
  have := (h.has d hd (m.rs.getD d 0)).2 (by rw [hl]; simp)
  simp_all

/-- One more instruction. -/
theorem RI.push {n : Nat} {m m' : MkS} {E : List (Nat × Instr)} {s s' : AS} (h : RI nf gv n m E s) {d : Nat} (hd : d < n) {i : Instr} (hex : s.ex nf gv d i = some s') (hf : formB i = true) (hn : namedB (m.ps.getD d []) n i = true)
  (hps : m'.ps = m.ps.set d (m.ps.getD d [] ++ [i])) (hsm : m'.Sm (E.length + 1)) (hrs : ∀ c, m.rs.getD c 0 ≤ m'.rs.getD c 0) (htg : m.tg ≤ m'.tg) (ho : i.kind ≠ 3 → 0 ≤ i.out ∧ i.out < m'.rs.getD d 0) (hk : i.kind = 3 → i.tag < m'.tg) : RI nf gv n m' (E ++ [(d, i)]) s' := by
 have hdp : d < m.ps.length := by rw [h.lp]; exact hd
 have pg : ∀ c, m'.ps.getD c [] = if c = d then m.ps.getD d [] ++ [i] else m.ps.getD c [] := fun c => by
  rw [hps]
  by_cases hc : c = d
  ·subst hc; rw [getD_set_eq' _ _ hdp, if_pos rfl]
  ·rw [getD_set_ne' _ _ hc, if_neg hc]
 have wsn : ∀ (p : List Instr) r, wrote (p ++ [i]) r = (wrote p r || (i.kind != 3 && i.out == r)) := fun p r => by simp [wrote]
 have key3 : ∀ f t g, kc 3 m'.ps [f, t, g] = kc 3 m.ps [f, t, g] + one1 3 d i [f, t, g] := fun f t g => by rw [hps, kc_snoc 3 i _ hdp]
 have key4 : ∀ f t g, kc 4 m'.ps [f, t, g] = kc 4 m.ps [f, t, g] + one1 4 d i [f, t, g] := fun f t g => by rw [hps, kc_snoc 4 i _ hdp]
 have hwf := AS.wf_ex h.wf hex
 refine ⟨by rw [hps, List.length_set]; exact h.lp, h.n1, by simpa using hsm, exs_snoc h.ex hex, fun c => ?_, fun e he => ?_, fun c hc => ?_, fun c hc r hr => ?_, fun c hc r => ?_, fun f t g hu => ?_, hwf, fun f t g => ?_, fun f t g => ?_⟩
 ·rw [pg, prog_snoc]
  by_cases hc : c = d
  ·subst hc; rw [if_pos rfl, if_pos rfl, h.ps]
  ·rw [if_neg hc, if_neg hc, h.ps]
 ·rcases List.mem_append.1 he with he | he
  ·exact h.dev e he
  ·rw [List.mem_singleton.1 he]; exact hd
 ·rw [pg]; split
  ·exact (h.good d hd).snoc hf hn
  ·exact h.good c hc
 ·rw [pg] at hr
  split at hr
  ·rename_i hcd; subst hcd
   rw [wsn, Bool.or_eq_true, Bool.and_eq_true] at hr
   rcases hr with hr | ⟨h1, h2⟩
   ·have := h.reg c hc r hr; have := hrs c; omega
   ·have := ho (by simpa using h1)
    have h2 : i.out = r := by simpa using h2
    omega
  ·have := h.reg c hc r hr; have := hrs c; omega
 ·rw [pg]
  rcases AS.ex_inv hex with ⟨ki, t, ht, rfl⟩ | ⟨ki, r0, rs, ii, ui, rfl⟩ | ⟨ki, t, ht, rfl⟩
  ·have k3 : (i.kind != 3) = true := by simp; omega
   by_cases hcd : c = d
   ·subst hcd
    rw [if_pos rfl, wsn, k3, Bool.true_and, Bool.or_eq_true, h.has c hc]
    simp only [AS.wr, if_true]
    by_cases hro : r = i.out
    ·subst hro; simp [lookR_put_eq]
    ·have hf' : (i.out == r) = false := by simpa using fun e : i.out = r => hro e.symm
     rw [lookR_put_ne hro, hf']; simp
   ·rw [if_neg hcd, h.has c hc]; simp only [AS.wr, if_neg hcd]
  ·have k3 : (i.kind != 3) = false := by simp [ki]
   have : (if c = d then m.ps.getD d [] ++ [i] else m.ps.getD c []) = m.ps.getD c [] ++ (if c = d then [i] else []) := by
    split
    ·rename_i hcd; rw [hcd]
    ·simp
   rw [this]
   have w2 : wrote (m.ps.getD c [] ++ (if c = d then [i] else [])) r = wrote (m.ps.getD c []) r := by
    split
    ·rw [wsn, k3]; simp
    ·simp
   rw [w2, h.has c hc]; rfl
  ·have k3 : (i.kind != 3) = true := by simpa using ki.2
   by_cases hcd : c = d
   ·subst hcd
    rw [if_pos rfl, wsn, k3, Bool.true_and, Bool.or_eq_true, h.has c hc]
    simp only [AS.wr, AS.tak, if_true]
    by_cases hro : r = i.out
    ·subst hro; simp [lookR_put_eq]
    ·have hf' : (i.out == r) = false := by simpa using fun e : i.out = r => hro e.symm
     rw [lookR_put_ne hro, hf']; simp
   ·rw [if_neg hcd, h.has c hc]; simp only [AS.wr, AS.tak, if_neg hcd]
 ·rcases AS.ex_inv hex with ⟨ki, x, ht, rfl⟩ | ⟨ki, r0, rs, ii, ui, rfl⟩ | ⟨ki, x, ht, rfl⟩
  ·have := h.tag f t g hu; omega
  ·simp only [AS.snd] at hu
   split at hu
   ·rename_i hh; have := hk ki; rw [hh.2.2]; omega
   ·have := h.tag f t g hu; omega
  ·have := h.tag f t g hu; omega
 ·rw [key3, h.c3, one1_3]
  rcases AS.ex_inv hex with ⟨ki, x, ht, rfl⟩ | ⟨ki, r0, rs, ii, ui, rfl⟩ | ⟨ki, x, ht, rfl⟩
  ·rw [if_neg (show ¬ (i.kind = 3 ∧ _) from fun hh => by omega)]; rfl
  ·by_cases hh : f = d ∧ t = i.dev ∧ g = i.tag
   ·have e : (s.snd d i.dev i.tag (getR r0 (s.rg d))).used f t g = true := by simp only [AS.snd]; rw [if_pos hh]
    rw [e, if_pos ⟨ki, hh⟩, hh.1, hh.2.1, hh.2.2, ui]; rfl
   ·have e : (s.snd d i.dev i.tag (getR r0 (s.rg d))).used f t g = s.used f t g := by simp only [AS.snd]; rw [if_neg hh]
    rw [e, if_neg (fun q => hh q.2)]; rfl
  ·rw [if_neg (fun hh => ki.2 hh.1)]; rfl
 ·rw [key4, h.c4, one1_4]
  rcases AS.ex_inv hex with ⟨ki, x, ht, rfl⟩ | ⟨ki, r0, rs, ii, ui, rfl⟩ | ⟨ki, x, ht, rfl⟩
  ·rw [if_neg (show ¬ (i.kind = 4 ∧ _) from fun hh => by omega)]; rfl
  ·rw [if_neg (show ¬ (i.kind = 4 ∧ _) from fun hh => by omega)]
   by_cases hh : f = d ∧ t = i.dev ∧ g = i.tag
   ·have e : (s.snd d i.dev i.tag (getR r0 (s.rg d))).bag f t g = some (getR r0 (s.rg d)) := by simp only [AS.snd]; rw [if_pos hh]
    rw [e, hh.1, hh.2.1, hh.2.2, ui]; simp [b2n]
   ·have e : (s.snd d i.dev i.tag (getR r0 (s.rg d))).used f t g = s.used f t g := by simp only [AS.snd]; rw [if_neg hh]
    have e2 : (s.snd d i.dev i.tag (getR r0 (s.rg d))).bag f t g = s.bag f t g := by simp only [AS.snd]; rw [if_neg hh]
    rw [e, e2]; rfl
  ·have k4 : i.kind = 4 := by
    unfold formB at hf
    have b1 : (i.kind == 1) = false := by simpa using fun e => ki.1 (.inl e)
    have b2 : (i.kind == 2) = false := by simpa using fun e => ki.1 (.inr e)
    have b3 : (i.kind == 3) = false := by simpa using ki.2
    rw [b1, b2, b3] at hf
    cases hb : (i.kind == 4) with
    | true => simpa using hb
    | false => rw [hb] at hf; cases hf
   have e : ((s.tak i.dev d i.tag).wr d i.out x).used f t g = s.used f t g := rfl
   by_cases hh : f = i.dev ∧ t = d ∧ g = i.tag
   ·have hu : s.used f t g = true := by
     cases hu : s.used f t g with
     | true => rfl
     | false => have := h.wf _ _ _ hu; rw [hh.1, hh.2.1, hh.2.2, ht] at this; cases this
    have e2 : ((s.tak i.dev d i.tag).wr d i.out x).bag f t g = none := by simp only [AS.tak, AS.wr]; rw [if_pos hh]
    have e3 : s.bag f t g = some x := by rw [hh.1, hh.2.1, hh.2.2]; exact ht
    rw [e, e2, hu, e3, if_pos ⟨k4, hh⟩]; rfl
   ·have e2 : ((s.tak i.dev d i.tag).wr d i.out x).bag f t g = s.bag f t g := by simp only [AS.tak, AS.wr]; rw [if_neg hh]
    rw [e, e2, if_neg (fun q => hh q.2)]; rfl

section
variable {n : Nat} {m : MkS} {E : List (Nat × Instr)} {s : AS}
theorem RI.right (h : RI nf gv n m E s) (hE : E.length ≤ 65536) : rightE m.ps = 0 := by
 have h8 := h.sm.pl
 have h1 := h.n1
 have hl := h.lp
 refine right_of (by omega) h8 fun p hp => ?_
 obtain ⟨d, hd, rfl⟩ := List.getElem_of_mem hp
 have hg := h.good d (by omega)
 have hs := h.sm.len d
 have e : m.ps.getD d [] = m.ps[d] := by simp [List.getD_eq_getElem?_getD, hd]
 rw [e] at hg hs
 rw [← hl] at hg
 exact ⟨by omega, hg⟩
theorem RI.pairs (h : RI nf gv n m E s) (hE : E.length ≤ 65536) (hb : ∀ f t g, s.bag f t g = none) : pairsE m.ps = 0 := by
 have key : ∀ k, kc 3 m.ps k ≤ 1 ∧ kc 3 m.ps k = kc 4 m.ps k := fun k => by
  by_cases hk : ∃ a b c : Int, k = [a, b, c]
  ·obtain ⟨a, b, c, rfl⟩ := hk
   rw [h.c3, h.c4, hb]
   cases s.used a b c <;> simp [b2n]
  ·have hk' : ∀ a b c : Int, k ≠ [a, b, c] := fun a b c e => hk ⟨a, b, c, e⟩
   rw [kc_shape 3 _ _ hk', kc_shape 4 _ _ hk']; omega
 have := pairs_zero (h.right hE) (fun k => (key k).1) fun k => (key k).2
 rwa [pairs_eq] at this
theorem sum_bound {k : Nat} : ∀ (l : List (List Instr)), (∀ p ∈ l, p.length ≤ k) → (l.map List.length).sum ≤ l.length * k
 | [], _ => by simp
 | p :: l, h => by
  have h1 := sum_bound l fun q hq => h q (by simp [hq])
  have h2 := h p (by simp)
  simp only [List.map_cons, List.sum_cons, List.length_cons, Nat.succ_mul]; omega
theorem RI.total (h : RI nf gv n m E s) (hE : E.length ≤ 65536) : (m.ps.map List.length).sum ≤ 2 ^ 20 := by
 have h1 := sum_bound (k := 65536) m.ps fun p hp => by
  obtain ⟨d, hd, rfl⟩ := List.getElem_of_mem hp
  have hs := h.sm.len d
  have e : m.ps.getD d [] = m.ps[d] := by simp [List.getD_eq_getElem?_getD, hd]
  rw [e] at hs; omega
 have h8 := h.sm.pl
 have h2 : m.ps.length * 65536 ≤ 8 * 65536 := Nat.mul_le_mul_right _ h8
 omega
end
end
theorem MkS.Sm.freshPut {m : MkS} {k : Nat} (h : m.Sm k) (d : Nat) {i : Instr} (hi : i.Sm) : ((m.fresh d).put d i).Sm (k + 1) := by
 have h1 := h.put d hi
 have h2 := h.fresh d
 refine ⟨?_, h1.len, h2.r0, h2.rk, h1.t0, h1.tk, h1.is, h1.pl⟩
 have := h1.rl
 simpa [MkS.put, MkS.fresh] using this
theorem MkS.Sm.tagPut {m : MkS} {k : Nat} (h : m.Sm k) (d : Nat) {i : Instr} (hi : i.Sm) : (({ m with tg := m.tg + 1 } : MkS).put d i).Sm (k + 1) := by
 have h1 := h.put d hi
 have h3 := h.t0
 have h4 := h.tk
 refine ⟨h1.rl, h1.len, h1.r0, h1.rk, ?_, ?_, h1.is, h1.pl⟩
 ·simp only [MkS.put]; omega
 ·simp only [MkS.put]; omega
theorem empty_sm : emptyN.Sm := by decide
theorem fresh_mono (m : MkS) (d c : Nat) : m.rs.getD c 0 ≤ (m.fresh d).rs.getD c 0 := by
 simp only [MkS.fresh]
 by_cases hd : d < m.rs.length
 ·by_cases hc : c = d
  ·subst hc; rw [getD_set_eq' _ _ hd]; omega
  ·rw [getD_set_ne' _ _ hc]; omega
 ·rw [gset_out _ hd]; omega
theorem fresh_own (m : MkS) {d : Nat} (hd : d < m.rs.length) : (m.fresh d).rs.getD d 0 = m.rs.getD d 0 + 1 := by
 simp only [MkS.fresh]; rw [getD_set_eq' _ _ hd]
theorem named_of {q : List Instr} {dev : Int} {i : Instr} (h1 : ∀ r ∈ i.ins, wrote q r = true) (h2 : i.kind ≠ 3 → 0 ≤ i.out ∧ i.out ≤ 65536 ∧ wrote q i.out = false) (h3 : 0 ≤ i.dev ∧ i.dev < dev) (h4 : 0 ≤ i.n) (h5 : 0 ≤ i.tag ∧ i.tag ≤ 1073741824) : namedB q dev i = true := by
 have e1 : i.ins.all (wrote q) = true := List.all_eq_true.2 h1
 unfold namedB
 rw [e1, decide_eq_true h3.1, decide_eq_true h3.2, decide_eq_true h4, decide_eq_true h5.1, decide_eq_true h5.2]
 by_cases hk : i.kind = 3
 ·simp [hk]
 ·obtain ⟨a, b, c⟩ := h2 hk
  rw [c, decide_eq_false (show ¬ i.out < 0 by omega), decide_eq_false (show ¬ i.out > 65536 by omega)]
  simp

section
variable {nf : Node → List Ten → Option Ten} {gv : List (List Ten)} {n : Nat} {m : MkS} {E : List (Nat × Instr)} {s : AS}
theorem RI.rgLe (h : RI nf gv n m E s) {d : Nat} (hd : d < n) (t : Ten) {s' : AS} (hs : ∀ c, s'.rg c = s.rg c) : s.Le (s'.wr d (m.rs.getD d 0) t) := by
 intro c r x hx
 simp only [AS.wr]
 split
 ·rename_i hc; subst hc
  rw [hs, lookR_put_ne]; exact hx
  rintro rfl
  rw [(h.fresh_new hd).1] at hx; cases hx
 ·rw [hs]; exact hx
theorem locT_take (d k : Nat) (r : Int) (rs : List (Int × Ten)) : locT nf gv d (takeI r k) rs = (gv.getD d [])[k]? := by
 unfold locT
 rw [if_pos (show (takeI r (k : Int)).kind = 1 from rfl), if_pos (show 0 ≤ (takeI r (k : Int)).n from Int.natCast_nonneg k)]
 rfl
theorem locT_work {d : Nat} {r : Int} {ins : List Int} {x : Node} {rs : List (Int × Ten)} (h0 : ins ≠ []) : locT nf gv d (workI r ins x) rs = nf x (ins.map fun r => getR r rs) := by
 unfold locT
 rw [if_neg (show ¬ (workI r ins x).kind = 1 from fun h => absurd (show (2 : Int) = 1 from h) (by decide)), if_neg (show ¬ (workI r ins x).ins = [] from h0)]
 rfl
/-- A Take. -/
theorem RI.take (h : RI nf gv n m E s) (hE : E.length ≤ 65535) {d : Nat} (hd : d < n) {k : Nat} {t : Ten} (ht : (gv.getD d [])[k]? = some t) :
  RI nf gv n ((m.fresh d).put d (takeI (m.rs.getD d 0) k)) (E ++ [(d, takeI (m.rs.getD d 0) k)]) (s.wr d (m.rs.getD d 0) t) := by
 have hdr : d < m.rs.length := by rw [h.lr]; exact hd
 have r0 := h.sm.r0 d
 have rk := h.sm.rk d
 refine h.push hd (AS.ex_loc (.inl rfl) ?_) ?_ ?_ rfl (h.sm.freshPut d ⟨by simp [takeI], empty_sm⟩) (fresh_mono m d) (Int.le_refl _) (fun _ => ⟨r0, ?_⟩) (fun e => by simp [takeI] at e)
 ·rw [locT_take]; exact ht
 ·simp [formB, takeI, bare_empty]
 ·have := h.n1
  exact named_of (by simp [takeI]) (fun _ => ⟨r0, by simp only [takeI]; omega, (h.fresh_new hd).2⟩) (by simp only [takeI]; omega) (by simp only [takeI]; omega) (by simp only [takeI]; omega)
 ·simp only [takeI, MkS.put, fresh_own m hdr]; omega
/-- Work. -/
theorem RI.work (h : RI nf gv n m E s) (hE : E.length ≤ 65535) {d : Nat} (hd : d < n) {x : Node} {ins : List Int} {t : Ten} (h0 : ins ≠ []) (hi : ∀ r ∈ ins, lookR r (s.rg d) ≠ none) (ht : nf x (ins.map fun r => getR r (s.rg d)) = some t) (hs : (workI (m.rs.getD d 0) ins x).Sm) :
  RI nf gv n ((m.fresh d).put d (workI (m.rs.getD d 0) ins x)) (E ++ [(d, workI (m.rs.getD d 0) ins x)]) (s.wr d (m.rs.getD d 0) t) := by
 have hdr : d < m.rs.length := by rw [h.lr]; exact hd
 have r0 := h.sm.r0 d
 have rk := h.sm.rk d
 refine h.push hd (AS.ex_loc (.inr rfl) ?_) ?_ ?_ rfl (h.sm.freshPut d hs) (fresh_mono m d) (Int.le_refl _) (fun _ => ⟨r0, ?_⟩) (fun e => by simp [workI] at e)
 ·rw [locT_work h0]; exact ht
 ·simp [formB, workI]
 ·have := h.n1
  exact named_of (fun r hr => (h.has d hd r).2 (hi r hr)) (fun _ => ⟨r0, by simp only [workI]; omega, (h.fresh_new hd).2⟩) (by simp only [workI]; omega) (by simp only [workI]; omega) (by simp only [workI]; omega)
 ·simp only [workI, MkS.put, fresh_own m hdr]; omega
/-- A Recv of what waits. -/
theorem RI.recv (h : RI nf gv n m E s) (hE : E.length ≤ 65535) {d f : Nat} (hd : d < n) (hf : f < n) {g : Int} {t : Ten} (h0 : 0 ≤ g) (hb : s.bag f d g = some t) :
  RI nf gv n ((m.fresh d).put d (recvJ (m.rs.getD d 0) f g)) (E ++ [(d, recvJ (m.rs.getD d 0) f g)]) ((s.tak f d g).wr d (m.rs.getD d 0) t) := by
 have hdr : d < m.rs.length := by rw [h.lr]; exact hd
 have r0 := h.sm.r0 d
 have rk := h.sm.rk d
 have tk := h.sm.tk
 have hg : g < m.tg := by
  refine h.tag f d g ?_
  cases hu : s.used f d g with
  | true => rfl
  | false => rw [h.wf _ _ _ hu] at hb; cases hb
 refine h.push hd (AS.ex_rcv ⟨by simp [recvJ], by simp [recvJ]⟩ hb) ?_ ?_ rfl (h.sm.freshPut d ⟨by simp [recvJ], empty_sm⟩) (fresh_mono m d) (Int.le_refl _) (fun _ => ⟨r0, ?_⟩) (fun e => by simp [recvJ] at e)
 ·simp [formB, recvJ, bare_empty]
 ·exact named_of (by simp [recvJ]) (fun _ => ⟨r0, by simp only [recvJ]; omega, (h.fresh_new hd).2⟩) (by simp only [recvJ]; omega) (by simp only [recvJ]; omega) (by simp only [recvJ]; omega)
 ·simp only [recvJ, MkS.put, fresh_own m hdr]; omega
/-- A letter. -/
structure Lt where
 frm : Nat
 to : Nat
 reg : Int
def sendOne (m : MkS) (x : Lt) : MkS := ({ m with tg := m.tg + 1 } : MkS).put x.frm (sendJ x.reg x.to m.tg)
theorem RI.send (h : RI nf gv n m E s) (hE : E.length ≤ 65535) {x : Lt} (hd : x.frm < n) (hto : x.to < n) {t : Ten} (hr : lookR x.reg (s.rg x.frm) = some t) :
  RI nf gv n (sendOne m x) (E ++ [(x.frm, sendJ x.reg x.to m.tg)]) (s.snd x.frm x.to m.tg t) := by
 have tk := h.sm.tk
 have t0 := h.sm.t0
 have hu : s.used x.frm x.to m.tg = false := by
  cases hu : s.used x.frm x.to m.tg with
  | false => rfl
  | true => have := h.tag _ _ _ hu; omega
 have hg := getR_lookR hr
 have hex := AS.ex_snd (nf := nf) (gv := gv) (s := s) (d := x.frm) (i := sendJ x.reg x.to m.tg) (r := x.reg) (rs := []) rfl rfl hu
 rw [hg] at hex
 refine h.push hd hex ?_ ?_ rfl (h.sm.tagPut x.frm ⟨by simp [sendJ], empty_sm⟩) (fun c => Int.le_refl _) (by simp only [sendOne, MkS.put]; omega) (fun e => by simp [sendJ] at e) (fun _ => by simp only [sendOne, MkS.put, sendJ]; omega)
 ·simp [formB, sendJ, bare_empty]
 ·exact named_of (fun r hr' => by
   have : r = x.reg := by simpa [sendJ] using hr'
   subst this
   exact (h.has _ hd _).2 (by rw [hr]; simp)) (fun e => absurd rfl e) (by simp only [sendJ]; omega) (by simp only [sendJ]; omega) (by simp only [sendJ]; omega)

def lt0 : Lt := ⟨0, 0, 0⟩
def sendsM (m : MkS) (l : List Lt) : Nat → MkS
 | 0 => m
 | k + 1 => sendOne (sendsM m l k) (l.getD k lt0)
def recvsM (m : MkS) (tg0 : Int) (l : List Lt) : Nat → MkS × List Int
 | 0 => (m, [])
 | k + 1 => ((((recvsM m tg0 l k).1.fresh (l.getD k lt0).to).put (l.getD k lt0).to (recvJ ((recvsM m tg0 l k).1.rs.getD (l.getD k lt0).to 0) (l.getD k lt0).frm (tg0 + k))), (recvsM m tg0 l k).2 ++ [(recvsM m tg0 l k).1.rs.getD (l.getD k lt0).to 0])
def delivM (m : MkS) (l : List Lt) : MkS × List Int := recvsM (sendsM m l l.length) m.tg l l.length
theorem sends_tg (m : MkS) (l : List Lt) : ∀ k, (sendsM m l k).tg = m.tg + k
 | 0 => by simp [sendsM]
 | k + 1 => by
  have := sends_tg m l k
  simp only [sendsM, sendOne, MkS.put, this]; omega
theorem sends_len (m : MkS) (l : List Lt) : ∀ k, (sendsM m l k).ps.length = m.ps.length
 | 0 => rfl
 | k + 1 => by simp only [sendsM, sendOne, MkS.put, List.length_set, sends_len m l k]
theorem recvs_len (m : MkS) (g : Int) (l : List Lt) : ∀ k, (recvsM m g l k).1.ps.length = m.ps.length ∧ (recvsM m g l k).2.length = k
 | 0 => ⟨rfl, rfl⟩
 | k + 1 => by
  obtain ⟨h1, h2⟩ := recvs_len m g l k
  simp only [recvsM, MkS.put, MkS.fresh, List.length_set, List.length_append, List.length_cons, List.length_nil, h1, h2, and_self]

/-- What letters may be. -/
def LtOk (n : Nat) (s : AS) (l : List Lt) (xs : List Ten) : Prop := xs.length = l.length ∧ ∀ k, k < l.length → (l.getD k lt0).frm < n ∧ (l.getD k lt0).to < n ∧ lookR (l.getD k lt0).reg (s.rg (l.getD k lt0).frm) = some (xs.getD k zeroT)
theorem RI.sends (h : RI nf gv n m E s) {l : List Lt} {xs : List Ten} (hl : LtOk n s l xs) (hb : ∀ f t g, s.bag f t g = none) : ∀ k, k ≤ l.length → E.length + k ≤ 65535 →
  ∃ E' s', RI nf gv n (sendsM m l k) E' s' ∧ E'.length = E.length + k ∧ s'.rg = s.rg ∧ ∀ f t g, s'.bag f t g = if m.tg ≤ g ∧ g < m.tg + k ∧ f = (l.getD (g - m.tg).toNat lt0).frm ∧ t = (l.getD (g - m.tg).toNat lt0).to then some (xs.getD (g - m.tg).toNat zeroT) else none
 | 0, _, _ => ⟨E, s, h, rfl, rfl, fun f t g => by rw [hb, if_neg (by omega)]⟩
 | k + 1, hk, hE => by
  obtain ⟨E', s', h1, h2, h3, h4⟩ := RI.sends h hl hb k (by omega) (by omega)
  obtain ⟨l1, l2, l3⟩ := hl.2 k (by omega)
  have htg := sends_tg m l k
  rw [← h3] at l3
  refine ⟨_, _, h1.send (by omega) l1 l2 l3, by simp [h2]; omega, h3, fun f t g => ?_⟩
  simp only [AS.snd, h4, htg]
  by_cases hg : g = m.tg + k
  ·subst hg
   have e : (m.tg + (k : Int) - m.tg).toNat = k := by omega
   rw [e]
   by_cases hft : f = (l.getD k lt0).frm ∧ t = (l.getD k lt0).to
   ·rw [if_pos ⟨hft.1, hft.2, rfl⟩, if_pos ⟨by omega, by omega, hft.1, hft.2⟩]
   ·rw [if_neg (fun hh => hft ⟨hh.1, hh.2.1⟩), if_neg (by omega), if_neg (fun hh => hft ⟨hh.2.2.1, hh.2.2.2⟩)]
  ·rw [if_neg (fun hh => hg hh.2.2)]
   by_cases hc : m.tg ≤ g ∧ g < m.tg + k ∧ f = (l.getD (g - m.tg).toNat lt0).frm ∧ t = (l.getD (g - m.tg).toNat lt0).to
   ·rw [if_pos hc, if_pos ⟨hc.1, by omega, hc.2.2⟩]
   ·rw [if_neg hc, if_neg (fun hh => hc ⟨hh.1, by omega, hh.2.2⟩)]
theorem RI.recvs {m0 : MkS} {E0 : List (Nat × Instr)} {s0 : AS} {l : List Lt} {xs : List Ten} {g0 : Int} (h : RI nf gv n m0 E0 s0) (hl : ∀ k, k < l.length → (l.getD k lt0).frm < n ∧ (l.getD k lt0).to < n) (hg0 : 0 ≤ g0)
  (hb : ∀ f t g, s0.bag f t g = if g0 ≤ g ∧ g < g0 + l.length ∧ f = (l.getD (g - g0).toNat lt0).frm ∧ t = (l.getD (g - g0).toNat lt0).to then some (xs.getD (g - g0).toNat zeroT) else none) : ∀ k, k ≤ l.length → E0.length + k ≤ 65535 →
  ∃ E' s', RI nf gv n (recvsM m0 g0 l k).1 E' s' ∧ E'.length = E0.length + k ∧ s0.Le s' ∧ (∀ j, j < k → lookR ((recvsM m0 g0 l k).2.getD j 0) (s'.rg (l.getD j lt0).to) = some (xs.getD j zeroT)) ∧
   ∀ f t g, s'.bag f t g = if g0 + k ≤ g ∧ g < g0 + l.length ∧ f = (l.getD (g - g0).toNat lt0).frm ∧ t = (l.getD (g - g0).toNat lt0).to then some (xs.getD (g - g0).toNat zeroT) else none
 | 0, _, _ => ⟨E0, s0, h, rfl, .refl _, fun j hj => absurd hj (by omega), fun f t g => by rw [hb]; simp⟩
 | k + 1, hk, hE => by
  obtain ⟨E', s', h1, h2, h3, h4, h5⟩ := RI.recvs h hl hg0 hb k (by omega) (by omega)
  obtain ⟨l1, l2⟩ := hl k (by omega)
  have e : (g0 + (k : Int) - g0).toNat = k := by omega
  have hbk : s'.bag (l.getD k lt0).frm (l.getD k lt0).to (g0 + k) = some (xs.getD k zeroT) := by
   rw [h5, e, if_pos ⟨by omega, by omega, rfl, rfl⟩]
  have hle : s'.Le ((s'.tak (l.getD k lt0).frm (l.getD k lt0).to (g0 + k)).wr (l.getD k lt0).to ((recvsM m0 g0 l k).1.rs.getD (l.getD k lt0).to 0) (xs.getD k zeroT)) := h1.rgLe l2 _ (fun _ => rfl)
  have hol := (recvs_len m0 g0 l k).2
  refine ⟨_, _, h1.recv (by omega) l2 l1 (by omega) hbk, by simp [h2]; omega, h3.trans hle, fun j hj => ?_, fun f t g => ?_⟩
  ·simp only [recvsM]
   by_cases hjk : j = k
   ·subst hjk
    have e1 : ((recvsM m0 g0 l j).2 ++ [(recvsM m0 g0 l j).1.rs.getD (l.getD j lt0).to 0]).getD j 0 = (recvsM m0 g0 l j).1.rs.getD (l.getD j lt0).to 0 := by
     simp [List.getD_eq_getElem?_getD, List.getElem?_append, hol]
    rw [e1]
    simp only [AS.wr, if_true]
    exact lookR_put_eq _ _ _
   ·have e1 : ((recvsM m0 g0 l k).2 ++ [(recvsM m0 g0 l k).1.rs.getD (l.getD k lt0).to 0]).getD j 0 = (recvsM m0 g0 l k).2.getD j 0 := by
     have : j < (recvsM m0 g0 l k).2.length := by omega
     simp [List.getD_eq_getElem?_getD, List.getElem?_append, this]
    rw [e1]
    exact hle _ _ _ (h4 j (by omega))
  ·simp only [AS.wr, AS.tak, h5]
   by_cases hg : g = g0 + k
   ·subst hg
    rw [e, if_neg (c := g0 + ((k + 1 : Nat) : Int) ≤ g0 + k ∧ _) (by omega)]
    by_cases hft : f = (l.getD k lt0).frm ∧ t = (l.getD k lt0).to
    ·rw [if_pos ⟨hft.1, hft.2, rfl⟩]
    ·rw [if_neg (fun hh => hft ⟨hh.1, hh.2.1⟩), if_neg (fun hh => hft ⟨hh.2.2.1, hh.2.2.2⟩)]
   ·rw [if_neg (fun hh => hg hh.2.2)]
    by_cases hc : g0 + k ≤ g ∧ g < g0 + l.length ∧ f = (l.getD (g - g0).toNat lt0).frm ∧ t = (l.getD (g - g0).toNat lt0).to
    ·rw [if_pos hc, if_pos ⟨by omega, hc.2⟩]
    ·rw [if_neg hc, if_neg (fun hh => hc ⟨by omega, hh.2⟩)]
/-- Letters that are sent and received. -/
theorem RI.deliver (h : RI nf gv n m E s) {l : List Lt} {xs : List Ten} (hl : LtOk n s l xs) (hb : ∀ f t g, s.bag f t g = none) (hE : E.length + 2 * l.length ≤ 65535) :
  ∃ E' s', RI nf gv n (delivM m l).1 E' s' ∧ E'.length = E.length + 2 * l.length ∧ s.Le s' ∧ (∀ f t g, s'.bag f t g = none) ∧ (delivM m l).2.length = l.length ∧ ∀ j, j < l.length → lookR ((delivM m l).2.getD j 0) (s'.rg (l.getD j lt0).to) = some (xs.getD j zeroT) := by
 obtain ⟨E1, s1, a1, a2, a3, a4⟩ := h.sends hl hb l.length (Nat.le_refl _) (by omega)
 obtain ⟨E2, s2, b1, b2, b3, b4, b5⟩ := RI.recvs a1 (fun k hk => ⟨(hl.2 k hk).1, (hl.2 k hk).2.1⟩) h.sm.t0 a4 l.length (Nat.le_refl _) (by omega)
 refine ⟨E2, s2, b1, by omega, fun d r t hh => b3 d r t (by rw [a3]; exact hh), fun f t g => ?_, (recvs_len _ _ _ _).2, b4⟩
 rw [b5, if_neg (by omega)]
end
end Go.Proofs.Ytfjbabacpnnjmaa.Av
