/- A logic of small values, and walks in it: The machine: one step. The machine: step. The machine: New. The machine: Step, Halted, Fair. -/
import Derived.Test.YtfjbabacpnnjmaaAv10
set_option linter.unusedVariables false
set_option linter.unusedSimpArgs false
set_option linter.deprecated false
namespace Go.Proofs.Ytfjbabacpnnjmaa.Av
open Go Go.Av
set_option maxRecDepth 20000
set_option maxHeartbeats 4000000

attribute [local go_sem] step_apply stepD_apply stepE_apply
attribute [local go_sem] aopq_mv aopq_pk aopq_al aopq_bx aopq_bd aopq_bs aopq_ld aopq_st aopq_nc aopq_bin aopq_un aopq_cv aopq_mi aopq_mf aopq_mm aopq_ms aopq_sc aopq_fa aopq_fl aopq_ia aopq_lk aopq_mu aopq_lm aopq_rg aopq_en aopq_ta aopq_ex aopq_ln aopq_ap aopq_mx aopq.eq_3 aop.eq_1 aop.eq_2 aop.eq_3 aop.eq_4 aop.eq_5 aop.eq_6 aop.eq_7 aop.eq_8 aop.eq_9 aop_bin atS_apply aop_un_not aop_un_neg aop.eq_14 aop.eq_15 aop.eq_16 aop.eq_17 aop.eq_18 aop_sc cutS_apply cutN_apply cutL_apply cutO_apply aop.eq_20 aop.eq_21 aop.eq_22 aop.eq_23 aop.eq_24 aop.eq_25 aop.eq_26 aop.eq_27 aop.eq_28 aop.eq_29 aop.eq_30 aop.eq_31 aop.eq_32 blk_push next_push blk_set next_set blk_kill next_kill frL_nil frL_cons Fits_nil Fits_cons Int.reduceBEq Int.reduceBNe Nat.sub_zero Option.map_some Option.map_none List.set_cons_succ true_or or_true false_or or_false Int.le_refl Int.cast_ofNat_Int decide_true decide_false List.cons_append fillA fillR rowsOf List.replicate_succ List.replicate_zero Nat.zero_mul getD_drop List.length_drop splice List.nil_append List.append_nil cond_true cond_false List.set_cons_zero List.length_set ev put_some put_none upd_apply abin asNat bounds row1 mk List.length_cons List.length_nil List.length_map List.drop_zero List.drop_succ_cons List.drop_nil List.getD_cons_zero List.getD_cons_succ Option.getD_none Option.getD_some List.take_succ_cons List.take_zero List.take_nil true_and and_true Int.toNat_natCast if_true if_false Nat.zero_add Nat.add_zero List.map_cons List.map_nil Nat.reduceEqDiff Nat.left_eq_add Nat.add_eq_left Nat.add_left_cancel_iff Nat.add_assoc Nat.reduceSub Nat.reduceAdd Nat.reduceLeDiff Nat.le_refl Nat.zero_le Nat.zero_lt_one Nat.lt_add_one Int.reduceLT Int.reduceLE Int.reduceToNat Nat.reduceLT Nat.reduceBEq Bool.false_eq_true Nat.reduceBNe ne_eq not_false_eq_true not_true_eq_false false_and and_false reduceIte Int.natCast_nonneg reduceCtorEq parts_agg parts_bool parts_int parts_str parts_lit parts_nils parts_sl parts_ptr Int.natCast_nonneg Int.natCast_nonneg beq_self_eq_true bne_self_eq_false Bool.true_and Bool.false_and Bool.and_true Bool.and_false Bool.true_or Bool.false_or Bool.or_true Bool.or_false Bool.not_true Bool.not_false
attribute [local go_sem] instr0 instr1 instr2 instr10 instr11 instr12 instrN instrA instr_len node0 node1 node2 node3 node4 node5 node6 nodeA node_len I ints progA progsA

def zeroT : Ten := ⟨[], []⟩
def getR (k : Int) (l : List (Int × Ten)) : Ten := match l.findIdx? (fun x => x.1 == k) with
 | some i => (l.getD i (0, zeroT)).2
 | none => zeroT
def putR (k : Int) (t : Ten) (l : List (Int × Ten)) : List (Int × Ten) := match l.findIdx? (fun x => x.1 == k) with
 | some i => l.set i (k, t)
 | none => l ++ [(k, t)]
def PM.fin (m : PM) (d : Nat) (i : Instr) (t : Ten) : PM :=
 { m with rg := if i.kind = 3 then m.rg else m.rg.set d (putR i.out t (m.rg.getD d [])), at_ := m.at_.set d (m.at_.getD d 0 + 1) }
/-- What an instruction brings ahead of its being written: none: a refusal; 'some none': nothing is there yet. -/
def PM.pre (nf : Node → List Ten → Option Ten) (m : PM) (d : Nat) (i : Instr) : Option (Option (PM × Ten)) :=
 if i.kind = 1 then (if 0 ≤ i.n then (m.gv.getD d [])[i.n.toNat]? else none).map fun t => some (m, t)
 else if i.kind = 2 then (if i.ins = [] then none else nf i.node (i.ins.map fun r => getR r (m.rg.getD d []))).map fun t => some (m, t)
 else if i.kind = 3 then (match i.ins with
  | [] => none
  | r :: _ => if 0 ≤ findI m.bag d i.dev i.tag then none else some (some ({ m with bag := m.bag ++ [⟨d, i.dev, i.tag, getR r (m.rg.getD d [])⟩], sent := m.sent + 1 }, zeroT)))
 else match findM m.bag i.dev d i.tag with
  | none => some none
  | some k => some (some ({ m with bag := m.bag.eraseIdx k }, (m.bag.getD k ⟨0, 0, 0, zeroT⟩).t))
/-- A step: none: a refusal. -/
def PM.step (nf : Node → List Ten → Option Ten) (m : PM) (d : Nat) : Option (Bool × PM) :=
 match (m.l.getD d [])[m.at_.getD d 0]? with
 | none => some (false, m)
 | some i => match m.pre nf d i with
  | none => none
  | some none => some (false, m)
  | some (some (m', t)) => some (true, m'.fin d i t)

theorem mfind_esT (k : Int) (l : List (Int × Ten)) : mfind [k] (esT l) = l.findIdx? (fun x => x.1 == k) := by
 induction l with
 | nil => rfl
 | cons x xs ih =>
  simp only [esT, List.map_cons, mfind] at ih ⊢
  rw [ih, List.findIdx?_cons]
  by_cases h : x.1 = k
  ·simp [h]
  ·simp [h]
theorem esT_get {l : List (Int × Ten)} {i : Nat} (h : i < l.length) : ((esT l).getD i ([], .undef)).2 = .agg (tenL (l.getD i (0, zeroT)).2) := by simp [esT, List.getD_eq_getElem?_getD, h]
theorem esT_set (l : List (Int × Ten)) (i : Nat) (k : Int) (t : Ten) : (esT l).set i ([k], .agg (tenL t)) = esT (l.set i (k, t)) := by simp [esT, List.map_set]
theorem esT_snoc (l : List (Int × Ten)) (k : Int) (t : Ten) : esT l ++ [([k], .agg (tenL t))] = esT (l ++ [(k, t)]) := by simp [esT]
section mc
variable {o : Nat → Option Nat} {σ : St} {b bR bA bW : Nat} {vB : AV} {mb : Nat → Nat} {m : PM}
theorem MC.lt' (h : MC o σ b bR bA bW vB mb m) {c x : Nat} (hx : o c = some x) : c < σ.next := h.lt _ (by rw [hx]; simp)
/-- The bag, and how many were sent, told anew. -/
theorem MC.setB (h : MC o σ b bR bA bW vB mb m) {s : St} {c' : Nat} {g : List Bg} {n : Int} (hc : σ.next ≤ c') (hcs : c' < s.next)
  (hb : s.blk b = some (.cells 7 [[progsA m.l, gvA m.gv, .sl bR 0 m.l.length, .sl bA 0 m.l.length, .sl c' 0 g.length, I n, .sl bW 0 m.l.length]]))
  (hc' : s.blk c' = some (.cells 5 (g.map bgL))) (hs : ∀ c, c < σ.next → o c ≠ some 4 → c ≠ b → s.blk c = σ.blk c) :
  MC (fun c => if c = c' then some 4 else o c) s b bR bA bW (.sl c' 0 g.length) mb { m with bag := g, sent := n } ∧ Grow o σ (fun c => if c = c' then some 4 else o c) s := by
 have frl : ∀ {c x}, o c = some x → x ≠ 4 → x ≠ 0 → s.blk c = σ.blk c := fun hx h2 h3 => hs _ (h.lt' hx) (by rw [hx]; simpa using h2) (by rintro rfl; rw [h.own0] at hx; cases hx; exact h3 rfl)
 have nc : ∀ {c x}, o c = some x → (if c = c' then some 4 else o c) = some x := fun hx => by rw [if_neg]; exact hx; have := h.lt' hx; omega
 refine ⟨⟨nc h.own0, nc h.ownR, nc h.ownA, nc h.ownW, fun c hcc => ?_, hb, ?_, ?_, ?_, fun d hd => ⟨nc (h.hM d hd).1, ?_⟩, .inr ⟨c', by rw [List.length_map], if_pos rfl, hc'⟩, h.lg, h.lr, h.la⟩, by omega, fun c hcc => by simp only; rw [if_neg (by omega)], fun c hcc ho => hs c hcc (by rw [ho]; simp) (by rintro rfl; rw [h.own0] at ho; cases ho)⟩
 ·by_cases hx : c = c'
  ·omega
  ·have hcc : (if c = c' then some 4 else o c) ≠ none := hcc
   rw [if_neg hx] at hcc; have := h.lt c hcc; omega
 ·rw [frl h.ownR (by decide) (by decide)]; exact h.hR
 ·rw [frl h.ownA (by decide) (by decide)]; exact h.hA
 ·rw [frl h.ownW (by decide) (by decide)]; exact h.hW
 ·rw [frl (h.hM d hd).1 (by omega) (by omega)]; exact (h.hM d hd).2
theorem Grow.ext {s : St} (hlt : ∀ c, o c ≠ none → c < σ.next) (hn : σ.next ≤ s.next) (hs : ∀ c, c < σ.next → s.blk c = σ.blk c) : Grow o σ o s := ⟨hn, fun _ _ => rfl, fun c hc _ => hs c hc⟩
theorem Grow.old {s : St} {o' : Nat → Option Nat} (h : Grow o σ o' s) (hlt : ∀ c, o c ≠ none → c < σ.next) {c : Nat} (hc : c < σ.next) (ho : o c = none) : s.blk c = σ.blk c := h.2.2 c hc ho
end mc
theorem retB2 {F : Fr} {σ σ0 : St} {n k : Nat} {v u : AV} {Q : AV → St → Prop} (h : F n = v) (hu : F k = u) (wf : σ0.Wf) (hs : ∀ b, b < σ0.next → σ.blk b = σ0.blk b) (hv : v.Lt σ0.next) (hv' : u.Lt σ0.next) (hq : Q (.tup [v, u]) σ0) : retQ σ0.next [.t n, .t k] Q .ret F σ :=
 ⟨[v, u], by simp [resOne, h, hu], .tup [v, u], σ0, .back rfl wf hs (lt_tup (by simp only [List.forall_mem_cons, List.not_mem_nil, false_imp_iff, implies_true, and_true]; exact ⟨hv, hv'⟩)), hq⟩

/-- Sizes that are small enough. -/
structure PM.Sz (m : PM) : Prop where
 sent0 : 0 ≤ m.sent
 sent1 : m.sent ≤ 2 ^ 20
 bag : m.bag.length ≤ 2 ^ 20
 len : ∀ d, (m.l.getD d []).length ≤ 2 ^ 20
 ins : ∀ d, ∀ i ∈ m.l.getD d [], i.ins.length ≤ 2 ^ 20
/-- What a node makes of tensors, the program does. -/
def NodeOk (nf : Node → List Ten → Option Ten) : Prop := ∀ n ts t, nf n ts = some t → ∀ σ, T Try.prog 129 [.agg (nodeL n), .lit 2 (ts.map tenL)] σ (.tup [.agg (tenL t), I 0]) σ

theorem gv_get' {gv : List (List Ten)} {i : Nat} (h : i < gv.length) : (gv.map fun ts => [AV.lit 2 (ts.map tenL)]).getD i [] = [.lit 2 ((gv.getD i []).map tenL)] := by simp [h]
theorem at_get {l : List Nat} {i : Nat} (h : i < l.length) : (l.map fun a => [I (a : Nat)]).getD i [] = [I (l.getD i 0 : Nat)] := by simp [h]
theorem mb_get {n : Nat} {mb : Nat → Nat} {i : Nat} (h : i < n) : ((List.range n).map fun d => [AV.map (mb d)]).getD i [] = [.map (mb i)] := by simp [h]
theorem progs_get2 {l : List (List Instr)} {i : Nat} (h : i < l.length) : (l.map fun p => [AV.lit 13 (p.map instrL)]).getD i [] = [.lit 13 ((l.getD i []).map instrL)] := by simp [h]
theorem set_map' (l : List Nat) (d a : Nat) : (l.map fun a => [I (a : Nat)]).set d [I (a : Nat)] = (l.set d a).map fun a => [I (a : Nat)] := by simp [List.map_set]

section mc
variable {o : Nat → Option Nat} {σ : St} {b bR bA bW : Nat} {vB : AV} {mb : Nat → Nat} {m : PM}
/-- Machine.step -/
theorem step1_spec {nf : Node → List Ten → Option Ten} (hnf : NodeOk nf) (h : MC o σ b bR bA bW vB mb m) (hz : m.Sz) (d : Nat) (hd : d < m.l.length) (i : Instr) (hi : (m.l.getD d [])[m.at_.getD d 0]? = some i) (r : Option (PM × Ten)) (hp : m.pre nf d i = some r) :
  TQ Try.prog 112 [.ptr b 0 0, I d] σ fun v s => (r = none ∧ v = .tup [.bool false, I 0] ∧ s = σ) ∨ ∃ m' t, r = some (m', t) ∧ v = .tup [.bool true, I 0] ∧ ∃ o' vB', MC o' s b bR bA bW vB' mb (m'.fin d i t) ∧ Grow o σ o' s := by
 refine in112 (by simp) fun wf hab => ?_
 clear hab
 have hb := h.hb
 have hlA := h.la
 have hlR := h.lr
 have hlG := h.lg
 have hbA := h.hA
 have hlt : ∀ {c x}, o c = some x → c < σ.next := fun hx => h.lt' hx
 have lb := hlt h.own0
 have lA := hlt h.ownA
 have lR := hlt h.ownR
 have e0 : (d : Int) < m.l.length := by omega
 have gp := progs_get2 hd
 have ga := at_get (show d < m.at_.length by omega)
 have hplen := hz.len d
 have hins := hz.ins d
 generalize hp0 : m.l.getD d [] = p at *
 generalize hat : m.at_.getD d 0 = a at *
 have hap : a < p.length := by
  rcases Nat.lt_or_ge a p.length with h | h
  ·exact h
  ·rw [List.getElem?_eq_none h] at hi; cases hi
 have hpi : p[a] = i := by rw [List.getElem?_eq_getElem hap] at hi; exact Option.some.inj hi
 have ea : (a : Int) < p.length := by omega
 have gi := prog_get hap
 rw [hpi] at gi
 have hii := hins i (by rw [← hpi]; exact List.getElem_mem hap)
 clear hins
 unfold c112
 refine .seq (.rg fun A hA K hK => ?_)
 simp (maxSteps := 1000000) only [go_sem, hA.nil, hA.go, hA.yes, hA.noT, hA.noF, hA.skp]
 refine hK _ _ ?_; clear hK K hA A
 refine .midK (fun L u => L = [(0, .ptr b 0 0), (1, I d), (6, .ptr σ.next 0 0)] ∧ u.next = σ.next + 1 ∧ u.blk σ.next = some (.cells 13 [instrL i]) ∧ Ext σ u) ?_ ?_
 ·refine .rdx fun A hA K hK => ?_
  have n1 : ¬ b = σ.next := by omega
  have n2 : ¬ bA = σ.next := by omega
  simp (maxSteps := 200000) only [go_sem, hA.nil, hA.pur, hA.go, hA.yes, hA.noT, hA.noF, hA.skp, pure_mv, eff_mv, pure_pk, eff_pk, pure_al, eff_al, pure_bx, eff_bx, pure_bd, eff_bd, pure_bs, eff_bs, pure_ld, eff_ld, pure_st, eff_st, pure_nc, eff_nc, pure_bin, eff_bin, pure_un, eff_un, pure_cv, eff_cv, pure_mi, eff_mi, pure_mf, eff_mf, pure_mm, eff_mm, pure_ms, eff_ms, pure_sc, eff_sc, pure_fa, eff_fa, pure_fl, eff_fl, pure_ia, eff_ia, pure_lk, eff_lk, pure_mu, eff_mu, pure_lm, eff_lm, pure_rg, eff_rg, pure_nx, eff_nx, pure_en, eff_en, pure_ta, eff_ta, pure_ex, eff_ex, pure_ln, eff_ln, pure_ap, eff_ap, pure_mx, eff_mx, pure_call, eff_call, pure_callv, eff_callv, chk_nil, chk_cons, again, List.contains_cons, List.contains_nil, hb, hbA, hlA, e0, hd, gp, ga, gi, ea, hap, n1, n2, List.length_map]
  refine hK _ _ ?_; clear hK K hA A
  refine ⟨_, ⟨rfl, by simp (maxSteps := 1000000) only [go_sem], by simp (maxSteps := 1000000) only [go_sem], ⟨by simp (maxSteps := 1000000) only [go_sem]; try omega, fun c hc => by simp (disch := omega) only [go_sem, if_neg]⟩⟩, by simp (maxSteps := 1000000) only [go_sem]⟩
 rintro L u ⟨rfl, hun, hu6, hux⟩
 refine .seq (.rg fun A hA K hK => ?_)
 simp (maxSteps := 1000000) only [go_sem, hA.nil, hA.go, hA.yes, hA.noT, hA.noF, hA.skp]
 refine hK _ _ ?_; clear hK K hA A
 refine .keep [(0, .ptr b 0 0), (1, I d), (6, .ptr σ.next 0 0), (7, .ptr (σ.next + 1) 0 0)] (by simp (maxSteps := 1000000) only [go_sem, hun]) ?_
 generalize hS : u.push (.cells 2 [[.lit 1 [], .lit 1 []]]) = s
 have hsn : s.next = σ.next + 2 := by subst hS; simp (maxSteps := 1000000) only [go_sem, hun]
 have hs6 : s.blk σ.next = some (.cells 13 [instrL i]) := by subst hS; rw [blk_push, if_neg (by omega)]; exact hu6
 have hs7 : s.blk (σ.next + 1) = some (.cells 2 [tenL zeroT]) := by subst hS; rw [blk_push, if_pos hun.symm]; rfl
 have hsx : Ext σ s := ⟨by omega, fun c hc => by subst hS; rw [blk_push, if_neg (by omega)]; exact hux.2 c hc⟩
 clear hS hux hu6 hun
 have h1 : MC o s b bR bA bW vB mb m := h.frame hsx.1 fun c hc => hsx.2 c (h.lt c hc)
 have g1 : Grow o σ o s := .ext h.lt hsx.1 hsx.2
 have f6 : o σ.next = none := by
  cases hh : o σ.next with
  | none => rfl
  | some x => have := h.lt' hh; omega
 have f7 : o (σ.next + 1) = none := by
  cases hh : o (σ.next + 1) with
  | none => rfl
  | some x => have := h.lt' hh; omega
 have w7 : ∀ {o' : Nat → Option Nat} {t : St} {vB' : AV} {m' : PM} (x : Ten), MC o' t b bR bA bW vB' mb m' → Grow o σ o' t → t.blk σ.next = some (.cells 13 [instrL i]) → o' (σ.next + 1) = none →
   MC o' (t.set (σ.next + 1) (.cells 2 [tenL x])) b bR bA bW vB' mb m' ∧ Grow o σ o' (t.set (σ.next + 1) (.cells 2 [tenL x])) ∧ (t.set (σ.next + 1) (.cells 2 [tenL x])).blk σ.next = some (.cells 13 [instrL i]) ∧ (t.set (σ.next + 1) (.cells 2 [tenL x])).blk (σ.next + 1) = some (.cells 2 [tenL x]) := by
  intro o' t vB' m' x k1 k2 k3 k4
  refine ⟨k1.frame (Nat.le_refl _) fun c hc => ?_, ⟨k2.1, k2.2.1, fun c hc ho => ?_⟩, ?_, ?_⟩
  ·rw [blk_set, if_neg]; rintro rfl; exact hc k4
  ·rw [blk_set, if_neg (by omega)]; exact k2.2.2 c hc ho
  ·rw [blk_set, if_neg (by omega)]; exact k3
  ·rw [blk_set, if_pos rfl]
 refine .midK (fun L t => ∃ m' x o' vB', r = some (m', x) ∧ L = [(0, .ptr b 0 0), (1, I d), (6, .ptr σ.next 0 0), (7, .ptr (σ.next + 1) 0 0)] ∧ MC o' t b bR bA bW vB' mb m' ∧ Grow o σ o' t ∧ t.blk σ.next = some (.cells 13 [instrL i]) ∧ t.blk (σ.next + 1) = some (.cells 2 [tenL x]) ∧
   o' σ.next = none ∧ o' (σ.next + 1) = none ∧ σ.next + 2 ≤ t.next ∧ m'.l = m.l ∧ m'.at_ = m.at_ ∧ m'.rg = m.rg) ?_ ?_
 ·have hb := h1.hb
  have hbA := h1.hA
  simp only [gvA] at hb
  have n6 : ¬ b = σ.next := by omega
  have n7 : ¬ b = σ.next + 1 := by omega
  refine .seq (.rg fun A hA K hK => ?_)
  simp (maxSteps := 1000000) only [go_sem, hA.nil, hA.go, hA.yes, hA.noT, hA.noF, hA.skp, hs6]
  refine hK _ _ ?_; clear hK K hA A
  refine .block ?_
  simp only [PM.pre] at hp
  by_cases hk1 : i.kind = 1
  ·rw [if_pos hk1] at hp
   have c1 : (i.kind == 1) = true := by simpa using hk1
   refine .seq (.rg fun A hA K hK => ?_)
   simp (maxSteps := 1000000) only [go_sem, hA.nil, hA.go, hA.yes, hA.noT, hA.noF, hA.skp, c1]
   refine hK _ _ ?_; clear hK K hA A
   refine .cond (t := true) (by simp (maxSteps := 1000000) only [go_sem]) (fun _ => ?_) (fun h => by cases h)
   have hgn : ∃ n t, i.n = ((n : Nat) : Int) ∧ n < (m.gv.getD d []).length ∧ (m.gv.getD d []).getD n zeroT = t ∧ r = some (m, t) := by
    by_cases hn0 : 0 ≤ i.n
    ·rw [if_pos hn0] at hp
     obtain ⟨n, hn⟩ := Int.eq_ofNat_of_zero_le hn0
     rw [hn, Int.toNat_natCast] at hp
     cases hx : (m.gv.getD d [])[n]? with
     | none => rw [hx] at hp; cases hp
     | some t =>
      rw [hx] at hp
      exact ⟨n, t, hn, (List.getElem?_eq_some_iff.1 hx).1, by rw [List.getD_eq_getElem?_getD, hx]; rfl, (Option.some.inj hp).symm⟩
    ·rw [if_neg hn0] at hp; cases hp
   obtain ⟨n, t, hn, hnl, ht, rfl⟩ := hgn
   have gg := gv_get' (show d < m.gv.length by omega)
   generalize m.gv.getD d [] = ts at gg hnl ht
   have e1 : ¬ (n : Int) ≥ ts.length := by omega
   have e2 : (n : Int) < ts.length := by omega
   have e3 : (d : Int) < m.gv.length := by omega
   have gt : (ts.map tenL).getD n [] = [.lit 1 (t.sh.map fun n => [I n]), .lit 1 (t.dt.map fun n => [I n])] := by
    have : (ts.map tenL).getD n [] = tenL (ts.getD n zeroT) := by simp [List.getD_eq_getElem?_getD, hnl]
    rw [this, ht]; rfl
   refine .seq (.seq (.rd fun A hA K hK => ?_))
   simp (maxSteps := 1000000) only [go_sem, hA.nil, hA.go, hA.yes, hA.noT, hA.noF, hA.skp, hs6, hb, gg, e0, instrL, hn, hlG]
   refine hK _ _ ?_; clear hK K hA A
   refine .cond (t := false) (by simp (maxSteps := 1000000) only [go_sem, e1]) (fun h => by cases h) (fun _ => .skip ?_)
   refine .rd fun A hA K hK => ?_
   simp (maxSteps := 1000000) only [go_sem, hA.nil, hA.go, hA.yes, hA.noT, hA.noF, hA.skp, hs6, hb, gg, e0, e2, instrL, hn, hlG, hs7, gt, hnl, tenL]
   refine hK _ _ ?_; clear hK K hA A
   obtain ⟨q1, q2, q3, q4⟩ := w7 t h1 g1 hs6 f7
   exact ⟨_, ⟨m, t, o, vB, rfl, rfl, q1, q2, q3, q4, f6, f7, by simp (maxSteps := 1000000) only [go_sem, hsn]; try omega, rfl, rfl, rfl⟩, by simp (maxSteps := 1000000) only [go_sem]⟩
  have c1 : (i.kind == 1) = false := by simpa using hk1
  rw [if_neg hk1] at hp
  refine .seq (.rg fun A hA K hK => ?_)
  simp (maxSteps := 1000000) only [go_sem, hA.nil, hA.go, hA.yes, hA.noT, hA.noF, hA.skp, c1]
  refine hK _ _ ?_; clear hK K hA A
  refine .cond (t := false) (by simp (maxSteps := 1000000) only [go_sem]) (fun h => by cases h) (fun _ => ?_)
  by_cases hk2 : i.kind = 2
  ·rw [if_pos hk2] at hp
   have c2 : (i.kind == 2) = true := by simpa using hk2
   refine .seq (.rg fun A hA K hK => ?_)
   simp (maxSteps := 1000000) only [go_sem, hA.nil, hA.go, hA.yes, hA.noT, hA.noF, hA.skp, c2]
   refine hK _ _ ?_; clear hK K hA A
   refine .cond (t := true) (by simp (maxSteps := 1000000) only [go_sem]) (fun _ => ?_) (fun h => by cases h)
   have hrr : ∃ t, i.ins ≠ [] ∧ nf i.node (i.ins.map fun r => getR r (m.rg.getD d [])) = some t ∧ r = some (m, t) := by
    by_cases hin : i.ins = []
    ·rw [if_pos hin] at hp; cases hp
    ·rw [if_neg hin] at hp
     cases hn : nf i.node (i.ins.map fun r => getR r (m.rg.getD d [])) with
     | none => rw [hn] at hp; cases hp
     | some t => rw [hn] at hp; exact ⟨t, hin, rfl, (Option.some.inj hp).symm⟩
   obtain ⟨t, hin, hnt, rfl⟩ := hrr
   have hbR := h1.hR
   have gm := mb_get (mb := mb) hd
   have hm := (h1.hM d hd).2
   have hln : (List.range m.l.length).length = m.l.length := List.length_range
   have lM : mb d < σ.next := h.lt' (h.hM d hd).1
   generalize m.rg.getD d [] = rs at hm hnt
   generalize hin2 : i.ins = ins at hii hin hnt
   refine .seq (.rg fun A hA K hK => ?_)
   simp (maxSteps := 1000000) only [go_sem, hA.nil, hA.go, hA.yes, hA.noT, hA.noF, hA.skp]
   refine hK _ _ ?_; clear hK K hA A
   refine .keep [(0, .ptr b 0 0), (1, I d), (6, .ptr σ.next 0 0), (7, .ptr (σ.next + 1) 0 0), (8, .nils)] (by simp (maxSteps := 1000000) only [go_sem]) ?_
   refine .midK (fun L u => ∃ c', L = [(0, .ptr b 0 0), (1, I d), (6, .ptr σ.next 0 0), (7, .ptr (σ.next + 1) 0 0), (8, .sl c' 0 ins.length)] ∧ s.next ≤ c' ∧ c' < u.next ∧ u.blk c' = some (.cells 2 ((ins.map fun r => getR r rs).map tenL)) ∧ s.next ≤ u.next ∧ ∀ c, c < s.next → u.blk c = s.blk c) ?_ ?_
   ·refine .seq (.rg fun A hA K hK => ?_)
    simp (maxSteps := 1000000) only [go_sem, hA.nil, hA.go, hA.yes, hA.noT, hA.noF, hA.skp, hs6, instrL, hin2]
    refine hK _ _ ?_; clear hK K hA A
    refine .rangeK (N := ins.length) (fun j L u => ∃ v, L = [(0, .ptr b 0 0), (1, I d), (6, .ptr σ.next 0 0), (7, .ptr (σ.next + 1) 0 0), (8, v), (95, ints ins), (96, I ins.length), (97, I j)] ∧ (j = 0 ∧ v = .nils ∨ ∃ c', v = .sl c' 0 j ∧ s.next ≤ c' ∧ c' < u.next ∧ u.blk c' = some (.cells 2 (((ins.take j).map fun r => getR r rs).map tenL))) ∧ s.next ≤ u.next ∧ ∀ c, c < s.next → u.blk c = s.blk c)
     (by simp only [most]; omega) ⟨_, ⟨.nils, rfl, .inl ⟨rfl, rfl⟩, Nat.le_refl _, fun _ _ => rfl⟩, by simp (maxSteps := 1000000) only [go_sem]; try rfl⟩ ?_ ?_ ?_
    ·rintro j L u ⟨v, rfl, _⟩
     exact ⟨by simp (maxSteps := 1000000) only [go_sem], by simp (maxSteps := 1000000) only [go_sem], rfl⟩
    ·rintro j L u hj ⟨v, rfl, hv, hun, hux⟩
     have e1 : (j : Int) < ins.length := by omega
     have gj := ints_get hj
     have hb2 := (hux b (by omega)).trans hb
     have hbR2 := (hux bR (by omega)).trans hbR
     have hm2 := (hux _ (by omega)).trans hm
     have htk : ins.take (j + 1) = ins.take j ++ [ins[j]] := List.take_succ_eq_append_getElem hj
     have hli : (List.take j ins).length = j := by rw [List.length_take]; omega
     generalize ins[j] = r0 at gj htk
     have hkA : kA none (.int .i64 r0) = some [r0] := rfl
     cases hf : rs.findIdx? (fun x => x.1 == r0) with
     | none =>
      have hgr : tenL (getR r0 rs) = [.lit 1 [], .lit 1 []] := by rw [getR, hf]; rfl
      have hmf := (mfind_esT r0 rs).trans hf
      refine .seq (.rg fun A hA K hK => ?_)
      simp (maxSteps := 1000000) only [go_sem, hA.nil, hA.go, hA.yes, hA.noT, hA.noF, hA.skp, e1, gj, hj]
      refine hK _ _ ?_; clear hK K hA A
      rcases hv with ⟨rfl, rfl⟩ | ⟨c', rfl, v1, v2, v3⟩
      ·refine .rg fun A hA K hK => ?_
       simp (maxSteps := 1000000) only [go_sem, hA.nil, hA.go, hA.yes, hA.noT, hA.noF, hA.skp, hb2, hbR2, gm, hm2, e0, hd, hln, hkA, hmf]
       refine ⟨by decide, by decide, ?_⟩
       refine hK _ _ ?_; clear hK K hA A
       refine ⟨by simp (maxSteps := 1000000) only [go_sem], _, ⟨.sl u.next 0 1, rfl, .inr ⟨u.next, rfl, hun, by simp (maxSteps := 1000000) only [go_sem]; try omega, by rw [htk]; simp (maxSteps := 1000000) only [go_sem, List.take_zero, List.map_append, hgr]⟩, by simp (maxSteps := 1000000) only [go_sem]; try omega, fun c hc => by rw [← hux c hc]; simp (disch := omega) only [go_sem, if_neg]⟩, by simp (maxSteps := 1000000) only [go_sem]; try rfl⟩
      ·have m1 : j + 1 ≤ most := by simp only [most]; omega
       have m2 : (j + 1) * 48 ≤ most := by simp only [most]; omega
       have m3 : min j ins.length = j := by omega
       have m4 : List.take j (((ins.take j).map fun r => getR r rs).map tenL) = ((ins.take j).map fun r => getR r rs).map tenL := List.take_of_length_le (by simp; omega)
       refine .rg fun A hA K hK => ?_
       simp (maxSteps := 1000000) only [go_sem, hA.nil, hA.go, hA.yes, hA.noT, hA.noF, hA.skp, hb2, hbR2, gm, hm2, e0, hd, hln, hkA, hmf, v3, m1, m2, m3, m4, hli, List.length_map, List.length_take]
       refine hK _ _ ?_; clear hK K hA A
       refine ⟨by simp (maxSteps := 1000000) only [go_sem], _, ⟨.sl u.next 0 (j + 1), rfl, .inr ⟨u.next, rfl, hun, by simp (maxSteps := 1000000) only [go_sem]; try omega, by rw [htk]; simp (maxSteps := 1000000) only [go_sem, List.map_append, hgr]⟩, by simp (maxSteps := 1000000) only [go_sem]; try omega, fun c hc => by rw [← hux c hc]; simp (disch := omega) only [go_sem, if_neg]⟩, by simp (maxSteps := 1000000) only [go_sem]; try rfl⟩
     | some k =>
      have hkl : k < rs.length := (List.findIdx?_eq_some_iff_getElem.1 hf).1
      have hget := esT_get hkl
      have hgr : tenL (getR r0 rs) = [ints (rs.getD k (0, zeroT)).2.sh, ints (rs.getD k (0, zeroT)).2.dt] := by rw [getR, hf]; rfl
      generalize (rs.getD k (0, zeroT)).2 = y at hget hgr
      have hmf := (mfind_esT r0 rs).trans hf
      refine .seq (.rg fun A hA K hK => ?_)
      simp (maxSteps := 1000000) only [go_sem, hA.nil, hA.go, hA.yes, hA.noT, hA.noF, hA.skp, e1, gj, hj]
      refine hK _ _ ?_; clear hK K hA A
      rcases hv with ⟨rfl, rfl⟩ | ⟨c', rfl, v1, v2, v3⟩
      ·refine .rg fun A hA K hK => ?_
       simp (maxSteps := 1000000) only [go_sem, hA.nil, hA.go, hA.yes, hA.noT, hA.noF, hA.skp, hb2, hbR2, gm, hm2, e0, hd, hln, hkA, hmf, hget, tenL]
       refine ⟨by decide, by decide, ?_⟩
       refine hK _ _ ?_; clear hK K hA A
       refine ⟨by simp (maxSteps := 1000000) only [go_sem], _, ⟨.sl u.next 0 1, rfl, .inr ⟨u.next, rfl, hun, by simp (maxSteps := 1000000) only [go_sem]; try omega, by rw [htk]; simp (maxSteps := 1000000) only [go_sem, List.take_zero, List.map_append, hgr]⟩, by simp (maxSteps := 1000000) only [go_sem]; try omega, fun c hc => by rw [← hux c hc]; simp (disch := omega) only [go_sem, if_neg]⟩, by simp (maxSteps := 1000000) only [go_sem]; try rfl⟩
      ·have m1 : j + 1 ≤ most := by simp only [most]; omega
       have m2 : (j + 1) * 48 ≤ most := by simp only [most]; omega
       have m3 : min j ins.length = j := by omega
       have m4 : List.take j (((ins.take j).map fun r => getR r rs).map tenL) = ((ins.take j).map fun r => getR r rs).map tenL := List.take_of_length_le (by simp; omega)
       refine .rg fun A hA K hK => ?_
       simp (maxSteps := 1000000) only [go_sem, hA.nil, hA.go, hA.yes, hA.noT, hA.noF, hA.skp, hb2, hbR2, gm, hm2, e0, hd, hln, hkA, hmf, hget, tenL, v3, m1, m2, m3, m4, hli, List.length_map, List.length_take]
       refine hK _ _ ?_; clear hK K hA A
       refine ⟨by simp (maxSteps := 1000000) only [go_sem], _, ⟨.sl u.next 0 (j + 1), rfl, .inr ⟨u.next, rfl, hun, by simp (maxSteps := 1000000) only [go_sem]; try omega, by rw [htk]; simp (maxSteps := 1000000) only [go_sem, List.map_append, hgr]⟩, by simp (maxSteps := 1000000) only [go_sem]; try omega, fun c hc => by rw [← hux c hc]; simp (disch := omega) only [go_sem, if_neg]⟩, by simp (maxSteps := 1000000) only [go_sem]; try rfl⟩
    ·rintro L u F ⟨v, rfl, hv, hun, hux⟩ hf
     simp (maxSteps := 1000000) only [go_sem] at hf
     have hil : 0 < ins.length := List.length_pos_iff.2 hin
     rcases hv with ⟨v0, rfl⟩ | ⟨c', rfl, v1, v2, v3⟩
     ·omega
     rw [List.take_length] at v3
     exact ⟨_, ⟨c', rfl, v1, v2, v3, hun, hux⟩, by simp (maxSteps := 1000000) only [go_sem, hf]⟩
   rintro L u ⟨c', rfl, v1, v2, v3, hun, hux⟩
   have hu6 := (hux _ (by omega)).trans hs6
   have hu7 := (hux _ (by omega)).trans hs7
   have hil : ins.length = ((ins.map fun r => getR r rs).map tenL).length := by simp
   refine .frz 8 (b := c') (n := ins.length) (by simp (maxSteps := 1000000) only [go_sem]) v3 hil ?_
   have n1 : ¬ σ.next = c' := by omega
   have n2 : ¬ σ.next + 1 = c' := by omega
   refine .seq (.rg fun A hA K hK => ?_)
   simp (maxSteps := 1000000) only [go_sem, hA.nil, hA.go, hA.yes, hA.noT, hA.noF, hA.skp, hu6, n1, instrL]
   refine aopq_call (hnf i.node _ t hnt _) (by simp (maxSteps := 1000000) only [go_sem, nodeL]) ?_
   try simp (maxSteps := 1000000) only [go_sem, hA.nil, hA.go, hA.yes, hA.noT, hA.noF, hA.skp, nodeL]
   try simp (maxSteps := 1000000) only [go_sem, hA.nil, hA.go, hA.yes, hA.noT, hA.noF, hA.skp, tenL]
   refine hK _ _ ?_; clear hK K hA A
   refine .seq (.seq (.rg fun A hA K hK => ?_))
   simp (maxSteps := 1000000) only [go_sem, hA.nil, hA.go, hA.yes, hA.noT, hA.noF, hA.skp]
   refine hK _ _ ?_; clear hK K hA A
   refine .cond (t := false) (by simp (maxSteps := 1000000) only [go_sem]) (fun h => by cases h) (fun _ => .skip ?_)
   have n3 : ¬ σ.next + 1 = u.next := by omega
   have n4 : ¬ c' = u.next := by omega
   refine .rg fun A hA K hK => ?_
   simp (maxSteps := 1000000) only [go_sem, hA.nil, hA.go, hA.yes, hA.noT, hA.noF, hA.skp, hu7, n2, n3]
   refine hK _ _ ?_; clear hK K hA A
   have hfr : ∀ c, c < s.next → (((u.kill c').push (.cells 2 [[.lit 1 [], .lit 1 []]])).set u.next (.cells 2 [tenL t])).blk c = s.blk c := fun c hc => by
    rw [← hux c hc]; simp (disch := omega) only [go_sem, if_neg]
   have hM : MC o (((u.kill c').push (.cells 2 [[.lit 1 [], .lit 1 []]])).set u.next (.cells 2 [tenL t])) b bR bA bW vB mb m := h1.frame (by simp (maxSteps := 1000000) only [go_sem]; omega) fun c hc => hfr c (h1.lt c hc)
   have hG : Grow o σ o (((u.kill c').push (.cells 2 [[.lit 1 [], .lit 1 []]])).set u.next (.cells 2 [tenL t])) := g1.trans (.ext h1.lt (by simp (maxSteps := 1000000) only [go_sem]; omega) hfr)
   obtain ⟨q1, q2, q3, q4⟩ := w7 t hM hG ((hfr _ (by omega)).trans hs6) f7
   exact ⟨_, ⟨m, t, o, vB, rfl, rfl, q1, q2, q3, q4, f6, f7, by simp (maxSteps := 1000000) only [go_sem]; omega, rfl, rfl, rfl⟩, by simp (maxSteps := 1000000) only [go_sem]⟩
  have c2 : (i.kind == 2) = false := by simpa using hk2
  rw [if_neg hk2] at hp
  refine .seq (.rg fun A hA K hK => ?_)
  simp (maxSteps := 1000000) only [go_sem, hA.nil, hA.go, hA.yes, hA.noT, hA.noF, hA.skp, c2]
  refine hK _ _ ?_; clear hK K hA A
  refine .cond (t := false) (by simp (maxSteps := 1000000) only [go_sem]) (fun h => by cases h) (fun _ => ?_)
  by_cases hk3 : i.kind = 3
  ·rw [if_pos hk3] at hp
   have c3 : (i.kind == 3) = true := by simpa using hk3
   refine .seq (.rg fun A hA K hK => ?_)
   simp (maxSteps := 1000000) only [go_sem, hA.nil, hA.go, hA.yes, hA.noT, hA.noF, hA.skp, c3]
   refine hK _ _ ?_; clear hK K hA A
   refine .cond (t := true) (by simp (maxSteps := 1000000) only [go_sem]) (fun _ => ?_) (fun h => by cases h)
   have hrr : ∃ r0 rest, i.ins = r0 :: rest ∧ ¬ 0 ≤ findI m.bag d i.dev i.tag ∧ r = some ({ m with bag := m.bag ++ [⟨d, i.dev, i.tag, getR r0 (m.rg.getD d [])⟩], sent := m.sent + 1 }, zeroT) := by
    cases hin : i.ins with
    | nil => rw [hin] at hp; cases hp
    | cons r0 rest =>
     rw [hin] at hp
     by_cases h0 : 0 ≤ findI m.bag d i.dev i.tag
     ·simp only [if_pos h0] at hp; cases hp
     ·simp only [if_neg h0] at hp; exact ⟨r0, rest, rfl, h0, (Option.some.inj hp).symm⟩
   obtain ⟨r0, rest, hin, h0, rfl⟩ := hrr
   have hfs := find_spec h1 (by have := hz.bag; simp only [most]; omega) d i.dev i.tag
   have hzb := hz.bag
   have hs0 := hz.sent0
   have hs1 := hz.sent1
   have hbR := h1.hR
   have gm := mb_get (mb := mb) hd
   have hm := (h1.hM d hd).2
   have hln : (List.range m.l.length).length = m.l.length := List.length_range
   have hkA : kA none (.int .i64 r0) = some [r0] := rfl
   have h0' : ¬ findI m.bag d i.dev i.tag ≥ 0 := h0
   have eb : ∀ {x : Nat}, o x ≠ none → x < σ.next := fun hx => h.lt _ hx
   have z0 : ¬ b = s.next := by omega
   have z2 : ¬ b = s.next + 1 := by omega
   have y0 : ¬ σ.next = s.next := by omega
   have y1 : ¬ bR = s.next := by omega
   have lM : mb d < σ.next := h.lt' (h.hM d hd).1
   have y2 : ¬ mb d = s.next := by omega
   refine .seq (.seq (.rg fun A hA K hK => ?_))
   simp (maxSteps := 1000000) only [go_sem, hA.nil, hA.go, hA.yes, hA.noT, hA.noF, hA.skp, hs6, instrL]
   refine aopq_call (hfs) (by simp (maxSteps := 1000000) only [go_sem]) ?_
   try simp (maxSteps := 1000000) only [go_sem, hA.nil, hA.go, hA.yes, hA.noT, hA.noF, hA.skp]
   refine hK _ _ ?_; clear hK K hA A
   refine .cond (t := false) (by simp (maxSteps := 1000000) only [go_sem, h0']) (fun h => by cases h) (fun _ => .skip ?_)
   generalize hx : (⟨d, i.dev, i.tag, getR r0 (m.rg.getD d [])⟩ : Bg) = x
   refine .midK (fun L u => L = [(0, .ptr b 0 0), (1, I d), (6, .ptr σ.next 0 0), (7, .ptr (σ.next + 1) 0 0)] ∧ ∃ c', s.next ≤ c' ∧ c' < u.next ∧ u.blk b = some (.cells 7 [[progsA m.l, gvA m.gv, .sl bR 0 m.l.length, .sl bA 0 m.l.length, .sl c' 0 (m.bag ++ [x]).length, I m.sent, .sl bW 0 m.l.length]]) ∧
    u.blk c' = some (.cells 5 ((m.bag ++ [x]).map bgL)) ∧ s.next ≤ u.next ∧ ∀ c, c < s.next → o c ≠ some 4 → c ≠ b → u.blk c = s.blk c) ?_ ?_
   ·have e8 : (0 : Int) < ((rest.length + 1 : Nat) : Int) := by omega
    rcases h1.hB with ⟨q1, q2⟩ | ⟨c, q1, q2, q3⟩
    ·have hb0 : m.bag = [] := by simpa using q2
     rw [q1] at hb
     generalize m.rg.getD d [] = rs at hm hx
     cases hf : rs.findIdx? (fun x => x.1 == r0) with
     | none =>
      have hx2 : bgL x = [I d, I i.dev, I i.tag, .lit 1 [], .lit 1 []] := by rw [← hx, getR, hf]; rfl
      have hmf := (mfind_esT r0 rs).trans hf
      refine .rdx fun A hA K hK => ?_
      simp (maxSteps := 200000) only [go_sem, hA.nil, hA.pur, hA.go, hA.yes, hA.noT, hA.noF, hA.skp, pure_mv, eff_mv, pure_pk, eff_pk, pure_al, eff_al, pure_bx, eff_bx, pure_bd, eff_bd, pure_bs, eff_bs, pure_ld, eff_ld, pure_st, eff_st, pure_nc, eff_nc, pure_bin, eff_bin, pure_un, eff_un, pure_cv, eff_cv, pure_mi, eff_mi, pure_mf, eff_mf, pure_mm, eff_mm, pure_ms, eff_ms, pure_sc, eff_sc, pure_fa, eff_fa, pure_fl, eff_fl, pure_ia, eff_ia, pure_lk, eff_lk, pure_mu, eff_mu, pure_lm, eff_lm, pure_rg, eff_rg, pure_nx, eff_nx, pure_en, eff_en, pure_ta, eff_ta, pure_ex, eff_ex, pure_ln, eff_ln, pure_ap, eff_ap, pure_mx, eff_mx, pure_call, eff_call, pure_callv, eff_callv, chk_nil, chk_cons, again, List.contains_cons, List.contains_nil, hs6, instrL, hin, hb, hbR, gm, hm, e0, hd, hln, hkA, hmf, z0, z2, y0, y1, y2, e8]
      refine ⟨by decide, by decide, ?_⟩
      refine hK _ _ ?_; clear hK K hA A
      refine ⟨_, ⟨rfl, s.next + 1, by omega, by simp (maxSteps := 1000000) only [go_sem]; try omega, by simp (maxSteps := 1000000) only [go_sem, gvA, hb0, List.nil_append], by simp (maxSteps := 1000000) only [go_sem, hb0, hx2, List.map_append, show ¬ s.next + 1 = b by omega], by simp (maxSteps := 1000000) only [go_sem]; try omega, fun c2 j1 j2 j3 => ?_⟩, by simp (maxSteps := 1000000) only [go_sem]⟩
      ·simp (disch := omega) only [go_sem, if_neg]
     | some k =>
      have hkl : k < rs.length := (List.findIdx?_eq_some_iff_getElem.1 hf).1
      have hget := esT_get hkl
      have hx2 : bgL x = [I d, I i.dev, I i.tag, ints (rs.getD k (0, zeroT)).2.sh, ints (rs.getD k (0, zeroT)).2.dt] := by rw [← hx, getR, hf]; rfl
      generalize (rs.getD k (0, zeroT)).2 = y at hget hx2
      have hmf := (mfind_esT r0 rs).trans hf
      refine .rdx fun A hA K hK => ?_
      simp (maxSteps := 200000) only [go_sem, hA.nil, hA.pur, hA.go, hA.yes, hA.noT, hA.noF, hA.skp, pure_mv, eff_mv, pure_pk, eff_pk, pure_al, eff_al, pure_bx, eff_bx, pure_bd, eff_bd, pure_bs, eff_bs, pure_ld, eff_ld, pure_st, eff_st, pure_nc, eff_nc, pure_bin, eff_bin, pure_un, eff_un, pure_cv, eff_cv, pure_mi, eff_mi, pure_mf, eff_mf, pure_mm, eff_mm, pure_ms, eff_ms, pure_sc, eff_sc, pure_fa, eff_fa, pure_fl, eff_fl, pure_ia, eff_ia, pure_lk, eff_lk, pure_mu, eff_mu, pure_lm, eff_lm, pure_rg, eff_rg, pure_nx, eff_nx, pure_en, eff_en, pure_ta, eff_ta, pure_ex, eff_ex, pure_ln, eff_ln, pure_ap, eff_ap, pure_mx, eff_mx, pure_call, eff_call, pure_callv, eff_callv, chk_nil, chk_cons, again, List.contains_cons, List.contains_nil, hs6, instrL, hin, hb, hbR, gm, hm, e0, hd, hln, hkA, hmf, z0, z2, y0, y1, y2, e8, hget, tenL]
      refine ⟨by decide, by decide, ?_⟩
      refine hK _ _ ?_; clear hK K hA A
      refine ⟨_, ⟨rfl, s.next + 1, by omega, by simp (maxSteps := 1000000) only [go_sem]; try omega, by simp (maxSteps := 1000000) only [go_sem, gvA, hb0, List.nil_append], by simp (maxSteps := 1000000) only [go_sem, hb0, hx2, List.map_append, show ¬ s.next + 1 = b by omega], by simp (maxSteps := 1000000) only [go_sem]; try omega, fun c2 j1 j2 j3 => ?_⟩, by simp (maxSteps := 1000000) only [go_sem]⟩
      ·simp (disch := omega) only [go_sem, if_neg]
    ·rw [List.length_map] at q1
     rw [q1] at hb
     have ncb := ne_lab q2 h1.own0 (by decide)
     have nbc : ¬ b = c := fun e => ncb e.symm
     have ltc : c < σ.next := by have := h.lt' q2; exact this
     have z1 : ¬ c = s.next := by omega
     have z3 : ¬ c = s.next + 1 := by omega
     have t1 : m.bag.length ≤ most := by simp only [most]; omega
     have t2 : m.bag.length * 72 ≤ most := by simp only [most]; omega
     have t3 : m.bag.length + 1 ≤ most := by simp only [most]; omega
     have t4 : (m.bag.length + 1) * 72 ≤ most := by simp only [most]; omega
     have tk : List.take m.bag.length (List.map bgL m.bag) = List.map bgL m.bag := List.take_of_length_le (by simp)
     generalize m.rg.getD d [] = rs at hm hx
     cases hf : rs.findIdx? (fun x => x.1 == r0) with
     | none =>
      have hx2 : bgL x = [I d, I i.dev, I i.tag, .lit 1 [], .lit 1 []] := by rw [← hx, getR, hf]; rfl
      have hmf := (mfind_esT r0 rs).trans hf
      refine .rdx fun A hA K hK => ?_
      simp (maxSteps := 200000) only [go_sem, hA.nil, hA.pur, hA.go, hA.yes, hA.noT, hA.noF, hA.skp, pure_mv, eff_mv, pure_pk, eff_pk, pure_al, eff_al, pure_bx, eff_bx, pure_bd, eff_bd, pure_bs, eff_bs, pure_ld, eff_ld, pure_st, eff_st, pure_nc, eff_nc, pure_bin, eff_bin, pure_un, eff_un, pure_cv, eff_cv, pure_mi, eff_mi, pure_mf, eff_mf, pure_mm, eff_mm, pure_ms, eff_ms, pure_sc, eff_sc, pure_fa, eff_fa, pure_fl, eff_fl, pure_ia, eff_ia, pure_lk, eff_lk, pure_mu, eff_mu, pure_lm, eff_lm, pure_rg, eff_rg, pure_nx, eff_nx, pure_en, eff_en, pure_ta, eff_ta, pure_ex, eff_ex, pure_ln, eff_ln, pure_ap, eff_ap, pure_mx, eff_mx, pure_call, eff_call, pure_callv, eff_callv, chk_nil, chk_cons, again, List.contains_cons, List.contains_nil, hs6, instrL, hin, hb, hbR, gm, hm, e0, hd, hln, hkA, hmf, z0, z2, y0, y1, y2, e8, q3, ncb, nbc, z1, z3, t1, t2, t3, t4, tk, List.length_map]
      refine hK _ _ ?_; clear hK K hA A
      refine ⟨_, ⟨rfl, s.next + 1, by omega, by simp (maxSteps := 1000000) only [go_sem]; try omega, by simp (maxSteps := 1000000) only [go_sem, gvA, List.length_append], by simp (maxSteps := 1000000) only [go_sem, hx2, List.map_append, show ¬ s.next + 1 = b by omega], by simp (maxSteps := 1000000) only [go_sem]; try omega, fun c2 j1 j2 j3 => ?_⟩, by simp (maxSteps := 1000000) only [go_sem]⟩
      ·have q : ¬ c2 = c := by rintro rfl; exact j2 q2
       simp (disch := omega) only [go_sem, if_neg]
     | some k =>
      have hkl : k < rs.length := (List.findIdx?_eq_some_iff_getElem.1 hf).1
      have hget := esT_get hkl
      have hx2 : bgL x = [I d, I i.dev, I i.tag, ints (rs.getD k (0, zeroT)).2.sh, ints (rs.getD k (0, zeroT)).2.dt] := by rw [← hx, getR, hf]; rfl
      generalize (rs.getD k (0, zeroT)).2 = y at hget hx2
      have hmf := (mfind_esT r0 rs).trans hf
      refine .rdx fun A hA K hK => ?_
      simp (maxSteps := 200000) only [go_sem, hA.nil, hA.pur, hA.go, hA.yes, hA.noT, hA.noF, hA.skp, pure_mv, eff_mv, pure_pk, eff_pk, pure_al, eff_al, pure_bx, eff_bx, pure_bd, eff_bd, pure_bs, eff_bs, pure_ld, eff_ld, pure_st, eff_st, pure_nc, eff_nc, pure_bin, eff_bin, pure_un, eff_un, pure_cv, eff_cv, pure_mi, eff_mi, pure_mf, eff_mf, pure_mm, eff_mm, pure_ms, eff_ms, pure_sc, eff_sc, pure_fa, eff_fa, pure_fl, eff_fl, pure_ia, eff_ia, pure_lk, eff_lk, pure_mu, eff_mu, pure_lm, eff_lm, pure_rg, eff_rg, pure_nx, eff_nx, pure_en, eff_en, pure_ta, eff_ta, pure_ex, eff_ex, pure_ln, eff_ln, pure_ap, eff_ap, pure_mx, eff_mx, pure_call, eff_call, pure_callv, eff_callv, chk_nil, chk_cons, again, List.contains_cons, List.contains_nil, hs6, instrL, hin, hb, hbR, gm, hm, e0, hd, hln, hkA, hmf, z0, z2, y0, y1, y2, e8, hget, tenL, q3, ncb, nbc, z1, z3, t1, t2, t3, t4, tk, List.length_map]
      refine hK _ _ ?_; clear hK K hA A
      refine ⟨_, ⟨rfl, s.next + 1, by omega, by simp (maxSteps := 1000000) only [go_sem]; try omega, by simp (maxSteps := 1000000) only [go_sem, gvA, List.length_append], by simp (maxSteps := 1000000) only [go_sem, hx2, List.map_append, show ¬ s.next + 1 = b by omega], by simp (maxSteps := 1000000) only [go_sem]; try omega, fun c2 j1 j2 j3 => ?_⟩, by simp (maxSteps := 1000000) only [go_sem]⟩
      ·have q : ¬ c2 = c := by rintro rfl; exact j2 q2
       simp (disch := omega) only [go_sem, if_neg]
   rintro L u ⟨rfl, c', w1, w2, w3, w4, w5, w6⟩
   have ws : IntKind.i64.wrap (m.sent + 1) = m.sent + 1 := IntWalk.i64_in _ (by omega)
   have nbc : ¬ c' = b := by omega
   refine .rg fun A hA K hK => ?_
   simp (maxSteps := 1000000) only [go_sem, hA.nil, hA.go, hA.yes, hA.noT, hA.noF, hA.skp, w3, ws]
   refine hK _ _ ?_; clear hK K hA A
   have h2 := h1.setB (s := u.set b (.cells 7 [[progsA m.l, gvA m.gv, .sl bR 0 m.l.length, .sl bA 0 m.l.length, .sl c' 0 (m.bag ++ [x]).length, I (m.sent + 1), .sl bW 0 m.l.length]])) (c' := c') (g := m.bag ++ [x]) (n := m.sent + 1) w1 (by rw [next_set]; exact w2) (by rw [blk_set, if_pos rfl]) (by rw [blk_set, if_neg nbc]; exact w4)
    (fun c j1 j2 j3 => by rw [blk_set, if_neg j3]; exact w6 c j1 j2 j3)
   refine ⟨_, ⟨_, zeroT, _, _, rfl, rfl, h2.1, g1.trans h2.2, ?_, ?_, ?_, ?_, by simp (maxSteps := 1000000) only [go_sem]; try omega, rfl, rfl, rfl⟩, by simp (maxSteps := 1000000) only [go_sem]⟩
   ·exact (h2.2.2.2 _ (by omega) f6).trans hs6
   ·exact (h2.2.2.2 _ (by omega) f7).trans hs7
   ·rw [if_neg (by omega)]; exact f6
   ·rw [if_neg (by omega)]; exact f7
  have c3 : (i.kind == 3) = false := by simpa using hk3
  rw [if_neg hk3] at hp
  refine .seq (.rg fun A hA K hK => ?_)
  simp (maxSteps := 1000000) only [go_sem, hA.nil, hA.go, hA.yes, hA.noT, hA.noF, hA.skp, c3]
  refine hK _ _ ?_; clear hK K hA A
  refine .cond (t := false) (by simp (maxSteps := 1000000) only [go_sem]) (fun h => by cases h) (fun _ => ?_)
  have hfs := find_spec h1 (by have := hz.bag; simp only [most]; omega) i.dev d i.tag
  refine .seq (.rg fun A hA K hK => ?_)
  simp (maxSteps := 1000000) only [go_sem, hA.nil, hA.go, hA.yes, hA.noT, hA.noF, hA.skp, hs6, instrL]
  refine aopq_call (hfs) (by simp (maxSteps := 1000000) only [go_sem]) ?_
  try simp (maxSteps := 1000000) only [go_sem, hA.nil, hA.go, hA.yes, hA.noT, hA.noF, hA.skp]
  refine hK _ _ ?_; clear hK K hA A
  cases hfm : findM m.bag i.dev d i.tag with
  | none =>
   rw [hfm] at hp
   have hfi : findI m.bag i.dev d i.tag = -1 := by rw [findI, hfm]
   rw [hfi]
   refine .seq (.seq (.rg fun A hA K hK => ?_))
   simp (maxSteps := 1000000) only [go_sem, hA.nil, hA.go, hA.yes, hA.noT, hA.noF, hA.skp]
   refine hK _ _ ?_; clear hK K hA A
   refine .cond (t := true) (by simp (maxSteps := 1000000) only [go_sem]; try rfl) (fun _ => ?_) (fun h => by cases h)
   refine .seq (.rg fun A hA K hK => ?_)
   simp (maxSteps := 1000000) only [go_sem, hA.nil, hA.go, hA.yes, hA.noT, hA.noF, hA.skp]
   refine hK _ _ ?_; clear hK K hA A
   exact .ret (retB2 (by simp (maxSteps := 1000000) only [go_sem]) (by simp (maxSteps := 1000000) only [go_sem]) wf hsx.2 (.bool _) (.int _ _) (.inl ⟨(Option.some.inj hp).symm, rfl, rfl⟩))
  | some k =>
   rw [hfm] at hp
   have hfi : findI m.bag i.dev d i.tag = k := by rw [findI, hfm]
   rw [hfi]
   have hk : k < m.bag.length := by
    have := hfm
    rw [findM, List.findIdx?_eq_some_iff_getElem] at this
    exact this.1
   have hrr := (Option.some.inj hp).symm
   have hzb := hz.bag
   have e4 : ¬ (k : Int) < 0 := by omega
   refine .seq (.seq (.rg fun A hA K hK => ?_))
   simp (maxSteps := 1000000) only [go_sem, hA.nil, hA.go, hA.yes, hA.noT, hA.noF, hA.skp]
   refine hK _ _ ?_; clear hK K hA A
   refine .cond (t := false) (by simp (maxSteps := 1000000) only [go_sem, e4]) (fun h => by cases h) (fun _ => .skip ?_)
   have e5 : (k : Int) < m.bag.length := by omega
   rcases h1.hB with ⟨q1, q2⟩ | ⟨c, q1, q2, q3⟩
   ·have : m.bag = [] := by simpa using q2
    rw [this] at hk; simp at hk
   rw [List.length_map] at q1
   rw [q1] at hb
   have gk : (m.bag.map bgL).getD k [] = bgL (m.bag.getD k ⟨0, 0, 0, zeroT⟩) := by simp [List.getD_eq_getElem?_getD, hk]
   generalize hx : m.bag.getD k ⟨0, 0, 0, zeroT⟩ = x at gk hrr
   have ncb := ne_lab q2 h1.own0 (by decide)
   have nbc : ¬ b = c := fun e => ncb e.symm
   have ltc : c < σ.next := by have := h.lt' q2; exact this
   have n8 : ¬ c = σ.next := by omega
   have n9 : ¬ c = σ.next + 1 := by omega
   obtain ⟨p1, p2, p3, p4⟩ := w7 x.t h1 g1 hs6 f7
   have hsn2 : (s.set (σ.next + 1) (.cells 2 [tenL x.t])).next = σ.next + 2 := by simp (maxSteps := 1000000) only [go_sem, hsn]
   have hbc2 : (s.set (σ.next + 1) (.cells 2 [tenL x.t])).blk c = some (.cells 5 (m.bag.map bgL)) := by rw [blk_set, if_neg (by omega)]; exact q3
   have hbb2 := p1.hb
   rw [q1] at hbb2
   simp only [gvA] at hbb2
   refine .midK (fun L u => L = [(0, .ptr b 0 0), (1, I d), (6, .ptr σ.next 0 0), (7, .ptr (σ.next + 1) 0 0), (13, I k)] ∧ u = s.set (σ.next + 1) (.cells 2 [tenL x.t])) ?_ ?_
   ·refine .rg fun A hA K hK => ?_
    simp (maxSteps := 1000000) only [go_sem, hA.nil, hA.go, hA.yes, hA.noT, hA.noF, hA.skp, hb, q3, gk, bgL, e5, hk, hs7]
    refine hK _ _ ?_; clear hK K hA A
    exact ⟨_, ⟨rfl, rfl⟩, by simp (maxSteps := 1000000) only [go_sem]⟩
   rintro L s2 ⟨rfl, hu⟩
   rw [← hu] at hsn2 hbc2 hbb2 p1 p2 p3 p4
   clear hu
   refine .rdx fun A hA K hK => ?_
   have m0 : (k : Int) ≤ m.bag.length := by omega
   have m1 : k ≤ most := by simp only [most]; omega
   have w1 : IntKind.i64.wrap ((k : Int) + 1) = ((k + 1 : Nat) : Int) := IntWalk.i64_in _ (by omega)
   have m2 : ((k + 1 : Nat) : Int) ≤ m.bag.length := by omega
   have m3 : k ≤ m.bag.length := by omega
   have m4 : k + (1 + (m.bag.length - (k + 1))) ≤ m.bag.length := by omega
   have m5 : k * 72 ≤ most := by simp only [most]; omega
   have m6 : min k m.bag.length = k := by omega
   have z0 : ¬ b = s2.next := by omega
   have z1 : ¬ c = s2.next := by omega
   have z2 : ¬ b = s2.next + 1 := by omega
   have z3 : ¬ c = s2.next + 1 := by omega
   simp (maxSteps := 200000) only [go_sem, hA.nil, hA.pur, hA.go, hA.yes, hA.noT, hA.noF, hA.skp, pure_mv, eff_mv, pure_pk, eff_pk, pure_al, eff_al, pure_bx, eff_bx, pure_bd, eff_bd, pure_bs, eff_bs, pure_ld, eff_ld, pure_st, eff_st, pure_nc, eff_nc, pure_bin, eff_bin, pure_un, eff_un, pure_cv, eff_cv, pure_mi, eff_mi, pure_mf, eff_mf, pure_mm, eff_mm, pure_ms, eff_ms, pure_sc, eff_sc, pure_fa, eff_fa, pure_fl, eff_fl, pure_ia, eff_ia, pure_lk, eff_lk, pure_mu, eff_mu, pure_lm, eff_lm, pure_rg, eff_rg, pure_nx, eff_nx, pure_en, eff_en, pure_ta, eff_ta, pure_ex, eff_ex, pure_ln, eff_ln, pure_ap, eff_ap, pure_mx, eff_mx, pure_call, eff_call, pure_callv, eff_callv, chk_nil, chk_cons, again, List.contains_cons, List.contains_nil, hbb2, hbc2, z0, z1, z2, z3, ncb, nbc, w1, m0, m1, m2, m3, m4, m5, m6, List.length_map, List.length_take, Int.natCast_nonneg]
   refine ⟨by simp only [most, List.length_take, List.length_drop, List.length_map]; omega, by simp only [most, List.length_take, List.length_drop, List.length_map]; omega, ?_⟩
   refine hK _ _ ?_; clear hK K hA A
   have hel : (m.bag.eraseIdx k).length = m.bag.length - 1 := by rw [List.length_eraseIdx, if_pos hk]
   have hle : k + min (m.bag.length - (k + 1)) (m.bag.length - (k + 1)) = (m.bag.eraseIdx k).length := by omega
   have hrows : List.take k (List.take k (List.map bgL m.bag)) ++ List.take (m.bag.length - (k + 1)) (List.drop (k + 1) (List.map bgL m.bag)) = (m.bag.eraseIdx k).map bgL := by
    rw [List.eraseIdx_eq_take_drop_succ, List.map_append, List.map_take, List.map_drop, List.take_take, Nat.min_self]
    congr 1
    exact List.take_of_length_le (by simp)
   rw [hle, hrows]
   have h2 := p1.setB (s := ((((s2.push (.cells 5 (List.take k (List.map bgL m.bag)))).kill s2.next).push (.cells 5 ((m.bag.eraseIdx k).map bgL))).set b
    (.cells 7 [[progsA m.l, gvA m.gv, .sl bR 0 m.l.length, .sl bA 0 m.l.length, .sl (s2.next + 1) 0 (m.bag.eraseIdx k).length, I m.sent, .sl bW 0 m.l.length]]))) (c' := s2.next + 1) (g := m.bag.eraseIdx k) (n := m.sent) (by omega) (by simp (maxSteps := 1000000) only [go_sem]; try omega) (by simp (maxSteps := 1000000) only [go_sem]) (by simp (maxSteps := 1000000) only [go_sem, show ¬ s2.next + 1 = b by omega]) (fun c2 h1 h2 h3 => by
     have q : ¬ c2 = c := by rintro rfl; exact h2 (by assumption)
     simp (disch := omega) only [go_sem, if_neg])
   refine ⟨_, ⟨_, x.t, _, _, hrr, rfl, h2.1, p2.trans h2.2, ?_, ?_, ?_, ?_, by simp (maxSteps := 1000000) only [go_sem]; try omega, rfl, rfl, rfl⟩, by simp (maxSteps := 1000000) only [go_sem]⟩
   ·exact (h2.2.2.2 _ (by omega) f6).trans p3
   ·exact (h2.2.2.2 _ (by omega) f7).trans p4
   ·rw [if_neg (by omega)]; exact f6
   ·rw [if_neg (by omega)]; exact f7
 clear h1 g1 hs6 hs7 hsx f6 f7 hb hlA hlR hlG hbA lb lA lR ga gp gi
 rintro L t ⟨m', x, o', vB', rfl, rfl, h1, g1, h6, h7, f6, f7, htn, em, ea', er⟩
 rw [← em] at hd e0
 have hlR := h1.lr
 have hlA := h1.la
 have lt1 : ∀ {c x}, o' c = some x → c < t.next := fun hx => h1.lt' hx
 refine .midK (fun L u => L = [(0, .ptr b 0 0), (1, I d)] ∧ MC o' u b bR bA bW vB' mb { m' with rg := if i.kind = 3 then m'.rg else m'.rg.set d (putR i.out x (m'.rg.getD d [])) } ∧ Grow o σ o' u) ?_ ?_
 ·refine .seq (.rg fun A hA K hK => ?_)
  simp (maxSteps := 1000000) only [go_sem, hA.nil, hA.go, hA.yes, hA.noT, hA.noF, hA.skp, h6, instrL]
  refine hK _ _ ?_; clear hK K hA A
  by_cases hk3 : i.kind = 3
  ·have c3 : (i.kind != 3) = false := by simpa using hk3
   refine .cond (t := false) (by simp (maxSteps := 1000000) only [go_sem, c3]) (fun h => by cases h) (fun _ => .skip ?_)
   rw [if_pos hk3]
   exact ⟨_, ⟨rfl, h1, g1⟩, by simp (maxSteps := 1000000) only [go_sem]⟩
  ·have c3 : (i.kind != 3) = true := by simpa using hk3
   refine .cond (t := true) (by simp (maxSteps := 1000000) only [go_sem, c3]) (fun _ => ?_) (fun h => by cases h)
   rw [if_neg hk3]
   have hb := h1.hb
   have hbR := h1.hR
   have gm := mb_get (mb := mb) hd
   have hm := (h1.hM d hd).2
   obtain ⟨q1, q2⟩ := h1.setReg hd (putR i.out x (m'.rg.getD d []))
   generalize m'.rg.getD d [] = rs at hm q1 q2 ⊢
   have hkA : kA none (.int .i64 i.out) = some [i.out] := rfl
   have hln : (List.range m'.l.length).length = m'.l.length := List.length_range
   cases hf : rs.findIdx? (fun x => x.1 == i.out) with
   | none =>
    have hpu : putR i.out x rs = rs ++ [(i.out, x)] := by rw [putR, hf]
    rw [hpu] at q1 q2 ⊢
    rw [← esT_snoc] at q1 q2
    have hmf := (mfind_esT i.out rs).trans hf
    refine .rd fun A hA K hK => ?_
    simp (maxSteps := 1000000) only [go_sem, hA.nil, hA.go, hA.yes, hA.noT, hA.noF, hA.skp, h6, instrL, hb, hbR, gm, hm, e0, hd, hln, h7, hkA, hmf, tenL]
    refine hK _ _ ?_; clear hK K hA A
    exact ⟨_, ⟨rfl, q1, g1.trans q2⟩, by simp (maxSteps := 1000000) only [go_sem]⟩
   | some k =>
    have hpu : putR i.out x rs = rs.set k (i.out, x) := by rw [putR, hf]
    rw [hpu] at q1 q2 ⊢
    rw [← esT_set] at q1 q2
    have hmf := (mfind_esT i.out rs).trans hf
    refine .rd fun A hA K hK => ?_
    simp (maxSteps := 1000000) only [go_sem, hA.nil, hA.go, hA.yes, hA.noT, hA.noF, hA.skp, h6, instrL, hb, hbR, gm, hm, e0, hd, hln, h7, hkA, hmf, tenL]
    refine hK _ _ ?_; clear hK K hA A
    exact ⟨_, ⟨rfl, q1, g1.trans q2⟩, by simp (maxSteps := 1000000) only [go_sem]⟩
 rintro L u ⟨rfl, h2, g2⟩
 have hb := h2.hb
 have hbA := h2.hA
 have ga := at_get (show d < m'.at_.length by omega)
 have hat2 : m'.at_.getD d 0 = a := by rw [ea']; exact hat
 rw [hat2] at ga
 have w1 : IntKind.i64.wrap ((a : Int) + 1) = ((a + 1 : Nat) : Int) := IntWalk.i64_in _ (by omega)
 have hda : d < m'.at_.length := by omega
 obtain ⟨q1, q2⟩ := h2.setAt (m'.at_.set d (a + 1)) (by simpa using hlA)
 rw [← set_map'] at q1 q2
 refine .seq (.rg fun A hA K hK => ?_)
 simp (maxSteps := 1000000) only [go_sem, hA.nil, hA.go, hA.yes, hA.noT, hA.noF, hA.skp, hb, hbA, ga, e0, hd, w1, hda]
 refine hK _ _ ?_; clear hK K hA A
 refine .seq (.rg fun A hA K hK => ?_)
 simp (maxSteps := 1000000) only [go_sem, hA.nil, hA.go, hA.yes, hA.noT, hA.noF, hA.skp]
 refine hK _ _ ?_; clear hK K hA A
 refine .ret (retS2 (by simp (maxSteps := 1000000) only [go_sem]; try rfl) (by simp (maxSteps := 1000000) only [go_sem]; try rfl) (.inr ⟨m', x, rfl, rfl, o', vB', ?_, g2.trans q2⟩))
 rw [PM.fin, hat2]
 exact q1
end mc
def rightT (s d : List Int) : Bool := rightS s && ((d.length : Int) == sizeE s)
/-- parquetryref1.Tensor -/
theorem refTensor_spec (s d : List Int) (σ : St) : T Try.prog 92 [.agg [ints s, ints d]] σ (.bool (rightT s d)) σ := by
 refine in92 (by simp) fun wf hab => ?_
 clear hab
 unfold c92
 refine .midK (fun L u => L = [(1, .ptr σ.next 0 0)] ∧ u.blk σ.next = some (.cells 2 [[ints s, ints d]]) ∧ Ext σ u) ?_ ?_
 ·refine .rg fun A hA K hK => ?_
  simp (maxSteps := 1000000) only [go_sem, hA.nil, hA.go, hA.yes, hA.noT, hA.noF, hA.skp]
  refine hK _ _ ?_; clear hK K hA A
  exact ⟨_, ⟨rfl, by simp (maxSteps := 1000000) only [go_sem], ⟨by simp (maxSteps := 1000000) only [go_sem]; try omega, fun b hb => by simp (disch := omega) only [go_sem, if_neg]⟩⟩, by simp (maxSteps := 1000000) only [go_sem]⟩
 rintro L u ⟨rfl, h1, hx⟩
 by_cases hr : rightS s = true
 ·refine .seq (.rd fun A hA K hK => ?_)
  simp (maxSteps := 1000000) only [go_sem, hA.nil, hA.go, hA.yes, hA.noT, hA.noF, hA.skp, h1]
  refine aopq_call (right1_spec s u) (by simp (maxSteps := 1000000) only [go_sem, h1, hr]) ?_
  try simp (maxSteps := 1000000) only [go_sem, hA.nil, hA.go, hA.yes, hA.noT, hA.noF, hA.skp, h1, hr]
  refine aopq_call (size_spec s u) (by simp (maxSteps := 1000000) only [go_sem, h1, hr]) ?_
  try simp (maxSteps := 1000000) only [go_sem, hA.nil, hA.go, hA.yes, hA.noT, hA.noF, hA.skp, h1, hr]
  refine hK _ _ ?_; clear hK K hA A
  exact .ret (retB (by simp (maxSteps := 1000000) only [go_sem, rightT, hr]) wf hx.2 (.bool _) ⟨rfl, rfl⟩)
 ·have hr : rightS s = false := by simpa using hr
  refine .seq (.rd fun A hA K hK => ?_)
  simp (maxSteps := 1000000) only [go_sem, hA.nil, hA.go, hA.yes, hA.noT, hA.noF, hA.skp, h1]
  refine aopq_call (right1_spec s u) (by simp (maxSteps := 1000000) only [go_sem, h1, hr]) ?_
  try simp (maxSteps := 1000000) only [go_sem, hA.nil, hA.go, hA.yes, hA.noT, hA.noF, hA.skp, h1, hr]
  refine hK _ _ ?_; clear hK K hA A
  exact .ret (retB (by simp (maxSteps := 1000000) only [go_sem, rightT, hr]) wf hx.2 (.bool _) ⟨rfl, rfl⟩)
theorem gvl_get {gv : List (List Ten)} {i : Nat} (h : i < gv.length) : (gv.map fun ts => [AV.lit 2 (ts.map tenL)]).getD i [] = [.lit 2 (gv[i].map tenL)] := by simp [h]
theorem tenl_get {ts : List Ten} {i : Nat} (h : i < ts.length) : (ts.map tenL).getD i [] = tenL ts[i] := by simp [h]
theorem parts_map (b : Nat) : (AV.map b).parts = true := rfl

/-- What a new machine's memory is. -/
structure MN (σ s : St) (l : List (List Instr)) (gv : List (List Ten)) (b bA bW : Nat) (n : Nat) (vR : AV) (mb : Nat → Nat) : Prop where
 b1 : b = σ.next + 2
 ab : bA = σ.next ∧ bW = σ.next + 1 ∨ bA = σ.next + 1 ∧ bW = σ.next
 nx : σ.next + 3 ≤ s.next
 hb : s.blk b = some (.cells 7 [[progsA l, gvA gv, vR, .sl bA 0 l.length, .nils, I 0, .sl bW 0 l.length]])
 hA : s.blk bA = some (.cells 1 (List.replicate l.length [I 0]))
 hW : s.blk bW = some (.cells 1 (List.replicate l.length [I 0]))
 vr : n = 0 ∧ vR = .nils ∨ ∃ c, vR = .sl c 0 n ∧ σ.next + 3 ≤ c ∧ c < s.next ∧ s.blk c = some (.cells 1 ((List.range n).map fun d => [.map (mb d)])) ∧ ∀ d, d < n → mb d ≠ c
 hm : ∀ d, d < n → σ.next + 3 ≤ mb d ∧ mb d < s.next ∧ s.blk (mb d) = some (.map none [])
 ne : ∀ d e, d < e → e < n → mb d ≠ mb e
 old : ∀ c, c < σ.next → s.blk c = σ.blk c

theorem MN.grow {σ t s : St} {l : List (List Instr)} {gv : List (List Ten)} {b bA bW i : Nat} {vR : AV} {mb : Nat → Nat} (h : MN σ t l gv b bA bW i vR mb) (hn : s.next = t.next + 2)
  (hb : s.blk b = some (.cells 7 [[progsA l, gvA gv, .sl (t.next + 1) 0 (i + 1), .sl bA 0 l.length, .nils, I 0, .sl bW 0 l.length]])) (hm : s.blk t.next = some (.map none []))
  (hc : s.blk (t.next + 1) = some (.cells 1 (((List.range i).map fun d => [AV.map (mb d)]) ++ [[.map t.next]]))) (hs : ∀ c, c < t.next → c ≠ b → (∀ n, vR ≠ .sl c 0 n) → s.blk c = t.blk c) :
  MN σ s l gv b bA bW (i + 1) (.sl (t.next + 1) 0 (i + 1)) (fun d => if d = i then t.next else mb d) := by
 have h1 := h.nx
 have hb1 := h.b1
 have hab := h.ab
 have hv : ∀ c, c < σ.next + 3 → ∀ n, vR ≠ .sl c 0 n := fun c hc n e => by
  rcases h.vr with ⟨_, rfl⟩ | ⟨c', rfl, q, _⟩
  ·cases e
  ·cases e; omega
 have hmv : ∀ d, d < i → ∀ n, vR ≠ .sl (mb d) 0 n := fun d hd n e => by
  rcases h.vr with ⟨_, rfl⟩ | ⟨c', rfl, _, _, _, q⟩
  ·cases e
  ·cases e; exact q d hd rfl
 refine ⟨h.b1, h.ab, by omega, hb, ?_, ?_, .inr ⟨t.next + 1, rfl, by omega, by omega, ?_, fun d hd => ?_⟩, fun d hd => ?_, fun d e hde he => ?_, fun c hc => ?_⟩
 ·rw [hs bA (by omega) (by omega) (hv _ (by omega))]; exact h.hA
 ·rw [hs bW (by omega) (by omega) (hv _ (by omega))]; exact h.hW
 ·rw [hc, List.range_succ, List.map_append]
  congr 3
  ·refine List.map_congr_left fun d hd => ?_
   rw [if_neg (by have := List.mem_range.1 hd; omega)]
  ·simp
 ·by_cases e : d = i
  ·rw [if_pos e]; omega
  ·rw [if_neg e]; have := (h.hm d (by omega)).2.1; omega
 ·by_cases e : d = i
  ·rw [if_pos e]; exact ⟨by omega, by omega, hm⟩
  ·rw [if_neg e]
   obtain ⟨q1, q2, q3⟩ := h.hm d (by omega)
   exact ⟨q1, by omega, by rw [hs _ q2 (by omega) (hmv d (by omega))]; exact q3⟩
 ·rw [if_neg (by omega)]
  have := (h.hm d (by omega)).2.1
  by_cases e' : e = i
  ·rw [if_pos e']; omega
  ·rw [if_neg e']; exact h.ne d e hde (by omega)
 ·rw [hs c (by omega) (by omega) (hv _ (by omega))]; exact h.old c hc

theorem find_mb {n : Nat} {mb : Nat → Nat} (h : ∀ d e, d < e → e < n → mb d ≠ mb e) {d : Nat} (hd : d < n) : (List.range n).find? (fun e => mb e == mb d) = some d := by
 rw [List.find?_range_eq_some]
 refine ⟨by simp, List.mem_range.2 hd, fun j hj => ?_⟩
 simpa using h j d hj hd
/-- A new machine. -/
theorem MN.mc {σ s : St} {l : List (List Instr)} {gv : List (List Ten)} {b bA bW : Nat} {vR : AV} {mb : Nat → Nat} (h : MN σ s l gv b bA bW l.length vR mb) (hlen : gv.length = l.length) (h1 : 1 ≤ l.length) :
  ∃ o bR, MC o s b bR bA bW .nils mb ⟨l, gv, List.replicate l.length [], List.replicate l.length 0, [], 0⟩ ∧ ∀ c, o c ≠ none → σ.next ≤ c := by
 have hb1 := h.b1
 have hab := h.ab
 have hnx := h.nx
 rcases h.vr with ⟨q, _⟩ | ⟨bR, rfl, r1, r2, r3, r4⟩
 ·omega
 have hfm : ∀ d, d < l.length → (List.range l.length).find? (fun e => mb e == mb d) = some d := fun d hd => find_mb h.ne hd
 have hlab : ∀ c, (List.range l.length).find? (fun e => mb e == c) ≠ none → σ.next + 3 ≤ c ∧ c < s.next ∧ c ≠ bR := by
  intro c hc
  obtain ⟨d, hd⟩ := Option.ne_none_iff_exists'.1 hc
  have h2 := List.mem_range.1 (List.mem_of_find?_eq_some hd)
  have h3 : mb d = c := by simpa using List.find?_some hd
  obtain ⟨q1, q2, _⟩ := h.hm d h2
  have := r4 d h2
  exact ⟨by omega, by omega, by rw [← h3]; exact this⟩
 refine ⟨fun c => if c = b then some 0 else if c = bR then some 1 else if c = bA then some 2 else if c = bW then some 3 else ((List.range l.length).find? (fun e => mb e == c)).map (5 + ·), bR, ⟨by simp, ?_, ?_, ?_, fun c hc => ?_, h.hb, r3, ?_, h.hW, fun d hd => ⟨?_, ?_⟩, .inl ⟨rfl, rfl⟩, hlen, by simp, by simp⟩, fun c hc => ?_⟩
 ·simp only; rw [if_neg (by omega), if_pos trivial]
 ·simp only; rw [if_neg (by omega), if_neg (by omega), if_pos trivial]
 ·simp only; rw [if_neg (by omega), if_neg (by omega), if_neg (by omega), if_pos trivial]
 ·by_cases e1 : c = b; · omega
  by_cases e2 : c = bR; · omega
  by_cases e3 : c = bA; · omega
  by_cases e4 : c = bW; · omega
  simp only [if_neg e1, if_neg e2, if_neg e3, if_neg e4, ne_eq, Option.map_eq_none_iff] at hc
  exact (hlab c hc).2.1
 ·rw [h.hA]; simp
 ·obtain ⟨q1, q2, _⟩ := h.hm d hd
  have := r4 d hd
  rw [if_neg (by omega), if_neg this, if_neg (by omega), if_neg (by omega), hfm d hd]; rfl
 ·rw [(h.hm d hd).2.2]
  simp [esT, List.getD_eq_getElem?_getD, hd]
 ·by_cases e1 : c = b; · omega
  by_cases e2 : c = bR; · omega
  by_cases e3 : c = bA; · omega
  by_cases e4 : c = bW; · omega
  simp only [if_neg e1, if_neg e2, if_neg e3, if_neg e4, ne_eq, Option.map_eq_none_iff] at hc
  have := (hlab c hc).1; omega

/-- parquetryref20.New -/
theorem mnew_spec (l : List (List Instr)) (gv : List (List Ten)) (hr : rightE l = 0) (h1 : 1 ≤ l.length) (h9 : l.length ≤ 900) (hlen : gv.length = l.length) (ht : ∀ ts ∈ gv, ∀ t ∈ ts, rightT t.sh t.dt = true) (σ : St) :
  TQ Try.prog 82 [progsA l, gvA gv] σ fun v s => ∃ o b bR bA bW mb, v = .tup [.ptr b 0 0, I 0] ∧ MC o s b bR bA bW .nils mb ⟨l, gv, List.replicate l.length [], List.replicate l.length 0, [], 0⟩ ∧ σ.next ≤ s.next ∧ (∀ c, o c ≠ none → σ.next ≤ c) ∧ ∀ c, c < σ.next → s.blk c = σ.blk c := by
 refine in82 (by simp) fun wf hab => ?_
 obtain ⟨hl, hps⟩ := hab_progs (hab 0 (by simp))
 have hgl : gv.length ≤ most := by simpa [gvA] using (hab 1 (by simp)).lit.1
 have hgs : ∀ i, (h : i < gv.length) → gv[i].length ≤ most := fun i h => by
  have := (hab 1 (by simp)).lit.2.2 i 0 (by simpa [gvA] using h) (by simp [gvA, h])
  rw [gvl_get h] at this
  simpa using this.lit.1
 clear hab
 have hrt := refRight_spec l σ
 rw [hr] at hrt
 unfold c82
 refine .seq (.rg fun A hA K hK => ?_)
 simp (maxSteps := 1000000) only [go_sem, hA.nil, hA.go, hA.yes, hA.noT, hA.noF, hA.skp, gvA]
 refine hK _ _ ?_; clear hK K hA A
 refine .keep [(0, progsA l), (1, gvA gv)] (by simp (maxSteps := 1000000) only [go_sem, gvA]) ?_
 refine .seq (.seq (.rg fun A hA K hK => ?_))
 simp (maxSteps := 1000000) only [go_sem, hA.nil, hA.go, hA.yes, hA.noT, hA.noF, hA.skp]
 refine aopq_call (hrt) (by simp (maxSteps := 1000000) only [go_sem]) ?_
 try simp (maxSteps := 1000000) only [go_sem, hA.nil, hA.go, hA.yes, hA.noT, hA.noF, hA.skp]
 refine hK _ _ ?_; clear hK K hA A
 refine .seq (.rg fun A hA K hK => ?_)
 simp (maxSteps := 1000000) only [go_sem, hA.nil, hA.go, hA.yes, hA.noT, hA.noF, hA.skp]
 refine hK _ _ ?_; clear hK K hA A
 refine .cond (t := false) (by simp (maxSteps := 1000000) only [go_sem]) (fun h => by cases h) (fun _ => .skip ?_)
 have c1 : ((l.length : Int) != l.length) = false := by simp
 refine .seq (.seq (.rg fun A hA K hK => ?_))
 simp (maxSteps := 1000000) only [go_sem, hA.nil, hA.go, hA.yes, hA.noT, hA.noF, hA.skp, gvA, hlen]
 refine hK _ _ ?_; clear hK K hA A
 refine .cond (t := false) (by simp (maxSteps := 1000000) only [go_sem, c1]) (fun h => by cases h) (fun _ => .skip ?_)
 refine .keep [(0, progsA l), (1, gvA gv)] (by simp (maxSteps := 1000000) only [go_sem, gvA]) ?_
 -- each tensor is right
 refine .midK (fun L u => L = [(0, progsA l), (1, gvA gv)] ∧ Ext σ u) ?_ ?_
 ·refine .seq (.rg fun A hA K hK => ?_)
  simp (maxSteps := 1000000) only [go_sem, hA.nil, hA.go, hA.yes, hA.noT, hA.noF, hA.skp, gvA, hlen]
  refine hK _ _ ?_; clear hK K hA A
  refine .rangeK (N := gv.length) (fun i L u => L = [(0, progsA l), (1, gvA gv), (22, I gv.length), (23, I i)] ∧ Ext σ u) hgl ⟨_, ⟨rfl, .refl σ⟩, by simp (maxSteps := 1000000) only [go_sem, gvA, hlen]; try rfl⟩ ?_ ?_ ?_
  ·rintro i L u ⟨rfl, _⟩
   exact ⟨by simp (maxSteps := 1000000) only [go_sem], by simp (maxSteps := 1000000) only [go_sem], rfl⟩
  ·rintro i L u hi ⟨rfl, hx⟩
   have e0 : (i : Int) < gv.length := by omega
   have hg := gvl_get hi
   have hts := ht _ (List.getElem_mem hi)
   have hgi := hgs i hi
   generalize gv[i] = ts at hg hts hgi
   refine .seq (.rg fun A hA K hK => ?_)
   simp (maxSteps := 1000000) only [go_sem, hA.nil, hA.go, hA.yes, hA.noT, hA.noF, hA.skp]
   refine hK _ _ ?_; clear hK K hA A
   refine .seq (.rg fun A hA K hK => ?_)
   simp (maxSteps := 1000000) only [go_sem, hA.nil, hA.go, hA.yes, hA.noT, hA.noF, hA.skp, gvA, e0, hg, hi]
   refine hK _ _ ?_; clear hK K hA A
   refine .rangeK (N := ts.length) (fun j L u => L = [(0, progsA l), (1, gvA gv), (22, I gv.length), (23, I i), (29, .lit 2 (ts.map tenL)), (30, I ts.length), (31, I j)] ∧ Ext σ u) hgi ⟨_, ⟨rfl, hx⟩, by simp (maxSteps := 1000000) only [go_sem, gvA]; try rfl⟩ ?_ ?_ ?_
   ·rintro j L u ⟨rfl, _⟩
    exact ⟨by simp (maxSteps := 1000000) only [go_sem], by simp (maxSteps := 1000000) only [go_sem], rfl⟩
   ·rintro j L u hj ⟨rfl, hx⟩
    have e1 : (j : Int) < ts.length := by omega
    have hgt := tenl_get hj
    have htt := hts _ (List.getElem_mem hj)
    generalize ts[j] = t at hgt htt
    have hx1 := hx.1
    have hgt2 : (ts.map tenL).getD j [] = [ints t.sh, ints t.dt] := hgt
    refine .midK (fun L v => L = [(0, progsA l), (1, gvA gv), (9, .ptr u.next 0 0), (22, I gv.length), (23, I i), (29, .lit 2 (ts.map tenL)), (30, I ts.length), (31, I j)] ∧ v.blk u.next = some (.cells 2 [[ints t.sh, ints t.dt]]) ∧ Ext σ v) ?_ ?_
    ·refine .rg fun A hA K hK => ?_
     simp (maxSteps := 1000000) only [go_sem, hA.nil, hA.go, hA.yes, hA.noT, hA.noF, hA.skp, e1, hgt2, hj, gvA]
     refine hK _ _ ?_; clear hK K hA A
     exact ⟨_, ⟨rfl, by simp (maxSteps := 1000000) only [go_sem], ⟨by simp (maxSteps := 1000000) only [go_sem]; try omega, fun c hc => by rw [← hx.2 c hc]; simp (disch := omega) only [go_sem, if_neg]⟩⟩, by simp (maxSteps := 1000000) only [go_sem, gvA]⟩
    rintro L v ⟨rfl, hv9, hvx⟩
    have htx := refTensor_spec t.sh t.dt v
    rw [htt] at htx
    refine .seq (.rg fun A hA K hK => ?_)
    simp (maxSteps := 1000000) only [go_sem, hA.nil, hA.go, hA.yes, hA.noT, hA.noF, hA.skp, hv9]
    refine aopq_call (htx) (by simp (maxSteps := 1000000) only [go_sem]) ?_
    try simp (maxSteps := 1000000) only [go_sem, hA.nil, hA.go, hA.yes, hA.noT, hA.noF, hA.skp]
    refine hK _ _ ?_; clear hK K hA A
    refine .cond (t := false) (by simp (maxSteps := 1000000) only [go_sem]) (fun h => by cases h) (fun _ => .skip ?_)
    exact ⟨by simp (maxSteps := 1000000) only [go_sem], _, ⟨rfl, hvx⟩, by simp (maxSteps := 1000000) only [go_sem, gvA]; try rfl⟩
   ·rintro L u F ⟨rfl, hx⟩ hf
    simp (maxSteps := 1000000) only [go_sem] at hf
    exact ⟨by simp (maxSteps := 1000000) only [go_sem, hf], _, ⟨rfl, hx⟩, by simp (maxSteps := 1000000) only [go_sem, hf]; try rfl⟩
  ·rintro L u F ⟨rfl, hx⟩ hf
   simp (maxSteps := 1000000) only [go_sem] at hf
   exact ⟨_, ⟨rfl, hx⟩, by simp (maxSteps := 1000000) only [go_sem, hf]⟩
 rintro L u ⟨rfl, hux⟩
 have hun := hux.1
 have m0 : (l.length : Int) ≤ most := by simp only [most]; omega
 have m1 : (l.length : Int) * 8 ≤ most := by simp only [most]; omega
 have w0 : ∀ {s : St} {bA bW : Nat}, (bA = u.next ∧ bW = u.next + 1 ∨ bA = u.next + 1 ∧ bW = u.next) → s.next = u.next + 3 → s.blk (u.next + 2) = some (.cells 7 [[progsA l, gvA gv, .nils, .sl bA 0 l.length, .nils, I 0, .sl bW 0 l.length]]) →
   s.blk bA = some (.cells 1 (List.replicate l.length [I 0])) → s.blk bW = some (.cells 1 (List.replicate l.length [I 0])) → (∀ c, c < u.next → s.blk c = u.blk c) → MN u s l gv (u.next + 2) bA bW 0 .nils (fun _ => 0) :=
  fun e1 e2 e3 e4 e5 e6 => ⟨rfl, e1, by omega, e3, e4, e5, .inl ⟨rfl, rfl⟩, fun d hd => absurd hd (by omega), fun d e _ h => absurd h (by omega), e6⟩
 refine .midK (fun L t => L = [(0, progsA l), (10, .ptr (u.next + 2) 0 0)] ∧ ∃ bA bW, MN u t l gv (u.next + 2) bA bW 0 .nils fun _ => 0) ?_ ?_
 ·refine .rdx2 (fun A hA K hK => ?_) (fun A hA K hK => ?_)
  ·simp (maxSteps := 200000) only [go_sem, hA.nil, hA.pur, hA.go, hA.yes, hA.noT, hA.noF, hA.skp, pure_mv, eff_mv, pure_pk, eff_pk, pure_al, eff_al, pure_bx, eff_bx, pure_bd, eff_bd, pure_bs, eff_bs, pure_ld, eff_ld, pure_st, eff_st, pure_nc, eff_nc, pure_bin, eff_bin, pure_un, eff_un, pure_cv, eff_cv, pure_mi, eff_mi, pure_mf, eff_mf, pure_mm, eff_mm, pure_ms, eff_ms, pure_sc, eff_sc, pure_fa, eff_fa, pure_fl, eff_fl, pure_ia, eff_ia, pure_lk, eff_lk, pure_mu, eff_mu, pure_lm, eff_lm, pure_rg, eff_rg, pure_nx, eff_nx, pure_en, eff_en, pure_ta, eff_ta, pure_ex, eff_ex, pure_ln, eff_ln, pure_ap, eff_ap, pure_mx, eff_mx, pure_call, eff_call, pure_callv, eff_callv, chk_nil, chk_cons, again, List.contains_cons, List.contains_nil, m0, m1, gvA]
   refine hK _ _ ?_; clear hK K hA A
   refine ⟨_, ⟨rfl, u.next, u.next + 1, w0 (.inl ⟨rfl, rfl⟩) (by simp (maxSteps := 1000000) only [go_sem]) (by simp (maxSteps := 1000000) only [go_sem, gvA]) (by simp (maxSteps := 1000000) only [go_sem, show ¬ u.next = u.next + 1 by omega, show ¬ u.next = u.next + 2 by omega]) (by simp (maxSteps := 1000000) only [go_sem]) fun c hc => by simp (disch := omega) only [go_sem, if_neg]⟩, by simp (maxSteps := 1000000) only [go_sem]⟩
  ·simp (maxSteps := 200000) only [go_sem, hA.nil, hA.pur, hA.go, hA.yes, hA.noT, hA.noF, hA.skp, pure_mv, eff_mv, pure_pk, eff_pk, pure_al, eff_al, pure_bx, eff_bx, pure_bd, eff_bd, pure_bs, eff_bs, pure_ld, eff_ld, pure_st, eff_st, pure_nc, eff_nc, pure_bin, eff_bin, pure_un, eff_un, pure_cv, eff_cv, pure_mi, eff_mi, pure_mf, eff_mf, pure_mm, eff_mm, pure_ms, eff_ms, pure_sc, eff_sc, pure_fa, eff_fa, pure_fl, eff_fl, pure_ia, eff_ia, pure_lk, eff_lk, pure_mu, eff_mu, pure_lm, eff_lm, pure_rg, eff_rg, pure_nx, eff_nx, pure_en, eff_en, pure_ta, eff_ta, pure_ex, eff_ex, pure_ln, eff_ln, pure_ap, eff_ap, pure_mx, eff_mx, pure_call, eff_call, pure_callv, eff_callv, chk_nil, chk_cons, again, List.contains_cons, List.contains_nil, m0, m1, gvA]
   refine hK _ _ ?_; clear hK K hA A
   refine ⟨_, ⟨rfl, u.next + 1, u.next, w0 (.inr ⟨rfl, rfl⟩) (by simp (maxSteps := 1000000) only [go_sem]) (by simp (maxSteps := 1000000) only [go_sem, gvA]) (by simp (maxSteps := 1000000) only [go_sem]) (by simp (maxSteps := 1000000) only [go_sem, show ¬ u.next = u.next + 1 by omega, show ¬ u.next = u.next + 2 by omega]) fun c hc => by simp (disch := omega) only [go_sem, if_neg]⟩, by simp (maxSteps := 1000000) only [go_sem]⟩
 rintro L t ⟨rfl, bA, bW, hN⟩
 refine .midK (fun L t => L = [(0, progsA l), (10, .ptr (u.next + 2) 0 0)] ∧ ∃ vR mb, MN u t l gv (u.next + 2) bA bW l.length vR mb) ?_ ?_
 ·refine .seq (.rg fun A hA K hK => ?_)
  simp (maxSteps := 1000000) only [go_sem, hA.nil, hA.go, hA.yes, hA.noT, hA.noF, hA.skp]
  refine hK _ _ ?_; clear hK K hA A
  refine .rangeK (N := l.length) (fun i L t => L = [(0, progsA l), (10, .ptr (u.next + 2) 0 0), (51, I l.length), (52, I i)] ∧ ∃ vR mb, MN u t l gv (u.next + 2) bA bW i vR mb) hl ⟨_, ⟨rfl, _, _, hN⟩, by simp (maxSteps := 1000000) only [go_sem]; try rfl⟩ ?_ ?_ ?_
  ·rintro i L t ⟨rfl, _⟩
   exact ⟨by simp (maxSteps := 1000000) only [go_sem], by simp (maxSteps := 1000000) only [go_sem], rfl⟩
  ·rintro i L t hi ⟨rfl, vR, mb, h⟩
   have hb := h.hb
   have hx := h.nx
   have n1 : ¬ u.next + 2 = t.next := by omega
   have n2 : ¬ u.next + 2 = t.next + 1 := by omega
   rcases h.vr with ⟨rfl, rfl⟩ | ⟨c, rfl, c1, c2, c3, c4⟩
   ·refine .rg fun A hA K hK => ?_
    simp (maxSteps := 1000000) only [go_sem, hA.nil, hA.go, hA.yes, hA.noT, hA.noF, hA.skp, hb, n1, n2, parts_map]
    refine ⟨by decide, by decide, ?_⟩
    refine hK _ _ ?_; clear hK K hA A
    refine ⟨by simp (maxSteps := 1000000) only [go_sem], _, ⟨rfl, _, _, h.grow (by simp (maxSteps := 1000000) only [go_sem]) (by simp (maxSteps := 1000000) only [go_sem]) (by simp (maxSteps := 1000000) only [go_sem, show ¬ t.next = u.next + 2 by omega]) (by simp (maxSteps := 1000000) only [go_sem, show ¬ t.next + 1 = u.next + 2 by omega, List.range_zero]) fun c hc hcb _ => by simp (disch := omega) only [go_sem, if_neg]⟩, by simp (maxSteps := 1000000) only [go_sem]; try rfl⟩
   ·have k1 : i + 1 ≤ most := by simp only [most]; omega
    have k2 : (i + 1) * 8 ≤ most := by simp only [most]; omega
    have k3 : ¬ u.next + 2 = c := by omega
    have k4 : ¬ c = t.next := by omega
    have k5 : (List.range i).length = i := List.length_range
    have k6 : List.take i ((List.range i).map fun d => [AV.map (mb d)]) = (List.range i).map fun d => [AV.map (mb d)] := List.take_of_length_le (by simp)
    refine .rg fun A hA K hK => ?_
    simp (maxSteps := 1000000) only [go_sem, hA.nil, hA.go, hA.yes, hA.noT, hA.noF, hA.skp, hb, n1, n2, parts_map, c3, k1, k2, k3, k4, k5, k6]
    refine hK _ _ ?_; clear hK K hA A
    refine ⟨by simp (maxSteps := 1000000) only [go_sem], _, ⟨rfl, _, _, h.grow (by simp (maxSteps := 1000000) only [go_sem]) (by simp (maxSteps := 1000000) only [go_sem]) (by simp (maxSteps := 1000000) only [go_sem, show ¬ t.next = u.next + 2 by omega, show ¬ t.next = c by omega]) (by simp (maxSteps := 1000000) only [go_sem, show ¬ t.next + 1 = u.next + 2 by omega]) fun c2 hc hcb hv => ?_⟩, by simp (maxSteps := 1000000) only [go_sem]; try rfl⟩
    have : ¬ c2 = c := by rintro rfl; exact hv _ rfl
    simp (disch := omega) only [go_sem, if_neg, this]
  ·rintro L t F ⟨rfl, vR, mb, h⟩ hf
   simp (maxSteps := 1000000) only [go_sem] at hf
   exact ⟨_, ⟨rfl, vR, mb, h⟩, by simp (maxSteps := 1000000) only [go_sem, hf]⟩
 rintro L t ⟨rfl, vR, mb, h⟩
 obtain ⟨o, bR, hM, ho⟩ := h.mc hlen h1
 have hnx := h.nx
 refine .seq (.rg fun A hA K hK => ?_)
 simp (maxSteps := 1000000) only [go_sem, hA.nil, hA.go, hA.yes, hA.noT, hA.noF, hA.skp]
 refine hK _ _ ?_; clear hK K hA A
 refine .ret (retS2 (by simp (maxSteps := 1000000) only [go_sem]; try rfl) (by simp (maxSteps := 1000000) only [go_sem]; try rfl) ⟨o, _, bR, bA, bW, mb, rfl, hM, by omega, fun c hc => Nat.le_trans hun (ho c hc), fun c hc => (h.old c (by omega)).trans (hux.2 c hc)⟩)
def PM.halted (m : PM) : Bool := (List.range m.l.length).all fun d => decide ((m.l.getD d []).length ≤ m.at_.getD d 0)
def PM.roundN (nf : Node → List Ten → Option Ten) (m : PM) : Nat → Option (Bool × PM)
 | 0 => some (false, m)
 | n + 1 => match m.roundN nf n with
  | none => none
  | some (did, m') => match m'.step nf n with
   | none => none
   | some (ok, m'') => some (did || ok, m'')
def PM.fair (nf : Node → List Ten → Option Ten) : Nat → PM → Option (Bool × PM)
 | 0, _ => none
 | n + 1, m => match m.roundN nf m.l.length with
  | none => none
  | some (true, m') => PM.fair nf n m'
  | some (false, m') => some (m'.halted, m')

theorem sum_le : ∀ (a b : List Nat), a.length = b.length → (∀ d, a.getD d 0 ≤ b.getD d 0) → a.sum ≤ b.sum
 | [], [], _, _ => by simp
 | [], _ :: _, h, _ => by simp at h
 | _ :: _, [], h, _ => by simp at h
 | x :: a, y :: b, h, hd => by
  have := sum_le a b (by simpa using h) fun d => by simpa using hd (d + 1)
  have h0 : x ≤ y := by simpa using hd 0
  simp only [List.sum_cons]; omega
theorem sum_set : ∀ (a : List Nat) (d : Nat), d < a.length → (a.set d (a.getD d 0 + 1)).sum = a.sum + 1
 | [], _, h => by simp at h
 | x :: a, 0, _ => by simp; omega
 | x :: a, d + 1, h => by
  have := sum_set a d (by simpa using h)
  simp only [List.set_cons_succ, List.getD_cons_succ, List.sum_cons, this]; omega

/-- Nothing grows beyond what the programs tell. -/
structure PM.Tot (m : PM) : Prop where
 sent0 : 0 ≤ m.sent
 sent1 : m.sent ≤ m.at_.sum
 bag : (m.bag.length : Int) ≤ m.sent
 la : m.at_.length = m.l.length
 le : ∀ d, m.at_.getD d 0 ≤ (m.l.getD d []).length
 tot : (m.l.map List.length).sum ≤ 2 ^ 20
 ins : ∀ d, ∀ i ∈ m.l.getD d [], i.ins.length ≤ 2 ^ 20
theorem getD_le_sum : ∀ (l : List (List Instr)) (d : Nat), (l.getD d []).length ≤ (l.map List.length).sum
 | [], d => by simp
 | x :: l, 0 => by simp
 | x :: l, d + 1 => by
  have := getD_le_sum l d
  simp only [List.getD_cons_succ, List.map_cons, List.sum_cons]; omega
theorem PM.Tot.sz {m : PM} (h : m.Tot) : m.Sz := by
 have h1 : m.at_.sum ≤ (m.l.map List.length).sum := sum_le _ _ (by simpa using h.la) fun d => by
  have := h.le d
  have e : (m.l.map List.length).getD d 0 = (m.l.getD d []).length := by
   simp only [List.getD_eq_getElem?_getD, List.getElem?_map]
   cases m.l[d]? <;> rfl
  rw [e]; exact this
 have h2 := h.tot
 have h3 := h.sent1
 have h4 := h.bag
 exact ⟨h.sent0, by omega, by omega, fun d => Nat.le_trans (getD_le_sum _ d) h2, h.ins⟩
theorem PM.pre_l {nf : Node → List Ten → Option Ten} {m m' : PM} {d : Nat} {i : Instr} {t : Ten} (h : m.pre nf d i = some (some (m', t))) : m'.l = m.l ∧ m'.gv = m.gv ∧ m'.at_ = m.at_ ∧ m'.rg = m.rg ∧ m'.sent - m'.bag.length ≥ m.sent - m.bag.length ∧ m.sent ≤ m'.sent ∧ m'.sent ≤ m.sent + 1 := by
 simp only [PM.pre] at h
 split at h
 ·split at h
  ·cases hx : (m.gv.getD d [])[i.n.toNat]? with
   | none => rw [hx] at h; cases h
   | some x => rw [hx] at h; cases h; exact ⟨rfl, rfl, rfl, rfl, by omega, by omega, by omega⟩
  ·cases h
 split at h
 ·split at h
  ·cases h
  ·cases hx : nf i.node (i.ins.map fun r => getR r (m.rg.getD d [])) with
   | none => rw [hx] at h; cases h
   | some x => rw [hx] at h; cases h; exact ⟨rfl, rfl, rfl, rfl, by omega, by omega, by omega⟩
 split at h
 ·split at h
  ·cases h
  ·split at h
   ·cases h
   ·cases h; exact ⟨rfl, rfl, rfl, rfl, by simp only [List.length_append, List.length_cons, List.length_nil]; omega, by simp only; omega, by simp only; omega⟩
 ·split at h
  ·cases h
  ·cases h
   refine ⟨rfl, rfl, rfl, rfl, ?_, by simp only; omega, by simp only; omega⟩
   have := List.length_eraseIdx_le m.bag ‹Nat›
   simp only; omega
theorem PM.step_l {nf : Node → List Ten → Option Ten} {m m' : PM} {d : Nat} {r : Bool} (h : m.step nf d = some (r, m')) : m'.l = m.l := by
 unfold PM.step at h
 split at h
 ·cases h; rfl
 ·split at h
  ·cases h
  ·cases h; rfl
  ·rename_i hp; cases h
   exact (PM.pre_l hp).1
theorem PM.Tot.step {nf : Node → List Ten → Option Ten} {m m' : PM} {d : Nat} {r : Bool} (ht : m.Tot) (h : m.step nf d = some (r, m')) : m'.Tot := by
 unfold PM.step at h
 split at h
 ·cases h; exact ht
 ·rename_i i hi
  split at h
  ·cases h
  ·cases h; exact ht
  ·rename_i m1 t hp
   cases h
   obtain ⟨e1, e2, e3, e4, e5, e6, e7⟩ := PM.pre_l hp
   have hlt : m.at_.getD d 0 < (m.l.getD d []).length := (List.getElem?_eq_some_iff.1 hi).1
   have hdl : d < m.l.length := by
    rcases Nat.lt_or_ge d m.l.length with h | h
    ·exact h
    ·have : m.l.getD d [] = [] := by rw [List.getD_eq_getElem?_getD, List.getElem?_eq_none h]; rfl
     rw [this] at hlt; simp at hlt
   have hda : d < m.at_.length := by rw [ht.la]; exact hdl
   have hs0 := ht.sent0
   have hs1 := ht.sent1
   have hb := ht.bag
   refine ⟨by simp only [PM.fin]; omega, ?_, by simp only [PM.fin]; omega, ?_, fun e => ?_, by simp only [PM.fin, e1]; exact ht.tot, by simp only [PM.fin, e1]; exact ht.ins⟩
   ·simp only [PM.fin, e3, sum_set _ _ hda]; omega
   ·simp only [PM.fin, List.length_set, e3, e1]; exact ht.la
   ·simp only [PM.fin, e3, e1]
    by_cases hed : e = d
    ·subst hed; rw [getD_set_eq' _ _ hda]; omega
    ·rw [getD_set_ne' _ _ hed]; exact ht.le e

section mc
variable {o : Nat → Option Nat} {σ : St} {b bR bA bW : Nat} {vB : AV} {mb : Nat → Nat} {m : PM}
theorem rep_get' {α : Type} (N d : Nat) (x y : α) (h : d < N) : (List.replicate N x).getD d y = x := by simp [List.getD_eq_getElem?_getD, h]
theorem rep_set {α : Type} (N d : Nat) (x : α) : (List.replicate N x).set d x = List.replicate N x := by
 refine List.ext_getElem (by simp) fun i h1 h2 => ?_
 rw [List.getElem_set]; split <;> simp
/-- Machine.Step -/
theorem mStep_spec {nf : Node → List Ten → Option Ten} (hnf : NodeOk nf) (h : MC o σ b bR bA bW vB mb m) (hz : m.Tot) (d : Nat) (hd : d < m.l.length) (r : Bool) (m' : PM) (hst : m.step nf d = some (r, m')) :
  TQ Try.prog 83 [.ptr b 0 0, I d] σ fun v s => v = .tup [.bool r, I 0] ∧ ∃ o' vB', MC o' s b bR bA bW vB' mb m' ∧ Grow o σ o' s := by
 refine in83 (by simp) fun wf hab => ?_
 clear hab
 have hb := h.hb
 have hbA := h.hA
 have hlA := h.la
 have gp := progs_get2 hd
 have ga := at_get (show d < m.at_.length by omega)
 have e0 : (d : Int) < m.l.length := by omega
 have n0 : ¬ (d : Int) < 0 := by omega
 have n1 : ¬ (d : Int) ≥ m.l.length := by omega
 unfold c83
 refine .seq (.rg fun A hA K hK => ?_)
 simp (maxSteps := 1000000) only [go_sem, hA.nil, hA.go, hA.yes, hA.noT, hA.noF, hA.skp]
 refine hK _ _ ?_; clear hK K hA A
 by_cases hat : (m.l.getD d []).length ≤ m.at_.getD d 0
 ·have hs : m.step nf d = some (false, m) := by unfold PM.step; rw [List.getElem?_eq_none hat]
  rw [hs] at hst; cases hst
  have n2 : ((m.at_.getD d 0 : Nat) : Int) ≥ ((m.l.getD d []).length : Nat) := by omega
  refine .seq (.seq (.rd fun A hA K hK => ?_))
  simp (maxSteps := 1000000) only [go_sem, hA.nil, hA.go, hA.yes, hA.noT, hA.noF, hA.skp, hb, hbA, gp, ga, e0, hd, n0, n1, hlA, List.length_map]
  refine hK _ _ ?_; clear hK K hA A
  refine .cond (t := true) (by simp (maxSteps := 1000000) only [go_sem, n2]) (fun _ => ?_) (fun h => by cases h)
  refine .seq (.rg fun A hA K hK => ?_)
  simp (maxSteps := 1000000) only [go_sem, hA.nil, hA.go, hA.yes, hA.noT, hA.noF, hA.skp]
  refine hK _ _ ?_; clear hK K hA A
  exact .ret (retS2 (by simp (maxSteps := 1000000) only [go_sem]; try rfl) (by simp (maxSteps := 1000000) only [go_sem]; try rfl) ⟨rfl, o, vB, h, .refl _ _⟩)
 have n2 : ¬ ((m.at_.getD d 0 : Nat) : Int) ≥ ((m.l.getD d []).length : Nat) := by omega
 have hi : (m.l.getD d [])[m.at_.getD d 0]? = some ((m.l.getD d [])[m.at_.getD d 0]'(by omega)) := List.getElem?_eq_getElem _
 generalize (m.l.getD d [])[m.at_.getD d 0]'(by omega) = i at hi
 refine .seq (.seq (.rd fun A hA K hK => ?_))
 simp (maxSteps := 1000000) only [go_sem, hA.nil, hA.go, hA.yes, hA.noT, hA.noF, hA.skp, hb, hbA, gp, ga, e0, hd, n0, n1, hlA, List.length_map]
 refine hK _ _ ?_; clear hK K hA A
 refine .cond (t := false) (by simp (maxSteps := 1000000) only [go_sem, n2]) (fun h => by cases h) (fun _ => .skip ?_)
 have hbW := h.hW
 have gw := rep_get' m.l.length d [I 0] [] hd
 have hlw : (List.replicate m.l.length [I 0]).length = m.l.length := List.length_replicate
 refine .seq (.seq (.rg fun A hA K hK => ?_))
 simp (maxSteps := 1000000) only [go_sem, hA.nil, hA.go, hA.yes, hA.noT, hA.noF, hA.skp, hb, hbW, gw, e0, hd, hlw]
 refine hK _ _ ?_; clear hK K hA A
 refine .cond (t := true) (by simp (maxSteps := 1000000) only [go_sem]) (fun _ => ?_) (fun h => by cases h)
 have hpre : ∃ r2, m.pre nf d i = some r2 ∧ (r2 = none ∧ r = false ∧ m' = m ∨ ∃ m1 t, r2 = some (m1, t) ∧ r = true ∧ m' = m1.fin d i t) := by
  unfold PM.step at hst
  rw [hi] at hst
  simp only at hst
  cases hp : m.pre nf d i with
  | none => rw [hp] at hst; cases hst
  | some r2 =>
   rw [hp] at hst
   cases r2 with
   | none => cases hst; exact ⟨none, rfl, .inl ⟨rfl, rfl, rfl⟩⟩
   | some q => cases hst; exact ⟨some (q.1, q.2), rfl, .inr ⟨_, _, rfl, rfl, rfl⟩⟩
 obtain ⟨r2, hp, hr2⟩ := hpre
 refine .seq (.rg fun A hA K hK => ?_)
 simp (maxSteps := 1000000) only [go_sem, hA.nil, hA.go, hA.yes, hA.noT, hA.noF, hA.skp]
 refine aopq_callQ (step1_spec hnf h hz.sz d hd i hi r2 hp) (by simp (maxSteps := 1000000) only [go_sem]) ?_
 rintro v s hq
 have hq2 : v = .tup [.bool r, I 0] ∧ ∃ o' vB', MC o' s b bR bA bW vB' mb m' ∧ Grow o σ o' s := by
  rcases hr2 with ⟨rfl, rfl, rfl⟩ | ⟨m1, t, rfl, rfl, rfl⟩
  ·rcases hq with ⟨_, rfl, rfl⟩ | ⟨_, _, hh, _⟩
   ·exact ⟨rfl, o, vB, h, .refl _ _⟩
   ·cases hh
  ·rcases hq with ⟨hh, _⟩ | ⟨m2, t2, hh, rfl, o', vB', g1, g2⟩
   ·cases hh
   ·cases hh; exact ⟨rfl, o', vB', g1, g2⟩
 obtain ⟨rfl, o', vB', h1, g1⟩ := hq2
 try simp (maxSteps := 1000000) only [go_sem, hA.nil, hA.go, hA.yes, hA.noT, hA.noF, hA.skp]
 refine hK _ _ ?_; clear hK K hA A
 have hml : m'.l = m.l := PM.step_l hst
 have hb1 := h1.hb
 have hbW1 := h1.hW
 rw [hml] at hb1 hbW1
 have ws : (List.replicate m.l.length [I 0]).set d [I 0] = List.replicate m.l.length [I 0] := rep_set _ _ _
 refine .seq (.rg fun A hA K hK => ?_)
 simp (maxSteps := 1000000) only [go_sem, hA.nil, hA.go, hA.yes, hA.noT, hA.noF, hA.skp, hb1, hbW1, gw, e0, hd, hlw, ws]
 refine hK _ _ ?_; clear hK K hA A
 refine .seq (.rg fun A hA K hK => ?_)
 simp (maxSteps := 1000000) only [go_sem, hA.nil, hA.go, hA.yes, hA.noT, hA.noF, hA.skp]
 refine hK _ _ ?_; clear hK K hA A
 refine .ret (retS2 (by simp (maxSteps := 1000000) only [go_sem]; try rfl) (by simp (maxSteps := 1000000) only [go_sem]; try rfl) ⟨rfl, o', vB', h1.frame (Nat.le_refl _) fun c hc => ?_, ⟨g1.1, g1.2.1, fun c hc ho => ?_⟩⟩)
 ·by_cases e : c = bW
  ·subst e; rw [blk_set, if_pos rfl, h1.hW, hml]
  ·rw [blk_set, if_neg e]
 ·by_cases e : c = bW
  ·subst e; rw [h.ownW] at ho; cases ho
  ·rw [blk_set, if_neg e]; exact g1.2.2 c hc ho
/-- Machine.Halted -/
theorem halted_spec (h : MC o σ b bR bA bW vB mb m) (hl : m.l.length ≤ most) : T Try.prog 113 [.ptr b 0 0] σ (.bool m.halted) σ := by
 refine in113 (by simp) fun wf hab => ?_
 clear hab
 have hb := h.hb
 have hbA := h.hA
 have hlA := h.la
 unfold c113
 refine .seq (.rg fun A hA K hK => ?_)
 simp (maxSteps := 1000000) only [go_sem, hA.nil, hA.go, hA.yes, hA.noT, hA.noF, hA.skp]
 refine hK _ _ ?_; clear hK K hA A
 refine .midK (fun L u => L = [(0, .ptr b 0 0)] ∧ u = σ ∧ m.halted = true) ?_ ?_
 ·refine .seq (.rg fun A hA K hK => ?_)
  simp (maxSteps := 1000000) only [go_sem, hA.nil, hA.go, hA.yes, hA.noT, hA.noF, hA.skp, hb]
  refine hK _ _ ?_; clear hK K hA A
  refine .rangeK (N := m.l.length) (fun i L u => L = [(0, .ptr b 0 0), (8, I m.l.length), (9, I i)] ∧ u = σ ∧ ∀ d, d < i → (m.l.getD d []).length ≤ m.at_.getD d 0) hl ⟨_, ⟨rfl, rfl, fun d hd => absurd hd (by omega)⟩, by simp (maxSteps := 1000000) only [go_sem]; try rfl⟩ ?_ ?_ ?_
  ·rintro i L u ⟨rfl, _⟩
   exact ⟨by simp (maxSteps := 1000000) only [go_sem], by simp (maxSteps := 1000000) only [go_sem], rfl⟩
  ·rintro i L u hi ⟨rfl, rfl, hj⟩
   have gp := progs_get2 hi
   have ga := at_get (show i < m.at_.length by omega)
   have e0 : (i : Int) < m.l.length := by omega
   refine .seq (.rg fun A hA K hK => ?_)
   simp (maxSteps := 1000000) only [go_sem, hA.nil, hA.go, hA.yes, hA.noT, hA.noF, hA.skp]
   refine hK _ _ ?_; clear hK K hA A
   refine .seq (.rd fun A hA K hK => ?_)
   simp (maxSteps := 1000000) only [go_sem, hA.nil, hA.go, hA.yes, hA.noT, hA.noF, hA.skp, hb, hbA, gp, ga, e0, hi, hlA, List.length_map]
   refine hK _ _ ?_; clear hK K hA A
   by_cases hat : (m.l.getD i []).length ≤ m.at_.getD i 0
   ·have n2 : ¬ ((m.at_.getD i 0 : Nat) : Int) < ((m.l.getD i []).length : Nat) := by omega
    refine .cond (t := false) (by simp (maxSteps := 1000000) only [go_sem, n2]) (fun h => by cases h) (fun _ => .skip ?_)
    refine ⟨by simp (maxSteps := 1000000) only [go_sem], _, ⟨rfl, rfl, fun d hd => ?_⟩, by simp (maxSteps := 1000000) only [go_sem]; try rfl⟩
    by_cases e : d = i
    ·rw [e]; exact hat
    ·exact hj d (by omega)
   ·have n2 : ((m.at_.getD i 0 : Nat) : Int) < ((m.l.getD i []).length : Nat) := by omega
    refine .cond (t := true) (by simp (maxSteps := 1000000) only [go_sem, n2]) (fun _ => ?_) (fun h => by cases h)
    have hh : m.halted = false := by
     rw [PM.halted, List.all_eq_false]
     exact ⟨i, List.mem_range.2 hi, by simpa using hat⟩
    refine .seq (.rg fun A hA K hK => ?_)
    simp (maxSteps := 1000000) only [go_sem, hA.nil, hA.go, hA.yes, hA.noT, hA.noF, hA.skp]
    refine hK _ _ ?_; clear hK K hA A
    exact .ret (retB (by simp (maxSteps := 1000000) only [go_sem, hh]) wf (fun _ _ => rfl) (.bool _) ⟨rfl, rfl⟩)
  ·rintro L u F ⟨rfl, rfl, hj⟩ hf
   simp (maxSteps := 1000000) only [go_sem] at hf
   refine ⟨_, ⟨rfl, rfl, ?_⟩, by simp (maxSteps := 1000000) only [go_sem, hf]⟩
   rw [PM.halted, List.all_eq_true]
   intro d hd
   simpa using hj d (List.mem_range.1 hd)
 rintro L u ⟨rfl, rfl, hh⟩
 refine .seq (.rg fun A hA K hK => ?_)
 simp (maxSteps := 1000000) only [go_sem, hA.nil, hA.go, hA.yes, hA.noT, hA.noF, hA.skp]
 refine hK _ _ ?_; clear hK K hA A
 exact .ret (retB (by simp (maxSteps := 1000000) only [go_sem, hh]) wf (fun _ _ => rfl) (.bool _) ⟨rfl, rfl⟩)

theorem PM.roundN_l {nf : Node → List Ten → Option Ten} {m : PM} (ht : m.Tot) : ∀ {n : Nat} {r : Bool} {m' : PM}, m.roundN nf n = some (r, m') → m'.l = m.l ∧ m'.Tot
 | 0, r, m', h => by cases h; exact ⟨rfl, ht⟩
 | n + 1, r, m', h => by
  unfold PM.roundN at h
  cases hn : m.roundN nf n with
  | none => rw [hn] at h; cases h
  | some q =>
   obtain ⟨did, m1⟩ := q
   rw [hn] at h
   simp only at h
   obtain ⟨e1, t1⟩ := PM.roundN_l ht hn
   cases hs : m1.step nf n with
   | none => rw [hs] at h; cases h
   | some q2 =>
    obtain ⟨ok, m2⟩ := q2
    rw [hs] at h
    cases h
    exact ⟨(PM.step_l hs).trans e1, t1.step hs⟩

theorem PM.roundN_some {nf : Node → List Ten → Option Ten} {m : PM} : ∀ {n : Nat} {q : Bool × PM}, m.roundN nf n = some q → ∀ {i : Nat}, i < n → ∀ {dd : Bool} {m3 : PM}, m.roundN nf i = some (dd, m3) → ∃ ok m4, m3.step nf i = some (ok, m4)
 | 0, _, _, i, hi, _, _, _ => absurd hi (by omega)
 | n + 1, q, h, i, hi, dd, m3, h3 => by
  unfold PM.roundN at h
  cases hn : m.roundN nf n with
  | none => rw [hn] at h; cases h
  | some q1 =>
   rw [hn] at h
   by_cases e : i = n
   ·subst e
    rw [hn] at h3; cases h3
    simp only at h
    cases hs : m3.step nf i with
    | none => rw [hs] at h; cases h
    | some q2 => exact ⟨q2.1, q2.2, rfl⟩
   ·exact PM.roundN_some hn (by omega) h3

/-- Machine.Fair -/
theorem fair_spec {nf : Node → List Ten → Option Ten} (hnf : NodeOk nf) (h : MC o σ b bR bA bW vB mb m) (hz : m.Tot) (hl : m.l.length ≤ most) (n : Nat) (r : Bool) (m' : PM) (hst : PM.fair nf n m = some (r, m')) :
  TQ Try.prog 84 [.ptr b 0 0] σ fun v s => v = .tup [.bool r, I 0] ∧ ∃ o' vB', MC o' s b bR bA bW vB' mb m' ∧ Grow o σ o' s := by
 refine in84 (by simp) fun wf hab => ?_
 clear hab
 unfold c84
 refine .seq (.rg fun A hA K hK => ?_)
 simp (maxSteps := 1000000) only [go_sem, hA.nil, hA.go, hA.yes, hA.noT, hA.noF, hA.skp]
 refine hK _ _ ?_; clear hK K hA A
 refine .loopK (fun n L t => ∃ o' vB' m1, L = [(0, .ptr b 0 0)] ∧ MC o' t b bR bA bW vB' mb m1 ∧ Grow o σ o' t ∧ m1.Tot ∧ m1.l = m.l ∧ PM.fair nf n m1 = some (r, m')) n ⟨_, ⟨o, vB, m, rfl, h, .refl _ _, hz, rfl, hst⟩, by simp (maxSteps := 1000000) only [go_sem]⟩ ?_
 rintro n L t ⟨o1, vB1, m1, rfl, h1, g1, hz1, hl1, hf1⟩
 refine .block ?_
 cases n with
 | zero => cases hf1
 | succ n =>
  unfold PM.fair at hf1
  cases hr : m1.roundN nf m1.l.length with
  | none => rw [hr] at hf1; cases hf1
  | some q =>
   obtain ⟨did, m2⟩ := q
   rw [hr] at hf1
   refine .seq (.rg fun A hA K hK => ?_)
   simp (maxSteps := 1000000) only [go_sem, hA.nil, hA.go, hA.yes, hA.noT, hA.noF, hA.skp]
   refine hK _ _ ?_; clear hK K hA A
   refine .keep [(0, .ptr b 0 0), (4, .bool false)] (by simp (maxSteps := 1000000) only [go_sem]) ?_
   refine .midK (fun L t => L = [(0, .ptr b 0 0), (4, .bool did)] ∧ ∃ o' vB', MC o' t b bR bA bW vB' mb m2 ∧ Grow o σ o' t) ?_ ?_
   ·have hb := h1.hb
    refine .seq (.rg fun A hA K hK => ?_)
    simp (maxSteps := 1000000) only [go_sem, hA.nil, hA.go, hA.yes, hA.noT, hA.noF, hA.skp, hb]
    refine hK _ _ ?_; clear hK K hA A
    refine .rangeK (N := m1.l.length) (fun i L t => ∃ dd m3 o' vB', L = [(0, .ptr b 0 0), (4, .bool dd), (12, I m1.l.length), (13, I i)] ∧ m1.roundN nf i = some (dd, m3) ∧ MC o' t b bR bA bW vB' mb m3 ∧ Grow o σ o' t) (by rw [hl1]; exact hl)
     ⟨_, ⟨false, m1, o1, vB1, rfl, rfl, h1, g1⟩, by simp (maxSteps := 1000000) only [go_sem]; try rfl⟩ ?_ ?_ ?_
    ·rintro i L u ⟨_, _, _, _, rfl, _⟩
     exact ⟨by simp (maxSteps := 1000000) only [go_sem], by simp (maxSteps := 1000000) only [go_sem], rfl⟩
    ·rintro i L u hi ⟨dd, m3, o3, vB3, rfl, hr3, h3, g3⟩
     have hsome : ∃ ok m4, m3.step nf i = some (ok, m4) := PM.roundN_some hr hi hr3
     obtain ⟨ok, m4, hs4⟩ := hsome
     obtain ⟨e3, t3⟩ := PM.roundN_l hz1 hr3
     have hr4 : m1.roundN nf (i + 1) = some (dd || ok, m4) := by rw [PM.roundN, hr3]; simp only [hs4]
     refine .seq (.rg fun A hA K hK => ?_)
     simp (maxSteps := 1000000) only [go_sem, hA.nil, hA.go, hA.yes, hA.noT, hA.noF, hA.skp]
     refine hK _ _ ?_; clear hK K hA A
     refine .seq (.rg fun A hA K hK => ?_)
     simp (maxSteps := 1000000) only [go_sem, hA.nil, hA.go, hA.yes, hA.noT, hA.noF, hA.skp]
     refine aopq_callQ (mStep_spec hnf h3 t3 i (by rw [e3]; exact hi) ok m4 hs4) (by simp (maxSteps := 1000000) only [go_sem]) ?_
     rintro v s ⟨rfl, o4, vB4, h4, g4⟩
     try simp (maxSteps := 1000000) only [go_sem, hA.nil, hA.go, hA.yes, hA.noT, hA.noF, hA.skp]
     refine hK _ _ ?_; clear hK K hA A
     refine .seq (.seq (.rg fun A hA K hK => ?_))
     simp (maxSteps := 1000000) only [go_sem, hA.nil, hA.go, hA.yes, hA.noT, hA.noF, hA.skp]
     refine hK _ _ ?_; clear hK K hA A
     refine .cond (t := false) (by simp (maxSteps := 1000000) only [go_sem]) (fun h => by cases h) (fun _ => .skip ?_)
     cases dd
     ·refine .rg fun A hA K hK => ?_
      simp (maxSteps := 1000000) only [go_sem, hA.nil, hA.go, hA.yes, hA.noT, hA.noF, hA.skp]
      refine hK _ _ ?_; clear hK K hA A
      exact ⟨by simp (maxSteps := 1000000) only [go_sem], _, ⟨ok, m4, o4, vB4, rfl, hr4, h4, g3.trans g4⟩, by simp (maxSteps := 1000000) only [go_sem]; try rfl⟩
     ·refine .rg fun A hA K hK => ?_
      simp (maxSteps := 1000000) only [go_sem, hA.nil, hA.go, hA.yes, hA.noT, hA.noF, hA.skp]
      refine hK _ _ ?_; clear hK K hA A
      exact ⟨by simp (maxSteps := 1000000) only [go_sem], _, ⟨true, m4, o4, vB4, rfl, hr4, h4, g3.trans g4⟩, by simp (maxSteps := 1000000) only [go_sem]; try rfl⟩
    ·rintro L u F ⟨dd, m3, o3, vB3, rfl, hr3, h3, g3⟩ hf
     simp (maxSteps := 1000000) only [go_sem] at hf
     rw [hr] at hr3; cases hr3
     exact ⟨_, ⟨rfl, o3, vB3, h3, g3⟩, by simp (maxSteps := 1000000) only [go_sem, hf]⟩
   rintro L u ⟨rfl, o2, vB2, h2, g2⟩
   obtain ⟨e2, t2⟩ := PM.roundN_l hz1 hr
   refine .seq (.rg fun A hA K hK => ?_)
   simp (maxSteps := 1000000) only [go_sem, hA.nil, hA.go, hA.yes, hA.noT, hA.noF, hA.skp]
   refine hK _ _ ?_; clear hK K hA A
   cases did
   ·cases hf1
    refine .cond (t := true) (by simp (maxSteps := 1000000) only [go_sem]) (fun _ => ?_) (fun h => by cases h)
    have hhs := halted_spec h2 (by rw [e2, hl1]; exact hl)
    refine .seq (.rg fun A hA K hK => ?_)
    simp (maxSteps := 1000000) only [go_sem, hA.nil, hA.go, hA.yes, hA.noT, hA.noF, hA.skp]
    refine aopq_call (hhs) (by simp (maxSteps := 1000000) only [go_sem]) ?_
    try simp (maxSteps := 1000000) only [go_sem, hA.nil, hA.go, hA.yes, hA.noT, hA.noF, hA.skp]
    refine hK _ _ ?_; clear hK K hA A
    exact .ret (retS2 (by simp (maxSteps := 1000000) only [go_sem]; try rfl) (by simp (maxSteps := 1000000) only [go_sem]; try rfl) ⟨rfl, o2, vB2, h2, g2⟩)
   ·refine .cond (t := false) (by simp (maxSteps := 1000000) only [go_sem]) (fun h => by cases h) (fun _ => .skip ?_)
    exact ⟨n, by omega, _, ⟨o2, vB2, m2, rfl, h2, g2, t2, e2.trans hl1, hf1⟩, by simp (maxSteps := 1000000) only [go_sem]⟩
end mc
end Go.Proofs.Ytfjbabacpnnjmaa.Av
