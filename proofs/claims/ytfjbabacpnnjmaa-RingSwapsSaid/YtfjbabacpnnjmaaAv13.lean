/- A logic of small values, and walks in it: The ring's letters: deliver. slices.Index, slices.Contains of numbers. The ring's questions: may, Room, each. The ring's Everyone: each gives each other one what it has. The code of some functions in few words, and that it is the program's. Printed by a program. -/
import Derived.Test.YtfjbabacpnnjmaaAv12
import Derived.Test.YtfjbabacpnnjmaaProg
import Derived.KernelRfl
set_option linter.unusedVariables false
set_option linter.unusedSimpArgs false
set_option linter.deprecated false
namespace Go.Proofs.Ytfjbabacpnnjmaa.Av
open Go Go.Av
set_option maxRecDepth 20000
set_option maxHeartbeats 4000000

attribute [local go_sem] step_apply stepD_apply stepE_apply
attribute [local go_sem] aopq_mv aopq_pk aopq_al aopq_bx aopq_bd aopq_bs aopq_ld aopq_st aopq_nc aopq_bin aopq_un aopq_cv aopq_mi aopq_mf aopq_mm aopq_ms aopq_sc aopq_fa aopq_fl aopq_ia aopq_lk aopq_mu aopq_lm aopq_rg aopq_en aopq_ta aopq_ex aopq_ln aopq_ap aopq_mx aopq.eq_3 aop.eq_1 aop.eq_2 aop.eq_3 aop.eq_4 aop.eq_5 aop.eq_6 aop.eq_7 aop.eq_8 aop.eq_9 aop_bin atS_apply aop_un_not aop_un_neg aop.eq_14 aop.eq_15 aop.eq_16 aop.eq_17 aop.eq_18 aop_sc cutS_apply cutN_apply cutL_apply cutO_apply aop.eq_20 aop.eq_21 aop.eq_22 aop.eq_23 aop.eq_24 aop.eq_25 aop.eq_26 aop.eq_27 aop.eq_28 aop.eq_29 aop.eq_30 aop.eq_31 aop.eq_32 blk_push next_push blk_set next_set blk_kill next_kill frL_nil frL_cons Fits_nil Fits_cons Int.reduceBEq Int.reduceBNe Nat.sub_zero Option.map_some Option.map_none List.set_cons_succ true_or or_true false_or or_false Int.le_refl Int.cast_ofNat_Int decide_true decide_false List.cons_append fillA fillR rowsOf List.replicate_succ List.replicate_zero Nat.zero_mul getD_drop List.length_drop splice List.nil_append List.append_nil cond_true cond_false List.set_cons_zero List.length_set ev put_some put_none upd_apply abin asNat bounds row1 mk List.length_cons List.length_nil List.length_map List.drop_zero List.drop_succ_cons List.drop_nil List.getD_cons_zero List.getD_cons_succ Option.getD_none Option.getD_some List.take_succ_cons List.take_zero List.take_nil true_and and_true Int.toNat_natCast if_true if_false Nat.zero_add Nat.add_zero List.map_cons List.map_nil Nat.reduceEqDiff Nat.left_eq_add Nat.add_eq_left Nat.add_left_cancel_iff Nat.add_assoc Nat.reduceSub Nat.reduceAdd Nat.reduceLeDiff Nat.le_refl Nat.zero_le Nat.zero_lt_one Nat.lt_add_one Int.reduceLT Int.reduceLE Int.reduceToNat Nat.reduceLT Nat.reduceBEq Bool.false_eq_true Nat.reduceBNe ne_eq not_false_eq_true not_true_eq_false false_and and_false reduceIte Int.natCast_nonneg reduceCtorEq parts_agg parts_bool parts_int parts_str parts_lit parts_nils parts_sl parts_ptr Int.natCast_nonneg Int.natCast_nonneg beq_self_eq_true bne_self_eq_false Bool.true_and Bool.false_and Bool.and_true Bool.and_false Bool.true_or Bool.false_or Bool.or_true Bool.or_false Bool.not_true Bool.not_false
attribute [local go_sem] instr0 instr1 instr2 instr10 instr11 instr12 instrN instrA instr_len node0 node1 node2 node3 node4 node5 node6 nodeA node_len I ints progA progsA

def ltRow (x : Lt) (t : Int) : List AV := [I x.frm, I x.to, I x.reg, I t]
def ltRows (l : List Lt) (tg : Int) (i : Nat) : List (List AV) := (List.range l.length).map fun j => ltRow (l.getD j lt0) (if j < i then tg + j else 0)
theorem ltRows_len (l : List Lt) (tg : Int) (i : Nat) : (ltRows l tg i).length = l.length := by simp [ltRows]
theorem ltRows_get {l : List Lt} {tg : Int} {i j : Nat} (h : j < l.length) : (ltRows l tg i).getD j [] = [I (l.getD j lt0).frm, I (l.getD j lt0).to, I (l.getD j lt0).reg, I (if j < i then tg + j else 0)] := by
 simp [ltRows, h, ltRow]
theorem ltRows_set {l : List Lt} {tg : Int} {i : Nat} (h : i < l.length) : (ltRows l tg i).set i (ltRow (l.getD i lt0) (tg + i)) = ltRows l tg (i + 1) := by
 refine List.ext_getElem (by simp [ltRows]) fun j h1 h2 => ?_
 have hj : j < l.length := by simpa [ltRows] using h2
 rw [List.getElem_set]
 split
 ·rename_i hij; subst hij; simp [ltRows]
 ·rename_i hij
  simp only [ltRows, List.getElem_map, List.getElem_range]
  have : (j < i) ↔ (j < i + 1) := by omega
  simp only [this]
theorem sends_sm {m : MkS} {k : Nat} (h : m.Sm k) (l : List Lt) : ∀ i, (sendsM m l i).Sm (k + i)
 | 0 => h
 | i + 1 => by
  have := (sends_sm h l i).tagPut (l.getD i lt0).frm (i := sendJ (l.getD i lt0).reg (l.getD i lt0).to (sendsM m l i).tg) ⟨by simp [sendJ], empty_sm⟩
  exact this
theorem recvs_sm {m : MkS} {k : Nat} (h : m.Sm k) (g : Int) (l : List Lt) : ∀ i, (recvsM m g l i).1.Sm (k + i)
 | 0 => h
 | i + 1 => (recvs_sm h g l i).freshPut (l.getD i lt0).to ⟨by simp [recvJ], empty_sm⟩

/-- What a maker and one block c of the caller's own are behind some steps. -/
structure DI (o : Nat → Option Nat) (σ : St) (c : Nat) (o' : Nat → Option Nat) (s : St) : Prop where
 n : σ.next ≤ s.next
 l : ∀ x, x < σ.next → o' x = o x
 f : ∀ x, x < σ.next → o x = none → x ≠ c → s.blk x = σ.blk x
theorem DI.refl (o : Nat → Option Nat) (σ : St) (c : Nat) : DI o σ c o σ := ⟨Nat.le_refl _, fun _ _ => rfl, fun _ _ _ _ => rfl⟩
theorem DI.grow {o o' o'' : Nat → Option Nat} {σ s t : St} {c : Nat} (h : DI o σ c o' s) (g : Grow o' s o'' t) : DI o σ c o'' t :=
 ⟨Nat.le_trans h.n g.1, fun x hx => (g.2.1 x (Nat.lt_of_lt_of_le hx h.n)).trans (h.l x hx), fun x hx ho hc => (g.2.2 x (Nat.lt_of_lt_of_le hx h.n) (by rw [h.l x hx]; exact ho)).trans (h.f x hx ho hc)⟩
theorem DI.own {o o' : Nat → Option Nat} {σ s t : St} {c : Nat} (h : DI o σ c o' s) (hn : s.next ≤ t.next) (hs : ∀ x, x < σ.next → x ≠ c → t.blk x = s.blk x) : DI o σ c o' t :=
 ⟨Nat.le_trans h.n hn, h.l, fun x hx ho hc => (hs x hx hc).trans (h.f x hx ho hc)⟩
theorem tag_TQ {o : Nat → Option Nat} {σ : St} {b bL bR : Nat} {m : MkS} (h : MkI o σ b bL bR m) (ht : 0 ≤ m.tg ∧ m.tg < 2 ^ 62) :
  TQ Try.prog 25 [.ptr b 0 0] σ fun v s => v = I m.tg ∧ MkI o s b bL bR { m with tg := m.tg + 1 } ∧ Grow o σ o s := by
 obtain ⟨vs, h⟩ := h
 exact (tag_spec h ht).mono fun v s ⟨h1, h2, h3⟩ => ⟨h1, ⟨vs, h2⟩, h3⟩

section mk
variable {o : Nat → Option Nat} {σ : St} {b bL bR k : Nat} {m : MkS}
theorem fresh_TI (h : MkI o σ b bL bR m) (hk : m.Sm k) (h6 : k < 65536) (d : Nat) (hd : d < m.ps.length) :
  ∃ s, T Try.prog 23 [.ptr b 0 0, I d] σ (I (m.rs.getD d 0)) s ∧ MkI o s b bL bR (m.fresh d) ∧ Grow o σ o s := by
 obtain ⟨vs, hm⟩ := h
 have r0 := hk.r0 d
 have rk := hk.rk d
 obtain ⟨hT, h2, g2⟩ := fresh_T hm d hd ⟨r0, by omega⟩
 exact ⟨_, hT, ⟨_, h2⟩, g2⟩
theorem MkI.none (h : MkI o σ b bL bR m) : o σ.next = none := by
 cases hh : o σ.next with
 | none => rfl
 | some x => have := h.lt σ.next (by rw [hh]; simp); omega
/-- ring.deliver -/
theorem deliver_spec (h : MkI o σ b bL bR m) (hk : m.Sm k) (l : List Lt) (hkl : k + 2 * l.length ≤ 65000) (hl : ∀ j, j < l.length → (l.getD j lt0).frm < m.ps.length ∧ (l.getD j lt0).to < m.ps.length)
  (c : Nat) (hc : c < σ.next) (hoc : o c = none) (hb : σ.blk c = some (.cells 4 (ltRows l m.tg 0))) :
  TQ Try.prog 75 [.ptr b 0 0, .sl c 0 l.length] σ fun v s => v = ints (delivM m l).2 ∧ ∃ o', MkI o' s b bL bR (delivM m l).1 ∧ DI o σ c o' s := by
 refine in75 (by simp) fun wf hab => ?_
 clear hab
 have hlm : l.length ≤ most := by simp only [most]; omega
 unfold c75
 refine .seq (.rg fun A hA K hK => ?_)
 simp (maxSteps := 1000000) only [go_sem, hA.nil, hA.go, hA.yes, hA.noT, hA.noF, hA.skp]
 refine hK _ _ ?_; clear hK K hA A
 refine .seq (.seq (.rg fun A hA K hK => ?_))
 simp (maxSteps := 1000000) only [go_sem, hA.nil, hA.go, hA.yes, hA.noT, hA.noF, hA.skp, hb, ltRows_len]
 refine hK _ _ ?_; clear hK K hA A
 refine .thenK (fun L s => L = [(0, .ptr b 0 0), (1, .sl c 0 l.length)] ∧ ∃ o', MkI o' s b bL bR (sendsM m l l.length) ∧ DI o σ c o' s ∧ s.blk c = some (.cells 4 (ltRows l m.tg l.length))) ?_ ?_
 ·refine .rangeK (N := l.length) (fun i L s => L = [(0, .ptr b 0 0), (1, .sl c 0 l.length), (11, .sl c 0 l.length), (12, I l.length), (13, I i)] ∧ ∃ o', MkI o' s b bL bR (sendsM m l i) ∧ DI o σ c o' s ∧ s.blk c = some (.cells 4 (ltRows l m.tg i))) hlm
   ⟨_, ⟨rfl, o, h, .refl _ _ _, hb⟩, by simp (maxSteps := 1000000) only [go_sem, ltRows_len]; try rfl⟩ ?_ ?_ ?_
  ·rintro i L s ⟨rfl, _⟩
   exact ⟨by simp (maxSteps := 1000000) only [go_sem], by simp (maxSteps := 1000000) only [go_sem], rfl⟩
  ·rintro i L s hi ⟨rfl, o', h', hD, hb'⟩
   have e0 : (i : Int) < l.length := by omega
   have hsm := sends_sm hk l i
   have htg := sends_tg m l i
   have hln := sends_len m l i
   obtain ⟨l1, l2⟩ := hl i hi
   have hrl := ltRows_len l m.tg i
   have hg := ltRows_get (tg := m.tg) (i := i) hi
   have hset := ltRows_set (tg := m.tg) hi
   rw [if_neg (by omega)] at hg
   have hM : sendsM m l (i + 1) = sendOne (sendsM m l i) (l.getD i lt0) := rfl
   obtain ⟨fr, to, rg, hM0⟩ : ∃ fr to rg, l.getD i lt0 = ⟨fr, to, rg⟩ := ⟨_, _, _, rfl⟩
   rw [hM0] at l1 l2 hg hset hM
   simp only at hg l1 l2
   simp only [ltRow] at hset
   have hsn := hD.n
   have hcs : c < s.next := by omega
   have ho'c : o' c = none := by rw [hD.l c hc]; exact hoc
   refine .midK (fun L u => L = [(0, .ptr b 0 0), (1, .sl c 0 l.length), (5, I i), (6, .ptr s.next 0 0), (11, .sl c 0 l.length), (12, I l.length), (13, I i)] ∧ u.next = s.next + 1 ∧ (∀ x, x < s.next → u.blk x = s.blk x) ∧ u.blk s.next = some (.cells 4 [[I fr, I to, I rg, I 0]])) ?_ ?_
   ·refine .rg fun A hA K hK => ?_
    simp (maxSteps := 1000000) only [go_sem, hA.nil, hA.go, hA.yes, hA.noT, hA.noF, hA.skp, hb', hg, hrl, e0, hi]
    refine hK _ _ ?_; clear hK K hA A
    exact ⟨_, ⟨rfl, by simp (maxSteps := 1000000) only [go_sem], fun x hx => by simp (disch := omega) only [go_sem, if_neg], by simp (maxSteps := 1000000) only [go_sem]⟩, by simp (maxSteps := 1000000) only [go_sem]⟩
   rintro L u ⟨rfl, hun, hux, hu6⟩
   obtain ⟨h1, -⟩ := h'.ext (s := u) (by omega) hux
   have D1 := hD.own (t := u) (by omega) fun x hx _ => hux x (by omega)
   have ub := (hux c hcs).trans hb'
   have hso : o' s.next = none := by
    cases hh : o' s.next with
    | none => rfl
    | some x => have := h'.lt s.next (by rw [hh]; simp); omega
   have t0 := hsm.t0
   have tk := hsm.tk
   refine .midK (fun L w => L = [(0, .ptr b 0 0), (1, .sl c 0 l.length), (5, I i), (6, .ptr s.next 0 0), (11, .sl c 0 l.length), (12, I l.length), (13, I i)] ∧ MkI o' w b bL bR { (sendsM m l i) with tg := (sendsM m l i).tg + 1 } ∧ DI o σ c o' w ∧ w.blk c = some (.cells 4 (ltRows l m.tg (i + 1))) ∧ w.blk s.next = some (.cells 4 [[I fr, I to, I rg, I 0]]) ∧ s.next < w.next) ?_ ?_
   ·refine .rg fun A hA K hK => ?_
    simp (maxSteps := 1000000) only [go_sem, hA.nil, hA.go, hA.yes, hA.noT, hA.noF, hA.skp]
    refine aopq_callQ (tag_TQ h1 ⟨t0, by omega⟩) (by simp (maxSteps := 1000000) only [go_sem]) ?_
    rintro v w ⟨rfl, h2, g2⟩
    have wc := (g2.2.2 c (by omega) ho'c).trans ub
    have w6 := (g2.2.2 s.next (by omega) hso).trans hu6
    have g21 := g2.1
    have nsc : ¬ s.next = c := by omega
    try simp (maxSteps := 1000000) only [go_sem, hA.nil, hA.go, hA.yes, hA.noT, hA.noF, hA.skp, wc, hrl, e0, hi, hg]
    refine hK _ _ ?_; clear hK K hA A
    refine ⟨_, ⟨rfl, ?_, (D1.grow g2).own (by simp (maxSteps := 1000000) only [go_sem]; try omega) fun x hx hxc => by simp (maxSteps := 1000000) only [go_sem, hxc], ?_, by simp (maxSteps := 1000000) only [go_sem, nsc]; exact w6, by simp (maxSteps := 1000000) only [go_sem]; omega⟩, by simp (maxSteps := 1000000) only [go_sem]⟩
    ·refine h2.frame (by simp (maxSteps := 1000000) only [go_sem]; try omega) fun x hx => ?_
     have : ¬ x = c := by rintro rfl; exact hx ho'c
     simp (maxSteps := 1000000) only [go_sem, this]
    ·rw [← hset, ← htg]; simp (maxSteps := 1000000) only [go_sem]
   rintro L w ⟨rfl, h2, D2, wc, w6, hwn⟩
   have hsm2 : (({ (sendsM m l i) with tg := (sendsM m l i).tg + 1 } : MkS)).Sm (k + i + 1) := by
    have h3 := hsm.mono (Nat.le_succ (k + i))
    exact ⟨h3.rl, h3.len, h3.r0, h3.rk, by simp only; omega, by simp only; omega, h3.is, h3.pl⟩
   obtain ⟨z, hT, o2, h3, g3⟩ := rput_T h2 hsm2 (by omega) fr (by rw [hln]; exact l1) (sendJ rg to (sendsM m l i).tg) ⟨by simp [sendJ], empty_sm⟩
   have ho2c : o' c = none := ho'c
   have hg2 := ltRows_get (tg := m.tg) (i := i + 1) hi
   rw [if_pos (by omega), ← htg] at hg2
   have hx : (l.getD i lt0).frm = fr ∧ (l.getD i lt0).to = to ∧ (l.getD i lt0).reg = rg := by
    have := hM0
    rw [this]; exact ⟨rfl, rfl, rfl⟩
   rw [hx.1, hx.2.1, hx.2.2] at hg2
   have hrl2 := ltRows_len l m.tg (i + 1)
   refine .rd fun A hA K hK => ?_
   simp (maxSteps := 1000000) only [go_sem, hA.nil, hA.go, hA.yes, hA.noT, hA.noF, hA.skp, w6, wc, hrl2, e0, hi, hg2]
   refine aop_callF hT (by simp (maxSteps := 1000000) only [go_sem, instrL, sendJ, emptyN, nodeL]) ?_
   try simp (maxSteps := 1000000) only [go_sem, hA.nil, hA.go, hA.yes, hA.noT, hA.noF, hA.skp]
   refine hK _ _ ?_; clear hK K hA A
   have hzc := (g3.2.2 c (by have := D2.n; omega) ho'c).trans wc
   refine ⟨by simp (maxSteps := 1000000) only [go_sem], _, ⟨rfl, o2, ?_, D2.grow g3, hzc⟩, by simp (maxSteps := 1000000) only [go_sem]; try rfl⟩
   rw [hM]; exact h3
  ·rintro L s F ⟨rfl, o', h', hD, hb'⟩ hf
   simp (maxSteps := 1000000) only [go_sem] at hf
   exact ⟨_, ⟨rfl, o', h', hD, hb'⟩, by simp (maxSteps := 1000000) only [go_sem, hf]⟩
 rintro L s ⟨rfl, o', h', hD, hb'⟩
 have hsn := hD.n
 have hsm0 := sends_sm hk l l.length
 have hln0 := sends_len m l l.length
 refine .seq (.rg fun A hA K hK => ?_)
 simp (maxSteps := 1000000) only [go_sem, hA.nil, hA.go, hA.yes, hA.noT, hA.noF, hA.skp]
 refine hK _ _ ?_; clear hK K hA A
 refine .seq (.seq (.rg fun A hA K hK => ?_))
 simp (maxSteps := 1000000) only [go_sem, hA.nil, hA.go, hA.yes, hA.noT, hA.noF, hA.skp, hb', ltRows_len]
 refine hK _ _ ?_; clear hK K hA A
 refine .thenK (fun L t => ∃ x, L = [(7, x)] ∧ ∃ o2, MkI o2 t b bL bR (delivM m l).1 ∧ DI o σ c o2 t ∧ (l.length = 0 ∧ x = .nils ∨ ∃ d, x = .sl d 0 l.length ∧ s.next ≤ d ∧ d < t.next ∧ o2 d = none ∧ t.blk d = some (.cells 1 ((delivM m l).2.map fun r => [I r])))) ?_ ?_
 ·refine .rangeK (N := l.length) (fun i L t => ∃ x, L = [(0, .ptr b 0 0), (1, .sl c 0 l.length), (7, x), (40, .sl c 0 l.length), (41, I l.length), (42, I i)] ∧ ∃ o2, MkI o2 t b bL bR (recvsM (sendsM m l l.length) m.tg l i).1 ∧ DI o σ c o2 t ∧ t.blk c = some (.cells 4 (ltRows l m.tg l.length)) ∧ s.next ≤ t.next ∧
    (i = 0 ∧ x = .nils ∨ ∃ d, x = .sl d 0 i ∧ s.next ≤ d ∧ d < t.next ∧ o2 d = none ∧ t.blk d = some (.cells 1 ((recvsM (sendsM m l l.length) m.tg l i).2.map fun r => [I r])))) hlm
   ⟨_, ⟨.nils, rfl, o', h', hD, hb', Nat.le_refl _, .inl ⟨rfl, rfl⟩⟩, by simp (maxSteps := 1000000) only [go_sem, ltRows_len]; try rfl⟩ ?_ ?_ ?_
  ·rintro i L t ⟨x, rfl, _⟩
   exact ⟨by simp (maxSteps := 1000000) only [go_sem], by simp (maxSteps := 1000000) only [go_sem], rfl⟩
  ·rintro i L t hi ⟨x, rfl, o2, h2, D2, hc2, hst, hx⟩
   have e0 : (i : Int) < l.length := by omega
   have hsm := recvs_sm hsm0 m.tg l i
   obtain ⟨hlr, hlo⟩ := recvs_len (sendsM m l l.length) m.tg l i
   obtain ⟨l1, l2⟩ := hl i hi
   have hrl := ltRows_len l m.tg l.length
   have hg := ltRows_get (tg := m.tg) (i := l.length) hi
   rw [if_pos hi] at hg
   have hM : recvsM (sendsM m l l.length) m.tg l (i + 1) = ((((recvsM (sendsM m l l.length) m.tg l i).1.fresh (l.getD i lt0).to).put (l.getD i lt0).to (recvJ ((recvsM (sendsM m l l.length) m.tg l i).1.rs.getD (l.getD i lt0).to 0) (l.getD i lt0).frm (m.tg + i))), (recvsM (sendsM m l l.length) m.tg l i).2 ++ [(recvsM (sendsM m l l.length) m.tg l i).1.rs.getD (l.getD i lt0).to 0]) := rfl
   obtain ⟨fr, to, rg, hM0⟩ : ∃ fr to rg, l.getD i lt0 = ⟨fr, to, rg⟩ := ⟨_, _, _, rfl⟩
   rw [hM0] at l1 l2 hg hM
   simp only at hg l1 l2 hM
   have htn := D2.n
   have hct : c < t.next := by omega
   have ho2c : o2 c = none := by rw [D2.l c hc]; exact hoc
   generalize recvsM (sendsM m l l.length) m.tg l i = p at *
   obtain ⟨mm, outs⟩ := p
   simp only at *
   rw [hln0] at hlr
   refine .midK (fun L u => L = [(0, .ptr b 0 0), (1, .sl c 0 l.length), (7, x), (9, .ptr t.next 0 0), (40, .sl c 0 l.length), (41, I l.length), (42, I i)] ∧ u.next = t.next + 1 ∧ (∀ y, y < t.next → u.blk y = t.blk y) ∧ u.blk t.next = some (.cells 4 [[I fr, I to, I rg, I (m.tg + i)]])) ?_ ?_
   ·refine .rg fun A hA K hK => ?_
    simp (maxSteps := 1000000) only [go_sem, hA.nil, hA.go, hA.yes, hA.noT, hA.noF, hA.skp, hc2, hg, hrl, e0, hi]
    refine hK _ _ ?_; clear hK K hA A
    exact ⟨_, ⟨rfl, by simp (maxSteps := 1000000) only [go_sem], fun x hx => by simp (disch := omega) only [go_sem, if_neg], by simp (maxSteps := 1000000) only [go_sem]⟩, by simp (maxSteps := 1000000) only [go_sem]⟩
   rintro L u ⟨rfl, hun, hux, hu9⟩
   obtain ⟨h3, g3⟩ := h2.ext (s := u) (by omega) hux
   have hso := h2.none
   obtain ⟨w, hT, h4, g4⟩ := fresh_TI h3 hsm (by omega) to (by omega)
   have w9 := (g4.2.2 t.next (by omega) hso).trans hu9
   refine .seq (.rg fun A hA K hK => ?_)
   simp (maxSteps := 1000000) only [go_sem, hA.nil, hA.go, hA.yes, hA.noT, hA.noF, hA.skp, hu9]
   refine aopq_callT hT (by simp (maxSteps := 1000000) only [go_sem]) ?_
   try simp (maxSteps := 1000000) only [go_sem, hA.nil, hA.go, hA.yes, hA.noT, hA.noF, hA.skp]
   refine hK _ _ ?_; clear hK K hA A
   obtain ⟨z, hT2, o3, h5, g5⟩ := rput_T h4 (hsm.fresh to) (by omega) to (by simpa [MkS.fresh] using (by omega : to < mm.ps.length)) (recvJ (mm.rs.getD to 0) fr (m.tg + i)) ⟨by simp [recvJ], empty_sm⟩
   refine .seq (.rg fun A hA K hK => ?_)
   simp (maxSteps := 1000000) only [go_sem, hA.nil, hA.go, hA.yes, hA.noT, hA.noF, hA.skp, w9]
   refine aopq_callT hT2 (by simp (maxSteps := 1000000) only [go_sem, instrL, recvJ, emptyN, nodeL]) ?_
   try simp (maxSteps := 1000000) only [go_sem, hA.nil, hA.go, hA.yes, hA.noT, hA.noF, hA.skp]
   refine hK _ _ ?_; clear hK K hA A
   have G := (g3.trans g4).trans g5
   have hzc : z.blk c = some (.cells 4 (ltRows l m.tg l.length)) := (G.2.2 c hct ho2c).trans hc2
   have D3 := D2.grow G
   have hzn := G.1
   have g31 := g3.1
   have g41 := g4.1
   have g51 := g5.1
   have hzo := h5.none
   rcases hx with ⟨hi0, rfl⟩ | ⟨d, rfl, d1, d2, d3, d4⟩
   ·refine .rg fun A hA K hK => ?_
    simp (maxSteps := 1000000) only [go_sem, hA.nil, hA.go, hA.yes, hA.noT, hA.noF, hA.skp]
    refine ⟨by decide, by decide, ?_⟩
    refine hK _ _ ?_; clear hK K hA A
    have ho : outs = [] := List.length_eq_zero_iff.1 (by omega)
    refine ⟨by simp (maxSteps := 1000000) only [go_sem], _, ⟨.sl z.next 0 (i + 1), by rw [hi0], o3, by rw [hM]; exact h5.frame (by simp (maxSteps := 1000000) only [go_sem]; try omega) (fun y hy => by have := h5.lt y hy; simp (disch := omega) only [go_sem, if_neg]), D3.own (by simp (maxSteps := 1000000) only [go_sem]; try omega) (fun y hy _ => ?_), ?_, by simp (maxSteps := 1000000) only [go_sem]; try omega, .inr ⟨z.next, rfl, by omega, by simp (maxSteps := 1000000) only [go_sem]; try omega, hzo, ?_⟩⟩, by simp (maxSteps := 1000000) only [go_sem, hi0]; try rfl⟩
    ·simp (disch := omega) only [go_sem, if_neg]
    ·rw [← hzc]; simp (disch := omega) only [go_sem, if_neg]
    ·rw [hM]; simp only [ho]; simp (maxSteps := 1000000) only [go_sem]
   ·have m1 : i + 1 ≤ most := by simp only [most]; omega
    have m2 : (i + 1) * 8 ≤ most := by simp only [most]; omega
    have hzd : z.blk d = some (.cells 1 (outs.map fun r => [I r])) := (G.2.2 d d2 d3).trans d4
    have m4 : List.take i (outs.map fun r => [AV.int .i64 r]) = outs.map fun r => [AV.int .i64 r] := List.take_of_length_le (by simp; omega)
    have o3d : o3 d = none := by rw [G.2.1 d d2]; exact d3
    have hdc : c ≠ d := by omega
    refine .rg fun A hA K hK => ?_
    simp (maxSteps := 1000000) only [go_sem, hA.nil, hA.go, hA.yes, hA.noT, hA.noF, hA.skp, hzd, m1, m2, m4, hlo, List.length_map]
    refine hK _ _ ?_; clear hK K hA A
    refine ⟨by simp (maxSteps := 1000000) only [go_sem], _, ⟨.sl z.next 0 (i + 1), rfl, o3, by rw [hM]; exact h5.frame (by simp (maxSteps := 1000000) only [go_sem]; try omega) (fun y hy => by have := h5.lt y hy; have : y ≠ d := (by rintro rfl; exact hy o3d); simp (disch := omega) only [go_sem, if_neg]), D3.own (by simp (maxSteps := 1000000) only [go_sem]; try omega) (fun y hy _ => ?_), ?_, by simp (maxSteps := 1000000) only [go_sem]; try omega, .inr ⟨z.next, rfl, by omega, by simp (maxSteps := 1000000) only [go_sem]; try omega, hzo, ?_⟩⟩, by simp (maxSteps := 1000000) only [go_sem]; try rfl⟩
    ·simp (disch := omega) only [go_sem, if_neg]
    ·rw [← hzc]; simp (disch := omega) only [go_sem, if_neg]
    ·rw [hM]; simp (maxSteps := 1000000) only [go_sem, List.map_append]
  ·rintro L t F ⟨x, rfl, o2, h2, D2, hc2, hst, hx⟩ hf
   simp (maxSteps := 1000000) only [go_sem] at hf
   exact ⟨_, ⟨x, rfl, o2, h2, D2, hx⟩, by simp (maxSteps := 1000000) only [go_sem, hf]⟩
 rintro L t ⟨x, rfl, o2, h2, D2, hx⟩
 obtain ⟨hlr, hlo⟩ := recvs_len (sendsM m l l.length) m.tg l l.length
 have hdl : (delivM m l).2.length = l.length := hlo
 rcases hx with ⟨h0, rfl⟩ | ⟨d, rfl, d1, d2, d3, d4⟩
 ·have e : (delivM m l).2 = [] := List.length_eq_zero_iff.1 (by omega)
  refine .ent (.sub 7 (by simp (maxSteps := 1000000) only [go_sem]) (.nils 1)) ?_
  refine .seq (.rg fun A hA K hK => ?_)
  simp (maxSteps := 1000000) only [go_sem, hA.nil, hA.go, hA.yes, hA.noT, hA.noF, hA.skp]
  refine hK _ _ ?_; clear hK K hA A
  exact .ret (retS (by simp (maxSteps := 1000000) only [go_sem]; try rfl) ⟨by rw [e]; rfl, o2, h2, D2⟩)
 ·refine .frz 7 (b := d) (n := l.length) (by simp (maxSteps := 1000000) only [go_sem]) d4 (by rw [List.length_map, hdl]) ?_
  refine .seq (.rg fun A hA K hK => ?_)
  simp (maxSteps := 1000000) only [go_sem, hA.nil, hA.go, hA.yes, hA.noT, hA.noF, hA.skp]
  refine hK _ _ ?_; clear hK K hA A
  refine .ret (retS (by simp (maxSteps := 1000000) only [go_sem]; try rfl) ⟨rfl, o2, h2.frame (by simp (maxSteps := 1000000) only [go_sem]; try omega) (fun y hy => ?_), D2.own (by simp (maxSteps := 1000000) only [go_sem]; try omega) fun y hy _ => ?_⟩)
  ·have : y ≠ d := by rintro rfl; exact hy d3
   simp (maxSteps := 1000000) only [go_sem, this]
  ·simp (maxSteps := 1000000) only [go_sem, show ¬ y = d by omega]
end mk
def idxI (l : List Int) (x : Int) : Int := match l.findIdx? (fun y => x == y) with
 | some i => i
 | none => -1
theorem idx_at {l : List Int} {i : Nat} {x : Int} (hi : i < l.length) (hno : (l.take i).all (fun y => !(x == y)) = true) :
  ((x == l[i]) = true → idxI l x = i) ∧ ((x == l[i]) = false → (l.take (i + 1)).all (fun y => !(x == y)) = true) := by
 constructor
 ·intro h
  have : l.findIdx? (fun y => x == y) = some i := by
   rw [List.findIdx?_eq_some_iff_getElem]
   refine ⟨hi, h, fun j hj => ?_⟩
   have := List.all_eq_true.1 hno l[j] (by rw [List.mem_take_iff_getElem]; exact ⟨j, by omega, rfl⟩)
   simpa using this
  simp only [idxI, this]
 ·intro h
  rw [List.take_succ_eq_append_getElem hi, List.all_append, hno]
  simp [h]
theorem idx_none {l : List Int} {x : Int} (hno : (l.take l.length).all (fun y => !(x == y)) = true) : idxI l x = -1 := by
 rw [List.take_length] at hno
 have : l.findIdx? (fun y => x == y) = none := by
  rw [List.findIdx?_eq_none_iff]
  intro y hy
  have := List.all_eq_true.1 hno y hy
  simpa using this
 simp only [idxI, this]
theorem idx_contains (l : List Int) (x : Int) : decide (idxI l x ≥ 0) = l.contains x := by
 unfold idxI
 cases h : l.findIdx? (fun y => x == y) with
 | none =>
  rw [List.findIdx?_eq_none_iff] at h
  have : l.contains x = false := by
   rw [Bool.eq_false_iff]; intro hc
   have := h x (by simpa using hc)
   simp at this
  rw [this]; simp
 | some i =>
  obtain ⟨hi, h1, _⟩ := List.findIdx?_eq_some_iff_getElem.1 h
  have : l.contains x = true := by
   have e : x = l[i] := by simpa using h1
   rw [e]; simp
  rw [this]; simp
/-- slices.Index -/
theorem indexInt_spec (l : List Int) (x : Int) (σ : St) : T Try.prog 127 [ints l, I x] σ (I (idxI l x)) σ := by
 refine in127 (by simp) fun wf hab => ?_
 have hl := hab_ints (hab 0 (by simp))
 clear hab
 unfold c127
 refine .seq (.rg fun A hA K hK => ?_)
 simp (maxSteps := 1000000) only [go_sem, hA.nil, hA.go, hA.yes, hA.noT, hA.noF, hA.skp]
 refine hK _ _ ?_; clear hK K hA A
 refine .seq (.seq (.rg fun A hA K hK => ?_))
 simp (maxSteps := 1000000) only [go_sem, hA.nil, hA.go, hA.yes, hA.noT, hA.noF, hA.skp]
 refine hK _ _ ?_; clear hK K hA A
 refine .rangeK (N := l.length) (fun i L t => L = [(0, ints l), (1, I x), (7, I l.length), (8, I i)] ∧ σ = t ∧ (l.take i).all (fun y => !(x == y)) = true) hl
  ⟨_, ⟨rfl, rfl, by simp⟩, by simp (maxSteps := 1000000) only [go_sem]; try rfl⟩ ?_ ?_ ?_
 ·rintro i L t ⟨rfl, _⟩
  exact ⟨by simp (maxSteps := 1000000) only [go_sem], by simp (maxSteps := 1000000) only [go_sem], rfl⟩
 ·rintro i L t hi ⟨rfl, rfl, hno⟩
  have e0 : (i : Int) < l.length := by omega
  have hg := ints_get hi
  obtain ⟨i1, i2⟩ := idx_at hi hno
  generalize l[i] = y at hg i1 i2
  refine .seq (.rg fun A hA K hK => ?_)
  simp (maxSteps := 1000000) only [go_sem, hA.nil, hA.go, hA.yes, hA.noT, hA.noF, hA.skp]
  refine hK _ _ ?_; clear hK K hA A
  refine .seq (.rg fun A hA K hK => ?_)
  simp (maxSteps := 1000000) only [go_sem, hA.nil, hA.go, hA.yes, hA.noT, hA.noF, hA.skp, e0, hg, hi]
  refine hK _ _ ?_; clear hK K hA A
  refine .cond (t := x == y) (by simp (maxSteps := 1000000) only [go_sem]) (fun ht => ?_) (fun ht => .skip ?_)
  ·have := i1 ht
   refine .seq (.rg fun A hA K hK => ?_)
   simp (maxSteps := 1000000) only [go_sem, hA.nil, hA.go, hA.yes, hA.noT, hA.noF, hA.skp]
   refine hK _ _ ?_; clear hK K hA A
   exact .ret (ret1 (by simp (maxSteps := 1000000) only [go_sem, this]) rfl)
  ·exact ⟨by simp (maxSteps := 1000000) only [go_sem], _, ⟨rfl, rfl, i2 ht⟩, by simp (maxSteps := 1000000) only [go_sem]; try rfl⟩
 ·rintro L t F ⟨rfl, rfl, hno⟩ hf
  simp (maxSteps := 1000000) only [go_sem] at hf
  have := idx_none hno
  refine .seq (.rg fun A hA K hK => ?_)
  simp (maxSteps := 1000000) only [go_sem, hA.nil, hA.go, hA.yes, hA.noT, hA.noF, hA.skp]
  refine hK _ _ ?_; clear hK K hA A
  exact .ret (ret1 (by simp (maxSteps := 1000000) only [go_sem, this]) rfl)
/-- slices.Contains -/
theorem containsInt_spec (l : List Int) (x : Int) (σ : St) : T Try.prog 107 [ints l, I x] σ (.bool (l.contains x)) σ := by
 refine in107 (by simp) fun wf hab => ?_
 clear hab
 have hc := idx_contains l x
 unfold c107
 refine .seq (.rg fun A hA K hK => ?_)
 simp (maxSteps := 1000000) only [go_sem, hA.nil, hA.go, hA.yes, hA.noT, hA.noF, hA.skp]
 refine hK _ _ ?_; clear hK K hA A
 refine .seq (.rg fun A hA K hK => ?_)
 simp (maxSteps := 1000000) only [go_sem, hA.nil, hA.go, hA.yes, hA.noT, hA.noF, hA.skp]
 refine aopq_call (indexInt_spec l x _) (by simp (maxSteps := 1000000) only [go_sem]) ?_
 try simp (maxSteps := 1000000) only [go_sem, hA.nil, hA.go, hA.yes, hA.noT, hA.noF, hA.skp]
 refine hK _ _ ?_; clear hK K hA A
 exact .ret (ret1 (by simp (maxSteps := 1000000) only [go_sem, hc]) rfl)
def okGrp (n : Nat) (g r : List Int) (i : Nat) : Bool := decide (0 ≤ g.getD i 0) && (decide (g.getD i 0 < n) && (!(g.take i).contains (g.getD i 0) && decide (0 ≤ r.getD i 0)))
def mayR (n : Nat) (g r : List Int) : Bool := decide (1 ≤ g.length) && (decide (g.length ≤ 8) && ((r.length == g.length) && (List.range g.length).all (okGrp n g r)))
theorem mayR_bad {n : Nat} {g r : List Int} {i : Nat} (hi : i < g.length) (h : okGrp n g r i = false) : mayR n g r = false := by
 have : (List.range g.length).all (okGrp n g r) = false := by
  rw [Bool.eq_false_iff]; intro hall
  rw [List.all_eq_true] at hall
  have := hall i (by simpa using hi)
  rw [this] at h; cases h
 simp only [mayR, this, Bool.and_false]
section mk
variable {o : Nat → Option Nat} {σ : St} {b bL bR : Nat} {vs : List AV} {ps : List (List Instr)} {rs : List Int} {tg : Int}
theorem mayNil_spec (g r : List Int) (σ : St) : T Try.prog 71 [.nilp, ints g, ints r] σ (I 1) σ := by
 refine in71 (by simp) fun wf hab => ?_
 clear hab
 unfold c71
 refine .seq (.rg fun A hA K hK => ?_)
 simp (maxSteps := 1000000) only [go_sem, hA.nil, hA.go, hA.yes, hA.noT, hA.noF, hA.skp]
 refine hK _ _ ?_; clear hK K hA A
 refine .seq (.seq (.rg fun A hA K hK => ?_))
 simp (maxSteps := 1000000) only [go_sem, hA.nil, hA.go, hA.yes, hA.noT, hA.noF, hA.skp]
 refine hK _ _ ?_; clear hK K hA A
 refine .cond (t := true) (by simp (maxSteps := 1000000) only [go_sem]) (fun _ => ?_) (fun h => by cases h)
 refine .seq (.rg fun A hA K hK => ?_)
 simp (maxSteps := 1000000) only [go_sem, hA.nil, hA.go, hA.yes, hA.noT, hA.noF, hA.skp]
 refine hK _ _ ?_; clear hK K hA A
 exact .ret (ret1 (by simp (maxSteps := 1000000) only [go_sem]) rfl)
/-- ring.may -/
theorem mayRing_spec (hb : σ.blk b = some (.cells 3 [[.sl bL 0 ps.length, .sl bR 0 rs.length, I tg]])) (g r : List Int) : T Try.prog 71 [.ptr b 0 0, ints g, ints r] σ (I (if mayR ps.length g r = true then 0 else 1)) σ := by
 refine in71 (by simp) fun wf hab => ?_
 have hg := hab_ints (hab 1 (by simp))
 have hr := hab_ints (hab 2 (by simp))
 clear hab
 unfold c71
 refine .seq (.rg fun A hA K hK => ?_)
 simp (maxSteps := 1000000) only [go_sem, hA.nil, hA.go, hA.yes, hA.noT, hA.noF, hA.skp]
 refine hK _ _ ?_; clear hK K hA A
 have bad : mayR ps.length g r = false → (if mayR ps.length g r = true then (0 : Int) else 1) = 1 := fun h => if_neg (by rw [h]; simp)
 by_cases h1 : (g.length : Int) < 1
 ·have hm := bad (by simp only [mayR, decide_eq_false (show ¬ 1 ≤ g.length by omega), Bool.false_and])
  refine .seq (.seq (.rg fun A hA K hK => ?_))
  simp (maxSteps := 1000000) only [go_sem, hA.nil, hA.go, hA.yes, hA.noT, hA.noF, hA.skp, h1]
  refine hK _ _ ?_; clear hK K hA A
  refine .cond (t := true) (by simp (maxSteps := 1000000) only [go_sem]) (fun _ => ?_) (fun h => by cases h)
  refine .seq (.rg fun A hA K hK => ?_)
  simp (maxSteps := 1000000) only [go_sem, hA.nil, hA.go, hA.yes, hA.noT, hA.noF, hA.skp]
  refine hK _ _ ?_; clear hK K hA A
  exact .ret (ret1 (by simp (maxSteps := 1000000) only [go_sem, hm]) rfl)
 by_cases h2 : (g.length : Int) > 8
 ·have hm := bad (by simp only [mayR, decide_eq_false (show ¬ g.length ≤ 8 by omega), Bool.false_and, Bool.and_false])
  refine .seq (.seq (.rg fun A hA K hK => ?_))
  simp (maxSteps := 1000000) only [go_sem, hA.nil, hA.go, hA.yes, hA.noT, hA.noF, hA.skp, h1, h2]
  refine hK _ _ ?_; clear hK K hA A
  refine .cond (t := true) (by simp (maxSteps := 1000000) only [go_sem]) (fun _ => ?_) (fun h => by cases h)
  refine .seq (.rg fun A hA K hK => ?_)
  simp (maxSteps := 1000000) only [go_sem, hA.nil, hA.go, hA.yes, hA.noT, hA.noF, hA.skp]
  refine hK _ _ ?_; clear hK K hA A
  exact .ret (ret1 (by simp (maxSteps := 1000000) only [go_sem, hm]) rfl)
 by_cases h3 : r.length = g.length
 ·have c3 : ((r.length : Int) != g.length) = false := by rw [h3]; simp
  refine .seq (.seq (.rg fun A hA K hK => ?_))
  simp (maxSteps := 1000000) only [go_sem, hA.nil, hA.go, hA.yes, hA.noT, hA.noF, hA.skp, h1, h2, c3]
  refine hK _ _ ?_; clear hK K hA A
  refine .cond (t := false) (by simp (maxSteps := 1000000) only [go_sem]) (fun h => by cases h) (fun _ => .skip ?_)
  refine .seq (.seq (.rg fun A hA K hK => ?_))
  simp (maxSteps := 1000000) only [go_sem, hA.nil, hA.go, hA.yes, hA.noT, hA.noF, hA.skp]
  refine hK _ _ ?_; clear hK K hA A
  refine .rangeK (N := g.length) (fun i L t => L = [(0, .ptr b 0 0), (1, ints g), (2, ints r), (28, ints g), (29, I g.length), (30, I i)] ∧ σ = t ∧ (List.range i).all (okGrp ps.length g r) = true) hg
   ⟨_, ⟨rfl, rfl, by simp⟩, by simp (maxSteps := 1000000) only [go_sem]; try rfl⟩ ?_ ?_ ?_
  ·rintro i L t ⟨rfl, _⟩
   exact ⟨by simp (maxSteps := 1000000) only [go_sem], by simp (maxSteps := 1000000) only [go_sem], rfl⟩
  ·rintro i L t hi ⟨rfl, rfl, ha⟩
   have e0 : (i : Int) < g.length := by omega
   have e1 : (i : Int) ≤ g.length := by omega
   have er : (i : Int) < r.length := by omega
   have hgg : (g.map fun n => [I n]).getD i [] = [I (g.getD i 0)] := by rw [ints_get hi]; simp [List.getD_eq_getElem?_getD, hi]
   have hrr : (r.map fun n => [I n]).getD i [] = [I (r.getD i 0)] := by rw [ints_get (by omega)]; simp [List.getD_eq_getElem?_getD, h3, hi]
   have htk : ((g.map fun n => [AV.int .i64 n]).take i) = (g.take i).map fun n => [AV.int .i64 n] := by rw [List.map_take]
   have q2 := devices_spec hb
   have q3 := containsInt_spec (g.take i) (g.getD i 0) σ
   refine .seq (.rg fun A hA K hK => ?_)
   simp (maxSteps := 1000000) only [go_sem, hA.nil, hA.go, hA.yes, hA.noT, hA.noF, hA.skp, e0, hgg]
   refine hK _ _ ?_; clear hK K hA A
   by_cases k1 : g.getD i 0 < 0
   ·have hm := bad (mayR_bad hi (by simp only [okGrp, decide_eq_false (show ¬ 0 ≤ g.getD i 0 by omega), Bool.false_and]))
    refine .seq (.rg fun A hA K hK => ?_)
    simp (maxSteps := 1000000) only [go_sem, hA.nil, hA.go, hA.yes, hA.noT, hA.noF, hA.skp, k1]
    refine hK _ _ ?_; clear hK K hA A
    refine .cond (t := true) (by simp (maxSteps := 1000000) only [go_sem]) (fun _ => ?_) (fun h => by cases h)
    refine .seq (.rg fun A hA K hK => ?_)
    simp (maxSteps := 1000000) only [go_sem, hA.nil, hA.go, hA.yes, hA.noT, hA.noF, hA.skp]
    refine hK _ _ ?_; clear hK K hA A
    exact .ret (ret1 (by simp (maxSteps := 1000000) only [go_sem, hm]) rfl)
   by_cases k2 : g.getD i 0 ≥ ps.length
   ·have hm := bad (mayR_bad hi (by simp only [okGrp, decide_eq_false (show ¬ g.getD i 0 < ps.length by omega), Bool.false_and, Bool.and_false]))
    refine .seq (.rg fun A hA K hK => ?_)
    simp (maxSteps := 1000000) only [go_sem, hA.nil, hA.go, hA.yes, hA.noT, hA.noF, hA.skp, k1, k2]
    refine aopq_call (q2) (by simp (maxSteps := 1000000) only [go_sem]) ?_
    try simp (maxSteps := 1000000) only [go_sem, hA.nil, hA.go, hA.yes, hA.noT, hA.noF, hA.skp]
    try simp (maxSteps := 1000000) only [go_sem, hA.nil, hA.go, hA.yes, hA.noT, hA.noF, hA.skp, k1, k2]
    refine hK _ _ ?_; clear hK K hA A
    refine .cond (t := true) (by simp (maxSteps := 1000000) only [go_sem]) (fun _ => ?_) (fun h => by cases h)
    refine .seq (.rg fun A hA K hK => ?_)
    simp (maxSteps := 1000000) only [go_sem, hA.nil, hA.go, hA.yes, hA.noT, hA.noF, hA.skp]
    refine hK _ _ ?_; clear hK K hA A
    exact .ret (ret1 (by simp (maxSteps := 1000000) only [go_sem, hm]) rfl)
   cases k3 : (g.take i).contains (g.getD i 0) <;> rw [k3] at q3
   ·by_cases k4 : r.getD i 0 < 0
    ·have hm := bad (mayR_bad hi (by simp only [okGrp, decide_eq_false (show ¬ 0 ≤ r.getD i 0 by omega), Bool.and_false]))
     refine .seq (.rg fun A hA K hK => ?_)
     simp (maxSteps := 1000000) only [go_sem, hA.nil, hA.go, hA.yes, hA.noT, hA.noF, hA.skp, k1, k2, k4, e1, er, htk, hrr]
     refine aopq_call (q2) (by simp (maxSteps := 1000000) only [go_sem]) ?_
     try simp (maxSteps := 1000000) only [go_sem, hA.nil, hA.go, hA.yes, hA.noT, hA.noF, hA.skp]
     try simp (maxSteps := 1000000) only [go_sem, hA.nil, hA.go, hA.yes, hA.noT, hA.noF, hA.skp, k1, k2, k4, e1, er, htk, hrr]
     refine aopq_call (q3) (by simp (maxSteps := 1000000) only [go_sem]) ?_
     try simp (maxSteps := 1000000) only [go_sem, hA.nil, hA.go, hA.yes, hA.noT, hA.noF, hA.skp]
     try simp (maxSteps := 1000000) only [go_sem, hA.nil, hA.go, hA.yes, hA.noT, hA.noF, hA.skp, k1, k2, k4, e1, er, htk, hrr]
     refine hK _ _ ?_; clear hK K hA A
     refine .cond (t := true) (by simp (maxSteps := 1000000) only [go_sem]) (fun _ => ?_) (fun h => by cases h)
     refine .seq (.rg fun A hA K hK => ?_)
     simp (maxSteps := 1000000) only [go_sem, hA.nil, hA.go, hA.yes, hA.noT, hA.noF, hA.skp]
     refine hK _ _ ?_; clear hK K hA A
     exact .ret (ret1 (by simp (maxSteps := 1000000) only [go_sem, hm]) rfl)
    ·refine .seq (.rg fun A hA K hK => ?_)
     simp (maxSteps := 1000000) only [go_sem, hA.nil, hA.go, hA.yes, hA.noT, hA.noF, hA.skp, k1, k2, k4, e1, er, htk, hrr]
     refine aopq_call (q2) (by simp (maxSteps := 1000000) only [go_sem]) ?_
     try simp (maxSteps := 1000000) only [go_sem, hA.nil, hA.go, hA.yes, hA.noT, hA.noF, hA.skp]
     try simp (maxSteps := 1000000) only [go_sem, hA.nil, hA.go, hA.yes, hA.noT, hA.noF, hA.skp, k1, k2, k4, e1, er, htk, hrr]
     refine aopq_call (q3) (by simp (maxSteps := 1000000) only [go_sem]) ?_
     try simp (maxSteps := 1000000) only [go_sem, hA.nil, hA.go, hA.yes, hA.noT, hA.noF, hA.skp]
     try simp (maxSteps := 1000000) only [go_sem, hA.nil, hA.go, hA.yes, hA.noT, hA.noF, hA.skp, k1, k2, k4, e1, er, htk, hrr]
     refine hK _ _ ?_; clear hK K hA A
     refine .cond (t := false) (by simp (maxSteps := 1000000) only [go_sem]) (fun h => by cases h) (fun _ => .skip ?_)
     refine ⟨by simp (maxSteps := 1000000) only [go_sem], _, ⟨rfl, rfl, ?_⟩, by simp (maxSteps := 1000000) only [go_sem]; try rfl⟩
     rw [List.range_succ, List.all_append, ha]
     simp only [List.all_cons, List.all_nil, Bool.and_true, Bool.true_and, okGrp, k3, Bool.not_false, decide_eq_true (show 0 ≤ g.getD i 0 by omega), decide_eq_true (show g.getD i 0 < ps.length by omega), decide_eq_true (show 0 ≤ r.getD i 0 by omega)]
   ·have hm := bad (mayR_bad hi (by simp only [okGrp, k3, Bool.not_true, Bool.false_and, Bool.and_false]))
    refine .seq (.rg fun A hA K hK => ?_)
    simp (maxSteps := 1000000) only [go_sem, hA.nil, hA.go, hA.yes, hA.noT, hA.noF, hA.skp, k1, k2, e1, htk]
    refine aopq_call (q2) (by simp (maxSteps := 1000000) only [go_sem]) ?_
    try simp (maxSteps := 1000000) only [go_sem, hA.nil, hA.go, hA.yes, hA.noT, hA.noF, hA.skp]
    try simp (maxSteps := 1000000) only [go_sem, hA.nil, hA.go, hA.yes, hA.noT, hA.noF, hA.skp, k1, k2, e1, htk]
    refine aopq_call (q3) (by simp (maxSteps := 1000000) only [go_sem]) ?_
    try simp (maxSteps := 1000000) only [go_sem, hA.nil, hA.go, hA.yes, hA.noT, hA.noF, hA.skp]
    try simp (maxSteps := 1000000) only [go_sem, hA.nil, hA.go, hA.yes, hA.noT, hA.noF, hA.skp, k1, k2, e1, htk]
    refine hK _ _ ?_; clear hK K hA A
    refine .cond (t := true) (by simp (maxSteps := 1000000) only [go_sem]) (fun _ => ?_) (fun h => by cases h)
    refine .seq (.rg fun A hA K hK => ?_)
    simp (maxSteps := 1000000) only [go_sem, hA.nil, hA.go, hA.yes, hA.noT, hA.noF, hA.skp]
    refine hK _ _ ?_; clear hK K hA A
    exact .ret (ret1 (by simp (maxSteps := 1000000) only [go_sem, hm]) rfl)
  ·rintro L t F ⟨rfl, rfl, ha⟩ hf
   have hm : (if mayR ps.length g r = true then (0 : Int) else 1) = 0 := if_pos (by
    simp only [mayR, ha, h3, decide_eq_true (show 1 ≤ g.length by omega), decide_eq_true (show g.length ≤ 8 by omega), beq_self_eq_true, Bool.and_self])
   refine .seq (.rg fun A hA K hK => ?_)
   simp (maxSteps := 1000000) only [go_sem, hA.nil, hA.go, hA.yes, hA.noT, hA.noF, hA.skp]
   refine hK _ _ ?_; clear hK K hA A
   exact .ret (ret1 (by simp (maxSteps := 1000000) only [go_sem, hm]) rfl)
 ·have c3 : ((r.length : Int) != g.length) = true := by simp; omega
  have c4 : (r.length == g.length) = false := by simpa using h3
  have hm := bad (by simp only [mayR, c4, Bool.false_and, Bool.and_false])
  refine .seq (.seq (.rg fun A hA K hK => ?_))
  simp (maxSteps := 1000000) only [go_sem, hA.nil, hA.go, hA.yes, hA.noT, hA.noF, hA.skp, h1, h2, c3]
  refine hK _ _ ?_; clear hK K hA A
  refine .cond (t := true) (by simp (maxSteps := 1000000) only [go_sem]) (fun _ => ?_) (fun h => by cases h)
  refine .seq (.rg fun A hA K hK => ?_)
  simp (maxSteps := 1000000) only [go_sem, hA.nil, hA.go, hA.yes, hA.noT, hA.noF, hA.skp]
  refine hK _ _ ?_; clear hK K hA A
  exact .ret (ret1 (by simp (maxSteps := 1000000) only [go_sem, hm]) rfl)

/-- ring.each -/
theorem each_spec (n : Int) (σ : St) : T Try.prog 74 [I n] σ (.func 108 [.ptr σ.next 0 0]) (σ.push (.cells 1 [[I n]])) := by
 refine in74 (by simp) fun wf hab => ?_
 clear hab
 unfold c74
 refine .seq (.rg fun A hA K hK => ?_)
 simp (maxSteps := 1000000) only [go_sem, hA.nil, hA.go, hA.yes, hA.noT, hA.noF, hA.skp]
 refine hK _ _ ?_; clear hK K hA A
 refine .seq (.rg fun A hA K hK => ?_)
 simp (maxSteps := 1000000) only [go_sem, hA.nil, hA.go, hA.yes, hA.noT, hA.noF, hA.skp]
 refine hK _ _ ?_; clear hK K hA A
 exact .ret (retS (by simp (maxSteps := 1000000) only [go_sem]) ⟨rfl, rfl⟩)
theorem eachF_spec {n : Int} {c : Nat} (hc : σ.blk c = some (.cells 1 [[I n]])) (i : Int) : T Try.prog 108 [I i, .ptr c 0 0] σ (I n) σ := by
 refine in108 (by simp) fun wf hab => ?_
 clear hab
 unfold c108
 refine .seq (.rg fun A hA K hK => ?_)
 simp (maxSteps := 1000000) only [go_sem, hA.nil, hA.go, hA.yes, hA.noT, hA.noF, hA.skp]
 refine hK _ _ ?_; clear hK K hA A
 refine .seq (.rg fun A hA K hK => ?_)
 simp (maxSteps := 1000000) only [go_sem, hA.nil, hA.go, hA.yes, hA.noT, hA.noF, hA.skp, hc]
 refine hK _ _ ?_; clear hK K hA A
 exact .ret (retS (by simp (maxSteps := 1000000) only [go_sem]) ⟨rfl, rfl⟩)
/-- ring.Room, where there is -/
theorem roomRing_spec (h : Mk o σ b bL bR vs ps rs tg) (g : List Int) (f : FuncId) (cs : List AV) (needs : Nat → Int) (hcs : ∀ i, i < g.length → T Try.prog f ([I i] ++ cs) σ (I (needs i)) σ)
  (hd : ∀ i, i < g.length → 0 ≤ g.getD i 0 ∧ g.getD i 0 < ps.length ∧ needs i ≤ 65536 - ((ps.getD (g.getD i 0).toNat []).length : Nat)) (hlen : ∀ d, (ps.getD d []).length ≤ 65536) :
  T Try.prog 73 [.ptr b 0 0, ints g, .func f cs] σ (I 0) σ := by
 refine in73 (by simp) fun wf hab => ?_
 have hg := hab_ints (hab 1 (by simp))
 clear hab
 unfold c73
 refine .seq (.rg fun A hA K hK => ?_)
 simp (maxSteps := 1000000) only [go_sem, hA.nil, hA.go, hA.yes, hA.noT, hA.noF, hA.skp]
 refine hK _ _ ?_; clear hK K hA A
 refine .seq (.seq (.rg fun A hA K hK => ?_))
 simp (maxSteps := 1000000) only [go_sem, hA.nil, hA.go, hA.yes, hA.noT, hA.noF, hA.skp]
 refine hK _ _ ?_; clear hK K hA A
 refine .rangeK (N := g.length) (fun i L t => L = [(0, .ptr b 0 0), (2, .func f cs), (9, ints g), (10, I g.length), (11, I i)] ∧ σ = t) hg
  ⟨_, ⟨rfl, rfl⟩, by simp (maxSteps := 1000000) only [go_sem]; try rfl⟩ ?_ ?_ ?_
 ·rintro i L t ⟨rfl, _⟩
  exact ⟨by simp (maxSteps := 1000000) only [go_sem], by simp (maxSteps := 1000000) only [go_sem], rfl⟩
 ·rintro i L t hi ⟨rfl, rfl⟩
  have e0 : (i : Int) < g.length := by omega
  have hgg : (g.map fun n => [I n]).getD i [] = [I (g.getD i 0)] := by rw [ints_get hi]; simp [List.getD_eq_getElem?_getD, hi]
  obtain ⟨d0, d1, d2⟩ := hd i hi
  have hl := hlen (g.getD i 0).toNat
  have q1 := room_spec h (g.getD i 0)
  rw [if_pos ⟨d0, d1⟩, IntWalk.i64_in _ (by omega)] at q1
  have c1 : ¬ ((65536 - ((ps.getD (g.getD i 0).toNat []).length : Nat) : Int) < needs i) := by omega
  refine .seq (.rg fun A hA K hK => ?_)
  simp (maxSteps := 1000000) only [go_sem, hA.nil, hA.go, hA.yes, hA.noT, hA.noF, hA.skp, e0, hgg]
  refine hK _ _ ?_; clear hK K hA A
  refine .seq (.rg fun A hA K hK => ?_)
  simp (maxSteps := 1000000) only [go_sem, hA.nil, hA.go, hA.yes, hA.noT, hA.noF, hA.skp]
  refine aopq_call (q1) (by simp (maxSteps := 1000000) only [go_sem]) ?_
  try simp (maxSteps := 1000000) only [go_sem, hA.nil, hA.go, hA.yes, hA.noT, hA.noF, hA.skp]
  refine aopq_callv (by simp (maxSteps := 1000000) only [go_sem]; try rfl) (hcs i hi) (by simp (maxSteps := 1000000) only [go_sem]) ?_
  try simp (maxSteps := 1000000) only [go_sem, hA.nil, hA.go, hA.yes, hA.noT, hA.noF, hA.skp, c1]
  refine hK _ _ ?_; clear hK K hA A
  refine .cond (t := false) (by simp (maxSteps := 1000000) only [go_sem, c1]) (fun h => by cases h) (fun _ => .skip ?_)
  exact ⟨by simp (maxSteps := 1000000) only [go_sem], _, ⟨rfl, rfl⟩, by simp (maxSteps := 1000000) only [go_sem]; try rfl⟩
 ·rintro L t F ⟨rfl, rfl⟩ hf
  refine .seq (.rg fun A hA K hK => ?_)
  simp (maxSteps := 1000000) only [go_sem, hA.nil, hA.go, hA.yes, hA.noT, hA.noF, hA.skp]
  refine hK _ _ ?_; clear hK K hA A
  exact .ret (retS (by simp (maxSteps := 1000000) only [go_sem]) ⟨rfl, rfl⟩)
end mk
/-- Numbers of devices. -/
def natI (g : List Nat) : List Int := g.map fun (d : Nat) => (d : Int)
theorem natI_len (g : List Nat) : (natI g).length = g.length := by simp [natI]
theorem natI_get {g : List Nat} {i : Nat} (h : i < g.length) : ((natI g).map fun n => [I n]).getD i [] = [I (g.getD i 0 : Nat)] := by simp [natI, h]
/-- Letters: of the i-th, from the first j others; of the first i. -/
def inE (g : List Nat) (rg : Nat → Nat → Int) (i : Nat) : Nat → List Lt
 | 0 => []
 | j + 1 => inE g rg i j ++ (if i = j then [] else [⟨g.getD j 0, g.getD i 0, rg i j⟩])
def outE (g : List Nat) (rg : Nat → Nat → Int) : Nat → List Lt
 | 0 => []
 | i + 1 => outE g rg i ++ inE g rg i g.length
def posE (g : List Nat) (rg : Nat → Nat → Int) (i j : Nat) : Nat := (outE g rg i).length + (inE g rg i j).length
def rowE (own : Nat → Int) (got : List Int) (pos : Nat → Nat → Nat) (i j : Nat) : List Int := (List.range j).map fun q => if i = q then own i else got.getD (pos i q) 0
def rowsA (rows : List (List Int)) : AV := .lit 1 (rows.map fun r => [ints r])

section plain
variable {g : List Nat} {rg : Nat → Nat → Int}
theorem inE_len (i : Nat) : ∀ j, (inE g rg i j).length ≤ j
 | 0 => Nat.le_refl _
 | j + 1 => by
  have := inE_len i j
  unfold inE
  split <;> simp only [List.length_append, List.length_nil, List.length_cons] <;> omega
theorem outE_len : ∀ i, (outE g rg i).length ≤ i * g.length
 | 0 => by simp [outE]
 | i + 1 => by
  have h1 := outE_len i
  have h2 := inE_len (g := g) (rg := rg) i g.length
  simp only [outE, List.length_append, Nat.succ_mul]; omega
theorem inE_pre (i : Nat) {j k : Nat} (h : j ≤ k) : ∃ r, inE g rg i k = inE g rg i j ++ r := by
 induction k with
 | zero => exact ⟨[], by rw [Nat.le_zero.1 h]; simp⟩
 | succ k ih =>
  by_cases hk : j = k + 1
  ·subst hk; exact ⟨[], by simp⟩
  ·obtain ⟨r, hr⟩ := ih (by omega)
   exact ⟨r ++ (if i = k then [] else [⟨g.getD k 0, g.getD i 0, rg i k⟩]), by rw [inE, hr, List.append_assoc]⟩
theorem outE_pre {i k : Nat} (h : i ≤ k) : ∃ r, outE g rg k = outE g rg i ++ r := by
 induction k with
 | zero => exact ⟨[], by rw [Nat.le_zero.1 h]; simp⟩
 | succ k ih =>
  by_cases hk : i = k + 1
  ·subst hk; exact ⟨[], by simp⟩
  ·obtain ⟨r, hr⟩ := ih (by omega)
   exact ⟨r ++ inE g rg k g.length, by rw [outE, hr, List.append_assoc]⟩
/-- Where a letter lies. -/
theorem lets_get {i j : Nat} (hi : i < g.length) (hj : j < g.length) (hij : i ≠ j) : posE g rg i j < (outE g rg g.length).length ∧ (outE g rg g.length).getD (posE g rg i j) lt0 = ⟨g.getD j 0, g.getD i 0, rg i j⟩ := by
 obtain ⟨r1, h1⟩ := outE_pre (g := g) (rg := rg) (show i + 1 ≤ g.length by omega)
 obtain ⟨r2, h2⟩ := inE_pre (g := g) (rg := rg) i (show j + 1 ≤ g.length by omega)
 have h3 : inE g rg i (j + 1) = inE g rg i j ++ [⟨g.getD j 0, g.getD i 0, rg i j⟩] := by rw [inE, if_neg hij]
 rw [h1, outE, h2, h3]
 unfold posE
 constructor
 ·simp only [List.length_append, List.length_cons, List.length_nil]; omega
 ·simp [List.getD_eq_getElem?_getD, List.getElem?_append]
theorem lets_mem {x : Lt} : x ∈ outE g rg g.length → ∃ i j, i < g.length ∧ j < g.length ∧ i ≠ j ∧ x = ⟨g.getD j 0, g.getD i 0, rg i j⟩ := by
 have inn : ∀ i k, k ≤ g.length → x ∈ inE g rg i k → ∃ j, j < g.length ∧ i ≠ j ∧ x = ⟨g.getD j 0, g.getD i 0, rg i j⟩ := by
  intro i k
  induction k with
  | zero => intro _ h; simp [inE] at h
  | succ k ih =>
   intro hk h
   unfold inE at h
   rcases List.mem_append.1 h with h | h
   ·exact ih (by omega) h
   ·split at h
    ·simp at h
    ·exact ⟨k, by omega, ‹_›, List.mem_singleton.1 h⟩
 have out : ∀ k, k ≤ g.length → x ∈ outE g rg k → ∃ i j, i < g.length ∧ j < g.length ∧ i ≠ j ∧ x = ⟨g.getD j 0, g.getD i 0, rg i j⟩ := by
  intro k
  induction k with
  | zero => intro _ h; simp [outE] at h
  | succ k ih =>
   intro hk h
   unfold outE at h
   rcases List.mem_append.1 h with h | h
   ·exact ih (by omega) h
   ·obtain ⟨j, h1, h2, h3⟩ := inn k g.length (Nat.le_refl _) h
    exact ⟨k, j, by omega, h1, h2, h3⟩
 exact out g.length (Nat.le_refl _)
theorem rowE_succ (own : Nat → Int) (got : List Int) (pos : Nat → Nat → Nat) (i j : Nat) : rowE own got pos i (j + 1) = rowE own got pos i j ++ [if i = j then own i else got.getD (pos i j) 0] := by
 simp [rowE, List.range_succ]
theorem rowE_len (own : Nat → Int) (got : List Int) (pos : Nat → Nat → Nat) (i j : Nat) : (rowE own got pos i j).length = j := by simp [rowE]
end plain

/-- Letters as they lie while they are put together. -/
def LM (σ : St) (x : AV) (t : St) (ls : List Lt) : Prop := ls = [] ∧ x = .nils ∨ ∃ c, x = .sl c 0 ls.length ∧ σ.next ≤ c ∧ c < t.next ∧ t.blk c = some (.cells 4 (ls.map fun y => ltRow y 0))
theorem ltRows_zero (l : List Lt) (tg : Int) : ltRows l tg 0 = l.map fun y => ltRow y 0 := by
 unfold ltRows
 refine List.ext_getElem (by simp) fun i h1 h2 => ?_
 have hi : i < l.length := by simpa using h2
 simp [List.getD_eq_getElem?_getD, hi]

section mk
variable {o : Nat → Option Nat} {σ : St} {b bL bR k : Nat} {m : MkS}
theorem DI.toGrow {c : Nat} {o' : Nat → Option Nat} {t s : St} (hn : σ.next ≤ t.next) (ho : ∀ x, x < σ.next → t.blk x = σ.blk x) (hc : σ.next ≤ c) (h : DI o t c o' s) : Grow o σ o' s :=
 ⟨Nat.le_trans hn h.n, fun x hx => h.l x (by omega), fun x hx hox => (h.f x (by omega) hox (by omega)).trans (ho x hx)⟩

/-- A maker, and a row of lists that is made plain one by one. -/
def tabE (n : Nat) (row : Nat → List Int) (i : Nat) : List (List AV) := (List.range n).map fun q => if q < i then [ints (row q)] else [.nils]
theorem tabE_len (n : Nat) (row : Nat → List Int) (i : Nat) : (tabE n row i).length = n := by simp [tabE]
theorem tabE_get {n : Nat} {row : Nat → List Int} {i : Nat} (h : i < n) : (tabE n row i).getD i [] = [.nils] := by simp [tabE, h]
theorem tabE_zero (n : Nat) (row : Nat → List Int) : tabE n row 0 = List.replicate n [.nils] := by
 unfold tabE
 refine List.ext_getElem (by simp) fun i h1 h2 => by simp
theorem tabE_full (n : Nat) (row : Nat → List Int) : tabE n row n = ((List.range n).map row).map fun r => [ints r] := by
 unfold tabE
 rw [List.map_map]
 refine List.map_congr_left fun q hq => ?_
 have := List.mem_range.1 hq
 simp [this]
theorem tabE_set {n : Nat} {row : Nat → List Int} {i : Nat} (h : i < n) : (tabE n row i).set i [ints (row i)] = tabE n row (i + 1) := by
 unfold tabE
 refine List.ext_getElem (by simp) fun j h1 h2 => ?_
 rw [List.getElem_set]
 split
 ·rename_i hk; subst hk; simp
 ·rename_i hk
  have : j < i ↔ j < i + 1 := by omega
  simp [this]

/-- ring.Everyone -/
theorem everyone_spec (h : MkI o σ b bL bR m) (hk : m.Sm k) (g : List Nat) (regs : List Int) (hg8 : g.length ≤ 8) (hk2 : k ≤ 60000) (hgr : regs.length = g.length) (hgd : ∀ d ∈ g, d < m.ps.length) :
  TQ Try.prog 77 [.ptr b 0 0, ints (natI g), ints regs] σ fun v s => v = rowsA ((List.range g.length).map fun i => rowE (fun i => regs.getD i 0) (delivM m (outE g (fun _ j => regs.getD j 0) g.length)).2 (posE g fun _ j => regs.getD j 0) i g.length) ∧
   ∃ o', MkI o' s b bL bR (delivM m (outE g (fun _ j => regs.getD j 0) g.length)).1 ∧ Grow o σ o' s := by
 refine in77 (by simp) fun wf hab => ?_
 clear hab
 generalize hrg : (fun (_ : Nat) (j : Nat) => regs.getD j 0) = rg
 have hrgj : ∀ i j, rg i j = regs.getD j 0 := fun i j => by rw [← hrg]
 have hgm : g.length ≤ most := by simp only [most]; omega
 have hlets : (outE g rg g.length).length ≤ 64 := by
  have := outE_len (g := g) (rg := rg) g.length
  have h2 : g.length * g.length ≤ 8 * 8 := Nat.mul_le_mul hg8 hg8
  omega
 unfold c77
 refine .seq (.rg fun A hA K hK => ?_)
 simp (maxSteps := 1000000) only [go_sem, hA.nil, hA.go, hA.yes, hA.noT, hA.noF, hA.skp]
 refine hK _ _ ?_; clear hK K hA A
 refine .seq (.rg fun A hA K hK => ?_)
 simp (maxSteps := 1000000) only [go_sem, hA.nil, hA.go, hA.yes, hA.noT, hA.noF, hA.skp]
 refine hK _ _ ?_; clear hK K hA A
 -- letters are put together
 refine .midK (fun L t => ∃ x, L = [(0, .ptr b 0 0), (1, ints (natI g)), (2, ints regs), (7, x)] ∧ LM σ x t (outE g rg g.length) ∧ Ext σ t) ?_ ?_
 ·refine .seq (.rg fun A hA K hK => ?_)
  simp (maxSteps := 1000000) only [go_sem, hA.nil, hA.go, hA.yes, hA.noT, hA.noF, hA.skp, natI_len]
  refine hK _ _ ?_; clear hK K hA A
  refine .rangeK (N := g.length) (fun i L t => ∃ x, L = [(0, .ptr b 0 0), (1, ints (natI g)), (2, ints regs), (7, x), (16, ints (natI g)), (17, I g.length), (18, I i)] ∧ LM σ x t (outE g rg i) ∧ Ext σ t) hgm
   ⟨_, ⟨.nils, rfl, .inl ⟨rfl, rfl⟩, .refl σ⟩, by simp (maxSteps := 1000000) only [go_sem, natI_len]; try rfl⟩ ?_ ?_ ?_
  ·rintro i L t ⟨x, rfl, _⟩
   exact ⟨by simp (maxSteps := 1000000) only [go_sem], by simp (maxSteps := 1000000) only [go_sem], rfl⟩
  ·rintro i L t hi ⟨x, rfl, hx, ht⟩
   have e0 : (i : Int) < g.length := by omega
   have hgi := natI_get hi
   refine .seq (.rg fun A hA K hK => ?_)
   simp (maxSteps := 1000000) only [go_sem, hA.nil, hA.go, hA.yes, hA.noT, hA.noF, hA.skp, e0, hgi, hi, natI_len]
   refine hK _ _ ?_; clear hK K hA A
   refine .seq (.rg fun A hA K hK => ?_)
   simp (maxSteps := 1000000) only [go_sem, hA.nil, hA.go, hA.yes, hA.noT, hA.noF, hA.skp, natI_len]
   refine hK _ _ ?_; clear hK K hA A
   refine .rangeK (N := g.length) (fun j L t => ∃ x, L = [(0, .ptr b 0 0), (1, ints (natI g)), (2, ints regs), (7, x), (8, I i), (9, I (g.getD i 0 : Nat)), (16, ints (natI g)), (17, I g.length), (18, I i), (23, ints (natI g)), (24, I g.length), (25, I j)] ∧ LM σ x t (outE g rg i ++ inE g rg i j) ∧ Ext σ t) hgm
    ⟨_, ⟨x, rfl, by rw [inE, List.append_nil]; exact hx, ht⟩, by simp (maxSteps := 1000000) only [go_sem, natI_len]; try rfl⟩ ?_ ?_ ?_
   ·rintro j L t ⟨x, rfl, _⟩
    exact ⟨by simp (maxSteps := 1000000) only [go_sem], by simp (maxSteps := 1000000) only [go_sem], rfl⟩
   ·rintro j L t hj ⟨x, rfl, hx, ht⟩
    have e1 : (j : Int) < g.length := by omega
    have e2 : (j : Int) < regs.length := by omega
    have hgj := natI_get hj
    have hrj : (regs.map fun n => [I n]).getD j [] = [I (rg i j)] := by rw [hrgj, ints_get (by omega)]; simp [List.getD_eq_getElem?_getD, hgr, hj]
    have htn := ht.1
    refine .seq (.rg fun A hA K hK => ?_)
    simp (maxSteps := 1000000) only [go_sem, hA.nil, hA.go, hA.yes, hA.noT, hA.noF, hA.skp, e1, hgj, hj, natI_len]
    refine hK _ _ ?_; clear hK K hA A
    by_cases hij : i = j
    ·have c1 : ((i : Int) != j) = false := by rw [hij]; simp
     refine .seq (.rg fun A hA K hK => ?_)
     simp (maxSteps := 1000000) only [go_sem, hA.nil, hA.go, hA.yes, hA.noT, hA.noF, hA.skp, c1]
     refine hK _ _ ?_; clear hK K hA A
     refine .cond (t := false) (by simp (maxSteps := 1000000) only [go_sem]) (fun h => by cases h) (fun _ => .skip ?_)
     exact ⟨by simp (maxSteps := 1000000) only [go_sem], _, ⟨x, rfl, by rw [inE, if_pos hij, List.append_nil]; exact hx, ht⟩, by simp (maxSteps := 1000000) only [go_sem]; try rfl⟩
    ·have c1 : ((i : Int) != j) = true := by simp; omega
     have hin : outE g rg i ++ inE g rg i (j + 1) = (outE g rg i ++ inE g rg i j) ++ [⟨g.getD j 0, g.getD i 0, rg i j⟩] := by rw [inE, if_neg hij, List.append_assoc]
     refine .seq (.rg fun A hA K hK => ?_)
     simp (maxSteps := 1000000) only [go_sem, hA.nil, hA.go, hA.yes, hA.noT, hA.noF, hA.skp, c1]
     refine hK _ _ ?_; clear hK K hA A
     refine .cond (t := true) (by simp (maxSteps := 1000000) only [go_sem]) (fun _ => ?_) (fun h => by cases h)
     have hl9 : (outE g rg i ++ inE g rg i j).length ≤ 200 := by
      have h1 := outE_len (g := g) (rg := rg) i
      have h2 := inE_len (g := g) (rg := rg) i j
      have h3 : i * g.length ≤ 8 * 8 := Nat.mul_le_mul (by omega) hg8
      simp only [List.length_append]; omega
     generalize outE g rg i ++ inE g rg i j = ls at hx hl9 hin
     rcases hx with ⟨rfl, rfl⟩ | ⟨c, rfl, c1', c2', c3'⟩
     ·refine .rg fun A hA K hK => ?_
      simp (maxSteps := 1000000) only [go_sem, hA.nil, hA.go, hA.yes, hA.noT, hA.noF, hA.skp, e2, hrj]
      refine ⟨by decide, by decide, ?_⟩
      refine hK _ _ ?_; clear hK K hA A
      refine ⟨by simp (maxSteps := 1000000) only [go_sem], _, ⟨.sl t.next 0 1, rfl, by rw [hin]; exact .inr ⟨t.next, rfl, htn, by simp (maxSteps := 1000000) only [go_sem]; try omega, by simp (maxSteps := 1000000) only [go_sem, ltRow]⟩, ⟨by simp (maxSteps := 1000000) only [go_sem]; try omega, fun y hy => ?_⟩⟩, by simp (maxSteps := 1000000) only [go_sem]; try rfl⟩
      rw [← ht.2 y hy]; simp (disch := omega) only [go_sem, if_neg]
     ·have m1 : ls.length + 1 ≤ most := by simp only [most]; omega
      have m2 : (ls.length + 1) * 32 ≤ most := by simp only [most]; omega
      have m4 : List.take ls.length (ls.map fun y => ltRow y 0) = ls.map fun y => ltRow y 0 := List.take_of_length_le (by simp)
      refine .rg fun A hA K hK => ?_
      simp (maxSteps := 1000000) only [go_sem, hA.nil, hA.go, hA.yes, hA.noT, hA.noF, hA.skp, e2, hrj, c3', m1, m2, m4, List.length_map]
      refine hK _ _ ?_; clear hK K hA A
      refine ⟨by simp (maxSteps := 1000000) only [go_sem], _, ⟨.sl t.next 0 (ls.length + 1), rfl, by rw [hin]; exact .inr ⟨t.next, by rw [List.length_append]; rfl, htn, by simp (maxSteps := 1000000) only [go_sem]; try omega, by simp (maxSteps := 1000000) only [go_sem, List.map_append, ltRow]⟩, ⟨by simp (maxSteps := 1000000) only [go_sem]; try omega, fun y hy => ?_⟩⟩, by simp (maxSteps := 1000000) only [go_sem]; try rfl⟩
      rw [← ht.2 y hy]; simp (disch := omega) only [go_sem, if_neg]
   ·rintro L t F ⟨x, rfl, hx, ht⟩ hf
    simp (maxSteps := 1000000) only [go_sem] at hf
    exact ⟨by simp (maxSteps := 1000000) only [go_sem, hf], _, ⟨x, rfl, hx, ht⟩, by simp (maxSteps := 1000000) only [go_sem, hf]; try rfl⟩
  ·rintro L t F ⟨x, rfl, hx, ht⟩ hf
   simp (maxSteps := 1000000) only [go_sem] at hf
   exact ⟨_, ⟨x, rfl, hx, ht⟩, by simp (maxSteps := 1000000) only [go_sem, hf]⟩
 rintro L t ⟨x, rfl, hx, ht⟩
 have htn := ht.1
 generalize hls : outE g rg g.length = ls at hx hlets
 have hlok : ∀ j, j < ls.length → (ls.getD j lt0).frm < m.ps.length ∧ (ls.getD j lt0).to < m.ps.length := fun j hj => by
  have hm : ls.getD j lt0 ∈ outE g rg g.length := by
   rw [hls, List.getD_eq_getElem?_getD, List.getElem?_eq_getElem hj]; exact List.getElem_mem hj
  obtain ⟨p, q, hp, hq, _, e⟩ := lets_mem hm
  rw [e]
  have gm : ∀ p, p < g.length → g.getD p 0 ∈ g := fun p hp => by rw [List.getD_eq_getElem?_getD, List.getElem?_eq_getElem hp]; exact List.getElem_mem hp
  exact ⟨hgd _ (gm q hq), hgd _ (gm p hp)⟩
 -- they are delivered
 refine .midK (fun L s => ∃ o', L = [(1, ints (natI g)), (2, ints regs), (12, ints (delivM m ls).2)] ∧ MkI o' s b bL bR (delivM m ls).1 ∧ Grow o σ o' s) ?_ ?_
 ·rcases hx with ⟨rfl, rfl⟩ | ⟨c, rfl, c1, c2, c3⟩
  ·refine .ent (.virt (i := 7) 4 (by simp (maxSteps := 1000000) only [go_sem])) ?_
   obtain ⟨h1, -⟩ := h.ext (s := t.push (.cells 4 [])) (by rw [next_push]; omega) (fun y hy => by rw [blk_push, if_neg (by omega)]; exact ht.2 y hy)
   have hoc : o t.next = none := by
    cases hh : o t.next with
    | none => rfl
    | some x => have := h.lt t.next (by rw [hh]; simp); omega
   have hd := deliver_spec h1 hk [] (by simp; omega) (fun j hj => absurd hj (by simp)) t.next (by rw [next_push]; omega) hoc (by rw [blk_push, if_pos rfl]; rfl)
   refine .rg fun A hA K hK => ?_
   simp (maxSteps := 1000000) only [go_sem, hA.nil, hA.go, hA.yes, hA.noT, hA.noF, hA.skp]
   refine aopq_callQ (hd) (by simp (maxSteps := 1000000) only [go_sem]) ?_
   rintro v s ⟨rfl, o', h2, D⟩
   try simp (maxSteps := 1000000) only [go_sem, hA.nil, hA.go, hA.yes, hA.noT, hA.noF, hA.skp]
   refine hK _ _ ?_; clear hK K hA A
   exact ⟨_, ⟨o', rfl, h2, D.toGrow (by rw [next_push]; omega) (fun y hy => by rw [blk_push, if_neg (by omega)]; exact ht.2 y hy) (by omega)⟩, by simp (maxSteps := 1000000) only [go_sem]⟩
  ·obtain ⟨h1, -⟩ := h.ext (s := t) htn ht.2
   have hoc : o c = none := by
    cases hh : o c with
    | none => rfl
    | some x => have := h.lt c (by rw [hh]; simp); omega
   have hd := deliver_spec h1 hk ls (by omega) hlok c c2 hoc (by rw [ltRows_zero]; exact c3)
   refine .rg fun A hA K hK => ?_
   simp (maxSteps := 1000000) only [go_sem, hA.nil, hA.go, hA.yes, hA.noT, hA.noF, hA.skp]
   refine aopq_callQ (hd) (by simp (maxSteps := 1000000) only [go_sem]) ?_
   rintro v s ⟨rfl, o', h2, D⟩
   try simp (maxSteps := 1000000) only [go_sem, hA.nil, hA.go, hA.yes, hA.noT, hA.noF, hA.skp]
   refine hK _ _ ?_; clear hK K hA A
   exact ⟨_, ⟨o', rfl, h2, D.toGrow htn ht.2 c1⟩, by simp (maxSteps := 1000000) only [go_sem]⟩
 rintro L s ⟨o', rfl, h2, G⟩
 have hgl : (delivM m ls).2.length = ls.length := (recvs_len _ _ _ _).2
 generalize (delivM m ls).2 = got at hgl
 generalize hown : (fun i : Nat => regs.getD i 0) = own
 have howni : ∀ i, own i = regs.getD i 0 := fun i => by rw [← hown]
 have m0 : (g.length : Int) ≤ most := by simp only [most]; omega
 have m1 : (g.length : Int) * 24 ≤ most := by simp only [most]; omega
 have hso := h2.none
 have Gn := G.1
 have hp0 : posE g rg 0 0 = 0 := by simp [posE, outE, inE]
 refine .seq (.rg fun A hA K hK => ?_)
 simp (maxSteps := 1000000) only [go_sem, hA.nil, hA.go, hA.yes, hA.noT, hA.noF, hA.skp, natI_len, m0, m1]
 refine hK _ _ ?_; clear hK K hA A
 refine .midK (fun L t => L = [(13, .sl s.next 0 g.length)] ∧ MkI o' t b bL bR (delivM m ls).1 ∧ Grow o σ o' t ∧ s.next < t.next ∧ t.blk s.next = some (.cells 1 (tabE g.length (fun i => rowE own got (posE g rg) i g.length) g.length))) ?_ ?_
 ·refine .seq (.rg fun A hA K hK => ?_)
  simp (maxSteps := 1000000) only [go_sem, hA.nil, hA.go, hA.yes, hA.noT, hA.noF, hA.skp, natI_len]
  refine hK _ _ ?_; clear hK K hA A
  refine .rangeK (N := g.length) (fun i L t => L = [(1, ints (natI g)), (2, ints regs), (12, ints (got.drop (posE g rg i 0))), (13, .sl s.next 0 g.length), (52, I g.length), (53, I i)] ∧ MkI o' t b bL bR (delivM m ls).1 ∧ Grow o σ o' t ∧ s.next < t.next ∧
    t.blk s.next = some (.cells 1 (tabE g.length (fun i => rowE own got (posE g rg) i g.length) i))) hgm
   ⟨_, ⟨rfl, h2.frame (by simp (maxSteps := 1000000) only [go_sem]; try omega) (fun y hy => by have := h2.lt y hy; simp (disch := omega) only [go_sem, if_neg]), G.trans (growExt (by simp (maxSteps := 1000000) only [go_sem]; try omega) fun y hy => by simp (disch := omega) only [go_sem, if_neg]), by simp (maxSteps := 1000000) only [go_sem]; try omega, by rw [tabE_zero]; simp (maxSteps := 1000000) only [go_sem]⟩, by simp (maxSteps := 1000000) only [go_sem, natI_len, hp0]; try rfl⟩ ?_ ?_ ?_
  ·rintro i L t ⟨rfl, _⟩
   exact ⟨by simp (maxSteps := 1000000) only [go_sem], by simp (maxSteps := 1000000) only [go_sem], rfl⟩
  ·rintro i L t hi ⟨rfl, h3, G3, hst, ht⟩
   have e0 : (i : Int) < g.length := by omega
   have e0r : (i : Int) < regs.length := by omega
   have hri : (regs.map fun n => [I n]).getD i [] = [I (own i)] := by rw [howni, ints_get (by omega)]; simp [List.getD_eq_getElem?_getD, hgr, hi]
   have htl := tabE_len g.length (fun i => rowE own got (posE g rg) i g.length) i
   have htg := tabE_get (row := fun i => rowE own got (posE g rg) i g.length) hi
   have hts := tabE_set (row := fun i => rowE own got (posE g rg) i g.length) hi
   have hnil : (tabE g.length (fun i => rowE own got (posE g rg) i g.length) i).set i [.nils] = tabE g.length (fun i => rowE own got (posE g rg) i g.length) i := by
    refine List.ext_getElem? fun q => ?_
    rw [List.getElem?_set]
    split
    ·rename_i hq; subst hq
     rw [if_pos (by omega)]
     rw [List.getD_eq_getElem?_getD] at htg
     cases hh : (tabE g.length (fun i => rowE own got (posE g rg) i g.length) i)[i]? with
     | none => rw [hh] at htg; cases htg
     | some v => rw [hh] at htg; rw [← htg]; rfl
    ·rfl
   have hstart : posE g rg (i + 1) 0 = posE g rg i g.length := by simp [posE, outE, inE]
   generalize tabE g.length (fun i => rowE own got (posE g rg) i g.length) i = tb at *
   refine .seq (.rg fun A hA K hK => ?_)
   simp (maxSteps := 1000000) only [go_sem, hA.nil, hA.go, hA.yes, hA.noT, hA.noF, hA.skp]
   refine hK _ _ ?_; clear hK K hA A
   refine .seq (.rg fun A hA K hK => ?_)
   simp (maxSteps := 1000000) only [go_sem, hA.nil, hA.go, hA.yes, hA.noT, hA.noF, hA.skp, natI_len]
   refine hK _ _ ?_; clear hK K hA A
   refine .entQ (.rangeK (N := g.length) (fun j L t => ∃ w, L = [(1, ints (natI g)), (2, ints regs), (12, ints (got.drop (posE g rg i j))), (13, .sl s.next 0 g.length), (14, I i), (52, I g.length), (53, I i), (57, I g.length), (58, I j)] ∧ MkI o' t b bL bR (delivM m ls).1 ∧ Grow o σ o' t ∧ s.next < t.next ∧
     t.blk s.next = some (.cells 1 (tb.set i [w])) ∧ (j = 0 ∧ w = .nils ∨ ∃ c, w = .sl c 0 j ∧ s.next < c ∧ c < t.next ∧ o' c = none ∧ t.blk c = some (.cells 1 ((rowE own got (posE g rg) i j).map fun n => [I n])))) hgm
    ⟨_, ⟨.nils, rfl, h3, G3, hst, by rw [hnil]; exact ht, .inl ⟨rfl, rfl⟩⟩, by simp (maxSteps := 1000000) only [go_sem, natI_len]; try rfl⟩ ?_ ?_ ?_)
   ·rintro j L t ⟨w, rfl, _⟩
    exact ⟨by simp (maxSteps := 1000000) only [go_sem], by simp (maxSteps := 1000000) only [go_sem], rfl⟩
   ·rintro j L t hj ⟨w, rfl, h4, G4, hst, ht, hw⟩
    have e1 : (j : Int) < g.length := by omega
    have hgw : (tb.set i [w]).getD i [] = [w] := by simp [List.getD_eq_getElem?_getD, htl, hi]
    have hsl : (tb.set i [w]).length = g.length := by simp [htl]
    have hto := h4.none
    have hrs := rowE_succ own got (posE g rg) i j
    have hrl := rowE_len own got (posE g rg) i j
    have G4n := G4.1
    -- one more number behind a row
    have fin : ∀ (x : Int) (u : St) (c' : Nat), (if i = j then own i else got.getD (posE g rg i j) 0) = x → t.next ≤ c' → c' < u.next → (∀ y, y < t.next → y ≠ s.next → (∀ c, w = .sl c 0 j → y ≠ c) → u.blk y = t.blk y) → u.blk s.next = some (.cells 1 (tb.set i [.sl c' 0 (j + 1)])) →
      u.blk c' = some (.cells 1 ((rowE own got (posE g rg) i j).map (fun n => [I n]) ++ [[I x]])) → MkI o' u b bL bR (delivM m ls).1 ∧ Grow o σ o' u ∧ s.next < u.next ∧ u.blk s.next = some (.cells 1 (tb.set i [.sl c' 0 (j + 1)])) ∧
       (j + 1 = 0 ∧ AV.sl c' 0 (j + 1) = .nils ∨ ∃ c, AV.sl c' 0 (j + 1) = .sl c 0 (j + 1) ∧ s.next < c ∧ c < u.next ∧ o' c = none ∧ u.blk c = some (.cells 1 ((rowE own got (posE g rg) i (j + 1)).map fun n => [I n]))) := by
     intro x u c' hx q1 q2 q3 q4 q5
     have nw : ∀ y, o' y ≠ none → ∀ c, w = .sl c 0 j → y ≠ c := fun y hy c hc => by
      rintro rfl
      rcases hw with ⟨_, rfl⟩ | ⟨c2, rfl, _, _, w3, _⟩
      ·cases hc
      ·cases hc; exact hy w3
     have hoc' : o' c' = none := by
      cases hh : o' c' with
      | none => rfl
      | some z => have := h4.lt c' (by rw [hh]; simp); omega
     refine ⟨h4.frame (by omega) fun y hy => q3 y (h4.lt y hy) (by rintro rfl; exact hy hso) (nw y hy), ⟨by omega, G4.2.1, fun y hy hoy => (q3 y (by omega) (by omega) fun c hc => ?_).trans (G4.2.2 y hy hoy)⟩, by omega, q4, .inr ⟨c', rfl, by omega, q2, hoc', ?_⟩⟩
     ·rcases hw with ⟨_, rfl⟩ | ⟨c2, rfl, w1, _⟩
      ·cases hc
      ·cases hc; omega
     ·rw [q5, hrs, List.map_append, hx]; rfl
    by_cases hij : i = j
    ·have c1 : ((i : Int) == j) = true := by rw [hij]; simp
     have hpos : posE g rg i (j + 1) = posE g rg i j := by simp [posE, inE, hij]
     have hx : (if i = j then own i else got.getD (posE g rg i j) 0) = own i := if_pos hij
     refine .seq (.rg fun A hA K hK => ?_)
     simp (maxSteps := 1000000) only [go_sem, hA.nil, hA.go, hA.yes, hA.noT, hA.noF, hA.skp]
     refine hK _ _ ?_; clear hK K hA A
     refine .seq (.seq (.rg fun A hA K hK => ?_))
     simp (maxSteps := 1000000) only [go_sem, hA.nil, hA.go, hA.yes, hA.noT, hA.noF, hA.skp, c1]
     refine hK _ _ ?_; clear hK K hA A
     refine .cond (t := true) (by simp (maxSteps := 1000000) only [go_sem]) (fun _ => ?_) (fun h => by cases h)
     rcases hw with ⟨j0, rfl⟩ | ⟨c, rfl, w1, w2, w3, w4⟩
     ·have n1 : ¬ s.next = t.next := by omega
      refine .seq (.rd fun A hA K hK => ?_)
      simp (maxSteps := 1000000) only [go_sem, hA.nil, hA.go, hA.yes, hA.noT, hA.noF, hA.skp, ht, hgw, hsl, hi, e0, e0r, hri, n1]
      refine ⟨by decide, by decide, ?_⟩
      refine hK _ _ ?_; clear hK K hA A
      refine .exit ?_
      simp only [thenQ, roundK, if_true]
      exact ⟨by simp (maxSteps := 1000000) only [go_sem], _, ⟨_, rfl, fin (own i) _ t.next hx (Nat.le_refl _) (by simp (maxSteps := 1000000) only [go_sem]; try omega) (fun y h1 h2 _ => by simp (disch := omega) only [go_sem, if_neg]) (by simp (maxSteps := 1000000) only [go_sem, j0, List.set_set]) (by simp only [j0]; simp (maxSteps := 1000000) only [go_sem, rowE, List.range_zero, show ¬ t.next = s.next by omega])⟩, by simp (maxSteps := 1000000) only [go_sem, hpos]; try rfl⟩
     ·have n1 : ¬ s.next = t.next := by omega
      have n2 : ¬ s.next = c := by omega
      have n3 : ¬ c = s.next := by omega
      have m1 : j + 1 ≤ most := by simp only [most]; omega
      have m2 : (j + 1) * 8 ≤ most := by simp only [most]; omega
      have m4 : List.take j ((rowE own got (posE g rg) i j).map fun n => [AV.int .i64 n]) = (rowE own got (posE g rg) i j).map fun n => [AV.int .i64 n] := List.take_of_length_le (by simp [hrl])
      refine .seq (.rd fun A hA K hK => ?_)
      simp (maxSteps := 1000000) only [go_sem, hA.nil, hA.go, hA.yes, hA.noT, hA.noF, hA.skp, ht, hgw, hsl, hi, e0, e0r, hri, n1, n2, w4, m1, m2, m4, hrl, List.length_map]
      refine hK _ _ ?_; clear hK K hA A
      refine .exit ?_
      simp only [thenQ, roundK, if_true]
      refine ⟨by simp (maxSteps := 1000000) only [go_sem], _, ⟨_, rfl, fin (own i) _ t.next hx (Nat.le_refl _) (by simp (maxSteps := 1000000) only [go_sem]; try omega) (fun y h1 h2 h3 => ?_) (by simp (maxSteps := 1000000) only [go_sem, List.set_set]) (by simp (maxSteps := 1000000) only [go_sem, show ¬ t.next = s.next by omega])⟩, by simp (maxSteps := 1000000) only [go_sem, hpos]; try rfl⟩
      have := h3 c rfl
      simp (disch := omega) only [go_sem, if_neg]
    ·have c1 : ((i : Int) == j) = false := by simp; omega
     have hpos : posE g rg i (j + 1) = posE g rg i j + 1 := by
      have : (inE g rg i (j + 1)).length = (inE g rg i j).length + 1 := by rw [inE, if_neg hij]; simp
      simp only [posE, this]; omega
     have hlt : posE g rg i j < got.length := by rw [hgl, ← hls]; exact (lets_get hi hj hij).1
     have hx : (if i = j then own i else got.getD (posE g rg i j) 0) = got.getD (posE g rg i j) 0 := if_neg hij
     generalize posE g rg i j = p at fin hpos hlt hx ⊢
     have hd0 : ((got.drop p).map fun n => [AV.int .i64 n]).getD 0 [] = [I (got.getD p 0)] := by
      simp [List.getD_eq_getElem?_getD, hlt]
     have hdl : 0 < got.length - p := by omega
     have hdl1 : 1 ≤ got.length - p := by omega
     have hdI : (0 : Int) < ((got.length - p : Nat) : Int) := by omega
     have hdI1 : (1 : Int) ≤ ((got.length - p : Nat) : Int) := by omega
     have hdr : List.take (got.length - p - 1) (List.drop 1 ((got.drop p).map fun n => [AV.int .i64 n])) = (got.drop (p + 1)).map fun n => [AV.int .i64 n] := by
      rw [← List.map_drop, List.drop_drop, List.take_of_length_le (by simp; omega)]
     refine .seq (.rg fun A hA K hK => ?_)
     simp (maxSteps := 1000000) only [go_sem, hA.nil, hA.go, hA.yes, hA.noT, hA.noF, hA.skp]
     refine hK _ _ ?_; clear hK K hA A
     refine .seq (.seq (.rg fun A hA K hK => ?_))
     simp (maxSteps := 1000000) only [go_sem, hA.nil, hA.go, hA.yes, hA.noT, hA.noF, hA.skp, c1]
     refine hK _ _ ?_; clear hK K hA A
     refine .cond (t := false) (by simp (maxSteps := 1000000) only [go_sem]) (fun h => by cases h) (fun _ => .skip ?_)
     rcases hw with ⟨j0, rfl⟩ | ⟨c, rfl, w1, w2, w3, w4⟩
     ·have n1 : ¬ s.next = t.next := by omega
      refine .seq (.rd fun A hA K hK => ?_)
      simp (maxSteps := 1000000) only [go_sem, hA.nil, hA.go, hA.yes, hA.noT, hA.noF, hA.skp, ht, hgw, hsl, hi, e0, e0r, hd0, hdl, hdI, n1, List.length_map, List.length_drop]
      refine ⟨by decide, by decide, ?_⟩
      refine hK _ _ ?_; clear hK K hA A
      refine .rg fun A hA K hK => ?_
      simp (maxSteps := 1000000) only [go_sem, hA.nil, hA.go, hA.yes, hA.noT, hA.noF, hA.skp, hdl1, hdI1, hdr, List.length_map, List.length_drop]
      refine hK _ _ ?_; clear hK K hA A
      exact ⟨by simp (maxSteps := 1000000) only [go_sem], _, ⟨_, rfl, fin (got.getD p 0) _ t.next hx (Nat.le_refl _) (by simp (maxSteps := 1000000) only [go_sem]; try omega) (fun y h1 h2 _ => by simp (disch := omega) only [go_sem, if_neg]) (by simp (maxSteps := 1000000) only [go_sem, j0, List.set_set]) (by simp only [j0]; simp (maxSteps := 1000000) only [go_sem, rowE, List.range_zero, show ¬ t.next = s.next by omega])⟩, by simp (maxSteps := 1000000) only [go_sem, hpos]; try rfl⟩
     ·have n1 : ¬ s.next = t.next := by omega
      have n2 : ¬ s.next = c := by omega
      have m1 : j + 1 ≤ most := by simp only [most]; omega
      have m2 : (j + 1) * 8 ≤ most := by simp only [most]; omega
      have m4 : List.take j ((rowE own got (posE g rg) i j).map fun n => [AV.int .i64 n]) = (rowE own got (posE g rg) i j).map fun n => [AV.int .i64 n] := List.take_of_length_le (by simp [hrl])
      refine .seq (.rd fun A hA K hK => ?_)
      simp (maxSteps := 1000000) only [go_sem, hA.nil, hA.go, hA.yes, hA.noT, hA.noF, hA.skp, ht, hgw, hsl, hi, e0, e0r, hd0, hdl, hdI, n1, n2, w4, m1, m2, m4, hrl, List.length_map, List.length_drop]
      refine hK _ _ ?_; clear hK K hA A
      refine .rg fun A hA K hK => ?_
      simp (maxSteps := 1000000) only [go_sem, hA.nil, hA.go, hA.yes, hA.noT, hA.noF, hA.skp, hdl1, hdI1, hdr, List.length_map, List.length_drop]
      refine hK _ _ ?_; clear hK K hA A
      refine ⟨by simp (maxSteps := 1000000) only [go_sem], _, ⟨_, rfl, fin (got.getD p 0) _ t.next hx (Nat.le_refl _) (by simp (maxSteps := 1000000) only [go_sem]; try omega) (fun y h1 h2 h3 => ?_) (by simp (maxSteps := 1000000) only [go_sem, List.set_set]) (by simp (maxSteps := 1000000) only [go_sem, show ¬ t.next = s.next by omega])⟩, by simp (maxSteps := 1000000) only [go_sem, hpos]; try rfl⟩
      have := h3 c rfl
      simp (disch := omega) only [go_sem, if_neg]
   ·rintro L t F ⟨w, rfl, h4, G4, hst, ht, hw⟩ hf
    simp (maxSteps := 1000000) only [go_sem] at hf
    have hgw : (tb.set i [w]).getD i [] = [w] := by simp [List.getD_eq_getElem?_getD, htl, hi]
    have Gn4 := G4.1
    rcases hw with ⟨j0, rfl⟩ | ⟨c, rfl, w1, w2, w3, w4⟩
    ·omega
    refine ⟨_, _, .frzAt s.next i (c' := c) (n := g.length) ht (by rw [List.length_set]; omega) hgw w4 (by omega) (by rw [List.length_map, rowE_len]), by simp (maxSteps := 1000000) only [go_sem, hf], _, ⟨rfl, h4.frame (by simp (maxSteps := 1000000) only [go_sem]; try omega) (fun y hy => ?_), ⟨by simp (maxSteps := 1000000) only [go_sem]; try omega, G4.2.1, fun y hy hoy => ?_⟩, by simp (maxSteps := 1000000) only [go_sem]; exact hst, ?_⟩, by simp (maxSteps := 1000000) only [go_sem, hf, hstart]; try rfl⟩
    ·have h1 : ¬ y = s.next := by rintro rfl; exact hy hso
     have h2 : ¬ y = c := by rintro rfl; exact hy w3
     simp (maxSteps := 1000000) only [go_sem, h1, h2]
    ·rw [← G4.2.2 y hy hoy]; simp (disch := omega) only [go_sem, if_neg]
    ·rw [← hts]; simp (maxSteps := 1000000) only [go_sem, List.set_set]
  ·rintro L t F ⟨rfl, h3, G3, hst, ht⟩ hf
   simp (maxSteps := 1000000) only [go_sem] at hf
   exact ⟨_, ⟨rfl, h3, G3, hst, ht⟩, by simp (maxSteps := 1000000) only [go_sem, hf]⟩
 rintro L t ⟨rfl, h3, G3, hst, ht⟩
 rw [tabE_full] at ht
 refine .frz 13 (b := s.next) (n := g.length) (by simp (maxSteps := 1000000) only [go_sem]) ht (by simp) ?_
 refine .seq (.rg fun A hA K hK => ?_)
 simp (maxSteps := 1000000) only [go_sem, hA.nil, hA.go, hA.yes, hA.noT, hA.noF, hA.skp]
 refine hK _ _ ?_; clear hK K hA A
 have Gn3 := G3.1
 refine .ret (retS (by simp (maxSteps := 1000000) only [go_sem]; try rfl) ⟨rfl, o', h3.frame (by simp (maxSteps := 1000000) only [go_sem]; try omega) (fun y hy => ?_), by simp (maxSteps := 1000000) only [go_sem]; try omega, G3.2.1, fun y hy hoy => ?_⟩)
 ·have : ¬ y = s.next := by rintro rfl; exact hy hso
  simp (maxSteps := 1000000) only [go_sem, this]
 ·rw [← G3.2.2 y hy hoy]; simp (disch := omega) only [go_sem, if_neg]
end mk
end Go.Proofs.Ytfjbabacpnnjmaa.Av
namespace Go.Proofs.Ytfjbabacpnnjmaa.Av
open Go Go.Av

/-! parquetry/parquetryref4.Two -/
def c163 : C :=
 (.seq (.reg [⟨some 4, none, .bx (.t 1)⟩, ⟨some 5, none, .bx (.t 2)⟩, ⟨some 6, none, .al [.lit 1 [], .lit 1 []]⟩, ⟨some 7, none, .mv (.k (.int .i64 0))⟩])
 (.seq (.seq (.reg [⟨some 11, none, .mv (.t 0)⟩, ⟨some 12, none, .bin .lss 0 (.t 11) (.k (.int .i64 6))⟩, ⟨some 13, none, .mv (.t 12)⟩, ⟨some 14, (some (13, false)), .mv (.t 0)⟩, ⟨some 15, (some (13, false)), .bin .gtr 0 (.t 14) (.k (.int .i64 11))⟩, ⟨some 16, none, .pk (.t 13) (.k (.bool true)) (.t 15)⟩])
 (.cond (.t 16)
  (.seq (.reg [⟨some 17, none, .bd [.lit 1 [], .lit 1 []] []⟩, ⟨none, none, .st 2 (.t 6) (.t 17)⟩, ⟨some 7, none, .mv (.k (.int .i64 1))⟩])
  .ret)
  .skip))
 (.seq (.seq (.reg [⟨some 18, none, .ld (some 2) (.t 4)⟩, ⟨some 19, none, .ld (some 2) (.t 5)⟩, ⟨some 20, none, .bs false 2 [.lit 1 [], .lit 1 []] 2 [(0, (.t 18)), (1, (.t 19))]⟩, ⟨some 21, none, .call true 165 [(.t 20)]⟩, ⟨some 8, none, .mv (.t 21)⟩])
 (.seq (.reg [⟨some 22, none, .mv (.t 8)⟩, ⟨some 23, none, .bin .neq 0 (.t 22) (.k (.int .i64 0))⟩])
 (.cond (.t 23)
  (.seq (.reg [⟨some 24, none, .bd [.lit 1 [], .lit 1 []] []⟩, ⟨some 25, none, .mv (.t 8)⟩, ⟨none, none, .st 2 (.t 6) (.t 24)⟩, ⟨some 7, none, .mv (.t 25)⟩])
  .ret)
  .skip)))
 (.seq (.reg [⟨some 26, none, .fa 0 (.t 4)⟩, ⟨some 27, none, .ld none (.t 26)⟩, ⟨some 28, none, .call false 48 [(.t 27), (.k (.int .i64 0))]⟩, ⟨some 9, none, .al [.lit 1 [], .lit 1 []]⟩, ⟨none, none, .st 2 (.t 9) (.t 28)⟩])
 (.seq (.seq (.reg [⟨some 29, none, .fa 1 (.t 9)⟩, ⟨some 30, none, .ld none (.t 29)⟩, ⟨some 31, none, .ln false (.t 30)⟩, ⟨some 32, none, .mv (.k (.int .i64 0))⟩])
 (.block 0
  (.loop
   (.seq (.reg [⟨some 33, none, .bin .lss 0 (.t 32) (.t 31)⟩])
   (.seq (.cond (.t 33)
    .skip
    (.exit 0))
   (.seq (.block 1
    (.seq (.reg [⟨some 34, none, .mv (.t 32)⟩, ⟨some 10, none, .mv (.t 34)⟩])
    (.drs [⟨some 35, none, .fa 1 (.t 9)⟩, ⟨some 36, none, .ld none (.t 35)⟩, ⟨some 37, none, .mv (.t 10)⟩, ⟨some 38, none, .mv (.t 0)⟩, ⟨some 39, none, .fa 1 (.t 4)⟩, ⟨some 40, none, .ld none (.t 39)⟩, ⟨some 41, none, .mv (.t 10)⟩, ⟨some 42, none, .ia 1 (.t 40) (.t 41)⟩, ⟨some 43, none, .ld none (.t 42)⟩, ⟨some 44, none, .fa 1 (.t 5)⟩, ⟨some 45, none, .ld none (.t 44)⟩, ⟨some 46, none, .mv (.t 10)⟩, ⟨some 47, none, .ia 1 (.t 45) (.t 46)⟩, ⟨some 48, none, .ld none (.t 47)⟩, ⟨some 49, none, .call true 166 [(.t 38), (.t 43), (.t 48)]⟩, ⟨some 50, none, .ia 1 (.t 36) (.t 37)⟩, ⟨none, none, .st 1 (.t 50) (.t 49)⟩])))
   (.reg [⟨some 51, none, .bin .add 0 (.t 32) (.k (.int .i64 1))⟩, ⟨some 32, none, .mv (.t 51)⟩])))))))
 (.seq (.reg [⟨some 52, none, .ld (some 2) (.t 9)⟩, ⟨none, none, .st 2 (.t 6) (.t 52)⟩, ⟨some 7, none, .mv (.k (.int .i64 0))⟩])
 .ret))))))
set_option maxRecDepth 100000 in
theorem er163 : (Try.f163.body.bind (erC Try.prog cfg 53)) = some c163 := by kernel_rfl
theorem in163 {args : List AV} {σ : St} {Q : AV → St → Prop} (hlen : args.length ≤ 53) (h : σ.Wf → (∀ i, i < args.length → Hab (args.getD i .undef)) → SWP Try.prog σ.next c163 (retQ σ.next [.c (some 2) 6, .t 7] Q) (fun i => args.getD i .undef) σ) : TQ Try.prog 163 args σ Q := by
 obtain ⟨k, hb, hk⟩ := Option.bind_eq_some_iff.1 er163
 exact TQ_of (fn := Try.f163) Try.func163 (by kernel_rfl) hb (erC_is mixed hk) (by kernel_rfl) hlen h

/-! parquetry/parquetryref4.all -/
def c165 : C :=
 (.seq (.reg [⟨some 2, none, .mv (.k (.int .i64 0))⟩])
 (.seq (.seq (.reg [⟨some 3, none, .mv (.k (.int .i64 0))⟩])
 (.block 0
  (.loop
   (.seq (.seq (.reg [⟨some 4, none, .mv (.t 3)⟩, ⟨some 5, none, .mv (.t 0)⟩, ⟨some 6, none, .ln false (.t 5)⟩, ⟨some 7, none, .bin .lss 0 (.t 4) (.t 6)⟩])
   (.cond (.t 7)
    .skip
    (.exit 0)))
   (.seq (.block 1
    (.seq (.drs [⟨some 10, none, .mv (.t 0)⟩, ⟨some 11, none, .mv (.t 3)⟩, ⟨some 12, none, .ia 2 (.t 10) (.t 11)⟩, ⟨some 13, none, .ld (some 2) (.t 12)⟩, ⟨some 14, none, .call true 92 [(.t 13)]⟩, ⟨some 15, none, .un .not (.t 14)⟩, ⟨some 16, none, .mv (.t 15)⟩, ⟨some 17, (some (16, false)), .mv (.t 0)⟩, ⟨some 18, (some (16, false)), .mv (.t 3)⟩, ⟨some 19, (some (16, false)), .ia 2 (.t 17) (.t 18)⟩, ⟨some 20, (some (16, false)), .fa 0 (.t 19)⟩, ⟨some 21, (some (16, false)), .ld none (.t 20)⟩, ⟨some 22, (some (16, false)), .mv (.t 0)⟩, ⟨some 23, (some (16, false)), .ia 2 (.t 22) (.k (.int .i64 0))⟩, ⟨some 24, (some (16, false)), .fa 0 (.t 23)⟩, ⟨some 25, (some (16, false)), .ld none (.t 24)⟩, ⟨some 26, (some (16, false)), .call true 63 [(.t 21), (.t 25)]⟩, ⟨some 27, (some (16, false)), .un .not (.t 26)⟩, ⟨some 28, none, .pk (.t 16) (.k (.bool true)) (.t 27)⟩])
    (.cond (.t 28)
     (.seq (.reg [⟨some 2, none, .mv (.k (.int .i64 13))⟩])
     .ret)
     .skip)))
   (.reg [⟨some 8, none, .mv (.t 3)⟩, ⟨some 9, none, .bin .add 0 (.t 8) (.k (.int .i64 1))⟩, ⟨some 3, none, .mv (.t 9)⟩]))))))
 (.seq (.reg [⟨some 2, none, .mv (.k (.int .i64 0))⟩])
 .ret)))
set_option maxRecDepth 100000 in
theorem er165 : (Try.f165.body.bind (erC Try.prog cfg 29)) = some c165 := by kernel_rfl
theorem in165 {args : List AV} {σ : St} {Q : AV → St → Prop} (hlen : args.length ≤ 29) (h : σ.Wf → (∀ i, i < args.length → Hab (args.getD i .undef)) → SWP Try.prog σ.next c165 (retQ σ.next [.t 2] Q) (fun i => args.getD i .undef) σ) : TQ Try.prog 165 args σ Q := by
 obtain ⟨k, hb, hk⟩ := Option.bind_eq_some_iff.1 er165
 exact TQ_of (fn := Try.f165) Try.func165 (by kernel_rfl) hb (erC_is mixed hk) (by kernel_rfl) hlen h

/-! parquetry/parquetryref4.DotShape -/
/-! parquetry/parquetryref4.rising -/
/-! parquetry/parquetryref4.has -/
/-! parquetry/parquetryref4.None -/
/-! parquetry/parquetryref4.bit -/
end Go.Proofs.Ytfjbabacpnnjmaa.Av
