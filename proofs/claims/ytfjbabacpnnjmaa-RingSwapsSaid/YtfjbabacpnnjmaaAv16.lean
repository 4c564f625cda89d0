/- A logic of small values, and walks in it: law21's begin. law21's told: is each one's register, in the end, what it must be? law21's reduces. -/
import Derived.Test.YtfjbabacpnnjmaaAv15
set_option linter.unusedVariables false
set_option linter.unusedSimpArgs false
set_option linter.deprecated false
namespace Go.Proofs.Ytfjbabacpnnjmaa.Av
open Go Go.Av
set_option maxRecDepth 20000
set_option maxHeartbeats 4000000

attribute [local go_sem] step_apply stepD_apply stepE_apply
attribute [local go_sem] aopq_mv aopq_pk aopq_al aopq_bx aopq_bd aopq_bs aopq_ld aopq_st aopq_nc aopq_bin aopq_un aopq_cv aopq_mi aopq_mf aopq_mm aopq_ms aopq_sc aopq_fa aopq_fl aopq_ia aopq_lk aopq_mu aopq_lm aopq_rg aopq_en aopq_ta aopq_ex aopq_ln aopq_ap aopq_mx aopq.eq_3 aop.eq_1 aop.eq_2 aop.eq_3 aop.eq_4 aop.eq_5 aop.eq_6 aop.eq_7 aop.eq_8 aop.eq_9 aop_bin atS_apply aop_un_not aop_un_neg aop.eq_14 aop.eq_15 aop.eq_16 aop.eq_17 aop.eq_18 aop_sc cutS_apply cutN_apply cutL_apply cutO_apply aop.eq_20 aop.eq_21 aop.eq_22 aop.eq_23 aop.eq_24 aop.eq_25 aop.eq_26 aop.eq_27 aop.eq_28 aop.eq_29 aop.eq_30 aop.eq_31 aop.eq_32 blk_push next_push blk_set next_set blk_kill next_kill frL_nil frL_cons Fits_nil Fits_cons Int.reduceBEq Int.reduceBNe Nat.sub_zero Option.map_some Option.map_none List.set_cons_succ true_or or_true false_or or_false Int.le_refl Int.cast_ofNat_Int decide_true decide_false List.cons_append fillA fillR rowsOf List.replicate_succ List.replicate_zero Nat.zero_mul getD_drop List.length_drop splice List.nil_append List.append_nil cond_true cond_false List.set_cons_zero List.length_set ev put_some put_none upd_apply abin asNat bounds row1 mk List.length_cons List.length_nil List.length_map List.drop_zero List.drop_succ_cons List.drop_nil List.getD_cons_zero List.getD_cons_succ Option.getD_none Option.getD_some List.take_succ_cons List.take_zero List.take_nil true_and and_true Int.toNat_natCast if_true if_false Nat.zero_add Nat.add_zero List.map_cons List.map_nil Nat.reduceEqDiff Nat.left_eq_add Nat.add_eq_left Nat.add_left_cancel_iff Nat.add_assoc Nat.reduceSub Nat.reduceAdd Nat.reduceLeDiff Nat.le_refl Nat.zero_le Nat.zero_lt_one Nat.lt_add_one Int.reduceLT Int.reduceLE Int.reduceToNat Nat.reduceLT Nat.reduceBEq Bool.false_eq_true Nat.reduceBNe ne_eq not_false_eq_true not_true_eq_false false_and and_false reduceIte Int.natCast_nonneg reduceCtorEq parts_agg parts_bool parts_int parts_str parts_lit parts_nils parts_sl parts_ptr Int.natCast_nonneg Int.natCast_nonneg beq_self_eq_true bne_self_eq_false Bool.true_and Bool.false_and Bool.and_true Bool.and_false Bool.true_or Bool.false_or Bool.or_true Bool.or_false Bool.not_true Bool.not_false
attribute [local go_sem] instr0 instr1 instr2 instr10 instr11 instr12 instrN instrA instr_len node0 node1 node2 node3 node4 node5 node6 nodeA node_len I ints progA progsA

theorem tsL_get {ts : List Ten} {i : Nat} (h : i < ts.length) (x : Ten) : (ts ++ [x]).getD i zeroT = ts.getD i zeroT := by
 simp [List.getD_eq_getElem?_getD, List.getElem?_append, h]
theorem tsL_last (ts : List Ten) (x : Ten) : (ts ++ [x]).getD ts.length zeroT = x := by
 simp [List.getD_eq_getElem?_getD, List.getElem?_append]
theorem GvOk.snoc {shapes : List (List Int)} {k : Nat} {gv : List (List Ten)} (h : GvOk shapes k gv) {ts : List Ten} (hk : ts.length = k) (ht : TsOk shapes gv.length ts) : GvOk shapes k (gv ++ [ts]) := by
 intro e he
 by_cases hl : e < gv.length
 ·have : (gv ++ [ts]).getD e [] = gv.getD e [] := by simp [List.getD_eq_getElem?_getD, List.getElem?_append, hl]
  rw [this]; exact h e hl
 ·have e1 : e = gv.length := by simp at he; omega
  subst e1
  have : (gv ++ [ts]).getD gv.length [] = ts := by simp [List.getD_eq_getElem?_getD, List.getElem?_append]
  rw [this]
  exact ⟨hk, fun i hi => ht i (by omega)⟩
/-- A group of the first d devices. -/
structure GrD (n d : Nat) (g : List Nat) : Prop where
 lt : ∀ x ∈ g, x < d
 nd : g.Nodup
 ne : d = n → g ≠ []
theorem ins_mem (g : List Nat) (i d x : Nat) : x ∈ g.take i ++ d :: g.drop i ↔ x = d ∨ x ∈ g := by
 rw [List.mem_append, List.mem_cons]
 constructor
 ·rintro (h | h | h)
  ·exact .inr (List.mem_of_mem_take h)
  ·exact .inl h
  ·exact .inr (List.mem_of_mem_drop h)
 ·rintro (h | h)
  ·exact .inr (.inl h)
  ·have : x ∈ g.take i ++ g.drop i := by rw [List.take_append_drop]; exact h
   rcases List.mem_append.1 this with h | h
   ·exact .inl h
   ·exact .inr (.inr h)
theorem ins_nodup {g : List Nat} {d : Nat} (hd : g.Nodup) (hlt : ∀ x ∈ g, x < d) (i : Nat) : (g.take i ++ d :: g.drop i).Nodup := by
 have hp : (g.take i ++ d :: g.drop i).Perm (d :: g) := by
  have := List.perm_middle (a := d) (l₁ := g.take i) (l₂ := g.drop i)
  rwa [List.take_append_drop] at this
 rw [hp.nodup_iff, List.nodup_cons]
 exact ⟨fun h => Nat.lt_irrefl _ (hlt d h), hd⟩

/-- What begin leaves. -/
structure StG (n k : Nat) (shapes : List (List Int)) (gv : List (List Ten)) (g : List Nat) : Prop where
 n1 : 1 ≤ n
 n8 : n ≤ 8
 gl : gv.length = n
 gk : GvOk shapes k gv
 g1 : 1 ≤ g.length
 gn : ∀ x ∈ g, x < n
 nd : g.Nodup
section
variable {σ : St} {l : List Int} {p bT : Nat}
/-- law21.begin -/
theorem begin_spec (hb : σ.blk bT = some (tapeB l p)) (hp : p ≤ l.length) (hl : l.length ≤ most) (k : Nat) (hk8 : k ≤ 8) (shapes : List (List Int)) (hs0 : 0 < shapes.length) (hs9 : shapes.length ≤ 8) (hsr : ∀ s ∈ shapes, rightS s = true) :
  TQ Try.prog 37 [.ptr bT 0 0, I k, rowsA shapes] σ fun v t => ∃ n gv g S o b bL bR, StG n k shapes gv g ∧ v = .ptr S 0 0 ∧ MkI o t b bL bR (tkAll (MkS.new n) k n) ∧ t.blk S = some (.cells 4 [[.ptr b 0 0, gvA gv, ints (natI g), I n]]) ∧ o S = none ∧ σ.next ≤ S ∧ S < t.next ∧
   (∀ x, x < σ.next → o x = none) ∧ ∀ x, x < σ.next → x ≠ bT → t.blk x = σ.blk x := by
 refine in37 (by simp) fun wf hab => ?_
 clear hab
 have hbT : bT < σ.next := by
  rcases Nat.lt_or_ge bT σ.next with h | h
  ·exact h
  ·rw [wf.1 bT h] at hb; cases hb
 obtain ⟨x1, x2, -⟩ := nxE_in l p 8
 have x2 := x2 (by decide)
 obtain ⟨n', hn'⟩ : ∃ n' : Nat, nxE l p 8 = n' := ⟨_, (Int.toNat_of_nonneg x1).symm⟩
 have hn8 : n' + 1 ≤ 8 := by omega
 have hnx := next_ok hb hp hl 8
 rw [hn'] at hnx
 have w1 : IntKind.i64.wrap (1 + (n' : Int)) = ((n' + 1 : Nat) : Int) := by rw [IntWalk.i64_in _ (by omega)]; omega
 generalize hn : n' + 1 = n at *
 have hn1 : 1 ≤ n := by omega
 have hsl : ∀ i, (shp shapes i).length ≤ 2 ^ 20 := fun i => by
  have hm : shp shapes i ∈ shapes := by
   unfold shp
   have : i % shapes.length < shapes.length := Nat.mod_lt _ hs0
   rw [List.getD_eq_getElem?_getD, List.getElem?_eq_getElem this]; exact List.getElem_mem this
  have := rightS_len (hsr _ hm); omega
 have hsr' : ∀ i, rightS (shp shapes i) = true := fun i => by
  unfold shp
  have : i % shapes.length < shapes.length := Nat.mod_lt _ hs0
  rw [List.getD_eq_getElem?_getD, List.getElem?_eq_getElem this]; exact hsr _ (List.getElem_mem this)
 unfold c37
 refine .seq (.rg fun A hA K hK => ?_)
 simp (maxSteps := 1000000) only [go_sem, hA.nil, hA.go, hA.yes, hA.noT, hA.noF, hA.skp]
 refine hK _ _ ?_; clear hK K hA A
 refine .seq (.rg fun A hA K hK => ?_)
 simp (maxSteps := 1000000) only [go_sem, hA.nil, hA.go, hA.yes, hA.noT, hA.noF, hA.skp]
 refine aopq_callT hnx (by simp (maxSteps := 1000000) only [go_sem]) ?_
 try simp (maxSteps := 1000000) only [go_sem, hA.nil, hA.go, hA.yes, hA.noT, hA.noF, hA.skp, w1]
 refine hK _ _ ?_; clear hK K hA A
 -- the stage
 refine .midK (fun L t => ∃ o b bL bR, L = [(0, .ptr bT 0 0), (1, I k), (2, rowsA shapes), (7, .ptr σ.next 0 0)] ∧ MkI o t b bL bR (MkS.new n) ∧ (∀ c, c ≤ σ.next → o c = none) ∧ t.blk σ.next = some (.cells 4 [[.ptr b 0 0, .nils, .nils, I n]]) ∧ σ.next < t.next ∧ (∃ p, p ≤ l.length ∧ t.blk bT = some (tapeB l p)) ∧ ∀ c, c < σ.next → c ≠ bT → t.blk c = σ.blk c) ?_ ?_
 ·refine .rg fun A hA K hK => ?_
  simp (maxSteps := 1000000) only [go_sem, hA.nil, hA.go, hA.yes, hA.noT, hA.noF, hA.skp]
  refine aopq_callQ (new_spec n (by omega) (by omega) _) (by simp (maxSteps := 1000000) only [go_sem]) ?_
  rintro v s ⟨o, b, bL, bR, vs, rfl, hM, hn2, ho, hx⟩
  rw [Int.toNat_natCast] at hM
  have hn2' : σ.next + 1 ≤ s.next := by have := hn2; simpa [next_push, next_set] using this
  have ho' : ∀ c, o c ≠ none → σ.next + 1 ≤ c := fun c hc => by have := ho c hc; simpa [next_push, next_set] using this
  have hx1 : s.blk σ.next = some (.cells 4 [[.nilp, .nils, .nils, I n]]) := by rw [hx σ.next (by simp [next_push, next_set])]; simp (maxSteps := 1000000) only [go_sem]
  try simp (maxSteps := 1000000) only [go_sem, hA.nil, hA.go, hA.yes, hA.noT, hA.noF, hA.skp, hx1]
  refine hK _ _ ?_; clear hK K hA A
  refine ⟨_, ⟨o, b, bL, bR, rfl, ⟨vs, hM.frame (by simp (maxSteps := 1000000) only [go_sem]; try exact Nat.le_refl _) fun c hc => ?_⟩, fun c hc => ?_, by simp (maxSteps := 1000000) only [go_sem], by simp (maxSteps := 1000000) only [go_sem]; try omega, ⟨_, nxP_le hp 8, ?_⟩, fun c hc hcT => ?_⟩, by simp (maxSteps := 1000000) only [go_sem]⟩
  ·have := ho' c hc
   simp (maxSteps := 1000000) only [go_sem, show ¬ c = σ.next by omega]
  ·cases hh : o c with
   | none => rfl
   | some z => have := ho' c (by rw [hh]; simp); omega
  ·have : ¬ bT = σ.next := by omega
   simp (maxSteps := 1000000) only [go_sem, this]
   rw [hx bT (by simp [next_push, next_set]; omega)]
   simp (maxSteps := 1000000) only [go_sem, this]
  ·have : ¬ c = σ.next := by omega
   simp (maxSteps := 1000000) only [go_sem, this]
   rw [hx c (by simp [next_push, next_set]; omega)]
   simp (maxSteps := 1000000) only [go_sem, this, hcT]
 rintro L t ⟨o, b, bL, bR, rfl, hM, ho, hst, htn, ⟨p1, hp1, hT1⟩, hx⟩
 refine .seq (.seq (.rg fun A hA K hK => ?_))
 simp (maxSteps := 1000000) only [go_sem, hA.nil, hA.go, hA.yes, hA.noT, hA.noF, hA.skp, hst]
 refine hK _ _ ?_; clear hK K hA A
 refine .cond (t := false) (by simp (maxSteps := 1000000) only [go_sem]) (fun h => by cases h) (fun _ => .skip ?_)
 refine virt1 σ.next 1 1 hst (by simp) rfl ?_
 refine virt1 σ.next 2 1 (row := [.ptr b 0 0, .sl t.next 0 0, .nils, I n]) (sz' := 4) (by simp (maxSteps := 1000000) only [go_sem]) (by simp) rfl ?_
 -- what each is given
 refine .midK (fun L u => ∃ o cg cr gv, L = [(0, .ptr bT 0 0), (7, .ptr σ.next 0 0)] ∧ BG σ bT σ.next b bL bR l n o u (tkAll (MkS.new n) k n) cg cr gv [] ∧ gv.length = n ∧ GvOk shapes k gv) ?_ ?_
 ·refine .seq (.rg fun A hA K hK => ?_)
  simp (maxSteps := 1000000) only [go_sem, hA.nil, hA.go, hA.yes, hA.noT, hA.noF, hA.skp]
  refine hK _ _ ?_; clear hK K hA A
  refine .countK (N := n) (fun d L u => ∃ o cg cr gv, L = [(0, .ptr bT 0 0), (1, I k), (2, rowsA shapes), (7, .ptr σ.next 0 0), (8, I d)] ∧ BG σ bT σ.next b bL bR l n o u (tkAll (MkS.new n) k d) cg cr gv [] ∧ gv.length = d ∧ GvOk shapes k gv) (by simp only [most]; omega)
   ⟨_, ⟨o, t.next, t.next + 1, [], rfl, ⟨hM.frame (by simp (maxSteps := 1000000) only [go_sem]; try omega) (fun c hc => ?_), fun c hc => ho c (by omega), fun c hc hcT => ?_, hbT, ⟨p1, hp1, ?_⟩, Nat.le_refl _, by simp (maxSteps := 1000000) only [go_sem]; try omega, ho _ (Nat.le_refl _), ?_, by omega, by simp (maxSteps := 1000000) only [go_sem]; try omega, by omega, ?_, ?_, by omega, by simp (maxSteps := 1000000) only [go_sem]; try omega, by omega, ?_, ?_, by omega⟩, rfl, fun e he => absurd he (by simp)⟩, by simp (maxSteps := 1000000) only [go_sem]; try rfl⟩ ?_ ?_ ?_
  ·have := hM.lt c hc
   have : ¬ c = σ.next := by rintro rfl; exact hc (ho _ (Nat.le_refl _))
   simp (disch := omega) only [go_sem, if_neg, this]
  ·rw [← hx c hc hcT]; simp (disch := omega) only [go_sem, if_neg]
  ·rw [← hT1]; simp (disch := omega) only [go_sem, if_neg]
  ·simp (maxSteps := 1000000) only [go_sem]
  ·cases hh : o t.next with
   | none => rfl
   | some z => have := hM.lt t.next (by rw [hh]; simp); omega
  ·simp (maxSteps := 1000000) only [go_sem, show ¬ t.next = σ.next by omega, show ¬ t.next = t.next + 1 by omega]
  ·cases hh : o (t.next + 1) with
   | none => rfl
   | some z => have := hM.lt (t.next + 1) (by rw [hh]; simp); omega
  ·simp (maxSteps := 1000000) only [go_sem, show ¬ t.next + 1 = σ.next by omega, natI]
  ·rintro d L u hd ⟨o, cg, cr, gv, rfl, hB, hgl, hgk⟩
   have := hB.st
   refine .rg fun A hA K hK => ?_
   simp (maxSteps := 1000000) only [go_sem, hA.nil, hA.go, hA.yes, hA.noT, hA.noF, hA.skp, this]
   refine hK _ _ ?_; clear hK K hA A
   exact ⟨rfl, by simp (maxSteps := 1000000) only [go_sem]; try simp, _, ⟨o, cg, cr, gv, rfl, hB, hgl, hgk⟩, by simp (maxSteps := 1000000) only [go_sem]⟩
  ·rintro d L u hd ⟨o, cg, cr, gv, rfl, hB, hgl, hgk⟩
   have hdk : d * k ≤ 8 * 8 := Nat.mul_le_mul (by omega) hk8
   have hbn := hB.next
   have hs2 := hB.s2
   have hg2 := hB.g2
   have hr2 := hB.r2
   have hg1 := hB.g1
   have hr1 := hB.r1
   have hpl : (tkAll (MkS.new n) k d).ps.length = n := by rw [(tkAll_len _ _ _).1]; simp [MkS.new]
   have hrl : (tkAll (MkS.new n) k d).rs.length = n := by rw [(tkAll_len _ _ _).2]; simp [MkS.new]
   have hr0 := tkAll_rs n k d d (by omega)
   rw [if_neg (by omega)] at hr0
   refine .seq (.rg fun A hA K hK => ?_)
   simp (maxSteps := 1000000) only [go_sem, hA.nil, hA.go, hA.yes, hA.noT, hA.noF, hA.skp]
   refine hK _ _ ?_; clear hK K hA A
   refine .ent (.virt (i := 9) 2 (by simp (maxSteps := 1000000) only [go_sem])) ?_
   refine .midK (fun L t => ∃ o c9 ts, L = [(0, .ptr bT 0 0), (1, I k), (2, rowsA shapes), (7, .ptr σ.next 0 0), (8, I d), (9, .sl c9 0 k)] ∧ BG σ bT σ.next b bL bR l n o t (tkAll (MkS.new n) k (d + 1)) cg cr gv [] ∧ ts.length = k ∧ TsOk shapes d ts ∧ u.next ≤ c9 ∧ c9 < t.next ∧ o c9 = none ∧ t.blk c9 = some (.cells 2 (ts.map tenL))) ?_ ?_
   ·refine .seq (.rg fun A hA K hK => ?_)
    simp (maxSteps := 1000000) only [go_sem, hA.nil, hA.go, hA.yes, hA.noT, hA.noF, hA.skp]
    refine hK _ _ ?_; clear hK K hA A
    refine .countK (N := k) (fun i L t => ∃ o c9 ts, L = [(0, .ptr bT 0 0), (1, I k), (2, rowsA shapes), (7, .ptr σ.next 0 0), (8, I d), (9, .sl c9 0 i), (10, I i)] ∧ BG σ bT σ.next b bL bR l n o t (tkN (tkAll (MkS.new n) k d) d i) cg cr gv [] ∧ ts.length = i ∧ TsOk shapes d ts ∧ u.next ≤ c9 ∧ c9 < t.next ∧ o c9 = none ∧ t.blk c9 = some (.cells 2 (ts.map tenL))) (by simp only [most]; omega)
     ⟨_, ⟨o, u.next, [], rfl, hB.else u.next (by simp (maxSteps := 1000000) only [go_sem]; try omega) (fun x hx _ => by simp (disch := omega) only [go_sem, if_neg]) ⟨hbn, by omega, by omega, by omega, hB.mk.none⟩, rfl, fun i hi => absurd hi (by simp), Nat.le_refl _, by simp (maxSteps := 1000000) only [go_sem]; try omega, hB.mk.none, by simp (maxSteps := 1000000) only [go_sem]⟩, by simp (maxSteps := 1000000) only [go_sem]; try rfl⟩ ?_ ?_ ?_
    ·rintro i L t hi ⟨o, c9, ts, rfl, hB, h1, h2, h3, h4, h5, h6⟩
     refine .rg fun A hA K hK => ?_
     simp (maxSteps := 1000000) only [go_sem, hA.nil, hA.go, hA.yes, hA.noT, hA.noF, hA.skp]
     refine hK _ _ ?_; clear hK K hA A
     exact ⟨rfl, by simp (maxSteps := 1000000) only [go_sem]; try simp, _, ⟨o, c9, ts, rfl, hB, h1, h2, h3, h4, h5, h6⟩, by simp (maxSteps := 1000000) only [go_sem]⟩
    ·rintro i L t hi ⟨o, c9, ts, rfl, hB, h1, h2, h3, h4, h5, h6⟩
     have hsm := tkN_sm (tkAll_sm (new_sm hn8) k d) d i
     have hln := (tkN_len (tkAll (MkS.new n) k d) d i).1
     have hrs := tkN_rs (tkAll (MkS.new n) k d) (d := d) (by omega) i d
     rw [if_pos rfl, hr0, Int.zero_add] at hrs
     have hN : tkN (tkAll (MkS.new n) k d) d (i + 1) = ((tkN (tkAll (MkS.new n) k d) d i).fresh d).put d (takeI ((tkN (tkAll (MkS.new n) k d) d i).rs.getD d 0) i) := rfl
     obtain ⟨t1, hT1, q1, g1⟩ := fresh_TI hB.mk hsm (by omega) d (by omega)
     rw [hrs] at hT1
     have hB1 := hB.maker q1 g1
     have hst := hB.st
     have hst1 := hB1.st
     have g1n := g1.1
     have n9 := (g1.2.2 c9 h4 h5).trans h6
     have o9 : o c9 = none := h5
     have i1 : ((d : Int) + i) = ((d + i : Nat) : Int) := by omega
     have w2 : IntKind.i64.wrap ((d : Int) + i) = ((d + i : Nat) : Int) := by rw [IntWalk.i64_in _ (by omega)]; omega
     have hmod : (((d + i : Nat) : Int).tmod shapes.length) = ((((d + i) % shapes.length : Nat)) : Int) := by
      rw [Int.tmod_eq_emod_of_nonneg (by omega)]; omega
     have hml : (d + i) % shapes.length < shapes.length := Nat.mod_lt _ hs0
     have hmlI : (((d + i) % shapes.length : Nat) : Int) < shapes.length := by omega
     have hm8 : (d + i) % shapes.length < 8 := by omega
     have wm : IntKind.i64.wrap ((((d + i) % shapes.length : Nat)) : Int) = ((((d + i) % shapes.length : Nat)) : Int) := IntWalk.i64_in _ (by omega)
     have sl0 : ¬ ((shapes.length : Int) = 0) := by omega
     have hgs : (shapes.map fun r => [AV.lit 1 (r.map fun n => [AV.int .i64 n])]).getD ((d + i) % shapes.length) [] = [ints (shp shapes (d + i))] := by
      unfold shp; simp [List.getD_eq_getElem?_getD, hml, ints, I]
     obtain ⟨p2, hp2, hT2⟩ := hB1.tp
     have qt := tensor_spec hT2 hp2 hl (shp shapes (d + i)) (hsl _)
     refine .seq (.rg fun A hA K hK => ?_)
     simp (maxSteps := 1000000) only [go_sem, hA.nil, hA.go, hA.yes, hA.noT, hA.noF, hA.skp, hst]
     refine aopq_callT hT1 (by simp (maxSteps := 1000000) only [go_sem]) ?_
     try simp (maxSteps := 1000000) only [go_sem, hA.nil, hA.go, hA.yes, hA.noT, hA.noF, hA.skp]
     refine hK _ _ ?_; clear hK K hA A
     refine .midK (fun L v => ∃ c9 ts, L = [(0, .ptr bT 0 0), (1, I k), (2, rowsA shapes), (7, .ptr σ.next 0 0), (8, I d), (9, .sl c9 0 (i + 1)), (10, I i), (11, I i)] ∧ BG σ bT σ.next b bL bR l n o v ((tkN (tkAll (MkS.new n) k d) d i).fresh d) cg cr gv [] ∧ ts.length = i + 1 ∧ TsOk shapes d ts ∧ u.next ≤ c9 ∧ c9 < v.next ∧ o c9 = none ∧ v.blk c9 = some (.cells 2 (ts.map tenL))) ?_ ?_
     ·have m1 : i + 1 ≤ most := by simp only [most]; omega
      have m2 : (i + 1) * 48 ≤ most := by simp only [most]; omega
      have m4 : List.take i (ts.map tenL) = ts.map tenL := List.take_of_length_le (by simp; omega)
      refine .rg fun A hA K hK => ?_
      simp (maxSteps := 1000000) only [go_sem, hA.nil, hA.go, hA.yes, hA.noT, hA.noF, hA.skp, rowsA, w2, hmod, wm, sl0, hmlI, hml, hgs, List.length_map]
      refine aopq_callQ (qt) (by simp (maxSteps := 1000000) only [go_sem]) ?_
      rintro v s ⟨dt, p3, rfl, hdt, hp3, hT3, hn3, hx3⟩
      have hB2 := hB1.tape hp3 hn3 hT3 hx3
      have n9s := (hx3 c9 (by omega) (by omega)).trans n9
      have hno := hB2.mk.none
      try simp (maxSteps := 1000000) only [go_sem, hA.nil, hA.go, hA.yes, hA.noT, hA.noF, hA.skp, n9s, m1, m2, m4, h1, List.length_map]
      refine hK _ _ ?_; clear hK K hA A
      have htok : (⟨shp shapes (d + i), dt⟩ : Ten).ok := by
       have hz := sizeE_in (shp shapes (d + i))
       simp only [Ten.ok, rightT, hsr', Bool.true_and, beq_iff_eq]; omega
      refine ⟨_, ⟨s.next, ts ++ [⟨shp shapes (d + i), dt⟩], rfl, hB2.else c9 (by simp (maxSteps := 1000000) only [go_sem]; try omega) (fun x hx hxe => by simp (disch := omega) only [go_sem, if_neg, hxe]) ⟨by omega, by omega, by omega, by omega, o9⟩, by simp [h1], fun j hj => ?_, by omega, by simp (maxSteps := 1000000) only [go_sem]; try omega, hno, by simp (maxSteps := 1000000) only [go_sem, List.map_append, tenL]⟩, by simp (maxSteps := 1000000) only [go_sem, rowsA, hgs]; try rfl⟩
      by_cases hji : j < ts.length
      ·rw [tsL_get hji]; exact h2 j hji
      ·have : j = ts.length := by simp at hj; omega
       subst this
       rw [tsL_last, h1]
       exact ⟨rfl, htok⟩
     rintro L v ⟨c9, ts, rfl, hB3, h1, h2, h3, h4, h5, h6⟩
     obtain ⟨z, hTp, o4, q4, g4⟩ := take_T hB3.mk (hsm.fresh d) (by omega) d (by rw [show ((tkN (tkAll (MkS.new n) k d) d i).fresh d).ps = (tkN (tkAll (MkS.new n) k d) d i).ps from rfl]; omega) i i
     have hst3 := hB3.st
     have ci : ((i : Int) != i) = false := by simp
     refine .seq (.rg fun A hA K hK => ?_)
     simp (maxSteps := 1000000) only [go_sem, hA.nil, hA.go, hA.yes, hA.noT, hA.noF, hA.skp, ci, hst3]
     refine aopq_callT hTp (by simp (maxSteps := 1000000) only [go_sem, instrL, takeI, emptyN, nodeL]) ?_
     try simp (maxSteps := 1000000) only [go_sem, hA.nil, hA.go, hA.yes, hA.noT, hA.noF, hA.skp, ci]
     refine hK _ _ ?_; clear hK K hA A
     refine .cond (t := false) (by simp (maxSteps := 1000000) only [go_sem, ci]) (fun h => by cases h) (fun _ => .skip ?_)
     have g4n := g4.1
     refine ⟨by simp (maxSteps := 1000000) only [go_sem], _, ⟨o4, c9, ts, rfl, ?_, h1, h2, h3, by omega, (g4.2.1 c9 h4).trans h5, (g4.2.2 c9 h4 h5).trans h6⟩, by simp (maxSteps := 1000000) only [go_sem]; try rfl⟩
     rw [hN, hrs]
     exact hB3.maker q4 g4
    ·rintro L t F ⟨o, c9, ts, rfl, hB, h1, h2, h3, h4, h5, h6⟩ hf
     simp (maxSteps := 1000000) only [go_sem] at hf
     exact ⟨_, ⟨o, c9, ts, rfl, hB, h1, h2, h3, h4, h5, h6⟩, by simp (maxSteps := 1000000) only [go_sem, hf]⟩
   rintro L t ⟨o, c9, ts, rfl, hB, h1, h2, h3, h4, h5, h6⟩
   have hst := hB.st
   have hg5 := hB.g5
   have hbn2 := hB.next
   have hgt2 := hB.g2
   have n1 : ¬ σ.next = c9 := by omega
   have n2 : ¬ cg = c9 := by omega
   have n3 : ¬ σ.next = cg := fun e => hB.g3 e.symm
   have n4 : ¬ σ.next = t.next := by omega
   have m1 : gv.length + 1 ≤ most := by simp only [most]; omega
   have m2 : (gv.length + 1) * 24 ≤ most := by simp only [most]; omega
   have m4 : List.take gv.length (gv.map fun ts => [AV.lit 2 (ts.map tenL)]) = gv.map fun ts => [AV.lit 2 (ts.map tenL)] := List.take_of_length_le (by simp)
   refine .frz 9 (b := c9) (n := k) (by simp (maxSteps := 1000000) only [go_sem]) h6 (by rw [List.length_map, h1]) ?_
   refine .rg fun A hA K hK => ?_
   simp (maxSteps := 1000000) only [go_sem, hA.nil, hA.go, hA.yes, hA.noT, hA.noF, hA.skp, hst, hg5, n1, n2, n3, n4, m1, m2, m4, List.length_map]
   refine hK _ _ ?_; clear hK K hA A
   refine ⟨by simp (maxSteps := 1000000) only [go_sem], _, ⟨o, t.next, cr, gv ++ [ts], rfl, hB.give ts c9 (Nat.le_refl _) (by simp (maxSteps := 1000000) only [go_sem]; try omega) (by simp (maxSteps := 1000000) only [go_sem]; try omega) (by simp (maxSteps := 1000000) only [go_sem]) (by simp (maxSteps := 1000000) only [go_sem, List.map_append, show ¬ t.next = σ.next by omega]) (fun x a1 a2 a3 a4 => by simp (disch := omega) only [go_sem, if_neg, a2, a3, a4]) ⟨by omega, by omega, h5⟩, by rw [List.length_append, hgl]; rfl, hgk.snoc h1 (by rw [hgl]; exact h2)⟩, by simp (maxSteps := 1000000) only [go_sem]; try rfl⟩
  ·rintro L u F ⟨o, cg, cr, gv, rfl, hB, hgl, hgk⟩ hf
   simp (maxSteps := 1000000) only [go_sem] at hf
   exact ⟨_, ⟨o, cg, cr, gv, rfl, hB, hgl, hgk⟩, by simp (maxSteps := 1000000) only [go_sem, hf]⟩
 rintro L u ⟨o, cg, cr, gv, rfl, hB, hgl, hgk⟩
 -- the group
 refine .midK (fun L t => ∃ cr g, L = [(7, .ptr σ.next 0 0)] ∧ BG σ bT σ.next b bL bR l n o t (tkAll (MkS.new n) k n) cg cr gv g ∧ GrD n n g) ?_ ?_
 ·refine .seq (.rg fun A hA K hK => ?_)
  simp (maxSteps := 1000000) only [go_sem, hA.nil, hA.go, hA.yes, hA.noT, hA.noF, hA.skp]
  refine hK _ _ ?_; clear hK K hA A
  refine .countK (N := n) (fun d L t => ∃ cr g, L = [(0, .ptr bT 0 0), (7, .ptr σ.next 0 0), (12, I d)] ∧ BG σ bT σ.next b bL bR l n o t (tkAll (MkS.new n) k n) cg cr gv g ∧ GrD n d g) (by simp only [most]; omega)
   ⟨_, ⟨cr, [], rfl, hB, ⟨by simp, by simp, fun h => by omega⟩⟩, by simp (maxSteps := 1000000) only [go_sem]; try rfl⟩ ?_ ?_ ?_
  ·rintro d L t hd ⟨cr, g, rfl, hB, hG⟩
   have hst := hB.st
   refine .rg fun A hA K hK => ?_
   simp (maxSteps := 1000000) only [go_sem, hA.nil, hA.go, hA.yes, hA.noT, hA.noF, hA.skp, hst]
   refine hK _ _ ?_; clear hK K hA A
   exact ⟨rfl, by simp (maxSteps := 1000000) only [go_sem]; try simp, _, ⟨cr, g, rfl, hB, hG⟩, by simp (maxSteps := 1000000) only [go_sem]⟩
  ·rintro d L t hd ⟨cr, g, rfl, hB, hG⟩
   have hst := hB.st
   obtain ⟨p2, hp2, hT2⟩ := hB.tp
   have hnx2 := next_ok hT2 hp2 hl 4
   have hpl2 := nxP_le hp2 4
   have hbn := hB.next
   have hs2 := hB.s2
   have hB1 := hB.tape (u := t.set bT (tapeB l (nxP l p2 4))) hpl2 (Nat.le_refl _) (by rw [blk_set, if_pos rfl]) (fun x _ hx => by rw [blk_set, if_neg hx])
   have nS : ¬ σ.next = bT := by omega
   have wn : IntKind.i64.wrap ((n : Int) - 1) = (n : Int) - 1 := IntWalk.i64_in _ (by omega)
   refine .midK (fun L v => ∃ tt, L = [(0, .ptr bT 0 0), (7, .ptr σ.next 0 0), (12, I d), (117, .bool tt)] ∧ BG σ bT σ.next b bL bR l n o v (tkAll (MkS.new n) k n) cg cr gv g ∧ (tt = false → d + 1 = n → g ≠ [])) ?_ ?_
   ·by_cases k1 : nxE l p2 4 > 0
    ·refine .rg fun A hA K hK => ?_
     simp (maxSteps := 1000000) only [go_sem, hA.nil, hA.go, hA.yes, hA.noT, hA.noF, hA.skp]
     refine aopq_callT hnx2 (by simp (maxSteps := 1000000) only [go_sem]) ?_
     try simp (maxSteps := 1000000) only [go_sem, hA.nil, hA.go, hA.yes, hA.noT, hA.noF, hA.skp, k1]
     refine hK _ _ ?_; clear hK K hA A
     exact ⟨_, ⟨true, rfl, hB1, fun h => by cases h⟩, by simp (maxSteps := 1000000) only [go_sem]⟩
    ·by_cases k2 : (d : Int) = (n : Int) - 1
     ·have c2 : ((d : Int) == (n : Int) - 1) = true := by simpa using k2
      by_cases k3 : g = []
      ·have c3 : ((g.length : Int) == 0) = true := by rw [k3]; rfl
       refine .rg fun A hA K hK => ?_
       simp (maxSteps := 1000000) only [go_sem, hA.nil, hA.go, hA.yes, hA.noT, hA.noF, hA.skp]
       refine aopq_callT hnx2 (by simp (maxSteps := 1000000) only [go_sem]) ?_
       try simp (maxSteps := 1000000) only [go_sem, hA.nil, hA.go, hA.yes, hA.noT, hA.noF, hA.skp, k1, hst, nS, wn, c2, c3]
       refine hK _ _ ?_; clear hK K hA A
       exact ⟨_, ⟨true, rfl, hB1, fun h => by cases h⟩, by simp (maxSteps := 1000000) only [go_sem]⟩
      ·have c3 : ((g.length : Int) == 0) = false := by
        have : g.length ≠ 0 := fun h => k3 (List.length_eq_zero_iff.1 h)
        simp; omega
       refine .rg fun A hA K hK => ?_
       simp (maxSteps := 1000000) only [go_sem, hA.nil, hA.go, hA.yes, hA.noT, hA.noF, hA.skp]
       refine aopq_callT hnx2 (by simp (maxSteps := 1000000) only [go_sem]) ?_
       try simp (maxSteps := 1000000) only [go_sem, hA.nil, hA.go, hA.yes, hA.noT, hA.noF, hA.skp, k1, hst, nS, wn, c2, c3]
       refine hK _ _ ?_; clear hK K hA A
       exact ⟨_, ⟨false, rfl, hB1, fun _ _ => k3⟩, by simp (maxSteps := 1000000) only [go_sem]⟩
     ·have c2 : ((d : Int) == (n : Int) - 1) = false := by simpa using k2
      refine .rg fun A hA K hK => ?_
      simp (maxSteps := 1000000) only [go_sem, hA.nil, hA.go, hA.yes, hA.noT, hA.noF, hA.skp]
      refine aopq_callT hnx2 (by simp (maxSteps := 1000000) only [go_sem]) ?_
      try simp (maxSteps := 1000000) only [go_sem, hA.nil, hA.go, hA.yes, hA.noT, hA.noF, hA.skp, k1, hst, nS, wn, c2]
      refine hK _ _ ?_; clear hK K hA A
      exact ⟨_, ⟨false, rfl, hB1, fun _ h => absurd h (by omega)⟩, by simp (maxSteps := 1000000) only [go_sem]⟩
   rintro L v ⟨tt, rfl, hB2, htt⟩
   refine .cond (t := tt) (by simp (maxSteps := 1000000) only [go_sem]) (fun ht => ?_) (fun ht => .skip ?_)
   ·have hst2 := hB2.st
    obtain ⟨p3, hp3, hT3⟩ := hB2.tp
    have hgl8 : g.length ≤ 8 := by
     have := pigeon d g hG.nd hG.lt; omega
    have w3 : IntKind.i64.wrap ((g.length : Int) + 1) = (g.length : Int) + 1 := IntWalk.i64_in _ (by omega)
    have hnx3 := next_ok hT3 hp3 hl ((g.length : Int) + 1)
    obtain ⟨y1, y2, -⟩ := nxE_in l p3 ((g.length : Int) + 1)
    have y2 := y2 (by omega)
    obtain ⟨i, hi⟩ : ∃ i : Nat, nxE l p3 ((g.length : Int) + 1) = i := ⟨_, (Int.toNat_of_nonneg y1).symm⟩
    rw [hi] at hnx3 y2
    have hil : i ≤ g.length := by omega
    have hilI : (i : Int) ≤ (g.length : Int) := by omega
    have hbn3 := hB2.next
    have hs3 := hB2.s2
    have hrr1 := hB2.r1
    have hrr2 := hB2.r2
    have hr5 := hB2.r5
    have n1 : ¬ cr = bT := by omega
    have n2 : ¬ cr = v.next := by omega
    have n3 : ¬ cr = v.next + 1 := by omega
    have n4 : ¬ σ.next = v.next := by omega
    have n5 : ¬ σ.next = v.next + 1 := by omega
    have n6 : ¬ σ.next = v.next + 1 + 1 := by omega
    have n7 : ¬ cr = v.next + 2 := by omega
    have n8 : ¬ σ.next = v.next + 2 := by omega
    have a0 : i + 1 + (g.length - i) = g.length + 1 := by omega
    have a1 : min i g.length = i := by omega
    have a2 : min (g.length - i) (g.length - i) = g.length - i := by omega
    have a3 : i + (g.length - i) ≤ g.length := by omega
    have a4 : i + (1 + (g.length - i)) = g.length + 1 := by omega
    have b1 : i ≤ most := by simp only [most]; omega
    have b2 : i * 8 ≤ most := by simp only [most]; omega
    have b3 : i + 1 ≤ most := by simp only [most]; omega
    have b4 : (i + 1) * 8 ≤ most := by simp only [most]; omega
    have b5 : g.length + 1 ≤ most := by simp only [most]; omega
    have b6 : (g.length + 1) * 8 ≤ most := by simp only [most]; omega
    have hk1 : ∀ x : List (List AV), x.length = i → List.take i x = x := fun x h => List.take_of_length_le (by omega)
    have hrows : List.take (i + 1) (List.take i (List.take i ((natI g).map fun n => [AV.int .i64 n])) ++ [[AV.int .i64 d]]) ++ List.take (g.length - i) (List.drop i ((natI g).map fun n => [AV.int .i64 n])) = (natI (g.take i ++ d :: g.drop i)).map fun n => [I n] := by
     rw [List.take_take, Nat.min_self, List.take_of_length_le (i := i + 1) (by rw [List.length_append, List.length_take]; simp only [List.length_cons, List.length_nil]; omega), List.take_of_length_le (i := g.length - i) (by simp [natI])]
     simp [natI, List.map_take, List.map_drop, I]
    have hgl' : (g.take i ++ d :: g.drop i).length = g.length + 1 := by rw [List.length_append, List.length_cons, List.length_take, List.length_drop]; omega
    refine .seq (.rg fun A hA K hK => ?_)
    simp (maxSteps := 1000000) only [go_sem, hA.nil, hA.go, hA.yes, hA.noT, hA.noF, hA.skp, hst2, w3]
    refine aopq_callT hnx3 (by simp (maxSteps := 1000000) only [go_sem]) ?_
    try simp (maxSteps := 1000000) only [go_sem, hA.nil, hA.go, hA.yes, hA.noT, hA.noF, hA.skp]
    refine hK _ _ ?_; clear hK K hA A
    refine .rdx fun A hA K hK => ?_
    simp (maxSteps := 200000) only [go_sem, hA.nil, hA.pur, hA.go, hA.yes, hA.noT, hA.noF, hA.skp, pure_mv, eff_mv, pure_pk, eff_pk, pure_al, eff_al, pure_bx, eff_bx, pure_bd, eff_bd, pure_bs, eff_bs, pure_ld, eff_ld, pure_st, eff_st, pure_nc, eff_nc, pure_bin, eff_bin, pure_un, eff_un, pure_cv, eff_cv, pure_mi, eff_mi, pure_mf, eff_mf, pure_mm, eff_mm, pure_ms, eff_ms, pure_sc, eff_sc, pure_fa, eff_fa, pure_fl, eff_fl, pure_ia, eff_ia, pure_lk, eff_lk, pure_mu, eff_mu, pure_lm, eff_lm, pure_rg, eff_rg, pure_nx, eff_nx, pure_en, eff_en, pure_ta, eff_ta, pure_ex, eff_ex, pure_ln, eff_ln, pure_ap, eff_ap, pure_mx, eff_mx, pure_call, eff_call, pure_callv, eff_callv, chk_nil, chk_cons, again, List.contains_cons, List.contains_nil, hst2, hr5, nS, n1, n2, n3, n4, n5, n6, n7, n8, hil, hilI, a0, a1, a2, a3, a4, Nat.min_self, Nat.le_refl, b1, b2, b3, b4, b5, b6, natI_len, List.length_map, List.length_take, List.length_drop, List.length_append]
    refine hK _ _ ?_; clear hK K hA A
    refine ⟨by simp (maxSteps := 1000000) only [go_sem], _, ⟨v.next + 2, g.take i ++ d :: g.drop i, rfl, hB2.join (g.take i ++ d :: g.drop i) (by omega) (by simp (maxSteps := 1000000) only [go_sem]; try omega) (by simp (maxSteps := 1000000) only [go_sem]; try omega) (by rw [hgl']; simp (maxSteps := 1000000) only [go_sem]) (by rw [← hrows]; simp (maxSteps := 1000000) only [go_sem, n8, show ¬ v.next + 2 = σ.next by omega]) (fun x hx hxS hxT => by simp (disch := omega) only [go_sem, if_neg, hxS, hxT]) ⟨nxP l p3 ((g.length : Int) + 1), nxP_le hp3 _, ?_⟩, ⟨fun x hx => ?_, ins_nodup hG.nd hG.lt i, fun _ h => ?_⟩⟩, by simp (maxSteps := 1000000) only [go_sem]; try rfl⟩
    ·have b3 : ¬ bT = v.next := by omega
     have b4 : ¬ bT = v.next + 1 := by omega
     have b5 : ¬ bT = v.next + 2 := by omega
     have b6 : ¬ bT = σ.next := by omega
     simp only [blk_set, blk_push, blk_kill, next_set, next_push, next_kill, b3, b4, b5, b6, if_false, if_true]
    ·rcases (ins_mem g i d x).1 hx with rfl | h
     ·omega
     ·have := hG.lt x h; omega
    ·simp at h
   ·exact ⟨by simp (maxSteps := 1000000) only [go_sem], _, ⟨cr, g, rfl, hB2, ⟨fun x hx => Nat.lt_succ_of_lt (hG.lt x hx), hG.nd, fun h => htt ht h⟩⟩, by simp (maxSteps := 1000000) only [go_sem]; try rfl⟩
  ·rintro L t F ⟨cr, g, rfl, hB, hG⟩ hf
   simp (maxSteps := 1000000) only [go_sem] at hf
   exact ⟨_, ⟨cr, g, rfl, hB, hG⟩, by simp (maxSteps := 1000000) only [go_sem, hf]⟩
 rintro L t ⟨cr, g, rfl, hB, hG⟩
 have hst := hB.st
 have hg5 := hB.g5
 have hr5 := hB.r5
 have hgr := hB.gr
 have hs2 := hB.s2
 refine frz1 σ.next 1 hst (by simp) rfl hg5 (fun e => hB.g3 e.symm) (by simp) ?_
 refine frz1 σ.next 2 (row := [.ptr b 0 0, .lit 1 (gv.map fun ts => [.lit 2 (ts.map tenL)]), .sl cr 0 g.length, I n]) (sz' := 4) (by simp (maxSteps := 1000000) only [go_sem]) (by simp) rfl (c' := cr) (rows := (natI g).map fun n => [I n]) (by simp only [blk_set, blk_kill, if_neg (show ¬ cr = σ.next from hB.r3), if_neg (show ¬ cr = cg from fun e => hgr e.symm)]; exact hr5) (fun e => hB.r3 e.symm) (by simp [natI]) ?_
 refine .seq (.rg fun A hA K hK => ?_)
 simp (maxSteps := 1000000) only [go_sem, hA.nil, hA.go, hA.yes, hA.noT, hA.noF, hA.skp]
 refine hK _ _ ?_; clear hK K hA A
 refine .ret (retS (by simp (maxSteps := 1000000) only [go_sem]; try rfl) ⟨n, gv, g, σ.next, o, b, bL, bR, ⟨hn1, hn8, hgl, hgk, ?_, hG.lt, hG.nd⟩, rfl, hB.mk.frame (by simp (maxSteps := 1000000) only [go_sem]; try omega) (fun x hx => ?_), by simp (maxSteps := 1000000) only [go_sem, gvA]; try rfl, hB.os, Nat.le_refl _, by simp (maxSteps := 1000000) only [go_sem]; exact hs2, hB.low, fun x hx hxT => ?_⟩)
 ·have := hG.ne rfl
  cases g with
  | nil => exact absurd rfl this
  | cons => simp
 ·have h1 : ¬ x = σ.next := by rintro rfl; exact hx hB.os
  have h2 : ¬ x = cg := by rintro rfl; exact hx hB.g4
  have h3 : ¬ x = cr := by rintro rfl; exact hx hB.r4
  simp (maxSteps := 1000000) only [go_sem, h1, h2, h3]
 ·have h1 := hB.g1
  have h2 := hB.r1
  rw [← hB.fr x hx hxT]; simp (disch := omega) only [go_sem, if_neg]
end
theorem cntE_acc : ∀ (l : List (List Instr)) (a : Int), 0 ≤ a → a + ((l.map List.length).sum : Nat) < 2 ^ 62 → l.foldl (fun n p => IntKind.i64.wrap (n + p.length)) a = a + ((l.map List.length).sum : Nat)
 | [], a, _, _ => by simp
 | p :: l, a, h0, h1 => by
  simp only [List.map_cons, List.sum_cons, List.foldl_cons] at h1 ⊢
  rw [IntWalk.i64_in _ (by omega), cntE_acc l _ (by omega) (by omega)]
  omega
theorem sum_one (f : Nat → Nat) (k : Nat) : ∀ n, ((List.range n).map fun d => f d + if k = d then 1 else 0).sum = ((List.range n).map f).sum + if k < n then 1 else 0
 | 0 => by simp
 | n + 1 => by
  rw [List.range_succ, List.map_append, List.map_append, List.sum_append, List.sum_append, sum_one f k n]
  simp only [List.map_cons, List.map_nil, List.sum_cons, List.sum_nil]
  by_cases h1 : k < n
  ·rw [if_pos h1, if_neg (by omega), if_pos (by omega)]; omega
  ·by_cases h2 : k = n
   ·subst h2; rw [if_neg h1, if_pos rfl, if_pos (by omega)]; omega
   ·rw [if_neg h1, if_neg h2, if_neg (by omega)]; omega
theorem sumZero : ∀ n, ((List.range n).map fun _ => 0).sum = 0
 | 0 => rfl
 | n + 1 => by rw [List.range_succ, List.map_append, List.sum_append, sumZero n]; rfl
theorem sumProg {n : Nat} : ∀ (E : List (Nat × Instr)), (∀ e ∈ E, e.1 < n) → ((List.range n).map fun d => (prog d E).length).sum = E.length
 | [], _ => by
  have : (fun d => (prog d []).length) = fun (_ : Nat) => 0 := by funext d; rfl
  rw [this]
  exact sumZero n
 | e :: E, h => by
  have h1 := sumProg E fun x hx => h x (List.mem_cons_of_mem _ hx)
  have : (fun d => (prog d (e :: E)).length) = fun d => (prog d E).length + if e.1 = d then 1 else 0 := by
   funext d
   by_cases hd : e.1 = d
   ·simp [prog, List.filter_cons, hd]
   ·simp [prog, List.filter_cons, hd]
  rw [this, sum_one, h1, if_pos (h e List.mem_cons_self)]; rfl
section
variable {nf : Node → List Ten → Option Ten} {gv : List (List Ten)} {n : Nat} {m : MkS} {E : List (Nat × Instr)} {s : AS}
theorem RI.sumLen (h : RI nf gv n m E s) : (m.ps.map List.length).sum = E.length := by
 rw [← sumProg E h.dev]
 have : m.ps.map List.length = (List.range n).map fun d => (prog d E).length := by
  refine List.ext_getElem (by simp [h.lp]) fun i h1 h2 => ?_
  have hi : i < m.ps.length := by simpa using h1
  have := h.ps i
  rw [List.getD_eq_getElem?_getD, List.getElem?_eq_getElem hi, Option.getD_some] at this
  simp [this]
 rw [this]
theorem RI.cnt (h : RI nf gv n m E s) (hE : E.length ≤ 65536) : cntE m.ps = E.length := by
 unfold cntE
 rw [cntE_acc _ _ (by omega) (by rw [h.sumLen]; omega), h.sumLen]; omega
theorem RI.smAll (h : RI nf gv n m E s) (hE : E.length ≤ 65536) : ∀ p ∈ m.ps, p.length ≤ 2 ^ 20 ∧ ∀ i ∈ p, i.Sm := fun p hp => by
 obtain ⟨d, hd, rfl⟩ := List.getElem_of_mem hp
 have e : m.ps.getD d [] = m.ps[d] := by simp [List.getD_eq_getElem?_getD, hd]
 have h1 := h.sm.len d
 have h2 := h.sm.is d
 rw [e] at h1 h2
 exact ⟨by omega, h2⟩
end

section
variable {nf : Node → List Ten → Option Ten} {gv : List (List Ten)} {n : Nat} {m : MkS} {E : List (Nat × Instr)} {s : AS} {o : Nat → Option Nat} {σ : St} {S b bL bR : Nat} {g : List Nat}
/-- The maker's programs and how many there are. -/
theorem progs_T (hM : MkI o σ b bL bR m) (hR : RI nf gv n m E s) (hE : E.length ≤ 65536) : T Try.prog 27 [.ptr b 0 0] σ (progsA m.ps) σ := by
 obtain ⟨vs, h⟩ := hM
 have h8 := hR.sm.pl
 exact programs_spec h (hR.smAll hE) (by omega)
theorem count_T (hR : RI nf gv n m E s) (hE : E.length ≤ 65536) : T Try.prog 50 [progsA m.ps] σ (I (E.length : Nat)) σ := by
 have := count21_spec m.ps σ
 rwa [hR.cnt hE] at this

/-- law21's told -/
theorem told_spec {J : Int → List Ten → Ten → Prop} (hJ : JOk J) (hst : σ.blk S = some (.cells 4 [[.ptr b 0 0, gvA gv, ints (natI g), I n]])) (hM : MkI o σ b bL bR m) (hR : RI (nfR J) gv n m E s) (hb : NoBag s) (hE : E.length ≤ 60000) (hgl : gv.length = n) (hgo : ∀ ts ∈ gv, ∀ t ∈ ts, Ten.ok t)
  (hgn : ∀ x ∈ g, x < n) (hg8 : g.length ≤ 8) (hg1 : 1 ≤ g.length) (regs : List Int) (want : List Ten) (hl : regs.length = g.length) (hw : want.length = g.length) (was : Nat) (hwas : E.length ≤ was + 32 * g.length * (g.length - 1)) (hwas2 : was ≤ 65536)
  (hreg : ∀ i, i < g.length → lookR (regs.getD i 0) (s.rg (g.getD i 0)) = some (want.getD i zeroT)) :
  T Try.prog 51 [.ptr S 0 0, ints regs, I 0, .lit 2 (want.map tenL), I was] σ (.bool true) σ := by
 refine in51 (by simp) fun wf hab => ?_
 clear hab
 have hln := hR.lp
 have hn1 := hR.n1
 have hn8 := hR.sm.pl
 have hgm : g.length ≤ most := by simp only [most]; omega
 obtain ⟨w, w1, w2, w3⟩ := hR.runs hb
 have q1 := progs_T hM hR (by omega)
 have q2 := count_T (σ := σ) hR (by omega)
 have q3 := run_spec (nfR_ok hJ) m.ps gv (hR.right (by omega)) (hR.pairs (by omega) hb) (by omega) (by omega) (by omega) hgo (hR.total (by omega)) (fun d i hi => (hR.sm.is d i hi).1) w w1 σ
 have v1 : IntKind.i64.wrap (((E.length : Nat) : Int) - was) = ((E.length : Nat) : Int) - was := IntWalk.i64_in _ (by omega)
 have v2 : IntKind.i64.wrap (32 * (g.length : Int)) = 32 * (g.length : Int) := IntWalk.i64_in _ (by omega)
 have v3 : IntKind.i64.wrap ((g.length : Int) - 1) = (g.length : Int) - 1 := IntWalk.i64_in _ (by omega)
 have hmul : 32 * (g.length : Int) * ((g.length : Int) - 1) = ((32 * g.length * (g.length - 1) : Nat) : Int) := by
  have : ((g.length - 1 : Nat) : Int) = (g.length : Int) - 1 := by omega
  rw [Int.natCast_mul, Int.natCast_mul, this]; rfl
 have hm2 : 32 * g.length * (g.length - 1) ≤ 32 * 8 * 8 := Nat.mul_le_mul (Nat.mul_le_mul_left _ hg8) (by omega)
 have v4 : IntKind.i64.wrap (32 * (g.length : Int) * ((g.length : Int) - 1)) = 32 * (g.length : Int) * ((g.length : Int) - 1) := by rw [hmul]; exact IntWalk.i64_in _ (by omega)
 have c1 : ((regs.length : Int) != g.length) = false := by rw [hl]; simp
 have c2 : ¬ (((E.length : Nat) : Int) - was > 32 * (g.length : Int) * ((g.length : Int) - 1)) := by rw [hmul]; omega
 unfold c51
 refine .seq (.rg fun A hA K hK => ?_)
 simp (maxSteps := 1000000) only [go_sem, hA.nil, hA.go, hA.yes, hA.noT, hA.noF, hA.skp]
 refine hK _ _ ?_; clear hK K hA A
 refine .seq (.rg fun A hA K hK => ?_)
 simp (maxSteps := 1000000) only [go_sem, hA.nil, hA.go, hA.yes, hA.noT, hA.noF, hA.skp, hst]
 refine aopq_call (q1) (by simp (maxSteps := 1000000) only [go_sem]) ?_
 try simp (maxSteps := 1000000) only [go_sem, hA.nil, hA.go, hA.yes, hA.noT, hA.noF, hA.skp]
 refine hK _ _ ?_; clear hK K hA A
 refine .seq (.rg fun A hA K hK => ?_)
 simp (maxSteps := 1000000) only [go_sem, hA.nil, hA.go, hA.yes, hA.noT, hA.noF, hA.skp, hst, natI_len]
 refine hK _ _ ?_; clear hK K hA A
 refine .seq (.seq (.rg fun A hA K hK => ?_))
 simp (maxSteps := 1000000) only [go_sem, hA.nil, hA.go, hA.yes, hA.noT, hA.noF, hA.skp, c1, v1, v2, v3, v4, c2]
 refine aopq_call (q2) (by simp (maxSteps := 1000000) only [go_sem]) ?_
 try simp (maxSteps := 1000000) only [go_sem, hA.nil, hA.go, hA.yes, hA.noT, hA.noF, hA.skp]
 try simp (maxSteps := 1000000) only [go_sem, hA.nil, hA.go, hA.yes, hA.noT, hA.noF, hA.skp, c1, v1, v2, v3, v4, c2]
 refine hK _ _ ?_; clear hK K hA A
 refine .cond (t := false) (by simp (maxSteps := 1000000) only [go_sem, c2]) (fun h => by cases h) (fun _ => .skip ?_)
 refine .midK (fun L v => ∃ o' b' bR' bA bW vB mb, L = [(0, .ptr S 0 0), (1, ints regs), (3, .lit 2 (want.map tenL)), (13, .ptr b' 0 0), (14, .bool true)] ∧ MC o' v b' bR' bA bW vB mb w ∧ σ.next ≤ v.next ∧ ∀ c, c < σ.next → v.blk c = σ.blk c) ?_ ?_
 ·refine .rg fun A hA K hK => ?_
  simp (maxSteps := 1000000) only [go_sem, hA.nil, hA.go, hA.yes, hA.noT, hA.noF, hA.skp, hst]
  refine aopq_callQ (q3) (by simp (maxSteps := 1000000) only [go_sem, gvA]) ?_
  rintro v x ⟨o', b', bR', bA, bW, vB, mb, rfl, hC, hn2, _, hx2⟩
  try simp (maxSteps := 1000000) only [go_sem, hA.nil, hA.go, hA.yes, hA.noT, hA.noF, hA.skp]
  refine hK _ _ ?_; clear hK K hA A
  exact ⟨_, ⟨o', b', bR', bA, bW, vB, mb, rfl, hC, hn2, hx2⟩, by simp (maxSteps := 1000000) only [go_sem]⟩
 rintro L v ⟨o', b', bR', bA, bW, vB, mb, rfl, hC, hn2, hx2⟩
 have hwl : w.l.length = n := by rw [w2]; exact hln
 have hb' := hC.hb
 have hR' := hC.hR
 have hbl := hC.lt' hC.own0
 have hRl := hC.lt' hC.ownR
 have hSl : S < σ.next := by
  rcases Nat.lt_or_ge S σ.next with h | h
  ·exact h
  ·rw [wf.1 S h] at hst; cases hst
 have hstv := (hx2 S hSl).trans hst
 rw [hwl] at hb' hR'
 refine .seq (.seq (.rg fun A hA K hK => ?_))
 simp (maxSteps := 1000000) only [go_sem, hA.nil, hA.go, hA.yes, hA.noT, hA.noF, hA.skp]
 refine hK _ _ ?_; clear hK K hA A
 refine .cond (t := false) (by simp (maxSteps := 1000000) only [go_sem]) (fun h => by cases h) (fun _ => .skip ?_)
 refine .seq (.seq (.rg fun A hA K hK => ?_))
 simp (maxSteps := 1000000) only [go_sem, hA.nil, hA.go, hA.yes, hA.noT, hA.noF, hA.skp, hstv, natI_len]
 refine hK _ _ ?_; clear hK K hA A
 refine .rangeK (N := g.length) (fun i L t => L = [(0, .ptr S 0 0), (1, ints regs), (3, .lit 2 (want.map tenL)), (13, .ptr b' 0 0), (63, ints (natI g)), (64, I g.length), (65, I i)] ∧ Ext v t) hgm
  ⟨_, ⟨rfl, .refl v⟩, by simp (maxSteps := 1000000) only [go_sem, natI_len]; try rfl⟩ ?_ ?_ ?_
 ·rintro i L t ⟨rfl, _⟩
  exact ⟨by simp (maxSteps := 1000000) only [go_sem], by simp (maxSteps := 1000000) only [go_sem], rfl⟩
 ·rintro i L t hi ⟨rfl, ht⟩
  have e0 : (i : Int) < g.length := by omega
  have e1 : (i : Int) < regs.length := by omega
  have e2 : (i : Int) < want.length := by omega
  have i1 : i < regs.length := by omega
  have i2 : i < want.length := by omega
  have htn := ht.1
  have hgi := natI_get hi
  have hri : (regs.map fun n => [AV.int .i64 n]).getD i [] = [I (regs.getD i 0)] := by rw [ints_get i1]; simp [List.getD_eq_getElem?_getD, i1]
  have hwi : (want.map tenL).getD i [] = [ints (want.getD i zeroT).sh, ints (want.getD i zeroT).dt] := by simp [List.getD_eq_getElem?_getD, i2, tenL]
  have hlk := hreg i hi
  have hdn : g.getD i 0 < n := by
   have : g.getD i 0 ∈ g := by rw [List.getD_eq_getElem?_getD, List.getElem?_eq_getElem hi]; exact List.getElem_mem hi
   exact hgn _ this
  generalize g.getD i 0 = d at hgi hlk hdn
  generalize regs.getD i 0 = r at hri hlk
  generalize want.getD i zeroT = x at hwi hlk
  have hdI : (d : Int) < n := by omega
  have hmd := hC.hM d (by omega)
  have hml := hC.lt' hmd.1
  have hm1 := hmd.2
  rw [w3 d hdn] at hm1
  have hmg := mb_get (mb := mb) hdn
  have hlr : (List.range n).length = n := List.length_range
  have tb := (ht.2 b' hbl).trans hb'
  have tR := (ht.2 bR' hRl).trans hR'
  have tm := (ht.2 (mb d) hml).trans hm1
  obtain ⟨j, hfj, hgj⟩ : ∃ j, (s.rg d).findIdx? (fun x => x.1 == r) = some j ∧ ((s.rg d).getD j (0, zeroT)).2 = x := by
   simp only [lookR, Option.map_eq_some_iff] at hlk
   exact hlk
  have hjl : j < (s.rg d).length := (List.findIdx?_eq_some_iff_getElem.1 hfj).1
  have hmf := (mfind_esT r (s.rg d)).trans hfj
  have hget := esT_get hjl
  rw [hgj] at hget
  simp only [tenL] at hget
  have hkA : kA none (.int .i64 r) = some [r] := rfl
  have nb : ¬ b' = t.next := by omega
  have nR : ¬ bR' = t.next := by omega
  have nm : ¬ mb d = t.next := by omega
  refine .seq (.rg fun A hA K hK => ?_)
  simp (maxSteps := 1000000) only [go_sem, hA.nil, hA.go, hA.yes, hA.noT, hA.noF, hA.skp, e0, hgi, hi, natI_len]
  refine hK _ _ ?_; clear hK K hA A
  refine .midK (fun L u => L = [(0, .ptr S 0 0), (1, ints regs), (3, .lit 2 (want.map tenL)), (13, .ptr b' 0 0), (15, I i), (17, .ptr t.next 0 0), (18, .bool true), (63, ints (natI g)), (64, I g.length), (65, I i)] ∧ u.blk t.next = some (.cells 2 [[ints x.sh, ints x.dt]]) ∧ Ext v u) ?_ ?_
  ·refine .rdx fun A hA K hK => ?_
   simp (maxSteps := 200000) only [go_sem, hA.nil, hA.pur, hA.go, hA.yes, hA.noT, hA.noF, hA.skp, pure_mv, eff_mv, pure_pk, eff_pk, pure_al, eff_al, pure_bx, eff_bx, pure_bd, eff_bd, pure_bs, eff_bs, pure_ld, eff_ld, pure_st, eff_st, pure_nc, eff_nc, pure_bin, eff_bin, pure_un, eff_un, pure_cv, eff_cv, pure_mi, eff_mi, pure_mf, eff_mf, pure_mm, eff_mm, pure_ms, eff_ms, pure_sc, eff_sc, pure_fa, eff_fa, pure_fl, eff_fl, pure_ia, eff_ia, pure_lk, eff_lk, pure_mu, eff_mu, pure_lm, eff_lm, pure_rg, eff_rg, pure_nx, eff_nx, pure_en, eff_en, pure_ta, eff_ta, pure_ex, eff_ex, pure_ln, eff_ln, pure_ap, eff_ap, pure_mx, eff_mx, pure_call, eff_call, pure_callv, eff_callv, chk_nil, chk_cons, again, List.contains_cons, List.contains_nil, nb, nR, nm, tb, tR, tm, hmg, hdI, hdn, hlr, hri, e1, i1, hkA, hmf, hget, List.length_map]
   refine hK _ _ ?_; clear hK K hA A
   exact ⟨_, ⟨rfl, by simp (maxSteps := 1000000) only [go_sem], ⟨by simp (maxSteps := 1000000) only [go_sem]; omega, fun c hc => by rw [← ht.2 c hc]; simp (disch := omega) only [go_sem, if_neg]⟩⟩, by simp (maxSteps := 1000000) only [go_sem]⟩
  rintro L u ⟨rfl, hu, hux⟩
  have hss := tenSame_spec x u
  refine .seq (.rd fun A hA K hK => ?_)
  simp (maxSteps := 1000000) only [go_sem, hA.nil, hA.go, hA.yes, hA.noT, hA.noF, hA.skp, hu, hwi, e2, i2, List.length_map]
  refine aopq_call (hss) (by simp (maxSteps := 1000000) only [go_sem, tenL]) ?_
  try simp (maxSteps := 1000000) only [go_sem, hA.nil, hA.go, hA.yes, hA.noT, hA.noF, hA.skp, tenL]
  try simp (maxSteps := 1000000) only [go_sem, hA.nil, hA.go, hA.yes, hA.noT, hA.noF, hA.skp]
  refine hK _ _ ?_; clear hK K hA A
  refine .cond (t := false) (by simp (maxSteps := 1000000) only [go_sem]) (fun h => by cases h) (fun _ => .skip ?_)
  exact ⟨by simp (maxSteps := 1000000) only [go_sem], _, ⟨rfl, hux⟩, by simp (maxSteps := 1000000) only [go_sem]; try rfl⟩
 ·rintro L t F ⟨rfl, ht⟩ hf
  simp (maxSteps := 1000000) only [go_sem] at hf
  refine .seq (.rg fun A hA K hK => ?_)
  simp (maxSteps := 1000000) only [go_sem, hA.nil, hA.go, hA.yes, hA.noT, hA.noF, hA.skp]
  refine hK _ _ ?_; clear hK K hA A
  refine .ret (retB (by simp (maxSteps := 1000000) only [go_sem]) wf (fun c hc => ?_) (.bool _) ⟨rfl, rfl⟩)
  rw [ht.2 c (by omega)]; exact hx2 c hc
end
section
variable {n k : Nat} {shapes : List (List Int)} {gv : List (List Ten)} {g : List Nat}
theorem StG.d (h : StG n k shapes gv g) {i : Nat} (hi : i < g.length) : g.getD i 0 < n := by
 have : g.getD i 0 ∈ g := by rw [List.getD_eq_getElem?_getD, List.getElem?_eq_getElem hi]; exact List.getElem_mem hi
 exact h.gn _ this
theorem StG.g8 (h : StG n k shapes gv g) : g.length ≤ n := pigeon n g h.nd h.gn
theorem StG.oks (h : StG n k shapes gv g) : ∀ ts ∈ gv, ∀ t ∈ ts, Ten.ok t := fun ts hts t ht => by
 obtain ⟨e, he, rfl⟩ := List.getElem_of_mem hts
 obtain ⟨i, hi, rfl⟩ := List.getElem_of_mem ht
 have h1 := h.gk e he
 have e1 : gv.getD e [] = gv[e] := by simp [List.getD_eq_getElem?_getD, he]
 rw [e1] at h1
 have h2 := (h1.2 i (by omega)).2
 have e2 : gv[e].getD i zeroT = gv[e][i] := by simp [List.getD_eq_getElem?_getD, hi]
 rwa [e2] at h2
theorem StG.gr (h : StG n k shapes gv g) {m : MkS} (hl : m.ps.length = n) (regs : List Int) (hr : regs.length = g.length) (h0 : ∀ i, i < g.length → 0 ≤ regs.getD i 0) : GrOk m g regs :=
 ⟨h.g1, by have := h.g8; have := h.n8; omega, hr, fun i hi => by rw [hl]; exact h.d hi, h.nd, h0⟩
end
theorem gvGet {gv : List (List Ten)} {d : Nat} (h : d < gv.length) : (gv.map fun ts => [AV.lit 2 (ts.map tenL)]).getD d [] = [.lit 2 ((gv.getD d []).map tenL)] := by simp [List.getD_eq_getElem?_getD, h]
end Go.Proofs.Ytfjbabacpnnjmaa.Av
