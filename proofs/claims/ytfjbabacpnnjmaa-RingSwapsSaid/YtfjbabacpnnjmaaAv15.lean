/- A logic of small values, and walks in it: What Everyone and Reduce come to. What the ring refuses; what nodes come to. Takes: each device has what it is given. law21.known. Rows of flags: which numbers are there. law21's refuses; RingRefuses. Shapes and specs of a tape. law21's begin: a maker of some devices, each given some tensors; a group of them. -/
import Derived.Test.YtfjbabacpnnjmaaAv14
set_option linter.unusedVariables false
set_option linter.unusedSimpArgs false
set_option linter.deprecated false
namespace Go.Proofs.Ytfjbabacpnnjmaa.Av
open Go Go.Av
set_option maxRecDepth 20000
set_option maxHeartbeats 4000000

def NoBag (s : AS) : Prop := ∀ f t g, s.bag f t g = none
def FoldOk (nf : Node → List Ten → Option Ten) : Prop := ∀ op a b, IsOp op → Ten.ok a → Ten.ok b → a.sh = b.sh → nf (foldN op) [a, b] = some (twoT op a b)
def accT (op : Int) (xs : Nat → Ten) : Nat → Ten
 | 0 => xs 0
 | k + 1 => twoT op (accT op xs k) (xs (k + 1))
theorem accT_ok {op : Int} {xs : Nat → Ten} {n : Nat} (h : ∀ i, i < n → (xs i).ok ∧ (xs i).sh = (xs 0).sh) : ∀ k, k < n → (accT op xs k).ok ∧ (accT op xs k).sh = (xs 0).sh
 | 0, hk => h 0 hk
 | k + 1, hk => by
  obtain ⟨h1, h2⟩ := accT_ok (op := op) h k (by omega)
  obtain ⟨h3, h4⟩ := h (k + 1) hk
  exact ⟨twoT_ok h1 h3 (h2.trans h4.symm), h2⟩

section
variable {nf : Node → List Ten → Option Ten} {gv : List (List Ten)} {n : Nat} {m : MkS} {E : List (Nat × Instr)} {s : AS}
/-- Everyone: each one's row tells what each other one had for it. -/
theorem RI.everyone (h : RI nf gv n m E s) (hb : NoBag s) {g : List Nat} {rg : Nat → Nat → Int} {own : Nat → Int} {X : Nat → Nat → Ten} (hg8 : g.length ≤ 8) (hgn : ∀ i, i < g.length → g.getD i 0 < n) (hE : E.length ≤ 60000)
  (hrg : ∀ i j, i < g.length → j < g.length → i ≠ j → lookR (rg i j) (s.rg (g.getD j 0)) = some (X i j)) (hown : ∀ i, i < g.length → lookR (own i) (s.rg (g.getD i 0)) = some (X i i)) :
  ∃ E' s', RI nf gv n (delivM m (outE g rg g.length)).1 E' s' ∧ E'.length = E.length + 2 * (outE g rg g.length).length ∧ s.Le s' ∧ NoBag s' ∧
   ∀ i j, i < g.length → j < g.length → lookR ((rowE own (delivM m (outE g rg g.length)).2 (posE g rg) i g.length).getD j 0) (s'.rg (g.getD i 0)) = some (X i j) := by
 have hlets : (outE g rg g.length).length ≤ 64 := by
  have := outE_len (g := g) (rg := rg) g.length
  have h2 : g.length * g.length ≤ 8 * 8 := Nat.mul_le_mul hg8 hg8
  omega
 have hl : LtOk n s (outE g rg g.length) ((outE g rg g.length).map fun x => getR x.reg (s.rg x.frm)) := by
  refine ⟨by simp, fun k hk => ?_⟩
  have hm : (outE g rg g.length).getD k lt0 ∈ outE g rg g.length := by
   rw [List.getD_eq_getElem?_getD, List.getElem?_eq_getElem hk]; exact List.getElem_mem hk
  obtain ⟨i, j, hi, hj, hij, e⟩ := lets_mem hm
  have hv : ((outE g rg g.length).map fun x => getR x.reg (s.rg x.frm)).getD k zeroT = getR ((outE g rg g.length).getD k lt0).reg (s.rg ((outE g rg g.length).getD k lt0).frm) := by
   simp [List.getD_eq_getElem?_getD, hk]
  rw [hv, e]
  have := hrg i j hi hj hij
  exact ⟨hgn j hj, hgn i hi, by simp only; rw [getR_lookR this]; exact this⟩
 obtain ⟨E', s', h1, h2, h3, h4, h5, h6⟩ := h.deliver hl hb (by omega)
 refine ⟨E', s', h1, h2, h3, h4, fun i j hi hj => ?_⟩
 have hrow : (rowE own (delivM m (outE g rg g.length)).2 (posE g rg) i g.length).getD j 0 = if i = j then own i else (delivM m (outE g rg g.length)).2.getD (posE g rg i j) 0 := by
  simp [rowE, List.getD_eq_getElem?_getD, hj]
 rw [hrow]
 by_cases hij : i = j
 ·subst hij; rw [if_pos rfl]; exact h3 _ _ _ (hown i hi)
 ·rw [if_neg hij]
  obtain ⟨p1, p2⟩ := lets_get (rg := rg) hi hj hij
  have h7 := h6 _ p1
  have hv : ((outE g rg g.length).map fun x => getR x.reg (s.rg x.frm)).getD (posE g rg i j) zeroT = getR ((outE g rg g.length).getD (posE g rg i j) lt0).reg (s.rg ((outE g rg g.length).getD (posE g rg i j) lt0).frm) := by
   simp [List.getD_eq_getElem?_getD, p1]
  rw [hv, p2] at h7
  simp only at h7
  rw [getR_lookR (hrg i j hi hj hij)] at h7
  exact h7

/-- One row, folded. -/
theorem RI.redRow (hf : FoldOk nf) (h : RI nf gv n m E s) (hb : NoBag s) {d : Nat} (hd : d < n) {op : Int} (ho : IsOp op) {l : List Int} {N : Nat} {xs : Nat → Ten} (hx : ∀ i, i < N → (xs i).ok ∧ (xs i).sh = (xs 0).sh) (hl : ∀ i, i < N → lookR (l.getD i 0) (s.rg d) = some (xs i)) (hE : E.length + N ≤ 65000) :
  ∀ k, k < N → ∃ E' s', RI nf gv n (redRow m d op l k).1 E' s' ∧ E'.length = E.length + k ∧ s.Le s' ∧ NoBag s' ∧ lookR (redRow m d op l k).2 (s'.rg d) = some (accT op xs k)
 | 0, hk => ⟨E, s, h, rfl, .refl _, hb, hl 0 hk⟩
 | k + 1, hk => by
  obtain ⟨E', s', h1, h2, h3, h4, h5⟩ := RI.redRow hf h hb hd ho hx hl hE k (by omega)
  have h6 := h3 _ _ _ (hl (k + 1) hk)
  obtain ⟨a1, a2⟩ := accT_ok (op := op) hx k (by omega)
  obtain ⟨b1, b2⟩ := hx (k + 1) hk
  have hw := h1.work (by omega) hd (x := foldN op) (ins := [(Av.redRow m d op l k).2, l.getD (k + 1) 0]) (t := accT op xs (k + 1)) (by simp) (fun r hr => by
   simp only [List.mem_cons, List.not_mem_nil, or_false] at hr
   rcases hr with rfl | rfl
   ·rw [h5]; simp
   ·rw [h6]; simp) (by
   simp only [List.map_cons, List.map_nil, getR_lookR h5, getR_lookR h6]
   exact hf op _ _ ho a1 b1 (a2.trans b2.symm)) (workF_sm _ _ _ _)
  refine ⟨_, _, hw, by simp [h2]; omega, h3.trans (h1.rgLe hd _ fun _ => rfl), h4, ?_⟩
  simp only [Av.redRow, AS.wr, if_true]
  exact lookR_put_eq _ _ _

/-- Reduce: each has all, folded. -/
theorem RI.reduce (hf : FoldOk nf) (h : RI nf gv n m E s) (hb : NoBag s) {g : List Nat} {regs : List Int} (hG : GrOk m g regs) {how : Int} {xs : Nat → Ten} (hx : ∀ i, i < g.length → (xs i).ok ∧ (xs i).sh = (xs 0).sh) (hr : ∀ i, i < g.length → lookR (regs.getD i 0) (s.rg (g.getD i 0)) = some (xs i)) (hE : E.length ≤ 60000) :
  ∃ E' s', RI nf gv n (reduceM m g regs how).1 E' s' ∧ E'.length ≤ E.length + 3 * (g.length * (g.length - 1)) ∧ s.Le s' ∧ NoBag s' ∧ (reduceM m g regs how).2.length = g.length ∧ ∀ i, i < g.length → lookR ((reduceM m g regs how).2.getD i 0) (s'.rg (g.getD i 0)) = some (accT (opOf how) xs (g.length - 1)) := by
 have hln := h.lp
 have hg1 := hG.g1
 have hg8 := hG.g8
 have hgn : ∀ i, i < g.length → g.getD i 0 < n := fun i hi => by have := hG.lt i hi; omega
 obtain ⟨E1, s1, h1, h2, h3, h4, h5⟩ := h.everyone hb (g := g) (rg := fun _ j => regs.getD j 0) (own := fun i => regs.getD i 0) (X := fun _ j => xs j) hg8 hgn hE (fun i j _ hj _ => hr j hj) (fun i hi => hr i hi)
 have hlen : (outE g (fun _ j => regs.getD j 0) g.length).length = g.length * (g.length - 1) := by
  have inn : ∀ i k, (inE g (fun _ j => regs.getD j 0) i k).length = if i < k then k - 1 else k := by
   intro i k
   induction k with
   | zero => simp [inE]
   | succ k ih =>
    unfold inE
    by_cases e : i = k
    ·subst e; simp only [if_true, List.append_nil, ih]; rw [if_neg (by omega), if_pos (by omega)]; omega
    ·rw [if_neg e, List.length_append, ih]
     simp only [List.length_cons, List.length_nil]
     by_cases e2 : i < k
     ·rw [if_pos e2, if_pos (by omega)]; omega
     ·rw [if_neg e2, if_neg (by omega)]
  have out : ∀ k, k ≤ g.length → (outE g (fun _ j => regs.getD j 0) k).length = k * (g.length - 1) := by
   intro k
   induction k with
   | zero => intro _; simp [outE]
   | succ k ih =>
    intro hk
    unfold outE
    rw [List.length_append, ih (by omega), inn, if_pos (by omega), Nat.succ_mul]
  exact out g.length (Nat.le_refl _)
 have hbig : g.length * (g.length - 1) ≤ 64 := by
  have : g.length * (g.length - 1) ≤ 8 * 8 := Nat.mul_le_mul hg8 (by omega)
  omega
 have all : ∀ k, k ≤ g.length → ∃ E' s', RI nf gv n (redAll (delivM m (evL g regs)).1 g (opOf how) (evRow m g regs) k).1 E' s' ∧ E'.length = E1.length + k * (g.length - 1) ∧ s1.Le s' ∧ NoBag s' ∧
   ∀ i, i < k → lookR ((redAll (delivM m (evL g regs)).1 g (opOf how) (evRow m g regs) k).2.getD i 0) (s'.rg (g.getD i 0)) = some (accT (opOf how) xs (g.length - 1)) := by
  intro k
  induction k with
  | zero => intro _; exact ⟨E1, s1, h1, by simp, .refl _, h4, fun i hi => absurd hi (by omega)⟩
  | succ k ih =>
   intro hk
   obtain ⟨E2, s2, a1, a2, a3, a4, a5⟩ := ih (by omega)
   have hkk : k * (g.length - 1) ≤ 64 := Nat.le_trans (Nat.mul_le_mul_right _ (by omega : k ≤ g.length)) hbig
   obtain ⟨E3, s3, b1, b2, b3, b4, b5⟩ := RI.redRow hf a1 a4 (hgn k (by omega)) (opOf_is how) (l := evRow m g regs k) (N := g.length) hx (fun i hi => a3 _ _ _ (h5 k i (by omega) hi)) (by omega) (g.length - 1) (by omega)
   refine ⟨E3, s3, b1, by rw [Nat.succ_mul]; omega, a3.trans b3, b4, fun i hi => ?_⟩
   have hol := (redAll_len (delivM m (evL g regs)).1 g (opOf how) (evRow m g regs) k).2
   rw [redAll]
   simp only
   by_cases hik : i = k
   ·subst hik
    have e : ((redAll (delivM m (evL g regs)).1 g (opOf how) (evRow m g regs) i).2 ++ [(Av.redRow (redAll (delivM m (evL g regs)).1 g (opOf how) (evRow m g regs) i).1 (g.getD i 0) (opOf how) (evRow m g regs i) (g.length - 1)).2]).getD i 0 = (Av.redRow (redAll (delivM m (evL g regs)).1 g (opOf how) (evRow m g regs) i).1 (g.getD i 0) (opOf how) (evRow m g regs i) (g.length - 1)).2 := by
     simp [List.getD_eq_getElem?_getD, List.getElem?_append, hol]
    rw [e]; exact b5
   ·have hik : i < k := by omega
    have e : ((redAll (delivM m (evL g regs)).1 g (opOf how) (evRow m g regs) k).2 ++ [(Av.redRow (redAll (delivM m (evL g regs)).1 g (opOf how) (evRow m g regs) k).1 (g.getD k 0) (opOf how) (evRow m g regs k) (g.length - 1)).2]).getD i 0 = (redAll (delivM m (evL g regs)).1 g (opOf how) (evRow m g regs) k).2.getD i 0 := by
     have : i < (redAll (delivM m (evL g regs)).1 g (opOf how) (evRow m g regs) k).2.length := by omega
     simp [List.getD_eq_getElem?_getD, List.getElem?_append, this]
    rw [e]; exact b3 _ _ _ (a5 i hik)
 obtain ⟨E', s', a1, a2, a3, a4, a5⟩ := all g.length (Nat.le_refl _)
 exact ⟨E', s', a1, by rw [a2, h2, hlen]; omega, h3.trans a3, a4, (redAll_len _ _ _ _ _).2, a5⟩
end
end Go.Proofs.Ytfjbabacpnnjmaa.Av
namespace Go.Proofs.Ytfjbabacpnnjmaa.Av
open Go Go.Av
set_option maxRecDepth 20000
set_option maxHeartbeats 4000000

attribute [local go_sem] step_apply stepD_apply stepE_apply
attribute [local go_sem] aopq_mv aopq_pk aopq_al aopq_bx aopq_bd aopq_bs aopq_ld aopq_st aopq_nc aopq_bin aopq_un aopq_cv aopq_mi aopq_mf aopq_mm aopq_ms aopq_sc aopq_fa aopq_fl aopq_ia aopq_lk aopq_mu aopq_lm aopq_rg aopq_en aopq_ta aopq_ex aopq_ln aopq_ap aopq_mx aopq.eq_3 aop.eq_1 aop.eq_2 aop.eq_3 aop.eq_4 aop.eq_5 aop.eq_6 aop.eq_7 aop.eq_8 aop.eq_9 aop_bin atS_apply aop_un_not aop_un_neg aop.eq_14 aop.eq_15 aop.eq_16 aop.eq_17 aop.eq_18 aop_sc cutS_apply cutN_apply cutL_apply cutO_apply aop.eq_20 aop.eq_21 aop.eq_22 aop.eq_23 aop.eq_24 aop.eq_25 aop.eq_26 aop.eq_27 aop.eq_28 aop.eq_29 aop.eq_30 aop.eq_31 aop.eq_32 blk_push next_push blk_set next_set blk_kill next_kill frL_nil frL_cons Fits_nil Fits_cons Int.reduceBEq Int.reduceBNe Nat.sub_zero Option.map_some Option.map_none List.set_cons_succ true_or or_true false_or or_false Int.le_refl Int.cast_ofNat_Int decide_true decide_false List.cons_append fillA fillR rowsOf List.replicate_succ List.replicate_zero Nat.zero_mul getD_drop List.length_drop splice List.nil_append List.append_nil cond_true cond_false List.set_cons_zero List.length_set ev put_some put_none upd_apply abin asNat bounds row1 mk List.length_cons List.length_nil List.length_map List.drop_zero List.drop_succ_cons List.drop_nil List.getD_cons_zero List.getD_cons_succ Option.getD_none Option.getD_some List.take_succ_cons List.take_zero List.take_nil true_and and_true Int.toNat_natCast if_true if_false Nat.zero_add Nat.add_zero List.map_cons List.map_nil Nat.reduceEqDiff Nat.left_eq_add Nat.add_eq_left Nat.add_left_cancel_iff Nat.add_assoc Nat.reduceSub Nat.reduceAdd Nat.reduceLeDiff Nat.le_refl Nat.zero_le Nat.zero_lt_one Nat.lt_add_one Int.reduceLT Int.reduceLE Int.reduceToNat Nat.reduceLT Nat.reduceBEq Bool.false_eq_true Nat.reduceBNe ne_eq not_false_eq_true not_true_eq_false false_and and_false reduceIte Int.natCast_nonneg reduceCtorEq parts_agg parts_bool parts_int parts_str parts_lit parts_nils parts_sl parts_ptr Int.natCast_nonneg Int.natCast_nonneg beq_self_eq_true bne_self_eq_false Bool.true_and Bool.false_and Bool.and_true Bool.and_false Bool.true_or Bool.false_or Bool.or_true Bool.or_false Bool.not_true Bool.not_false
attribute [local go_sem] instr0 instr1 instr2 instr10 instr11 instr12 instrN instrA instr_len node0 node1 node2 node3 node4 node5 node6 nodeA node_len I ints progA progsA

section mk
variable {o : Nat → Option Nat} {σ : St} {b bL bR : Nat} {vs : List AV} {ps : List (List Instr)} {rs : List Int} {tg : Int}
theorem reduceBad_spec (hb : σ.blk b = some (.cells 3 [[.sl bL 0 ps.length, .sl bR 0 rs.length, I tg]])) (g r : List Int) (how : Int) (hm : mayR ps.length g r = false) : T Try.prog 41 [.ptr b 0 0, ints g, ints r, I how] σ (.tup [.nils, I 1]) σ := by
 refine in41 (by simp) fun wf hab => ?_
 clear hab
 have q1 := mayRing_spec hb g r
 rw [if_neg (by rw [hm]; simp)] at q1
 unfold c41
 refine .seq (.rg fun A hA K hK => ?_)
 simp (maxSteps := 1000000) only [go_sem, hA.nil, hA.go, hA.yes, hA.noT, hA.noF, hA.skp]
 refine hK _ _ ?_; clear hK K hA A
 refine .seq (.seq (.rg fun A hA K hK => ?_))
 simp (maxSteps := 1000000) only [go_sem, hA.nil, hA.go, hA.yes, hA.noT, hA.noF, hA.skp]
 refine aopq_call (q1) (by simp (maxSteps := 1000000) only [go_sem]) ?_
 try simp (maxSteps := 1000000) only [go_sem, hA.nil, hA.go, hA.yes, hA.noT, hA.noF, hA.skp]
 refine hK _ _ ?_; clear hK K hA A
 refine .seq (.rg fun A hA K hK => ?_)
 simp (maxSteps := 1000000) only [go_sem, hA.nil, hA.go, hA.yes, hA.noT, hA.noF, hA.skp]
 refine hK _ _ ?_; clear hK K hA A
 refine .cond (t := true) (by simp (maxSteps := 1000000) only [go_sem]) (fun _ => ?_) (fun h => by cases h)
 refine .seq (.rg fun A hA K hK => ?_)
 simp (maxSteps := 1000000) only [go_sem, hA.nil, hA.go, hA.yes, hA.noT, hA.noF, hA.skp]
 refine hK _ _ ?_; clear hK K hA A
 exact .ret (retS2 (by simp (maxSteps := 1000000) only [go_sem]) (by simp (maxSteps := 1000000) only [go_sem]) ⟨rfl, rfl⟩)
end mk
theorem gatherNil_spec (g r : List Int) (axis : Int) (σ : St) : T Try.prog 52 [.nilp, ints g, ints r, I axis] σ (.tup [.nils, I 1]) σ := by
 refine in52 (by simp) fun wf hab => ?_
 clear hab
 unfold c52
 refine .seq (.rg fun A hA K hK => ?_)
 simp (maxSteps := 1000000) only [go_sem, hA.nil, hA.go, hA.yes, hA.noT, hA.noF, hA.skp]
 refine hK _ _ ?_; clear hK K hA A
 refine .seq (.seq (.rg fun A hA K hK => ?_))
 simp (maxSteps := 1000000) only [go_sem, hA.nil, hA.go, hA.yes, hA.noT, hA.noF, hA.skp]
 refine aopq_call (mayNil_spec g r σ) (by simp (maxSteps := 1000000) only [go_sem]) ?_
 try simp (maxSteps := 1000000) only [go_sem, hA.nil, hA.go, hA.yes, hA.noT, hA.noF, hA.skp]
 refine hK _ _ ?_; clear hK K hA A
 refine .seq (.rg fun A hA K hK => ?_)
 simp (maxSteps := 1000000) only [go_sem, hA.nil, hA.go, hA.yes, hA.noT, hA.noF, hA.skp]
 refine hK _ _ ?_; clear hK K hA A
 refine .cond (t := true) (by simp (maxSteps := 1000000) only [go_sem]) (fun _ => ?_) (fun h => by cases h)
 refine .seq (.rg fun A hA K hK => ?_)
 simp (maxSteps := 1000000) only [go_sem, hA.nil, hA.go, hA.yes, hA.noT, hA.noF, hA.skp]
 refine hK _ _ ?_; clear hK K hA A
 exact .ret (retS2 (by simp (maxSteps := 1000000) only [go_sem]) (by simp (maxSteps := 1000000) only [go_sem]) ⟨rfl, rfl⟩)
/-- law21.count -/
theorem count21_spec (l : List (List Instr)) (σ : St) : T Try.prog 50 [progsA l] σ (I (cntE l)) σ := by
 refine in50 (by simp) fun wf hab => ?_
 obtain ⟨hl, hps⟩ := hab_progs (hab 0 (by simp))
 clear hab
 unfold c50
 refine .seq (.rg fun A hA K hK => ?_)
 simp (maxSteps := 1000000) only [go_sem, hA.nil, hA.go, hA.yes, hA.noT, hA.noF, hA.skp]
 refine hK _ _ ?_; clear hK K hA A
 refine .seq (.rg fun A hA K hK => ?_)
 simp (maxSteps := 1000000) only [go_sem, hA.nil, hA.go, hA.yes, hA.noT, hA.noF, hA.skp]
 refine hK _ _ ?_; clear hK K hA A
 refine .seq (.seq (.rg fun A hA K hK => ?_))
 simp (maxSteps := 1000000) only [go_sem, hA.nil, hA.go, hA.yes, hA.noT, hA.noF, hA.skp]
 refine hK _ _ ?_; clear hK K hA A
 refine .rangeK (N := l.length) (fun i L t => L = [(0, progsA l), (3, I (cntE (l.take i))), (6, I l.length), (7, I i)] ∧ σ = t) hl
  ⟨_, ⟨rfl, rfl⟩, by simp (maxSteps := 1000000) only [go_sem, cntE, List.foldl_nil]; try rfl⟩ ?_ ?_ ?_
 ·rintro i L t ⟨rfl, _⟩
  exact ⟨by simp (maxSteps := 1000000) only [go_sem], by simp (maxSteps := 1000000) only [go_sem], rfl⟩
 ·rintro i L t hi ⟨rfl, rfl⟩
  have e0 : (i : Int) < l.length := by omega
  have et : cntE (l.take (i + 1)) = IntKind.i64.wrap (cntE (l.take i) + l[i].length) := foldl_take _ _ l i hi
  have hg := progs_get' hi
  refine .seq (.rg fun A hA K hK => ?_)
  simp (maxSteps := 1000000) only [go_sem, hA.nil, hA.go, hA.yes, hA.noT, hA.noF, hA.skp]
  refine hK _ _ ?_; clear hK K hA A
  refine .rg fun A hA K hK => ?_
  simp (maxSteps := 1000000) only [go_sem, hA.nil, hA.go, hA.yes, hA.noT, hA.noF, hA.skp, hg, e0, hi]
  refine hK _ _ ?_; clear hK K hA A
  exact ⟨by simp (maxSteps := 1000000) only [go_sem], _, ⟨rfl, rfl⟩, by simp (maxSteps := 1000000) only [go_sem, et]; try rfl⟩
 ·rintro L t F ⟨rfl, rfl⟩ hf
  simp (maxSteps := 1000000) only [go_sem] at hf
  rw [List.take_length] at hf
  refine .seq (.rg fun A hA K hK => ?_)
  simp (maxSteps := 1000000) only [go_sem, hA.nil, hA.go, hA.yes, hA.noT, hA.noF, hA.skp, hf]
  refine hK _ _ ?_; clear hK K hA A
  exact .ret (ret1 (by simp (maxSteps := 1000000) only [go_sem]) rfl)
/-- What nodes come to; J: what is joined. -/
inductive NodeRel (J : Int → List Ten → Ten → Prop) : Node → List Ten → Ten → Prop
 | fold (op : Int) (a b : Ten) (ho : IsOp op) (ha : a.ok) (hb : b.ok) (hs : a.sh = b.sh) : NodeRel J (foldN op) [a, b] (twoT op a b)
 | join (axis : Int) (ts : List Ten) (t : Ten) (h : J axis ts t) : NodeRel J (joinN axis) ts t
structure JOk (J : Int → List Ten → Ten → Prop) : Prop where
 one : ∀ axis ts t t', J axis ts t → J axis ts t' → t = t'
 node : ∀ axis ts t, J axis ts t → ∀ σ, T Try.prog 129 [.agg (nodeL (joinN axis)), .lit 2 (ts.map tenL)] σ (.tup [.agg (tenL t), I 0]) σ
theorem foldN_join {op axis : Int} (h : IsOp op) : foldN op ≠ joinN axis := by
 intro e
 have : op = 17 := congrArg Node.op e
 unfold IsOp at h
 omega
theorem NodeRel.one {J : Int → List Ten → Ten → Prop} (hJ : JOk J) {n : Node} {ts : List Ten} {t t' : Ten} (h : NodeRel J n ts t) (h' : NodeRel J n ts t') : t = t' := by
 generalize hn : n = n' at h'
 cases h with
 | fold op a b ho ha hb hs =>
  cases h' with
  | fold op' a' b' => have : op = op' := congrArg Node.op hn; subst this; rfl
  | join => exact absurd hn (foldN_join ho)
 | join axis ts t h =>
  cases h' with
  | fold op a b ho => exact absurd hn.symm (foldN_join ho)
  | join axis' ts t' h' =>
   have : axis = axis' := by
    have := congrArg Node.a hn
    simpa [joinN] using this
   subst this
   exact hJ.one _ _ _ _ h h'
open Classical in
noncomputable def nfR (J : Int → List Ten → Ten → Prop) (n : Node) (ts : List Ten) : Option Ten := if h : ∃ t, NodeRel J n ts t then some h.choose else none
theorem nfR_some {J : Int → List Ten → Ten → Prop} (hJ : JOk J) {n : Node} {ts : List Ten} {t : Ten} (h : NodeRel J n ts t) : nfR J n ts = some t := by
 have hx : ∃ t, NodeRel J n ts t := ⟨t, h⟩
 unfold nfR
 rw [dif_pos hx, NodeRel.one hJ hx.choose_spec h]
theorem nfR_ok {J : Int → List Ten → Ten → Prop} (hJ : JOk J) : NodeOk (nfR J) := by
 intro n ts t h σ
 unfold nfR at h
 split at h
 ·rename_i hx
  have hr := hx.choose_spec
  rw [Option.some.inj h] at hr
  cases hr with
  | fold op a b ho ha hb hs => exact foldNode_spec op a b ho ha hb hs σ
  | join axis ts t hj => exact hJ.node _ _ _ hj σ
 ·cases h
theorem nfR_fold {J : Int → List Ten → Ten → Prop} (hJ : JOk J) : FoldOk (nfR J) := fun op a b ho ha hb hs => nfR_some hJ (.fold op a b ho ha hb hs)
def J0 : Int → List Ten → Ten → Prop := fun _ _ _ => False
theorem J0_ok : JOk J0 := ⟨fun _ _ _ _ h => h.elim, fun _ _ _ h => h.elim⟩

/-- The maker's programs run. -/
theorem RI.runs {nf : Node → List Ten → Option Ten} {gv : List (List Ten)} {n : Nat} {m : MkS} {E : List (Nat × Instr)} {s : AS} (h : RI nf gv n m E s) (hb : NoBag s) :
  ∃ w, RunOk nf m.ps gv w ∧ w.l = m.ps ∧ ∀ d, d < n → w.rg.getD d [] = s.rg d := by
 obtain ⟨w, h1, h2, h3⟩ := runOk_of (l := m.ps) h.ex hb h.ps (fun e he => by rw [h.lp]; exact h.dev e he)
 exact ⟨w, h1, h2, fun d hd => h3 d (by rw [h.lp]; exact hd)⟩
end Go.Proofs.Ytfjbabacpnnjmaa.Av
namespace Go.Proofs.Ytfjbabacpnnjmaa.Av
open Go Go.Av
set_option maxRecDepth 20000
set_option maxHeartbeats 4000000

def tkN (m : MkS) (d : Nat) : Nat → MkS
 | 0 => m
 | i + 1 => ((tkN m d i).fresh d).put d (takeI ((tkN m d i).rs.getD d 0) i)
def tkAll (m : MkS) (k : Nat) : Nat → MkS
 | 0 => m
 | d + 1 => tkN (tkAll m k d) d k
def MkS.new (n : Nat) : MkS := ⟨List.replicate n [], List.replicate n 0, 0⟩
theorem tkN_len (m : MkS) (d : Nat) : ∀ i, (tkN m d i).ps.length = m.ps.length ∧ (tkN m d i).rs.length = m.rs.length
 | 0 => ⟨rfl, rfl⟩
 | i + 1 => by
  obtain ⟨h1, h2⟩ := tkN_len m d i
  simp only [tkN, MkS.put, MkS.fresh, List.length_set, h1, h2, and_self]
theorem tkAll_len (m : MkS) (k : Nat) : ∀ d, (tkAll m k d).ps.length = m.ps.length ∧ (tkAll m k d).rs.length = m.rs.length
 | 0 => ⟨rfl, rfl⟩
 | d + 1 => by
  obtain ⟨h1, h2⟩ := tkAll_len m k d
  obtain ⟨h3, h4⟩ := tkN_len (tkAll m k d) d k
  exact ⟨h3.trans h1, h4.trans h2⟩
theorem tkN_rs (m : MkS) {d : Nat} (hd : d < m.rs.length) : ∀ i e, (tkN m d i).rs.getD e 0 = if e = d then m.rs.getD d 0 + i else m.rs.getD e 0
 | 0, e => by simp only [tkN]; split
              ·rename_i h; subst h; simp
              ·rfl
 | i + 1, e => by
  have h1 := tkN_rs m hd i
  have h2 := (tkN_len m d i).2
  simp only [tkN, MkS.put, MkS.fresh]
  by_cases he : e = d
  ·subst he; rw [getD_set_eq' _ _ (by omega), h1, if_pos rfl, if_pos rfl]; omega
  ·rw [getD_set_ne' _ _ he, h1, if_neg he, if_neg he]
theorem tkAll_rs (n k : Nat) : ∀ d e, d ≤ n → (tkAll (MkS.new n) k d).rs.getD e 0 = if e < d then (k : Int) else 0
 | 0, e, _ => by
  simp only [tkAll, MkS.new, List.getD_eq_getElem?_getD, List.getElem?_replicate]
  split <;> rfl
 | d + 1, e, h => by
  have h1 := tkAll_rs n k d
  have h2 := (tkAll_len (MkS.new n) k d).2
  have h3 : (MkS.new n).rs.length = n := by simp [MkS.new]
  simp only [tkAll]
  rw [tkN_rs _ (by omega)]
  by_cases he : e = d
  ·subst he; rw [if_pos rfl, if_pos (by omega), h1 _ (by omega), if_neg (by omega)]; omega
  ·rw [if_neg he, h1 _ (by omega)]
   by_cases h4 : e < d
   ·rw [if_pos h4, if_pos (by omega)]
   ·rw [if_neg h4, if_neg (by omega)]
theorem tkN_sm {m : MkS} {K : Nat} (h : m.Sm K) (d : Nat) : ∀ i, (tkN m d i).Sm (K + i)
 | 0 => h
 | i + 1 => (tkN_sm h d i).freshPut d ⟨by simp [takeI], empty_sm⟩
theorem tkAll_sm {m : MkS} {K : Nat} (h : m.Sm K) (k : Nat) : ∀ d, (tkAll m k d).Sm (K + d * k)
 | 0 => by simpa [tkAll] using h
 | d + 1 => by
  have := tkN_sm (tkAll_sm h k d) d k
  have e : K + (d + 1) * k = K + d * k + k := by rw [Nat.succ_mul]; omega
  rw [e]; exact this
theorem new_sm {n : Nat} (h : n ≤ 8) : (MkS.new n).Sm 0 := by
 have hp : ∀ d, (MkS.new n).ps.getD d [] = [] := fun d => by
  simp only [MkS.new, List.getD_eq_getElem?_getD, List.getElem?_replicate]; split <;> rfl
 have hr : ∀ d, (MkS.new n).rs.getD d 0 = 0 := fun d => by
  simp only [MkS.new, List.getD_eq_getElem?_getD, List.getElem?_replicate]; split <;> rfl
 exact ⟨by simp [MkS.new], fun d => by rw [hp]; simp, fun d => by rw [hr]; exact Int.le_refl _, fun d => by rw [hr]; exact Int.le_refl _, Int.le_refl _, Int.le_refl _, fun d i hi => by rw [hp] at hi; simp at hi, by simpa [MkS.new] using h⟩

section
variable {nf : Node → List Ten → Option Ten} {gv : List (List Ten)} {n : Nat} {m : MkS} {E : List (Nat × Instr)} {s : AS}
theorem kc_new (kind : Int) (n : Nat) (k : Key) : kc kind (MkS.new n).ps k = 0 := by
 unfold kc
 rw [List.count_eq_zero]
 intro hm
 simp only [keysN, List.mem_flatMap, keyL, List.mem_map, List.mem_filter] at hm
 obtain ⟨d, _, i, ⟨hi, _⟩, _⟩ := hm
 have : (MkS.new n).ps.getD d [] = [] := by
  simp only [MkS.new, List.getD_eq_getElem?_getD, List.getElem?_replicate]; split <;> rfl
 rw [this] at hi; simp at hi
theorem RI.new (nf : Node → List Ten → Option Ten) (gv : List (List Ten)) (h1 : 1 ≤ n) (h8 : n ≤ 8) : RI nf gv n (MkS.new n) [] AS.init := by
 have hp : ∀ d, (MkS.new n).ps.getD d [] = [] := fun d => by
  simp only [MkS.new, List.getD_eq_getElem?_getD, List.getElem?_replicate]; split <;> rfl
 refine ⟨by simp [MkS.new], h1, new_sm h8, rfl, fun d => by rw [hp]; rfl, fun e he => by simp at he, fun d _ => by rw [hp]; exact .nil _, fun d _ r hr => by rw [hp] at hr; simp [wrote] at hr, fun d _ r => by rw [hp]; simp [wrote, AS.init, lookR], fun f t g hu => (by cases hu), AS.wf_init, fun f t g => ?_, fun f t g => ?_⟩
 ·rw [kc_new]; rfl
 ·rw [kc_new]; rfl
/-- Some Takes of one device. -/
theorem RI.takes (h : RI nf gv n m E s) (hb : NoBag s) {d : Nat} (hd : d < n) (h0 : m.rs.getD d 0 = 0) {k : Nat} (hk : (gv.getD d []).length = k) (hE : E.length + k ≤ 60000) : ∀ i, i ≤ k →
  ∃ E' s', RI nf gv n (tkN m d i) E' s' ∧ E'.length = E.length + i ∧ s.Le s' ∧ NoBag s' ∧ ∀ j, j < i → lookR j (s'.rg d) = some ((gv.getD d []).getD j zeroT)
 | 0, _ => ⟨E, s, h, rfl, .refl _, hb, fun j hj => absurd hj (by omega)⟩
 | i + 1, hi => by
  obtain ⟨E', s', h1, h2, h3, h4, h5⟩ := RI.takes h hb hd h0 hk hE i (by omega)
  have hrs := tkN_rs m (d := d) (by rw [h.lr]; exact hd) i d
  rw [if_pos rfl, h0] at hrs
  have hg : (gv.getD d [])[i]? = some ((gv.getD d []).getD i zeroT) := by
   rw [List.getD_eq_getElem?_getD (l := gv.getD d []), List.getElem?_eq_getElem (by omega)]; rfl
  refine ⟨_, _, h1.take (by omega) hd hg, by simp [h2]; omega, h3.trans (h1.rgLe hd _ fun _ => rfl), h4, fun j hj => ?_⟩
  by_cases hji : j = i
  ·subst hji
   simp only [AS.wr, if_true, hrs, Int.zero_add]
   exact lookR_put_eq _ _ _
  ·exact (h1.rgLe hd ((gv.getD d []).getD i zeroT) (s' := s') fun _ => rfl) _ _ _ (h5 j (by omega))
/-- Takes of all devices. -/
theorem RI.takeAll (h1 : 1 ≤ n) (h8 : n ≤ 8) {k : Nat} (hk8 : k ≤ 8) (hk : ∀ d, d < n → (gv.getD d []).length = k) : ∀ d, d ≤ n →
  ∃ E s, RI nf gv n (tkAll (MkS.new n) k d) E s ∧ E.length = d * k ∧ NoBag s ∧ ∀ e, e < d → ∀ j, j < k → lookR j (s.rg e) = some ((gv.getD e []).getD j zeroT)
 | 0, _ => ⟨[], AS.init, RI.new nf gv h1 h8, by simp, fun _ _ _ => rfl, fun e he => absurd he (by omega)⟩
 | d + 1, hd => by
  obtain ⟨E, s, a1, a2, a3, a4⟩ := RI.takeAll h1 h8 hk8 hk d (by omega)
  have hrs := tkAll_rs n k d d (by omega)
  rw [if_neg (by omega)] at hrs
  have hdk : d * k ≤ 8 * 8 := Nat.mul_le_mul (by omega) hk8
  obtain ⟨E', s', b1, b2, b3, b4, b5⟩ := a1.takes a3 (d := d) (by omega) hrs (hk d (by omega)) (by omega) k (Nat.le_refl _)
  refine ⟨E', s', b1, by rw [b2, a2, Nat.succ_mul], b4, fun e he j hj => ?_⟩
  by_cases hed : e = d
  ·subst hed; exact b5 j hj
  ·exact b3 _ _ _ (a4 e (by omega) j hj)
end
end Go.Proofs.Ytfjbabacpnnjmaa.Av
namespace Go.Proofs.Ytfjbabacpnnjmaa.Av
open Go Go.Av
set_option maxRecDepth 20000
set_option maxHeartbeats 4000000

attribute [local go_sem] step_apply stepD_apply stepE_apply
attribute [local go_sem] aopq_mv aopq_pk aopq_al aopq_bx aopq_bd aopq_bs aopq_ld aopq_st aopq_nc aopq_bin aopq_un aopq_cv aopq_mi aopq_mf aopq_mm aopq_ms aopq_sc aopq_fa aopq_fl aopq_ia aopq_lk aopq_mu aopq_lm aopq_rg aopq_en aopq_ta aopq_ex aopq_ln aopq_ap aopq_mx aopq.eq_3 aop.eq_1 aop.eq_2 aop.eq_3 aop.eq_4 aop.eq_5 aop.eq_6 aop.eq_7 aop.eq_8 aop.eq_9 aop_bin atS_apply aop_un_not aop_un_neg aop.eq_14 aop.eq_15 aop.eq_16 aop.eq_17 aop.eq_18 aop_sc cutS_apply cutN_apply cutL_apply cutO_apply aop.eq_20 aop.eq_21 aop.eq_22 aop.eq_23 aop.eq_24 aop.eq_25 aop.eq_26 aop.eq_27 aop.eq_28 aop.eq_29 aop.eq_30 aop.eq_31 aop.eq_32 blk_push next_push blk_set next_set blk_kill next_kill frL_nil frL_cons Fits_nil Fits_cons Int.reduceBEq Int.reduceBNe Nat.sub_zero Option.map_some Option.map_none List.set_cons_succ true_or or_true false_or or_false Int.le_refl Int.cast_ofNat_Int decide_true decide_false List.cons_append fillA fillR rowsOf List.replicate_succ List.replicate_zero Nat.zero_mul getD_drop List.length_drop splice List.nil_append List.append_nil cond_true cond_false List.set_cons_zero List.length_set ev put_some put_none upd_apply abin asNat bounds row1 mk List.length_cons List.length_nil List.length_map List.drop_zero List.drop_succ_cons List.drop_nil List.getD_cons_zero List.getD_cons_succ Option.getD_none Option.getD_some List.take_succ_cons List.take_zero List.take_nil true_and and_true Int.toNat_natCast if_true if_false Nat.zero_add Nat.add_zero List.map_cons List.map_nil Nat.reduceEqDiff Nat.left_eq_add Nat.add_eq_left Nat.add_left_cancel_iff Nat.add_assoc Nat.reduceSub Nat.reduceAdd Nat.reduceLeDiff Nat.le_refl Nat.zero_le Nat.zero_lt_one Nat.lt_add_one Int.reduceLT Int.reduceLE Int.reduceToNat Nat.reduceLT Nat.reduceBEq Bool.false_eq_true Nat.reduceBNe ne_eq not_false_eq_true not_true_eq_false false_and and_false reduceIte Int.natCast_nonneg reduceCtorEq parts_agg parts_bool parts_int parts_str parts_lit parts_nils parts_sl parts_ptr Int.natCast_nonneg Int.natCast_nonneg beq_self_eq_true bne_self_eq_false Bool.true_and Bool.false_and Bool.and_true Bool.and_false Bool.true_or Bool.false_or Bool.or_true Bool.or_false Bool.not_true Bool.not_false
attribute [local go_sem] instr0 instr1 instr2 instr10 instr11 instr12 instrN instrA instr_len node0 node1 node2 node3 node4 node5 node6 nodeA node_len I ints progA progsA

/-- A Take, put. -/
theorem take_T {o : Nat → Option Nat} {σ : St} {b bL bR k : Nat} {m : MkS} (h : MkI o σ b bL bR m) (hk : m.Sm k) (h6 : k < 60000) (d : Nat) (hd : d < m.ps.length) (r : Int) (i : Nat) :
  ∃ s, T Try.prog 24 [.ptr b 0 0, I d, .agg (instrL (takeI r i))] σ (I 0) s ∧ ∃ o', MkI o' s b bL bR (m.put d (takeI r i)) ∧ Grow o σ o' s := by
 obtain ⟨vs, hm⟩ := h
 obtain ⟨s, hT, o', vs', h2, g2⟩ := put_T hm d hd (by have := hk.len d; omega) (takeI r i) ⟨by simp [takeI], empty_sm⟩
 exact ⟨s, hT, o', ⟨vs', h2⟩, g2⟩
def gv7 : List (List Ten) := [[⟨[], [3]⟩], [⟨[], [4]⟩]]
/-- law21.known -/
theorem known21_spec (σ : St) : T Try.prog 15 [] σ (.bool true) σ := by
 refine in15 (by simp) fun wf hab => ?_
 clear hab
 unfold c15
 refine .seq (.rg fun A hA K hK => ?_)
 simp (maxSteps := 1000000) only [go_sem, hA.nil, hA.go, hA.yes, hA.noT, hA.noF, hA.skp]
 refine hK _ _ ?_; clear hK K hA A
 refine .midK (fun L s => ∃ o b bL bR, L = [(1, .ptr b 0 0)] ∧ MkI o s b bL bR (MkS.new 2) ∧ σ.next ≤ s.next ∧ (∀ c, o c ≠ none → σ.next ≤ c) ∧ ∀ c, c < σ.next → s.blk c = σ.blk c) ?_ ?_
 ·refine .rg fun A hA K hK => ?_
  simp (maxSteps := 1000000) only [go_sem, hA.nil, hA.go, hA.yes, hA.noT, hA.noF, hA.skp]
  refine aopq_callQ (new_spec 2 (by decide) (by decide) σ) (by simp (maxSteps := 1000000) only [go_sem]) ?_
  rintro v s ⟨o, bb, bL, bR, vs, rfl, hM, hn, ho, hx⟩
  try simp (maxSteps := 1000000) only [go_sem, hA.nil, hA.go, hA.yes, hA.noT, hA.noF, hA.skp]
  refine hK _ _ ?_; clear hK K hA A
  exact ⟨_, ⟨o, bb, bL, bR, rfl, ⟨vs, hM⟩, hn, ho, hx⟩, by simp (maxSteps := 1000000) only [go_sem]⟩
 rintro L s ⟨o, b, bL, bR, rfl, hM, hn, ho, hx⟩
 have g0 : ∀ c, c < σ.next → o c = none := fun c hc => by
  cases hh : o c with
  | none => rfl
  | some z => have := ho c (by rw [hh]; simp); omega
 refine .seq (.seq (.rg fun A hA K hK => ?_))
 simp (maxSteps := 1000000) only [go_sem, hA.nil, hA.go, hA.yes, hA.noT, hA.noF, hA.skp]
 refine hK _ _ ?_; clear hK K hA A
 refine .cond (t := false) (by simp (maxSteps := 1000000) only [go_sem]) (fun h => by cases h) (fun _ => .skip ?_)
 have hps2 : (MkS.new 2).ps.length = 2 := rfl
 refine .midK (fun L t => ∃ o', L = [(1, .ptr b 0 0)] ∧ MkI o' t b bL bR (tkAll (MkS.new 2) 1 2) ∧ Grow o s o' t) ?_ ?_
 ·refine .seq (.rg fun A hA K hK => ?_)
  simp (maxSteps := 1000000) only [go_sem, hA.nil, hA.go, hA.yes, hA.noT, hA.noF, hA.skp]
  refine hK _ _ ?_; clear hK K hA A
  refine .countK (N := 2) (fun d L t => ∃ o', L = [(1, .ptr b 0 0), (2, I d)] ∧ MkI o' t b bL bR (tkAll (MkS.new 2) 1 d) ∧ Grow o s o' t) (by decide) ⟨_, ⟨o, rfl, hM, .refl _ _⟩, by simp (maxSteps := 1000000) only [go_sem]; try rfl⟩ ?_ ?_ ?_
  ·rintro d L t hd ⟨o', rfl, hM, hG⟩
   refine .rg fun A hA K hK => ?_
   simp (maxSteps := 1000000) only [go_sem, hA.nil, hA.go, hA.yes, hA.noT, hA.noF, hA.skp]
   refine hK _ _ ?_; clear hK K hA A
   exact ⟨rfl, by simp (maxSteps := 1000000) only [go_sem]; try (simp; omega), _, ⟨o', rfl, hM, hG⟩, by simp (maxSteps := 1000000) only [go_sem]⟩
  ·rintro d L t hd ⟨o1, rfl, hM, hG⟩
   have hsm := tkAll_sm (new_sm (n := 2) (by decide)) 1 d
   have hln := (tkAll_len (MkS.new 2) 1 d).1
   have hrs := tkAll_rs 2 1 d d (by omega)
   rw [if_neg (by omega)] at hrs
   obtain ⟨u, hT1, h2, g2⟩ := fresh_TI hM hsm (by omega) d (by omega)
   obtain ⟨z, hT2, o3, h3, g3⟩ := take_T h2 (hsm.fresh d) (by omega) d (by rw [show ((tkAll (MkS.new 2) 1 d).fresh d).ps = (tkAll (MkS.new 2) 1 d).ps from rfl]; omega) ((tkAll (MkS.new 2) 1 d).rs.getD d 0) 0
   refine .rg fun A hA K hK => ?_
   simp (maxSteps := 1000000) only [go_sem, hA.nil, hA.go, hA.yes, hA.noT, hA.noF, hA.skp]
   refine aopq_callT hT1 (by simp (maxSteps := 1000000) only [go_sem]) ?_
   try simp (maxSteps := 1000000) only [go_sem, hA.nil, hA.go, hA.yes, hA.noT, hA.noF, hA.skp]
   refine aopq_callT hT2 (by simp (maxSteps := 1000000) only [go_sem, instrL, takeI, emptyN, nodeL, Int.natCast_zero]) ?_
   try simp (maxSteps := 1000000) only [go_sem, hA.nil, hA.go, hA.yes, hA.noT, hA.noF, hA.skp]
   refine hK _ _ ?_; clear hK K hA A
   exact ⟨by simp (maxSteps := 1000000) only [go_sem], _, ⟨o3, rfl, h3, (hG.trans g2).trans g3⟩, by simp (maxSteps := 1000000) only [go_sem]; try rfl⟩
  ·rintro L t F ⟨o', rfl, hM, hG⟩ hf
   simp (maxSteps := 1000000) only [go_sem] at hf
   exact ⟨_, ⟨o', rfl, hM, hG⟩, by simp (maxSteps := 1000000) only [go_sem, hf]⟩
 rintro L t ⟨o1, rfl, hM, hG⟩
 have hsm := tkAll_sm (new_sm (n := 2) (by decide)) 1 2
 have hGr : GrOk (tkAll (MkS.new 2) 1 2) [1, 0] [0, 0] := ⟨by decide, by decide, rfl, by decide, by decide, by decide⟩
 -- Reduce
 have q1 := reduce_spec hM hsm (by decide) [1, 0] [0, 0] hGr 1 (by decide)
 rw [show natI [1, 0] = [1, 0] from rfl] at q1
 -- what it comes to
 have hf := nfR_fold J0_ok
 obtain ⟨E1, s1, a1, a2, a3, a4⟩ := RI.takeAll (nf := nfR J0) (gv := gv7) (n := 2) (k := 1) (by decide) (by decide) (by decide) (by decide) 2 (by decide)
 obtain ⟨E2, s2, b1, b2, b3, b4, b5, b6⟩ := RI.reduce hf a1 a3 hGr (how := 1) (xs := fun i => if i = 0 then ⟨[], [4]⟩ else ⟨[], [3]⟩) (fun i hi => by
  have hi : i < 2 := hi
  rcases (by omega : i = 0 ∨ i = 1) with rfl | rfl
  ·exact ⟨show rightT [] [4] = true by decide, rfl⟩
  ·exact ⟨show rightT [] [3] = true by decide, rfl⟩) (fun i hi => by
  have hi : i < 2 := hi
  rcases (by omega : i = 0 ∨ i = 1) with rfl | rfl
  ·exact a4 1 (by decide) 0 (by decide)
  ·exact a4 0 (by decide) 0 (by decide)) (by rw [a2]; decide)
 have hout := b6 0 (by decide)
 have hE2 : E2.length ≤ 60000 := by rw [a2] at b2; exact Nat.le_trans b2 (by decide)
 have hright := b1.right (by omega)
 have hpairs := b1.pairs (by omega) b4
 obtain ⟨w, w1, w2, w3⟩ := b1.runs b4
 have hln2 := b1.lp
 have hsmM := b1.sm
 have htot := b1.total (by omega)
 have hw1 := w3 1 (by decide)
 generalize hM2 : reduceM (tkAll (MkS.new 2) 1 2) [1, 0] [0, 0] 1 = R at *
 obtain ⟨m2, outs⟩ := R
 simp only at b1 b5 hout hright hpairs w1 w2 hln2 hsmM htot
 obtain ⟨r0, r1, rfl⟩ : ∃ r0 r1, outs = [r0, r1] := by
  match outs, b5 with
  | [r0, r1], _ => exact ⟨r0, r1, rfl⟩
 have hout : lookR r0 (s2.rg 1) = some ⟨[], [7]⟩ := by
  have e : accT (opOf 1) (fun i => if i = 0 then (⟨[], [4]⟩ : Ten) else ⟨[], [3]⟩) ([1, 0].length - 1) = ⟨[], [7]⟩ := congrArg (Ten.mk []) (show List.zipWith (foldOp (opOf 1)) [4] [3] = [7] by decide)
  rw [e] at hout; exact hout
 refine .midK (fun L u => ∃ o', L = [(1, .ptr b 0 0), (3, ints [r0, r1]), (4, I 0)] ∧ MkI o' u b bL bR m2 ∧ Grow o s o' u) ?_ ?_
 ·refine .rg fun A hA K hK => ?_
  simp (maxSteps := 1000000) only [go_sem, hA.nil, hA.go, hA.yes, hA.noT, hA.noF, hA.skp]
  refine aopq_callQ (q1) (by simp (maxSteps := 1000000) only [go_sem]) ?_
  rintro v u ⟨rfl, o2, h2, g2⟩
  try simp (maxSteps := 1000000) only [go_sem, hA.nil, hA.go, hA.yes, hA.noT, hA.noF, hA.skp]
  refine hK _ _ ?_; clear hK K hA A
  exact ⟨_, ⟨o2, rfl, h2, hG.trans g2⟩, by simp (maxSteps := 1000000) only [go_sem]⟩
 rintro L u ⟨o2, rfl, h2, g2⟩
 obtain ⟨vs2, hm2⟩ := h2
 have q2 := reduceBad_spec hm2.hb [0, 0] [0, 0] 1 (by rw [hln2]; decide)
 have q3 := gatherNil_spec [0] [0] 0 u
 refine .seq (.rg fun A hA K hK => ?_)
 simp (maxSteps := 1000000) only [go_sem, hA.nil, hA.go, hA.yes, hA.noT, hA.noF, hA.skp]
 refine aopq_callQ (T.toQ q2) (by simp (maxSteps := 1000000) only [go_sem]) ?_
 rintro v u' ⟨rfl, rfl⟩
 try simp (maxSteps := 1000000) only [go_sem, hA.nil, hA.go, hA.yes, hA.noT, hA.noF, hA.skp]
 refine hK _ _ ?_; clear hK K hA A
 refine .seq (.rg fun A hA K hK => ?_)
 simp (maxSteps := 1000000) only [go_sem, hA.nil, hA.go, hA.yes, hA.noT, hA.noF, hA.skp]
 refine aopq_callQ (T.toQ q3) (by simp (maxSteps := 1000000) only [go_sem]) ?_
 rintro v u2 ⟨rfl, rfl⟩
 try simp (maxSteps := 1000000) only [go_sem, hA.nil, hA.go, hA.yes, hA.noT, hA.noF, hA.skp]
 refine hK _ _ ?_; clear hK K hA A
 -- it runs
 have hsmp : ∀ p ∈ m2.ps, p.length ≤ 2 ^ 20 ∧ ∀ i ∈ p, i.Sm := fun p hp => by
  obtain ⟨d, hd, rfl⟩ := List.getElem_of_mem hp
  have e : m2.ps.getD d [] = m2.ps[d] := by simp [List.getD_eq_getElem?_getD, hd]
  have h1 := hsmM.len d
  have h2 := hsmM.is d
  rw [e] at h1 h2
  exact ⟨by omega, h2⟩
 have q4 := programs_spec hm2 hsmp (by rw [hln2]; decide)
 have q5 := run_spec (nfR_ok J0_ok) m2.ps gv7 hright hpairs (by rw [hln2]; decide) (by rw [hln2]; decide) (by rw [hln2]; rfl) (by decide) htot (fun d i hi => (hsmM.is d i hi).1) w w1 u2
 refine .midK (fun L v => ∃ o' b' bR' bA bW vB mb, L = [(3, ints [r0, r1]), (4, I 0), (6, I 1), (8, I 1), (9, .ptr b' 0 0), (10, .bool true)] ∧ MC o' v b' bR' bA bW vB mb w ∧ u2.next ≤ v.next ∧ ∀ c, c < u2.next → v.blk c = u2.blk c) ?_ ?_
 ·refine .rg fun A hA K hK => ?_
  simp (maxSteps := 1000000) only [go_sem, hA.nil, hA.go, hA.yes, hA.noT, hA.noF, hA.skp]
  refine aopq_call (q4) (by simp (maxSteps := 1000000) only [go_sem]) ?_
  try simp (maxSteps := 1000000) only [go_sem, hA.nil, hA.go, hA.yes, hA.noT, hA.noF, hA.skp]
  try simp (maxSteps := 1000000) only [go_sem, hA.nil, hA.go, hA.yes, hA.noT, hA.noF, hA.skp]
  refine aopq_callQ (q5) (by simp (maxSteps := 1000000) only [go_sem, gvA, gv7, tenL]) ?_
  rintro v x ⟨o', b', bR', bA, bW, vB, mb, rfl, hC, hn2, _, hx2⟩
  try simp (maxSteps := 1000000) only [go_sem, hA.nil, hA.go, hA.yes, hA.noT, hA.noF, hA.skp]
  refine hK _ _ ?_; clear hK K hA A
  exact ⟨_, ⟨o', b', bR', bA, bW, vB, mb, rfl, hC, hn2, hx2⟩, by simp (maxSteps := 1000000) only [go_sem]⟩
 rintro L v ⟨o', b', bR', bA, bW, vB, mb, rfl, hC, hn2, hx2⟩
 have hwl : w.l.length = 2 := by rw [w2]; exact hln2
 have hb' := hC.hb
 have hR' := hC.hR
 have hm1 := (hC.hM 1 (by omega)).2
 rw [hw1] at hm1
 have hmg := mb_get (mb := mb) (n := w.l.length) (i := 1) (by omega)
 rw [hwl] at hb' hR' hmg
 have hR2 : v.blk bR' = some (.cells 1 [[.map (mb 0)], [.map (mb 1)]]) := hR'
 have hlk : ∃ j, (s2.rg 1).findIdx? (fun x => x.1 == r0) = some j ∧ ((s2.rg 1).getD j (0, zeroT)).2 = ⟨[], [7]⟩ := by
  simp only [lookR, Option.map_eq_some_iff] at hout
  exact hout
 obtain ⟨j, hfj, hgj⟩ := hlk
 have hjl : j < (s2.rg 1).length := (List.findIdx?_eq_some_iff_getElem.1 hfj).1
 have hmf := (mfind_esT r0 (s2.rg 1)).trans hfj
 have hget := esT_get hjl
 rw [hgj] at hget
 simp only [tenL] at hget
 have hkA : kA none (.int .i64 r0) = some [r0] := rfl
 refine .seq (.rd fun A hA K hK => ?_)
 simp (maxSteps := 1000000) only [go_sem, hA.nil, hA.go, hA.yes, hA.noT, hA.noF, hA.skp, hb', hR2, hm1, hkA, hmf, hget, List.length_range]
 refine hK _ _ ?_; clear hK K hA A
 refine .ret (retB (by simp (maxSteps := 1000000) only [go_sem]) wf (fun c hc => ?_) (.bool _) ⟨rfl, rfl⟩)
 have e1 : s.next ≤ u2.next := g2.1
 rw [hx2 c (by omega), g2.2.2 c (by omega) (g0 c hc), hx c hc]
end Go.Proofs.Ytfjbabacpnnjmaa.Av
namespace Go.Proofs.Ytfjbabacpnnjmaa.Av
open Go Go.Av
set_option maxRecDepth 20000
set_option maxHeartbeats 4000000

end Go.Proofs.Ytfjbabacpnnjmaa.Av
namespace Go.Proofs.Ytfjbabacpnnjmaa.Av
open Go Go.Av
set_option maxRecDepth 20000
set_option maxHeartbeats 4000000

attribute [local go_sem] step_apply stepD_apply stepE_apply
attribute [local go_sem] aopq_mv aopq_pk aopq_al aopq_bx aopq_bd aopq_bs aopq_ld aopq_st aopq_nc aopq_bin aopq_un aopq_cv aopq_mi aopq_mf aopq_mm aopq_ms aopq_sc aopq_fa aopq_fl aopq_ia aopq_lk aopq_mu aopq_lm aopq_rg aopq_en aopq_ta aopq_ex aopq_ln aopq_ap aopq_mx aopq.eq_3 aop.eq_1 aop.eq_2 aop.eq_3 aop.eq_4 aop.eq_5 aop.eq_6 aop.eq_7 aop.eq_8 aop.eq_9 aop_bin atS_apply aop_un_not aop_un_neg aop.eq_14 aop.eq_15 aop.eq_16 aop.eq_17 aop.eq_18 aop_sc cutS_apply cutN_apply cutL_apply cutO_apply aop.eq_20 aop.eq_21 aop.eq_22 aop.eq_23 aop.eq_24 aop.eq_25 aop.eq_26 aop.eq_27 aop.eq_28 aop.eq_29 aop.eq_30 aop.eq_31 aop.eq_32 blk_push next_push blk_set next_set blk_kill next_kill frL_nil frL_cons Fits_nil Fits_cons Int.reduceBEq Int.reduceBNe Nat.sub_zero Option.map_some Option.map_none List.set_cons_succ true_or or_true false_or or_false Int.le_refl Int.cast_ofNat_Int decide_true decide_false List.cons_append fillA fillR rowsOf List.replicate_succ List.replicate_zero Nat.zero_mul getD_drop List.length_drop splice List.nil_append List.append_nil cond_true cond_false List.set_cons_zero List.length_set ev put_some put_none upd_apply abin asNat bounds row1 mk List.length_cons List.length_nil List.length_map List.drop_zero List.drop_succ_cons List.drop_nil List.getD_cons_zero List.getD_cons_succ Option.getD_none Option.getD_some List.take_succ_cons List.take_zero List.take_nil true_and and_true Int.toNat_natCast if_true if_false Nat.zero_add Nat.add_zero List.map_cons List.map_nil Nat.reduceEqDiff Nat.left_eq_add Nat.add_eq_left Nat.add_left_cancel_iff Nat.add_assoc Nat.reduceSub Nat.reduceAdd Nat.reduceLeDiff Nat.le_refl Nat.zero_le Nat.zero_lt_one Nat.lt_add_one Int.reduceLT Int.reduceLE Int.reduceToNat Nat.reduceLT Nat.reduceBEq Bool.false_eq_true Nat.reduceBNe ne_eq not_false_eq_true not_true_eq_false false_and and_false reduceIte Int.natCast_nonneg reduceCtorEq parts_agg parts_bool parts_int parts_str parts_lit parts_nils parts_sl parts_ptr Int.natCast_nonneg Int.natCast_nonneg beq_self_eq_true bne_self_eq_false Bool.true_and Bool.false_and Bool.and_true Bool.and_false Bool.true_or Bool.false_or Bool.or_true Bool.or_false Bool.not_true Bool.not_false
attribute [local go_sem] instr0 instr1 instr2 instr10 instr11 instr12 instrN instrA instr_len node0 node1 node2 node3 node4 node5 node6 nodeA node_len I ints progA progsA

/-- As many numbers, each once, below n. -/
theorem pigeon : ∀ (n : Nat) (l : List Nat), l.Nodup → (∀ x ∈ l, x < n) → l.length ≤ n
 | 0, l, _, h => by
  cases l with
  | nil => simp
  | cons x l => have := h x (by simp); omega
 | n + 1, l, hd, h => by
  have h1 := pigeon n (l.filter fun x => x != n) (hd.filter _) (fun x hx => by
   have := List.mem_filter.1 hx
   have h2 := h x this.1
   have h3 : x ≠ n := by simpa using this.2
   omega)
  have h2 : l.length = (l.filter fun x => x != n).length + l.count n := by
   rw [← List.countP_eq_length_filter, List.count]
   have := List.length_eq_countP_add_countP (fun x => x != n) (l := l)
   rw [this]
   congr 1
   refine List.countP_congr fun x _ => ?_
   simp
  have h3 := List.nodup_iff_count.1 hd n
  omega
def tabS : List Int := [1, 2, 3, 4, 5, 0, 7, 2]
def TabS (s : List Int) : Prop := s.length ≤ 3 ∧ ∀ x ∈ s, 0 ≤ x ∧ x ≤ 7
theorem tabS_in {k : Int} (h : 0 ≤ k ∧ k < 8) : 0 ≤ tabS.getD k.toNat 0 ∧ tabS.getD k.toNat 0 ≤ 7 := by
 obtain ⟨n, rfl⟩ := Int.eq_ofNat_of_zero_le h.1
 have : n = 0 ∨ n = 1 ∨ n = 2 ∨ n = 3 ∨ n = 4 ∨ n = 5 ∨ n = 6 ∨ n = 7 := by omega
 rcases this with rfl | rfl | rfl | rfl | rfl | rfl | rfl | rfl <;> decide
theorem prodI_tab : ∀ i {s : List Int}, i ≤ s.length → (∀ x ∈ s, 0 ≤ x ∧ x ≤ 7) → 0 ≤ prodI (s.take i) ∧ prodI (s.take i) ≤ 7 ^ i
 | 0, _, _, _ => by simp [prodI]
 | i + 1, s, hi, h => by
  obtain ⟨h2, h3⟩ := prodI_tab i (s := s) (by omega) h
  have h4 := h s[i] (List.getElem_mem (by omega))
  rw [prodI_take (by omega)]
  refine ⟨Int.mul_nonneg h2 h4.1, ?_⟩
  rw [Int.pow_succ]
  exact Int.mul_le_mul h3 h4.2 h4.1 (Int.pow_nonneg (by decide))
theorem TabS.right {s : List Int} (h : TabS s) : rightS s = true := by
 obtain ⟨h1, h2⟩ := h
 have h3 := (prodI_tab s.length (Nat.le_refl _) h2).2
 rw [List.take_length] at h3
 have h4 : (7 : Int) ^ s.length ≤ 7 ^ 3 := by
  rcases (by omega : s.length = 0 ∨ s.length = 1 ∨ s.length = 2 ∨ s.length = 3) with e | e | e | e <;> rw [e] <;> decide
 simp only [rightS, Bool.and_eq_true, decide_eq_true_eq]
 refine ⟨List.all_eq_true.2 fun i hi => ?_, by omega⟩
 have hi := List.mem_range.1 hi
 have := h2 s[i] (List.getElem_mem hi)
 have e : s.getD i 0 = s[i] := by simp [List.getD_eq_getElem?_getD, hi]
 simp only [okDim, e, Bool.and_eq_true, decide_eq_true_eq]; omega

section
variable {σ : St} {l : List Int} {p bT : Nat}
/-- Tape.Shape -/
theorem shapeT_spec (hb : σ.blk bT = some (tapeB l p)) (hp : p ≤ l.length) (hl : l.length ≤ most) :
  TQ Try.prog 38 [.ptr bT 0 0] σ fun v t => ∃ s p', v = ints s ∧ TabS s ∧ p' ≤ l.length ∧ t.blk bT = some (tapeB l p') ∧ σ.next ≤ t.next ∧ ∀ c, c < σ.next → c ≠ bT → t.blk c = σ.blk c := by
 refine in38 (by simp) fun wf hab => ?_
 clear hab
 have hbT : bT < σ.next := by
  rcases Nat.lt_or_ge bT σ.next with h | h
  ·exact h
  ·rw [wf.1 bT h] at hb; cases hb
 obtain ⟨x1, x2, -⟩ := nxE_in l p 4
 have x2 := x2 (by decide)
 unfold c38
 refine .seq (.rg fun A hA K hK => ?_)
 simp (maxSteps := 1000000) only [go_sem, hA.nil, hA.go, hA.yes, hA.noT, hA.noF, hA.skp]
 refine hK _ _ ?_; clear hK K hA A
 refine .seq (.rg fun A hA K hK => ?_)
 simp (maxSteps := 1000000) only [go_sem, hA.nil, hA.go, hA.yes, hA.noT, hA.noF, hA.skp]
 refine hK _ _ ?_; clear hK K hA A
 refine .seq (.seq (.rg fun A hA K hK => ?_))
 simp (maxSteps := 1000000) only [go_sem, hA.nil, hA.go, hA.yes, hA.noT, hA.noF, hA.skp]
 refine aopq_callT (next_ok hb hp hl 4) (by simp (maxSteps := 1000000) only [go_sem]) ?_
 try simp (maxSteps := 1000000) only [go_sem, hA.nil, hA.go, hA.yes, hA.noT, hA.noF, hA.skp]
 refine hK _ _ ?_; clear hK K hA A
 refine .thenK (fun L t => ∃ (x : AV) (s : List Int), L = [(3, x)] ∧ TabS s ∧ (s = [] ∧ x = .nils ∨ ∃ d, x = .sl d 0 s.length ∧ σ.next ≤ d ∧ d < t.next ∧ t.blk d = some (.cells 1 (s.map fun n => [I n]))) ∧ (∃ p', p' ≤ l.length ∧ t.blk bT = some (tapeB l p')) ∧ σ.next ≤ t.next ∧ ∀ c, c < σ.next → c ≠ bT → t.blk c = σ.blk c) ?_ ?_
 ·refine .loopK (fun k L t => ∃ (x : AV) (s : List Int), L = [(0, .ptr bT 0 0), (3, x), (4, I k)] ∧ k + s.length ≤ 3 ∧ (∀ x ∈ s, 0 ≤ x ∧ x ≤ 7) ∧ (s = [] ∧ x = .nils ∨ ∃ d, x = .sl d 0 s.length ∧ σ.next ≤ d ∧ d < t.next ∧ t.blk d = some (.cells 1 (s.map fun n => [I n]))) ∧ (∃ p', p' ≤ l.length ∧ t.blk bT = some (tapeB l p')) ∧ σ.next ≤ t.next ∧ ∀ c, c < σ.next → c ≠ bT → t.blk c = σ.blk c) (nxE l p 4).toNat
   ⟨_, ⟨.nils, [], rfl, by simp; omega, by simp, .inl ⟨rfl, rfl⟩, ⟨_, nxP_le hp 4, by rw [blk_set, if_pos rfl]⟩, by simp (maxSteps := 1000000) only [go_sem], fun c _ hc => by rw [blk_set, if_neg hc]⟩, by simp (maxSteps := 1000000) only [go_sem, show (((nxE l p 4).toNat : Nat) : Int) = nxE l p 4 by omega]⟩ ?_
  rintro k L t ⟨x, s, rfl, h1, h2, h3, ⟨p', hp', ht⟩, hn, hx⟩
  cases k with
  | zero =>
   have z0 : ¬ (((0 : Nat) : Int) > 0) := by decide
   refine .seq (.seq (.rg fun A hA K hK => ?_))
   simp (maxSteps := 1000000) only [go_sem, hA.nil, hA.go, hA.yes, hA.noT, hA.noF, hA.skp]
   refine hK _ _ ?_; clear hK K hA A
   refine .cond (t := false) (by simp (maxSteps := 1000000) only [go_sem, show decide ((0 : Int) > 0) = false by decide, Int.natCast_zero]) (fun h => by cases h) (fun _ => .exit ?_)
   simp only [thenQ, loopQ, if_true]
   exact ⟨_, ⟨x, s, rfl, ⟨by omega, h2⟩, h3, ⟨p', hp', ht⟩, hn, hx⟩, by simp (maxSteps := 1000000) only [go_sem]⟩
  | succ k =>
   have z0 : ((k + 1 : Nat) : Int) > 0 := by omega
   refine .seq (.seq (.rg fun A hA K hK => ?_))
   simp (maxSteps := 1000000) only [go_sem, hA.nil, hA.go, hA.yes, hA.noT, hA.noF, hA.skp]
   refine hK _ _ ?_; clear hK K hA A
   refine .cond (t := true) (by simp (maxSteps := 1000000) only [go_sem, z0]) (fun _ => .skip ?_) (fun h => by cases h)
   obtain ⟨y1, y2, -⟩ := nxE_in l p' 8
   have y2 := y2 (by decide)
   have hn8 := next_ok ht hp' hl 8
   obtain ⟨y, hy⟩ : ∃ y : Nat, nxE l p' 8 = y := ⟨_, (Int.toNat_of_nonneg y1).symm⟩
   have hgd : ∃ z : Int, (tabS.map fun n => [I n]).getD y [] = [I z] ∧ 0 ≤ z ∧ z ≤ 7 := by
    refine ⟨tabS.getD y 0, ?_, ?_⟩
    ·have : y < tabS.length := by simp only [tabS, List.length_cons, List.length_nil]; omega
     rw [ints_get this]; simp [List.getD_eq_getElem?_getD, this]
    ·have := tabS_in (k := y) (by omega); simpa using this
   obtain ⟨z, hz, hz0, hz7⟩ := hgd
   rw [hy] at hn8
   have e8 : (y : Int) < 8 := by omega
   have w0 : IntKind.i64.wrap ((k + 1 : Nat) : Int) = ((k + 1 : Nat) : Int) := IntWalk.i64_in _ (by omega)
   have w1 : IntKind.i64.wrap (((k + 1 : Nat) : Int) - 1) = k := by rw [IntWalk.i64_in _ (by omega)]; omega
   have hz' : List.getD [[AV.int .i64 1], [AV.int .i64 2], [AV.int .i64 3], [AV.int .i64 4], [AV.int .i64 5], [AV.int .i64 0], [AV.int .i64 7], [AV.int .i64 2]] y [] = [I z] := hz
   refine .midK (fun L u => ∃ (x : AV) (s : List Int), L = [(0, .ptr bT 0 0), (3, x), (4, I (k + 1 : Nat))] ∧ k + s.length ≤ 3 ∧ (∀ x ∈ s, 0 ≤ x ∧ x ≤ 7) ∧ (∃ d, x = .sl d 0 s.length ∧ σ.next ≤ d ∧ d < u.next ∧ u.blk d = some (.cells 1 (s.map fun n => [I n]))) ∧ (∃ p', p' ≤ l.length ∧ u.blk bT = some (tapeB l p')) ∧ σ.next ≤ u.next ∧ ∀ c, c < σ.next → c ≠ bT → u.blk c = σ.blk c) ?_ ?_
   ·refine .block ?_
    rcases h3 with ⟨rfl, rfl⟩ | ⟨d, rfl, d1, d2, d3⟩
    ·refine .rg fun A hA K hK => ?_
     simp (maxSteps := 1000000) only [go_sem, hA.nil, hA.go, hA.yes, hA.noT, hA.noF, hA.skp]
     refine aopq_callT hn8 (by simp (maxSteps := 1000000) only [go_sem]) ?_
     try simp (maxSteps := 1000000) only [go_sem, hA.nil, hA.go, hA.yes, hA.noT, hA.noF, hA.skp, e8, hz']
     refine ⟨by decide, by decide, ?_⟩
     refine hK _ _ ?_; clear hK K hA A
     refine ⟨_, ⟨.sl t.next 0 1, [z], rfl, by simp only [List.length_nil, List.length_cons] at h1 ⊢; omega, ?_, ⟨t.next, rfl, hn, by simp (maxSteps := 1000000) only [go_sem]; try omega, by simp (maxSteps := 1000000) only [go_sem]⟩, ⟨_, nxP_le hp' 8, ?_⟩, by simp (maxSteps := 1000000) only [go_sem]; try omega, fun c hc hcT => ?_⟩, by simp (maxSteps := 1000000) only [go_sem]⟩
     ·intro w hw; have : w = z := by simpa using hw
      subst this; exact ⟨hz0, hz7⟩
     ·simp (maxSteps := 1000000) only [go_sem, show ¬ bT = t.next by omega]
     ·rw [← hx c hc hcT]; simp (maxSteps := 1000000) only [go_sem, show ¬ c = t.next by omega, hcT]
    ·have m1 : s.length + 1 ≤ most := by simp only [most]; omega
     have m2 : (s.length + 1) * 8 ≤ most := by simp only [most]; omega
     have m4 : List.take s.length (s.map fun n => [AV.int .i64 n]) = s.map fun n => [AV.int .i64 n] := List.take_of_length_le (by simp)
     have n1 : ¬ d = bT := by omega
     have n2 : ¬ bT = d := by omega
     refine .rg fun A hA K hK => ?_
     simp (maxSteps := 1000000) only [go_sem, hA.nil, hA.go, hA.yes, hA.noT, hA.noF, hA.skp]
     refine aopq_callT hn8 (by simp (maxSteps := 1000000) only [go_sem]) ?_
     try simp (maxSteps := 1000000) only [go_sem, hA.nil, hA.go, hA.yes, hA.noT, hA.noF, hA.skp, e8, hz', d3, m1, m2, m4, n1, n2, List.length_map]
     refine hK _ _ ?_; clear hK K hA A
     refine ⟨_, ⟨.sl t.next 0 (s.length + 1), s ++ [z], rfl, by simp only [List.length_append, List.length_cons, List.length_nil]; omega, ?_, ⟨t.next, by rw [List.length_append]; rfl, hn, by simp (maxSteps := 1000000) only [go_sem]; try omega, by simp (maxSteps := 1000000) only [go_sem, List.map_append]⟩, ⟨_, nxP_le hp' 8, ?_⟩, by simp (maxSteps := 1000000) only [go_sem]; try omega, fun c hc hcT => ?_⟩, by simp (maxSteps := 1000000) only [go_sem]⟩
     ·intro w hw
      rcases List.mem_append.1 hw with hw | hw
      ·exact h2 w hw
      ·have : w = z := by simpa using hw
       subst this; exact ⟨hz0, hz7⟩
     ·simp (maxSteps := 1000000) only [go_sem, show ¬ bT = t.next by omega, n2]
     ·rw [← hx c hc hcT]; simp (maxSteps := 1000000) only [go_sem, show ¬ c = t.next by omega, hcT, show ¬ c = d by omega]
   rintro L u ⟨x, s, rfl, h1, h2, h3, hu, hn, hx⟩
   refine .rg fun A hA K hK => ?_
   simp (maxSteps := 1000000) only [go_sem, hA.nil, hA.go, hA.yes, hA.noT, hA.noF, hA.skp, w0, w1]
   refine hK _ _ ?_; clear hK K hA A
   exact ⟨k, by omega, _, ⟨x, s, rfl, h1, h2, .inr h3, hu, hn, hx⟩, by simp (maxSteps := 1000000) only [go_sem]⟩
 rintro L t ⟨x, s, rfl, hT, h3, ⟨p', hp', ht⟩, hn, hx⟩
 rcases h3 with ⟨rfl, rfl⟩ | ⟨d, rfl, d1, d2, d3⟩
 ·refine .ent (.sub 3 (by simp (maxSteps := 1000000) only [go_sem]) (.nils 1)) ?_
  refine .seq (.rg fun A hA K hK => ?_)
  simp (maxSteps := 1000000) only [go_sem, hA.nil, hA.go, hA.yes, hA.noT, hA.noF, hA.skp]
  refine hK _ _ ?_; clear hK K hA A
  exact .ret (retS (by simp (maxSteps := 1000000) only [go_sem]; try rfl) ⟨[], p', rfl, hT, hp', ht, hn, hx⟩)
 ·refine .frz 3 (b := d) (n := s.length) (by simp (maxSteps := 1000000) only [go_sem]) d3 (by simp) ?_
  refine .seq (.rg fun A hA K hK => ?_)
  simp (maxSteps := 1000000) only [go_sem, hA.nil, hA.go, hA.yes, hA.noT, hA.noF, hA.skp]
  refine hK _ _ ?_; clear hK K hA A
  refine .ret (retS (by simp (maxSteps := 1000000) only [go_sem]; try rfl) ⟨s, p', rfl, hT, hp', ?_, by simp (maxSteps := 1000000) only [go_sem]; exact hn, fun c hc hcT => ?_⟩)
  ·simp (maxSteps := 1000000) only [go_sem, show ¬ bT = d by omega]; exact ht
  ·simp (maxSteps := 1000000) only [go_sem, show ¬ c = d by omega]; exact hx c hc hcT
end
theorem virt1 {P : Program} {n0 : Nat} {c : C} {Q : Exit → Fr → St → Prop} {F : Fr} {σ : St} (b' j sz : Nat) {sz' : Nat} {row : List AV} (hb' : σ.blk b' = some (.cells sz' [row])) (hj : j < row.length) (hc : row.getD j .undef = .nils)
  (h : SWP P n0 c Q F ((σ.push (.cells sz [])).set b' (.cells sz' [row.set j (.sl σ.next 0 0)]))) : SWP P n0 c Q F σ := by
 refine .ent (.virtAt (i := 0) (j := j) sz hb' (by simp) (by simpa using hj) (by simpa using hc)) ?_
 simpa using h
/-- The shape of what a device is given. -/
def shp (shapes : List (List Int)) (i : Nat) : List Int := shapes.getD (i % shapes.length) []
def GvOk (shapes : List (List Int)) (k : Nat) (gv : List (List Ten)) : Prop := ∀ e, e < gv.length → (gv.getD e []).length = k ∧ ∀ i, i < k → ((gv.getD e []).getD i zeroT).sh = shp shapes (e + i) ∧ ((gv.getD e []).getD i zeroT).ok
def TsOk (shapes : List (List Int)) (d : Nat) (ts : List Ten) : Prop := ∀ i, i < ts.length → (ts.getD i zeroT).sh = shp shapes (d + i) ∧ (ts.getD i zeroT).ok
/-- What stands while it is put together. -/
structure BG (σ : St) (bT S b bL bR : Nat) (l : List Int) (n : Nat) (o : Nat → Option Nat) (t : St) (m : MkS) (cg cr : Nat) (gv : List (List Ten)) (g : List Nat) : Prop where mk0 ::
 mk : MkI o t b bL bR m
 low : ∀ x, x < σ.next → o x = none
 fr : ∀ x, x < σ.next → x ≠ bT → t.blk x = σ.blk x
 tl : bT < σ.next
 tp : ∃ p, p ≤ l.length ∧ t.blk bT = some (tapeB l p)
 s1 : σ.next ≤ S
 s2 : S < t.next
 os : o S = none
 st : t.blk S = some (.cells 4 [[.ptr b 0 0, .sl cg 0 gv.length, .sl cr 0 g.length, I n]])
 g1 : σ.next ≤ cg
 g2 : cg < t.next
 g3 : cg ≠ S
 g4 : o cg = none
 g5 : t.blk cg = some (.cells 1 (gv.map fun ts => [.lit 2 (ts.map tenL)]))
 r1 : σ.next ≤ cr
 r2 : cr < t.next
 r3 : cr ≠ S
 r4 : o cr = none
 r5 : t.blk cr = some (.cells 1 ((natI g).map fun n => [I n]))
 gr : cg ≠ cr
section
variable {σ : St} {bT S b bL bR : Nat} {l : List Int} {n : Nat} {o : Nat → Option Nat} {t : St} {m : MkS} {cg cr : Nat} {gv : List (List Ten)} {g : List Nat}
theorem BG.maker (h : BG σ bT S b bL bR l n o t m cg cr gv g) {o' : Nat → Option Nat} {u : St} {m' : MkS} (h' : MkI o' u b bL bR m') (w : Grow o t o' u) : BG σ bT S b bL bR l n o' u m' cg cr gv g := by
 have hs := h.s1
 have hs2 := h.s2
 have hw := w.1
 have k : ∀ x, x < t.next → o x = none → u.blk x = t.blk x := w.2.2
 have ko : ∀ x, x < t.next → o' x = o x := w.2.1
 obtain ⟨p, hp, hT⟩ := h.tp
 have hbT := h.tl
 exact ⟨h', fun x hx => (ko x (by omega)).trans (h.low x hx), fun x hx hxT => (k x (by omega) (h.low x hx)).trans (h.fr x hx hxT), h.tl, ⟨p, hp, (k bT (by omega) (h.low bT hbT)).trans hT⟩, h.s1, by omega, (ko S hs2).trans h.os, (k S hs2 h.os).trans h.st,
  h.g1, Nat.lt_of_lt_of_le h.g2 hw, h.g3, (ko cg h.g2).trans h.g4, (k cg h.g2 h.g4).trans h.g5, h.r1, Nat.lt_of_lt_of_le h.r2 hw, h.r3, (ko cr h.r2).trans h.r4, (k cr h.r2 h.r4).trans h.r5, h.gr⟩
/-- Something else changes. -/
theorem BG.else (h : BG σ bT S b bL bR l n o t m cg cr gv g) {u : St} (e : Nat) (hn : t.next ≤ u.next) (hx : ∀ x, x < t.next → x ≠ e → u.blk x = t.blk x) (he : σ.next ≤ e ∧ e ≠ S ∧ e ≠ cg ∧ e ≠ cr ∧ o e = none) : BG σ bT S b bL bR l n o u m cg cr gv g := by
 obtain ⟨e1, e2, e3, e4, e5⟩ := he
 have hs := h.s1
 have hs2 := h.s2
 have hg2 := h.g2
 have hr2 := h.r2
 obtain ⟨p, hp, hT⟩ := h.tp
 have hbT := h.tl
 exact ⟨h.mk.frame hn fun x hx2 => hx x (h.mk.lt x hx2) (by rintro rfl; exact hx2 e5), h.low, fun x h1 h2 => (hx x (by omega) (by omega)).trans (h.fr x h1 h2), h.tl, ⟨p, hp, (hx bT (by omega) (by omega)).trans hT⟩, h.s1, by omega, h.os, (hx S hs2 (fun e => e2 e.symm)).trans h.st,
  h.g1, by omega, h.g3, h.g4, (hx cg h.g2 (fun e => e3 e.symm)).trans h.g5, h.r1, by omega, h.r3, h.r4, (hx cr h.r2 (fun e => e4 e.symm)).trans h.r5, h.gr⟩
/-- The tape goes on. -/
theorem BG.tape (h : BG σ bT S b bL bR l n o t m cg cr gv g) {u : St} {p' : Nat} (hp' : p' ≤ l.length) (hn : t.next ≤ u.next) (hT : u.blk bT = some (tapeB l p')) (hx : ∀ x, x < t.next → x ≠ bT → u.blk x = t.blk x) : BG σ bT S b bL bR l n o u m cg cr gv g := by
 have hs := h.s1
 have hs2 := h.s2
 have hg1 := h.g1
 have hr1 := h.r1
 have hg2 := h.g2
 have hr2 := h.r2
 have hbT := h.tl
 have o5 := h.low bT hbT
 exact ⟨h.mk.frame hn fun x hx2 => hx x (h.mk.lt x hx2) (by rintro rfl; exact hx2 o5), h.low, fun x h1 h2 => (hx x (by omega) h2).trans (h.fr x h1 h2), h.tl, ⟨p', hp', hT⟩, h.s1, by omega, h.os, (hx S hs2 (by omega)).trans h.st,
  h.g1, by omega, h.g3, h.g4, (hx cg h.g2 (by omega)).trans h.g5, h.r1, by omega, h.r3, h.r4, (hx cr h.r2 (by omega)).trans h.r5, h.gr⟩
/-- One more row is given. -/
theorem BG.give (h : BG σ bT S b bL bR l n o t m cg cr gv g) {u : St} (ts : List Ten) {c' : Nat} (e : Nat) (hc : t.next ≤ c') (hcu : c' < u.next) (hn : t.next ≤ u.next) (hS : u.blk S = some (.cells 4 [[.ptr b 0 0, .sl c' 0 (gv.length + 1), .sl cr 0 g.length, I n]])) (hc' : u.blk c' = some (.cells 1 ((gv ++ [ts]).map fun ts => [.lit 2 (ts.map tenL)])))
  (hx : ∀ x, x < t.next → x ≠ S → x ≠ cg → x ≠ e → u.blk x = t.blk x) (he : σ.next ≤ e ∧ e ≠ cr ∧ o e = none) : BG σ bT S b bL bR l n o u m c' cr (gv ++ [ts]) g := by
 obtain ⟨e1, e4, e5⟩ := he
 have hs := h.s1
 have hs2 := h.s2
 have hg1 := h.g1
 have hr2 := h.r2
 obtain ⟨p, hp, hT⟩ := h.tp
 have hbT := h.tl
 have hgr := h.gr
 have oc : o c' = none := by
  cases hh : o c' with
  | none => rfl
  | some z => have := h.mk.lt c' (by rw [hh]; simp); omega
 exact ⟨h.mk.frame hn fun x hx2 => hx x (h.mk.lt x hx2) (by rintro rfl; exact hx2 h.os) (by rintro rfl; exact hx2 h.g4) (by rintro rfl; exact hx2 e5), h.low, fun x h1 h2 => (hx x (by omega) (by omega) (by omega) (by omega)).trans (h.fr x h1 h2), h.tl,
  ⟨p, hp, (hx bT (by omega) (by omega) (by omega) (by omega)).trans hT⟩, h.s1, by omega, h.os, by rw [hS, List.length_append]; rfl, by omega, hcu, by omega, oc, hc', h.r1, by omega, h.r3, h.r4, (hx cr h.r2 h.r3 (fun e => hgr e.symm) (fun e => e4 e.symm)).trans h.r5, by omega⟩
/-- The group grows. -/
theorem BG.join (h : BG σ bT S b bL bR l n o t m cg cr gv g) {u : St} (g' : List Nat) {c' : Nat} (hc : t.next ≤ c') (hcu : c' < u.next) (hn : t.next ≤ u.next) (hS : u.blk S = some (.cells 4 [[.ptr b 0 0, .sl cg 0 gv.length, .sl c' 0 g'.length, I n]])) (hc' : u.blk c' = some (.cells 1 ((natI g').map fun n => [I n])))
  (hx : ∀ x, x < t.next → x ≠ S → x ≠ bT → u.blk x = t.blk x) (hT : ∃ p, p ≤ l.length ∧ u.blk bT = some (tapeB l p)) : BG σ bT S b bL bR l n o u m cg c' gv g' := by
 have hs := h.s1
 have hs2 := h.s2
 have hg1 := h.g1
 have hg2 := h.g2
 have hbT := h.tl
 have oc : o c' = none := by
  cases hh : o c' with
  | none => rfl
  | some z => have := h.mk.lt c' (by rw [hh]; simp); omega
 have o5 := h.low bT hbT
 exact ⟨h.mk.frame hn fun x hx2 => hx x (h.mk.lt x hx2) (by rintro rfl; exact hx2 h.os) (by rintro rfl; exact hx2 o5), h.low, fun x h1 h2 => (hx x (by omega) (by omega) h2).trans (h.fr x h1 h2), h.tl, hT, h.s1, by omega, h.os, hS,
  h.g1, by omega, h.g3, h.g4, (hx cg h.g2 h.g3 (by omega)).trans h.g5, by omega, hcu, by omega, oc, hc', by omega⟩
theorem BG.next (h : BG σ bT S b bL bR l n o t m cg cr gv g) : σ.next ≤ t.next := by have := h.s1; have := h.s2; omega
end
end Go.Proofs.Ytfjbabacpnnjmaa.Av
