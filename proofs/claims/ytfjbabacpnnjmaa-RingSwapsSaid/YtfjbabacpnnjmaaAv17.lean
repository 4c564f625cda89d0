/- A logic of small values, and walks in it: ring.Swap. law21's swaps. RingSwaps. -/
import Derived.Test.YtfjbabacpnnjmaaAv16
set_option linter.unusedVariables false
set_option linter.unusedSimpArgs false
set_option linter.deprecated false
namespace Go.Proofs.Ytfjbabacpnnjmaa.Av
open Go Go.Av
set_option maxRecDepth 20000
set_option maxHeartbeats 4000000

attribute [local go_sem] step_apply stepD_apply stepE_apply
attribute [local go_sem] aopq_mv aopq_pk aopq_al aopq_bx aopq_bd aopq_bs aopq_ld aopq_st aopq_nc aopq_bin aopq_un aopq_cv aopq_mi aopq_mf aopq_mm aopq_ms aopq_sc aopq_fa aopq_fl aopq_ia aopq_lk aopq_mu aopq_lm aopq_rg aopq_en aopq_ta aopq_ex aopq_ln aopq_ap aopq_mx aopq.eq_3 aop.eq_1 aop.eq_2 aop.eq_3 aop.eq_4 aop.eq_5 aop.eq_6 aop.eq_7 aop.eq_8 aop.eq_9 aop_bin atS_apply aop_un_not aop_un_neg aop.eq_14 aop.eq_15 aop.eq_16 aop.eq_17 aop.eq_18 aop_sc cutS_apply cutN_apply cutL_apply cutO_apply aop.eq_20 aop.eq_21 aop.eq_22 aop.eq_23 aop.eq_24 aop.eq_25 aop.eq_26 aop.eq_27 aop.eq_28 aop.eq_29 aop.eq_30 aop.eq_31 aop.eq_32 blk_push next_push blk_set next_set blk_kill next_kill frL_nil frL_cons Fits_nil Fits_cons Int.reduceBEq Int.reduceBNe Nat.sub_zero Option.map_some Option.map_none List.set_cons_succ true_or or_true false_or or_false Int.le_refl Int.cast_ofNat_Int decide_true decide_false List.cons_append fillA fillR rowsOf List.replicate_succ List.replicate_zero Nat.zero_mul getD_drop List.length_drop splice List.nil_append List.append_nil cond_true cond_false List.set_cons_zero List.length_set ev put_some put_none upd_apply abin asNat bounds row1 mk List.length_cons List.length_nil List.length_map List.drop_zero List.drop_succ_cons List.drop_nil List.getD_cons_zero List.getD_cons_succ Option.getD_none Option.getD_some List.take_succ_cons List.take_zero List.take_nil true_and and_true Int.toNat_natCast if_true if_false Nat.zero_add Nat.add_zero List.map_cons List.map_nil Nat.reduceEqDiff Nat.left_eq_add Nat.add_eq_left Nat.add_left_cancel_iff Nat.add_assoc Nat.reduceSub Nat.reduceAdd Nat.reduceLeDiff Nat.le_refl Nat.zero_le Nat.zero_lt_one Nat.lt_add_one Int.reduceLT Int.reduceLE Int.reduceToNat Nat.reduceLT Nat.reduceBEq Bool.false_eq_true Nat.reduceBNe ne_eq not_false_eq_true not_true_eq_false false_and and_false reduceIte Int.natCast_nonneg reduceCtorEq parts_agg parts_bool parts_int parts_str parts_lit parts_nils parts_sl parts_ptr Int.natCast_nonneg Int.natCast_nonneg beq_self_eq_true bne_self_eq_false Bool.true_and Bool.false_and Bool.and_true Bool.and_false Bool.true_or Bool.false_or Bool.or_true Bool.or_false Bool.not_true Bool.not_false
attribute [local go_sem] instr0 instr1 instr2 instr10 instr11 instr12 instrN instrA instr_len node0 node1 node2 node3 node4 node5 node6 nodeA node_len I ints progA progsA

def swRg (rows : List (List Int)) (i j : Nat) : Int := (rows.getD j []).getD i 0
def swOwn (rows : List (List Int)) (i : Nat) : Int := (rows.getD i []).getD i 0
theorem swGet {rows : List (List Int)} {i : Nat} (h : i < rows.length) : (rows.map fun r => [AV.lit 1 (r.map fun n => [AV.int .i64 n])]).getD i [] = [ints (rows.getD i [])] := by simp [List.getD_eq_getElem?_getD, h, ints, I]
section mk
variable {o : Nat → Option Nat} {σ : St} {b bL bR k : Nat} {m : MkS}
/-- ring.Swap -/
theorem swap_spec (h : MkI o σ b bL bR m) (hk : m.Sm k) (hk2 : k ≤ 60000) (g : List Nat) (rows : List (List Int)) (hl : rows.length = g.length) (hg1 : 1 ≤ g.length) (hrows : ∀ i, i < g.length → GrOk m g (rows.getD i [])) :
  TQ Try.prog 69 [.ptr b 0 0, ints (natI g), rowsA rows] σ fun v s => v = .tup [rowsA ((List.range g.length).map fun i => rowE (swOwn rows) (delivM m (outE g (swRg rows) g.length)).2 (posE g (swRg rows)) i g.length), I 0] ∧
   ∃ o', MkI o' s b bL bR (delivM m (outE g (swRg rows) g.length)).1 ∧ Grow o σ o' s := by
 refine in69 (by simp) fun wf hab => ?_
 clear hab
 generalize hrg : swRg rows = rg
 have hrgj : ∀ i j, rg i j = (rows.getD j []).getD i 0 := fun i j => by rw [← hrg]; rfl
 have hG := hrows 0 (by omega)
 have hg8 := hG.g8
 have hgrr := hl
 have hgd := hG.mem
 have hgm : g.length ≤ most := by simp only [most]; omega
 have hlets : (outE g rg g.length).length ≤ 64 := by
  have := outE_len (g := g) (rg := rg) g.length
  have h2 : g.length * g.length ≤ 8 * 8 := Nat.mul_le_mul hg8 hg8
  omega
 have c0 : ((rows.length : Int) != g.length) = false := by rw [hl]; simp
 have c1 : ((g.length : Int) == 0) = false := by rw [beq_eq_false_iff_ne]; omega
 obtain ⟨vs, hm⟩ := h
 unfold c69
 refine .seq (.rg fun A hA K hK => ?_)
 simp (maxSteps := 1000000) only [go_sem, hA.nil, hA.go, hA.yes, hA.noT, hA.noF, hA.skp]
 refine hK _ _ ?_; clear hK K hA A
 refine .seq (.seq (.rg fun A hA K hK => ?_))
 simp (maxSteps := 1000000) only [go_sem, hA.nil, hA.go, hA.yes, hA.noT, hA.noF, hA.skp, natI_len, rowsA, c0, c1, List.length_map]
 refine hK _ _ ?_; clear hK K hA A
 refine .cond (t := false) (by simp (maxSteps := 1000000) only [go_sem]) (fun h => by cases h) (fun _ => .skip ?_)
 -- each row may be
 refine .midK (fun L s => L = [(0, .ptr b 0 0), (1, ints (natI g)), (2, rowsA rows)] ∧ s = σ) ?_ ?_
 ·refine .seq (.rg fun A hA K hK => ?_)
  simp (maxSteps := 1000000) only [go_sem, hA.nil, hA.go, hA.yes, hA.noT, hA.noF, hA.skp, rowsA, List.length_map]
  refine hK _ _ ?_; clear hK K hA A
  refine .rangeK (N := g.length) (fun i L s => L = [(0, .ptr b 0 0), (1, ints (natI g)), (2, rowsA rows), (31, rowsA rows), (32, I g.length), (33, I i)] ∧ s = σ) hgm
   ⟨_, ⟨rfl, rfl⟩, by simp (maxSteps := 1000000) only [go_sem, rowsA, hl]; try rfl⟩ ?_ ?_ ?_
  ·rintro i L s ⟨rfl, _⟩
   exact ⟨by simp (maxSteps := 1000000) only [go_sem], by simp (maxSteps := 1000000) only [go_sem], rfl⟩
  ·rintro i L s hi ⟨rfl, rfl⟩
   have e0 : (i : Int) < rows.length := by omega
   have e0N : i < rows.length := by omega
   have hrwi := swGet e0N
   have q1 := mayRing_spec hm.hb (natI g) (rows.getD i [])
   rw [if_pos (hrows i hi).may] at q1
   generalize rows.getD i [] = ri at hrwi q1
   refine .seq (.rg fun A hA K hK => ?_)
   simp (maxSteps := 1000000) only [go_sem, hA.nil, hA.go, hA.yes, hA.noT, hA.noF, hA.skp, rowsA, e0, e0N, hrwi, List.length_map]
   refine hK _ _ ?_; clear hK K hA A
   refine .seq (.rg fun A hA K hK => ?_)
   simp (maxSteps := 1000000) only [go_sem, hA.nil, hA.go, hA.yes, hA.noT, hA.noF, hA.skp]
   refine aopq_call (q1) (by simp (maxSteps := 1000000) only [go_sem]) ?_
   try simp (maxSteps := 1000000) only [go_sem, hA.nil, hA.go, hA.yes, hA.noT, hA.noF, hA.skp]
   refine hK _ _ ?_; clear hK K hA A
   refine .seq (.rg fun A hA K hK => ?_)
   simp (maxSteps := 1000000) only [go_sem, hA.nil, hA.go, hA.yes, hA.noT, hA.noF, hA.skp]
   refine hK _ _ ?_; clear hK K hA A
   refine .cond (t := false) (by simp (maxSteps := 1000000) only [go_sem]) (fun h => by cases h) (fun _ => .skip ?_)
   exact ⟨by simp (maxSteps := 1000000) only [go_sem], _, ⟨rfl, rfl⟩, by simp (maxSteps := 1000000) only [go_sem, rowsA]; try rfl⟩
  ·rintro L s F ⟨rfl, rfl⟩ hf
   simp (maxSteps := 1000000) only [go_sem] at hf
   exact ⟨_, ⟨rfl, rfl⟩, by simp (maxSteps := 1000000) only [go_sem, hf, rowsA]; try rfl⟩
 rintro L s ⟨rfl, rfl⟩
 -- there is room
 have h : MkI o s b bL bR m := ⟨vs, hm⟩
 have w1 : IntKind.i64.wrap ((g.length : Int) - 1) = (g.length : Int) - 1 := IntWalk.i64_in _ (by omega)
 have w2 : IntKind.i64.wrap (2 * ((g.length : Int) - 1)) = 2 * ((g.length : Int) - 1) := IntWalk.i64_in _ (by omega)
 refine .midK (fun L τ => L = [(0, .ptr b 0 0), (1, ints (natI g)), (2, rowsA rows)] ∧ MkI o τ b bL bR m ∧ Grow o s o τ) ?_ ?_
 ·have q3 := each_spec (2 * ((g.length : Int) - 1)) s
  obtain ⟨h1, g1⟩ := h.ext (s := s.push (.cells 1 [[I (2 * ((g.length : Int) - 1))]])) (by rw [next_push]; omega) (fun c hc => by rw [blk_push, if_neg (by omega)])
  obtain ⟨vs1, hm1⟩ := h1
  have q4 := roomRing_spec hm1 (natI g) 108 [.ptr s.next 0 0] (fun _ => 2 * ((g.length : Int) - 1)) (fun i _ => eachF_spec (by rw [blk_push, if_pos rfl]) i) (fun i hi => by
   rw [natI_len] at hi
   have := hG.lt i hi
   rw [natI_getD hi, Int.toNat_natCast]
   have := hk.len (g.getD i 0)
   omega) (fun d => by have := hk.len d; omega)
  refine .seq (.rg fun A hA K hK => ?_)
  simp (maxSteps := 1000000) only [go_sem, hA.nil, hA.go, hA.yes, hA.noT, hA.noF, hA.skp, natI_len, w1, w2]
  refine aopq_callT q3 (by simp (maxSteps := 1000000) only [go_sem]) ?_
  try simp (maxSteps := 1000000) only [go_sem, hA.nil, hA.go, hA.yes, hA.noT, hA.noF, hA.skp]
  refine aopq_call (q4) (by simp (maxSteps := 1000000) only [go_sem]) ?_
  try simp (maxSteps := 1000000) only [go_sem, hA.nil, hA.go, hA.yes, hA.noT, hA.noF, hA.skp]
  try simp (maxSteps := 1000000) only [go_sem, hA.nil, hA.go, hA.yes, hA.noT, hA.noF, hA.skp]
  refine hK _ _ ?_; clear hK K hA A
  refine .seq (.rg fun A hA K hK => ?_)
  simp (maxSteps := 1000000) only [go_sem, hA.nil, hA.go, hA.yes, hA.noT, hA.noF, hA.skp]
  refine hK _ _ ?_; clear hK K hA A
  refine .cond (t := false) (by simp (maxSteps := 1000000) only [go_sem]) (fun h => by cases h) (fun _ => .skip ?_)
  exact ⟨_, ⟨rfl, ⟨vs1, hm1⟩, g1⟩, by simp (maxSteps := 1000000) only [go_sem]⟩
 clear h
 rintro L τ ⟨rfl, h, g0⟩
 refine .seq (.rg fun A hA K hK => ?_)
 simp (maxSteps := 1000000) only [go_sem, hA.nil, hA.go, hA.yes, hA.noT, hA.noF, hA.skp]
 refine hK _ _ ?_; clear hK K hA A
 -- letters are put together
 refine .midK (fun L t => ∃ x, L = [(0, .ptr b 0 0), (1, ints (natI g)), (2, rowsA rows), (12, x)] ∧ LM τ x t (outE g rg g.length) ∧ Ext τ t) ?_ ?_
 ·refine .seq (.rg fun A hA K hK => ?_)
  simp (maxSteps := 1000000) only [go_sem, hA.nil, hA.go, hA.yes, hA.noT, hA.noF, hA.skp, natI_len]
  refine hK _ _ ?_; clear hK K hA A
  refine .rangeK (N := g.length) (fun i L t => ∃ x, L = [(0, .ptr b 0 0), (1, ints (natI g)), (2, rowsA rows), (12, x), (56, ints (natI g)), (57, I g.length), (58, I i)] ∧ LM τ x t (outE g rg i) ∧ Ext τ t) hgm
   ⟨_, ⟨.nils, rfl, .inl ⟨rfl, rfl⟩, .refl τ⟩, by simp (maxSteps := 1000000) only [go_sem, natI_len, rowsA]; try rfl⟩ ?_ ?_ ?_
  ·rintro i L t ⟨x, rfl, _⟩
   exact ⟨by simp (maxSteps := 1000000) only [go_sem], by simp (maxSteps := 1000000) only [go_sem], rfl⟩
  ·rintro i L t hi ⟨x, rfl, hx, ht⟩
   have e0 : (i : Int) < g.length := by omega
   have hgi := natI_get hi
   refine .seq (.rg fun A hA K hK => ?_)
   simp (maxSteps := 1000000) only [go_sem, hA.nil, hA.go, hA.yes, hA.noT, hA.noF, hA.skp, e0, hgi, hi, natI_len]
   refine hK _ _ ?_; clear hK K hA A
   refine .seq (.rg fun A hA K hK => ?_)
   simp (maxSteps := 1000000) only [go_sem, hA.nil, hA.go, hA.yes, hA.noT, hA.noF, hA.skp, natI_len]
   refine hK _ _ ?_; clear hK K hA A
   refine .rangeK (N := g.length) (fun j L t => ∃ x, L = [(0, .ptr b 0 0), (1, ints (natI g)), (2, rowsA rows), (12, x), (13, I i), (14, I (g.getD i 0 : Nat)), (56, ints (natI g)), (57, I g.length), (58, I i), (63, ints (natI g)), (64, I g.length), (65, I j)] ∧ LM τ x t (outE g rg i ++ inE g rg i j) ∧ Ext τ t) hgm
    ⟨_, ⟨x, rfl, by rw [inE, List.append_nil]; exact hx, ht⟩, by simp (maxSteps := 1000000) only [go_sem, natI_len, rowsA]; try rfl⟩ ?_ ?_ ?_
   ·rintro j L t ⟨x, rfl, _⟩
    exact ⟨by simp (maxSteps := 1000000) only [go_sem], by simp (maxSteps := 1000000) only [go_sem], rfl⟩
   ·rintro j L t hj ⟨x, rfl, hx, ht⟩
    have e1 : (j : Int) < g.length := by omega
    have e2 : (j : Int) < rows.length := by omega
    have e2N : j < rows.length := by omega
    have hrwj := swGet e2N
    have hrlj := (hrows j hj).rl
    have e3 : (i : Int) < (rows.getD j []).length := by omega
    have e3N : i < (rows.getD j []).length := by omega
    have hgj := natI_get hj
    have hrj : ((rows.getD j []).map fun n => [I n]).getD i [] = [I (rg i j)] := by rw [hrgj, ints_get e3N]; generalize rows.getD j [] = rj at e3N ⊢; simp [List.getD_eq_getElem?_getD, e3N]
    generalize rows.getD j [] = rj at hrwj hrlj e3 e3N hrj
    have htn := ht.1
    refine .seq (.rg fun A hA K hK => ?_)
    simp (maxSteps := 1000000) only [go_sem, hA.nil, hA.go, hA.yes, hA.noT, hA.noF, hA.skp, e1, hgj, hj, natI_len]
    refine hK _ _ ?_; clear hK K hA A
    by_cases hij : i = j
    ·have c1 : ((i : Int) != j) = false := by rw [hij]; simp
     refine .seq (.rg fun A hA K hK => ?_)
     simp (maxSteps := 1000000) only [go_sem, hA.nil, hA.go, hA.yes, hA.noT, hA.noF, hA.skp, c1]
     refine hK _ _ ?_; clear hK K hA A
     refine .cond (t := false) (by simp (maxSteps := 1000000) only [go_sem]) (fun h => by cases h) (fun _ => .skip ?_)
     exact ⟨by simp (maxSteps := 1000000) only [go_sem], _, ⟨x, rfl, by rw [inE, if_pos hij, List.append_nil]; exact hx, ht⟩, by simp (maxSteps := 1000000) only [go_sem, rowsA]; try rfl⟩
    ·have c1 : ((i : Int) != j) = true := by simp; omega
     have hin : outE g rg i ++ inE g rg i (j + 1) = (outE g rg i ++ inE g rg i j) ++ [⟨g.getD j 0, g.getD i 0, rg i j⟩] := by rw [inE, if_neg hij, List.append_assoc]
     refine .seq (.rg fun A hA K hK => ?_)
     simp (maxSteps := 1000000) only [go_sem, hA.nil, hA.go, hA.yes, hA.noT, hA.noF, hA.skp, c1]
     refine hK _ _ ?_; clear hK K hA A
     refine .cond (t := true) (by simp (maxSteps := 1000000) only [go_sem]) (fun _ => ?_) (fun h => by cases h)
     have hl9 : (outE g rg i ++ inE g rg i j).length ≤ 200 := by
      have h1 := outE_len (g := g) (rg := rg) i
      have h2 := inE_len (g := g) (rg := rg) i j
      have h3 : i * g.length ≤ 8 * 8 := Nat.mul_le_mul (by omega) hg8
      simp only [List.length_append]; omega
     generalize outE g rg i ++ inE g rg i j = ls at hx hl9 hin
     rcases hx with ⟨rfl, rfl⟩ | ⟨c, rfl, c1', c2', c3'⟩
     ·refine .rg fun A hA K hK => ?_
      simp (maxSteps := 1000000) only [go_sem, hA.nil, hA.go, hA.yes, hA.noT, hA.noF, hA.skp, rowsA, e2, e2N, hrwj, e3, e3N, hrj, List.length_map]
      refine ⟨by decide, by decide, ?_⟩
      refine hK _ _ ?_; clear hK K hA A
      refine ⟨by simp (maxSteps := 1000000) only [go_sem], _, ⟨.sl t.next 0 1, rfl, by rw [hin]; exact .inr ⟨t.next, rfl, htn, by simp (maxSteps := 1000000) only [go_sem]; try omega, by simp (maxSteps := 1000000) only [go_sem, ltRow]⟩, ⟨by simp (maxSteps := 1000000) only [go_sem]; try omega, fun y hy => ?_⟩⟩, by simp (maxSteps := 1000000) only [go_sem, rowsA]; try rfl⟩
      rw [← ht.2 y hy]; simp (disch := omega) only [go_sem, if_neg]
     ·have m1 : ls.length + 1 ≤ most := by simp only [most]; omega
      have m2 : (ls.length + 1) * 32 ≤ most := by simp only [most]; omega
      have m4 : List.take ls.length (ls.map fun y => ltRow y 0) = ls.map fun y => ltRow y 0 := List.take_of_length_le (by simp)
      refine .rg fun A hA K hK => ?_
      simp (maxSteps := 1000000) only [go_sem, hA.nil, hA.go, hA.yes, hA.noT, hA.noF, hA.skp, rowsA, e2, e2N, hrwj, e3, e3N, hrj, c3', m1, m2, m4, List.length_map]
      refine hK _ _ ?_; clear hK K hA A
      refine ⟨by simp (maxSteps := 1000000) only [go_sem], _, ⟨.sl t.next 0 (ls.length + 1), rfl, by rw [hin]; exact .inr ⟨t.next, by rw [List.length_append]; rfl, htn, by simp (maxSteps := 1000000) only [go_sem]; try omega, by simp (maxSteps := 1000000) only [go_sem, List.map_append, ltRow]⟩, ⟨by simp (maxSteps := 1000000) only [go_sem]; try omega, fun y hy => ?_⟩⟩, by simp (maxSteps := 1000000) only [go_sem, rowsA]; try rfl⟩
      rw [← ht.2 y hy]; simp (disch := omega) only [go_sem, if_neg]
   ·rintro L t F ⟨x, rfl, hx, ht⟩ hf
    simp (maxSteps := 1000000) only [go_sem] at hf
    exact ⟨by simp (maxSteps := 1000000) only [go_sem, hf], _, ⟨x, rfl, hx, ht⟩, by simp (maxSteps := 1000000) only [go_sem, hf]; try rfl⟩
  ·rintro L t F ⟨x, rfl, hx, ht⟩ hf
   simp (maxSteps := 1000000) only [go_sem] at hf
   exact ⟨_, ⟨x, rfl, hx, ht⟩, by simp (maxSteps := 1000000) only [go_sem, hf]⟩
 rintro L t ⟨x, rfl, hx, ht⟩
 have htn := ht.1
 generalize hls : outE g rg g.length = ls at hx hlets
 have hlok : ∀ j, j < ls.length → (ls.getD j lt0).frm < m.ps.length ∧ (ls.getD j lt0).to < m.ps.length := fun j hj => by
  have hm : ls.getD j lt0 ∈ outE g rg g.length := by
   rw [hls, List.getD_eq_getElem?_getD, List.getElem?_eq_getElem hj]; exact List.getElem_mem hj
  obtain ⟨p, q, hp, hq, _, e⟩ := lets_mem hm
  rw [e]
  have gm : ∀ p, p < g.length → g.getD p 0 ∈ g := fun p hp => by rw [List.getD_eq_getElem?_getD, List.getElem?_eq_getElem hp]; exact List.getElem_mem hp
  exact ⟨hgd _ (gm q hq), hgd _ (gm p hp)⟩
 -- they are delivered
 refine .midK (fun L s => ∃ o', L = [(1, ints (natI g)), (2, rowsA rows), (17, ints (delivM m ls).2)] ∧ MkI o' s b bL bR (delivM m ls).1 ∧ Grow o τ o' s) ?_ ?_
 ·rcases hx with ⟨rfl, rfl⟩ | ⟨c, rfl, c1, c2, c3⟩
  ·refine .ent (.virt (i := 12) 4 (by simp (maxSteps := 1000000) only [go_sem])) ?_
   obtain ⟨h1, -⟩ := h.ext (s := t.push (.cells 4 [])) (by rw [next_push]; omega) (fun y hy => by rw [blk_push, if_neg (by omega)]; exact ht.2 y hy)
   have hoc : o t.next = none := by
    cases hh : o t.next with
    | none => rfl
    | some x => have := h.lt t.next (by rw [hh]; simp); omega
   have hd := deliver_spec h1 hk [] (by simp; omega) (fun j hj => absurd hj (by simp)) t.next (by rw [next_push]; omega) hoc (by rw [blk_push, if_pos rfl]; rfl)
   refine .rg fun A hA K hK => ?_
   simp (maxSteps := 1000000) only [go_sem, hA.nil, hA.go, hA.yes, hA.noT, hA.noF, hA.skp]
   refine aopq_callQ (hd) (by simp (maxSteps := 1000000) only [go_sem]) ?_
   rintro v s ⟨rfl, o', h2, D⟩
   try simp (maxSteps := 1000000) only [go_sem, hA.nil, hA.go, hA.yes, hA.noT, hA.noF, hA.skp]
   refine hK _ _ ?_; clear hK K hA A
   exact ⟨_, ⟨o', rfl, h2, D.toGrow (by rw [next_push]; omega) (fun y hy => by rw [blk_push, if_neg (by omega)]; exact ht.2 y hy) (by omega)⟩, by simp (maxSteps := 1000000) only [go_sem]⟩
  ·obtain ⟨h1, -⟩ := h.ext (s := t) htn ht.2
   have hoc : o c = none := by
    cases hh : o c with
    | none => rfl
    | some x => have := h.lt c (by rw [hh]; simp); omega
   have hd := deliver_spec h1 hk ls (by omega) hlok c c2 hoc (by rw [ltRows_zero]; exact c3)
   refine .rg fun A hA K hK => ?_
   simp (maxSteps := 1000000) only [go_sem, hA.nil, hA.go, hA.yes, hA.noT, hA.noF, hA.skp]
   refine aopq_callQ (hd) (by simp (maxSteps := 1000000) only [go_sem]) ?_
   rintro v s ⟨rfl, o', h2, D⟩
   try simp (maxSteps := 1000000) only [go_sem, hA.nil, hA.go, hA.yes, hA.noT, hA.noF, hA.skp]
   refine hK _ _ ?_; clear hK K hA A
   exact ⟨_, ⟨o', rfl, h2, D.toGrow htn ht.2 c1⟩, by simp (maxSteps := 1000000) only [go_sem]⟩
 rintro L s ⟨o', rfl, h2, G⟩
 have hgl : (delivM m ls).2.length = ls.length := (recvs_len _ _ _ _).2
 generalize (delivM m ls).2 = got at hgl
 generalize hown : swOwn rows = own
 have howni : ∀ i, own i = (rows.getD i []).getD i 0 := fun i => by rw [← hown]; rfl
 have m0 : (g.length : Int) ≤ most := by simp only [most]; omega
 have m1 : (g.length : Int) * 24 ≤ most := by simp only [most]; omega
 have hso := h2.none
 have Gn := G.1
 have hp0 : posE g rg 0 0 = 0 := by simp [posE, outE, inE]
 refine .seq (.rg fun A hA K hK => ?_)
 simp (maxSteps := 1000000) only [go_sem, hA.nil, hA.go, hA.yes, hA.noT, hA.noF, hA.skp, natI_len, m0, m1]
 refine hK _ _ ?_; clear hK K hA A
 refine .midK (fun L t => L = [(18, .sl s.next 0 g.length)] ∧ MkI o' t b bL bR (delivM m ls).1 ∧ Grow o τ o' t ∧ s.next < t.next ∧ t.blk s.next = some (.cells 1 (tabE g.length (fun i => rowE own got (posE g rg) i g.length) g.length))) ?_ ?_
 ·refine .seq (.rg fun A hA K hK => ?_)
  simp (maxSteps := 1000000) only [go_sem, hA.nil, hA.go, hA.yes, hA.noT, hA.noF, hA.skp, natI_len]
  refine hK _ _ ?_; clear hK K hA A
  refine .rangeK (N := g.length) (fun i L t => L = [(1, ints (natI g)), (2, rowsA rows), (17, ints (got.drop (posE g rg i 0))), (18, .sl s.next 0 g.length), (95, I g.length), (96, I i)] ∧ MkI o' t b bL bR (delivM m ls).1 ∧ Grow o τ o' t ∧ s.next < t.next ∧
    t.blk s.next = some (.cells 1 (tabE g.length (fun i => rowE own got (posE g rg) i g.length) i))) hgm
   ⟨_, ⟨rfl, h2.frame (by simp (maxSteps := 1000000) only [go_sem]; try omega) (fun y hy => by have := h2.lt y hy; simp (disch := omega) only [go_sem, if_neg]), G.trans (growExt (by simp (maxSteps := 1000000) only [go_sem]; try omega) fun y hy => by simp (disch := omega) only [go_sem, if_neg]), by simp (maxSteps := 1000000) only [go_sem]; try omega, by rw [tabE_zero]; simp (maxSteps := 1000000) only [go_sem]⟩, by simp (maxSteps := 1000000) only [go_sem, natI_len, hp0]; try rfl⟩ ?_ ?_ ?_
  ·rintro i L t ⟨rfl, _⟩
   exact ⟨by simp (maxSteps := 1000000) only [go_sem], by simp (maxSteps := 1000000) only [go_sem], rfl⟩
  ·rintro i L t hi ⟨rfl, h3, G3, hst, ht⟩
   have e0 : (i : Int) < g.length := by omega
   have e0r : (i : Int) < rows.length := by omega
   have e0N : i < rows.length := by omega
   have hrwi := swGet e0N
   have hrli := (hrows i hi).rl
   have e4 : (i : Int) < (rows.getD i []).length := by omega
   have e4N : i < (rows.getD i []).length := by omega
   have hri : ((rows.getD i []).map fun n => [I n]).getD i [] = [I (own i)] := by rw [howni, ints_get e4N]; generalize rows.getD i [] = ri at e4N ⊢; simp [List.getD_eq_getElem?_getD, e4N]
   generalize rows.getD i [] = ri at hrwi hrli e4 e4N hri
   have htl := tabE_len g.length (fun i => rowE own got (posE g rg) i g.length) i
   have htg := tabE_get (row := fun i => rowE own got (posE g rg) i g.length) hi
   have hts := tabE_set (row := fun i => rowE own got (posE g rg) i g.length) hi
   have hnil : (tabE g.length (fun i => rowE own got (posE g rg) i g.length) i).set i [.nils] = tabE g.length (fun i => rowE own got (posE g rg) i g.length) i := by
    refine List.ext_getElem? fun q => ?_
    rw [List.getElem?_set]
    split
    ·rename_i hq; subst hq
     rw [if_pos (by omega)]
     rw [List.getD_eq_getElem?_getD] at htg
     cases hh : (tabE g.length (fun i => rowE own got (posE g rg) i g.length) i)[i]? with
     | none => rw [hh] at htg; cases htg
     | some v => rw [hh] at htg; rw [← htg]; rfl
    ·rfl
   have hstart : posE g rg (i + 1) 0 = posE g rg i g.length := by simp [posE, outE, inE]
   generalize tabE g.length (fun i => rowE own got (posE g rg) i g.length) i = tb at *
   refine .seq (.rg fun A hA K hK => ?_)
   simp (maxSteps := 1000000) only [go_sem, hA.nil, hA.go, hA.yes, hA.noT, hA.noF, hA.skp]
   refine hK _ _ ?_; clear hK K hA A
   refine .seq (.rg fun A hA K hK => ?_)
   simp (maxSteps := 1000000) only [go_sem, hA.nil, hA.go, hA.yes, hA.noT, hA.noF, hA.skp, natI_len]
   refine hK _ _ ?_; clear hK K hA A
   refine .entQ (.rangeK (N := g.length) (fun j L t => ∃ w, L = [(1, ints (natI g)), (2, rowsA rows), (17, ints (got.drop (posE g rg i j))), (18, .sl s.next 0 g.length), (19, I i), (95, I g.length), (96, I i), (100, I g.length), (101, I j)] ∧ MkI o' t b bL bR (delivM m ls).1 ∧ Grow o τ o' t ∧ s.next < t.next ∧
     t.blk s.next = some (.cells 1 (tb.set i [w])) ∧ (j = 0 ∧ w = .nils ∨ ∃ c, w = .sl c 0 j ∧ s.next < c ∧ c < t.next ∧ o' c = none ∧ t.blk c = some (.cells 1 ((rowE own got (posE g rg) i j).map fun n => [I n])))) hgm
    ⟨_, ⟨.nils, rfl, h3, G3, hst, by rw [hnil]; exact ht, .inl ⟨rfl, rfl⟩⟩, by simp (maxSteps := 1000000) only [go_sem, natI_len, rowsA]; try rfl⟩ ?_ ?_ ?_)
   ·rintro j L t ⟨w, rfl, _⟩
    exact ⟨by simp (maxSteps := 1000000) only [go_sem], by simp (maxSteps := 1000000) only [go_sem], rfl⟩
   ·rintro j L t hj ⟨w, rfl, h4, G4, hst, ht, hw⟩
    have e1 : (j : Int) < g.length := by omega
    have hgw : (tb.set i [w]).getD i [] = [w] := by simp [List.getD_eq_getElem?_getD, htl, hi]
    have hsl : (tb.set i [w]).length = g.length := by simp [htl]
    have hto := h4.none
    have hrs := rowE_succ own got (posE g rg) i j
    have hrl := rowE_len own got (posE g rg) i j
    have G4n := G4.1
    -- one more number behind a row
    have fin : ∀ (x : Int) (u : St) (c' : Nat), (if i = j then own i else got.getD (posE g rg i j) 0) = x → t.next ≤ c' → c' < u.next → (∀ y, y < t.next → y ≠ s.next → (∀ c, w = .sl c 0 j → y ≠ c) → u.blk y = t.blk y) → u.blk s.next = some (.cells 1 (tb.set i [.sl c' 0 (j + 1)])) →
      u.blk c' = some (.cells 1 ((rowE own got (posE g rg) i j).map (fun n => [I n]) ++ [[I x]])) → MkI o' u b bL bR (delivM m ls).1 ∧ Grow o τ o' u ∧ s.next < u.next ∧ u.blk s.next = some (.cells 1 (tb.set i [.sl c' 0 (j + 1)])) ∧
       (j + 1 = 0 ∧ AV.sl c' 0 (j + 1) = .nils ∨ ∃ c, AV.sl c' 0 (j + 1) = .sl c 0 (j + 1) ∧ s.next < c ∧ c < u.next ∧ o' c = none ∧ u.blk c = some (.cells 1 ((rowE own got (posE g rg) i (j + 1)).map fun n => [I n]))) := by
     intro x u c' hx q1 q2 q3 q4 q5
     have nw : ∀ y, o' y ≠ none → ∀ c, w = .sl c 0 j → y ≠ c := fun y hy c hc => by
      rintro rfl
      rcases hw with ⟨_, rfl⟩ | ⟨c2, rfl, _, _, w3, _⟩
      ·cases hc
      ·cases hc; exact hy w3
     have hoc' : o' c' = none := by
      cases hh : o' c' with
      | none => rfl
      | some z => have := h4.lt c' (by rw [hh]; simp); omega
     refine ⟨h4.frame (by omega) fun y hy => q3 y (h4.lt y hy) (by rintro rfl; exact hy hso) (nw y hy), ⟨by omega, G4.2.1, fun y hy hoy => (q3 y (by omega) (by omega) fun c hc => ?_).trans (G4.2.2 y hy hoy)⟩, by omega, q4, .inr ⟨c', rfl, by omega, q2, hoc', ?_⟩⟩
     ·rcases hw with ⟨_, rfl⟩ | ⟨c2, rfl, w1, _⟩
      ·cases hc
      ·cases hc; omega
     ·rw [q5, hrs, List.map_append, hx]; rfl
    by_cases hij : i = j
    ·have c1 : ((i : Int) == j) = true := by rw [hij]; simp
     have hpos : posE g rg i (j + 1) = posE g rg i j := by simp [posE, inE, hij]
     have hx : (if i = j then own i else got.getD (posE g rg i j) 0) = own i := if_pos hij
     refine .seq (.rg fun A hA K hK => ?_)
     simp (maxSteps := 1000000) only [go_sem, hA.nil, hA.go, hA.yes, hA.noT, hA.noF, hA.skp]
     refine hK _ _ ?_; clear hK K hA A
     refine .seq (.seq (.rg fun A hA K hK => ?_))
     simp (maxSteps := 1000000) only [go_sem, hA.nil, hA.go, hA.yes, hA.noT, hA.noF, hA.skp, c1]
     refine hK _ _ ?_; clear hK K hA A
     refine .cond (t := true) (by simp (maxSteps := 1000000) only [go_sem]) (fun _ => ?_) (fun h => by cases h)
     rcases hw with ⟨j0, rfl⟩ | ⟨c, rfl, w1, w2, w3, w4⟩
     ·have n1 : ¬ s.next = t.next := by omega
      refine .seq (.rd fun A hA K hK => ?_)
      simp (maxSteps := 1000000) only [go_sem, hA.nil, hA.go, hA.yes, hA.noT, hA.noF, hA.skp, ht, hgw, hsl, hi, e0, rowsA, e0r, e0N, hrwi, e4, e4N, hri, n1]
      refine ⟨by decide, by decide, ?_⟩
      refine hK _ _ ?_; clear hK K hA A
      refine .exit ?_
      simp only [thenQ, roundK, if_true]
      exact ⟨by simp (maxSteps := 1000000) only [go_sem], _, ⟨_, rfl, fin (own i) _ t.next hx (Nat.le_refl _) (by simp (maxSteps := 1000000) only [go_sem]; try omega) (fun y h1 h2 _ => by simp (disch := omega) only [go_sem, if_neg]) (by simp (maxSteps := 1000000) only [go_sem, j0, List.set_set]) (by simp only [j0]; simp (maxSteps := 1000000) only [go_sem, rowE, List.range_zero, show ¬ t.next = s.next by omega])⟩, by simp (maxSteps := 1000000) only [go_sem, hpos, rowsA]; try rfl⟩
     ·have n1 : ¬ s.next = t.next := by omega
      have n2 : ¬ s.next = c := by omega
      have n3 : ¬ c = s.next := by omega
      have m1 : j + 1 ≤ most := by simp only [most]; omega
      have m2 : (j + 1) * 8 ≤ most := by simp only [most]; omega
      have m4 : List.take j ((rowE own got (posE g rg) i j).map fun n => [AV.int .i64 n]) = (rowE own got (posE g rg) i j).map fun n => [AV.int .i64 n] := List.take_of_length_le (by simp [hrl])
      refine .seq (.rd fun A hA K hK => ?_)
      simp (maxSteps := 1000000) only [go_sem, hA.nil, hA.go, hA.yes, hA.noT, hA.noF, hA.skp, ht, hgw, hsl, hi, e0, rowsA, e0r, e0N, hrwi, e4, e4N, hri, n1, n2, w4, m1, m2, m4, hrl, List.length_map]
      refine hK _ _ ?_; clear hK K hA A
      refine .exit ?_
      simp only [thenQ, roundK, if_true]
      refine ⟨by simp (maxSteps := 1000000) only [go_sem], _, ⟨_, rfl, fin (own i) _ t.next hx (Nat.le_refl _) (by simp (maxSteps := 1000000) only [go_sem]; try omega) (fun y h1 h2 h3 => ?_) (by simp (maxSteps := 1000000) only [go_sem, List.set_set]) (by simp (maxSteps := 1000000) only [go_sem, show ¬ t.next = s.next by omega])⟩, by simp (maxSteps := 1000000) only [go_sem, hpos, rowsA]; try rfl⟩
      have := h3 c rfl
      simp (disch := omega) only [go_sem, if_neg]
    ·have c1 : ((i : Int) == j) = false := by simp; omega
     have hpos : posE g rg i (j + 1) = posE g rg i j + 1 := by
      have : (inE g rg i (j + 1)).length = (inE g rg i j).length + 1 := by rw [inE, if_neg hij]; simp
      simp only [posE, this]; omega
     have hlt : posE g rg i j < got.length := by rw [hgl, ← hls]; exact (lets_get hi hj hij).1
     have hx : (if i = j then own i else got.getD (posE g rg i j) 0) = got.getD (posE g rg i j) 0 := if_neg hij
     generalize posE g rg i j = p at fin hpos hlt hx ⊢
     have hd0 : ((got.drop p).map fun n => [AV.int .i64 n]).getD 0 [] = [I (got.getD p 0)] := by
      simp [List.getD_eq_getElem?_getD, hlt]
     have hdl : 0 < got.length - p := by omega
     have hdl1 : 1 ≤ got.length - p := by omega
     have hdI : (0 : Int) < ((got.length - p : Nat) : Int) := by omega
     have hdI1 : (1 : Int) ≤ ((got.length - p : Nat) : Int) := by omega
     have hdr : List.take (got.length - p - 1) (List.drop 1 ((got.drop p).map fun n => [AV.int .i64 n])) = (got.drop (p + 1)).map fun n => [AV.int .i64 n] := by
      rw [← List.map_drop, List.drop_drop, List.take_of_length_le (by simp; omega)]
     refine .seq (.rg fun A hA K hK => ?_)
     simp (maxSteps := 1000000) only [go_sem, hA.nil, hA.go, hA.yes, hA.noT, hA.noF, hA.skp]
     refine hK _ _ ?_; clear hK K hA A
     refine .seq (.seq (.rg fun A hA K hK => ?_))
     simp (maxSteps := 1000000) only [go_sem, hA.nil, hA.go, hA.yes, hA.noT, hA.noF, hA.skp, c1]
     refine hK _ _ ?_; clear hK K hA A
     refine .cond (t := false) (by simp (maxSteps := 1000000) only [go_sem]) (fun h => by cases h) (fun _ => .skip ?_)
     rcases hw with ⟨j0, rfl⟩ | ⟨c, rfl, w1, w2, w3, w4⟩
     ·have n1 : ¬ s.next = t.next := by omega
      refine .seq (.rd fun A hA K hK => ?_)
      simp (maxSteps := 1000000) only [go_sem, hA.nil, hA.go, hA.yes, hA.noT, hA.noF, hA.skp, ht, hgw, hsl, hi, e0, e0r, hd0, hdl, hdI, n1, List.length_map, List.length_drop]
      refine ⟨by decide, by decide, ?_⟩
      refine hK _ _ ?_; clear hK K hA A
      refine .rg fun A hA K hK => ?_
      simp (maxSteps := 1000000) only [go_sem, hA.nil, hA.go, hA.yes, hA.noT, hA.noF, hA.skp, hdl1, hdI1, hdr, List.length_map, List.length_drop]
      refine hK _ _ ?_; clear hK K hA A
      exact ⟨by simp (maxSteps := 1000000) only [go_sem], _, ⟨_, rfl, fin (got.getD p 0) _ t.next hx (Nat.le_refl _) (by simp (maxSteps := 1000000) only [go_sem]; try omega) (fun y h1 h2 _ => by simp (disch := omega) only [go_sem, if_neg]) (by simp (maxSteps := 1000000) only [go_sem, j0, List.set_set]) (by simp only [j0]; simp (maxSteps := 1000000) only [go_sem, rowE, List.range_zero, show ¬ t.next = s.next by omega])⟩, by simp (maxSteps := 1000000) only [go_sem, hpos, rowsA]; try rfl⟩
     ·have n1 : ¬ s.next = t.next := by omega
      have n2 : ¬ s.next = c := by omega
      have m1 : j + 1 ≤ most := by simp only [most]; omega
      have m2 : (j + 1) * 8 ≤ most := by simp only [most]; omega
      have m4 : List.take j ((rowE own got (posE g rg) i j).map fun n => [AV.int .i64 n]) = (rowE own got (posE g rg) i j).map fun n => [AV.int .i64 n] := List.take_of_length_le (by simp [hrl])
      refine .seq (.rd fun A hA K hK => ?_)
      simp (maxSteps := 1000000) only [go_sem, hA.nil, hA.go, hA.yes, hA.noT, hA.noF, hA.skp, ht, hgw, hsl, hi, e0, e0r, hd0, hdl, hdI, n1, n2, w4, m1, m2, m4, hrl, List.length_map, List.length_drop]
      refine hK _ _ ?_; clear hK K hA A
      refine .rg fun A hA K hK => ?_
      simp (maxSteps := 1000000) only [go_sem, hA.nil, hA.go, hA.yes, hA.noT, hA.noF, hA.skp, hdl1, hdI1, hdr, List.length_map, List.length_drop]
      refine hK _ _ ?_; clear hK K hA A
      refine ⟨by simp (maxSteps := 1000000) only [go_sem], _, ⟨_, rfl, fin (got.getD p 0) _ t.next hx (Nat.le_refl _) (by simp (maxSteps := 1000000) only [go_sem]; try omega) (fun y h1 h2 h3 => ?_) (by simp (maxSteps := 1000000) only [go_sem, List.set_set]) (by simp (maxSteps := 1000000) only [go_sem, show ¬ t.next = s.next by omega])⟩, by simp (maxSteps := 1000000) only [go_sem, hpos, rowsA]; try rfl⟩
      have := h3 c rfl
      simp (disch := omega) only [go_sem, if_neg]
   ·rintro L t F ⟨w, rfl, h4, G4, hst, ht, hw⟩ hf
    simp (maxSteps := 1000000) only [go_sem] at hf
    have hgw : (tb.set i [w]).getD i [] = [w] := by simp [List.getD_eq_getElem?_getD, htl, hi]
    have Gn4 := G4.1
    rcases hw with ⟨j0, rfl⟩ | ⟨c, rfl, w1, w2, w3, w4⟩
    ·omega
    refine ⟨_, _, .frzAt s.next i (c' := c) (n := g.length) ht (by rw [List.length_set]; omega) hgw w4 (by omega) (by rw [List.length_map, rowE_len]), by simp (maxSteps := 1000000) only [go_sem, hf], _, ⟨rfl, h4.frame (by simp (maxSteps := 1000000) only [go_sem]; try omega) (fun y hy => ?_), ⟨by simp (maxSteps := 1000000) only [go_sem]; try omega, G4.2.1, fun y hy hoy => ?_⟩, by simp (maxSteps := 1000000) only [go_sem]; exact hst, ?_⟩, by simp (maxSteps := 1000000) only [go_sem, hf, hstart]; try rfl⟩
    ·have h1 : ¬ y = s.next := by rintro rfl; exact hy hso
     have h2 : ¬ y = c := by rintro rfl; exact hy w3
     simp (maxSteps := 1000000) only [go_sem, h1, h2]
    ·rw [← G4.2.2 y hy hoy]; simp (disch := omega) only [go_sem, if_neg]
    ·rw [← hts]; simp (maxSteps := 1000000) only [go_sem, List.set_set]
  ·rintro L t F ⟨rfl, h3, G3, hst, ht⟩ hf
   simp (maxSteps := 1000000) only [go_sem] at hf
   exact ⟨_, ⟨rfl, h3, G3, hst, ht⟩, by simp (maxSteps := 1000000) only [go_sem, hf]⟩
 rintro L t ⟨rfl, h3, G3, hst, ht⟩
 rw [tabE_full] at ht
 refine .frz 18 (b := s.next) (n := g.length) (by simp (maxSteps := 1000000) only [go_sem]) ht (by simp) ?_
 refine .seq (.rg fun A hA K hK => ?_)
 simp (maxSteps := 1000000) only [go_sem, hA.nil, hA.go, hA.yes, hA.noT, hA.noF, hA.skp]
 refine hK _ _ ?_; clear hK K hA A
 have Gn3 := G3.1
 refine .ret (retS2 (by simp (maxSteps := 1000000) only [go_sem]; try rfl) (by simp (maxSteps := 1000000) only [go_sem]) ⟨rfl, o', h3.frame (by simp (maxSteps := 1000000) only [go_sem]; try omega) (fun y hy => ?_), g0.trans ⟨by simp (maxSteps := 1000000) only [go_sem]; try omega, G3.2.1, fun y hy hoy => ?_⟩⟩)
 ·have : ¬ y = s.next := by rintro rfl; exact hy hso
  simp (maxSteps := 1000000) only [go_sem, this]
 ·rw [← G3.2.2 y hy hoy]; simp (disch := omega) only [go_sem, if_neg]
end mk
theorem outE_len2 {g : List Nat} {rg : Nat → Nat → Int} : (outE g rg g.length).length = g.length * (g.length - 1) := by
 have inn : ∀ i k, (inE g rg i k).length = if i < k then k - 1 else k := by
  intro i k
  induction k with
  | zero => simp [inE]
  | succ k ih =>
   unfold inE
   by_cases e : i = k
   ·subst e; simp only [if_true, List.append_nil, ih]; rw [if_neg (by omega), if_pos (by omega)]; omega
   ·rw [if_neg e, List.length_append, ih]
    simp only [List.length_cons, List.length_nil]
    by_cases e2 : i < k
    ·rw [if_pos e2, if_pos (by omega)]; omega
    ·rw [if_neg e2, if_neg (by omega)]
 have out : ∀ k, k ≤ g.length → (outE g rg k).length = k * (g.length - 1) := by
  intro k
  induction k with
  | zero => intro _; simp [outE]
  | succ k ih =>
   intro hk
   unfold outE
   rw [List.length_append, ih (by omega), inn, if_pos (by omega), Nat.succ_mul]
 exact out g.length (Nat.le_refl _)
/-- The registers that are swapped. -/
def swR (G i : Nat) : List Int := (List.range G).map fun j => (((i + j) % 8 : Nat) : Int)
def swRows (G : Nat) : List (List Int) := (List.range G).map (swR G)
theorem swR_len (G i : Nat) : (swR G i).length = G := by simp [swR]
theorem swRows_len (G : Nat) : (swRows G).length = G := by simp [swRows]
theorem swR_get {G i j : Nat} (h : j < G) : (swR G i).getD j 0 = (((i + j) % 8 : Nat) : Int) := by simp [swR, List.getD_eq_getElem?_getD, h]
theorem swRows_get {G i : Nat} (h : i < G) : (swRows G).getD i [] = swR G i := by simp [swRows, List.getD_eq_getElem?_getD, h]
theorem getI {l : List Int} {i : Nat} (h : i < l.length) : (l.map fun n => [AV.int .i64 n]).getD i [] = [I (l.getD i 0)] := by simp [List.getD_eq_getElem?_getD, h, I]
theorem getT {l : List Ten} {i : Nat} (h : i < l.length) : (l.map tenL).getD i [] = [ints (l.getD i zeroT).sh, ints (l.getD i zeroT).dt] := by simp [List.getD_eq_getElem?_getD, h, tenL]
/-- What each one gets. -/
def swX (gv : List (List Ten)) (g : List Nat) (i j : Nat) : Ten := (gv.getD (g.getD j 0) []).getD ((j + i) % 8) zeroT

/-- law21.swaps -/
theorem swaps_spec (tape : List Int) (htm : tape.length ≤ most) (σ : St) : T Try.prog 33 [ints tape] σ (.bool true) σ := by
 refine in33 (by simp) fun wf hab => ?_
 clear hab
 unfold c33
 refine .seq (.rg fun A hA K hK => ?_)
 simp (maxSteps := 1000000) only [go_sem, hA.nil, hA.go, hA.yes, hA.noT, hA.noF, hA.skp]
 refine hK _ _ ?_; clear hK K hA A
 refine .seq (.rg fun A hA K hK => ?_)
 simp (maxSteps := 1000000) only [go_sem, hA.nil, hA.go, hA.yes, hA.noT, hA.noF, hA.skp]
 refine hK _ _ ?_; clear hK K hA A
 refine .midK (fun L t => ∃ sh n gv g S o b bL bR, L = [(4, .ptr S 0 0)] ∧ StG n 8 sh gv g ∧ MkI o t b bL bR (tkAll (MkS.new n) 8 n) ∧ t.blk S = some (.cells 4 [[.ptr b 0 0, gvA gv, ints (natI g), I n]]) ∧ o S = none ∧ S < t.next ∧ σ.next ≤ t.next ∧ (∀ x, o x ≠ none → σ.next ≤ x) ∧ ∀ x, x < σ.next → t.blk x = σ.blk x) ?_ ?_
 ·have hT0 : (σ.push (tapeB tape 0)).blk σ.next = some (tapeB tape 0) := by simp [blk_push]
  refine .rg fun A hA K hK => ?_
  simp (maxSteps := 1000000) only [go_sem, hA.nil, hA.go, hA.yes, hA.noT, hA.noF, hA.skp]
  refine aopq_callQ (shapeT_spec hT0 (by omega) htm) (by simp (maxSteps := 1000000) only [go_sem]) ?_
  rintro v s ⟨sh, p1, rfl, hTS, hp1, hT1, hn1, hx1⟩
  try simp (maxSteps := 1000000) only [go_sem, hA.nil, hA.go, hA.yes, hA.noT, hA.noF, hA.skp]
  have hn1' : σ.next + 1 ≤ s.next := by simpa [next_push] using hn1
  refine aopq_callQ (shapeT_spec hT1 hp1 htm) (by simp (maxSteps := 1000000) only [go_sem]) ?_
  rintro v s2 ⟨sh2, p2, rfl, hTS2, hp2, hT2, hn2, hx2⟩
  try simp (maxSteps := 1000000) only [go_sem, hA.nil, hA.go, hA.yes, hA.noT, hA.noF, hA.skp]
  refine aopq_callQ (begin_spec hT2 hp2 htm 8 (by omega) [sh, sh2, [2]] (by simp) (by simp) (fun x hx => by simp at hx; rcases hx with h | h | h <;> rw [h] <;> first | exact hTS.right | exact hTS2.right | decide)) (by simp (maxSteps := 1000000) only [go_sem, rowsA]) ?_
  rintro v t ⟨n, gv, g, S, o, b, bL, bR, hG, rfl, hM, hst, hoS, hS1, hS2, hlo, hx3⟩
  try simp (maxSteps := 1000000) only [go_sem, hA.nil, hA.go, hA.yes, hA.noT, hA.noF, hA.skp]
  refine hK _ _ ?_; clear hK K hA A
  refine ⟨_, ⟨_, n, gv, g, S, o, b, bL, bR, rfl, hG, hM, hst, hoS, hS2, by omega, fun x hx => ?_, fun x hx => ?_⟩, by simp (maxSteps := 1000000) only [go_sem]⟩
  ·rcases Nat.lt_or_ge x s2.next with h | h
   ·exact absurd (hlo x h) hx
   ·omega
  ·rw [hx3 x (by omega) (by omega), hx2 x (by omega) (by omega), hx1 x (by simp [next_push]; omega) (by omega)]
   simp (disch := omega) only [go_sem, if_neg]
 rintro L t ⟨sh, n, gv, g, S, o, b, bL, bR, rfl, hG, hM, hst, hoS, hS2, hn2, hoo, hx2⟩
 have hg1 := hG.g1
 have hgn := hG.g8
 have hn8 := hG.n8
 have hgm : g.length ≤ most := by simp only [most]; omega
 refine .seq (.seq (.rg fun A hA K hK => ?_))
 simp (maxSteps := 1000000) only [go_sem, hA.nil, hA.go, hA.yes, hA.noT, hA.noF, hA.skp]
 refine hK _ _ ?_; clear hK K hA A
 refine .cond (t := false) (by simp (maxSteps := 1000000) only [go_sem]) (fun h => by cases h) (fun _ => .skip ?_)
 refine .seq (.rg fun A hA K hK => ?_)
 simp (maxSteps := 1000000) only [go_sem, hA.nil, hA.go, hA.yes, hA.noT, hA.noF, hA.skp, hst, natI_len]
 refine hK _ _ ?_; clear hK K hA A
 refine .seq (.rg fun A hA K hK => ?_)
 simp (maxSteps := 1000000) only [go_sem, hA.nil, hA.go, hA.yes, hA.noT, hA.noF, hA.skp]
 refine hK _ _ ?_; clear hK K hA A
 refine .ent (.virt (i := 6) 1 (by simp (maxSteps := 1000000) only [go_sem])) ?_
 -- the registers
 refine .midK (fun L u => ∃ c6, L = [(4, .ptr S 0 0), (5, I g.length), (6, .sl c6 0 g.length)] ∧ t.next ≤ c6 ∧ c6 < u.next ∧ u.blk c6 = some (.cells 1 ((swRows g.length).map fun r => [ints r])) ∧ t.next ≤ u.next ∧ ∀ x, x < t.next → u.blk x = t.blk x) ?_ ?_
 ·refine .seq (.rg fun A hA K hK => ?_)
  simp (maxSteps := 1000000) only [go_sem, hA.nil, hA.go, hA.yes, hA.noT, hA.noF, hA.skp]
  refine hK _ _ ?_; clear hK K hA A
  refine .countK (N := g.length) (fun i L u => ∃ c6, L = [(4, .ptr S 0 0), (5, I g.length), (6, .sl c6 0 i), (7, I i)] ∧ t.next ≤ c6 ∧ c6 < u.next ∧ u.blk c6 = some (.cells 1 (((List.range i).map (swR g.length)).map fun r => [ints r])) ∧ t.next ≤ u.next ∧ ∀ x, x < t.next → u.blk x = t.blk x) hgm
   ⟨_, ⟨t.next, rfl, Nat.le_refl _, by simp (maxSteps := 1000000) only [go_sem]; try omega, by simp (maxSteps := 1000000) only [go_sem, List.range_zero], by simp (maxSteps := 1000000) only [go_sem]; try omega, fun x hx => by simp (disch := omega) only [go_sem, if_neg]⟩, by simp (maxSteps := 1000000) only [go_sem]; try rfl⟩ ?_ ?_ ?_
  ·rintro i L u hi ⟨c6, rfl, h1, h2, h3, h4, h5⟩
   refine .rg fun A hA K hK => ?_
   simp (maxSteps := 1000000) only [go_sem, hA.nil, hA.go, hA.yes, hA.noT, hA.noF, hA.skp]
   refine hK _ _ ?_; clear hK K hA A
   exact ⟨rfl, by simp (maxSteps := 1000000) only [go_sem]; try simp, _, ⟨c6, rfl, h1, h2, h3, h4, h5⟩, by simp (maxSteps := 1000000) only [go_sem]⟩
  ·rintro i L u hi ⟨c6, rfl, h1, h2, h3, h4, h5⟩
   refine .seq (.rg fun A hA K hK => ?_)
   simp (maxSteps := 1000000) only [go_sem, hA.nil, hA.go, hA.yes, hA.noT, hA.noF, hA.skp]
   refine hK _ _ ?_; clear hK K hA A
   refine .ent (.virt (i := 8) 1 (by simp (maxSteps := 1000000) only [go_sem])) ?_
   refine .midK (fun L w => ∃ c8, L = [(4, .ptr S 0 0), (5, I g.length), (6, .sl c6 0 i), (7, I i), (8, .sl c8 0 g.length)] ∧ u.next ≤ c8 ∧ c8 < w.next ∧ w.blk c8 = some (.cells 1 ((swR g.length i).map fun n => [I n])) ∧ u.next ≤ w.next ∧ ∀ x, x < u.next → w.blk x = u.blk x) ?_ ?_
   ·refine .seq (.rg fun A hA K hK => ?_)
    simp (maxSteps := 1000000) only [go_sem, hA.nil, hA.go, hA.yes, hA.noT, hA.noF, hA.skp]
    refine hK _ _ ?_; clear hK K hA A
    refine .countK (N := g.length) (fun j L w => ∃ c8, L = [(4, .ptr S 0 0), (5, I g.length), (6, .sl c6 0 i), (7, I i), (8, .sl c8 0 j), (9, I j)] ∧ u.next ≤ c8 ∧ c8 < w.next ∧ w.blk c8 = some (.cells 1 (((List.range j).map fun q => (((i + q) % 8 : Nat) : Int)).map fun n => [I n])) ∧ u.next ≤ w.next ∧ ∀ x, x < u.next → w.blk x = u.blk x) hgm
     ⟨_, ⟨u.next, rfl, Nat.le_refl _, by simp (maxSteps := 1000000) only [go_sem]; try omega, by simp (maxSteps := 1000000) only [go_sem, List.range_zero], by simp (maxSteps := 1000000) only [go_sem]; try omega, fun x hx => by simp (disch := omega) only [go_sem, if_neg]⟩, by simp (maxSteps := 1000000) only [go_sem]; try rfl⟩ ?_ ?_ ?_
    ·rintro j L w hj ⟨c8, rfl, q1, q2, q3, q4, q5⟩
     refine .rg fun A hA K hK => ?_
     simp (maxSteps := 1000000) only [go_sem, hA.nil, hA.go, hA.yes, hA.noT, hA.noF, hA.skp]
     refine hK _ _ ?_; clear hK K hA A
     exact ⟨rfl, by simp (maxSteps := 1000000) only [go_sem]; try simp, _, ⟨c8, rfl, q1, q2, q3, q4, q5⟩, by simp (maxSteps := 1000000) only [go_sem]⟩
    ·rintro j L w hj ⟨c8, rfl, q1, q2, q3, q4, q5⟩
     have m1 : j + 1 ≤ most := by simp only [most]; omega
     have m2 : (j + 1) * 8 ≤ most := by simp only [most]; omega
     have m4 : List.take j (((List.range j).map fun q => (((i + q) % 8 : Nat) : Int)).map fun n => [AV.int .i64 n]) = ((List.range j).map fun q => (((i + q) % 8 : Nat) : Int)).map fun n => [AV.int .i64 n] := List.take_of_length_le (by simp)
     have w2 : IntKind.i64.wrap ((i : Int) + j) = ((i + j : Nat) : Int) := by rw [IntWalk.i64_in _ (by omega)]; omega
     have hmod : (((i + j : Nat) : Int).tmod 8) = ((((i + j) % 8 : Nat)) : Int) := by
      rw [Int.tmod_eq_emod_of_nonneg (by omega)]; omega
     have hm8 : (i + j) % 8 < 8 := Nat.mod_lt _ (by decide)
     have wm : IntKind.i64.wrap ((((i + j) % 8 : Nat)) : Int) = ((((i + j) % 8 : Nat)) : Int) := IntWalk.i64_in _ (by omega)
     have hsn : ((List.range (j + 1)).map fun q => (((i + q) % 8 : Nat) : Int)).map (fun n => [AV.int .i64 n]) = ((List.range j).map fun q => (((i + q) % 8 : Nat) : Int)).map (fun n => [AV.int .i64 n]) ++ [[AV.int .i64 (((i + j) % 8 : Nat) : Int)]] := by simp [List.range_succ]
     have hlj : j ≤ (((List.range j).map fun q => (((i + q) % 8 : Nat) : Int)).map (fun n => [AV.int .i64 n])).length := by simp
     have z8 : ¬ (8 : Int) = 0 := by decide
     generalize (i + j) % 8 = y at hmod hm8 wm hsn
     generalize ((List.range j).map fun q => (((i + q) % 8 : Nat) : Int)).map (fun n => [AV.int .i64 n]) = rowj at q3 m4 hsn hlj
     refine .rg fun A hA K hK => ?_
     simp (maxSteps := 1000000) only [go_sem, hA.nil, hA.go, hA.yes, hA.noT, hA.noF, hA.skp, w2, hmod, wm, z8, hlj, q3, m1, m2, m4, List.length_map, List.length_range]
     refine hK _ _ ?_; clear hK K hA A
     refine ⟨by simp (maxSteps := 1000000) only [go_sem], _, ⟨w.next, rfl, by omega, by simp (maxSteps := 1000000) only [go_sem]; try omega, ?_, by simp (maxSteps := 1000000) only [go_sem]; try omega, fun x hx => by rw [← q5 x hx]; simp (disch := omega) only [go_sem, if_neg]⟩, by simp (maxSteps := 1000000) only [go_sem]; try rfl⟩
     rw [show (fun n : Int => [I n]) = fun n => [AV.int .i64 n] from rfl, hsn]; simp (maxSteps := 1000000) only [go_sem]
    ·rintro L w F ⟨c8, rfl, q1, q2, q3, q4, q5⟩ hf
     simp (maxSteps := 1000000) only [go_sem] at hf
     exact ⟨_, ⟨c8, rfl, q1, q2, q3, q4, q5⟩, by simp (maxSteps := 1000000) only [go_sem, hf]⟩
   rintro L w ⟨c8, rfl, q1, q2, q3, q4, q5⟩
   refine .frz 8 (b := c8) (n := g.length) (by simp (maxSteps := 1000000) only [go_sem]) q3 (by simp [swR_len]) ?_
   have m1 : i + 1 ≤ most := by simp only [most]; omega
   have m2 : (i + 1) * 24 ≤ most := by simp only [most]; omega
   have h3w := (q5 c6 h2).trans h3
   have n6 : ¬ c6 = c8 := by omega
   have hsn : ((List.range (i + 1)).map (swR g.length)).map (fun r => [ints r]) = ((List.range i).map (swR g.length)).map (fun r => [ints r]) ++ [[ints (swR g.length i)]] := by simp [List.range_succ]
   have m4 : List.take i (((List.range i).map (swR g.length)).map fun r => [ints r]) = ((List.range i).map (swR g.length)).map fun r => [ints r] := List.take_of_length_le (by simp)
   have hli : i ≤ (((List.range i).map (swR g.length)).map (fun r => [ints r])).length := by simp
   generalize ((List.range i).map (swR g.length)).map (fun r => [ints r]) = rowi at h3w m4 hsn hli
   refine .rg fun A hA K hK => ?_
   simp (maxSteps := 1000000) only [go_sem, hA.nil, hA.go, hA.yes, hA.noT, hA.noF, hA.skp, hli, h3w, n6, m1, m2, m4, List.length_map, List.length_range]
   refine hK _ _ ?_; clear hK K hA A
   refine ⟨by simp (maxSteps := 1000000) only [go_sem], _, ⟨w.next, rfl, by omega, by simp (maxSteps := 1000000) only [go_sem]; try omega, ?_, by simp (maxSteps := 1000000) only [go_sem]; try omega, fun x hx => by rw [← h5 x hx, ← q5 x (by omega)]; simp (disch := omega) only [go_sem, if_neg]⟩, by simp (maxSteps := 1000000) only [go_sem]; try rfl⟩
   rw [hsn]; simp (maxSteps := 1000000) only [go_sem]
  ·rintro L u F ⟨c6, rfl, h1, h2, h3, h4, h5⟩ hf
   simp (maxSteps := 1000000) only [go_sem] at hf
   exact ⟨_, ⟨c6, rfl, h1, h2, h3, h4, h5⟩, by simp (maxSteps := 1000000) only [go_sem, hf]⟩
 rintro L u ⟨c6, rfl, h1, h2, h3, h4, h5⟩
 refine .frz 6 (b := c6) (n := g.length) (by simp (maxSteps := 1000000) only [go_sem]) h3 (by simp [swRows_len]) ?_
 have hkb : ∀ x, x < t.next → (u.kill c6).blk x = t.blk x := fun x hx => by
  rw [← h5 x hx]; simp (disch := omega) only [go_sem, if_neg]
 have hkn : t.next ≤ (u.kill c6).next := by simp (maxSteps := 1000000) only [go_sem]; omega
 obtain ⟨hM1, gr1⟩ := hM.ext hkn hkb
 have hst1 := (hkb S hS2).trans hst
 generalize u.kill c6 = w at hkb hkn hM1 gr1 hst1
 -- plain
 obtain ⟨E, s0, hR, hE, hNB, hlk⟩ := RI.takeAll (nf := nfR J0) (gv := gv) hG.n1 hG.n8 (k := 8) (by omega) (fun d hd => (hG.gk d (by rw [hG.gl]; exact hd)).1) n (Nat.le_refl _)
 have hE1 : E.length ≤ 64 := by omega
 have hgr : ∀ i, i < g.length → GrOk (tkAll (MkS.new n) 8 n) g ((swRows g.length).getD i []) := fun i hi => by
  rw [swRows_get hi]
  exact hG.gr hR.lp _ (swR_len _ _) fun j hj => by rw [swR_get hj]; omega
 have hsw := swap_spec hM1 hR.sm (by omega) g (swRows g.length) (swRows_len _) hg1 hgr
 obtain ⟨E', s', hR', hE', hLe, hNB', hrow⟩ := hR.everyone hNB (g := g) (rg := swRg (swRows g.length)) (own := swOwn (swRows g.length)) (X := swX gv g) (by omega) (fun i hi => hG.d hi) (by omega)
  (fun i j hi hj _ => by
   rw [swRg, swRows_get hj, swR_get hi]; exact hlk _ (hG.d hj) _ (Nat.mod_lt _ (by decide)))
  (fun i hi => by rw [swOwn, swRows_get hi, swR_get hi]; exact hlk _ (hG.d hi) _ (Nat.mod_lt _ (by decide)))
 have hq : g.length * (g.length - 1) ≤ 8 * 8 := Nat.mul_le_mul (by omega) (by omega)
 have hq2 : 32 * g.length * (g.length - 1) = 32 * (g.length * (g.length - 1)) := Nat.mul_assoc _ _ _
 rw [outE_len2] at hE'
 generalize hRR : ((List.range g.length).map fun i => rowE (swOwn (swRows g.length)) (delivM (tkAll (MkS.new n) 8 n) (outE g (swRg (swRows g.length)) g.length)).2 (posE g (swRg (swRows g.length))) i g.length) = R at hsw
 have hRl : R.length = g.length := by rw [← hRR]; simp
 have hRi : ∀ i, i < g.length → (R.getD i []).length = g.length ∧ ∀ j, j < g.length → lookR ((R.getD i []).getD j 0) (s'.rg (g.getD i 0)) = some (swX gv g i j) := fun i hi => by
  have : R.getD i [] = rowE (swOwn (swRows g.length)) (delivM (tkAll (MkS.new n) 8 n) (outE g (swRg (swRows g.length)) g.length)).2 (posE g (swRg (swRows g.length))) i g.length := by rw [← hRR]; simp [List.getD_eq_getElem?_getD, hi]
  rw [this]
  exact ⟨rowE_len _ _ _ _ _, fun j hj => hrow i j hi hj⟩
 have p1 := progs_T hM1 hR (by omega)
 have p2 := count_T (σ := w) hR (by omega)
 refine .seq (.rg fun A hA K hK => ?_)
 simp (maxSteps := 1000000) only [go_sem, hA.nil, hA.go, hA.yes, hA.noT, hA.noF, hA.skp, hst1]
 refine aopq_call (p1) (by simp (maxSteps := 1000000) only [go_sem]) ?_
 try simp (maxSteps := 1000000) only [go_sem, hA.nil, hA.go, hA.yes, hA.noT, hA.noF, hA.skp]
 try simp (maxSteps := 1000000) only [go_sem, hA.nil, hA.go, hA.yes, hA.noT, hA.noF, hA.skp]
 refine aopq_call (p2) (by simp (maxSteps := 1000000) only [go_sem]) ?_
 try simp (maxSteps := 1000000) only [go_sem, hA.nil, hA.go, hA.yes, hA.noT, hA.noF, hA.skp]
 try simp (maxSteps := 1000000) only [go_sem, hA.nil, hA.go, hA.yes, hA.noT, hA.noF, hA.skp]
 refine hK _ _ ?_; clear hK K hA A
 refine .midK (fun L x => ∃ o', L = [(4, .ptr S 0 0), (5, I g.length), (6, rowsA (swRows g.length)), (10, I E.length), (11, rowsA R), (12, I 0)] ∧ MkI o' x b bL bR (delivM (tkAll (MkS.new n) 8 n) (outE g (swRg (swRows g.length)) g.length)).1 ∧ Grow o w o' x) ?_ ?_
 ·refine .rg fun A hA K hK => ?_
  simp (maxSteps := 1000000) only [go_sem, hA.nil, hA.go, hA.yes, hA.noT, hA.noF, hA.skp, hst1]
  refine aopq_callQ (hsw) (by simp (maxSteps := 1000000) only [go_sem, rowsA]) ?_
  rintro y x ⟨rfl, o', hM2, gr2⟩
  try simp (maxSteps := 1000000) only [go_sem, hA.nil, hA.go, hA.yes, hA.noT, hA.noF, hA.skp, rowsA]
  refine hK _ _ ?_; clear hK K hA A
  exact ⟨_, ⟨o', rfl, hM2, gr2⟩, by simp (maxSteps := 1000000) only [go_sem, rowsA]; try rfl⟩
 rintro L x ⟨o', rfl, hM2, gr2⟩
 have hst2 := (gr2.2.2 S (by omega) hoS).trans hst1
 have hSx : S < x.next := Nat.lt_of_lt_of_le (by omega) gr2.1
 have c0 : ((R.length : Int) != g.length) = false := by rw [hRl]; simp
 have hoks := hG.oks
 refine .seq (.seq (.rg fun A hA K hK => ?_))
 simp (maxSteps := 1000000) only [go_sem, hA.nil, hA.go, hA.yes, hA.noT, hA.noF, hA.skp, rowsA, c0, List.length_map]
 refine hK _ _ ?_; clear hK K hA A
 refine .cond (t := false) (by simp (maxSteps := 1000000) only [go_sem]) (fun h => by cases h) (fun _ => .skip ?_)
 -- what each one has
 refine .midK (fun L y => L = [] ∧ ∀ c, c < x.next → y.blk c = x.blk c) ?_ ?_
 ·refine .seq (.rg fun A hA K hK => ?_)
  simp (maxSteps := 1000000) only [go_sem, hA.nil, hA.go, hA.yes, hA.noT, hA.noF, hA.skp]
  refine hK _ _ ?_; clear hK K hA A
  refine .countK (N := g.length) (fun j L y => L = [(4, .ptr S 0 0), (5, I g.length), (6, rowsA (swRows g.length)), (10, I E.length), (11, rowsA R), (12, I 0), (13, I j)] ∧ Ext x y) hgm
   ⟨_, ⟨rfl, .refl x⟩, by simp (maxSteps := 1000000) only [go_sem, rowsA]; try rfl⟩ ?_ ?_ ?_
  ·rintro j L y hj ⟨rfl, hy⟩
   refine .rg fun A hA K hK => ?_
   simp (maxSteps := 1000000) only [go_sem, hA.nil, hA.go, hA.yes, hA.noT, hA.noF, hA.skp]
   refine hK _ _ ?_; clear hK K hA A
   exact ⟨rfl, by simp (maxSteps := 1000000) only [go_sem]; try simp, _, ⟨rfl, hy⟩, by simp (maxSteps := 1000000) only [go_sem, rowsA]; try rfl⟩
  ·rintro j L y hj ⟨rfl, hy⟩
   have hyn := hy.1
   have hsty := (hy.2 S hSx).trans hst2
   refine .seq (.rg fun A hA K hK => ?_)
   simp (maxSteps := 1000000) only [go_sem, hA.nil, hA.go, hA.yes, hA.noT, hA.noF, hA.skp]
   refine hK _ _ ?_; clear hK K hA A
   refine .seq (.rg fun A hA K hK => ?_)
   simp (maxSteps := 1000000) only [go_sem, hA.nil, hA.go, hA.yes, hA.noT, hA.noF, hA.skp]
   refine hK _ _ ?_; clear hK K hA A
   refine .ent (.virt (i := 14) 1 (by simp (maxSteps := 1000000) only [go_sem])) ?_
   refine .ent (.virt (i := 15) 2 (by simp (maxSteps := 1000000) only [go_sem])) ?_
   refine .midK (fun L w => ∃ c14 c15, L = [(4, .ptr S 0 0), (5, I g.length), (6, rowsA (swRows g.length)), (10, I E.length), (11, rowsA R), (12, I 0), (13, I j), (14, .sl c14 0 g.length), (15, .sl c15 0 g.length)] ∧ y.next ≤ c14 ∧ y.next ≤ c15 ∧ c14 ≠ c15 ∧ w.blk c14 = some (.cells 1 (((List.range g.length).map fun q => (R.getD q []).getD j 0).map fun n => [I n])) ∧ w.blk c15 = some (.cells 2 (((List.range g.length).map fun q => swX gv g q j).map tenL)) ∧ y.next ≤ w.next ∧ ∀ c, c < y.next → w.blk c = y.blk c) ?_ ?_
   ·refine .seq (.rg fun A hA K hK => ?_)
    simp (maxSteps := 1000000) only [go_sem, hA.nil, hA.go, hA.yes, hA.noT, hA.noF, hA.skp]
    refine hK _ _ ?_; clear hK K hA A
    refine .countK (N := g.length) (fun i L w => ∃ c14 c15, L = [(4, .ptr S 0 0), (5, I g.length), (6, rowsA (swRows g.length)), (10, I E.length), (11, rowsA R), (12, I 0), (13, I j), (14, .sl c14 0 i), (15, .sl c15 0 i), (16, I i)] ∧ y.next ≤ c14 ∧ y.next ≤ c15 ∧ c14 < w.next ∧ c15 < w.next ∧ c14 ≠ c15 ∧ w.blk c14 = some (.cells 1 (((List.range i).map fun q => (R.getD q []).getD j 0).map fun n => [I n])) ∧ w.blk c15 = some (.cells 2 (((List.range i).map fun q => swX gv g q j).map tenL)) ∧ y.next ≤ w.next ∧ ∀ c, c < y.next → w.blk c = y.blk c) hgm
     ⟨_, ⟨y.next, y.next + 1, rfl, Nat.le_refl _, by omega, by simp (maxSteps := 1000000) only [go_sem]; try omega, by simp (maxSteps := 1000000) only [go_sem]; try omega, by omega, by simp (maxSteps := 1000000) only [go_sem, List.range_zero, show ¬ y.next = y.next + 1 by omega], by simp (maxSteps := 1000000) only [go_sem, List.range_zero], by simp (maxSteps := 1000000) only [go_sem]; try omega, fun c hc => by simp (disch := omega) only [go_sem, if_neg]⟩, by simp (maxSteps := 1000000) only [go_sem, rowsA]; try rfl⟩ ?_ ?_ ?_
    ·rintro i L w hi ⟨c14, c15, rfl, q⟩
     refine .rg fun A hA K hK => ?_
     simp (maxSteps := 1000000) only [go_sem, hA.nil, hA.go, hA.yes, hA.noT, hA.noF, hA.skp]
     refine hK _ _ ?_; clear hK K hA A
     exact ⟨rfl, by simp (maxSteps := 1000000) only [go_sem]; try simp, _, ⟨c14, c15, rfl, q⟩, by simp (maxSteps := 1000000) only [go_sem, rowsA]; try rfl⟩
    ·rintro i L w hi ⟨c14, c15, rfl, q1, q2, q3, q4, q5, q6, q7, q8, q9⟩
     have hRN : i < R.length := by omega
     have hRI : (i : Int) < R.length := by omega
     have gR := swGet hRN
     have rl := (hRi i hi).1
     have rN : j < (R.getD i []).length := by omega
     have rI : (j : Int) < (R.getD i []).length := by omega
     have rj := getI rN
     have ci : (((R.getD i []).length : Int) != g.length) = false := by rw [rl]; simp
     have sN : j < (swRows g.length).length := by rw [swRows_len]; exact hj
     have sI : (j : Int) < (swRows g.length).length := by omega
     have gS := swGet sN
     rw [swRows_get hj] at gS
     have tN : i < (swR g.length j).length := by rw [swR_len]; exact hi
     have tI : (i : Int) < (swR g.length j).length := by omega
     have tj := getI tN
     rw [swR_get hi] at tj
     have e0 : (j : Int) < g.length := by omega
     have hgj := natI_get hj
     have hdn := hG.d hj
     have hgvl := hG.gl
     have hdN : g.getD j 0 < gv.length := by omega
     have hdI : ((g.getD j 0 : Nat) : Int) < gv.length := by omega
     have r1 := gvGet hdN
     have r3 := (hG.gk _ hdN).1
     have hm8 : (j + i) % 8 < 8 := Nat.mod_lt _ (by decide)
     have zN : (j + i) % 8 < (gv.getD (g.getD j 0) []).length := by omega
     have zI : (((j + i) % 8 : Nat) : Int) < (gv.getD (g.getD j 0) []).length := by omega
     have r2 := getT zN
     have hs14 : ((List.range (i + 1)).map fun q => (R.getD q []).getD j 0).map (fun n => [AV.int .i64 n]) = ((List.range i).map fun q => (R.getD q []).getD j 0).map (fun n => [AV.int .i64 n]) ++ [[AV.int .i64 ((R.getD i []).getD j 0)]] := by rw [List.range_succ, List.map_append, List.map_append]; rfl
     have hs15 : ((List.range (i + 1)).map fun q => swX gv g q j).map tenL = ((List.range i).map fun q => swX gv g q j).map tenL ++ [[ints ((gv.getD (g.getD j 0) []).getD ((j + i) % 8) zeroT).sh, ints ((gv.getD (g.getD j 0) []).getD ((j + i) % 8) zeroT).dt]] := by rw [List.range_succ, List.map_append, List.map_append]; rfl
     have t14 : List.take i (((List.range i).map fun q => (R.getD q []).getD j 0).map fun n => [AV.int .i64 n]) = ((List.range i).map fun q => (R.getD q []).getD j 0).map fun n => [AV.int .i64 n] := List.take_of_length_le (by simp)
     have t15 : List.take i (((List.range i).map fun q => swX gv g q j).map tenL) = ((List.range i).map fun q => swX gv g q j).map tenL := List.take_of_length_le (by simp)
     have l14 : i ≤ (((List.range i).map fun q => (R.getD q []).getD j 0).map fun n => [AV.int .i64 n]).length := by simp
     have l15 : i ≤ (((List.range i).map fun q => swX gv g q j).map tenL).length := by simp
     have f6 : (fun n : Int => [I n]) = fun n => [AV.int .i64 n] := rfl
     rw [f6] at q6
     generalize ((List.range i).map fun q => (R.getD q []).getD j 0).map (fun n => [AV.int .i64 n]) = row14 at q6 hs14 t14 l14
     generalize ((List.range i).map fun q => swX gv g q j).map tenL = row15 at q7 hs15 t15 l15
     generalize (gv.getD (g.getD j 0) []).getD ((j + i) % 8) zeroT = X at r2 hs15
     generalize (j + i) % 8 = z at tj hm8 zN zI r2
     generalize gv.getD (g.getD j 0) [] = ts at r1 r2 r3 zN zI
     generalize g.getD j 0 = d at hgj hdn hdN hdI r1
     generalize swR g.length j = sr at gS tN tI tj
     generalize R.getD i [] = ri at gR rl rN rI rj ci hs14
     have hstw := (q9 S (by omega)).trans hsty
     have m1 : i + 1 ≤ most := by simp only [most]; omega
     have m2 : (i + 1) * 8 ≤ most := by simp only [most]; omega
     have m3 : (i + 1) * 48 ≤ most := by simp only [most]; omega
     have nS1 : ¬ S = w.next := by omega
     have nS2 : ¬ S = c14 := by omega
     have n15a : ¬ c15 = w.next := by omega
     have n15b : ¬ c15 = c14 := fun e => q5 e.symm
     refine .seq (.seq (.rg fun A hA K hK => ?_))
     simp (maxSteps := 1000000) only [go_sem, hA.nil, hA.go, hA.yes, hA.noT, hA.noF, hA.skp, rowsA, hRI, hRN, gR, ci, List.length_map]
     refine hK _ _ ?_; clear hK K hA A
     refine .cond (t := false) (by simp (maxSteps := 1000000) only [go_sem, ci]) (fun h => by cases h) (fun _ => .skip ?_)
     refine .seq (.rg fun A hA K hK => ?_)
     simp (maxSteps := 1000000) only [go_sem, hA.nil, hA.go, hA.yes, hA.noT, hA.noF, hA.skp, rowsA, hRI, hRN, gR, rI, rN, rj, q6, m1, m2, t14, l14, List.length_map]
     refine hK _ _ ?_; clear hK K hA A
     refine .rd fun A hA K hK => ?_
     simp (maxSteps := 1000000) only [go_sem, hA.nil, hA.go, hA.yes, hA.noT, hA.noF, hA.skp, rowsA, gvA, hstw, nS1, nS2, n15a, n15b, e0, hj, hgj, natI_len, hdI, hdN, r1, r2, zN, zI, sI, sN, gS, tN, tI, tj, q7, m1, m3, t15, l15, List.length_map]
     refine hK _ _ ?_; clear hK K hA A
     refine ⟨by simp (maxSteps := 1000000) only [go_sem], _, ⟨w.next, w.next + 1, rfl, by omega, by omega, by simp (maxSteps := 1000000) only [go_sem]; try omega, by simp (maxSteps := 1000000) only [go_sem]; try omega, by omega, ?_, ?_, by simp (maxSteps := 1000000) only [go_sem]; try omega, fun c hc => by rw [← q9 c hc]; simp (disch := omega) only [go_sem, if_neg]⟩, by simp (maxSteps := 1000000) only [go_sem, rowsA]; try rfl⟩
     ·rw [f6, hs14]; simp (maxSteps := 1000000) only [go_sem, show ¬ w.next = c15 by omega, show ¬ w.next = w.next + 1 by omega]
     ·rw [hs15]; simp (maxSteps := 1000000) only [go_sem]
    ·rintro L w F ⟨c14, c15, rfl, q1, q2, q3, q4, q5, q6, q7, q8, q9⟩ hf
     simp (maxSteps := 1000000) only [go_sem] at hf
     exact ⟨_, ⟨c14, c15, rfl, q1, q2, q5, q6, q7, q8, q9⟩, by simp (maxSteps := 1000000) only [go_sem, hf, rowsA]; try rfl⟩
   rintro L w ⟨c14, c15, rfl, q1, q2, q5, q6, q7, q8, q9⟩
   refine .frz 14 (b := c14) (n := g.length) (by simp (maxSteps := 1000000) only [go_sem]) q6 (by simp) ?_
   refine .frz 15 (b := c15) (n := g.length) (by simp (maxSteps := 1000000) only [go_sem]) (by simp only [blk_kill, if_neg (show ¬ c15 = c14 from fun e => q5 e.symm)]; exact q7) (by simp) ?_
   have hzx : ∀ c, c < x.next → ((w.kill c14).kill c15).blk c = x.blk c := fun c hc => by
    rw [← hy.2 c hc, ← q9 c (by omega)]; simp (disch := omega) only [go_sem, if_neg]
   have hzn : x.next ≤ ((w.kill c14).kill c15).next := by simp (maxSteps := 1000000) only [go_sem]; omega
   generalize (w.kill c14).kill c15 = z at hzx hzn
   obtain ⟨hM3, gr3⟩ := hM2.ext hzn hzx
   have hst3 := (hzx S hSx).trans hst2
   have p5 := told_spec J0_ok hst3 hM3 hR' hNB' (by omega) hG.gl hoks hG.gn (by omega) hg1 ((List.range g.length).map fun q => (R.getD q []).getD j 0) ((List.range g.length).map fun q => swX gv g q j) (by simp) (by simp) E.length (by rw [hq2, hE']; omega) (by omega) (fun i hi => by
    have e1 : ((List.range g.length).map fun q => (R.getD q []).getD j 0).getD i 0 = (R.getD i []).getD j 0 := by rw [List.getD_eq_getElem?_getD, List.getElem?_map, List.getElem?_range hi]; rfl
    have e2 : ((List.range g.length).map fun q => swX gv g q j).getD i zeroT = swX gv g i j := by rw [List.getD_eq_getElem?_getD, List.getElem?_map, List.getElem?_range hi]; rfl
    rw [e1, e2]; exact (hRi i hi).2 j hj)
   refine .seq (.rg fun A hA K hK => ?_)
   simp (maxSteps := 1000000) only [go_sem, hA.nil, hA.go, hA.yes, hA.noT, hA.noF, hA.skp]
   refine aopq_call (p5) (by simp (maxSteps := 1000000) only [go_sem]) ?_
   try simp (maxSteps := 1000000) only [go_sem, hA.nil, hA.go, hA.yes, hA.noT, hA.noF, hA.skp]
   try simp (maxSteps := 1000000) only [go_sem, hA.nil, hA.go, hA.yes, hA.noT, hA.noF, hA.skp]
   refine hK _ _ ?_; clear hK K hA A
   refine .cond (t := false) (by simp (maxSteps := 1000000) only [go_sem]) (fun h => by cases h) (fun _ => .skip ?_)
   exact ⟨by simp (maxSteps := 1000000) only [go_sem], _, ⟨rfl, ⟨hzn, hzx⟩⟩, by simp (maxSteps := 1000000) only [go_sem, rowsA]; try rfl⟩
  ·rintro L y F ⟨rfl, hy⟩ hf
   exact ⟨[], ⟨rfl, hy.2⟩, by simp (maxSteps := 1000000) only [go_sem]⟩
 rintro L y ⟨rfl, hy⟩
 refine .seq (.rg fun A hA K hK => ?_)
 simp (maxSteps := 1000000) only [go_sem, hA.nil, hA.go, hA.yes, hA.noT, hA.noF, hA.skp]
 refine hK _ _ ?_; clear hK K hA A
 refine .ret (retB (by simp (maxSteps := 1000000) only [go_sem]) wf (fun c hc => ?_) (.bool _) ⟨rfl, rfl⟩)
 have ho : o c = none := by
  cases hh : o c with
  | none => rfl
  | some z => have := hoo c (by rw [hh]; simp); omega
 have gn := gr2.1
 rw [hy c (by omega), gr2.2.2 c (by omega) ho, hkb c (by omega)]; exact hx2 c hc
/-- RingSwaps: true of any arguments -/
theorem ringSwaps_spec (tape : List Int) (σ : St) : T Try.prog 9 [ints tape] σ (.bool true) σ := by
 refine in9 (by simp) fun wf hab => ?_
 have htm := hab_ints (hab 0 (by simp))
 clear hab
 have q1 := swaps_spec tape htm σ
 unfold c9
 refine .seq (.rg fun A hA K hK => ?_)
 simp (maxSteps := 1000000) only [go_sem, hA.nil, hA.go, hA.yes, hA.noT, hA.noF, hA.skp]
 refine hK _ _ ?_; clear hK K hA A
 refine .seq (.rg fun A hA K hK => ?_)
 simp (maxSteps := 1000000) only [go_sem, hA.nil, hA.go, hA.yes, hA.noT, hA.noF, hA.skp]
 refine aopq_call (q1) (by simp (maxSteps := 1000000) only [go_sem]) ?_
 try simp (maxSteps := 1000000) only [go_sem, hA.nil, hA.go, hA.yes, hA.noT, hA.noF, hA.skp]
 try simp (maxSteps := 1000000) only [go_sem, hA.nil, hA.go, hA.yes, hA.noT, hA.noF, hA.skp]
 refine aopq_call (known21_spec σ) (by simp (maxSteps := 1000000) only [go_sem]) ?_
 try simp (maxSteps := 1000000) only [go_sem, hA.nil, hA.go, hA.yes, hA.noT, hA.noF, hA.skp]
 try simp (maxSteps := 1000000) only [go_sem, hA.nil, hA.go, hA.yes, hA.noT, hA.noF, hA.skp]
 refine hK _ _ ?_; clear hK K hA A
 exact .ret (ret1 (by simp (maxSteps := 1000000) only [go_sem]) rfl)
end Go.Proofs.Ytfjbabacpnnjmaa.Av
