-- Printed by a program (a variant of the kit print, with contracts of our own).
import Derived.Test.YtapoeleiicnlbaaProg
import Derived.Below
import Derived.Deep.Draws
import Derived.Deep.AppendLies
import Derived.Maps.AppendAt
import Derived.OwnWalk
import Derived.Laws.BytesArg
import Derived.Laws.MakeOwn
import Derived.Laws.OwnMore
import Derived.Deep.OwnRows
import Derived.Tactics
import Derived.Lib.ConvBytes
import Derived.Laws.Slices
import Derived.WalkKit
import Derived.KernelRfl
import Derived.RowKit3
import Derived.Deep.LoopGhost
import Derived.Deep.QuietTactic
import Derived.BigQuiet
import Derived.WideLaws
import Derived.Deep.DeepCutAuto
import Derived.Deep.CutBlock
import Derived.Deep.RegionHeld3
import Derived.Laws.Rows
import Derived.Lib.AppendStr
import Derived.ArgAppend
import Derived.Laws.IdiomCopy
import Derived.OrdersHeld
import Derived.Laws.BitsLemmas
import Derived.RowKit
import Derived.Lib.SliceRun
import Derived.Test.YtapoeleiicnlbaaWWords
import Derived.Test.YtapoeleiicnlbaaWLast
import Derived.Test.YtapoeleiicnlbaaWTab
import Derived.Test.YtapoeleiicnlbaaWFour
import Derived.Test.YtapoeleiicnlbaaWQPut
import Derived.Test.YtapoeleiicnlbaaWApart
import Derived.Test.YtapoeleiicnlbaaWArr
import Derived.Test.YtapoeleiicnlbaaWZeros
import Derived.Test.YtapoeleiicnlbaaWFoot
import Derived.Test.YtapoeleiicnlbaaWKept
import Derived.Test.YtapoeleiicnlbaaWShare
import Derived.Test.YtapoeleiicnlbaaWN
import Derived.Test.YtapoeleiicnlbaaWRepsOne
import Derived.Test.YtapoeleiicnlbaaWGuard
import Derived.Test.YtapoeleiicnlbaaWNEv
import Derived.Test.YtapoeleiicnlbaaWMore
import Derived.Test.YtapoeleiicnlbaaWCopy
namespace Go.Proofs.Ytapoeleiicnlbaa.Q
open Go.RowKit Go.Proofs.YtapoeleiicnlbaaW.PrintWords Go.Proofs.YtapoeleiicnlbaaW.PrintLast Go.Proofs.YtapoeleiicnlbaaW.PrintMore
attribute [local go_sem] max2_int min2_int max_two min_two max_three min_three max_four min_four   -- for this text's walks alone
set_option linter.unusedVariables false
set_option linter.unusedSimpArgs false



def errW : Option Int → Value
  | none => .nilIface
  | some c => .iface 0 (.int .i64 c)
theorem errW_none : errW none = .nilIface := rfl
theorem errW_some (c : Int) : errW (some c) = .iface 0 (.int .i64 c) := rfl


/-! ### short forms of what is printed often: each proves its side goals by the rows that the print would write out -/
section
variable {P : Program} {md : Region.Mode} {ops : Array Oper} {Q : Exit → Act → World → Prop} {S : World → Prop} {ds : List Nat}
theorem pz_ {i : Nat} {N : Option Tmp} {oi : Oper} {v : Value} {fuel : Nat} {l : Array Bool} {a : Act} {w : World} (l' : Array Bool) (hc : anyB md ops l l' i = true) {a' : Act}
    (h : wpAnyLast P md ops Q S ds fuel l' a' w) (hi : ops[i]? = some oi := by rfl) (hN : oi.dst = N := by rfl)
    (hQ : ∀ c a w, Q (.panic c) (a.put oi.dst v) w → Q (.panic c) a w := by exact fun _ _ _ h => h)
    (hy : Yields P ops oi v a := by (refine Or.inl ⟨by rfl, ?_⟩; intro w'; go_simp; with_reducible rfl))
    (ha : a.put N v = a' := by (simp only [Act.put, List.setIfInBounds_toArray, List.set_cons_zero, List.set_cons_succ, i64_w, i32_w]; rfl)) : wpAnyLast P md ops Q S ds (fuel + 1) l a w := pure_ l' hi hN hc hQ hy ha h
theorem pu_ {i : Nat} {N : Option Tmp} {oi : Oper} {fuel : Nat} {l : Array Bool} {a : Act} {w : World} (l' : Array Bool) (hc : anyB md ops l l' i = true) {a' : Act}
    (h : wpAnyLast P md ops Q S ds fuel l' a' w) (hi : ops[i]? = some oi := by rfl) (hN : oi.dst = N := by rfl)
    (hQ : ∀ c a w, Q (.panic c) (a.put oi.dst undef) w → Q (.panic c) a w := by exact fun _ _ _ h => h)
    (hy : Yields P ops oi undef a := by exact Or.inr ⟨by rfl, rfl⟩)
    (ha : a.put N undef = a' := by (simp only [Act.put, List.setIfInBounds_toArray, List.set_cons_zero, List.set_cons_succ, i64_w, i32_w]; rfl)) : wpAnyLast P md ops Q S ds (fuel + 1) l a w := pure_ l' hi hN hc hQ hy ha h
end
theorem nC_ {p q : Prop} (h : p) (f : p → q := by (intro h_; repeat (first | exact h_ | (with_reducible refine Kd.C_alloc ?_ _) | (with_reducible refine Kd.C_drewN ?_ _) | (with_reducible refine Kd.C_drew ?_)))) : q := f h
theorem bB_ {w0 w w1 : World} {g : Nat} {o : Obj} (h : w0.heap[g]? = some o) (hb : Below w.heap.size w w1) (f : w0.heap[g]? = some o → w.heap[g]? = some o := by (intro h_; (with_reducible repeat (first | refine blk_drewN ?_ _ | refine blk_drew ?_ | refine blk_alloc ?_ _)); exact h_)) : w1.heap[g]? = some o := blk_below (f h) hb
theorem bG_ {w0 w w1 : World} {g : Nat} {o : Obj} {row : Option Nat} (h : w0.heap[g]? = some o) (hg : w.grownBy w1 row) (hne : some g ≠ row) (f : w0.heap[g]? = some o → w.heap[g]? = some o := by (intro h_; (with_reducible repeat (first | refine blk_drewN ?_ _ | refine blk_drew ?_ | refine blk_alloc ?_ _)); exact h_)) : w1.heap[g]? = some o := blk_grown (f h) hg hne
theorem bL_ {w0 w : World} {g : Nat} {o : Obj} (h : w0.heap[g]? = some o) (f : w0.heap[g]? = some o → w.heap[g]? = some o := by (intro h_; (with_reducible repeat (first | refine blk_drewN ?_ _ | refine blk_drew ?_ | refine blk_alloc ?_ _)); exact h_)) : g < w.heap.size := blk_lt (f h)
theorem nR_ {p q : Prop} (h : p) (f : p → q := by (intro h_; (with_reducible repeat (first | apply Kd.R_alloc | apply Kd.R_drewN | apply Kd.R_drew)); exact h_)) : q := f h
theorem nK_ {p q : Prop} (h : p) (f : p → q := by (intro h_; (with_reducible repeat (first | refine blk_drewN ?_ _ | refine blk_drew ?_ | refine blk_alloc ?_ _)); exact h_)) : q := f h
theorem nB_ {p q : Prop} (h : p) (f : p → q := by (intro h_; repeat (first | (with_reducible first | exact h_ | apply below_alloc | apply pw_below_drewN | apply below_drew1) | exact h_))) : q := f h
theorem nB1_ {p p1 q : Prop} (h : p) (g : p1) (f : p → p1 → q := by (intro h_ g1_; repeat (first | (with_reducible first | exact h_ | apply below_alloc | apply pw_below_drewN | apply below_drew1 | refine below_set ?_ g1_) | exact h_))) : q := f h g
theorem nB2_ {p p1 p2 q : Prop} (h : p) (g : p1) (g2 : p2) (f : p → p1 → p2 → q := by (intro h_ g1_ g2_; repeat (first | (with_reducible first | exact h_ | apply below_alloc | apply pw_below_drewN | apply below_drew1 | refine below_set ?_ g1_ | refine below_set ?_ g2_) | exact h_))) : q := f h g g2
theorem nB3_ {p p1 p2 p3 q : Prop} (h : p) (g : p1) (g2 : p2) (g3 : p3) (f : p → p1 → p2 → p3 → q := by (intro h_ g1_ g2_ g3_; repeat (first | (with_reducible first | exact h_ | apply below_alloc | apply pw_below_drewN | apply below_drew1 | refine below_set ?_ g1_ | refine below_set ?_ g2_ | refine below_set ?_ g3_) | exact h_))) : q := f h g g2 g3

theorem info2 : (Try.prog.info? 2).map (fun i => (i.zero, i.size, i.bytes)) = some (some (.int .i64 0), 1, 8) := by kernel_rfl
theorem info3 : (Try.prog.info? 3).map (fun i => (i.zero, i.size, i.bytes)) = some (some (.int .i64 0), 1, 8) := by kernel_rfl
-- the values' own types
def rd_L1 (xs : List (List Int)) (i : Int) : (List Int) := xs.getD i.toNat ([] : List Int)
theorem at_L1 {w : World} {A : Option Addr} {n : Nat} {xs : List (List Int)} (h : Kd.C (Kd.slice 3 (Kd.int .i64)) w A n xs) (i : Int) (h0 : 0 ≤ i) (h1 : i < n) : ∃ ad A0 c0, A = some ad ∧ w.cell? (ad.add i.toNat) = some (.slice A0 (rd_L1 xs i).length c0) ∧ (rd_L1 xs i).length ≤ c0 ∧ (Kd.int .i64).C w A0 (rd_L1 xs i).length (rd_L1 xs i) := by
  obtain ⟨ad, c, e, _, hK, hc0⟩ := Kd.C_get h ([] : List Int) i h0 h1
  have hc : ∀ j u, c[j]? = some u → w.cell? (ad.add (i.toNat * 1 + j)) = some u := hc0
  obtain ⟨A0, c0, rfl, l0, g0⟩ := hK
  exact ⟨ad, A0, c0, e, by have hq := hc 0 _ rfl; rwa [Nat.mul_one, Nat.add_zero] at hq, l0, g0⟩

/-! #### struct type 26 -/
structure S26 where
  f0 : (List Int)
  f1 : (List Int)
/-! ### words in few bytes -/
section
variable {md : Region.Mode} {ops : Array Oper} {T : Bool × List (List Nat × List Nat)} {l l' : Array Bool} {ds : List Nat} {i : Nat}
theorem ay_ (hT : rtab md ops = T) (h : anyT T l.toList l'.toList i = true := by kernel_rfl) : anyB md ops l l' i = true := any_of hT h
theorem on_ (hT : rtab md ops = T) (h : (readyT T.2 l.toList == [i] && l.toList.set i true == l'.toList) = true := by kernel_rfl) : readyB md ops l l' i = true := one_of hT h
theorem tw_ {B : List Nat} (hT : rtab md ops = T) (hB : waitsOk T.2 B = true) (h : takeW T B ds l.toList l'.toList i = true := by kernel_rfl) : takeB md ops ds l l' i = true := take_ofW hT hB h
end
theorem od_ {p : Prop} [Decidable p] (h : decide p = true := by first | (with_reducible assumption) | assumption) : p := of_decide_eq_true h
theorem am_ {p : Prop} (h : p) : Aside0 p := ⟨h⟩
theorem kr_ {α : Type} {a b : α} (h : a = b := by kernel_rfl) : a = b := h
theorem rs_ {α : Type} {a b : α} (h : a = b := by first | rfl | (simp; done) | (simp [*]; done)) : a = b := h
theorem ar_ {α : Type} {a b : α} (h : a = b := by ((try simp only [List.map_toArray, List.map_cons, List.map_nil]); first | done | rfl | (simp only [List.length_drop, List.length_take]; rfl))) : a = b := h
theorem bq_ {α β : Type} {y a : α} {f : α → Option β} {r : Option β} (hy : y = a) (H : (some a).bind f = r) : f y = r := by rw [hy]; exact (Option.bind_some _ _).symm.trans H
theorem nP_ {p q : Prop} (h : p) (f : p → q := by (intro h_; repeat (first | (with_reducible first | exact h_ | apply Kept.alloc | apply Kept.drewN | apply Kept.drew) | exact h_))) : q := f h

abbrev nb_ (k : Nat) (v : Value) : Prop := some k ≠ v.ownBlock
theorem ro_ {α : Type} {d : Kd α} {e n : Nat} {w w' : World} {ok ok' : Nat → Prop} {v : Value} {xs : List α} (h : d.R e w n ok v xs) (f : ∀ k, ok k → ok' k := by (intro k_ hk; (repeat' apply And.intro); all_goals first | exact trivial | exact hk | exact hk.2 | exact hk.1.1 | exact hk.1.2 | exact hk.1.1.2 | exact hk.1.2.1 | exact hk.1.2.2 | exact hk.1.1.1.2)) (g : d.R e w n ok' v xs → d.R e w' n ok' v xs := by (intro h_; (with_reducible repeat (first | apply Kd.R_alloc | apply Kd.R_drewN | apply Kd.R_drew)); exact h_)) : d.R e w' n ok' v xs := g (Kd.R_mono h f)
theorem nm_ {md : Region.Mode} {P : Program} {ops : Array Oper} {Q : Exit → Act → World → Prop} {S : World → Prop} {ds : List Nat} {fuel : Nat} {l : Array Bool} {a a' : Act} {w : World} (h : wpAnyLast P md ops Q S ds fuel l a' w) (ha : a = a' := by first | (simp only [putAll, Act.put, List.setIfInBounds_toArray, List.set_cons_zero, List.set_cons_succ]; done) | (simp only [putAll, Act.put, List.setIfInBounds_toArray, List.set_cons_zero, List.set_cons_succ]; rfl)) : wpAnyLast P md ops Q S ds fuel l a w := norm_ ha h

/-! ### more words in few bytes -/
abbrev m_ (a : Array Bool) (i : Nat) : Array Bool := a.setIfInBounds i true
theorem cz0_ {w : World} {g t : Nat} {a : Value} {l : List Value} (h : Aside0 (w.heap[g]? = some (.cells (List.toArray (a :: l)) t (0, 0)))) : w.cell? ⟨g, 0, none⟩ = some a := (blk_cell h.out 0).trans rfl
theorem cz1_ {w : World} {g t : Nat} {a b : Value} {l : List Value} (h : Aside0 (w.heap[g]? = some (.cells (List.toArray (a :: b :: l)) t (0, 0)))) : w.cell? ⟨g, 1, none⟩ = some b := (blk_cell h.out 1).trans rfl
theorem dw_ {p : Prop} (h : p := by first | exact ⟨rfl, _, World.drewN_drewN _ _ _⟩ | exact ⟨rfl, _, Eq.trans (World.drewN_drewN _ _ _) (congrArg (World.drewN _) (Nat.add_assoc _ _ _))⟩) : p := h
theorem nA_ {p q : Prop} (h : p) (f : p → q := by (intro h_; repeat (first | (with_reducible first | exact h_ | apply below_alloc | apply pw_below_drewN | apply below_drew1) | refine below_set ?_ (Aside0.out (by first | (with_reducible assumption) | assumption)) | exact h_))) : q := f h
theorem nAI_ {p p1 q : Prop} (h : p) (g : p1) (f : p → p1 → q := by (intro h_ g_; repeat (first | (with_reducible first | exact h_ | apply below_alloc | apply pw_below_drewN | apply below_drew1) | refine below_set ?_ g_ | refine below_set ?_ (Aside0.out (by first | (with_reducible assumption) | assumption)) | exact h_))) : q := f h g
theorem nQ_ {p q : Prop} (h : p) (f : p → q := by (intro h_; repeat (first | (with_reducible first | exact h_ | apply KeepBut.set_ | apply keep_drewN | apply keep_drew | apply keep_alloc) | exact h_))) : q := f h
theorem er_ {α : Type} {a b : α} (h : a = b := by first | rfl | (simp [errW_none, errW_some] <;> rfl) | (simp [*, errW_none, errW_some] <;> rfl)) : a = b := h
theorem nl_ {p : Prop} (h : p := by first | exact Kd.R_nil _ _ _ _ _ | exact Kd.N_nil _ _ _ _ _ | exact Kd.V_nil _ _ _ _ _ | exact Kd.Q_nil _ _ _ _ _ | exact Kd.S_nil _ _ _ _ _) : p := h
theorem nF1_ {p p1 q : Prop} (h : p) (g1 : p1) (f : p → p1 → q := by (intro h_ g1_; repeat (first | (with_reducible first | exact h_ | refine blk_drewN ?_ _ | refine blk_drew ?_ | refine blk_alloc ?_ _) | refine blk_far ?_ g1_ _ | exact h_))) : q := f h g1
end Go.Proofs.Ytapoeleiicnlbaa.Q
