/- ShapeTells: for any tape, any list, any place, any number, the two texts tell the same of shapes and places. -/
import Derived.Test.YthkcceknccdmpaaLaw1
import Derived.Test.YthkcceknccdmpaaTape
import Derived.Test.YthkcceknccdmpaaQx7
namespace Go.Proofs.Ythkcceknccdmpaa.Pure
open Go.RowKit Go.Proofs.YthkcceknccdmpaaW.PrintWords Go.Proofs.Ythkcceknccdmpaa.Q Go.Proofs.Ythkcceknccdmpaa.Plain

theorem t_l0 (s1 l1 : List Int) (i1 : Int) (s0 : List Int) (hs1 : s1.length < 9223372036854775807) (hs0 : SmallShape s0) (post : List Int) :
    ∀ (pre p : List Int) (l : List Int) (a : Int), TapeOk l a → s0 = pre ++ post → p.length = pre.length →
    Ev (fun k => parquetrylaw1_ShapeTells.l0 k s1 l1 i1 s0 p s0 (s0.length : Int) (pre.length : Int) l a) true := by
  have hl0 := hs0.1
  induction post with
  | nil =>
    intro pre p l a ht he hp
    refine Ev.step (f := fun k => (parquetrylaw1_same.f k s0 p (Go.bits .and .i64 i1 63)).bind fun t => if t = true then ((parquetrylaw1_same.f k s1 l1 i1).bind fun t2 => if t2 = true then ((parquetrylaw1_same.f k s0 l1 i1).bind fun t3 => if t3 = true then ((parquetrylaw1_known.f k).bind fun t4 => some t4) else some false) else some false) else some false) (fun k => ?_) ?_
    · simp only [parquetrylaw1_ShapeTells.l0]
      rw [if_neg (by rw [he]; simp)]
    · refine Ev.bind (law1_same _ _ _ (by omega)) ?_
      refine Ev.congr (fun k => by rw [if_pos rfl]) ?_
      refine Ev.bind (law1_same _ _ _ (by omega)) ?_
      refine Ev.congr (fun k => by rw [if_pos rfl]) ?_
      refine Ev.bind (law1_same _ _ _ (by omega)) ?_
      refine Ev.congr (fun k => by rw [if_pos rfl]) ?_
      exact Ev.bind law1_known (Ev.now _)
  | cons x xs ih =>
    intro pre p l a ht he hp
    have hlen := len_mid pre x xs
    have hx := hs0.2 x (by rw [he]; simp)
    have hrd : rd s0 (pre.length : Int) = x := by rw [he]; exact rd_mid pre x xs
    obtain ⟨r, b, hr, hb, _⟩ := next_ev ht (x + 1) (by omega)
    have := ih (pre ++ [x]) (p ++ [r]) l b hb (by rw [he]; simp) (by simp [hp])
    have hll : (s0.length : Int) = (pre.length : Int) + 1 + xs.length := by rw [he]; exact hlen
    refine Ev.step (f := fun k => (parquetrykeep_Tape_Next.f k l a (x + 1)).bind fun bt => (parquetrylaw1_ShapeTells.l0 k s1 l1 i1 s0 (p ++ [bt.1]) s0 (s0.length : Int) ((pre ++ [x]).length : Int) l bt.2)) (fun k => ?_) ?_
    · simp only [parquetrylaw1_ShapeTells.l0]
      rw [if_pos (by omega), if_pos (by omega), if_pos (by omega), hrd, w64 (n := x + 1) (by omega) (by omega), wsucc _ (by omega)]
      congr 1
      funext bt
      rw [if_pos (by omega)]
      simp
    · exact Ev.bind hr this

theorem ShapeTells : parquetrylaw1_ShapeTells.Pure := by
  intro l0 l1 l2 i hm0 h0 hw0 hm1 h1 hw1 hm2 h2 hw2 hi
  refine Ev.rounds (g := fun k => parquetrylaw1_ShapeTells.f k l0 l1 l2 i) ?_
  obtain ⟨s, b, hs, hb, hsm⟩ := tape_Shape_ev (tape_of h0 hw0)
  unfold parquetrylaw1_ShapeTells.f
  refine Ev.bind hs ?_
  exact t_l0 l1 l2 i s (by omega) hsm s [] [] l0 b hb (by simp) rfl

end Go.Proofs.Ythkcceknccdmpaa.Pure
