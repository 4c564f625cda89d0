/- WindowNumbers: windows of each width and distance, along each axis, at bounds: the two texts tell the same. -/
import Derived.Test.YtkeclgfnlpkjeaaLaw8
import Derived.Test.YtkeclgfnlpkjeaaLoops
import Derived.Test.YtkeclgfnlpkjeaaQx19
namespace Go.Proofs.Ytkeclgfnlpkjeaa.Pure
open Go.RowKit Go.Proofs.YtkeclgfnlpkjeaaW.PrintWords Go.Proofs.Ytkeclgfnlpkjeaa.Q Go.Proofs.Ytkeclgfnlpkjeaa.Plain

theorem w_l7 (x y : Int) (zs : List (List Int)) (o p : Int) (ws : List Int) (n q : Int) (s d : List Int) (hs : s.length ≤ 100) (h6 : Ev (fun k => parquetrylaw8_WindowNumbers.l6 k x zs o p ws n (wrap64 (q + 1)) s d) true) :
    ∀ i : Int, 0 ≤ i → Ev (fun k => parquetrylaw8_WindowNumbers.l7 k x y i zs o p ws n q s d) true := by
  refine Ev.upto (g := fun i k => parquetrylaw8_WindowNumbers.l7 k x y i zs o p ws n q s d) 0 6 (fun i hi => Ev.step (fun k => ?_) h6) (fun i h0 hi h => Ev.step (f := fun k => (parquetrylaw8_same.f k i s d x y (wrap64 (1 + (Int.tmod i 3)))).bind fun t => if t = true then ((parquetrylaw8_same.f k i s d x 2 y).bind fun t2 => if t2 = true then parquetrylaw8_WindowNumbers.l7 k x y (i + 1) zs o p ws n q s d else none) else none) (fun k => ?_) ?_)
  · simp only [parquetrylaw8_WindowNumbers.l7]
    rw [if_neg (by omega)]
  · simp only [parquetrylaw8_WindowNumbers.l7]
    rw [if_pos hi, w64 (n := i + 1) (by omega) (by omega)]
  · refine Ev.bind (law8_same _ s d _ _ _ (by omega)) (Ev.congr (fun k => by rw [if_pos rfl]) ?_)
    exact Ev.bind (law8_same _ s d _ _ _ (by omega)) (Ev.congr (fun k => by rw [if_pos rfl]) h)

theorem w_l6 (x : Int) (zs : List (List Int)) (o p : Int) (ws : List Int) (hl : ws.length ≤ 100) (s d : List Int) (hs : s.length ≤ 100) (h5 : Ev (fun k => parquetrylaw8_WindowNumbers.l5 k (wrap64 (x + 1)) zs o p s d) true) :
    ∀ i : Int, 0 ≤ i → Ev (fun k => parquetrylaw8_WindowNumbers.l6 k x zs o p ws (ws.length : Int) i s d) true := by
  refine Ev.upto (g := fun i k => parquetrylaw8_WindowNumbers.l6 k x zs o p ws (ws.length : Int) i s d) 0 (ws.length : Int) (fun i hi => Ev.step (fun k => ?_) h5) (fun i h0 hi h => Ev.step (fun k => ?_) (w_l7 x (rd ws i) zs o p ws (ws.length : Int) i s d hs (by rw [w64 (n := i + 1) (by omega) (by omega)]; exact h) 0 (by omega)))
  · simp only [parquetrylaw8_WindowNumbers.l6]
    rw [if_neg (by omega)]
  · simp only [parquetrylaw8_WindowNumbers.l6]
    rw [if_pos hi, if_pos h0, if_pos hi]

theorem w_l5 (zs : List (List Int)) (o p : Int) (s d : List Int) (hs : s.length ≤ 100) (h3 : Ev (fun k => parquetrylaw8_WindowNumbers.l3 k zs o (wrap64 (p + 1))) true) :
    ∀ i : Int, -1 ≤ i → Ev (fun k => parquetrylaw8_WindowNumbers.l5 k i zs o p s d) true := by
  refine Ev.upto (g := fun i k => parquetrylaw8_WindowNumbers.l5 k i zs o p s d) (-1) 4 (fun i hi => Ev.step (fun k => ?_) h3) (fun i h0 hi h => Ev.step (fun k => ?_) (w_l6 i zs o p [0, 1, 2, 3, 5, 32, 33] (by simp) s d hs (by rw [w64 (n := i + 1) (by omega) (by omega)]; exact h) 0 (by omega)))
  · simp only [parquetrylaw8_WindowNumbers.l5]
    rw [if_neg (by omega)]
  · simp only [parquetrylaw8_WindowNumbers.l5]
    rw [if_pos hi]
    simp only [Option.bind_some]

theorem w_l4 (zs : List (List Int)) (o p : Int) (s : List Int) (n : Nat) (hn : n ≤ 4096) (hs : s.length ≤ 100) (h3 : Ev (fun k => parquetrylaw8_WindowNumbers.l3 k zs o (wrap64 (p + 1))) true) (m : Nat) :
    ∀ (i : Nat) (d : List Int), d.length = n → i + m = n → Ev (fun k => parquetrylaw8_WindowNumbers.l4 k zs o p (n : Int) (i : Int) s d) true := by
  induction m with
  | zero =>
    intro i d hd hi
    refine Ev.step (fun k => ?_) (w_l5 zs o p s d hs h3 (-1) (by omega))
    simp only [parquetrylaw8_WindowNumbers.l4]
    rw [if_neg (by omega)]
  | succ m ih =>
    intro i d hd hi
    refine Ev.step (fun k => ?_) (ih (i + 1) (d.set i (wrap64 ((wrap64 ((i : Int) * (i : Int))) - 9))) (by simpa using hd) (by omega))
    simp only [parquetrylaw8_WindowNumbers.l4]
    rw [if_pos (by omega), if_pos (by omega), if_pos (by omega), wsucc _ (by omega), Int.toNat_natCast]

theorem w_l3 (zs : List (List Int)) (hz : ∀ z ∈ zs, z.length ≤ 5) (hl : zs.length ≤ 100) : ∀ i : Int, 0 ≤ i → Ev (fun k => parquetrylaw8_WindowNumbers.l3 k zs (zs.length : Int) i) true := by
  refine Ev.upto (g := fun i k => parquetrylaw8_WindowNumbers.l3 k zs (zs.length : Int) i) 0 (zs.length : Int) (fun i hi => Ev.step (f := fun k => (parquetrylaw8_same.f k 1 [2] [] 0 1 1).bind fun t => if t = true then ((parquetrylaw8_known.f k).bind fun t => if t = true then some true else none) else none) (fun k => ?_) ?_) (fun i h0 hi h => Ev.step (f := fun k => (parquetryref1_Fill.f k (rd_L1 zs i) 0).bind fun bt => parquetrylaw8_WindowNumbers.l4 k zs (zs.length : Int) i (bt.2.length : Int) 0 bt.1 bt.2) (fun k => ?_) ?_)
  · simp only [parquetrylaw8_WindowNumbers.l3]
    rw [if_neg (by omega), window_Out_is, show outW 4611686018427387904 1 1 = 4611686018427387904 from by decide +kernel]
    simp only [Option.bind_some, if_true]
  · exact Ev.bind (law8_same 1 [2] [] 0 1 1 (by decide)) (Ev.congr (fun k => by rw [if_pos rfl]) law8_end)
  · simp only [parquetrylaw8_WindowNumbers.l3]
    rw [if_pos hi, if_pos h0, if_pos hi]
  · have hs := rd_short zs 5 hz i
    have hsz := size_range (rd_L1 zs i)
    refine Ev.bind (ref_Fill_ev _ 0 (by omega)) ?_
    exact w_l4 zs (zs.length : Int) i (rd_L1 zs i) (List.replicate (sSize (rd_L1 zs i)).toNat (0 : Int)).length (by simp; omega) (by omega) (by rw [w64 (n := i + 1) (by omega) (by omega)]; exact h) _ 0 _ rfl (by simp; rfl)

theorem w_l2 (x y : Int) (h1 : Ev (fun k => parquetrylaw8_WindowNumbers.l1 k x (wrap64 (y + 1))) true) : ∀ i : Int, -1 ≤ i → Ev (fun k => parquetrylaw8_WindowNumbers.l2 k x y i) true := by
  refine Ev.upto (g := fun i k => parquetrylaw8_WindowNumbers.l2 k x y i) (-1) 8 (fun i hi => Ev.step (fun k => ?_) h1) (fun i h0 hi h => Ev.step (fun k => ?_) h)
  · simp only [parquetrylaw8_WindowNumbers.l2]
    rw [if_neg (by omega)]
  · simp only [parquetrylaw8_WindowNumbers.l2]
    rw [if_pos hi, w64 (n := i + 1) (by omega) (by omega), window_Out_is, ref_Windows_is]
    simp only [Option.bind_some, if_true]

theorem w_l1 (x : Int) (h0' : Ev (fun k => parquetrylaw8_WindowNumbers.l0 k (wrap64 (x + 1))) true) : ∀ i : Int, -1 ≤ i → Ev (fun k => parquetrylaw8_WindowNumbers.l1 k x i) true := by
  refine Ev.upto (g := fun i k => parquetrylaw8_WindowNumbers.l1 k x i) (-1) 12 (fun i hi => Ev.step (fun k => ?_) h0') (fun i h0 hi h => Ev.step (fun k => ?_) (w_l2 x i (by rw [w64 (n := i + 1) (by omega) (by omega)]; exact h) (-1) (by omega)))
  · simp only [parquetrylaw8_WindowNumbers.l1]
    rw [if_neg (by omega)]
  · simp only [parquetrylaw8_WindowNumbers.l1]
    rw [if_pos hi]

theorem WindowNumbers : parquetrylaw8_WindowNumbers.Pure := by
  refine Ev.rounds (g := fun k => parquetrylaw8_WindowNumbers.f k) ?_
  unfold parquetrylaw8_WindowNumbers.f
  refine Ev.upto (g := fun i k => parquetrylaw8_WindowNumbers.l0 k i) (-1) 12 (fun i hi => Ev.step (fun k => ?_) (w_l3 [[], [5], [4, 3], [2, 6, 2], [0, 3]] (by simp) (by simp) 0 (by omega))) (fun i h0 hi h => Ev.step (fun k => ?_) (w_l1 i (by rw [w64 (n := i + 1) (by omega) (by omega)]; exact h) (-1) (by omega))) (-1) (by omega)
  · simp only [parquetrylaw8_WindowNumbers.l0]
    rw [if_neg (by omega)]
    simp only [Option.bind_some]
  · simp only [parquetrylaw8_WindowNumbers.l0]
    rw [if_pos hi]

end Go.Proofs.Ytkeclgfnlpkjeaa.Pure
