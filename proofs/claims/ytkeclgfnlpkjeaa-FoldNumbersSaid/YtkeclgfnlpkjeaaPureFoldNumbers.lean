/- FoldNumbers: at each of the tensors, ways and axes that the closed sentence names, the two texts tell the same. -/
import Derived.Test.YtkeclgfnlpkjeaaLaw6
import Derived.Test.YtkeclgfnlpkjeaaLoops
import Derived.Test.YtkeclgfnlpkjeaaQx22
namespace Go.Proofs.Ytkeclgfnlpkjeaa.Pure
open Go.RowKit Go.Proofs.YtkeclgfnlpkjeaaW.PrintWords Go.Proofs.Ytkeclgfnlpkjeaa.Q Go.Proofs.Ytkeclgfnlpkjeaa.Plain

theorem n_l5 (how x : Int) (xs : List Int) (n p : Int) (ys : List Int) (hl : ys.length ≤ 100) (h4 : Ev (fun k => parquetrylaw6_FoldNumbers.l4 k how xs n (wrap64 (p + 1))) true) :
    ∀ i : Int, 0 ≤ i → Ev (fun k => parquetrylaw6_FoldNumbers.l5 k how x xs n p ys (ys.length : Int) i) true := by
  refine Ev.upto (g := fun i k => parquetrylaw6_FoldNumbers.l5 k how x xs n p ys (ys.length : Int) i) 0 (ys.length : Int) (fun i hi => Ev.step (fun k => ?_) h4) (fun i h0 hi h => Ev.step (fun k => ?_) h)
  · simp only [parquetrylaw6_FoldNumbers.l5]
    rw [if_neg (by omega)]
  · simp only [parquetrylaw6_FoldNumbers.l5]
    rw [if_pos hi, if_pos h0, if_pos hi, w64 (n := i + 1) (by omega) (by omega)]
    simp only [fold_Step_is, ref_Put_is, Option.bind_some, if_true]

theorem n_l4 (how : Int) (xs : List Int) (hl : xs.length ≤ 100) (h0' : Ev (fun k => parquetrylaw6_FoldNumbers.l0 k (wrap64 (how + 1))) true) :
    ∀ i : Int, 0 ≤ i → Ev (fun k => parquetrylaw6_FoldNumbers.l4 k how xs (xs.length : Int) i) true := by
  refine Ev.upto (g := fun i k => parquetrylaw6_FoldNumbers.l4 k how xs (xs.length : Int) i) 0 (xs.length : Int) (fun i hi => Ev.step (fun k => ?_) h0') (fun i h0 hi h => Ev.step (fun k => ?_) (n_l5 how (rd xs i) xs (xs.length : Int) i [0, 3, (-9), 4611686018427387904, (-9223372036854775808), 9223372036854775807] (by simp) (by rw [w64 (n := i + 1) (by omega) (by omega)]; exact h) 0 (by omega)))
  · simp only [parquetrylaw6_FoldNumbers.l4]
    rw [if_neg (by omega)]
  · simp only [parquetrylaw6_FoldNumbers.l4]
    rw [if_pos hi, if_pos h0, if_pos hi]
    simp only [Option.bind_some]

theorem n_l3 (how : Int) (zs : List (List Int)) (o p : Int) (ws : List (List Int)) (s d : List Int) (hs : s.length ≤ 100) (hw : ∀ z ∈ ws, z.length ≤ 100) (hl : ws.length ≤ 100) (h1 : Ev (fun k => parquetrylaw6_FoldNumbers.l1 k how zs o (wrap64 (p + 1))) true) :
    ∀ i : Int, 0 ≤ i → Ev (fun k => parquetrylaw6_FoldNumbers.l3 k how zs o p ws (ws.length : Int) i s d) true := by
  refine Ev.upto (g := fun i k => parquetrylaw6_FoldNumbers.l3 k how zs o p ws (ws.length : Int) i s d) 0 (ws.length : Int) (fun i hi => Ev.step (fun k => ?_) h1) (fun i h0 hi h => Ev.step (f := fun k => (parquetrylaw6_same.f k how s d (rd_L1 ws i)).bind fun t => if t = true then parquetrylaw6_FoldNumbers.l3 k how zs o p ws (ws.length : Int) (i + 1) s d else none) (fun k => ?_) ?_)
  · simp only [parquetrylaw6_FoldNumbers.l3]
    rw [if_neg (by omega)]
  · simp only [parquetrylaw6_FoldNumbers.l3]
    rw [if_pos hi, if_pos h0, if_pos hi, w64 (n := i + 1) (by omega) (by omega)]
  · have := rd_short ws 100 hw i
    exact Ev.bind (law6_same how s d _ (by omega) (by omega)) (Ev.congr (fun k => by rw [if_pos rfl]) h)

theorem n_l2 (how : Int) (zs : List (List Int)) (o p : Int) (s : List Int) (n : Nat) (hn : n ≤ 4096) (hs : s.length ≤ 100) (h1 : Ev (fun k => parquetrylaw6_FoldNumbers.l1 k how zs o (wrap64 (p + 1))) true) (m : Nat) :
    ∀ (i : Nat) (d : List Int), d.length = n → i + m = n → Ev (fun k => parquetrylaw6_FoldNumbers.l2 k how zs o p (n : Int) (i : Int) s d) true := by
  induction m with
  | zero =>
    intro i d hd hi
    refine Ev.step (fun k => ?_) (n_l3 how zs o p [[], [0], [1], [0, 1], [2], [0, 2], [1, 2], [0, 1, 2], [1, 0], [0, 0], [-1], [3]] s d hs (by simp) (by simp) h1 0 (by omega))
    simp only [parquetrylaw6_FoldNumbers.l2]
    rw [if_neg (by omega)]
    simp only [Option.bind_some]
  | succ m ih =>
    intro i d hd hi
    have hm : Int.tmod (i : Int) 6 = (i : Int) % 6 := Int.tmod_eq_emod_of_nonneg (by omega)
    refine Ev.step (fun k => ?_) (ih (i + 1) (d.set i (rd [5, (-7), 4611686018427387904, 9223372036854775807, (-9223372036854775808), 0] ((i : Int) % 6))) (by simpa using hd) (by omega))
    simp only [parquetrylaw6_FoldNumbers.l2]
    rw [if_pos (by omega)]
    simp only [Option.bind_some, hm, List.length_cons, List.length_nil]
    rw [if_pos (by omega), if_pos (by omega), if_pos (by omega), if_pos (by omega), wsucc _ (by omega), Int.toNat_natCast]

theorem n_l1 (how : Int) (zs : List (List Int)) (hz : ∀ z ∈ zs, z.length ≤ 5) (hl : zs.length ≤ 100) (h0' : Ev (fun k => parquetrylaw6_FoldNumbers.l0 k (wrap64 (how + 1))) true) :
    ∀ i : Int, 0 ≤ i → Ev (fun k => parquetrylaw6_FoldNumbers.l1 k how zs (zs.length : Int) i) true := by
  refine Ev.upto (g := fun i k => parquetrylaw6_FoldNumbers.l1 k how zs (zs.length : Int) i) 0 (zs.length : Int) (fun i hi => Ev.step (fun k => ?_) (n_l4 how [0, 1, (-1), 4611686018427387904, (-9223372036854775808), 9223372036854775807] (by simp) h0' 0 (by omega))) (fun i h0 hi h => Ev.step (f := fun k => (parquetryref1_Fill.f k (rd_L1 zs i) 0).bind fun bt => parquetrylaw6_FoldNumbers.l2 k how zs (zs.length : Int) i (bt.2.length : Int) 0 bt.1 bt.2) (fun k => ?_) ?_)
  · simp only [parquetrylaw6_FoldNumbers.l1]
    rw [if_neg (by omega)]
    simp only [Option.bind_some]
  · simp only [parquetrylaw6_FoldNumbers.l1]
    rw [if_pos hi, if_pos h0, if_pos hi]
  · have hs := rd_short zs 5 hz i
    have hsz := size_range (rd_L1 zs i)
    refine Ev.bind (ref_Fill_ev _ 0 (by omega)) ?_
    exact n_l2 how zs (zs.length : Int) i (rd_L1 zs i) (List.replicate (sSize (rd_L1 zs i)).toNat (0 : Int)).length (by simp; omega) (by omega) (by rw [w64 (n := i + 1) (by omega) (by omega)]; exact h) _ 0 _ rfl (by simp; rfl)

theorem FoldNumbers : parquetrylaw6_FoldNumbers.Pure := by
  refine Ev.rounds (g := fun k => parquetrylaw6_FoldNumbers.f k) ?_
  unfold parquetrylaw6_FoldNumbers.f
  refine Ev.upto (g := fun i k => parquetrylaw6_FoldNumbers.l0 k i) (-1) 7 (fun i hi => Ev.step (f := fun k => (parquetrylaw6_same.f k 1 [2] [] []).bind fun t => if t = true then ((parquetrylaw6_known.f k).bind fun t => if t = true then some true else none) else none) (fun k => ?_) ?_) (fun i h0 hi h => Ev.step (fun k => ?_) (n_l1 i [[], [4], [2, 3], [0, 2], [2, 2, 2]] (by simp) (by simp) (by rw [w64 (n := i + 1) (by omega) (by omega)]; exact h) 0 (by omega))) (-1) (by omega)
  · simp only [parquetrylaw6_FoldNumbers.l0]
    rw [if_neg (by omega)]
  · exact Ev.bind (law6_same 1 [2] [] [] (by decide) (by decide)) (Ev.congr (fun k => by rw [if_pos rfl]) law6_end)
  · simp only [parquetrylaw6_FoldNumbers.l0]
    rw [if_pos hi]
    simp only [Option.bind_some]

end Go.Proofs.Ytkeclgfnlpkjeaa.Pure
