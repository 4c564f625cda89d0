/- TensorNumbers: at each of the shapes, axes and places that the closed sentence names, the two texts tell the same. -/
import Derived.Test.YthkcceknccdmpaaLaw2Same
import Derived.Test.YthkcceknccdmpaaQx18
namespace Go.Proofs.Ythkcceknccdmpaa.Pure
open Go.RowKit Go.Proofs.YthkcceknccdmpaaW.PrintWords Go.Proofs.Ythkcceknccdmpaa.Q Go.Proofs.Ythkcceknccdmpaa.Plain

theorem sPlace_fits (s : List Int) (i : Int) (h : Fits s) : Fits (sPlace s i) := by
  unfold Fits sPlace
  by_cases hi : i < 0 ∨ sSize s ≤ i
  · rw [if_pos hi]; decide
  · rw [if_neg hi, plc_length]; exact h

theorem n_l2 (s d : List Int) (x : Int) (zs : List (List Int)) (o r : Int) (hs : Fits s) (hd : Fits d)
    (h1 : Ev (fun k => parquetrylaw2_TensorNumbers.l1 k s (wrap64 (x + 1)) zs o r) true) (n : Nat) : ∀ i : Int, -1 ≤ i → (17 - i).toNat ≤ n →
    Ev (fun k => parquetrylaw2_TensorNumbers.l2 k s x i zs o r s d) true := by
  have hs' := hs
  unfold Fits at hs'
  induction n with
  | zero =>
    intro i _ hn
    refine Ev.step (fun k => ?_) h1
    simp only [parquetrylaw2_TensorNumbers.l2]
    rw [if_neg (by omega)]
  | succ n ih =>
    intro i h0 hn
    by_cases hi : i < 17
    · have hw : wrap64 (i + 1) = i + 1 := w64 (by omega) (by omega)
      refine Ev.step (f := fun k => (parquetryref1_Place.f k s i).bind fun t => (parquetrylaw2_same.f k s d s i x t).bind fun t2 => if t2 = true then ((parquetrylaw2_same.f k s (List.replicate (i + 1).toNat 0) s 5 x [i]).bind fun t3 => if t3 = true then parquetrylaw2_TensorNumbers.l2 k s x (i + 1) zs o r s d else none) else none) (fun k => ?_) ?_
      · simp only [parquetrylaw2_TensorNumbers.l2]
        rw [if_pos hi, hw, if_pos (show 0 ≤ i + 1 by omega), if_pos (show (i + 1).toNat ≤ 35184372088832 by omega)]
      · refine Ev.bind (ref_Place_ev s i (by omega)) (Ev.bind (law2_f s d s i x _ hs hd hs) ?_)
        refine Ev.congr (fun k => by rw [if_pos rfl]) (Ev.bind (law2_f s _ s 5 x [i] hs (by unfold Fits; simp; omega) hs) ?_)
        exact Ev.congr (fun k => by rw [if_pos rfl]) (ih (i + 1) (by omega) (by omega))
    · refine Ev.step (fun k => ?_) h1
      simp only [parquetrylaw2_TensorNumbers.l2]
      rw [if_neg hi]

theorem n_l1 (s : List Int) (zs : List (List Int)) (o r : Int) (hs : Fits s) (h1 : Ev (fun k => parquetrylaw2_TensorNumbers.l0 k zs o (wrap64 (r + 1))) true) (n : Nat) : ∀ i : Int, -1 ≤ i → (5 - i).toNat ≤ n →
    Ev (fun k => parquetrylaw2_TensorNumbers.l1 k s i zs o r) true := by
  have hs' := hs
  unfold Fits at hs'
  have hz := size_range s
  induction n with
  | zero =>
    intro i _ hn
    refine Ev.step (fun k => ?_) h1
    simp only [parquetrylaw2_TensorNumbers.l1]
    rw [if_neg (by omega)]
  | succ n ih =>
    intro i h0 hn
    by_cases hi : i < 5
    · have hw : wrap64 (i + 1) = i + 1 := w64 (by omega) (by omega)
      refine Ev.step (f := fun k => (parquetryref1_Fill.f k s 7).bind fun bt => parquetrylaw2_TensorNumbers.l2 k s i (-1) zs o r bt.1 bt.2) (fun k => ?_) ?_
      · simp only [parquetrylaw2_TensorNumbers.l1]
        rw [if_pos hi]
      · exact Ev.bind (ref_Fill_ev s 7 hs') (n_l2 s _ i zs o r hs (by unfold Fits; simp; omega) (by rw [hw]; exact ih (i + 1) (by omega) (by omega)) 18 (-1) (by omega) (by omega))
    · refine Ev.step (fun k => ?_) h1
      simp only [parquetrylaw2_TensorNumbers.l1]
      rw [if_neg hi]

theorem rd_fits (zs : List (List Int)) (hz : ∀ z ∈ zs, z.length ≤ 5) (i : Int) : Fits (rd_L1 zs i) := by
  unfold Fits rd_L1
  by_cases h : i.toNat < zs.length
  · have := hz (zs[i.toNat]) (List.getElem_mem h)
    simp only [List.getD_eq_getElem?_getD, List.getElem?_eq_getElem h, Option.getD_some]
    omega
  · simp only [List.getD_eq_getElem?_getD, List.getElem?_eq_none (by omega : zs.length ≤ i.toNat), Option.getD_none]
    decide

theorem n_l0 (zs : List (List Int)) (hz : ∀ z ∈ zs, z.length ≤ 5) (hl : zs.length ≤ 100) (n : Nat) : ∀ i : Int, 0 ≤ i → ((zs.length : Int) - i).toNat ≤ n →
    Ev (fun k => parquetrylaw2_TensorNumbers.l0 k zs (zs.length : Int) i) true := by
  induction n with
  | zero =>
    intro i _ hn
    refine Ev.step (fun k => ?_) law2_end
    simp only [parquetrylaw2_TensorNumbers.l0]
    rw [if_neg (by omega)]
  | succ n ih =>
    intro i h0 hn
    by_cases hi : i < (zs.length : Int)
    · refine Ev.step (fun k => ?_) (n_l1 (rd_L1 zs i) zs (zs.length : Int) i (rd_fits zs hz i) (by rw [w64 (by omega) (by omega)]; exact ih (i + 1) (by omega) (by omega)) 6 (-1) (by omega) (by omega))
      simp only [parquetrylaw2_TensorNumbers.l0]
      rw [if_pos hi, if_pos h0, if_pos hi]
    · refine Ev.step (fun k => ?_) law2_end
      simp only [parquetrylaw2_TensorNumbers.l0]
      rw [if_neg hi]

theorem TensorNumbers : parquetrylaw2_TensorNumbers.Pure := by
  refine Ev.rounds (g := fun k => parquetrylaw2_TensorNumbers.f k) ?_
  refine Ev.congr (fun k => ?_) (n_l0 [[], [3], [2, 3], [0], [2, 0, 3], [2, 2, 2, 2], [33], [32, 32, 5], [-1], [1, 1, 1, 1, 1]] (by simp) (by simp) 10 0 (by omega) (by simp))
  unfold parquetrylaw2_TensorNumbers.f
  simp only [Option.bind_some]

end Go.Proofs.Ythkcceknccdmpaa.Pure
