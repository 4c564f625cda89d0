/- ShapeNumbers: at each of the shapes, places and numbers that the closed sentence names, the two texts tell the same. -/
import Derived.Test.YthkcceknccdmpaaLaw1
import Derived.Test.YthkcceknccdmpaaQx5
namespace Go.Proofs.Ythkcceknccdmpaa.Pure
open Go.RowKit Go.Proofs.YthkcceknccdmpaaW.PrintWords Go.Proofs.Ythkcceknccdmpaa.Q Go.Proofs.Ythkcceknccdmpaa.Plain

theorem n_l4 (i : Int) (h0 : -2 ≤ i) : Ev (fun k => parquetrylaw1_ShapeNumbers.l4 k [3, 2, 4] i) true := by
  refine Ev.up (g := fun i k => parquetrylaw1_ShapeNumbers.l4 k [3, 2, 4] (if i < -2 then -2 else i)) 27 (fun i hi h => ?_) (fun i hi => ?_) i |> fun h => Ev.congr (fun k => by rw [if_neg (by omega)]) h
  · by_cases hn : i < -2
    · refine Ev.congr (fun k => ?_) h
      rw [if_pos hn]
      by_cases hn2 : i + 1 < -2
      · rw [if_pos hn2]
      · rw [if_neg hn2]
        congr 1
        omega
    · refine Ev.congr (f := fun k => parquetrylaw1_ShapeNumbers.l4 k [3, 2, 4] i) (fun k => by rw [if_neg hn]) ?_
      refine Ev.step (f := fun k => (parquetryref1_Place.f k [3, 2, 4] i).bind fun t => (parquetrylaw1_same.f k [3, 2, 4] t i).bind fun t2 => if t2 = true then parquetrylaw1_ShapeNumbers.l4 k [3, 2, 4] (wrap64 (i + 1)) else some false) (fun k => ?_) ?_
      · simp only [parquetrylaw1_ShapeNumbers.l4]
        rw [if_pos hi]
      · refine Ev.bind (ref_Place_ev _ i (by decide)) (Ev.bind (law1_same _ _ i (by decide)) ?_)
        refine Ev.congr (fun k => ?_) h
        rw [if_pos rfl, if_neg (by omega), w64 (by omega) (by omega)]
  · refine Ev.congr (f := fun k => parquetrylaw1_ShapeNumbers.l4 k [3, 2, 4] i) (fun k => by rw [if_neg (by omega)]) ?_
    refine Ev.step (f := fun k => (parquetrylaw1_same.f k [0, 5] [0, 0] 0).bind fun t => if t = true then ((parquetrylaw1_same.f k [16, 16, 16] [15, 15, 15] 4095).bind fun t2 => if t2 = true then ((parquetrylaw1_known.f k).bind fun t3 => some t3) else some false) else some false) (fun k => ?_) ?_
    · simp only [parquetrylaw1_ShapeNumbers.l4]
      rw [if_neg (by omega)]
    · refine Ev.bind (law1_same _ _ _ (by decide)) ?_
      refine Ev.congr (fun k => by rw [if_pos rfl]) ?_
      refine Ev.bind (law1_same _ _ _ (by decide)) ?_
      refine Ev.congr (fun k => by rw [if_pos rfl]) ?_
      exact Ev.bind law1_known (Ev.now _)

theorem n_l3 (a : Int) (s xs : List Int) (n p : Int) (ys : List Int) (m q : Int) (zs : List (List Int)) (o r : Int) (hs : s.length < 9223372036854775807)
    (h2 : Ev (fun k => parquetrylaw1_ShapeNumbers.l2 k a xs n p ys m q zs o (wrap64 (r + 1))) true) (i : Int) (h0 : -1 ≤ i) :
    Ev (fun k => parquetrylaw1_ShapeNumbers.l3 k a s i xs n p ys m q zs o r) true := by
  have key : ∀ (d : Nat) (i : Int), -1 ≤ i → (20 - i).toNat ≤ d → Ev (fun k => parquetrylaw1_ShapeNumbers.l3 k a s i xs n p ys m q zs o r) true := by
    intro d
    induction d with
    | zero =>
      intro i _ hd
      refine Ev.step (fun k => ?_) h2
      simp only [parquetrylaw1_ShapeNumbers.l3]
      rw [if_neg (by omega)]
    | succ d ih =>
      intro i h0 hd
      by_cases hlt : i < 20
      · have hw : wrap64 (i + 1) = i + 1 := w64 (by omega) (by omega)
        have hm : Int.tmod (i + 1) 4 = (i + 1) % 4 := Int.tmod_eq_emod_of_nonneg (by omega)
        refine Ev.step (f := fun k => (parquetrylaw1_same.f k s ([Go.bits .and .i64 i 3, Go.bits .and .i64 i 1, Go.bits .and .i64 i 7].take ((i + 1) % 4).toNat) i).bind fun t => if t = true then parquetrylaw1_ShapeNumbers.l3 k a s (i + 1) xs n p ys m q zs o r else some false) (fun k => ?_) ?_
        · simp only [parquetrylaw1_ShapeNumbers.l3]
          rw [if_pos hlt]
          simp only [Option.bind_some]
          rw [hw, hm, if_pos (by omega), if_pos (by simp only [List.length_cons, List.length_nil]; omega)]
        · refine Ev.bind (law1_same _ _ _ hs) ?_
          exact Ev.congr (fun k => by rw [if_pos rfl]) (ih (i + 1) (by omega) (by omega))
      · refine Ev.step (fun k => ?_) h2
        simp only [parquetrylaw1_ShapeNumbers.l3]
        rw [if_neg hlt]
  exact key _ i h0 (Nat.le_refl _)

theorem rd_len (zs : List (List Int)) (hz : ∀ z ∈ zs, z.length ≤ 5) (i : Int) : (rd_L1 zs i).length < 9223372036854775807 := by
  unfold rd_L1
  by_cases h : i.toNat < zs.length
  · have := hz (zs[i.toNat]) (List.getElem_mem h)
    simp only [List.getD_eq_getElem?_getD, List.getElem?_eq_getElem h, Option.getD_some]
    omega
  · simp only [List.getD_eq_getElem?_getD, List.getElem?_eq_none (by omega : zs.length ≤ i.toNat), Option.getD_none]
    decide

theorem n_l2 (a : Int) (xs : List Int) (n p : Int) (ys : List Int) (m q : Int) (zs : List (List Int)) (hz : ∀ z ∈ zs, z.length ≤ 5) (hl : zs.length ≤ 7)
    (h1 : Ev (fun k => parquetrylaw1_ShapeNumbers.l1 k a xs n p ys m (wrap64 (q + 1))) true) (i : Int) (h0 : 0 ≤ i) :
    Ev (fun k => parquetrylaw1_ShapeNumbers.l2 k a xs n p ys m q zs (zs.length : Int) i) true := by
  have key : ∀ (d : Nat) (i : Int), 0 ≤ i → ((zs.length : Int) - i).toNat ≤ d → Ev (fun k => parquetrylaw1_ShapeNumbers.l2 k a xs n p ys m q zs (zs.length : Int) i) true := by
    intro d
    induction d with
    | zero =>
      intro i _ hd
      refine Ev.step (fun k => ?_) h1
      simp only [parquetrylaw1_ShapeNumbers.l2]
      rw [if_neg (by omega)]
    | succ d ih =>
      intro i h0 hd
      by_cases hlt : i < (zs.length : Int)
      · refine Ev.step (fun k => ?_) (n_l3 a (rd_L1 zs i) xs n p ys m q zs (zs.length : Int) i (rd_len zs hz i) (by rw [w64 (by omega) (by omega)]; exact ih (i + 1) (by omega) (by omega)) (-1) (by omega))
        simp only [parquetrylaw1_ShapeNumbers.l2]
        rw [if_pos hlt, if_pos h0, if_pos hlt]
      · refine Ev.step (fun k => ?_) h1
        simp only [parquetrylaw1_ShapeNumbers.l2]
        rw [if_neg hlt]
  exact key _ i h0 (Nat.le_refl _)

theorem n_l1 (a : Int) (xs : List Int) (n p : Int) (ys : List Int) (hl : ys.length ≤ 7)
    (h1 : Ev (fun k => parquetrylaw1_ShapeNumbers.l0 k xs n (wrap64 (p + 1))) true) (i : Int) (h0 : 0 ≤ i) :
    Ev (fun k => parquetrylaw1_ShapeNumbers.l1 k a xs n p ys (ys.length : Int) i) true := by
  have key : ∀ (d : Nat) (i : Int), 0 ≤ i → ((ys.length : Int) - i).toNat ≤ d → Ev (fun k => parquetrylaw1_ShapeNumbers.l1 k a xs n p ys (ys.length : Int) i) true := by
    intro d
    induction d with
    | zero =>
      intro i _ hd
      refine Ev.step (fun k => ?_) h1
      simp only [parquetrylaw1_ShapeNumbers.l1]
      rw [if_neg (by omega)]
    | succ d ih =>
      intro i h0 hd
      by_cases hlt : i < (ys.length : Int)
      · refine Ev.step (fun k => ?_) (n_l2 a xs n p ys (ys.length : Int) i [[], [a], [a, rd ys i], [rd ys i, a, 4], [a, rd ys i, a, rd ys i], [rd ys i, rd ys i, rd ys i, 4, 1], [1, 1, 1, 1, a]] (by simp) (by simp) (by rw [w64 (by omega) (by omega)]; exact ih (i + 1) (by omega) (by omega)) 0 (by omega))
        simp only [parquetrylaw1_ShapeNumbers.l1]
        rw [if_pos hlt, if_pos h0, if_pos hlt]
        simp only [Option.bind_some]
      · refine Ev.step (fun k => ?_) h1
        simp only [parquetrylaw1_ShapeNumbers.l1]
        rw [if_neg hlt]
  exact key _ i h0 (Nat.le_refl _)

theorem n_l0 (xs : List Int) (hl : xs.length ≤ 8) (i : Int) (h0 : 0 ≤ i) : Ev (fun k => parquetrylaw1_ShapeNumbers.l0 k xs (xs.length : Int) i) true := by
  have key : ∀ (d : Nat) (i : Int), 0 ≤ i → ((xs.length : Int) - i).toNat ≤ d → Ev (fun k => parquetrylaw1_ShapeNumbers.l0 k xs (xs.length : Int) i) true := by
    intro d
    induction d with
    | zero =>
      intro i _ hd
      refine Ev.step (fun k => ?_) (n_l4 (-2) (by omega))
      simp only [parquetrylaw1_ShapeNumbers.l0]
      rw [if_neg (by omega)]
    | succ d ih =>
      intro i h0 hd
      by_cases hlt : i < (xs.length : Int)
      · refine Ev.step (fun k => ?_) (n_l1 (rd xs i) xs (xs.length : Int) i [0, 1, 3, 32, -5] (by simp) (by rw [w64 (by omega) (by omega)]; exact ih (i + 1) (by omega) (by omega)) 0 (by omega))
        simp only [parquetrylaw1_ShapeNumbers.l0]
        rw [if_pos hlt, if_pos h0, if_pos hlt]
        simp only [Option.bind_some]
      · refine Ev.step (fun k => ?_) (n_l4 (-2) (by omega))
        simp only [parquetrylaw1_ShapeNumbers.l0]
        rw [if_neg hlt]
  exact key _ i h0 (Nat.le_refl _)

theorem ShapeNumbers : parquetrylaw1_ShapeNumbers.Pure := by
  refine Ev.rounds (g := fun k => parquetrylaw1_ShapeNumbers.f k) ?_
  refine Ev.congr (fun k => ?_) (n_l0 [-1, 0, 1, 2, 16, 32, 33, 1099511627776] (by simp) 0 (by omega))
  unfold parquetrylaw1_ShapeNumbers.f
  simp only [Option.bind_some]

end Go.Proofs.Ythkcceknccdmpaa.Pure
