/- Tables in a row: their products are what dot.Do tells along a shared axis. -/
import Derived.Test.YtapoeleiicnlbaaTables
namespace Go.Proofs.Ytapoeleiicnlbaa.Plain
set_option linter.unusedVariables false
open Go.RowKit Go.Proofs.YtapoeleiicnlbaaW.PrintWords Go.Proofs.Ytapoeleiicnlbaa.Q

theorem rd_cutI (l : List Int) (lo hi q : Int) (h0 : 0 ≤ lo) (q0 : 0 ≤ q) (h1 : lo + q < hi) (h2 : hi ≤ (l.length : Int)) : rd ((l.take hi.toNat).drop lo.toNat) q = rd l (lo + q) := by
  obtain ⟨n, rfl⟩ := Int.eq_ofNat_of_zero_le h0
  obtain ⟨m, rfl⟩ := Int.eq_ofNat_of_zero_le q0
  rw [rd_nat _ m (by simp; omega), ← Int.natCast_add, rd_nat _ (n + m) (by omega)]
  simp
theorem len_cutI (l : List Int) (lo hi : Int) (h0 : 0 ≤ lo) (h1 : lo ≤ hi) (h2 : hi ≤ (l.length : Int)) : (((l.take hi.toNat).drop lo.toNat).length : Int) = hi - lo := by
  simp
  omega
theorem rd_takeI (l : List Int) (hi q : Int) (q0 : 0 ≤ q) (h1 : q < hi) (h2 : hi ≤ (l.length : Int)) : rd (l.take hi.toNat) q = rd l q := by
  obtain ⟨m, rfl⟩ := Int.eq_ofNat_of_zero_le q0
  rw [rd_nat _ m (by simp; omega), rd_nat _ m (by omega)]
  simp
theorem list_ext {d e : List Int} (n : Int) (hd : (d.length : Int) = n) (he : (e.length : Int) = n) (h : ∀ b : Nat, (b : Int) < n → rd d (b : Int) = rd e (b : Int)) : d = e := by
  refine List.ext_getElem (by omega) fun q h1 h2 => ?_
  rw [← rd_nat d q h1, ← rd_nat e q h2]
  exact h q (by omega)

/-! ### Three axes -/
theorem three_right {x y z : Int} (x0 : 1 ≤ x) (x1 : x ≤ 4) (y0 : 1 ≤ y) (y1 : y ≤ 4) (z0 : 1 ≤ z) (z1 : z ≤ 4) : sRight [x, y, z] = true ∧ sSize [x, y, z] = x * (y * z) := by
  have hr : sRight [x, y, z] = true := by
    refine sRight_iff.2 ⟨by simp, by simp only [List.all_cons, List.all_nil, Bool.and_true, Bool.and_eq_true]; exact ⟨okDim_iff.2 (by omega), okDim_iff.2 (by omega), okDim_iff.2 (by omega)⟩, ?_⟩
    simp only [prod, Int.mul_one]
    rcases in4 x0 x1 with rfl | rfl | rfl | rfl <;> rcases in4 y0 y1 with rfl | rfl | rfl | rfl <;> omega
  refine ⟨hr, ?_⟩
  unfold sSize; rw [if_pos hr]; simp [prod]
theorem three_index {x y z a b c : Int} (x0 : 1 ≤ x) (x1 : x ≤ 4) (y0 : 1 ≤ y) (y1 : y ≤ 4) (z0 : 1 ≤ z) (z1 : z ≤ 4) (a0 : 0 ≤ a) (a1 : a < x) (b0 : 0 ≤ b) (b1 : b < y) (c0 : 0 ≤ c) (c1 : c < z) : sIndex [x, y, z] [a, b, c] = (a * y + b) * z + c := by
  unfold sIndex
  rw [if_pos ⟨(three_right x0 x1 y0 y1 z0 z1).1, rfl⟩]
  simp only [idx]
  rw [if_neg (by omega), if_neg (by omega), if_neg (by omega)]
  simp
theorem three_plc {x y z : Int} (x0 : 1 ≤ x) (x1 : x ≤ 4) (y0 : 1 ≤ y) (y1 : y ≤ 4) (z0 : 1 ≤ z) (z1 : z ≤ 4) {a b c : Int} (a0 : 0 ≤ a) (a1 : a < x) (b0 : 0 ≤ b) (b1 : b < y) (c0 : 0 ≤ c) (c1 : c < z) : plc [x, y, z] ((a * y + b) * z + c) = [a, b, c] := by
  have h1 : ((a * y + b) * z + c) / (y * z) = a := by
    rcases in4 y0 y1 with rfl | rfl | rfl | rfl <;> rcases in4 z0 z1 with rfl | rfl | rfl | rfl <;> omega
  have h2 : ((a * y + b) * z + c) / z % y = b := by
    rcases in4 y0 y1 with rfl | rfl | rfl | rfl <;> rcases in4 z0 z1 with rfl | rfl | rfl | rfl <;> omega
  have h3 : ((a * y + b) * z + c) % z = c := by
    rcases in4 z0 z1 with rfl | rfl | rfl | rfl <;> omega
  simp only [plc, prod, Int.mul_one, Int.ediv_one]
  rw [h1, h2, h3, Int.emod_eq_of_lt a0 a1]
theorem three_lt {x y z a b c : Int} (x0 : 1 ≤ x) (x1 : x ≤ 4) (y0 : 1 ≤ y) (y1 : y ≤ 4) (z0 : 1 ≤ z) (z1 : z ≤ 4) (a0 : 0 ≤ a) (a1 : a < x) (b0 : 0 ≤ b) (b1 : b < y) (c0 : 0 ≤ c) (c1 : c < z) : 0 ≤ (a * y + b) * z + c ∧ (a * y + b) * z + c < x * (y * z) := by
  rcases in4 y0 y1 with rfl | rfl | rfl | rfl <;> rcases in4 z0 z1 with rfl | rfl | rfl | rfl <;> omega
theorem rd_three_made {x y z : Int} (x0 : 1 ≤ x) (x1 : x ≤ 4) (y0 : 1 ≤ y) (y1 : y ≤ 4) (z0 : 1 ≤ z) (z1 : z ≤ 4) (g : List Int → Int) {a b c : Int} (a0 : 0 ≤ a) (a1 : a < x) (b0 : 0 ≤ b) (b1 : b < y) (c0 : 0 ≤ c) (c1 : c < z) : rd (madeOf [x, y, z] g) ((a * y + b) * z + c) = g [a, b, c] := by
  have hs := (three_right x0 x1 y0 y1 z0 z1).2
  have hl := three_lt x0 x1 y0 y1 z0 z1 a0 a1 b0 b1 c0 c1
  obtain ⟨q, hq⟩ := Int.eq_ofNat_of_zero_le hl.1
  have := rd_made [x, y, z] g q (by rw [hs]; omega)
  rw [hq, this, ← hq, three_plc x0 x1 y0 y1 z0 z1 a0 a1 b0 b1 c0 c1]

/-! ### Products along a shared axis -/
theorem rows_shape {i j : Int} (i0 : 1 ≤ i) (i1 : i ≤ 4) (j0 : 1 ≤ j) (j1 : j ≤ 4) : dShape [i, 2, j] [i, j, 3] 1 = ([i, 2, 3], 0) := by
  unfold dShape
  have hf : dFits [i, 2, j] [i, j, 3] 1 = true := dFits_iff.2 ⟨(three_right i0 i1 (by omega) (by omega) j0 j1).1, (three_right i0 i1 j0 j1 (by omega) (by omega)).1, rfl, rfl⟩
  have hd : dRow [i, 2, j] [i, j, 3] 1 = [i, 2, 3] := rfl
  rw [if_neg (by simp), if_pos hf, hd, if_pos (three_right i0 i1 (by omega) (by omega) (by omega) (by omega)).1]
def bmul (i j : Int) (d e : List Int) : List Int := madeOf [i, 2, 3] (fun p => dotSum [i, 2, j] d [i, j, 3] e (p.take 2) (p.take 1) (p.drop 2) 0 j.toNat 0)
theorem bmul_length {i : Int} (i0 : 1 ≤ i) (i1 : i ≤ 4) (j : Int) (d e : List Int) : ((bmul i j d e).length : Int) = i * 6 := by
  have h := (three_right i0 i1 (y := 2) (z := 3) (by omega) (by omega) (by omega) (by omega)).2
  unfold bmul
  rw [madeOf_length, h]
  omega
theorem bmul_at {i j : Int} (i0 : 1 ≤ i) (i1 : i ≤ 4) (j0 : 1 ≤ j) (j1 : j ≤ 4) (d e : List Int) (k a b : Nat) (hk : (k : Int) < i) (ha : (a : Int) < 2) (hb : (b : Int) < 3) :
    rd (bmul i j d e) (((k : Int) * 2 + (a : Int)) * 3 + (b : Int)) = wrap64 (sumTo (fun t => rd d (((k : Int) * 2 + (a : Int)) * j + (t : Int)) * rd e (((k : Int) * j + (t : Int)) * 3 + (b : Int))) 0 j.toNat) := by
  unfold bmul
  rw [rd_three_made i0 i1 (by omega) (by omega) (by omega) (by omega) _ (by omega) hk (by omega) ha (by omega) hb, dotSum_is _ _ _ _ _ _ _ _ _ _ (w64 (n := 0) (by decide) (by decide)), Int.zero_add]
  refine sum_congr _ _ _ _ fun t _ ht => ?_
  have e1 : ([(k : Int), (a : Int), (b : Int)].take 2 ++ [(t : Int)]) = [(k : Int), (a : Int), (t : Int)] := rfl
  have e2 : ([(k : Int), (a : Int), (b : Int)].take 1 ++ (t : Int) :: [(k : Int), (a : Int), (b : Int)].drop 2) = [(k : Int), (t : Int), (b : Int)] := rfl
  rw [e1, e2, three_index i0 i1 (by omega) (by omega) j0 j1 (by omega) hk (by omega) ha (by omega) (by omega), three_index i0 i1 j0 j1 (by omega) (by omega) (by omega) hk (by omega) (by omega) (by omega) hb]
theorem rows_dot {i j : Int} (i0 : 1 ≤ i) (i1 : i ≤ 4) (j0 : 1 ≤ j) (j1 : j ≤ 4) {d e : List Int} (hd : (d.length : Int) = i * (2 * j)) (he : (e.length : Int) = i * (j * 3)) : Ev (fun k => dot_Do.f k [i, 2, j] d [i, j, 3] e 1) ([i, 2, 3], bmul i j d e, 0) := by
  have r1 := three_right i0 i1 (y := 2) (by omega) (by omega) j0 j1
  have r2 := three_right i0 i1 j0 j1 (z := 3) (by omega) (by omega)
  refine Ev.cast (dot_Do_ev [i, 2, j] d [i, j, 3] e 1) ?_
  unfold tDot
  rw [if_pos ⟨tRight_iff.2 ⟨r1.1, by rw [r1.2]; exact hd⟩, tRight_iff.2 ⟨r2.1, by rw [r2.2]; exact he⟩⟩, rows_shape i0 i1 j0 j1, if_pos rfl]
  rfl

/-! ### A row with a table -/
theorem one_right {j : Int} (j0 : 1 ≤ j) (j1 : j ≤ 4) : sRight [j] = true ∧ sSize [j] = j := by
  have hr : sRight [j] = true := by
    refine sRight_iff.2 ⟨by simp, by simp only [List.all_cons, List.all_nil, Bool.and_true]; exact okDim_iff.2 (by omega), ?_⟩
    simp only [prod, Int.mul_one]
    omega
  refine ⟨hr, ?_⟩
  unfold sSize; rw [if_pos hr]; simp [prod]
theorem one_index {j a : Int} (j0 : 1 ≤ j) (j1 : j ≤ 4) (a0 : 0 ≤ a) (a1 : a < j) : sIndex [j] [a] = a := by
  unfold sIndex
  rw [if_pos ⟨(one_right j0 j1).1, rfl⟩]
  simp only [idx]
  rw [if_neg (by omega)]
  simp
theorem vec_shape {j : Int} (j0 : 1 ≤ j) (j1 : j ≤ 4) : dShape [j] [j, 3] 0 = ([3], 0) := by
  unfold dShape
  have hf : dFits [j] [j, 3] 0 = true := dFits_iff.2 ⟨(one_right j0 j1).1, (table_right j0 j1 (y := 3) (by omega) (by omega)).1, rfl, rfl⟩
  have hd : dRow [j] [j, 3] 0 = [3] := rfl
  rw [if_neg (by simp), if_pos hf, hd, if_pos (one_right (j := 3) (by omega) (by omega)).1]
def vmul (j : Int) (d e : List Int) : List Int := madeOf [3] (fun p => dotSum [j] d [j, 3] e (p.take 0) (p.take 0) (p.drop 0) 0 j.toNat 0)
theorem vmul_length (j : Int) (d e : List Int) : ((vmul j d e).length : Int) = 3 := by
  unfold vmul
  rw [madeOf_length, (one_right (j := 3) (by omega) (by omega)).2]
  rfl
theorem vmul_at {j : Int} (j0 : 1 ≤ j) (j1 : j ≤ 4) (d e : List Int) (b : Nat) (hb : (b : Int) < 3) : rd (vmul j d e) (b : Int) = wrap64 (sumTo (fun t => rd d (t : Int) * rd e ((t : Int) * 3 + (b : Int))) 0 j.toNat) := by
  have h3 := (one_right (j := 3) (by omega) (by omega)).2
  unfold vmul
  have hp : plc [3] (b : Int) = [(b : Int)] := by
    simp only [plc, prod, Int.ediv_one]
    rw [Int.emod_eq_of_lt (by omega) hb]
  rw [rd_made [3] _ b (by rw [h3]; exact hb), hp, dotSum_is _ _ _ _ _ _ _ _ _ _ (w64 (n := 0) (by decide) (by decide)), Int.zero_add]
  refine sum_congr _ _ _ _ fun t _ ht => ?_
  have e1 : ([(b : Int)].take 0 ++ [(t : Int)]) = [(t : Int)] := rfl
  have e2 : ([(b : Int)].take 0 ++ (t : Int) :: [(b : Int)].drop 0) = [(t : Int), (b : Int)] := rfl
  rw [e1, e2, one_index j0 j1 (by omega) (by omega), table_index j0 j1 (y := 3) (by omega) (by omega) (by omega) (by omega) (by omega) hb]
theorem vec_dot {j : Int} (j0 : 1 ≤ j) (j1 : j ≤ 4) {d e : List Int} (hd : (d.length : Int) = j) (he : (e.length : Int) = j * 3) : Ev (fun k => dot_Do.f k [j] d [j, 3] e 0) ([3], vmul j d e, 0) := by
  have r1 := one_right j0 j1
  refine Ev.cast (dot_Do_ev [j] d [j, 3] e 0) ?_
  unfold tDot
  rw [if_pos ⟨tRight_iff.2 ⟨r1.1, by rw [r1.2]; exact hd⟩, table_tright j0 j1 (by omega) (by omega) he⟩, vec_shape j0 j1, if_pos rfl]
  rfl

/-! ### Table by table -/
theorem rows_same {i j : Int} (i0 : 1 ≤ i) (i1 : i ≤ 4) (j0 : 1 ≤ j) (j1 : j ≤ 4) {A B P Q R : List Int} (k : Nat) (hk : (k : Int) < i)
    (hP : ∀ q : Int, 0 ≤ q → q < 2 * j → rd P q = rd A ((k : Int) * 2 * j + q)) (hQ : ∀ q : Int, 0 ≤ q → q < j * 3 → rd Q q = rd B ((k : Int) * 3 * j + q)) (hRl : (R.length : Int) = 6) (hR : ∀ q : Int, 0 ≤ q → q < 6 → rd R q = rd (bmul i j A B) ((k : Int) * 6 + q)) :
    tmul 2 j 3 P Q = R := by
  refine table_ext (x := 2) (y := 3) (by omega) (by omega) (by omega) (by omega) (tmul_length (by omega) (by omega) (by omega) (by omega) P Q) hRl fun a b ha hb => ?_
  rw [tmul_at (by omega) (by omega) j0 j1 (by omega) (by omega) P Q a b ha hb, hR _ (by omega) (by omega)]
  have h := bmul_at i0 i1 j0 j1 A B k a b hk ha hb
  rw [show ((k : Int) * 2 + (a : Int)) * 3 + (b : Int) = (k : Int) * 6 + ((a : Int) * 3 + (b : Int)) by omega] at h
  rw [h]
  refine sum_congr _ _ _ _ fun t _ ht => ?_
  have ht2 : (t : Int) < j := by omega
  have p1 : 0 ≤ (a : Int) * j + (t : Int) ∧ (a : Int) * j + (t : Int) < 2 * j := by
    rcases in4 j0 j1 with rfl | rfl | rfl | rfl <;> omega
  show wrap64 (rd P ((a : Int) * j + (t : Int)) * rd Q ((t : Int) * 3 + (b : Int))) = wrap64 (rd A (((k : Int) * 2 + (a : Int)) * j + (t : Int)) * rd B (((k : Int) * j + (t : Int)) * 3 + (b : Int)))
  rw [hP _ p1.1 p1.2, hQ _ (by omega) (by omega)]
  have e1 : (k : Int) * 2 * j + ((a : Int) * j + (t : Int)) = ((k : Int) * 2 + (a : Int)) * j + (t : Int) := by
    rcases in4 j0 j1 with rfl | rfl | rfl | rfl <;> omega
  have e2 : (k : Int) * 3 * j + ((t : Int) * 3 + (b : Int)) = ((k : Int) * j + (t : Int)) * 3 + (b : Int) := by
    rcases in4 j0 j1 with rfl | rfl | rfl | rfl <;> omega
  rw [e1, e2]
theorem row_same {j : Int} (j0 : 1 ≤ j) (j1 : j ≤ 4) {P Q : List Int} (hP : (P.length : Int) = 2 * j) : vmul j (P.take j.toNat) Q = (tmul 2 j 3 P Q).take 3 := by
  have hl := tmul_length (i := 2) (j := j) (l := 3) (by omega) (by omega) (by omega) (by omega) P Q
  refine list_ext 3 (vmul_length _ _ _) (by rw [List.length_take]; omega) fun b hb => ?_
  have h := tmul_at (i := 2) (l := 3) (by omega) (by omega) j0 j1 (by omega) (by omega) P Q 0 b (by omega) hb
  rw [show ((0 : Nat) : Int) * 3 + (b : Int) = (b : Int) by omega] at h
  rw [vmul_at j0 j1 _ _ b hb, show (3 : Nat) = (3 : Int).toNat by rfl, rd_takeI _ 3 _ (by omega) hb (by omega), h]
  refine sum_congr _ _ _ _ fun t _ ht => ?_
  have ht2 : (t : Int) < j := by omega
  show wrap64 (rd (P.take j.toNat) (t : Int) * rd Q ((t : Int) * 3 + (b : Int))) = wrap64 (rd P (((0 : Nat) : Int) * j + (t : Int)) * rd Q ((t : Int) * 3 + (b : Int)))
  rw [rd_takeI P j _ (by omega) ht2 (by omega), show ((0 : Nat) : Int) * j + (t : Int) = (t : Int) by simp]

end Go.Proofs.Ytapoeleiicnlbaa.Plain
