/- Tables of whole numbers and their products. -/
import Derived.Test.YtapoeleiicnlbaaDot
import Derived.Test.YtapoeleiicnlbaaTensor
namespace Go.Proofs.Ytapoeleiicnlbaa.Plain
set_option linter.unusedVariables false
open Go.RowKit Go.Proofs.YtapoeleiicnlbaaW.PrintWords Go.Proofs.Ytapoeleiicnlbaa.Q

/-! ### Wrapped sums -/
theorem wr_l (a b : Int) : wrap64 (wrap64 a + b) = wrap64 (a + b) := by unfold wrap64; omega
theorem wr_r (a b : Int) : wrap64 (a + wrap64 b) = wrap64 (a + b) := by unfold wrap64; omega
theorem wr_wr (a : Int) : wrap64 (wrap64 a) = wrap64 a := by unfold wrap64; omega
theorem wr_cong {a b : Int} (h : wrap64 a = wrap64 b) (c : Int) : wrap64 (a + c) = wrap64 (b + c) := by rw [← wr_l, h, wr_l]

def sumTo (f : Nat → Int) (j : Nat) : Nat → Int
  | 0 => 0
  | c + 1 => f j + sumTo f (j + 1) c
theorem sum_congr (f g : Nat → Int) (c : Nat) : ∀ j, (∀ t, j ≤ t → t < j + c → wrap64 (f t) = wrap64 (g t)) → wrap64 (sumTo f j c) = wrap64 (sumTo g j c) := by
  induction c with
  | zero => intro j _; rfl
  | succ c ih =>
    intro j h
    have h1 := h j (by omega) (by omega)
    have h2 := ih (j + 1) (fun t h0 h3 => h t (by omega) (by omega))
    simp only [sumTo]
    rw [← wr_r, h2, wr_r, wr_cong h1]
theorem dotSum_is (s1 d1 s2 d2 pa pn pb : List Int) (c : Nat) : ∀ (j : Nat) (acc : Int), wrap64 acc = acc → dotSum s1 d1 s2 d2 pa pn pb j c acc = wrap64 (acc + sumTo (fun t => rd d1 (sIndex s1 (pa ++ [(t : Int)])) * rd d2 (sIndex s2 (pn ++ (t : Int) :: pb))) j c) := by
  induction c with
  | zero => intro j acc h; simp only [dotSum, sumTo]; rw [Int.add_zero, h]
  | succ c ih =>
    intro j acc h
    simp only [dotSum, sumTo]
    rw [ih (j + 1) _ (wr_wr _), wr_l, wr_r_mid]
where wr_r_mid {a b c : Int} : wrap64 (a + wrap64 b + c) = wrap64 (a + (b + c)) := by unfold wrap64; omega

/-! ### Tables -/
theorem in4 {x : Int} (h0 : 1 ≤ x) (h1 : x ≤ 4) : x = 1 ∨ x = 2 ∨ x = 3 ∨ x = 4 := by omega
theorem table_right {x y : Int} (x0 : 1 ≤ x) (x1 : x ≤ 4) (y0 : 1 ≤ y) (y1 : y ≤ 4) : sRight [x, y] = true ∧ sSize [x, y] = x * y ∧ 1 ≤ x * y ∧ x * y ≤ 16 := by
  have hr : sRight [x, y] = true := by
    refine sRight_iff.2 ⟨by simp, by simp only [List.all_cons, List.all_nil, Bool.and_true, Bool.and_eq_true]; exact ⟨okDim_iff.2 (by omega), okDim_iff.2 (by omega)⟩, ?_⟩
    simp only [prod, Int.mul_one]
    rcases in4 x0 x1 with rfl | rfl | rfl | rfl <;> omega
  refine ⟨hr, ?_, ?_, ?_⟩
  · unfold sSize; rw [if_pos hr]; simp [prod]
  · rcases in4 x0 x1 with rfl | rfl | rfl | rfl <;> omega
  · rcases in4 x0 x1 with rfl | rfl | rfl | rfl <;> omega
theorem table_index {x y a b : Int} (x0 : 1 ≤ x) (x1 : x ≤ 4) (y0 : 1 ≤ y) (y1 : y ≤ 4) (a0 : 0 ≤ a) (a1 : a < x) (b0 : 0 ≤ b) (b1 : b < y) : sIndex [x, y] [a, b] = a * y + b := by
  unfold sIndex
  rw [if_pos ⟨(table_right x0 x1 y0 y1).1, rfl⟩]
  simp only [idx]
  rw [if_neg (by omega), if_neg (by omega)]
  simp
theorem table_lt {x y a b : Int} (x0 : 1 ≤ x) (x1 : x ≤ 4) (y0 : 1 ≤ y) (y1 : y ≤ 4) (a0 : 0 ≤ a) (a1 : a < x) (b0 : 0 ≤ b) (b1 : b < y) : 0 ≤ a * y + b ∧ a * y + b < x * y := by
  rcases in4 y0 y1 with rfl | rfl | rfl | rfl <;> omega
theorem table_plc {x y : Int} (x0 : 1 ≤ x) (x1 : x ≤ 4) (y0 : 1 ≤ y) (y1 : y ≤ 4) {a b : Int} (a0 : 0 ≤ a) (a1 : a < x) (b0 : 0 ≤ b) (b1 : b < y) : plc [x, y] (a * y + b) = [a, b] := by
  have h1 : (a * y + b) / y = a := by
    rw [Int.add_comm, Int.add_mul_ediv_right _ _ (by omega), Int.ediv_eq_zero_of_lt b0 b1, Int.zero_add]
  have h2 : (a * y + b) % y = b := by
    rw [Int.add_comm, Int.add_mul_emod_self_right, Int.emod_eq_of_lt b0 b1]
  simp only [plc, prod, Int.mul_one, Int.ediv_one]
  rw [h1, h2, Int.emod_eq_of_lt a0 a1]
/-- A number's place in a table. -/
theorem table_at {x y : Int} (x0 : 1 ≤ x) (x1 : x ≤ 4) (y0 : 1 ≤ y) (y1 : y ≤ 4) (q : Nat) (hq : (q : Int) < x * y) : ∃ a b : Nat, (a : Int) < x ∧ (b : Int) < y ∧ (q : Int) = (a : Int) * y + (b : Int) := by
  have e : (q : Int) = (q : Int) / y * y + (q : Int) % y := by
    have := Int.emod_add_mul_ediv (q : Int) y
    rw [Int.mul_comm] at this
    omega
  have h1 : 0 ≤ (q : Int) % y := Int.emod_nonneg _ (by omega)
  have h2 : (q : Int) % y < y := Int.emod_lt_of_pos _ (by omega)
  have h3 : 0 ≤ (q : Int) / y := Int.ediv_nonneg (by omega) (by omega)
  have h4 : (q : Int) / y < x := Int.ediv_lt_of_lt_mul (by omega) hq
  obtain ⟨a, ha⟩ := Int.eq_ofNat_of_zero_le h3
  obtain ⟨b, hb⟩ := Int.eq_ofNat_of_zero_le h1
  exact ⟨a, b, by omega, by omega, by rw [← ha, ← hb]; exact e⟩
/-- Tables are the same where their numbers are. -/
theorem table_ext {x y : Int} (x0 : 1 ≤ x) (x1 : x ≤ 4) (y0 : 1 ≤ y) (y1 : y ≤ 4) {d e : List Int} (hd : (d.length : Int) = x * y) (he : (e.length : Int) = x * y)
    (h : ∀ a b : Nat, (a : Int) < x → (b : Int) < y → rd d ((a : Int) * y + (b : Int)) = rd e ((a : Int) * y + (b : Int))) : d = e := by
  refine List.ext_getElem (by omega) fun q h1 h2 => ?_
  rw [← rd_nat d q h1, ← rd_nat e q h2]
  obtain ⟨a, b, ha, hb, hq⟩ := table_at x0 x1 y0 y1 q (by omega)
  rw [hq]
  exact h a b ha hb
theorem rd_table_made {x y : Int} (x0 : 1 ≤ x) (x1 : x ≤ 4) (y0 : 1 ≤ y) (y1 : y ≤ 4) (g : List Int → Int) (a b : Nat) (ha : (a : Int) < x) (hb : (b : Int) < y) : rd (madeOf [x, y] g) ((a : Int) * y + (b : Int)) = g [(a : Int), (b : Int)] := by
  have hs := (table_right x0 x1 y0 y1).2.1
  have hl := table_lt x0 x1 y0 y1 (a := (a : Int)) (b := (b : Int)) (by omega) ha (by omega) hb
  obtain ⟨q, hq⟩ := Int.eq_ofNat_of_zero_le hl.1
  have := rd_made [x, y] g q (by rw [hs]; omega)
  rw [hq, this, ← hq, table_plc x0 x1 y0 y1 (by omega) ha (by omega) hb]

/-! ### A product of tables -/
theorem table_shape {i j l : Int} (i0 : 1 ≤ i) (i1 : i ≤ 4) (j0 : 1 ≤ j) (j1 : j ≤ 4) (l0 : 1 ≤ l) (l1 : l ≤ 4) : dShape [i, j] [j, l] 0 = ([i, l], 0) := by
  unfold dShape
  have hf : dFits [i, j] [j, l] 0 = true := dFits_iff.2 ⟨(table_right i0 i1 j0 j1).1, (table_right j0 j1 l0 l1).1, rfl, rfl⟩
  have hd : dRow [i, j] [j, l] 0 = [i, l] := rfl
  rw [if_neg (by simp), if_pos hf, hd, if_pos (table_right i0 i1 l0 l1).1]
def tmul (i j l : Int) (d e : List Int) : List Int := madeOf [i, l] (fun p => dotSum [i, j] d [j, l] e (p.take 1) [] (p.drop 1) 0 j.toNat 0)
theorem tmul_length {i j l : Int} (i0 : 1 ≤ i) (i1 : i ≤ 4) (l0 : 1 ≤ l) (l1 : l ≤ 4) (d e : List Int) : ((tmul i j l d e).length : Int) = i * l := by
  have h := table_right i0 i1 l0 l1
  unfold tmul
  rw [madeOf_length, h.2.1]
  omega
theorem tmul_at {i j l : Int} (i0 : 1 ≤ i) (i1 : i ≤ 4) (j0 : 1 ≤ j) (j1 : j ≤ 4) (l0 : 1 ≤ l) (l1 : l ≤ 4) (d e : List Int) (a b : Nat) (ha : (a : Int) < i) (hb : (b : Int) < l) :
    rd (tmul i j l d e) ((a : Int) * l + (b : Int)) = wrap64 (sumTo (fun t => rd d ((a : Int) * j + (t : Int)) * rd e ((t : Int) * l + (b : Int))) 0 j.toNat) := by
  unfold tmul
  rw [rd_table_made i0 i1 l0 l1 _ a b ha hb, dotSum_is _ _ _ _ _ _ _ _ _ _ (w64 (n := 0) (by decide) (by decide)), Int.zero_add]
  refine sum_congr _ _ _ _ fun t _ ht => ?_
  have e1 : ([(a : Int), (b : Int)].take 1 ++ [(t : Int)]) = [(a : Int), (t : Int)] := rfl
  have e2 : (([] : List Int) ++ (t : Int) :: [(a : Int), (b : Int)].drop 1) = [(t : Int), (b : Int)] := rfl
  rw [e1, e2, table_index i0 i1 j0 j1 (by omega) ha (by omega) (by omega), table_index j0 j1 l0 l1 (by omega) (by omega) (by omega) hb]
theorem table_tright {x y : Int} (x0 : 1 ≤ x) (x1 : x ≤ 4) (y0 : 1 ≤ y) (y1 : y ≤ 4) {d : List Int} (h : (d.length : Int) = x * y) : tRight [x, y] d = true :=
  tRight_iff.2 ⟨(table_right x0 x1 y0 y1).1, by rw [(table_right x0 x1 y0 y1).2.1]; exact h⟩
theorem table_dot {i j l : Int} (i0 : 1 ≤ i) (i1 : i ≤ 4) (j0 : 1 ≤ j) (j1 : j ≤ 4) (l0 : 1 ≤ l) (l1 : l ≤ 4) {d e : List Int} (hd : (d.length : Int) = i * j) (he : (e.length : Int) = j * l) : Ev (fun k => dot_Do.f k [i, j] d [j, l] e 0) ([i, l], tmul i j l d e, 0) := by
  refine Ev.cast (dot_Do_ev [i, j] d [j, l] e 0) ?_
  unfold tDot
  rw [if_pos ⟨table_tright i0 i1 j0 j1 hd, table_tright j0 j1 l0 l1 he⟩, table_shape i0 i1 j0 j1 l0 l1, if_pos rfl]
  rfl

end Go.Proofs.Ytapoeleiicnlbaa.Plain
