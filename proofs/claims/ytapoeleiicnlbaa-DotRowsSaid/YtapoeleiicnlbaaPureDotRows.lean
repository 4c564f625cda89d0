/- DotRows: a product along a shared axis is, table by table, the product of the tables; and a row of a table times a table is that row of the product. -/
import Derived.Test.YtapoeleiicnlbaaDotRows
import Derived.Test.YtapoeleiicnlbaaSameInt64
import Derived.Test.YtapoeleiicnlbaaTensor
import Derived.Test.YtapoeleiicnlbaaQx17
import Derived.Test.YtapoeleiicnlbaaQx27
namespace Go.Proofs.Ytapoeleiicnlbaa.Pure
set_option linter.unusedVariables false
open Go.RowKit Go.Proofs.YtapoeleiicnlbaaW.PrintWords Go.Proofs.Ytapoeleiicnlbaa.Q Go.Proofs.Ytapoeleiicnlbaa.Plain

theorem known_dr : Ev (fun k => parquetrylaw7_known.f k) true := Ev.of (fun k => parquetrylaw7_known.mono k) (k := 40) (by decide +kernel)
theorem dr_dim (x : Int) : ∃ i : Int, wrap64 (1 + Go.bits .and .i64 x 3) = i ∧ 1 ≤ i ∧ i ≤ 4 := by
  have e : Go.bits .and .i64 x 3 = IntKind.i64.wrap (((BitVec.ofInt IntKind.i64.bits x &&& BitVec.ofInt IntKind.i64.bits 3).toNat : Nat) : Int) := rfl
  have h1 : (BitVec.ofInt IntKind.i64.bits x &&& BitVec.ofInt IntKind.i64.bits 3).toNat ≤ 3 := by
    rw [BitVec.toNat_and]
    exact Nat.le_trans Nat.and_le_right (by decide)
  have h2 : 0 ≤ Go.bits .and .i64 x 3 ∧ Go.bits .and .i64 x 3 ≤ 3 := by
    rw [e]
    generalize (BitVec.ofInt IntKind.i64.bits x &&& BitVec.ofInt IntKind.i64.bits 3).toNat = q at h1 ⊢
    rcases (show q = 0 ∨ q = 1 ∨ q = 2 ∨ q = 3 by omega) with rfl | rfl | rfl | rfl <;> decide
  exact ⟨1 + Go.bits .and .i64 x 3, w64 (by omega) (by omega), by omega, by omega⟩

theorem dr_l0 {i j : Int} (i0 : 1 ≤ i) (i1 : i ≤ 4) (j0 : 1 ≤ j) (j1 : j ≤ 4) {A B : List Int} (hA : (A.length : Int) = i * (2 * j)) (hB : (B.length : Int) = i * (j * 3)) (m : Nat) : ∀ q : Nat, (q : Int) + m = i →
    Ev (fun k => parquetrylaw7_DotRows.l0 k i j (q : Int) [i, 2, j] A [i, j, 3] B [i, 2, 3] (bmul i j A B)) true := by
  have hall := bmul_length i0 i1 j A B
  induction m with
  | zero =>
    intro q hq
    refine Ev.step (f := fun k => (parquetrylaw7_known.f k).bind fun t => if t = true then some true else none) (fun k => ?_) (Ev.bind known_dr (Ev.ret fun k => by rw [if_pos rfl]))
    simp only [parquetrylaw7_DotRows.l0]
    rw [if_neg (by omega)]
  | succ m ih =>
    intro q hq
    have next := ih (q + 1) (by omega)
    have hqi : (q : Int) < i := by omega
    have a1 : wrap64 ((wrap64 ((q : Int) * 2)) * j) = (q : Int) * 2 * j := by
      rw [w64 (n := (q : Int) * 2) (by omega) (by omega)]
      rcases in4 j0 j1 with rfl | rfl | rfl | rfl <;> exact w64 (by omega) (by omega)
    have a2 : wrap64 ((wrap64 ((wrap64 ((q : Int) + 1)) * 2)) * j) = ((q : Int) + 1) * 2 * j := by
      rw [w64 (n := (q : Int) + 1) (by omega) (by omega), w64 (n := ((q : Int) + 1) * 2) (by omega) (by omega)]
      rcases in4 j0 j1 with rfl | rfl | rfl | rfl <;> exact w64 (by omega) (by omega)
    have a3 : wrap64 ((wrap64 ((q : Int) * 3)) * j) = (q : Int) * 3 * j := by
      rw [w64 (n := (q : Int) * 3) (by omega) (by omega)]
      rcases in4 j0 j1 with rfl | rfl | rfl | rfl <;> exact w64 (by omega) (by omega)
    have a4 : wrap64 ((wrap64 ((wrap64 ((q : Int) + 1)) * 3)) * j) = ((q : Int) + 1) * 3 * j := by
      rw [w64 (n := (q : Int) + 1) (by omega) (by omega), w64 (n := ((q : Int) + 1) * 3) (by omega) (by omega)]
      rcases in4 j0 j1 with rfl | rfl | rfl | rfl <;> exact w64 (by omega) (by omega)
    have a5 : wrap64 ((q : Int) * 6) = (q : Int) * 6 := w64 (by omega) (by omega)
    have a6 : wrap64 ((q : Int) * 6 + 6) = (q : Int) * 6 + 6 := w64 (by omega) (by omega)
    have b1 : 0 ≤ (q : Int) * 2 * j ∧ (q : Int) * 2 * j ≤ ((q : Int) + 1) * 2 * j ∧ ((q : Int) + 1) * 2 * j ≤ (A.length : Int) ∧ ((q : Int) + 1) * 2 * j = (q : Int) * 2 * j + 2 * j := by
      rw [hA]
      rcases in4 j0 j1 with rfl | rfl | rfl | rfl <;> omega
    have b2 : 0 ≤ (q : Int) * 3 * j ∧ (q : Int) * 3 * j ≤ ((q : Int) + 1) * 3 * j ∧ ((q : Int) + 1) * 3 * j ≤ (B.length : Int) ∧ ((q : Int) + 1) * 3 * j = (q : Int) * 3 * j + j * 3 := by
      rw [hB]
      rcases in4 j0 j1 with rfl | rfl | rfl | rfl <;> omega
    have b3 : 0 ≤ (q : Int) * 6 ∧ (q : Int) * 6 ≤ (q : Int) * 6 + 6 ∧ (q : Int) * 6 + 6 ≤ ((bmul i j A B).length : Int) := by omega
    obtain ⟨P, hPd⟩ : ∃ P, P = (A.take (((q : Int) + 1) * 2 * j).toNat).drop ((q : Int) * 2 * j).toNat := ⟨_, rfl⟩
    obtain ⟨Q, hQd⟩ : ∃ Q, Q = (B.take (((q : Int) + 1) * 3 * j).toNat).drop ((q : Int) * 3 * j).toNat := ⟨_, rfl⟩
    obtain ⟨R, hRd⟩ : ∃ R, R = ((bmul i j A B).take ((q : Int) * 6 + 6).toNat).drop ((q : Int) * 6).toNat := ⟨_, rfl⟩
    have hPl : (P.length : Int) = 2 * j := by rw [hPd, len_cutI _ _ _ b1.1 b1.2.1 b1.2.2.1]; omega
    have hQl : (Q.length : Int) = j * 3 := by rw [hQd, len_cutI _ _ _ b2.1 b2.2.1 b2.2.2.1]; omega
    have hRl : (R.length : Int) = 6 := by rw [hRd, len_cutI _ _ _ b3.1 b3.2.1 b3.2.2]; omega
    have hP : ∀ z : Int, 0 ≤ z → z < 2 * j → rd P z = rd A ((q : Int) * 2 * j + z) := fun z z0 z1 => by rw [hPd, rd_cutI _ _ _ _ b1.1 z0 (by omega) b1.2.2.1]
    have hQ : ∀ z : Int, 0 ≤ z → z < j * 3 → rd Q z = rd B ((q : Int) * 3 * j + z) := fun z z0 z1 => by rw [hQd, rd_cutI _ _ _ _ b2.1 z0 (by omega) b2.2.2.1]
    have hR : ∀ z : Int, 0 ≤ z → z < 6 → rd R z = rd (bmul i j A B) ((q : Int) * 6 + z) := fun z z0 z1 => by rw [hRd, rd_cutI _ _ _ _ b3.1 z0 (by omega) b3.2.2]
    have e1 := rows_same i0 i1 j0 j1 q hqi hP hQ hRl hR
    have e2 := row_same j0 j1 (Q := Q) hPl
    have h3 : (3 : Int) ≤ ((tmul 2 j 3 P Q).length : Int) := by rw [e1]; omega
    have hj : j ≤ (P.length : Int) := by omega
    refine Ev.step (f := fun k => (dot_Do.f k [2, j] P [j, 3] Q 0).bind fun bt801 => if bt801.2.2 = 0 then ((parquetrybook_Same_int64.f k bt801.2.1 R).bind fun t813 => if t813 = true then (if 0 ≤ j then (if j ≤ (P.length : Int) then ((dot_Do.f k [j] (P.take j.toNat) [j, 3] Q 0).bind fun bt821 => if bt821.2.2 = 0 then (if 3 ≤ (bt801.2.1.length : Int) then ((parquetrybook_Same_int64.f k bt821.2.1 (bt801.2.1.take 3)).bind fun t833 => if t833 = true then parquetrylaw7_DotRows.l0 k i j ((q + 1 : Nat) : Int) [i, 2, j] A [i, j, 3] B [i, 2, 3] (bmul i j A B) else none) else none) else none) else none) else none) else none) else none) (fun k => ?_) ?_
    · subst hPd
      subst hQd
      subst hRd
      simp only [parquetrylaw7_DotRows.l0]
      rw [if_pos hqi, a1, a2, if_pos b1.1, if_pos b1.2.1, if_pos b1.2.2.1, Option.bind_some, Option.bind_some, a3, a4, if_pos b2.1, if_pos b2.2.1, if_pos b2.2.2.1, Option.bind_some]
      congr 1
      funext bt
      rw [a5, a6, if_pos b3.1, if_pos b3.2.1, if_pos b3.2.2, wsucc _ (by omega)]
    · refine Ev.bind (table_dot (i := 2) (j := j) (l := 3) (by omega) (by omega) j0 j1 (by omega) (by omega) hPl hQl) ?_
      refine Ev.congr (fun k => by rw [if_pos rfl]) ?_
      refine Ev.bind (a := true) ?_ ?_
      · show Ev (fun k => parquetrybook_Same_int64.f k (tmul 2 j 3 P Q) R) true
        rw [e1]
        exact same_int64_ev R (by omega)
      refine Ev.congr (fun k => by rw [if_pos rfl, if_pos (show 0 ≤ j by omega), if_pos hj]) ?_
      refine Ev.bind (vec_dot j0 j1 (by rw [List.length_take]; omega) hQl) ?_
      refine Ev.congr (fun k => by rw [if_pos rfl, if_pos h3]) ?_
      refine Ev.bind (a := true) ?_ ?_
      · show Ev (fun k => parquetrybook_Same_int64.f k (vmul j (P.take j.toNat) Q) ((tmul 2 j 3 P Q).take 3)) true
        rw [e2]
        exact same_int64_ev _ (by rw [List.length_take]; omega)
      exact Ev.congr (fun k => by rw [if_pos rfl]) next

theorem DotRows : parquetrylaw7_DotRows.Pure := by
  intro l a1 a2
  intros
  refine Ev.rounds (g := fun k => parquetrylaw7_DotRows.f k l a1 a2) ?_
  unfold parquetrylaw7_DotRows.f
  obtain ⟨i, hi, i0, i1⟩ := dr_dim a1
  obtain ⟨j, hj, j0, j1⟩ := dr_dim a2
  rw [hi, hj]
  obtain ⟨A, b, hA, hb, hAl, _⟩ := tape_Tensor_ev (tape_of (l := l) (by assumption) (by assumption)) [i, 2, j] (by simp)
  obtain ⟨B, c, hB, hc, hBl, _⟩ := tape_Tensor_ev hb [i, j, 3] (by simp)
  rw [(three_right i0 i1 (y := 2) (by omega) (by omega) j0 j1).2] at hAl
  rw [(three_right i0 i1 j0 j1 (z := 3) (by omega) (by omega)).2] at hBl
  have hall := bmul_length i0 i1 j A B
  have hw : wrap64 (i * 6) = i * 6 := w64 (by omega) (by omega)
  refine Ev.bind hA (Ev.bind hB (Ev.bind (rows_dot i0 i1 j0 j1 hAl hBl) ?_))
  refine Ev.congr (fun k => by rw [if_pos rfl, hw, if_pos hall]) ?_
  exact dr_l0 i0 i1 j0 j1 hAl hBl i.toNat 0 (by omega)

end Go.Proofs.Ytapoeleiicnlbaa.Pure
