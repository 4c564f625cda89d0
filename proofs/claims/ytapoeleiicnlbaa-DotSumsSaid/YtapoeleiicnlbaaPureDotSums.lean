/- DotSums: a product with a sum is the sum of the products, a product with the unit table is the table, and a product turned round is the product of the tables turned round. -/
import Derived.Test.YtapoeleiicnlbaaDotSums
import Derived.Test.YtapoeleiicnlbaaTensor
import Derived.Test.YtapoeleiicnlbaaQx17
import Derived.Test.YtapoeleiicnlbaaQx25
namespace Go.Proofs.Ytapoeleiicnlbaa.Pure
open Go.RowKit Go.Proofs.YtapoeleiicnlbaaW.PrintWords Go.Proofs.Ytapoeleiicnlbaa.Q Go.Proofs.Ytapoeleiicnlbaa.Plain

theorem known_ds : Ev (fun k => parquetrylaw7_known.f k) true := Ev.of (fun k => parquetrylaw7_known.mono k) (k := 40) (by decide +kernel)
theorem ds_dim (x : Int) : ∃ i : Int, wrap64 (1 + Go.bits .and .i64 x 3) = i ∧ 1 ≤ i ∧ i ≤ 4 := by
  have e : Go.bits .and .i64 x 3 = IntKind.i64.wrap (((BitVec.ofInt IntKind.i64.bits x &&& BitVec.ofInt IntKind.i64.bits 3).toNat : Nat) : Int) := rfl
  have h1 : (BitVec.ofInt IntKind.i64.bits x &&& BitVec.ofInt IntKind.i64.bits 3).toNat ≤ 3 := by
    rw [BitVec.toNat_and]
    exact Nat.le_trans Nat.and_le_right (by decide)
  have h2 : 0 ≤ Go.bits .and .i64 x 3 ∧ Go.bits .and .i64 x 3 ≤ 3 := by
    rw [e]
    generalize (BitVec.ofInt IntKind.i64.bits x &&& BitVec.ofInt IntKind.i64.bits 3).toNat = q at h1 ⊢
    rcases (show q = 0 ∨ q = 1 ∨ q = 2 ∨ q = 3 by omega) with rfl | rfl | rfl | rfl <;> decide
  exact ⟨1 + Go.bits .and .i64 x 3, w64 (by omega) (by omega), by omega, by omega⟩

/-- What is left when the unit table is laid. -/
theorem ds_end {i j l : Int} (i0 : 1 ≤ i) (i1 : i ≤ 4) (j0 : 1 ≤ j) (j1 : j ≤ 4) (l0 : 1 ≤ l) (l1 : l ≤ 4) {A B S u : List Int} (hA : (A.length : Int) = i * j) (hAw : ∀ x ∈ A, I64 x) (hB : (B.length : Int) = j * l) (hS : S.length ≤ 4096) (hu : (u.length : Int) = j * j)
    (hu1 : ∀ a b : Nat, (a : Int) < j → (b : Int) < j → rd u ((a : Int) * j + (b : Int)) = if a = b then 1 else 0) :
    Ev (fun k => (dot_Do.f k [i, j] A [j, j] u 0).bind fun bt440 => ((parquetryref4_Turn.f k [i, j] A (([1, 0] : List Int))).bind fun bt451 => ((parquetryref4_Turn.f k [j, l] B (([1, 0] : List Int))).bind fun bt462 => ((dot_Do.f k bt462.1 bt462.2.1 bt451.1 bt451.2.1 0).bind fun bt470 => ((parquetryref4_Turn.f k [i, l] (tmul i j l A B) (([1, 0] : List Int))).bind fun bt481 => (if (0 : Int) = 0 then (if bt440.2.2 = 0 then (if bt470.2.2 = 0 then ((parquetryref1_Same.f k [i, l] S [i, l] S).bind fun t489 => (if t489 = true then ((parquetryref1_Same.f k bt440.1 bt440.2.1 [i, j] A).bind fun t490 => (if t490 = true then ((parquetryref1_Same.f k bt470.1 bt470.2.1 bt481.1 bt481.2.1).bind fun t491 => (if t491 = true then ((parquetrylaw7_known.f k).bind fun t492 => (if t492 = true then (some true) else (none))) else (none))) else (none))) else (none))) else (none)) else (none)) else (none))))))) true := by
  have hAs := (table_right i0 i1 j0 j1)
  have hCs := (table_right l0 l1 i0 i1)
  have hP := tmul_length (j := j) i0 i1 l0 l1 A B
  have hq := tmul_unit i0 i1 j0 j1 hA hAw hu1
  have ht := tmul_turn i0 i1 j0 j1 l0 l1 A B
  have tA := turn2_length i0 i1 j0 j1 A
  have tB := turn2_length j0 j1 l0 l1 B
  have tP := turn2_length i0 i1 l0 l1 (tmul i j l A B)
  refine Ev.bind (table_dot i0 i1 j0 j1 j0 j1 hA hu) ?_
  rw [hq]
  refine Ev.bind (turn2_ev i j A (table_tright i0 i1 j0 j1 hA)) (Ev.bind (turn2_ev j l B (table_tright j0 j1 l0 l1 hB)) (Ev.bind (table_dot l0 l1 j0 j1 i0 i1 tB tA) ?_))
  rw [ht]
  refine Ev.bind (turn2_ev i l (tmul i j l A B) (table_tright i0 i1 l0 l1 hP)) (Ev.congr (fun k => by rw [if_pos rfl, if_pos rfl, if_pos rfl]) ?_)
  refine Ev.bind (ref_Same_ev [i, l] S [i, l] S (by simp) (by omega)) (Ev.congr (fun k => by rw [if_pos (tSame_self _ _)]) ?_)
  refine Ev.bind (ref_Same_ev [i, j] A [i, j] A (by simp) (by omega)) (Ev.congr (fun k => by rw [if_pos (tSame_self _ _)]) ?_)
  refine Ev.bind (ref_Same_ev [l, i] (turn2 i l (tmul i j l A B)) [l, i] (turn2 i l (tmul i j l A B)) (by simp) (by omega)) (Ev.congr (fun k => by rw [if_pos (tSame_self _ _)]) ?_)
  exact Ev.bind known_ds (Ev.ret fun k => by rw [if_pos rfl])

theorem ds_l0 {i j l : Int} (i0 : 1 ≤ i) (i1 : i ≤ 4) (j0 : 1 ≤ j) (j1 : j ≤ 4) (l0 : 1 ≤ l) (l1 : l ≤ 4) {A B S : List Int} (hA : (A.length : Int) = i * j) (hAw : ∀ x ∈ A, I64 x) (hB : (B.length : Int) = j * l) (hS : S.length ≤ 4096) (m : Nat) : ∀ (q : Nat) (u : List Int), (q : Int) + m = j → (u.length : Int) = j * j →
    (∀ a b : Nat, (a : Int) < j → (b : Int) < j → rd u ((a : Int) * j + (b : Int)) = if a = b ∧ a < q then 1 else 0) →
    Ev (fun k => parquetrylaw7_DotSums.l0 k j 0 (q : Int) [i, j] A [j, l] B [i, l] (tmul i j l A B) [i, l] S [i, l] S [j, j] u) true := by
  induction m with
  | zero =>
    intro q u hq hu h
    refine Ev.step (fun k => ?_) (ds_end i0 i1 j0 j1 l0 l1 hA hAw hB hS hu (fun a b ha hb => ?_))
    · simp only [parquetrylaw7_DotSums.l0]
      rw [if_neg (by omega)]
    · rw [h a b ha hb]
      by_cases e : a = b
      · rw [if_pos e, if_pos ⟨e, by omega⟩]
      · rw [if_neg e, if_neg (fun x => e x.1)]
  | succ m ih =>
    intro q u hq hu h
    have hqj : (q : Int) < j := by omega
    have hp := table_lt (a := (q : Int)) (b := (q : Int)) j0 j1 j0 j1 (by omega) hqj (by omega) hqj
    have hb : j * j ≤ 16 := (table_right j0 j1 j0 j1).2.2.2
    have w1 : wrap64 (wrap64 ((q : Int) * j) + (q : Int)) = (q : Int) * j + (q : Int) := by
      have : 0 ≤ (q : Int) * j := Int.mul_nonneg (by omega) (by omega)
      rw [w64 (n := (q : Int) * j) (by omega) (by omega), w64 (by omega) (by omega)]
    have key : ∀ a b : Nat, (a : Int) < j → (b : Int) < j → rd (u.set ((q : Int) * j + (q : Int)).toNat 1) ((a : Int) * j + (b : Int)) = if a = b ∧ a < q + 1 then 1 else 0 := by
      intro a b ha hb2
      have hp2 := table_lt (a := (a : Int)) (b := (b : Int)) j0 j1 j0 j1 (by omega) ha (by omega) hb2
      obtain ⟨z, hz⟩ := Int.eq_ofNat_of_zero_le hp2.1
      have h' := h a b ha hb2
      rw [hz] at h' ⊢
      rw [rd_set _ _ _ _ (by omega), h']
      by_cases e : a = q ∧ b = q
      · obtain ⟨rfl, rfl⟩ := e
        rw [if_pos (by omega), if_pos ⟨rfl, by omega⟩]
      · have hne : ((q : Int) * j + (q : Int)).toNat ≠ z := by
          intro hh
          have h3 : (q : Int) * j + (q : Int) = (a : Int) * j + (b : Int) := by omega
          apply e
          clear h h' ih hh hz hp hp2 w1 hb hu
          rcases in4 j0 j1 with rfl | rfl | rfl | rfl <;> omega
        rw [if_neg hne]
        by_cases e2 : a = b ∧ a < q
        · rw [if_pos e2, if_pos ⟨e2.1, by omega⟩]
        · rw [if_neg e2, if_neg (fun x => by
            by_cases hx : a = q
            · exact e ⟨hx, by omega⟩
            · exact e2 ⟨x.1, by omega⟩)]
    refine Ev.step (fun k => ?_) (ih (q + 1) _ (by omega) (by rw [List.length_set]; exact hu) key)
    simp only [parquetrylaw7_DotSums.l0]
    rw [if_pos hqj, w1, if_pos hp.1, if_pos (by omega), wsucc _ (by omega)]

theorem DotSums : parquetrylaw7_DotSums.Pure := by
  intro l a1 a2 a3
  intros
  refine Ev.rounds (g := fun k => parquetrylaw7_DotSums.f k l a1 a2 a3) ?_
  unfold parquetrylaw7_DotSums.f
  obtain ⟨i, hi, i0, i1⟩ := ds_dim a1
  obtain ⟨j, hj, j0, j1⟩ := ds_dim a2
  obtain ⟨z, hz, z0, z1⟩ := ds_dim a3
  rw [hi, hj, hz]
  obtain ⟨A, b, hA, hb, hAl, hAw⟩ := tape_Tensor_ev (tape_of (l := l) (by assumption) (by assumption)) [i, j] (by simp)
  obtain ⟨B, c, hB, hc, hBl, _⟩ := tape_Tensor_ev hb [j, z] (by simp)
  obtain ⟨C, e, hC, he, hCl, _⟩ := tape_Tensor_ev hc [j, z] (by simp)
  have t1 := table_right i0 i1 j0 j1
  have t2 := table_right j0 j1 z0 z1
  have t3 := table_right i0 i1 z0 z1
  have t4 := table_right j0 j1 j0 j1
  rw [t1.2.1] at hAl
  rw [t2.2.1] at hBl hCl
  have rB := table_tright j0 j1 z0 z1 hBl
  have rC := table_tright j0 j1 z0 z1 hCl
  have lB := tmul_length (j := j) i0 i1 z0 z1 A B
  have lC := tmul_length (j := j) i0 i1 z0 z1 A C
  have lS : ((addOf B C).length : Int) = j * z := by rw [addOf_length]; exact hBl
  have lT : ((addOf (tmul i j z A B) (tmul i j z A C)).length : Int) = i * z := by rw [addOf_length]; exact lB
  have hw : wrap64 (i * z) = i * z := w64 (by omega) (by omega)
  refine Ev.bind hA (Ev.bind hB (Ev.bind hC (Ev.bind (two_ev rB rC) (Ev.bind (table_dot i0 i1 j0 j1 z0 z1 hAl hBl) (Ev.bind (table_dot i0 i1 j0 j1 z0 z1 hAl hCl) ?_)))))
  refine Ev.congr (fun k => by rw [hw, if_pos lB, if_pos lC]) ?_
  refine Ev.bind (ref_Tensor_ev [i, z] (tmul i j z A B) (by simp)) (Ev.congr (fun k => by rw [if_pos (table_tright i0 i1 z0 z1 lB)]) (Ev.bind (ref_Ints_ev [i, z] [i, z] (by simp)) ?_))
  rw [decide_eq_true rfl]
  refine Ev.step (f := fun k => (parquetryref4_Two.f k 6 [i, z] (tmul i j z A B) [i, z] (tmul i j z A C)).bind fun bt413 => ((dot_Do.f k [i, j] A [j, z] (addOf B C) 0).bind fun bt421 => ((parquetryref1_Fill.f k (([j, j] : List Int)) 0).bind fun bt432 => (parquetrylaw7_DotSums.l0 k j bt421.2.2 0 [i, j] A [j, z] B [i, z] (tmul i j z A B) bt413.1 bt413.2.1 bt421.1 bt421.2.1 bt432.1 bt432.2)))) (fun k => ?_) ?_
  · simp only [parquetrylaw7_DotSums.j0]
    rw [if_neg (by simp)]
  · refine Ev.bind (two_ev (table_tright i0 i1 z0 z1 lB) (table_tright i0 i1 z0 z1 lC)) (Ev.bind (table_dot i0 i1 j0 j1 z0 z1 hAl lS) (Ev.bind (ref_Fill_ev [j, j] 0 (by simp)) ?_))
    rw [tmul_addOf i0 i1 j0 j1 z0 z1 A hBl, t4.2.1]
    have := ds_l0 i0 i1 j0 j1 z0 z1 (B := B) (S := addOf (tmul i j z A B) (tmul i j z A C)) hAl hAw hBl (by omega) j.toNat 0 (List.replicate (j * j).toNat 0) (by omega) (by simp; omega) (fun a b ha hb => by
      have hp := table_lt (a := (a : Int)) (b := (b : Int)) j0 j1 j0 j1 (by omega) ha (by omega) hb
      obtain ⟨q, hq⟩ := Int.eq_ofNat_of_zero_le hp.1
      rw [if_neg (by omega), hq, rd_nat _ q (by simp; omega)]
      simp)
    exact this

end Go.Proofs.Ytapoeleiicnlbaa.Pure
