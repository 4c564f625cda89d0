/- What is folded along one axis and then along another is what is folded along both. -/
import Derived.Test.YtkeclgfnlpkjeaaFoldSums
namespace Go.Proofs.Ytkeclgfnlpkjeaa.Plain
open Go.RowKit Go.Proofs.YtkeclgfnlpkjeaaW.PrintWords

def Few (u : List Int) : Prop := u = [] ∨ ∃ m : Int, u = [m] ∧ 0 ≤ m ∧ m ≤ 7
theorem few_right {u : List Int} (h : Few u) : sRight u = true ∧ sRight (3 :: u) = true ∧ sRight (1 :: 4 :: u) = true ∧ sRight (2 :: 4 :: u) = true ∧ sRight (3 :: 4 :: u) = true := by
  rcases h with rfl | ⟨m, rfl, h0, h1⟩
  · decide
  · have : m = 0 ∨ m = 1 ∨ m = 2 ∨ m = 3 ∨ m = 4 ∨ m = 5 ∨ m = 6 ∨ m = 7 := by omega
    rcases this with rfl | rfl | rfl | rfl | rfl | rfl | rfl | rfl <;> decide
theorem few_len {u : List Int} (h : Few u) : u.length ≤ 1 := by
  rcases h with rfl | ⟨m, rfl, _, _⟩ <;> simp

theorem tFold_is {how : Int} {s d a t : List Int} (hh : okHow how = true) (hr : tRight s d = true) (hris : risen (s.length : Int) (-1) a = true) (hl : leftOf a 0 s = t) (ht : sRight t = true) :
    tFold how s d a = (t, foldRun how s t a 0 d (List.replicate (sSize t).toNat (noneOf how)), 0) := by
  unfold tFold
  rw [if_pos hh, if_pos hr, if_pos hris, hl, if_pos ht]

def bothOf (how : Int) (x : Int) (u d : List Int) : List Int := foldRun how (x :: 4 :: u) u [0, 1] 0 d (List.replicate (sSize u).toNat (noneOf how))
theorem bothOf_length (how x : Int) (u d : List Int) : (bothOf how x u d).length = (sSize u).toNat := by
  unfold bothOf
  rw [foldRun_length2, List.length_replicate]
theorem both_is {how x : Int} {u d : List Int} (hh : okHow how = true) (hr : tRight (x :: 4 :: u) d = true) (hu : sRight u = true) : tFold how (x :: 4 :: u) d [0, 1] = (u, bothOf how x u d, 0) :=
  tFold_is hh hr (by simp [risen]; omega) (left_two x 4 u) hu

theorem at_bounds {P v n : Int} (hv0 : 0 ≤ v) (hv : v < P) {w : Nat} (hw : (w : Int) < n) : 0 ≤ v + (w : Int) * P ∧ v + (w : Int) * P < n * P := by
  have h1 : ((w : Int) + 1) * P ≤ n * P := Int.mul_le_mul_of_nonneg_right (by omega) (by omega)
  have h2 := Int.mul_nonneg (show (0 : Int) ≤ (w : Int) by omega) (show 0 ≤ P by omega)
  rw [Int.add_mul, Int.one_mul] at h1
  omega

/-- Four numbers, one behind the other: what is left of the first fold. -/
theorem first_at {how : Int} {u d : List Int} (hf : Few u) (hr : tRight (3 :: 4 :: u) d = true) (v x : Nat) (hv : (v : Int) < prod u) (hx : x < 3) :
    rd (foldRun how (3 :: 4 :: u) (3 :: u) [1] 0 d (List.replicate (sSize (3 :: u)).toNat (noneOf how))) ((v : Int) + (x : Int) * prod u) = foldOf how (vals d (fun w => (v : Int) + (w : Int) * prod u) (4 * x) 4) := by
  obtain ⟨hu, hu3, _, _, hs⟩ := few_right hf
  have b := at_bounds (n := 3) (show (0 : Int) ≤ (v : Int) by omega) hv (w := x) (by omega)
  obtain ⟨j, hj⟩ := Int.eq_ofNat_of_zero_le b.1
  have hset : sSize ((3 :: 4 :: u : List Int).set 1 1) = 3 * prod u := by
    have e : (3 :: 4 :: u : List Int).set 1 1 = 3 :: 1 :: u := rfl
    have hr1 : sRight (3 :: 1 :: u) = true := by
      have := right_set (s := 3 :: 4 :: u) hs (a := 1) (n := 1) (x := 4) rfl (by omega) (by omega)
      exact this
    rw [e]; unfold sSize; rw [if_pos hr1]
    simp only [prod]
    rw [Int.one_mul]
  obtain ⟨_, _, _, v', u', c1, c2, c3, c4⟩ := fold_along_run how (3 :: 4 :: u) d [3] u 1 4 rfl rfl hr (by omega) j (by rw [hset]; omega)
  obtain ⟨rfl, rfl⟩ := digits_same c1 c2 (show (0 : Int) ≤ (v : Int) by omega) hv (c3.symm.trans hj.symm)
  have c4' : rd (foldRun how (3 :: 4 :: u) (3 :: u) [1] 0 d (List.replicate (sSize (3 :: u)).toNat (noneOf how))) (j : Int) = runAt how d (fun y => (v : Int) + ((x : Int) * ((4 : Nat) : Int) + (y : Int)) * prod u) 0 4 (noneOf how) := c4
  rw [hj, c4', runAt_vals]
  unfold foldOf
  congr 1
  refine vals_congr d d _ _ 4 0 (4 * x) fun y _ => ?_
  congr 1
  congr 1
  congr 1
  omega

theorem few_vals {u d : List Int} (x : Nat) (hl : (d.length : Int) = (x : Int) * (4 * prod u)) (hd : ∀ e ∈ d, I64 e) (v : Nat) (hv : (v : Int) < prod u) (c m : Nat) (hcm : c + m ≤ 4 * x) : ∀ y ∈ vals d (fun w => (v : Int) + (w : Int) * prod u) c m, I64 y := by
  refine vals_I64 d _ hd m c fun z hz => ?_
  have := at_bounds (n := 4 * (x : Int)) (show (0 : Int) ≤ (v : Int) by omega) hv (w := c + z) (by omega)
  refine ⟨this.1, ?_⟩
  rw [hl, ← Int.mul_assoc, Int.mul_comm (x : Int) 4]
  exact this.2

theorem fold_again {how : Int} {u d : List Int} (hh : okHow how = true) (hf : Few u) (hr : tRight (3 :: 4 :: u) d = true) (hd : ∀ e ∈ d, I64 e) :
    ∃ A, tFold how (3 :: 4 :: u) d [1] = (3 :: u, A, 0) ∧ tFold how (3 :: u) A [0] = (u, bothOf how 3 u d, 0) := by
  obtain ⟨hu, hu3, _, _, hs⟩ := few_right hf
  have hl1 : leftOf [1] 0 (3 :: 4 :: u) = 3 :: u := leftOf_one 1 4 u [3] 0 (by simp)
  have hl0 : leftOf [0] 0 (3 :: u) = u := leftOf_one 0 3 u [] 0 (by simp)
  have hA : tRight (3 :: u) (foldRun how (3 :: 4 :: u) (3 :: u) [1] 0 d (List.replicate (sSize (3 :: u)).toNat (noneOf how))) = true := by
    rw [tRight_iff]
    refine ⟨hu3, ?_⟩
    have := size_range (3 :: u)
    rw [foldRun_length2, List.length_replicate]
    omega
  refine ⟨_, tFold_is hh hr (by simp [risen]; omega) hl1 hu3, ?_⟩
  rw [tFold_is hh hA (by simp [risen]) hl0 hu]
  congr 1
  congr 1
  refine rd_same (by rw [foldRun_length2, List.length_replicate, bothOf_length]) fun v hv => ?_
  rw [foldRun_length2, List.length_replicate] at hv
  have hsz : sSize u = prod u := by unfold sSize; rw [if_pos hu]
  have hvp : (v : Int) < prod u := by omega
  have hlen : (d.length : Int) = ((3 : Nat) : Int) * (4 * prod u) := by
    rw [(tRight_iff.1 hr).2]; unfold sSize; rw [if_pos hs]; rfl
  -- both at once
  have e1 := fold_both (how := how) (x := 3) (u := u) (d := d) (by omega) hr v hvp
  have e2 : (4 * (3 : Int).toNat) = 4 + (4 + 4) := rfl
  rw [e2, vals_app, vals_app] at e1
  have i1 := few_vals 3 hlen hd v hvp 0 4 (by omega)
  have i2 := few_vals 3 hlen hd v hvp 4 4 (by omega)
  have i3 := few_vals 3 hlen hd v hvp 8 4 (by omega)
  have e3 : foldOf how (vals d (fun w => (v : Int) + (w : Int) * prod u) 0 4 ++ (vals d (fun w => (v : Int) + (w : Int) * prod u) (0 + 4) 4 ++ vals d (fun w => (v : Int) + (w : Int) * prod u) (0 + 4 + 4) 4)) = stepOf how (foldOf how (vals d (fun w => (v : Int) + (w : Int) * prod u) 0 4)) (stepOf how (foldOf how (vals d (fun w => (v : Int) + (w : Int) * prod u) 4 4)) (foldOf how (vals d (fun w => (v : Int) + (w : Int) * prod u) 8 4))) := by
    rw [fold_two hh _ _ i1 (by
      intro y hy
      rcases List.mem_append.1 hy with h | h
      · exact i2 y h
      · exact i3 y h), fold_two hh _ _ i2 i3]
  rw [e3] at e1
  refine Eq.trans ?_ e1.symm
  -- one after the other
  have hset : sSize ((3 :: u : List Int).set 0 1) = prod u := by
    have e : (3 :: u : List Int).set 0 1 = 1 :: u := rfl
    have hr1 : sRight (1 :: u) = true := right_set (s := 3 :: u) hu3 (a := 0) (n := 1) (x := 3) rfl (by omega) (by omega)
    rw [e]; unfold sSize; rw [if_pos hr1]
    simp only [prod]
    rw [Int.one_mul]
  obtain ⟨_, _, _, v', u', c1, c2, c3, c4⟩ := fold_along_run how (3 :: u) _ [] u 0 3 rfl rfl hA (by omega) v (by rw [hset]; exact hvp)
  obtain ⟨rfl, rfl⟩ := digits_same c1 c2 (show (0 : Int) ≤ (v : Int) by omega) hvp (show v' + u' * prod u = (v : Int) + 0 * prod u by rw [Int.zero_mul, Int.add_zero]; exact c3.symm)
  have f0 := first_at (how := how) hf hr v 0 hvp (by omega)
  have f1 := first_at (how := how) hf hr v 1 hvp (by omega)
  have f2 := first_at (how := how) hf hr v 2 hvp (by omega)
  refine Eq.trans (show _ = _ from c4) ?_
  simp only [runAt]
  have g0 : (v : Int) + (0 * ((3 : Nat) : Int) + ((0 : Nat) : Int)) * prod u = (v : Int) + ((0 : Nat) : Int) * prod u := by congr 1
  have g1 : (v : Int) + (0 * ((3 : Nat) : Int) + ((0 + 1 : Nat) : Int)) * prod u = (v : Int) + ((1 : Nat) : Int) * prod u := by congr 1
  have g2 : (v : Int) + (0 * ((3 : Nat) : Int) + ((0 + 1 + 1 : Nat) : Int)) * prod u = (v : Int) + ((2 : Nat) : Int) * prod u := by congr 1
  rw [g0, g1, g2, f0, f1, f2]
  have s0 : stepOf how (noneOf how) (foldOf how (vals d (fun w => (v : Int) + (w : Int) * prod u) (4 * 0) 4)) = foldOf how (vals d (fun w => (v : Int) + (w : Int) * prod u) (4 * 0) 4) := step_nothing hh (foldOf_I64 hh _ _ i1 (none_I64 hh))
  rw [s0, step_assoc]

/-- A fold of two parts is the fold of their folds. -/
theorem fold_parts {how : Int} {u d : List Int} (hh : okHow how = true) (hf : Few u) (hr : tRight (3 :: 4 :: u) d = true) (hd : ∀ e ∈ d, I64 e) (v : Nat) (hv : v < (sSize u).toNat) :
    stepOf how (rd (bothOf how 1 u ((List.range (sSize (1 :: 4 :: u)).toNat).map (fun i : Nat => rd d (((0 : Nat) : Int) * (4 * prod u) + (i : Int))))) (v : Int)) (rd (bothOf how 2 u ((List.range (sSize (2 :: 4 :: u)).toNat).map (fun i : Nat => rd d (((1 : Nat) : Int) * (4 * prod u) + (i : Int))))) (v : Int)) = rd (bothOf how 3 u d) (v : Int) ∧ stepOf how (noneOf how) (rd (bothOf how 3 u d) (v : Int)) = rd (bothOf how 3 u d) (v : Int) := by
  obtain ⟨hu, hu3, h1, h2, hs⟩ := few_right hf
  have hsz : sSize u = prod u := by unfold sSize; rw [if_pos hu]
  have hvp : (v : Int) < prod u := by omega
  have hlen : (d.length : Int) = ((3 : Nat) : Int) * (4 * prod u) := by
    rw [(tRight_iff.1 hr).2]; unfold sSize; rw [if_pos hs]; rfl
  have part : ∀ (x fo : Nat), 1 ≤ x → sRight ((x : Int) :: 4 :: u) = true → rd (bothOf how (x : Int) u ((List.range (sSize ((x : Int) :: 4 :: u)).toNat).map (fun i : Nat => rd d ((fo : Int) * (4 * prod u) + (i : Int))))) (v : Int) = foldOf how (vals d (fun w => (v : Int) + (w : Int) * prod u) (4 * fo) (4 * x)) := by
    intro x fo hx hxr
    have hss : sSize ((x : Int) :: 4 :: u) = (x : Int) * (4 * prod u) := by unfold sSize; rw [if_pos hxr]; rfl
    have hrr : tRight ((x : Int) :: 4 :: u) ((List.range (sSize ((x : Int) :: 4 :: u)).toNat).map (fun i : Nat => rd d ((fo : Int) * (4 * prod u) + (i : Int)))) = true := by
      rw [tRight_iff]
      have := size_range ((x : Int) :: 4 :: u)
      exact ⟨hxr, by rw [List.length_map, List.length_range]; omega⟩
    have := fold_both (how := how) (x := (x : Int)) (by omega) hrr v hvp
    refine Eq.trans this ?_
    rw [Int.toNat_natCast]
    congr 1
    refine vals_congr _ d _ _ (4 * x) 0 (4 * fo) fun y hy => ?_
    have b := at_bounds (n := 4 * (x : Int)) (show (0 : Int) ≤ (v : Int) by omega) hvp (w := 0 + y) (by omega)
    obtain ⟨j, hj⟩ := Int.eq_ofNat_of_zero_le b.1
    have b2 := b.2
    have e4 : 4 * (x : Int) * prod u = (x : Int) * (4 * prod u) := by rw [Int.mul_comm 4 (x : Int), Int.mul_assoc]
    rw [hj, e4] at b2
    rw [hj, rd_nat _ j (by rw [List.length_map, List.length_range, hss]; omega)]
    simp only [List.getElem_map, List.getElem_range]
    congr 1
    rw [← hj]
    have e5 : ((4 * fo + y : Nat) : Int) * prod u = (fo : Int) * (4 * prod u) + ((0 + y : Nat) : Int) * prod u := by
      rw [Nat.zero_add, Int.natCast_add, Int.add_mul, Int.natCast_mul, Int.mul_comm ((4 : Nat) : Int) (fo : Int), Int.mul_assoc]
      rfl
    rw [e5]
    omega
  have p1 := part 1 0 (by omega) h1
  have p2 := part 2 1 (by omega) h2
  have e1 : rd (bothOf how 3 u d) (v : Int) = foldOf how (vals d (fun w => (v : Int) + (w : Int) * prod u) 0 (4 * 1 + 4 * 2)) := fold_both (how := how) (x := 3) (by omega) hr v hvp
  have i1 := few_vals 3 hlen hd v hvp 0 (4 * 1) (by omega)
  have i2 := few_vals 3 hlen hd v hvp (0 + 4 * 1) (4 * 2) (by omega)
  have e2 : rd (bothOf how 3 u d) (v : Int) = stepOf how (foldOf how (vals d (fun w => (v : Int) + (w : Int) * prod u) 0 (4 * 1))) (foldOf how (vals d (fun w => (v : Int) + (w : Int) * prod u) (0 + 4 * 1) (4 * 2))) := by
    rw [e1, vals_app, fold_two hh _ _ i1 i2]
  constructor
  · rw [e2]
    refine congr (congrArg _ ?_) ?_
    · exact p1
    · exact p2
  · rw [e2]
    exact step_nothing hh (step_I64 hh (foldOf_I64 hh _ _ i1 (none_I64 hh)) (foldOf_I64 hh _ _ i2 (none_I64 hh)))

end Go.Proofs.Ytkeclgfnlpkjeaa.Plain
