/- Folds of folds: what is folded along one axis and then along another is what is folded along both; a fold of two parts is the fold of their folds. -/
import Derived.Test.YtkeclgfnlpkjeaaFoldOps
namespace Go.Proofs.Ytkeclgfnlpkjeaa.Plain
open Go.RowKit Go.Proofs.YtkeclgfnlpkjeaaW.PrintWords

/-! ### The ways of folding -/
theorem wrap_mul_r (a y : Int) : wrap64 (y * wrap64 a) = wrap64 (y * a) := by rw [Int.mul_comm, wrap_mul, Int.mul_comm]
theorem mn_assoc (x y z : Int) : mn (mn x y) z = mn x (mn y z) := by
  unfold mn
  by_cases h1 : y < x
  · by_cases h2 : z < y
    · rw [if_pos h1, if_pos h2, if_pos (by omega)]
    · rw [if_pos h1, if_neg h2, if_pos h1]
  · by_cases h2 : z < y
    · rw [if_neg h1, if_pos h2]
    · rw [if_neg h1, if_neg h2, if_neg h1, if_neg (by omega)]
theorem mx_assoc (x y z : Int) : mx (mx x y) z = mx x (mx y z) := by
  unfold mx
  by_cases h1 : x < y
  · by_cases h2 : y < z
    · rw [if_pos h1, if_pos h2, if_pos (by omega)]
    · rw [if_pos h1, if_neg h2, if_pos h1]
  · by_cases h2 : y < z
    · rw [if_neg h1, if_pos h2]
    · rw [if_neg h1, if_neg h2, if_neg h1, if_neg (by omega)]
theorem step_assoc (how x y z : Int) : stepOf how (stepOf how x y) z = stepOf how x (stepOf how y z) := by
  unfold stepOf
  by_cases h1 : how = 1
  · rw [if_pos h1, if_pos h1, if_pos h1, if_pos h1]
    unfold wrap64
    omega
  · rw [if_neg h1, if_neg h1, if_neg h1, if_neg h1]
    by_cases h2 : how = 2
    · rw [if_pos h2, if_pos h2, if_pos h2, if_pos h2, wrap_mul, wrap_mul_r, Int.mul_assoc]
    · rw [if_neg h2, if_neg h2, if_neg h2, if_neg h2]
      by_cases h3 : how = 3
      · rw [if_pos h3, if_pos h3, if_pos h3, if_pos h3, mn_assoc]
      · rw [if_neg h3, if_neg h3, if_neg h3, if_neg h3]
        by_cases h4 : how = 4
        · rw [if_pos h4, if_pos h4, if_pos h4, if_pos h4, mx_assoc]
        · rw [if_neg h4, if_neg h4]
theorem wrap_I64 (a : Int) : I64 (wrap64 a) := by
  unfold I64 wrap64
  omega
theorem how_of {how : Int} (hh : okHow how = true) : how = 1 ∨ how = 2 ∨ how = 3 ∨ how = 4 := by
  simp only [okHow, Bool.and_eq_true, decide_eq_true_eq] at hh
  omega
theorem step_I64 {how a b : Int} (hh : okHow how = true) (ha : I64 a) (hb : I64 b) : I64 (stepOf how a b) := by
  rcases how_of hh with rfl | rfl | rfl | rfl
  · exact wrap_I64 _
  · exact wrap_I64 _
  · show I64 (mn a b)
    unfold mn
    by_cases h : b < a
    · rw [if_pos h]; exact hb
    · rw [if_neg h]; exact ha
  · show I64 (mx a b)
    unfold mx
    by_cases h : a < b
    · rw [if_pos h]; exact hb
    · rw [if_neg h]; exact ha
theorem none_I64 {how : Int} (hh : okHow how = true) : I64 (noneOf how) := by
  rcases how_of hh with rfl | rfl | rfl | rfl <;> (unfold I64; decide)
theorem step_nothing_r {how v : Int} (hh : okHow how = true) (hv : I64 v) : stepOf how v (noneOf how) = v := by
  unfold I64 at hv
  rcases how_of hh with rfl | rfl | rfl | rfl
  · show wrap64 (v + 0) = v
    rw [Int.add_zero, w64 hv.1 hv.2]
  · show wrap64 (v * 1) = v
    rw [Int.mul_one, w64 hv.1 hv.2]
  · show mn v 9223372036854775807 = v
    unfold mn
    rw [if_neg (by omega)]
  · show mx v (-9223372036854775808) = v
    unfold mx
    rw [if_neg (by omega)]

def foldOf (how : Int) (l : List Int) : Int := l.foldl (stepOf how) (noneOf how)
theorem foldOf_I64 {how : Int} (hh : okHow how = true) (l : List Int) : ∀ v : Int, (∀ y ∈ l, I64 y) → I64 v → I64 (l.foldl (stepOf how) v) := by
  induction l with
  | nil => intro v _ hv; exact hv
  | cons y l ih => intro v h hv; exact ih _ (fun z hz => h z (List.mem_cons_of_mem _ hz)) (step_I64 hh hv (h y List.mem_cons_self))
theorem foldl_start {how : Int} (hh : okHow how = true) (l : List Int) : ∀ x : Int, (∀ y ∈ l, I64 y) → I64 x → l.foldl (stepOf how) x = stepOf how x (foldOf how l) := by
  induction l with
  | nil => intro x _ hx; exact (step_nothing_r hh hx).symm
  | cons y l ih =>
    intro x h hx
    have hl : ∀ z ∈ l, I64 z := fun z hz => h z (List.mem_cons_of_mem _ hz)
    have hy := h y List.mem_cons_self
    have e1 : foldOf how (y :: l) = stepOf how y (foldOf how l) := by
      show l.foldl (stepOf how) (stepOf how (noneOf how) y) = _
      rw [step_nothing hh hy]
      exact ih y hl hy
    rw [e1, ← step_assoc]
    exact ih _ hl (step_I64 hh hx hy)
theorem fold_two {how : Int} (hh : okHow how = true) (a b : List Int) (ha : ∀ y ∈ a, I64 y) (hb : ∀ y ∈ b, I64 y) : foldOf how (a ++ b) = stepOf how (foldOf how a) (foldOf how b) := by
  unfold foldOf
  rw [List.foldl_append]
  exact foldl_start hh b _ hb (foldOf_I64 hh a _ ha (none_I64 hh))

/-! ### Numbers, one behind the other -/
def vals (D : List Int) (at_ : Nat → Int) : Nat → Nat → List Int
  | _, 0 => []
  | c, m + 1 => rd D (at_ c) :: vals D at_ (c + 1) m
theorem runAt_vals (how : Int) (D : List Int) (at_ : Nat → Int) (m : Nat) : ∀ (c : Nat) (v : Int), runAt how D at_ c m v = (vals D at_ c m).foldl (stepOf how) v := by
  induction m with
  | zero => intro c v; rfl
  | succ m ih => intro c v; simp only [runAt, vals, List.foldl_cons]; rw [ih]
theorem vals_app (D : List Int) (at_ : Nat → Int) (n m : Nat) : ∀ c : Nat, vals D at_ c (m + n) = vals D at_ c m ++ vals D at_ (c + m) n := by
  induction m with
  | zero => intro c; simp [vals]
  | succ m ih =>
    intro c
    have e : m + 1 + n = (m + n) + 1 := by omega
    rw [e]
    simp only [vals, List.cons_append]
    rw [ih, show c + 1 + m = c + (m + 1) by omega]
theorem vals_congr (D D2 : List Int) (f g : Nat → Int) (m : Nat) : ∀ c c2 : Nat, (∀ x, x < m → rd D (f (c + x)) = rd D2 (g (c2 + x))) → vals D f c m = vals D2 g c2 m := by
  induction m with
  | zero => intro c c2 _; rfl
  | succ m ih =>
    intro c c2 h
    simp only [vals]
    have h0 := h 0 (by omega)
    rw [Nat.add_zero, Nat.add_zero] at h0
    rw [h0, ih (c + 1) (c2 + 1) (fun x hx => by rw [show c + 1 + x = c + (x + 1) by omega, show c2 + 1 + x = c2 + (x + 1) by omega]; exact h (x + 1) (by omega))]
theorem vals_I64 (D : List Int) (f : Nat → Int) (hD : ∀ x ∈ D, I64 x) (m : Nat) : ∀ c : Nat, (∀ x, x < m → 0 ≤ f (c + x) ∧ f (c + x) < (D.length : Int)) → ∀ y ∈ vals D f c m, I64 y := by
  induction m with
  | zero => intro c _ y hy; simp [vals] at hy
  | succ m ih =>
    intro c h y hy
    simp only [vals, List.mem_cons] at hy
    rcases hy with rfl | hy
    · have h0 := h 0 (by omega)
      rw [Nat.add_zero] at h0
      obtain ⟨k, hk⟩ := Int.eq_ofNat_of_zero_le h0.1
      rw [hk] at h0 ⊢
      have hlt : k < D.length := by omega
      rw [rd_nat D k hlt]
      exact hD _ (List.getElem_mem hlt)
    · exact ih (c + 1) (fun x hx => by rw [show c + 1 + x = c + (x + 1) by omega]; exact h (x + 1) (by omega)) y hy

/-! ### Folds along both of the first two axes -/
theorem leftOf_past (a xs : List Int) : ∀ j : Int, (∀ x ∈ a, x < j) → leftOf a j xs = xs := by
  induction xs with
  | nil => intro j _; rfl
  | cons x xs ih =>
    intro j h
    simp only [leftOf]
    rw [if_neg (fun hm => by have := h j hm; omega), ih (j + 1) (fun y hy => by have := h y hy; omega)]
theorem left_two (x y : Int) (u : List Int) : leftOf [0, 1] 0 (x :: y :: u) = u := by
  simp only [leftOf]
  rw [if_pos (by simp), if_pos (by simp)]
  exact leftOf_past [0, 1] u _ (fun z hz => by simp at hz; omega)

theorem front_right {x : Int} {u : List Int} (hx : 1 ≤ x) (h : sRight (x :: 4 :: u) = true) : sRight u = true ∧ sSize u = prod u ∧ sSize (x :: 4 :: u) = x * (4 * prod u) ∧ 0 ≤ prod u := by
  have h1 := sRight_iff.1 h
  have hd : u.all okDim = true := by
    have := h1.2.1
    simp only [List.all_cons, Bool.and_eq_true] at this
    exact this.2.2
  have hp := prod_nonneg u hd
  have hle : prod u ≤ x * (4 * prod u) := by
    have : 1 * (4 * prod u) ≤ x * (4 * prod u) := Int.mul_le_mul_of_nonneg_right hx (by omega)
    omega
  have hs : sRight u = true := by
    rw [sRight_iff]
    refine ⟨by have := h1.1; simp at this; omega, hd, ?_⟩
    have h2 : x * (4 * prod u) ≤ 4096 := h1.2.2
    omega
  refine ⟨hs, by unfold sSize; rw [if_pos hs], ?_, hp⟩
  unfold sSize
  rw [if_pos h]
  rfl

theorem goesTo_two {x : Int} {u d : List Int} (hx : 1 ≤ x) (hr : tRight (x :: 4 :: u) d = true) (i : Nat) (hi : i < d.length) : goesTo (x :: 4 :: u) u [0, 1] (i : Int) = (i : Int) % prod u ∧ 0 < prod u := by
  have hsr := (tRight_iff.1 hr).1
  have hdl := (tRight_iff.1 hr).2
  obtain ⟨hu, _, _, _⟩ := front_right hx hsr
  obtain ⟨_, hpos⟩ := size_dims (s := x :: 4 :: u) (i := (i : Int)) (by omega) (by omega)
  have hpu : ∀ z ∈ u, 0 < z := fun z hz => hpos z (by simp [hz])
  have e : plc (x :: 4 :: u) (i : Int) = ((i : Int) / prod (4 :: u) % x) :: ((i : Int) / prod u % 4) :: plc u (i : Int) := rfl
  unfold goesTo
  rw [e, left_two]
  unfold sIndex
  rw [if_pos ⟨hu, plc_length u (i : Int)⟩, idx_plc u hpu (fun t => posOr t) (i : Int) 0]
  exact ⟨by rw [Int.zero_mul, Int.zero_add], prod_pos' hpu⟩

theorem fold_both {how x : Int} {u d : List Int} (hx : 1 ≤ x) (hr : tRight (x :: 4 :: u) d = true) (v : Nat) (hv : (v : Int) < prod u) :
    rd (foldRun how (x :: 4 :: u) u [0, 1] 0 d (List.replicate (sSize u).toNat (noneOf how))) (v : Int) = foldOf how (vals d (fun w => (v : Int) + (w : Int) * prod u) 0 (4 * x.toNat)) := by
  have hsr := (tRight_iff.1 hr).1
  have hdl := (tRight_iff.1 hr).2
  obtain ⟨hu, hsz, hss, hp0⟩ := front_right hx hsr
  have hP : 0 < prod u := by omega
  obtain ⟨n, hn⟩ := Int.eq_ofNat_of_zero_le (show 0 ≤ x by omega)
  have hlen : (d.length : Int) = (4 * (n : Int)) * prod u := by
    rw [hdl, hss, hn, ← Int.mul_assoc, Int.mul_comm (n : Int) 4]
  have hnx : x.toNat = n := by omega
  rw [hnx]
  have := foldRun_at how (x :: 4 :: u) u [0, 1] d v (fun w => (v : Int) + (w : Int) * prod u) (4 * n) (fun i hi => by
      rw [(goesTo_two hx hr i hi).1]
      constructor
      · intro h
        have hq := Int.ediv_nonneg (show (0 : Int) ≤ (i : Int) by omega) (show 0 ≤ prod u by omega)
        have hm := Int.emod_add_mul_ediv (i : Int) (prod u)
        have hi2 : (i : Int) < (4 * (n : Int)) * prod u := by omega
        have hlt : (i : Int) / prod u < 4 * (n : Int) := Int.ediv_lt_of_lt_mul hP hi2
        refine ⟨((i : Int) / prod u).toNat, by omega, ?_⟩
        rw [Int.toNat_of_nonneg hq, ← h, Int.mul_comm ((i : Int) / prod u)]
        exact hm.symm
      · rintro ⟨w, hw, h⟩
        rw [h, Int.add_mul_emod_self_right]
        exact Int.emod_eq_of_lt (by omega) hv) (fun a b h => by
      have := Int.mul_lt_mul_of_pos_right (show (a : Int) < (b : Int) by omega) hP
      omega) (fun w hw => by
      have : ((w : Int) + 1) * prod u ≤ (4 * (n : Int)) * prod u := Int.mul_le_mul_of_nonneg_right (by omega) (by omega)
      rw [Int.add_mul, Int.one_mul] at this
      omega) (fun i hi => by rw [(goesTo_two hx hr i hi).1]; exact Int.emod_nonneg _ (by omega)) d [] 0 (List.replicate (sSize u).toNat (noneOf how)) rfl (by simp; omega) (by omega) (fun _ => by simp only [List.length_nil]; omega) (fun w hw => absurd hw (by omega))
  simp only [List.length_nil, Nat.sub_zero] at this
  rw [this, rd_rep _ _ _ (by omega), runAt_vals]
  rfl

end Go.Proofs.Ytkeclgfnlpkjeaa.Plain
