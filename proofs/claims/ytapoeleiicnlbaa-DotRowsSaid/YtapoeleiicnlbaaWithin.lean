/- Places that lie within a shape. -/
import Derived.Test.YtapoeleiicnlbaaPlain
namespace Go.Proofs.Ytapoeleiicnlbaa.Plain
open Go.RowKit Go.Proofs.YtapoeleiicnlbaaW.PrintWords

def within : List Int → List Int → Prop
  | [], [] => True
  | x :: xs, a :: bs => 0 ≤ a ∧ a < x ∧ within xs bs
  | _, _ => False

theorem within_plc (s : List Int) (hd : ∀ x ∈ s, 0 < x) (i : Int) : within s (plc s i) := by
  induction s with
  | nil => trivial
  | cons x xs ih =>
    have hx := hd x (by simp)
    exact ⟨Int.emod_nonneg _ (by omega), Int.emod_lt_of_pos _ hx, ih (fun y hy => hd y (by simp [hy]))⟩

theorem within_len {s l : List Int} (h : within s l) : l.length = s.length := by
  induction s generalizing l with
  | nil => cases l with
    | nil => rfl
    | cons _ _ => exact h.elim
  | cons x xs ih => cases l with
    | nil => exact h.elim
    | cons a bs => simp [ih h.2.2]

theorem within_idx (s : List Int) : ∀ (l : List Int) (acc : Int), within s l → 0 ≤ acc → 0 ≤ idx s l acc := by
  induction s with
  | nil => intro l acc h h0; cases l with
    | nil => simpa [idx] using h0
    | cons _ _ => exact h.elim
  | cons x xs ih => intro l acc h h0; cases l with
    | nil => exact h.elim
    | cons a bs =>
      simp only [idx]
      rw [if_neg (by have := h.1; have := h.2.1; omega)]
      refine ih bs _ h.2.2 ?_
      have := Int.mul_nonneg h0 (show 0 ≤ x by have := h.1; have := h.2.1; omega)
      have := h.1
      omega

theorem within_split (pre post : List Int) : ∀ {p : List Int}, within (pre ++ post) p → ∃ p1 p2, p = p1 ++ p2 ∧ within pre p1 ∧ within post p2 := by
  induction pre with
  | nil => intro p h; exact ⟨[], p, rfl, trivial, h⟩
  | cons x xs ih => intro p h; cases p with
    | nil => exact h.elim
    | cons a bs =>
      obtain ⟨p1, p2, rfl, h1, h2⟩ := ih h.2.2
      exact ⟨a :: p1, p2, rfl, ⟨h.1, h.2.1, h1⟩, h2⟩

end Go.Proofs.Ytapoeleiicnlbaa.Plain
