/- Places that lie within a shape, and their numbers; a shape with one axis shortened. -/
import Derived.Test.YtapoeleiicnlbaaTensor
import Derived.Test.YtapoeleiicnlbaaWithin
namespace Go.Proofs.Ytapoeleiicnlbaa.Plain
open Go.RowKit Go.Proofs.YtapoeleiicnlbaaW.PrintWords

theorem within_sIndex {s l : List Int} (hr : sRight s = true) (h : within s l) : 0 ≤ sIndex s l ∧ sIndex s l < sSize s := by
  have h1 : 0 ≤ sIndex s l := by
    unfold sIndex
    rw [if_pos ⟨hr, within_len h⟩]
    exact within_idx s l 0 h (by omega)
  have h2 := sIndex_range s l
  omega

theorem within_set (s : List Int) : ∀ (p : List Int) (a : Nat) (n y x : Int), within (s.set a n) p → s[a]? = some x → 0 ≤ y → y < x → within s (p.set a y) := by
  induction s with
  | nil => intro p a n y x _ h; simp at h
  | cons z zs ih =>
    intro p a n y x h hx h0 h1
    cases a with
    | zero =>
      simp only [List.getElem?_cons_zero, Option.some.injEq] at hx
      subst hx
      cases p with
      | nil => exact h.elim
      | cons b bs => exact ⟨h0, h1, h.2.2⟩
    | succ a =>
      simp only [List.getElem?_cons_succ] at hx
      cases p with
      | nil => exact h.elim
      | cons b bs => exact ⟨h.1, h.2.1, ih bs a n y x h.2.2 hx h0 h1⟩

theorem within_rd (s : List Int) : ∀ (p : List Int) (a : Nat) (n : Int), within (s.set a n) p → a < s.length → 0 ≤ rd p (a : Int) ∧ rd p (a : Int) < n := by
  induction s with
  | nil => intro p a n _ h; simp at h
  | cons z zs ih =>
    intro p a n h ha
    cases p with
    | nil => cases a <;> exact h.elim
    | cons b bs =>
      cases a with
      | zero => exact ⟨h.1, h.2.1⟩
      | succ a =>
        have := ih bs a n h.2.2 (by simpa using ha)
        have e : rd (b :: bs) ((a + 1 : Nat) : Int) = rd bs (a : Int) := by
          unfold rd
          simp
        rw [e]
        exact this

theorem okDim_set (s : List Int) (h : s.all okDim = true) (a : Nat) (n : Int) (hn : okDim n = true) : (s.set a n).all okDim = true := by
  rw [List.all_eq_true] at h ⊢
  intro x hx
  rcases List.mem_or_eq_of_mem_set hx with hx | rfl
  · exact h x hx
  · exact hn

theorem prod_set_le (s : List Int) : ∀ (a : Nat) (n x : Int), s.all okDim = true → s[a]? = some x → 0 ≤ n → n ≤ x → prod (s.set a n) ≤ prod s := by
  induction s with
  | nil => intro a n x _ h; simp at h
  | cons z zs ih =>
    intro a n x hd hx h0 h1
    simp only [List.all_cons, Bool.and_eq_true] at hd
    cases a with
    | zero =>
      simp only [List.getElem?_cons_zero, Option.some.injEq] at hx
      subst hx
      simp only [List.set_cons_zero, prod]
      exact Int.mul_le_mul_of_nonneg_right h1 (prod_nonneg zs hd.2)
    | succ a =>
      simp only [List.getElem?_cons_succ] at hx
      simp only [List.set_cons_succ, prod]
      exact Int.mul_le_mul_of_nonneg_left (ih a n x hd.2 hx h0 h1) (okDim_iff.1 hd.1).1

theorem right_set {s : List Int} (hr : sRight s = true) {a : Nat} {n x : Int} (hx : s[a]? = some x) (h0 : 0 ≤ n) (h1 : n ≤ x) : sRight (s.set a n) = true := by
  obtain ⟨hl, hd, hp⟩ := sRight_iff.1 hr
  have hxm : x ∈ s := List.mem_of_getElem? hx
  have hx32 := okDim_iff.1 (List.all_eq_true.1 hd x hxm)
  have := prod_set_le s a n x hd hx h0 h1
  exact sRight_iff.2 ⟨by simpa using hl, okDim_set s hd a n (okDim_iff.2 (by omega)), by omega⟩

end Go.Proofs.Ytapoeleiicnlbaa.Plain
