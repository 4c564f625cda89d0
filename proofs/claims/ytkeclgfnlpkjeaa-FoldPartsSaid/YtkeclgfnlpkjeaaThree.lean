/- One of the kit's words (three orders at once), which the trimmed words lack. -/
import Derived.Test.YtkeclgfnlpkjeaaWTab
namespace Go.Proofs.YtkeclgfnlpkjeaaW.PrintLast
open Go.Proofs.YtkeclgfnlpkjeaaW.PrintWords (Aside0)
section
variable {md : Region.Mode} {ops : Array Oper} {T : Bool × List (List Nat × List Nat)} {l li lj lk : Array Bool} {i j k : Nat}
theorem three_of (hT : rtab md ops = T) (h : (readyT T.2 l.toList == [i, j, k] && l.toList.set i true == li.toList && l.toList.set j true == lj.toList && l.toList.set k true == lk.toList) = true) :
    (Region.ready md ops l == [i, j, k] && l.setIfInBounds i true == li && l.setIfInBounds j true == lj && l.setIfInBounds k true == lk) = true := by
  simp only [Bool.and_eq_true] at h ⊢
  obtain ⟨⟨⟨h1, h2⟩, h3⟩, h4⟩ := h
  subst hT
  exact ⟨⟨⟨by rw [ready_eq]; exact h1, set_of h2⟩, set_of h3⟩, set_of h4⟩
end
end Go.Proofs.YtkeclgfnlpkjeaaW.PrintLast
