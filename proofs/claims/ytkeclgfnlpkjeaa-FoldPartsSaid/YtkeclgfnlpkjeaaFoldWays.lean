/- The ways to fold: which there are, one step, nothing. -/
import Derived.Test.YtkeclgfnlpkjeaaPlain
import Derived.Test.YtkeclgfnlpkjeaaQx10
import Derived.Test.YtkeclgfnlpkjeaaQx13
import Derived.Test.YtkeclgfnlpkjeaaQx16
namespace Go.Proofs.Ytkeclgfnlpkjeaa.Plain
open Go.RowKit Go.Proofs.YtkeclgfnlpkjeaaW.PrintWords Go.Proofs.Ytkeclgfnlpkjeaa.Q

/-! ### Ways to fold -/
def okHow (a : Int) : Bool := decide (1 ≤ a) && decide (a ≤ 4)
def noneOf (how : Int) : Int := if how = 2 then 1 else (if how = 3 then 9223372036854775807 else (if how = 4 then (-9223372036854775808) else 0))
def stepOf (how a b : Int) : Int := if how = 1 then wrap64 (a + b) else (if how = 2 then wrap64 (a * b) else (if how = 3 then mn a b else (if how = 4 then mx a b else 0)))

theorem fold_Right_is (a : Int) : fold_Right.f a = some (okHow a) := by
  unfold fold_Right.f okHow
  by_cases h : a ≥ 1
  · have h1 : 1 ≤ a := h
    rw [if_pos h]; simp [h1]
  · have h1 : ¬ 1 ≤ a := h
    rw [if_neg h]; simp [h1]
theorem ref_How_is (a : Int) : parquetryref4_How.f a = some (okHow a) := fold_Right_is a
theorem fold_None_is (a : Int) : fold_None.f a = some (noneOf a) := by
  unfold fold_None.f noneOf
  by_cases h2 : a = 2
  · rw [if_pos h2, if_pos h2]
  · rw [if_neg h2, if_neg h2]
    by_cases h3 : a = 3
    · rw [if_pos h3, if_pos h3]
    · rw [if_neg h3, if_neg h3]
      by_cases h4 : a = 4
      · rw [if_pos h4, if_pos h4]
      · rw [if_neg h4, if_neg h4]
theorem ref_None_is (a : Int) : parquetryref4_None.f a = some (noneOf a) := fold_None_is a
theorem fold_Step_is (how a b : Int) : fold_Step.f how a b = some (stepOf how a b) := by
  unfold fold_Step.f stepOf
  by_cases h1 : how = 1
  · rw [if_pos h1, if_pos h1]
  · rw [if_neg h1, if_neg h1]
    by_cases h2 : how = 2
    · rw [if_pos h2, if_pos h2]
    · rw [if_neg h2, if_neg h2]
      by_cases h3 : how = 3
      · rw [if_pos h3, if_pos h3]
      · rw [if_neg h3, if_neg h3]
        by_cases h4 : how = 4
        · rw [if_pos h4, if_pos h4]
        · rw [if_neg h4, if_neg h4]
theorem ref_Put_is (how a b : Int) : parquetryref4_Put.f how a b = some (stepOf how a b) := fold_Step_is how a b

end Go.Proofs.Ytkeclgfnlpkjeaa.Plain
