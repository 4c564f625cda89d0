/- What the statements of chapter 6 compare at each tensor: the two texts tell the same. -/
import Derived.Test.YtkeclgfnlpkjeaaFold
import Derived.Test.YtkeclgfnlpkjeaaQx20
import Derived.Test.YtkeclgfnlpkjeaaQx21
namespace Go.Proofs.Ytkeclgfnlpkjeaa.Plain
open Go.RowKit Go.Proofs.YtkeclgfnlpkjeaaW.PrintWords Go.Proofs.Ytkeclgfnlpkjeaa.Q

theorem law6_known : Ev (fun k => parquetrylaw6_known.f k) true := Ev.of (fun k => parquetrylaw6_known.mono k) (k := 40) (by decide +kernel)
theorem law6_end : Ev (fun k => (parquetrylaw6_known.f k).bind fun t => if t = true then some true else none) true :=
  Ev.bind law6_known (Ev.ret fun k => by rw [if_pos rfl])

theorem foldRun_length (how : Int) (s t a d : List Int) : ∀ (i : Nat) (out : List Int), (foldRun how s t a i d out).length = out.length := by
  induction d with
  | nil => intro i out; rfl
  | cons x xs ih => intro i out; simp only [foldRun]; rw [ih]; simp

theorem tFold_short (how : Int) (s d a : List Int) : (tFold how s d a).1.length ≤ 4 ∧ (tFold how s d a).2.1.length ≤ 4096 := by
  unfold tFold
  by_cases h1 : okHow how = true
  · rw [if_pos h1]
    by_cases h2 : tRight s d = true
    · rw [if_pos h2]
      by_cases h3 : risen (s.length : Int) (-1) a = true
      · rw [if_pos h3]
        by_cases h4 : sRight (leftOf a 0 s) = true
        · rw [if_pos h4]
          have := size_range (leftOf a 0 s)
          exact ⟨right_len h4, by rw [foldRun_length]; simp; omega⟩
        · rw [if_neg h4]; simp
      · rw [if_neg h3]; simp
    · rw [if_neg h2]; simp
  · rw [if_neg h1]; simp

theorem law6_same (how : Int) (s d a : List Int) (hs : s.length < 9223372036854775807) (ha : a.length < 9223372036854775807) : Ev (fun k => parquetrylaw6_same.f k how s d a) true := by
  unfold parquetrylaw6_same.f
  have h := tFold_short how s d a
  refine Ev.bind (fold_Do_ev how s d a ha) (Ev.bind (ref_Fold_ev how s d a hs ha) ?_)
  refine Ev.congr (fun k => by rw [if_pos rfl]) (Ev.bind (ref_Same_ev _ _ _ _ (by omega) (by omega)) (Ev.ret fun k => ?_))
  rw [if_pos (tSame_self _ _), fold_Right_is, ref_How_is, fold_None_is, ref_None_is]
  simp

end Go.Proofs.Ytkeclgfnlpkjeaa.Plain
