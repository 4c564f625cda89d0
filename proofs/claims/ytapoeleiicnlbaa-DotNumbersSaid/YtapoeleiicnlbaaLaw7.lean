/- What the statements of chapter 7 compare at each pair of tensors: the two texts tell the same. -/
import Derived.Test.YtapoeleiicnlbaaDotRef
import Derived.Test.YtapoeleiicnlbaaSameInt
import Derived.Test.YtapoeleiicnlbaaQx16
import Derived.Test.YtapoeleiicnlbaaQx17
namespace Go.Proofs.Ytapoeleiicnlbaa.Plain
open Go.RowKit Go.Proofs.YtapoeleiicnlbaaW.PrintWords Go.Proofs.Ytapoeleiicnlbaa.Q

theorem law7_known : Ev (fun k => parquetrylaw7_known.f k) true := Ev.of (fun k => parquetrylaw7_known.mono k) (k := 40) (by decide +kernel)
theorem law7_end : Ev (fun k => (parquetrylaw7_known.f k).bind fun t => if t = true then some true else none) true :=
  Ev.bind law7_known (Ev.ret fun k => by rw [if_pos rfl])

theorem tDot_short (s1 d1 s2 d2 : List Int) (n : Int) : (tDot s1 d1 s2 d2 n).1.length ≤ 4 ∧ (tDot s1 d1 s2 d2 n).2.1.length ≤ 4096 := by
  unfold tDot
  by_cases h1 : tRight s1 d1 = true ∧ tRight s2 d2 = true
  · rw [if_pos h1]
    by_cases h2 : (dShape s1 s2 n).2 = 0
    · rw [if_pos h2]
      have hl := dShape_len s1 s2 n
      have hz := size_range (dShape s1 s2 n).1
      refine ⟨hl, ?_⟩
      simp only
      rw [madeOf_length]
      omega
    · rw [if_neg h2]; simp
  · rw [if_neg h1]; simp

theorem law7_same (s1 d1 s2 d2 : List Int) (n : Int) (hs1 : s1.length < 9223372036854775807) (hs2 : s2.length < 9223372036854775807) : Ev (fun k => parquetrylaw7_same.f k s1 d1 s2 d2 n) true := by
  unfold parquetrylaw7_same.f
  have h := tDot_short s1 d1 s2 d2 n
  have h4 := dShape_len s1 s2 n
  refine Ev.bind (dot_Do_ev s1 d1 s2 d2 n) (Ev.bind (ref_Dot_ev s1 d1 s2 d2 n hs1 hs2) (Ev.bind (dot_Shape_ev s1 s2 n) (Ev.bind (ref_DotShape_ev s1 s2 n hs1 hs2) ?_)))
  refine Ev.congr (fun k => by rw [if_pos rfl]) (Ev.bind (ref_Same_ev _ _ _ _ (by omega) (by omega)) ?_)
  refine Ev.congr (fun k => by rw [if_pos (tSame_self _ _), if_pos rfl]) (Ev.bind (same_int_ev _ (by omega)) (Ev.ret fun k => by rw [if_pos rfl]))

end Go.Proofs.Ytapoeleiicnlbaa.Plain
