/- What the statements of chapter 8 compare at each tensor: the two texts tell the same. -/
import Derived.Test.YtkeclgfnlpkjeaaWindow3
import Derived.Test.YtkeclgfnlpkjeaaQx18
namespace Go.Proofs.Ytkeclgfnlpkjeaa.Plain
open Go.RowKit Go.Proofs.YtkeclgfnlpkjeaaW.PrintWords Go.Proofs.Ytkeclgfnlpkjeaa.Q

theorem law8_known : Ev (fun k => parquetrylaw8_known.f k) true := Ev.of (fun k => parquetrylaw8_known.mono k) (k := 40) (by decide +kernel)
theorem law8_end : Ev (fun k => (parquetrylaw8_known.f k).bind fun t => if t = true then some true else none) true :=
  Ev.bind law8_known (Ev.ret fun k => by rw [if_pos rfl])

theorem tWindow_short (how : Int) (s d : List Int) (axis wide apart : Int) : (tWindow how s d axis wide apart).1.length ≤ 4 ∧ (tWindow how s d axis wide apart).2.1.length ≤ 4096 := by
  unfold tWindow
  by_cases h1 : (okHow how && (okW wide && okW apart)) = true
  · rw [if_pos h1]
    by_cases h2 : tRight s d = true
    · rw [if_pos h2]
      by_cases h3 : axis < 0 ∨ (s.length : Int) ≤ axis
      · rw [if_pos h3]; simp
      · rw [if_neg h3]
        have hl := right_len (tRight_iff.1 h2).1
        have hz := size_range (s.set axis.toNat (outW (rd s axis) wide apart))
        refine ⟨by simpa using hl, ?_⟩
        rw [madeOf_length]
        omega
    · rw [if_neg h2]; simp
  · rw [if_neg h1]; simp

theorem law8_same (how : Int) (s d : List Int) (axis wide apart : Int) (hs : s.length < 9223372036854775807) : Ev (fun k => parquetrylaw8_same.f k how s d axis wide apart) true := by
  unfold parquetrylaw8_same.f
  have h := tWindow_short how s d axis wide apart
  refine Ev.bind (window_Do_ev how s d axis wide apart) (Ev.bind (ref_Window_ev how s d axis wide apart hs) ?_)
  refine Ev.congr (fun k => by rw [if_pos rfl]) (Ev.bind (ref_Same_ev _ _ _ _ (by omega) (by omega)) (Ev.ret fun k => ?_))
  rw [if_pos (tSame_self _ _)]

end Go.Proofs.Ytkeclgfnlpkjeaa.Plain
