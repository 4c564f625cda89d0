/- Folds: their numbers, one behind the other; the ways of folding are sums with a nothing. -/
import Derived.Test.YtkeclgfnlpkjeaaAlong
import Derived.Test.YtkeclgfnlpkjeaaQx16
namespace Go.Proofs.Ytkeclgfnlpkjeaa.Plain
open Go.RowKit Go.Proofs.YtkeclgfnlpkjeaaW.PrintWords Go.Proofs.Ytkeclgfnlpkjeaa.Q

theorem rd_same {a b : List Int} (hl : a.length = b.length) (h : ∀ i : Nat, i < a.length → rd a (i : Int) = rd b (i : Int)) : a = b := by
  refine List.ext_getElem hl fun i h1 h2 => ?_
  rw [← rd_nat a i h1, ← rd_nat b i h2]
  exact h i h1

theorem wrap_add (z m : Int) : wrap64 (z + 18446744073709551616 * m) = wrap64 z := by
  unfold wrap64
  omega
theorem wrap_is (a : Int) : ∃ k : Int, wrap64 a = a + 18446744073709551616 * k := ⟨-((a + 9223372036854775808) / 18446744073709551616), by unfold wrap64; omega⟩
theorem wrap_mul (a y : Int) : wrap64 (wrap64 a * y) = wrap64 (a * y) := by
  obtain ⟨k, hk⟩ := wrap_is a
  rw [hk, Int.add_mul, Int.mul_assoc, wrap_add]

theorem step_nothing {how v : Int} (hh : okHow how = true) (hv : I64 v) : stepOf how (noneOf how) v = v := by
  simp only [okHow, Bool.and_eq_true, decide_eq_true_eq] at hh
  unfold I64 at hv
  have : how = 1 ∨ how = 2 ∨ how = 3 ∨ how = 4 := by omega
  rcases this with rfl | rfl | rfl | rfl
  · simp only [stepOf, noneOf, if_true]
    rw [if_neg (by decide), if_neg (by decide), if_neg (by decide), Int.zero_add, w64 hv.1 hv.2]
  · simp only [stepOf, noneOf, if_true]
    rw [if_neg (by decide), Int.one_mul, w64 hv.1 hv.2]
  · show mn 9223372036854775807 v = v
    unfold mn
    by_cases h : v < 9223372036854775807
    · rw [if_pos h]
    · rw [if_neg h]; omega
  · show mx (-9223372036854775808) v = v
    unfold mx
    by_cases h : -9223372036854775808 < v
    · rw [if_pos h]
    · rw [if_neg h]; omega

theorem foldRun_length2 (how : Int) (s t a d : List Int) : ∀ (i : Nat) (out : List Int), (foldRun how s t a i d out).length = out.length := by
  induction d with
  | nil => intro i out; rfl
  | cons x xs ih => intro i out; simp only [foldRun]; rw [ih]; simp

theorem ref_number_at (s d q : List Int) (hs : s.length < 9223372036854775807) (hr : tRight s d = true) (hw : within s q) : Ev (fun k => parquetryref4_number.f k s d q) (rd d (sIndex s q)) := by
  have h := within_sIndex (tRight_iff.1 hr).1 hw
  have hd := (tRight_iff.1 hr).2
  unfold parquetryref4_number.f
  refine Ev.bind (ref_Index_ev s q hs) (Ev.ret fun k => ?_)
  rw [if_pos h.1, if_pos (by omega)]

end Go.Proofs.Ytkeclgfnlpkjeaa.Plain
