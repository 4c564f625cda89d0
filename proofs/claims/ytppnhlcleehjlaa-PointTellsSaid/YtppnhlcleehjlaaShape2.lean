/- More of the reference beside package shape: its index, lists that are the same. -/
import Derived.Test.YtppnhlcleehjlaaShape
import Derived.Test.YtppnhlcleehjlaaQx10
namespace Go.Proofs.Ytppnhlcleehjlaa.Plain
open Go.RowKit Go.Proofs.YtppnhlcleehjlaaW.PrintWords Go.Proofs.Ytppnhlcleehjlaa.Q

theorem ints_l0 (post : List Int) : ∀ (pre post2 pre2 : List Int), pre.length = pre2.length → post.length = post2.length → (pre ++ post).length < 9223372036854775807 →
    Ev (fun k => parquetryref1_Ints.l0 k (pre ++ post) (pre2 ++ post2) (pre.length : Int)) (decide (post = post2)) := by
  induction post with
  | nil =>
    intro pre post2 pre2 hpre hpost hl
    obtain rfl : post2 = [] := List.length_eq_zero_iff.1 hpost.symm
    refine Ev.one fun k => ?_
    simp only [parquetryref1_Ints.l0]
    rw [if_neg (by simp)]
    simp
  | cons x xs ih =>
    intro pre post2 pre2 hpre hpost hl
    cases post2 with
    | nil => simp at hpost
    | cons a bs =>
      simp only [List.length_cons] at hpost
      have hlen := len_mid pre x xs
      have hlen2 := len_mid pre2 a bs
      have hrd : rd (pre2 ++ a :: bs) (pre.length : Int) = a := by rw [hpre]; exact rd_mid pre2 a bs
      by_cases he : x = a
      · subst he
        have := ih (pre ++ [x]) bs (pre2 ++ [x]) (by simp; omega) (by omega) (by simpa using hl)
        refine Ev.cast (Ev.step (f := fun k => parquetryref1_Ints.l0 k (pre ++ [x] ++ xs) (pre2 ++ [x] ++ bs) ((pre ++ [x]).length : Int)) (fun k => ?_) this) (by simp)
        simp only [parquetryref1_Ints.l0]
        rw [if_pos (by omega), if_pos (by omega), if_pos (by omega), rd_mid, hrd, if_pos rfl, wsucc _ (by omega)]
        simp
      · refine Ev.one fun k => ?_
        simp only [parquetryref1_Ints.l0]
        rw [if_pos (by omega), if_pos (by omega), if_pos (by omega), rd_mid, hrd, if_neg he]
        simp [he]

theorem ref_Ints_ev (a b : List Int) (ha : a.length < 9223372036854775807) : Ev (fun k => parquetryref1_Ints.f k a b) (decide (a = b)) := by
  unfold parquetryref1_Ints.f
  by_cases h : a.length = b.length
  · refine Ev.cast (Ev.congr (f := fun k => parquetryref1_Ints.l0 k ([] ++ a) ([] ++ b) (([] : List Int).length : Int)) (fun k => ?_) (ints_l0 a [] b [] rfl h (by simpa using ha))) rfl
    rw [if_pos (by omega)]
    simp
  · refine Ev.ret fun k => ?_
    rw [if_neg (by omega)]
    have : a ≠ b := fun e => h (by rw [e])
    simp [this]


end Go.Proofs.Ytppnhlcleehjlaa.Plain
