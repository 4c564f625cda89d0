/- What the reference beside package tensor comes to. -/
import Derived.Test.YtapoeleiicnlbaaTensor
import Derived.Test.YtapoeleiicnlbaaShape2
import Derived.Test.YtapoeleiicnlbaaQx1
import Derived.Test.YtapoeleiicnlbaaQx12
namespace Go.Proofs.Ytapoeleiicnlbaa.Plain
open Go.RowKit Go.Proofs.YtapoeleiicnlbaaW.PrintWords Go.Proofs.Ytapoeleiicnlbaa.Q

theorem ref_Tensor_ev (s d : List Int) (hs : s.length < 9223372036854775807) : Ev (fun k => parquetryref1_Tensor.f k s d) (tRight s d) := by
  unfold parquetryref1_Tensor.f
  refine Ev.bind (ref_Right_ev s hs) ?_
  by_cases h : sRight s = true
  · refine Ev.congr (fun k => by rw [if_pos h]) (Ev.cast (Ev.bind (ref_Size_ev s hs) (Ev.now _)) ?_)
    simp [tRight, h]
  · refine Ev.ret fun k => ?_
    rw [if_neg h]
    simp [tRight, h]

theorem ref_Same_l0 (s s2 : List Int) (post : List Int) : ∀ (pre post2 pre2 : List Int), pre.length = pre2.length → post.length = post2.length → (pre ++ post).length < 9223372036854775807 →
    Ev (fun k => parquetryref1_Same.l0 k (pre.length : Int) s (pre ++ post) s2 (pre2 ++ post2)) (decide (post = post2)) := by
  induction post with
  | nil =>
    intro pre post2 pre2 hpre hpost hl
    obtain rfl : post2 = [] := List.length_eq_zero_iff.1 hpost.symm
    refine Ev.one fun k => ?_
    simp only [parquetryref1_Same.l0]
    rw [if_neg (by simp)]
    simp
  | cons x xs ih =>
    intro pre post2 pre2 hpre hpost hl
    cases post2 with
    | nil => simp at hpost
    | cons a bs =>
      simp only [List.length_cons] at hpost
      have hlen := len_mid pre x xs
      have hlen2 := len_mid pre2 a bs
      have hrd : rd (pre2 ++ a :: bs) (pre.length : Int) = a := by rw [hpre]; exact rd_mid pre2 a bs
      by_cases he : x = a
      · subst he
        have := ih (pre ++ [x]) bs (pre2 ++ [x]) (by simp; omega) (by omega) (by simpa using hl)
        refine Ev.cast (Ev.step (f := fun k => parquetryref1_Same.l0 k ((pre ++ [x]).length : Int) s (pre ++ [x] ++ xs) s2 (pre2 ++ [x] ++ bs)) (fun k => ?_) this) (by simp)
        simp only [parquetryref1_Same.l0]
        rw [if_pos (by omega), if_pos (by omega), if_pos (by omega), rd_mid, hrd, if_pos rfl, wsucc _ (by omega)]
        simp
      · refine Ev.one fun k => ?_
        simp only [parquetryref1_Same.l0]
        rw [if_pos (by omega), if_pos (by omega), if_pos (by omega), rd_mid, hrd, if_neg he]
        simp [he]

theorem ref_Same_ev (s d s2 d2 : List Int) (hs : s.length < 9223372036854775807) (hd : d.length < 9223372036854775807) : Ev (fun k => parquetryref1_Same.f k s d s2 d2) (tSame s d s2 d2) := by
  unfold parquetryref1_Same.f
  refine Ev.bind (ref_Ints_ev s s2 hs) ?_
  by_cases h : s = s2
  · by_cases hl : d.length = d2.length
    · refine Ev.congr (f := fun k => parquetryref1_Same.j0 k false s d s2 d2) (fun k => by rw [if_pos (by simp [h])]; congr 1; simp [hl]) ?_
      refine Ev.cast (Ev.step (f := fun k => parquetryref1_Same.l0 k (([] : List Int).length : Int) s ([] ++ d) s2 ([] ++ d2)) (fun k => ?_) (ref_Same_l0 s s2 d [] d2 [] rfl hl (by simpa using hd))) (by simp [tSame, h])
      simp only [parquetryref1_Same.j0]
      rw [if_neg (by decide)]
      simp
    · refine Ev.one fun k => ?_
      rw [if_pos (by simp [h])]
      simp only [parquetryref1_Same.j0]
      rw [if_pos (by simp; omega)]
      have : d ≠ d2 := fun e => hl (by rw [e])
      simp [tSame, this]
  · refine Ev.one fun k => ?_
    rw [if_neg (by simp [h])]
    simp [parquetryref1_Same.j0, tSame, h]

end Go.Proofs.Ytapoeleiicnlbaa.Plain
