/- More of the reference beside package shape: its index, lists that are the same. -/
import Derived.Test.YtapoeleiicnlbaaShape
import Derived.Test.YtapoeleiicnlbaaQx1
import Derived.Test.YtapoeleiicnlbaaQx12
import Derived.Test.YtapoeleiicnlbaaQx14
namespace Go.Proofs.Ytapoeleiicnlbaa.Plain
open Go.RowKit Go.Proofs.YtapoeleiicnlbaaW.PrintWords Go.Proofs.Ytapoeleiicnlbaa.Q

theorem ref_Index_l0 (post : List Int) : ∀ (pre post2 pre2 : List Int) (acc : Int), pre.length = pre2.length → post.length = post2.length → pre.length + post.length ≤ 4 → 0 ≤ acc → acc < 32 ^ pre.length → post.all okDim = true →
    Ev (fun k => parquetryref1_Index.l0 k (pre ++ post) (pre2 ++ post2) acc (pre.length : Int)) (idx post post2 acc) := by
  induction post with
  | nil =>
    intro pre post2 pre2 acc hpre hpost hl h0 h1 hd
    obtain rfl : post2 = [] := List.length_eq_zero_iff.1 hpost.symm
    refine Ev.one fun k => ?_
    simp only [parquetryref1_Index.l0]
    rw [if_neg (by simp)]
    simp [idx]
  | cons x xs ih =>
    intro pre post2 pre2 acc hpre hpost hl h0 h1 hd
    cases post2 with
    | nil => simp at hpost
    | cons a bs =>
      simp only [List.length_cons] at hl hpost
      simp only [List.all_cons, Bool.and_eq_true] at hd
      have hlen := len_mid pre x xs
      have hlen2 := len_mid pre2 a bs
      have hrd : rd (pre2 ++ a :: bs) (pre.length : Int) = a := by rw [hpre]; exact rd_mid pre2 a bs
      by_cases hin : a < 0 ∨ x ≤ a
      · refine Ev.one fun k => ?_
        simp only [parquetryref1_Index.l0, idx]
        rw [if_pos (by omega), if_pos (by omega), if_pos (by omega), rd_mid, hrd, if_pos hin]
        by_cases ha : a < 0
        · rw [if_pos ha]
        · rw [if_neg ha, if_pos (by omega)]
      · obtain ⟨e, e0, e1⟩ := idx_acc (n := pre.length) (by omega) h0 h1 hd.1 (a := a) (by omega) (by omega)
        have := ih (pre ++ [x]) bs (pre2 ++ [a]) (acc * x + a) (by simp; omega) (by omega) (by simp; omega) e0 (by simpa using e1) hd.2
        refine Ev.cast (Ev.step (f := fun k => parquetryref1_Index.l0 k (pre ++ [x] ++ xs) (pre2 ++ [a] ++ bs) (acc * x + a) ((pre ++ [x]).length : Int)) (fun k => ?_) this) ?_
        · simp only [parquetryref1_Index.l0]
          rw [if_pos (by omega), if_pos (by omega), if_pos (by omega), rd_mid, hrd, if_neg (by omega), if_neg (by omega), e, wsucc _ (by omega)]
          simp
        · simp only [idx]
          rw [if_neg hin]

theorem ref_Index_ev (s l : List Int) (hs : s.length < 9223372036854775807) : Ev (fun k => parquetryref1_Index.f k s l) (sIndex s l) := by
  unfold parquetryref1_Index.f
  refine Ev.bind (ref_Right_ev s hs) ?_
  by_cases h : sRight s = true
  · by_cases hl : l.length = s.length
    · have := ref_Index_l0 s [] l [] 0 rfl hl.symm (by simpa using right_len h) (by decide) (by decide) (right_dims h)
      refine Ev.cast (Ev.step (f := fun k => parquetryref1_Index.l0 k ([] ++ s) ([] ++ l) 0 (([] : List Int).length : Int)) (fun k => ?_) this) ?_
      · rw [if_pos h]
        simp only [parquetryref1_Index.j0]
        rw [if_neg (by simp [hl])]
        simp
      · simp [sIndex, h, hl]
    · refine Ev.one fun k => ?_
      rw [if_pos h]
      simp only [parquetryref1_Index.j0]
      rw [if_pos (by simp; omega)]
      simp [sIndex, hl]
  · refine Ev.one fun k => ?_
    rw [if_neg h]
    simp only [parquetryref1_Index.j0]
    simp [sIndex, h]

theorem ints_l0 (post : List Int) : ∀ (pre post2 pre2 : List Int), pre.length = pre2.length → post.length = post2.length → (pre ++ post).length < 9223372036854775807 →
    Ev (fun k => parquetryref1_Ints.l0 k (pre ++ post) (pre2 ++ post2) (pre.length : Int)) (decide (post = post2)) := by
  induction post with
  | nil =>
    intro pre post2 pre2 hpre hpost hl
    obtain rfl : post2 = [] := List.length_eq_zero_iff.1 hpost.symm
    refine Ev.one fun k => ?_
    simp only [parquetryref1_Ints.l0]
    rw [if_neg (by simp)]
    simp
  | cons x xs ih =>
    intro pre post2 pre2 hpre hpost hl
    cases post2 with
    | nil => simp at hpost
    | cons a bs =>
      simp only [List.length_cons] at hpost
      have hlen := len_mid pre x xs
      have hlen2 := len_mid pre2 a bs
      have hrd : rd (pre2 ++ a :: bs) (pre.length : Int) = a := by rw [hpre]; exact rd_mid pre2 a bs
      by_cases he : x = a
      · subst he
        have := ih (pre ++ [x]) bs (pre2 ++ [x]) (by simp; omega) (by omega) (by simpa using hl)
        refine Ev.cast (Ev.step (f := fun k => parquetryref1_Ints.l0 k (pre ++ [x] ++ xs) (pre2 ++ [x] ++ bs) ((pre ++ [x]).length : Int)) (fun k => ?_) this) (by simp)
        simp only [parquetryref1_Ints.l0]
        rw [if_pos (by omega), if_pos (by omega), if_pos (by omega), rd_mid, hrd, if_pos rfl, wsucc _ (by omega)]
        simp
      · refine Ev.one fun k => ?_
        simp only [parquetryref1_Ints.l0]
        rw [if_pos (by omega), if_pos (by omega), if_pos (by omega), rd_mid, hrd, if_neg he]
        simp [he]

theorem ref_Ints_ev (a b : List Int) (ha : a.length < 9223372036854775807) : Ev (fun k => parquetryref1_Ints.f k a b) (decide (a = b)) := by
  unfold parquetryref1_Ints.f
  by_cases h : a.length = b.length
  · refine Ev.cast (Ev.congr (f := fun k => parquetryref1_Ints.l0 k ([] ++ a) ([] ++ b) (([] : List Int).length : Int)) (fun k => ?_) (ints_l0 a [] b [] rfl h (by simpa using ha))) rfl
    rw [if_pos (by omega)]
    simp
  · refine Ev.ret fun k => ?_
    rw [if_neg (by omega)]
    have : a ≠ b := fun e => h (by rw [e])
    simp [this]


end Go.Proofs.Ytapoeleiicnlbaa.Plain
