/- More of package shape and of the reference beside it: strides. -/
import Derived.Test.YthkcceknccdmpaaShape
import Derived.Test.YthkcceknccdmpaaQx14
namespace Go.Proofs.Ythkcceknccdmpaa.Plain
open Go.RowKit Go.Proofs.YthkcceknccdmpaaW.PrintWords Go.Proofs.Ythkcceknccdmpaa.Q

/-- From the last axis on: what lies behind is told, what lies ahead is still 0. -/
theorem shape_Strides_l0 (n : Nat) : ∀ (pre post : List Int), pre.length = n → pre.length + post.length ≤ 4 → (pre ++ post).all okDim = true →
    Ev (fun k => shape_Strides.l0 k (pre ++ post) (List.replicate n 0 ++ strs post) (prod post) ((n : Int) - 1)) (strs (pre ++ post)) := by
  induction n with
  | zero =>
    intro pre post hp hl hd
    obtain rfl : pre = [] := List.length_eq_zero_iff.1 hp
    refine Ev.one fun k => ?_
    simp only [shape_Strides.l0]
    rw [if_neg (by omega)]
    simp
  | succ n ih =>
    intro pre post hp hl hd
    obtain ⟨p, x, rfl⟩ := snoc_of pre (by intro e; subst e; simp at hp)
    simp only [List.length_append, List.length_cons, List.length_nil] at hp hl
    have hpn : p.length = n := by omega
    have hd2 := hd
    rw [show p ++ [x] ++ post = p ++ (x :: post) from by simp] at hd2
    obtain ⟨hd3, hd4⟩ := all_split hd2
    have hs := prod_small (s := x :: post) (by simp only [List.length_cons]; omega) hd4
    have hlen := len_mid p x post
    have hl2 : ((List.replicate (n + 1) (0 : Int) ++ strs post).length : Int) = (n : Int) + 1 + post.length := by simp [strs_length]
    have := ih p (x :: post) hpn (by simp only [List.length_cons]; omega) hd2
    refine Ev.cast (Ev.step (f := fun k => shape_Strides.l0 k (p ++ x :: post) (List.replicate n 0 ++ strs (x :: post)) (prod (x :: post)) ((n : Int) - 1)) (fun k => ?_) this) (by simp)
    simp only [shape_Strides.l0]
    rw [show p ++ [x] ++ post = p ++ (x :: post) from by simp, show (((n + 1 : Nat) : Int) - 1) = ((n : Nat) : Int) from by omega]
    have hrd : rd (p ++ x :: post) (n : Int) = x := by rw [← hpn]; exact rd_mid p x post
    rw [if_pos (by omega), if_pos (by omega), if_pos (by omega), if_pos (by omega), hrd]
    have e1 : prod post * x = prod (x :: post) := by simp [prod, Int.mul_comm]
    rw [e1, w64 (by omega) (by omega), w64 (by omega) (by omega)]
    congr 1
    rw [List.replicate_succ', List.append_assoc]
    simp [strs]

theorem zeros_ok (s : List Int) (h : s.length ≤ 4) : 0 ≤ (s.length : Int) ∧ ((s.length : Int) : Int).toNat ≤ 35184372088832 := by omega

theorem shape_Strides_ev (s : List Int) : Ev (fun k => shape_Strides.f k s) (sStrides s) := by
  unfold shape_Strides.f
  refine Ev.bind (shape_Right_ev s) ?_
  by_cases h : sRight s = true
  · have hl := right_len h
    refine Ev.congr (f := fun k => shape_Strides.l0 k (s ++ []) (List.replicate s.length 0 ++ strs []) (prod []) ((s.length : Int) - 1)) (fun k => ?_) (Ev.cast (shape_Strides_l0 s.length s [] rfl (by simpa using hl) (by simpa using right_dims h)) ?_)
    · rw [if_pos h, if_pos (by omega), if_pos (by omega), w64 (by omega) (by omega)]
      simp [strs, prod]
    · simp [sStrides, h]
  · refine Ev.ret fun k => ?_
    rw [if_neg h]
    simp [sStrides, h]

theorem ref_Strides_l0 (n : Nat) : ∀ (pre post : List Int), pre.length = n → pre.length + post.length ≤ 4 → (pre ++ post).all okDim = true →
    Ev (fun k => parquetryref1_Strides.l0 k (pre ++ post) (List.replicate n 0 ++ strs post) (prod post) ((n : Int) - 1)) (strs (pre ++ post)) := by
  induction n with
  | zero =>
    intro pre post hp hl hd
    obtain rfl : pre = [] := List.length_eq_zero_iff.1 hp
    refine Ev.one fun k => ?_
    simp only [parquetryref1_Strides.l0]
    rw [if_neg (by omega)]
    simp
  | succ n ih =>
    intro pre post hp hl hd
    obtain ⟨p, x, rfl⟩ := snoc_of pre (by intro e; subst e; simp at hp)
    simp only [List.length_append, List.length_cons, List.length_nil] at hp hl
    have hpn : p.length = n := by omega
    have hd2 := hd
    rw [show p ++ [x] ++ post = p ++ (x :: post) from by simp] at hd2
    obtain ⟨hd3, hd4⟩ := all_split hd2
    have hs := prod_small (s := x :: post) (by simp only [List.length_cons]; omega) hd4
    have hlen := len_mid p x post
    have hl2 : ((List.replicate (n + 1) (0 : Int) ++ strs post).length : Int) = (n : Int) + 1 + post.length := by simp [strs_length]
    have := ih p (x :: post) hpn (by simp only [List.length_cons]; omega) hd2
    refine Ev.cast (Ev.step (f := fun k => parquetryref1_Strides.l0 k (p ++ x :: post) (List.replicate n 0 ++ strs (x :: post)) (prod (x :: post)) ((n : Int) - 1)) (fun k => ?_) this) (by simp)
    simp only [parquetryref1_Strides.l0]
    rw [show p ++ [x] ++ post = p ++ (x :: post) from by simp, show (((n + 1 : Nat) : Int) - 1) = ((n : Nat) : Int) from by omega]
    have hrd : rd (p ++ x :: post) (n : Int) = x := by rw [← hpn]; exact rd_mid p x post
    rw [if_pos (by omega), if_pos (by omega), if_pos (by omega), if_pos (by omega), hrd]
    have e1 : prod post * x = prod (x :: post) := by simp [prod, Int.mul_comm]
    rw [e1, w64 (by omega) (by omega), w64 (by omega) (by omega)]
    congr 1
    rw [List.replicate_succ', List.append_assoc]
    simp [strs]

theorem ref_Strides_ev (s : List Int) (hs : s.length < 9223372036854775807) : Ev (fun k => parquetryref1_Strides.f k s) (sStrides s) := by
  unfold parquetryref1_Strides.f
  refine Ev.bind (ref_Right_ev s hs) ?_
  by_cases h : sRight s = true
  · have hl := right_len h
    refine Ev.congr (f := fun k => parquetryref1_Strides.l0 k (s ++ []) (List.replicate s.length 0 ++ strs []) (prod []) ((s.length : Int) - 1)) (fun k => ?_) (Ev.cast (ref_Strides_l0 s.length s [] rfl (by simpa using hl) (by simpa using right_dims h)) ?_)
    · rw [if_pos h, if_pos (by omega), if_pos (by omega), w64 (by omega) (by omega)]
      simp [strs, prod]
    · simp [sStrides, h]
  · refine Ev.ret fun k => ?_
    rw [if_neg h]
    simp [sStrides, h]

theorem same_int_l0 (post : List Int) : ∀ (pre post2 pre2 : List Int), pre.length = pre2.length → post.length = post2.length → (pre ++ post).length < 9223372036854775807 →
    Ev (fun k => parquetrybook_Same_int.l0 k (pre ++ post) (pre2 ++ post2) (pre.length : Int)) (decide (post = post2)) := by
  induction post with
  | nil =>
    intro pre post2 pre2 hpre hpost hl
    obtain rfl : post2 = [] := List.length_eq_zero_iff.1 hpost.symm
    refine Ev.one fun k => ?_
    simp only [parquetrybook_Same_int.l0]
    rw [if_neg (by simp)]
    simp
  | cons x xs ih =>
    intro pre post2 pre2 hpre hpost hl
    cases post2 with
    | nil => simp at hpost
    | cons a bs =>
      simp only [List.length_cons] at hpost
      have hlen := len_mid pre x xs
      have hlen2 := len_mid pre2 a bs
      have hrd : rd (pre2 ++ a :: bs) (pre.length : Int) = a := by rw [hpre]; exact rd_mid pre2 a bs
      by_cases he : x = a
      · subst he
        have := ih (pre ++ [x]) bs (pre2 ++ [x]) (by simp; omega) (by omega) (by simpa using hl)
        refine Ev.cast (Ev.step (f := fun k => parquetrybook_Same_int.l0 k (pre ++ [x] ++ xs) (pre2 ++ [x] ++ bs) ((pre ++ [x]).length : Int)) (fun k => ?_) this) (by simp)
        simp only [parquetrybook_Same_int.l0]
        rw [if_pos (by omega), if_pos (by omega), if_pos (by omega), rd_mid, hrd, if_pos rfl, wsucc _ (by omega)]
        simp
      · refine Ev.one fun k => ?_
        simp only [parquetrybook_Same_int.l0]
        rw [if_pos (by omega), if_pos (by omega), if_pos (by omega), rd_mid, hrd, if_neg he]
        simp [he]

theorem book_Same_int_ev (a b : List Int) (ha : a.length < 9223372036854775807) : Ev (fun k => parquetrybook_Same_int.f k a b) (decide (a = b)) := by
  unfold parquetrybook_Same_int.f
  by_cases h : a.length = b.length
  · refine Ev.cast (Ev.congr (f := fun k => parquetrybook_Same_int.l0 k ([] ++ a) ([] ++ b) (([] : List Int).length : Int)) (fun k => ?_) (same_int_l0 a [] b [] rfl h (by simpa using ha))) rfl
    rw [if_pos (by omega)]
    simp
  · refine Ev.ret fun k => ?_
    rw [if_neg (by omega)]
    have : a ≠ b := fun e => h (by rw [e])
    simp [this]



end Go.Proofs.Ythkcceknccdmpaa.Plain
