/- What the reference beside package tensor comes to. -/
import Derived.Test.YthkcceknccdmpaaTensor
import Derived.Test.YthkcceknccdmpaaShape2
import Derived.Test.YthkcceknccdmpaaQx1
import Derived.Test.YthkcceknccdmpaaQx10
namespace Go.Proofs.Ythkcceknccdmpaa.Plain
open Go.RowKit Go.Proofs.YthkcceknccdmpaaW.PrintWords Go.Proofs.Ythkcceknccdmpaa.Q

theorem ref_Tensor_ev (s d : List Int) (hs : s.length < 9223372036854775807) : Ev (fun k => parquetryref1_Tensor.f k s d) (tRight s d) := by
  unfold parquetryref1_Tensor.f
  refine Ev.bind (ref_Right_ev s hs) ?_
  by_cases h : sRight s = true
  · refine Ev.congr (fun k => by rw [if_pos h]) (Ev.cast (Ev.bind (ref_Size_ev s hs) (Ev.now _)) ?_)
    simp [tRight, h]
  · refine Ev.ret fun k => ?_
    rw [if_neg h]
    simp [tRight, h]

theorem ref_Same_l0 (s s2 : List Int) (post : List Int) : ∀ (pre post2 pre2 : List Int), pre.length = pre2.length → post.length = post2.length → (pre ++ post).length < 9223372036854775807 →
    Ev (fun k => parquetryref1_Same.l0 k (pre.length : Int) s (pre ++ post) s2 (pre2 ++ post2)) (decide (post = post2)) := by
  induction post with
  | nil =>
    intro pre post2 pre2 hpre hpost hl
    obtain rfl : post2 = [] := List.length_eq_zero_iff.1 hpost.symm
    refine Ev.one fun k => ?_
    simp only [parquetryref1_Same.l0]
    rw [if_neg (by simp)]
    simp
  | cons x xs ih =>
    intro pre post2 pre2 hpre hpost hl
    cases post2 with
    | nil => simp at hpost
    | cons a bs =>
      simp only [List.length_cons] at hpost
      have hlen := len_mid pre x xs
      have hlen2 := len_mid pre2 a bs
      have hrd : rd (pre2 ++ a :: bs) (pre.length : Int) = a := by rw [hpre]; exact rd_mid pre2 a bs
      by_cases he : x = a
      · subst he
        have := ih (pre ++ [x]) bs (pre2 ++ [x]) (by simp; omega) (by omega) (by simpa using hl)
        refine Ev.cast (Ev.step (f := fun k => parquetryref1_Same.l0 k ((pre ++ [x]).length : Int) s (pre ++ [x] ++ xs) s2 (pre2 ++ [x] ++ bs)) (fun k => ?_) this) (by simp)
        simp only [parquetryref1_Same.l0]
        rw [if_pos (by omega), if_pos (by omega), if_pos (by omega), rd_mid, hrd, if_pos rfl, wsucc _ (by omega)]
        simp
      · refine Ev.one fun k => ?_
        simp only [parquetryref1_Same.l0]
        rw [if_pos (by omega), if_pos (by omega), if_pos (by omega), rd_mid, hrd, if_neg he]
        simp [he]

theorem ref_Same_ev (s d s2 d2 : List Int) (hs : s.length < 9223372036854775807) (hd : d.length < 9223372036854775807) : Ev (fun k => parquetryref1_Same.f k s d s2 d2) (tSame s d s2 d2) := by
  unfold parquetryref1_Same.f
  refine Ev.bind (ref_Ints_ev s s2 hs) ?_
  by_cases h : s = s2
  · by_cases hl : d.length = d2.length
    · refine Ev.congr (f := fun k => parquetryref1_Same.j0 k false s d s2 d2) (fun k => by rw [if_pos (by simp [h])]; congr 1; simp [hl]) ?_
      refine Ev.cast (Ev.step (f := fun k => parquetryref1_Same.l0 k (([] : List Int).length : Int) s ([] ++ d) s2 ([] ++ d2)) (fun k => ?_) (ref_Same_l0 s s2 d [] d2 [] rfl hl (by simpa using hd))) (by simp [tSame, h])
      simp only [parquetryref1_Same.j0]
      rw [if_neg (by decide)]
      simp
    · refine Ev.one fun k => ?_
      rw [if_pos (by simp [h])]
      simp only [parquetryref1_Same.j0]
      rw [if_pos (by simp; omega)]
      have : d ≠ d2 := fun e => hl (by rw [e])
      simp [tSame, this]
  · refine Ev.one fun k => ?_
    rw [if_neg (by simp [h])]
    simp [parquetryref1_Same.j0, tSame, h]

theorem ref_Iota_l0 (s : List Int) (a : Int) (ha0 : 0 ≤ a) (ha1 : a < (s.length : Int)) (hs : s.length < 9223372036854775807) (m : Nat) : ∀ i : Nat, i + m = (sSize s).toNat →
    Ev (fun k => parquetryref1_Iota.l0 k s a (i : Int) s ((List.range i).map (fun i : Nat => rd (plc s (i : Int)) a) ++ List.replicate ((sSize s).toNat - i) 0)) (s, iotaOf s a) := by
  have hz := size_range s
  induction m with
  | zero =>
    intro i hi
    refine Ev.one fun k => ?_
    simp only [parquetryref1_Iota.l0]
    rw [if_neg (by simp; omega)]
    have : i = (sSize s).toNat := by omega
    subst this
    simp [iotaOf, madeOf]
  | succ m ih =>
    intro i hi
    have hlt : (i : Int) < sSize s := by omega
    have hp : sPlace s i = plc s i := by unfold sPlace; rw [if_neg (by omega)]
    refine Ev.step (f := fun k => (parquetryref1_Place.f k s (i : Int)).bind fun t => if 0 ≤ a then (if a < (t.length : Int) then (if 0 ≤ (i : Int) then (parquetryref1_Iota.l0 k s a (wrap64 ((i : Int) + 1)) s (((List.range i).map (fun i : Nat => rd (plc s (i : Int)) a) ++ List.replicate ((sSize s).toNat - i) 0).set ((i : Int) : Int).toNat (rd t a))) else none) else none) else none) (fun k => ?_) ?_
    · simp only [parquetryref1_Iota.l0]
      rw [if_pos (by simp; omega)]
    · refine Ev.bind (ref_Place_ev s i hs) (Ev.congr (fun k => ?_) (ih (i + 1) (by omega)))
      rw [hp, if_pos ha0, if_pos (by rw [plc_length]; omega), if_pos (by omega), wsucc _ (by omega), Int.toNat_natCast, set_range (fun i : Nat => rd (plc s (i : Int)) a) (sSize s).toNat i (by omega) 0]

theorem ref_Iota_ev (s : List Int) (a : Int) (ha0 : 0 ≤ a) (ha1 : a < (s.length : Int)) (hs : s.length < 17592186044416) : Ev (fun k => parquetryref1_Iota.f k s a) (s, iotaOf s a) := by
  unfold parquetryref1_Iota.f
  refine Ev.bind (ref_Fill_ev s 0 hs) (Ev.congr (fun k => ?_) (ref_Iota_l0 s a ha0 ha1 (by omega) (sSize s).toNat 0 (by omega)))
  simp


end Go.Proofs.Ythkcceknccdmpaa.Plain
