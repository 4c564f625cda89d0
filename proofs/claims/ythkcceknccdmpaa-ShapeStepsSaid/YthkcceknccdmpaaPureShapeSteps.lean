/- ShapeSteps: one place further along an axis is its stride further; a shape with an axis of one put in has as many numbers. -/
import Derived.Test.YthkcceknccdmpaaLaw1
import Derived.Test.YthkcceknccdmpaaTape
import Derived.Test.YthkcceknccdmpaaWithin
import Derived.Test.YthkcceknccdmpaaQx19
namespace Go.Proofs.Ythkcceknccdmpaa.Pure
open Go.RowKit Go.Proofs.YthkcceknccdmpaaW.PrintWords Go.Proofs.Ythkcceknccdmpaa.Q Go.Proofs.Ythkcceknccdmpaa.Plain

theorem st_pos (t : List Int) : 0 < prod t ∨ ¬ ∀ x ∈ t, 0 < x := by
  by_cases h : ∀ x ∈ t, 0 < x
  · exact .inl (prod_pos' h)
  · exact .inr h

theorem st_l1 (s : List Int) (n i : Int) (hr : sRight s = true) (hd : ∀ x ∈ s, 0 < x) (h0 : 0 ≤ i) (hi : i < sSize s) (hnext : Ev (fun k => parquetrylaw1_ShapeSteps.l0 k s n (strs s) (wrap64 (i + 1))) true)
    (post : List Int) : ∀ pre : List Int, pre ++ post = s → Ev (fun k => parquetrylaw1_ShapeSteps.l1 k s n (strs s) i (plc s i) (s.length : Int) (pre.length : Int)) true := by
  have hl4 := right_len hr
  have hz := size_range s
  have hss : sSize s = prod s := by simp [sSize, hr]
  induction post with
  | nil =>
    intro pre hp
    have hl : s.length = pre.length := by rw [← hp]; simp
    refine Ev.step (fun k => ?_) hnext
    simp only [parquetrylaw1_ShapeSteps.l1]
    rw [if_neg (by omega)]
  | cons x xs ih =>
    intro pre hp
    have hl : s.length = pre.length + 1 + xs.length := by rw [← hp]; simp; omega
    have hw : within s (plc s i) := within_plc s hd i
    have hw' := hw
    rw [← hp] at hw'
    obtain ⟨p1, p2, hpp, hw1, hw2⟩ := within_split pre (x :: xs) hw'
    rw [hp] at hpp
    have hp1 := within_len hw1
    cases p2 with
    | nil => exact hw2.elim
    | cons y ys =>
      obtain ⟨hy0, hyx, hys⟩ := hw2
      have hx32 : x ≤ 32 := by
        have := List.all_eq_true.1 (right_dims hr) x (by rw [← hp]; simp)
        exact (okDim_iff.1 this).2
      have hrdp : rd (plc s i) (pre.length : Int) = y := by rw [hpp, ← hp1]; exact rd_mid p1 y ys
      have hrds : rd s (pre.length : Int) = x := by rw [← hp]; exact rd_mid pre x xs
      have hstr : rd (strs s) (pre.length : Int) = prod xs := by rw [← hp]; exact strs_mid pre x xs
      have hset : (plc s i).set pre.length (y + 1) = p1 ++ (y + 1) :: ys := by rw [hpp, ← hp1]; exact set_mid p1 y (y + 1) ys
      have hpl : (plc s i).length = s.length := plc_length s i
      have hsl : (strs s).length = s.length := strs_length s
      have hw1' : wrap64 (y + 1) = y + 1 := w64 (by omega) (by omega)
      have hidx : idx s (plc s i) 0 = i := by
        rw [idx_plc s hd st_pos, ← hss, Int.zero_mul, Int.zero_add]
        exact Int.emod_eq_of_lt h0 hi
      have hsI : sIndex s (p1 ++ (y + 1) :: ys) = if x ≤ y + 1 then -1 else i + prod xs := by
        unfold sIndex
        rw [if_pos ⟨hr, by rw [← hset, List.length_set, hpl]⟩]
        have e1 : idx s (p1 ++ (y + 1) :: ys) 0 = idx (x :: xs) ((y + 1) :: ys) (idx pre p1 0) := by rw [← hp]; exact idx_split pre (x :: xs) p1 _ 0 hw1
        have e2 : i = idx (x :: xs) (y :: ys) (idx pre p1 0) := by
          have e3 : idx s (p1 ++ y :: ys) 0 = idx (x :: xs) (y :: ys) (idx pre p1 0) := by rw [← hp]; exact idx_split pre (x :: xs) p1 _ 0 hw1
          rw [← e3, ← hpp, hidx]
        rw [e1]
        simp only [idx] at e2 ⊢
        rw [if_neg (by omega)] at e2
        by_cases hc : x ≤ y + 1
        · rw [if_pos (by omega), if_pos hc]
        · rw [if_neg (by omega), if_neg hc, show idx pre p1 0 * x + (y + 1) = (idx pre p1 0 * x + y) + 1 from by omega, idx_add xs ys _ 1 hys, ← e2]
          omega
      have hpx : 0 ≤ prod xs ∧ prod xs ≤ 1048576 := by
        have hk : xs.all okDim = true := by
          have := right_dims hr
          rw [← hp, List.all_append, List.all_cons] at this
          simp only [Bool.and_eq_true] at this
          exact this.2.2
        exact prod_small (by omega) hk
      have hnx := ih (pre ++ [x]) (by simpa using hp)
      refine Ev.step (f := fun k => (shape_Index.f k s (p1 ++ (y + 1) :: ys)).bind fun t => if t = (if x ≤ y + 1 then -1 else i + prod xs) then parquetrylaw1_ShapeSteps.l1 k s n (strs s) i (plc s i) (s.length : Int) (((pre ++ [x]).length : Nat) : Int) else none) (fun k => ?_) ?_
      · have hlast : rd (p1 ++ (y + 1) :: ys) (pre.length : Int) = y + 1 := by rw [← hp1]; exact rd_mid p1 (y + 1) ys
        simp only [parquetrylaw1_ShapeSteps.l1]
        rw [if_pos (by omega), if_pos (by omega)]
        simp only [Option.bind_some, List.nil_append, Int.toNat_natCast]
        rw [if_pos (by simp only [List.length_nil]; omega), if_pos (by omega), if_pos (by omega), hrdp, hw1', hset, if_pos (by omega), if_pos (by omega), hlast, hrds, hstr, w64 (n := i + prod xs) (by omega) (by omega), wsucc _ (by omega)]
        have hpn : ((pre.length + 1 : Nat) : Int) = (((pre ++ [x]).length : Nat) : Int) := by simp
        rw [hpn]
        by_cases hc : x ≤ y + 1
        · rw [if_pos (show y + 1 ≥ x from hc), if_pos hc]
        · rw [if_neg (show ¬ y + 1 ≥ x from hc), if_neg hc]
      · refine Ev.bind (shape_Index_ev s _) (Ev.congr (fun k => ?_) hnx)
        rw [if_pos hsI]

theorem st_l0 (s : List Int) (hr : sRight s = true) (d : Nat) : ∀ (i : Int), 0 ≤ i → (sSize s - i).toNat ≤ d → Ev (fun k => parquetrylaw1_ShapeSteps.l0 k s (sSize s) (strs s) i) true := by
  have hz := size_range s
  have fin : Ev (fun k => (parquetrylaw1_known.f k).bind fun t => if t = true then some true else none) true := Ev.bind law1_known (Ev.ret fun k => by rw [if_pos rfl])
  induction d with
  | zero =>
    intro i _ hd
    refine Ev.step (fun k => ?_) fin
    simp only [parquetrylaw1_ShapeSteps.l0]
    rw [if_neg (by omega)]
  | succ d ih =>
    intro i h0 hd
    by_cases hi : i < sSize s
    · refine Ev.step (f := fun k => (shape_Place.f k s i).bind fun t => parquetrylaw1_ShapeSteps.l1 k s (sSize s) (strs s) i t (s.length : Int) 0) (fun k => ?_) ?_
      · simp only [parquetrylaw1_ShapeSteps.l0]
        rw [if_pos hi]
      · refine Ev.bind (shape_Place_ev s i) ?_
        have hp : sPlace s i = plc s i := by unfold sPlace; rw [if_neg (by omega)]
        rw [hp]
        exact st_l1 s (sSize s) i hr (size_dims h0 hi).2 h0 hi (by rw [w64 (by omega) (by omega)]; exact ih (i + 1) (by omega) (by omega)) s [] rfl
    · refine Ev.step (fun k => ?_) fin
      simp only [parquetrylaw1_ShapeSteps.l0]
      rw [if_neg hi]

theorem ShapeSteps : parquetrylaw1_ShapeSteps.Pure := by
  intro l0 a1 _ hl hw _
  refine Ev.rounds (g := fun k => parquetrylaw1_ShapeSteps.f k l0 a1) ?_
  unfold parquetrylaw1_ShapeSteps.f
  obtain ⟨s, b, hs, _, hsm⟩ := tape_Shape_ev (tape_of hl hw)
  have hsr := small_right hsm
  have hs3 := (small_ok hsm).2
  have hdim := (small_ok hsm).1
  have hz := size_range s
  refine Ev.bind hs (Ev.bind (shape_Size_ev s) (Ev.bind (shape_Strides_ev s) ?_))
  have hst : sStrides s = strs s := by simp [sStrides, hsr]
  have hlen : (strs s).length = s.length := strs_length s
  rw [hst]
  simp only
  have hw1 : wrap64 ((s.length : Int) + 1) = (s.length : Int) + 1 := w64 (by omega) (by omega)
  rw [hw1]
  have hm1 := Int.lt_tmod_of_pos a1 (show 0 < (s.length : Int) + 1 by omega)
  have hm2 := Int.tmod_lt_of_pos a1 (show 0 < (s.length : Int) + 1 by omega)
  have hw2 : wrap64 (Int.tmod a1 ((s.length : Int) + 1) + (s.length : Int)) = Int.tmod a1 ((s.length : Int) + 1) + (s.length : Int) := w64 (by omega) (by omega)
  rw [hw2]
  have hw3 : wrap64 (Int.tmod a1 ((s.length : Int) + 1) + (s.length : Int) + 1) = Int.tmod a1 ((s.length : Int) + 1) + (s.length : Int) + 1 := w64 (by omega) (by omega)
  rw [hw3]
  have hj : 0 ≤ Int.tmod (Int.tmod a1 ((s.length : Int) + 1) + (s.length : Int) + 1) ((s.length : Int) + 1) ∧ Int.tmod (Int.tmod a1 ((s.length : Int) + 1) + (s.length : Int) + 1) ((s.length : Int) + 1) < (s.length : Int) + 1 := by
    rw [Int.tmod_eq_emod_of_nonneg (by omega)]
    exact ⟨Int.emod_nonneg _ (by omega), Int.emod_lt_of_pos _ (by omega)⟩
  generalize Int.tmod (Int.tmod a1 ((s.length : Int) + 1) + (s.length : Int) + 1) ((s.length : Int) + 1) = j at hj
  have hsp : s.take j.toNat ++ s.drop j.toNat = s := List.take_append_drop _ _
  have ht : (s.take j.toNat).length ≤ 3 := by rw [List.length_take]; omega
  have hdr : (s.drop j.toNat).length ≤ 3 := by rw [List.length_drop]; omega
  have hsum : (s.take j.toNat).length + (s.drop j.toNat).length = s.length := by rw [← List.length_append, hsp]
  have hor : sRight (s.take j.toNat ++ [1] ++ s.drop j.toNat) = true ∧ sSize (s.take j.toNat ++ [1] ++ s.drop j.toNat) = sSize s := by
    have hp : prod (s.take j.toNat ++ [1] ++ s.drop j.toNat) = prod s := by
      have h2 := prod_append (s.take j.toNat) (s.drop j.toNat)
      rw [hsp] at h2
      rw [prod_append, prod_append, h2]
      simp [prod]
    have hall : (s.take j.toNat ++ [1] ++ s.drop j.toNat).all okDim = true := by
      rw [← hsp, List.all_append] at hdim
      simp only [Bool.and_eq_true] at hdim
      rw [List.all_append, List.all_append, hdim.1, hdim.2]
      decide
    have hr : sRight (s.take j.toNat ++ [1] ++ s.drop j.toNat) = true := by
      refine sRight_iff.2 ⟨by simp only [List.length_append, List.length_cons, List.length_nil]; omega, hall, ?_⟩
      rw [hp]
      exact (sRight_iff.1 hsr).2.2
    exact ⟨hr, by unfold sSize; rw [if_pos hr, if_pos hsr, hp]⟩
  refine Ev.congr (f := fun k => (shape_Size.f k (s.take j.toNat ++ [1] ++ s.drop j.toNat)).bind fun t => if t = sSize s then parquetrylaw1_ShapeSteps.j0 k s (sSize s) (strs s) (((strs s).length : Int) != (s.length : Int)) else none) (fun k => ?_) ?_
  · rw [if_neg (by omega)]
    simp only [Option.bind_some, List.nil_append]
    rw [if_pos hj.1, if_pos (by omega), if_pos (by simp only [List.length_nil]; omega), if_pos (by simp only [List.length_cons, List.length_nil]; omega), if_pos (by simp only [List.length_append, List.length_cons, List.length_nil]; omega)]
  · refine Ev.bind (shape_Size_ev _) ?_
    refine Ev.congr (fun k => by rw [if_pos hor.2]) ?_
    refine Ev.step (fun k => ?_) (st_l0 s hsr (sSize s).toNat 0 (by omega) (by omega))
    simp only [parquetrylaw1_ShapeSteps.j0]
    rw [if_neg (by simp [hlen])]

end Go.Proofs.Ythkcceknccdmpaa.Pure
