/- TensorMade: what is filled holds one number everywhere, and what is counted along an axis holds each place's number. -/
import Derived.Test.YthkcceknccdmpaaLaw2
import Derived.Test.YthkcceknccdmpaaQx16
namespace Go.Proofs.Ythkcceknccdmpaa.Pure
open Go.RowKit Go.Proofs.YthkcceknccdmpaaW.PrintWords Go.Proofs.Ythkcceknccdmpaa.Q Go.Proofs.Ythkcceknccdmpaa.Plain

theorem tm_l0 (s : List Int) (a b : Int) (hr : sRight s = true) (hb0 : 0 ≤ b) (hb : b < (s.length : Int)) (m : Nat) : ∀ i : Nat, i + m = (sSize s).toNat →
    Ev (fun k => parquetrylaw2_TensorMade.l0 k a s b ((List.replicate (sSize s).toNat a).length : Int) (i : Int) s (List.replicate (sSize s).toNat a) s (iotaOf s b)) true := by
  have hz := size_range s
  have hs : s.length < 9223372036854775807 := by have := right_len hr; omega
  have hl : ((List.replicate (sSize s).toNat a).length : Int) = sSize s := by simp; omega
  rw [hl]
  induction m with
  | zero =>
    intro i hi
    refine Ev.step (f := fun k => (parquetryref1_Size.f k s).bind fun t => if ((List.replicate (sSize s).toNat a).length : Int) = t then ((parquetrylaw2_known.f k).bind fun t => if t = true then some true else none) else none) (fun k => ?_) ?_
    · simp only [parquetrylaw2_TensorMade.l0]
      rw [if_neg (by omega)]
    · exact Ev.bind (ref_Size_ev s hs) (Ev.congr (fun k => by rw [if_pos hl]) law2_end)
  | succ m ih =>
    intro i hi
    have hi1 : (i : Int) < sSize s := by omega
    refine Ev.step (f := fun k => (parquetryref1_Place.f k s (i : Int)).bind fun t => (tensor_Get.f k s (iotaOf s b) t).bind fun bt => if 0 ≤ (i : Int) then (if (i : Int) < ((List.replicate (sSize s).toNat a).length : Int) then (if rd (List.replicate (sSize s).toNat a) (i : Int) = a then (if bt.2 = true then (if 0 ≤ b then (if b < (t.length : Int) then (if bt.1 = rd t b then (parquetrylaw2_TensorMade.l0 k a s b (sSize s) (wrap64 ((i : Int) + 1)) s (List.replicate (sSize s).toNat a) s (iotaOf s b)) else none) else none) else none) else none) else none) else none) else none) (fun k => ?_) ?_
    · simp only [parquetrylaw2_TensorMade.l0]
      rw [if_pos hi1]
    · refine Ev.bind (ref_Place_ev s i hs) ?_
      rw [sPlace_in (by omega) hi1]
      refine Ev.bind (tensor_Get_ev s _ _) ?_
      rw [tGet_plc (tRight_iota b hr) (by omega) hi1]
      refine Ev.congr (fun k => ?_) (ih (i + 1) (by omega))
      rw [if_pos (by omega), if_pos (by omega), if_pos (rd_rep _ _ _ (by omega)), if_pos rfl, if_pos hb0, if_pos (by rw [plc_length]; exact hb), if_pos (rd_iota _ _ _ hi1), wsucc _ (by omega)]

theorem tm_j0 (s : List Int) (a c : Int) (hr : sRight s = true) (h1 : 0 < s.length) : Ev (fun k => parquetrylaw2_TensorMade.j0 k a c s) true := by
  have hl := right_len hr
  have hz := size_range s
  have ht := tmod_twice (a := c) (n := (s.length : Int)) (by omega) (by omega)
  refine Ev.step (f := fun k => (tensor_Fill.f k s a).bind fun bt => (tensor_Iota.f k s (Int.tmod (wrap64 (Int.tmod c (s.length : Int) + (s.length : Int))) (s.length : Int))).bind fun bt2 => (parquetryref1_Right.f k s).bind fun t => if t = true then (if bt.2.2 = 0 then (if bt2.2.2 = 0 then ((tensor_Right.f k bt.1 bt.2.1).bind fun t5 => if t5 = true then ((tensor_Right.f k bt2.1 bt2.2.1).bind fun t6 => parquetrylaw2_TensorMade.j1 k a s (Int.tmod (wrap64 (Int.tmod c (s.length : Int) + (s.length : Int))) (s.length : Int)) (!t6) bt.1 bt.2.1 bt2.1 bt2.2.1) else none) else none) else none) else (if bt.2.2 = 13 then (if bt2.2.2 = 13 then ((parquetrylaw2_known.f k).bind fun t4 => if t4 = true then some true else none) else none) else none)) (fun k => ?_) ?_
  · simp only [parquetrylaw2_TensorMade.j0]
    rw [if_neg (by omega)]
  · generalize Int.tmod (wrap64 (Int.tmod c (s.length : Int) + (s.length : Int))) (s.length : Int) = b at ht
    refine Ev.bind (tensor_Fill_ev s a (by omega)) (Ev.bind (tensor_Iota_ev s b (by omega)) (Ev.bind (ref_Right_ev s (by omega)) ?_))
    have hf : tFill s a = (s, List.replicate (sSize s).toNat a, 0) := by simp [tFill, hr]
    have hi : tIota s b = (s, iotaOf s b, 0) := by
      unfold tIota
      rw [if_pos hr, if_neg (by omega)]
    rw [hf, hi]
    refine Ev.congr (fun k => by rw [if_pos hr, if_pos rfl, if_pos rfl]) (Ev.bind (tensor_Right_ev _ _) ?_)
    refine Ev.congr (fun k => by rw [if_pos (tRight_rep a hr)]) (Ev.bind (tensor_Right_ev _ _) ?_)
    refine Ev.step (f := fun k => parquetrylaw2_TensorMade.l0 k a s b ((List.replicate (sSize s).toNat a).length : Int) 0 s (List.replicate (sSize s).toNat a) s (iotaOf s b)) (fun k => ?_) (tm_l0 s a b hr ht.1 ht.2 (sSize s).toNat 0 (by omega))
    simp only [parquetrylaw2_TensorMade.j1]
    rw [if_neg (by simp [tRight_iota b hr])]

theorem TensorMade : parquetrylaw2_TensorMade.Pure := by
  intro l0 a1 a2 _ hl hw _ _
  refine Ev.rounds (g := fun k => parquetrylaw2_TensorMade.f k l0 a1 a2) ?_
  unfold parquetrylaw2_TensorMade.f
  obtain ⟨n, b, hn, hb, n0, n1, _⟩ := next_ev (tape_of hl hw) 3 (by omega)
  have n1 := n1 (by omega)
  refine Ev.bind hn ?_
  simp only [Option.bind_some]
  obtain ⟨s, c, hs, _, hsm⟩ := tape_Shape_ev hb
  refine Ev.bind hs ?_
  have hs3 := (small_ok hsm).2
  have h7 := prod_le7 s hsm.2
  have hp : (7 : Int) ^ s.length ≤ 343 := by
    have : s.length = 0 ∨ s.length = 1 ∨ s.length = 2 ∨ s.length = 3 := by omega
    rcases this with e | e | e | e <;> rw [e] <;> decide
  have hw1 : wrap64 (1 + n) = 1 + n := w64 (by omega) (by omega)
  have hr : sRight ([1 + n] ++ s) = true := by
    have hk : okDim (1 + n) = true := okDim_iff.2 (by omega)
    have hm := Int.mul_le_mul_of_nonneg_right (show 1 + n ≤ 3 by omega) h7.1
    refine sRight_iff.2 ⟨by simp only [List.length_append, List.length_cons, List.length_nil]; omega, ?_, ?_⟩
    · simp only [List.cons_append, List.nil_append, List.all_cons, hk, (small_ok hsm).1, Bool.and_self]
    · simp only [List.cons_append, List.nil_append, prod]
      omega
  refine Ev.congr (fun k => ?_) (tm_j0 ([1 + n] ++ s) a1 a2 hr (by simp))
  rw [hw1, if_pos (by simp only [List.length_cons, List.length_nil]; omega), if_neg (by simp only [List.length_append, List.length_cons, List.length_nil]; omega)]

end Go.Proofs.Ythkcceknccdmpaa.Pure
