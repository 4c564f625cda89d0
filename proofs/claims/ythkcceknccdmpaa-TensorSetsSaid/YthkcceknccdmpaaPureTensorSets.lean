/- TensorSets: what is set is got back, beside it nothing changes, and the first text stays as it was. -/
import Derived.Test.YthkcceknccdmpaaLaw2
import Derived.Test.YthkcceknccdmpaaQx10
namespace Go.Proofs.Ythkcceknccdmpaa.Pure
open Go.RowKit Go.Proofs.YthkcceknccdmpaaW.PrintWords Go.Proofs.Ythkcceknccdmpaa.Q Go.Proofs.Ythkcceknccdmpaa.Plain

theorem ts_l0 (s d : List Int) (a b : Int) (hr : tRight s d = true) (hb0 : 0 ≤ b) (hb : b < sSize s) (m : Nat) : ∀ i : Nat, i + m = d.length →
    Ev (fun k => parquetrylaw2_TensorSets.l0 k a b ((d.set b.toNat a).length : Int) (i : Int) s d s (d.set b.toNat a)) true := by
  have hz := size_range s
  have hd := (tRight_iff.1 hr).2
  have hl : ((d.set b.toNat a).length : Int) = (d.length : Int) := by simp
  have hs : s.length < 9223372036854775807 := by have := right_len (tRight_iff.1 hr).1; omega
  rw [hl]
  induction m with
  | zero =>
    intro i hi
    refine Ev.step (f := fun k => (parquetrylaw2_known.f k).bind fun t => if t = true then some true else none) (fun k => ?_) ?_
    · simp only [parquetrylaw2_TensorSets.l0]
      rw [if_neg (by omega)]
    · exact Ev.bind law2_known (Ev.ret fun k => by rw [if_pos rfl])
  | succ m ih =>
    intro i hi
    have hi1 : (i : Int) < sSize s := by omega
    refine Ev.step (f := fun k => (parquetryref1_Place.f k s (i : Int)).bind fun t => (tensor_Get.f k s (d.set b.toNat a) t).bind fun bt => if bt.2 = true then (if (i : Int) = b then (if bt.1 = a then (parquetrylaw2_TensorSets.l0 k a b (d.length : Int) (wrap64 ((i : Int) + 1)) s d s (d.set b.toNat a)) else none) else (if 0 ≤ (i : Int) then (if (i : Int) < (d.length : Int) then (if bt.1 = rd d (i : Int) then (parquetrylaw2_TensorSets.l0 k a b (d.length : Int) (wrap64 ((i : Int) + 1)) s d s (d.set b.toNat a)) else none) else none) else none)) else none) (fun k => ?_) ?_
    · simp only [parquetrylaw2_TensorSets.l0]
      rw [if_pos (by omega)]
    · refine Ev.bind (ref_Place_ev s i hs) ?_
      rw [sPlace_in (by omega) hi1]
      refine Ev.bind (tensor_Get_ev s _ _) ?_
      rw [tGet_plc (tRight_set hr) (by omega) hi1, rd_set _ _ _ _ (by omega)]
      refine Ev.congr (fun k => ?_) (ih (i + 1) (by omega))
      simp only [if_true]
      by_cases he : (i : Int) = b
      · rw [if_pos he, if_pos (by rw [if_pos (by omega)]), wsucc _ (by omega)]
      · rw [if_neg he, if_pos (by omega), if_pos (by omega), if_pos (by rw [if_neg (by omega)]), wsucc _ (by omega)]

theorem TensorSets : parquetrylaw2_TensorSets.Pure := by
  intro l0 a1 a2 _ hl hw _ _
  refine Ev.rounds (g := fun k => parquetrylaw2_TensorSets.f k l0 a1 a2) ?_
  unfold parquetrylaw2_TensorSets.f
  obtain ⟨s, b, hs, hb, hsm⟩ := tape_Shape_ev (tape_of hl hw)
  have hsr := small_right hsm
  have hs3 := (small_ok hsm).2
  have hz := size_range s
  refine Ev.bind hs ?_
  obtain ⟨d, c, hd, _, hdl, _⟩ := tape_Tensor_ev hb s (by omega)
  have hr : tRight s d = true := tRight_iff.2 ⟨hsr, hdl⟩
  refine Ev.bind hd ?_
  simp only [tensor_Copy_is s d (by omega) (by omega), Option.bind_some]
  by_cases h0 : (d.length : Int) = 0
  · refine Ev.congr (fun k => by rw [if_pos h0]) (Ev.bind (ref_Place_ev s 0 (by omega)) ?_)
    have hp : sPlace s 0 = [] := by unfold sPlace; rw [if_pos (by omega)]
    rw [hp]
    refine Ev.bind (tensor_Set_ev s d a1 [] (by omega) (by omega)) ?_
    have hpl : tPlace s d [] = -1 := by
      unfold tPlace sIndex
      rw [if_pos hr, if_neg]
      intro hh
      have : s = [] := List.length_eq_zero_iff.1 hh.2.symm
      subst this
      have : sSize [] = 1 := by decide
      omega
    have hset : tSet s d a1 [] = ([], [], false) := by
      unfold tSet
      rw [hpl, if_pos (by decide)]
    rw [hset]
    exact Ev.congr (fun k => by rw [if_neg (by decide)]) (Ev.bind law2_known (Ev.ret fun k => by rw [if_pos rfl]))
  · refine Ev.congr (fun k => by rw [if_neg h0]) ?_
    have ht := tmod_twice (a := a2) (n := (d.length : Int)) (by omega) (by omega)
    generalize Int.tmod (wrap64 (Int.tmod a2 (d.length : Int) + (d.length : Int))) (d.length : Int) = j at ht
    refine Ev.bind (ref_Place_ev s j (by omega)) ?_
    rw [sPlace_in ht.1 (by omega)]
    refine Ev.bind (tensor_Set_ev s d a1 _ (by omega) (by omega)) ?_
    rw [tSet_plc hr ht.1 (by omega)]
    refine Ev.congr (fun k => by rw [if_pos rfl, if_pos (by simp)]) (Ev.bind (tensor_Same_ev s d s d (by omega) (by omega)) ?_)
    refine Ev.step (f := fun k => parquetrylaw2_TensorSets.l0 k a1 j ((d.set j.toNat a1).length : Int) 0 s d s (d.set j.toNat a1)) (fun k => ?_) (ts_l0 s d a1 j hr ht.1 (by omega) d.length 0 (by omega))
    simp only [parquetrylaw2_TensorSets.j0]
    rw [if_neg (by simp [tSame])]

end Go.Proofs.Ythkcceknccdmpaa.Pure
