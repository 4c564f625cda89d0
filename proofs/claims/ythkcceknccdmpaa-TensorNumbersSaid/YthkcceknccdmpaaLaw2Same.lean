/- What the statements of chapter 2 compare at each tensor: the two texts tell the same. -/
import Derived.Test.YthkcceknccdmpaaLaw2
import Derived.Test.YthkcceknccdmpaaTensorRef
import Derived.Test.YthkcceknccdmpaaQx11
namespace Go.Proofs.Ythkcceknccdmpaa.Plain
open Go.RowKit Go.Proofs.YthkcceknccdmpaaW.PrintWords Go.Proofs.Ythkcceknccdmpaa.Q

/-- A text that fits into memory. -/
def Fits (l : List Int) : Prop := l.length < 17592186044416

theorem law2_j4 (s d s2 d2 : List Int) (hs : Fits s) (hd : Fits d) : Ev (fun k => parquetrylaw2_same.j4 k s d s2 d2) true := by
  unfold Fits at hs hd
  refine Ev.step (f := fun k => (tensor_Right.f k s d).bind fun t => (parquetryref1_Tensor.f k s d).bind fun t2 => if (t == t2) = true then ((tensor_Copy.f s d).bind fun bt => (parquetryref1_Same.f k bt.1 bt.2 s d).bind fun t3 => if t3 = true then ((tensor_Same.f k s d s2 d2).bind fun t4 => (parquetryref1_Same.f k s d s2 d2).bind fun t5 => if (t4 == t5) = true then some true else none) else none) else none) (fun k => by simp only [parquetrylaw2_same.j4]) ?_
  refine Ev.bind (tensor_Right_ev s d) (Ev.bind (ref_Tensor_ev s d (by omega)) ?_)
  refine Ev.congr (fun k => by rw [if_pos (by simp), tensor_Copy_is s d hs hd]; simp only [Option.bind_some]; rfl) (Ev.bind (ref_Same_ev s d s d (by omega) (by omega)) ?_)
  refine Ev.congr (fun k => by rw [if_pos (tSame_self s d)]) (Ev.bind (tensor_Same_ev s d s2 d2 (by omega) (by omega)) (Ev.bind (ref_Same_ev s d s2 d2 (by omega) (by omega)) (Ev.ret fun k => ?_)))
  rw [if_pos (by simp)]

theorem law2_j2 (a : Int) (l s d s2 d2 : List Int) (hs : Fits s) (hd : Fits d) : Ev (fun k => parquetrylaw2_same.j2 k a l (tPlace s d l) s d s2 d2) true := by
  have hs' := hs
  have hd' := hd
  unfold Fits at hs' hd'
  refine Ev.step (f := fun k => (tensor_Get.f k s d l).bind fun bt => (tensor_Set.f k s d a l).bind fun bt2 => if (bt.2 != (decide (tPlace s d l ≥ 0))) = true then none else (if (bt2.2.2 != bt.2) = true then none else (if bt.2 = true then (parquetrylaw2_same.j3 k a (tPlace s d l) bt.1 bt.2 false s d s2 d2 bt2.1 bt2.2.1) else (if bt.1 = 0 then (parquetrylaw2_same.j3 k a (tPlace s d l) bt.1 bt.2 ((bt2.2.1.length : Int) != 0) s d s2 d2 bt2.1 bt2.2.1) else none)))) (fun k => by simp only [parquetrylaw2_same.j2]) ?_
  refine Ev.bind (tensor_Get_ev s d l) (Ev.bind (tensor_Set_ev s d a l hs' hd') ?_)
  have hr := tPlace_range s d l
  by_cases h : tPlace s d l < 0
  · have hg : tGet s d l = (0, false) := by unfold tGet; rw [if_pos h]
    have ht : tSet s d a l = ([], [], false) := by unfold tSet; rw [if_pos h]
    rw [hg, ht]
    refine Ev.congr (fun k => by rw [if_neg (by simp; omega), if_neg (by simp), if_neg (by simp), if_pos rfl]) ?_
    refine Ev.step (fun k => ?_) (law2_j4 s d s2 d2 hs hd)
    simp only [parquetrylaw2_same.j3]
    rw [if_neg (by simp), if_neg (by simp)]
  · have hg : tGet s d l = (rd d (tPlace s d l), true) := by unfold tGet; rw [if_neg h]
    have ht : tSet s d a l = (s, d.set (tPlace s d l).toNat a, true) := by unfold tSet; rw [if_neg h]
    rw [hg, ht]
    refine Ev.congr (fun k => by rw [if_neg (by simp; omega), if_neg (by simp), if_pos rfl]) ?_
    refine Ev.step (f := fun k => (parquetryref1_Same.f k s (d.set (tPlace s d l).toNat a) s (d.set (tPlace s d l).toNat a)).bind fun t => if t = true then (parquetrylaw2_same.j4 k s d s2 d2) else none) (fun k => ?_) ?_
    · simp only [parquetrylaw2_same.j3]
      rw [if_neg (by decide), if_pos trivial]
      simp only [Option.bind_some, List.nil_append]
      rw [if_pos (by simp only [List.length_nil]; omega), if_pos (by omega), if_pos (by omega), if_pos (by omega), if_pos trivial]
    · refine Ev.bind (ref_Same_ev _ _ _ _ (by omega) (by rw [List.length_set]; omega)) (Ev.congr (fun k => ?_) (law2_j4 s d s2 d2 hs hd))
      rw [if_pos (tSame_self _ _)]

theorem law2_j1 (a : Int) (l s d s2 d2 : List Int) (hs : Fits s) (hd : Fits d) : Ev (fun k => parquetrylaw2_same.j1 k a l false s d s2 d2) true := by
  have hs' := hs
  unfold Fits at hs'
  refine Ev.step (f := fun k => (parquetryref1_Tensor.f k s d).bind fun t => if t = true then ((parquetryref1_Index.f k s l).bind fun t2 => parquetrylaw2_same.j2 k a l t2 s d s2 d2) else parquetrylaw2_same.j2 k a l (-1) s d s2 d2) (fun k => ?_) ?_
  · simp only [parquetrylaw2_same.j1]
    rw [if_neg (by decide)]
  · refine Ev.bind (ref_Tensor_ev s d (by omega)) ?_
    have h2 := law2_j2 a l s d s2 d2 hs hd
    unfold tPlace at h2
    by_cases h : tRight s d = true
    · rw [if_pos h] at h2
      exact Ev.congr (fun k => by rw [if_pos h]) (Ev.bind (ref_Index_ev s l (by omega)) h2)
    · rw [if_neg h] at h2
      exact Ev.congr (fun k => by rw [if_neg h]) h2

theorem law2_f (s d u : List Int) (a b : Int) (l : List Int) (hs : Fits s) (hd : Fits d) (hu : Fits u) : Ev (fun k => parquetrylaw2_same.f k s d u a b l) true := by
  have hu' := hu
  unfold Fits at hu'
  unfold parquetrylaw2_same.f
  refine Ev.bind (tensor_Fill_ev u a hu') (Ev.bind (tensor_Iota_ev u b hu') (Ev.bind (ref_Right_ev u (by omega)) ?_))
  by_cases hr : sRight u = true
  · have hf : tFill u a = (u, List.replicate (sSize u).toNat a, 0) := by unfold tFill; rw [if_pos hr]
    have fill (f g : Nat → Option Bool) (hfg : Ev g true) (e : ∀ k, f (k + 1) = (parquetryref1_Fill.f k u a).bind fun bt => (parquetryref1_Same.f k u (List.replicate (sSize u).toNat a) bt.1 bt.2).bind fun t => if t = true then g k else none) : Ev f true := by
      refine Ev.step e (Ev.bind (ref_Fill_ev u a hu') (Ev.bind (ref_Same_ev u (List.replicate (sSize u).toNat a) u (List.replicate (sSize u).toNat a) (by omega) (by have := size_range u; simp; omega)) (Ev.congr (fun k => ?_) hfg)))
      rw [if_pos (tSame_self _ _)]
    by_cases hb : b < 0 ∨ (u.length : Int) ≤ b
    · have hi : tIota u b = ([], [], 1) := by unfold tIota; rw [if_pos hr, if_pos hb]
      rw [hf, hi]
      refine Ev.congr (f := fun k => parquetrylaw2_same.j0 k u a b l 0 1 0 1 s d u (List.replicate (sSize u).toNat a) [] []) (fun k => ?_) ?_
      · rw [if_pos hr]
        by_cases h0 : b < 0
        · rw [if_pos h0]
        · rw [if_neg h0, if_pos (by omega)]
      · refine fill _ _ (law2_j1 a l s d u (List.replicate (sSize u).toNat a) hs hd) (fun k => ?_)
        simp only [parquetrylaw2_same.j0]
        rw [if_pos trivial, if_pos trivial, if_pos trivial]
        simp
    · have hi : tIota u b = (u, iotaOf u b, 0) := by unfold tIota; rw [if_pos hr, if_neg hb]
      rw [hf, hi]
      refine Ev.congr (f := fun k => parquetrylaw2_same.j0 k u a b l 0 0 0 0 s d u (List.replicate (sSize u).toNat a) u (iotaOf u b)) (fun k => ?_) ?_
      · rw [if_pos hr, if_neg (by omega), if_neg (by omega)]
      · refine fill _ (fun k => (parquetryref1_Iota.f k u b).bind fun bt => (parquetryref1_Same.f k u (iotaOf u b) bt.1 bt.2).bind fun t => if t = true then parquetrylaw2_same.j1 k a l false s d u (List.replicate (sSize u).toNat a) else none) ?_ (fun k => ?_)
        · refine Ev.bind (ref_Iota_ev u b (by omega) (by omega) hu') (Ev.bind (ref_Same_ev u (iotaOf u b) u (iotaOf u b) (by omega) (by have := size_range u; unfold iotaOf; rw [madeOf_length]; omega)) (Ev.congr (fun k => ?_) (law2_j1 a l s d u (List.replicate (sSize u).toNat a) hs hd)))
          rw [if_pos (tSame_self _ _)]
        · simp only [parquetrylaw2_same.j0]
          rw [if_pos trivial, if_pos trivial, if_pos trivial]
          simp
  · have hf : tFill u a = ([], [], 13) := by unfold tFill; rw [if_neg hr]
    have hi : tIota u b = ([], [], 13) := by unfold tIota; rw [if_neg hr]
    rw [hf, hi]
    refine Ev.congr (fun k => by rw [if_neg hr]) ?_
    refine Ev.step (fun k => ?_) (law2_j1 a l s d [] [] hs hd)
    simp only [parquetrylaw2_same.j0]
    rw [if_pos trivial, if_pos trivial, if_neg (by decide), if_neg (by decide), if_pos (by simp)]
    simp

end Go.Proofs.Ythkcceknccdmpaa.Plain
