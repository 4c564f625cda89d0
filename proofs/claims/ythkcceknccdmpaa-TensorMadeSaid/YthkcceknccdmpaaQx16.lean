-- Printed by a program (a variant of the kit print, with contracts of our own).
import Derived.Test.YthkcceknccdmpaaQx0
import Derived.Test.YthkcceknccdmpaaQx1
import Derived.Test.YthkcceknccdmpaaQx2
import Derived.Test.YthkcceknccdmpaaQx5
import Derived.Test.YthkcceknccdmpaaQx6
import Derived.Test.YthkcceknccdmpaaQx8
import Derived.Test.YthkcceknccdmpaaQx9
import Derived.Test.YthkcceknccdmpaaQx11
namespace Go.Proofs.Ythkcceknccdmpaa.Q
open Go.RowKit Go.Proofs.YthkcceknccdmpaaW.PrintWords Go.Proofs.YthkcceknccdmpaaW.PrintLast Go.Proofs.YthkcceknccdmpaaW.PrintMore
attribute [local go_sem] max2_int min2_int max_two min_two max_three min_three max_four min_four   -- for this text's walks alone
set_option linter.unusedVariables false
set_option linter.unusedSimpArgs false

/-! ### parquetrylaw2_TensorMade: function 15 -/
mutual
def parquetrylaw2_TensorMade.j0 : Nat → Int → Int → List Int → Option (Bool)
  | 0, _, _, _ => none
  | k + 1, x1, x2, x8 => if (x8.length : Int) = 0 then (none) else ((tensor_Fill.f k x8 x1).bind fun bt507 => ((tensor_Iota.f k x8 (Int.tmod (wrap64 ((Int.tmod x2 (x8.length : Int)) + (x8.length : Int))) (x8.length : Int))).bind fun bt515 => ((parquetryref1_Right.f k x8).bind fun t523 => (if t523 = true then (if bt507.2.2 = 0 then (if bt515.2.2 = 0 then ((tensor_Right.f k bt507.1 bt507.2.1).bind fun t525 => (if t525 = true then ((tensor_Right.f k bt515.1 bt515.2.1).bind fun t526 => (parquetrylaw2_TensorMade.j1 k x1 x8 (Int.tmod (wrap64 ((Int.tmod x2 (x8.length : Int)) + (x8.length : Int))) (x8.length : Int)) (!t526) bt507.1 bt507.2.1 bt515.1 bt515.2.1)) else (none))) else (none)) else (none)) else (if bt507.2.2 = 13 then (if bt515.2.2 = 13 then ((parquetrylaw2_known.f k).bind fun t524 => (if t524 = true then (some true) else (none))) else (none)) else (none))))))
def parquetrylaw2_TensorMade.j1 : Nat → Int → List Int → Int → Bool → List Int → List Int → List Int → List Int → Option (Bool)
  | 0, _, _, _, _, _, _, _, _ => none
  | k + 1, x1, x8, x9, x82, x515000, x515001, x523000, x523001 => if x82 = true then (none) else (parquetrylaw2_TensorMade.l0 k x1 x8 x9 (x515001.length : Int) 0 x515000 x515001 x523000 x523001)
def parquetrylaw2_TensorMade.l0 : Nat → Int → List Int → Int → Int → Int → List Int → List Int → List Int → List Int → Option (Bool)
  | 0, _, _, _, _, _, _, _, _, _ => none
  | k + 1, x1, x8, x9, x85, x86, x515000, x515001, x523000, x523001 => if x86 < x85 then ((parquetryref1_Place.f k x8 x86).bind fun t529 => ((tensor_Get.f k x523000 x523001 t529).bind fun bt532 => (if 0 ≤ x86 then (if x86 < (x515001.length : Int) then (if (rd x515001 x86) = x1 then (if bt532.2 = true then (if 0 ≤ x9 then (if x9 < (t529.length : Int) then (if bt532.1 = (rd t529 x9) then (parquetrylaw2_TensorMade.l0 k x1 x8 x9 x85 (wrap64 (x86 + 1)) x515000 x515001 x523000 x523001) else (none)) else (none)) else (none)) else (none)) else (none)) else (none)) else (none)))) else ((parquetryref1_Size.f k x8).bind fun t527 => (if (x515001.length : Int) = t527 then ((parquetrylaw2_known.f k).bind fun t528 => (if t528 = true then (some true) else (none))) else (none)))
end
def parquetrylaw2_TensorMade.f (k : Nat) (l0 : List Int) (a1 : Int) (a2 : Int) : Option (Bool) := (parquetrykeep_Tape_Next.f k l0 0 3).bind fun bt492 => ((some (([wrap64 (1 + bt492.1)] : List Int) : List Int)).bind fun y494 => ((parquetrykeep_Tape_Shape.f k l0 bt492.2).bind fun bt497 => (if y494.length + bt497.1.length < 17592186044416 then ((some (y494 ++ bt497.1 : List Int)).bind fun y501 => (if (y501.length : Int) > 4 then (if 4 ≤ (y501.length : Int) then (parquetrylaw2_TensorMade.j0 k a1 a2 (y501.take (4 : Int).toNat)) else (none)) else (parquetrylaw2_TensorMade.j0 k a1 a2 y501))) else (none))))
theorem parquetrylaw2_TensorMade.mono_l : ∀ k, (∀ y0 y1 y2, LeO (parquetrylaw2_TensorMade.j0 k y0 y1 y2) (parquetrylaw2_TensorMade.j0 (k + 1) y0 y1 y2)) ∧ (∀ y0 y1 y2 y3 y4 y5 y6 y7, LeO (parquetrylaw2_TensorMade.j1 k y0 y1 y2 y3 y4 y5 y6 y7) (parquetrylaw2_TensorMade.j1 (k + 1) y0 y1 y2 y3 y4 y5 y6 y7)) ∧ (∀ y0 y1 y2 y3 y4 y5 y6 y7 y8, LeO (parquetrylaw2_TensorMade.l0 k y0 y1 y2 y3 y4 y5 y6 y7 y8) (parquetrylaw2_TensorMade.l0 (k + 1) y0 y1 y2 y3 y4 y5 y6 y7 y8))
  | 0 => ⟨fun _ _ _ r h => by simp [parquetrylaw2_TensorMade.j0] at h, fun _ _ _ _ _ _ _ _ r h => by simp [parquetrylaw2_TensorMade.j1] at h, fun _ _ _ _ _ _ _ _ _ r h => by simp [parquetrylaw2_TensorMade.l0] at h⟩
  | k + 1 => by
    obtain ⟨ih0, ih1, ih2⟩ := parquetrylaw2_TensorMade.mono_l k
    refine ⟨?_, ?_, ?_⟩
    · intro y0 y1 y2
      unfold parquetrylaw2_TensorMade.j0
      repeat' first
      | (with_reducible exact ih0 _ _ _)
      | (with_reducible exact ih1 _ _ _ _ _ _ _ _)
      | (with_reducible exact ih2 _ _ _ _ _ _ _ _ _)
      | (with_reducible exact parquetrykeep_Tape_Next.mono _ _ _ _)
      | (with_reducible exact parquetrykeep_Tape_Shape.mono _ _ _)
      | (with_reducible exact parquetrylaw2_known.mono _)
      | (with_reducible exact parquetryref1_Place.mono _ _ _)
      | (with_reducible exact parquetryref1_Right.mono _ _)
      | (with_reducible exact parquetryref1_Size.mono _ _)
      | (with_reducible exact tensor_Fill.mono _ _ _)
      | (with_reducible exact tensor_Get.mono _ _ _ _)
      | (with_reducible exact tensor_Iota.mono _ _ _)
      | (with_reducible exact tensor_Right.mono _ _ _)
      | (with_reducible exact LeO.refl _)
      | (with_reducible exact LeO.none _)
      | (with_reducible refine LeO.ite ?_ ?_)
      | (with_reducible refine LeO.bind ?_ (fun _ => ?_))
      | exact ih0 _ _ _
      | exact ih1 _ _ _ _ _ _ _ _
      | exact ih2 _ _ _ _ _ _ _ _ _
      | exact parquetrykeep_Tape_Next.mono _ _ _ _
      | exact parquetrykeep_Tape_Shape.mono _ _ _
      | exact parquetrylaw2_known.mono _
      | exact parquetryref1_Place.mono _ _ _
      | exact parquetryref1_Right.mono _ _
      | exact parquetryref1_Size.mono _ _
      | exact tensor_Fill.mono _ _ _
      | exact tensor_Get.mono _ _ _ _
      | exact tensor_Iota.mono _ _ _
      | exact tensor_Right.mono _ _ _
      | exact LeO.none _
      | refine LeO.ite ?_ ?_
      | refine LeO.bind ?_ (fun _ => ?_)
    · intro y0 y1 y2 y3 y4 y5 y6 y7
      unfold parquetrylaw2_TensorMade.j1
      repeat' first
      | (with_reducible exact ih0 _ _ _)
      | (with_reducible exact ih1 _ _ _ _ _ _ _ _)
      | (with_reducible exact ih2 _ _ _ _ _ _ _ _ _)
      | (with_reducible exact parquetrykeep_Tape_Next.mono _ _ _ _)
      | (with_reducible exact parquetrykeep_Tape_Shape.mono _ _ _)
      | (with_reducible exact parquetrylaw2_known.mono _)
      | (with_reducible exact parquetryref1_Place.mono _ _ _)
      | (with_reducible exact parquetryref1_Right.mono _ _)
      | (with_reducible exact parquetryref1_Size.mono _ _)
      | (with_reducible exact tensor_Fill.mono _ _ _)
      | (with_reducible exact tensor_Get.mono _ _ _ _)
      | (with_reducible exact tensor_Iota.mono _ _ _)
      | (with_reducible exact tensor_Right.mono _ _ _)
      | (with_reducible exact LeO.refl _)
      | (with_reducible exact LeO.none _)
      | (with_reducible refine LeO.ite ?_ ?_)
      | (with_reducible refine LeO.bind ?_ (fun _ => ?_))
      | exact ih0 _ _ _
      | exact ih1 _ _ _ _ _ _ _ _
      | exact ih2 _ _ _ _ _ _ _ _ _
      | exact parquetrykeep_Tape_Next.mono _ _ _ _
      | exact parquetrykeep_Tape_Shape.mono _ _ _
      | exact parquetrylaw2_known.mono _
      | exact parquetryref1_Place.mono _ _ _
      | exact parquetryref1_Right.mono _ _
      | exact parquetryref1_Size.mono _ _
      | exact tensor_Fill.mono _ _ _
      | exact tensor_Get.mono _ _ _ _
      | exact tensor_Iota.mono _ _ _
      | exact tensor_Right.mono _ _ _
      | exact LeO.none _
      | refine LeO.ite ?_ ?_
      | refine LeO.bind ?_ (fun _ => ?_)
    · intro y0 y1 y2 y3 y4 y5 y6 y7 y8
      unfold parquetrylaw2_TensorMade.l0
      repeat' first
      | (with_reducible exact ih0 _ _ _)
      | (with_reducible exact ih1 _ _ _ _ _ _ _ _)
      | (with_reducible exact ih2 _ _ _ _ _ _ _ _ _)
      | (with_reducible exact parquetrykeep_Tape_Next.mono _ _ _ _)
      | (with_reducible exact parquetrykeep_Tape_Shape.mono _ _ _)
      | (with_reducible exact parquetrylaw2_known.mono _)
      | (with_reducible exact parquetryref1_Place.mono _ _ _)
      | (with_reducible exact parquetryref1_Right.mono _ _)
      | (with_reducible exact parquetryref1_Size.mono _ _)
      | (with_reducible exact tensor_Fill.mono _ _ _)
      | (with_reducible exact tensor_Get.mono _ _ _ _)
      | (with_reducible exact tensor_Iota.mono _ _ _)
      | (with_reducible exact tensor_Right.mono _ _ _)
      | (with_reducible exact LeO.refl _)
      | (with_reducible exact LeO.none _)
      | (with_reducible refine LeO.ite ?_ ?_)
      | (with_reducible refine LeO.bind ?_ (fun _ => ?_))
      | exact ih0 _ _ _
      | exact ih1 _ _ _ _ _ _ _ _
      | exact ih2 _ _ _ _ _ _ _ _ _
      | exact parquetrykeep_Tape_Next.mono _ _ _ _
      | exact parquetrykeep_Tape_Shape.mono _ _ _
      | exact parquetrylaw2_known.mono _
      | exact parquetryref1_Place.mono _ _ _
      | exact parquetryref1_Right.mono _ _
      | exact parquetryref1_Size.mono _ _
      | exact tensor_Fill.mono _ _ _
      | exact tensor_Get.mono _ _ _ _
      | exact tensor_Iota.mono _ _ _
      | exact tensor_Right.mono _ _ _
      | exact LeO.none _
      | refine LeO.ite ?_ ?_
      | refine LeO.bind ?_ (fun _ => ?_)
theorem parquetrylaw2_TensorMade.mono : ∀ a0 a1 a2 k, LeO (parquetrylaw2_TensorMade.f k a0 a1 a2) (parquetrylaw2_TensorMade.f (k + 1) a0 a1 a2) := by
  intro a0 a1 a2 k
  obtain ⟨ih0, ih1, ih2⟩ := parquetrylaw2_TensorMade.mono_l k
  unfold parquetrylaw2_TensorMade.f
  repeat' first
      | (with_reducible exact ih0 _ _ _)
      | (with_reducible exact ih1 _ _ _ _ _ _ _ _)
      | (with_reducible exact ih2 _ _ _ _ _ _ _ _ _)
      | (with_reducible exact parquetrykeep_Tape_Next.mono _ _ _ _)
      | (with_reducible exact parquetrykeep_Tape_Shape.mono _ _ _)
      | (with_reducible exact parquetrylaw2_known.mono _)
      | (with_reducible exact parquetryref1_Place.mono _ _ _)
      | (with_reducible exact parquetryref1_Right.mono _ _)
      | (with_reducible exact parquetryref1_Size.mono _ _)
      | (with_reducible exact tensor_Fill.mono _ _ _)
      | (with_reducible exact tensor_Get.mono _ _ _ _)
      | (with_reducible exact tensor_Iota.mono _ _ _)
      | (with_reducible exact tensor_Right.mono _ _ _)
      | (with_reducible exact LeO.refl _)
      | (with_reducible exact LeO.none _)
      | (with_reducible refine LeO.ite ?_ ?_)
      | (with_reducible refine LeO.bind ?_ (fun _ => ?_))
      | exact ih0 _ _ _
      | exact ih1 _ _ _ _ _ _ _ _
      | exact ih2 _ _ _ _ _ _ _ _ _
      | exact parquetrykeep_Tape_Next.mono _ _ _ _
      | exact parquetrykeep_Tape_Shape.mono _ _ _
      | exact parquetrylaw2_known.mono _
      | exact parquetryref1_Place.mono _ _ _
      | exact parquetryref1_Right.mono _ _
      | exact parquetryref1_Size.mono _ _
      | exact tensor_Fill.mono _ _ _
      | exact tensor_Get.mono _ _ _ _
      | exact tensor_Iota.mono _ _ _
      | exact tensor_Right.mono _ _ _
      | exact LeO.none _
      | refine LeO.ite ?_ ?_
      | refine LeO.bind ?_ (fun _ => ?_)
def parquetrylaw2_TensorMade.T20 : Bool × List (List Nat × List Nat) := (true, [([], []), ([0], [0]), ([1], [1]), ([], []), ([3], [3]), ([2, 4], [2, 4]), ([5, 4], [5]), ([6, 6], [6]), ([6, 7], [6, 7]), ([8, 7, 0, 1, 2, 3, 4, 5, 6, 7, 8], [8])])
def parquetrylaw2_TensorMade.B20 : List Nat := [0, 1, 3, 0, 8, 31, 63, 127, 255, 511]
theorem parquetrylaw2_TensorMade.tab20 : rtab .any (opsOf Try.f15 20) = parquetrylaw2_TensorMade.T20 := by kernel_rfl
theorem parquetrylaw2_TensorMade.bits20 : waitsOk parquetrylaw2_TensorMade.T20.2 parquetrylaw2_TensorMade.B20 = true := by kernel_rfl
set_option maxHeartbeats 8000000 in
set_option maxRecDepth 100000 in
theorem parquetrylaw2_TensorMade.calls (k : Nat) (A0 : Option Addr) (c0 : Nat) (l0 : List Int) (a1 : Int) (a2 : Int) (r : Bool) (w : World) (hr0 : Kd.C (Kd.int .i64) w A0 l0.length l0) (hc0 : l0.length ≤ c0) (h : parquetrylaw2_TensorMade.f k l0 a1 a2 = some r) :
    Calls Try.prog 15 #[.slice A0 l0.length c0, .int .i64 a1, .int .i64 a2] w fun e w' => e = .returned (.bool r) ∧ Below w.heap.size w w' := by
  have hu29 := Try.underlying29
  have hu53 := Try.underlying53
  have HR0 := Aside0.mk hr0
  have HC0 := Aside0.mk hc0
  clear hr0 hc0
  have HB := Aside0.mk (Below.refl w.heap.size w)
  have H : ((parquetrykeep_Tape_Next.f k l0 0 3).bind fun bt492 => ((some (([wrap64 (1 + bt492.1)] : List Int) : List Int)).bind fun y494 => ((parquetrykeep_Tape_Shape.f k l0 bt492.2).bind fun bt497 => (if y494.length + bt497.1.length < 17592186044416 then ((some (y494 ++ bt497.1 : List Int)).bind fun y501 => (if (y501.length : Int) > 4 then (if 4 ≤ (y501.length : Int) then (parquetrylaw2_TensorMade.j0 k a1 a2 (y501.take (4 : Int).toNat)) else (none)) else (parquetrylaw2_TensorMade.j0 k a1 a2 y501))) else (none))))) = some r := h
  clear h
  replace H := Option.bind_eq_some_iff.mp H
  obtain ⟨⟨t492, t493⟩, A40, H⟩ := H
  replace H : ((some (([wrap64 (1 + t492)] : List Int) : List Int)).bind fun y494 => ((parquetrykeep_Tape_Shape.f k l0 t493).bind fun bt497 => (if y494.length + bt497.1.length < 17592186044416 then ((some (y494 ++ bt497.1 : List Int)).bind fun y501 => (if (y501.length : Int) > 4 then (if 4 ≤ (y501.length : Int) then (parquetrylaw2_TensorMade.j0 k a1 a2 (y501.take (4 : Int).toNat)) else (none)) else (parquetrylaw2_TensorMade.j0 k a1 a2 y501))) else (none)))) = some r := H
  have A4 := Aside0.mk A40
  clear A40
  obtain ⟨y494, hy494⟩ : ∃ y_ : List Int, y_ = (([wrap64 (1 + t492)] : List Int)) := ⟨_, rfl⟩
  replace H : ((parquetrykeep_Tape_Shape.f k l0 t493).bind fun bt497 => (if y494.length + bt497.1.length < 17592186044416 then ((some (y494 ++ bt497.1 : List Int)).bind fun y501 => (if (y501.length : Int) > 4 then (if 4 ≤ (y501.length : Int) then (parquetrylaw2_TensorMade.j0 k a1 a2 (y501.take (4 : Int).toNat)) else (none)) else (parquetrylaw2_TensorMade.j0 k a1 a2 y501))) else (none))) = some r := by first | (rw [hy494]; with_reducible exact H) | (have H2_ := (Option.bind_some _ _).symm.trans H; rw [hy494]; with_reducible exact H2_) | (have H2_ := (Option.bind_some _ _).symm.trans H; with_reducible exact H2_) | with_reducible exact H | (rw [hy494]; exact H) | exact H
  have Ny494 := Aside0.mk hy494
  clear hy494
  replace H := Option.bind_eq_some_iff.mp H
  obtain ⟨⟨t497, t500⟩, A50, H⟩ := H
  replace H : (if y494.length + t497.length < 17592186044416 then ((some (y494 ++ t497 : List Int)).bind fun y501 => (if (y501.length : Int) > 4 then (if 4 ≤ (y501.length : Int) then (parquetrylaw2_TensorMade.j0 k a1 a2 (y501.take (4 : Int).toNat)) else (none)) else (parquetrylaw2_TensorMade.j0 k a1 a2 y501))) else (none)) = some r := H
  have A5 := Aside0.mk A50
  clear A50
  by_cases c6 : y494.length + t497.length < 17592186044416
  · rw [if_pos c6] at H
    have LMc6 := Aside0.mk c6
    clear c6
    obtain ⟨y501, hy501⟩ : ∃ y_ : List Int, y_ = (y494 ++ t497) := ⟨_, rfl⟩
    replace H : (if (y501.length : Int) > 4 then (if 4 ≤ (y501.length : Int) then (parquetrylaw2_TensorMade.j0 k a1 a2 (y501.take (4 : Int).toNat)) else (none)) else (parquetrylaw2_TensorMade.j0 k a1 a2 y501)) = some r := by first | (rw [hy501]; with_reducible exact H) | (have H2_ := (Option.bind_some _ _).symm.trans H; rw [hy501]; with_reducible exact H2_) | (have H2_ := (Option.bind_some _ _).symm.trans H; with_reducible exact H2_) | with_reducible exact H | (rw [hy501]; exact H) | exact H
    have Ny501 := Aside0.mk hy501
    clear hy501
    have HC7 := Aside0.mk H
    clear H
    go_enter Try.func15, Try.ntmps15
    go_upto_if 30 with (first | ((with_reducible refine gate_dst (N := 20) rfl ?_); refine box_event ?hg (N := 20) ?hd (cs := #[.slice A0 l0.length c0, .int .i64 0]) (t := 29) ?hr ?_; (case hd => rfl); (case hg => rfl); (case hr => first | (go_simp; done) | (go_simp; rfl)); intro gb491 hg w8 hbox hb; have n0_ := Aside0.mk (below_step (by repeat (first | (with_reducible first | exact HB.out | apply below_alloc | apply pw_below_drewN | apply below_drew1) | exact HB.out)) hb); have n1_ := Aside0.mk ((⟨_, _,  hbox, (by rw [hg]; exact (below_size (by repeat (first | (with_reducible first | exact HB.out | apply below_alloc | apply pw_below_drewN | apply below_drew1) | exact HB.out))) : w.heap.size ≤ gb491), HR0.out⟩ : IsS29 w w8 gb491 l0 0)); have n2_ := Aside0.mk ((by rw [hg]; exact (below_size (by repeat (first | (with_reducible first | exact HB.out | apply below_alloc | apply pw_below_drewN | apply below_drew1) | exact HB.out))) : w.heap.size ≤ gb491)); have n3_ := Aside0.mk ((by rw [hg]; exact (below_size (by repeat (first | (with_reducible first | exact HB.out | apply below_alloc | apply pw_below_drewN | apply below_drew1) | exact HB.out))) : w.heap.size ≤ gb491)); clear HB; have HB := n0_; have HI491 := n1_; have GW491 := n2_; have GE491 := n3_; clear n0_ n1_ n2_ n3_; clear hb hbox hg) | ((with_reducible refine gate_callee (f := 23) rfl ?_); refine goesL_ (some 22) rfl rfl Try.func23 (by kernel_rfl) rfl #[.pointer (some ⟨gb491, 0, none⟩), .int .i64 3] rfl (by (try simp only [List.map_toArray, List.map_cons, List.map_nil]); first | done | rfl | (simp only [List.length_drop, List.length_take]; rfl)) ?_; (with_reducible refine (parquetrykeep_Tape_Next.calls k gb491 l0 0 3 t492 t493 w _ ?side1 ?side2 A4.out).mono ?_); (case side1 => repeat (first | (with_reducible first | exact HI491.out | apply IsS29.alloc | apply IsS29.drewN | apply IsS29.drew | apply IsS29.set_1) | exact HI491.out)); (case side2 => repeat (first | (with_reducible first | exact HB.out | apply below_alloc | apply pw_below_drewN | apply below_drew1 | refine below_set ?_ (IsS29.ge HI491.out)) | exact HB.out)); rintro e w9 ⟨rfl, hi, hb, hk⟩; refine ⟨_, rfl, ?_⟩; have n0_ := Aside0.mk (hb); have n1_ := Aside0.mk (hi); clear HB; clear HI491; have HB := n0_; have HI491 := n1_; clear n0_ n1_; (try clear hb); (try clear hb2); (try clear hk); (try clear hi)) | ((with_reducible refine gate_dst (N := 24) rfl ?_); refine Kd.R_lit (Kd.int .i64) _ 3 ?hg (N := 24) ?hd (xs := ([wrap64 (1 + t492)] : List Int)) (inner := [.int .i64 (wrap64 (1 + t492))]) (ok := fun _ => True) (okp := fun _ => True) ?hr ?hp (fun _ hk => hk) trivial (Below.refl _ _) (Nat.le_refl _) (by simp) ?_; (case hd => rfl); (case hg => rfl); (case hr => first | (go_simp; done) | (go_simp; rfl)); (case hp => exact (Reps.one (show Kd.M (Kd.int .i64) _ _ _ (wrap64 (1 + t492)) [.int .i64 (wrap64 (1 + t492))] from rfl) (Reps.none _ _))); intro v495 w10 ho11 hb hg_ hnew_; clear hg_ hnew_; (first | rw [← Ny494.out] at ho11 | (simp only [Int.reduceToNat] at ho11; rw [← Ny494.out] at ho11)); have n0_ := Aside0.mk (Kd.R_lower ho11 (below_size (by repeat (first | (with_reducible first | exact HB.out | apply below_alloc | apply pw_below_drewN | apply below_drew1 | refine below_set ?_ (IsS29.ge HI491.out)) | exact HB.out)))); have n1_ := Aside0.mk (IsS29.below (by repeat (first | (with_reducible first | exact HI491.out | apply IsS29.alloc | apply IsS29.drewN | apply IsS29.drew | apply IsS29.set_1) | exact HI491.out)) hb); have n2_ := Aside0.mk (below_step (by repeat (first | (with_reducible first | exact HB.out | apply below_alloc | apply pw_below_drewN | apply below_drew1 | refine below_set ?_ (IsS29.ge HI491.out)) | exact HB.out)) hb); clear HI491; clear HB; have HO496 := n0_; have HI491 := n1_; have HB := n2_; clear n0_ n1_ n2_; clear hb ho11) | ((with_reducible refine gate_callee (f := 22) rfl ?_); refine goesL_ (some 26) rfl rfl Try.func22 (by kernel_rfl) rfl #[.pointer (some ⟨gb491, 0, none⟩)] rfl (by (try simp only [List.map_toArray, List.map_cons, List.map_nil]); first | done | rfl | (simp only [List.length_drop, List.length_take]; rfl)) ?_; (with_reducible refine (parquetrykeep_Tape_Shape.calls k gb491 l0 t493 t497 t500 w _ ?side1 ?side2 A5.out).mono ?_); (case side1 => repeat (first | (with_reducible first | exact HI491.out | apply IsS29.alloc | apply IsS29.drewN | apply IsS29.drew | apply IsS29.set_1) | exact HI491.out)); (case side2 => repeat (first | (with_reducible first | exact HB.out | apply below_alloc | apply pw_below_drewN | apply below_drew1 | refine below_set ?_ (IsS29.ge HI491.out)) | exact HB.out)); rintro e w12 ⟨v498, rfl, ho0, hi, hb, hk⟩; refine ⟨_, rfl, ?_⟩; have n0_ := Aside0.mk (Kd.R_mono (Kd.R_told (Kd.R_oldK (IsS29.apart (show IsS29 w _ gb491 l0 t493 from by repeat (first | (with_reducible first | exact HI491.out | apply IsS29.alloc | apply IsS29.drewN | apply IsS29.drew | apply IsS29.set_1) | exact HI491.out)) (by (with_reducible repeat (first | apply Kd.R_alloc | apply Kd.R_drewN | apply Kd.R_drew)); exact HO496.out) (by decide)) hk) (Kd.R_base ho0)) (fun _ h_ => h_.1)); have n1_ := Aside0.mk (Kd.R_lower (Kd.R_new' ho0 (Kd.R_lt (by (with_reducible repeat (first | apply Kd.R_alloc | apply Kd.R_drewN | apply Kd.R_drew)); exact HO496.out))) (below_size (by repeat (first | (with_reducible first | exact HB.out | apply below_alloc | apply pw_below_drewN | apply below_drew1 | refine below_set ?_ (IsS29.ge HI491.out)) | exact HB.out)))); have n2_ := Aside0.mk (hb); have n3_ := Aside0.mk (hi); clear HO496; clear HB; clear HI491; have HO496 := n0_; have HO499 := n1_; have HB := n2_; have HI491 := n3_; clear n0_ n1_ n2_ n3_; (try clear hb); (try clear hb2); (try clear hk); (try clear hi); (try clear ho0); obtain ⟨Ao14, co14, eo14⟩ := Kd.R_slice HO499.out; subst eo14) | ((with_reducible refine gate_builtin (b := .append) (xs := #[.tmp 24, .tmp 26]) rfl ?_); at_builtin; refine Kd.R_append_rows (Kd.int .i64) (w0 := w) w.heap.size rfl (.tmp 24) (.tmp 26) 22 3 (.int .i64 0) 8 rfl Try.underlying22 info3 rfl (by decide) (by omega) v495 y494 t497 _ _ _ (fun k_ => some k_ ≠ (.slice Ao14 t497.length co14 : Value).ownBlock) (fun _ => False) rfl rfl ?aO ?aR (fun _ _ h => h) (fun _ h => h.elim) ?aF ?aB ?aS ?aL ?_; (case aR => repeat (first | exact (Kd.R_reads' HO499.out).2.2 | (with_reducible refine Kd.C_alloc ?_ _) | (with_reducible refine Kd.C_drewN ?_ _) | (with_reducible refine Kd.C_drew ?_))); (case aB => exact (by repeat (first | (with_reducible first | exact HB.out | apply below_alloc | apply pw_below_drewN | apply below_drew1 | refine below_set ?_ (IsS29.ge HI491.out)) | exact HB.out))); (case aF => exact (fun k_ hk => Kd.fresh' (Kd.R_lt (by (with_reducible repeat (first | apply Kd.R_alloc | apply Kd.R_drewN | apply Kd.R_drew)); exact HO499.out)) k_ hk)); (case aO => exact (by (with_reducible repeat (first | apply Kd.R_alloc | apply Kd.R_drewN | apply Kd.R_drew)); exact Kd.R_mono HO496.out (fun _ hk => hk.2))); (case aS => exact (below_size (by repeat (first | (with_reducible first | exact HB.out | apply below_alloc | apply pw_below_drewN | apply below_drew1 | refine below_set ?_ (IsS29.ge HI491.out)) | exact HB.out)))); (case aL => have := LMc6.out; omega); intro v502 w13 ho hb hg hat; rw [← Ny501.out] at ho; have n0_ := Aside0.mk (IsS29.grown (by repeat (first | (with_reducible first | exact HI491.out | apply IsS29.alloc | apply IsS29.drewN | apply IsS29.drew | apply IsS29.set_1) | exact HI491.out)) hg (IsS29.own_ne HI491.out HO496.out (by decide))); have n1_ := Aside0.mk (Kd.R_after (ok := (fun _ => True)) (by (with_reducible repeat (first | apply Kd.R_alloc | apply Kd.R_drewN | apply Kd.R_drew)); exact HO499.out) hg hat); have n2_ := Aside0.mk (hb); have n3_ := Aside0.mk (ho); clear HI491; clear HO499; clear HB; clear HO496; have HI491 := n0_; have HO499 := n1_; have HB := n2_; have HO503 := n3_; clear n0_ n1_ n2_ n3_; clear ho hb hg hat; obtain ⟨Ao15, co15, eo15⟩ := Kd.R_slice HO503.out; subst eo15))
    (try simp only [Act.put, List.setIfInBounds_toArray, List.set_cons_zero, List.set_cons_succ])
    go_cut [8] (fun v8 wc => ∃ (kq : Nat) (x8_6 : List Int), Aside0 (parquetrylaw2_TensorMade.j0 kq a1 a2 x8_6 = some r) ∧ Aside0 (kq ≤ k) ∧ Aside0 (Kd.R (Kd.int .i64) 3 wc w.heap.size (fun _ => True) v8 x8_6) ∧ Aside0 (Below w.heap.size w wc))
    case first =>
      have H := HC7.out
      clear HC7
      by_cases c16 : (y501.length : Int) > 4
      · rw [if_pos c16] at H
        have c16b0 : decide (4 < (y501.length : Int)) = true := decide_eq_true c16
        have c16b1 : decide (4 < y501.length) = true := decide_eq_true (by omega)
        clear c16
        (first | rw [c16b0] | (simp only [i64_w, i32_w]; rw [c16b0]) | skip)
        by_cases c17 : 4 ≤ (y501.length : Int)
        · rw [if_pos c17] at H
          have c17b0 := eq_true c17
          have c17b1 : decide (4 ≤ (y501.length : Int)) = true := decide_eq_true c17
          clear c17
          obtain ⟨y504, hy504⟩ : ∃ y_ : List Int, y_ = (y501.take (4 : Int).toNat) := ⟨_, rfl⟩
          replace H : (parquetrylaw2_TensorMade.j0 k a1 a2 y504) = some r := by first | (rw [hy504]; with_reducible exact H) | (have H2_ := (Option.bind_some _ _).symm.trans H; rw [hy504]; with_reducible exact H2_) | (have H2_ := (Option.bind_some _ _).symm.trans H; with_reducible exact H2_) | with_reducible exact H | (rw [hy504]; exact H) | exact H
          have Ny504 := Aside0.mk hy504
          clear hy504
          have H' := Aside0.mk H
          clear H
          have q18 : (4 : Int) ≤ ((y501.length : Int) : Int) := of_decide_eq_true (by first | (with_reducible assumption) | assumption)
          obtain ⟨i018, hi018, _, hsz18, _⟩ := info_parts info3
          have hcut18 := cut_to (P := Try.prog) 22 3 .i64 Try.underlying22 hi018 Ao15 y501.length co15 4 (by omega) q18 (Kd.R_reads' HO503.out).2.1
          have hr18 := Kd.R_take (m := (4 : Int).toNat) HO503.out (by omega)
          have hy18 : y504.length = (4 : Int).toNat := (by rw [Ny504.out, List.length_take]; omega)
          rw [← Ny504.out] at hr18
          rw [← hy18] at hr18 hcut18
          clear hy18 hi018 hsz18 HO503
          have HO506 := Aside0.mk hr18
          clear hr18
          replace q18 := eq_true q18
          go_wp2
          go_meet
          case rel => exact ⟨_, (y504), H', ⟨by first | omega | exact Nat.le_refl _⟩, ⟨by (with_reducible repeat (first | apply Kd.R_alloc | apply Kd.R_drewN | apply Kd.R_drew)); exact Kd.R_mono HO506.out (fun _ hk => trivial)⟩, ⟨by repeat (first | (with_reducible first | exact HB.out | apply below_alloc | apply pw_below_drewN | apply below_drew1 | refine below_set ?_ (IsS29.ge HI491.out)) | exact HB.out)⟩⟩
        · rw [if_neg c17] at H
          exact absurd H (by simp)
      · rw [if_neg c16] at H
        have c16b0 : decide (4 < (y501.length : Int)) = false := decide_eq_false c16
        have c16b1 : decide (4 < y501.length) = false := decide_eq_false (by omega)
        clear c16
        (first | rw [c16b0] | (simp only [i64_w, i32_w]; rw [c16b0]) | skip)
        have H' := Aside0.mk H
        clear H
        go_wp2
        go_meet
        case rel => exact ⟨_, (y501), H', ⟨by first | omega | exact Nat.le_refl _⟩, ⟨by (with_reducible repeat (first | apply Kd.R_alloc | apply Kd.R_drewN | apply Kd.R_drew)); exact Kd.R_mono HO503.out (fun _ hk => trivial)⟩, ⟨by repeat (first | (with_reducible first | exact HB.out | apply below_alloc | apply pw_below_drewN | apply below_drew1 | refine below_set ?_ (IsS29.ge HI491.out)) | exact HB.out)⟩⟩
    case rest =>
      clear HC7
      try clear c1
      try clear q1
      try clear c2
      try clear p2
      try clear c6
      try clear p6
      try clear c15
      try clear c16
      try clear c16b0
      try clear c16b1
      try clear c17
      try clear c17b0
      try clear c17b1
      try clear q18
      try clear q18
      obtain ⟨kq, x8_6, HA, HJ6, HO_8, HB⟩ := hcut
      cases kq with
      | zero => exact absurd HA.out (by simp [parquetrylaw2_TensorMade.j0])
      | succ kj6 =>
        have H := HA.out
        clear HA
        simp only [parquetrylaw2_TensorMade.j0] at H
        by_cases c19 : (x8_6.length : Int) = 0
        · rw [if_pos c19] at H
          exact absurd H (by simp)
        · rw [if_neg c19] at H
          have c19b0 : ((x8_6.length : Int) == 0) = false := beq_eq_false_iff_ne.mpr c19
          have c19b1 : ((x8_6.length : Int) != 0) = true := bne_iff_ne.mpr c19
          have c19b2 : ¬ (x8_6 = []) := fun h_ => c19 (by rw [h_]; rfl)
          replace H := Option.bind_eq_some_iff.mp H
          obtain ⟨⟨t507, t510, t513⟩, A200, H⟩ := H
          replace H : ((tensor_Iota.f kj6 x8_6 (Int.tmod (wrap64 ((Int.tmod a2 (x8_6.length : Int)) + (x8_6.length : Int))) (x8_6.length : Int))).bind fun bt515 => ((parquetryref1_Right.f kj6 x8_6).bind fun t523 => (if t523 = true then (if t513 = 0 then (if bt515.2.2 = 0 then ((tensor_Right.f kj6 t507 t510).bind fun t525 => (if t525 = true then ((tensor_Right.f kj6 bt515.1 bt515.2.1).bind fun t526 => (parquetrylaw2_TensorMade.j1 kj6 a1 x8_6 (Int.tmod (wrap64 ((Int.tmod a2 (x8_6.length : Int)) + (x8_6.length : Int))) (x8_6.length : Int)) (!t526) t507 t510 bt515.1 bt515.2.1)) else (none))) else (none)) else (none)) else (if t513 = 13 then (if bt515.2.2 = 13 then ((parquetrylaw2_known.f kj6).bind fun t524 => (if t524 = true then (some true) else (none))) else (none)) else (none))))) = some r := H
          have A20 := Aside0.mk A200
          clear A200
          replace H := Option.bind_eq_some_iff.mp H
          obtain ⟨⟨t515, t518, t521⟩, A210, H⟩ := H
          replace H : ((parquetryref1_Right.f kj6 x8_6).bind fun t523 => (if t523 = true then (if t513 = 0 then (if t521 = 0 then ((tensor_Right.f kj6 t507 t510).bind fun t525 => (if t525 = true then ((tensor_Right.f kj6 t515 t518).bind fun t526 => (parquetrylaw2_TensorMade.j1 kj6 a1 x8_6 (Int.tmod (wrap64 ((Int.tmod a2 (x8_6.length : Int)) + (x8_6.length : Int))) (x8_6.length : Int)) (!t526) t507 t510 t515 t518)) else (none))) else (none)) else (none)) else (if t513 = 13 then (if t521 = 13 then ((parquetrylaw2_known.f kj6).bind fun t524 => (if t524 = true then (some true) else (none))) else (none)) else (none)))) = some r := H
          have A21 := Aside0.mk A210
          clear A210
          replace H := Option.bind_eq_some_iff.mp H
          obtain ⟨t523, A220, H⟩ := H
          replace H : (if t523 = true then (if t513 = 0 then (if t521 = 0 then ((tensor_Right.f kj6 t507 t510).bind fun t525 => (if t525 = true then ((tensor_Right.f kj6 t515 t518).bind fun t526 => (parquetrylaw2_TensorMade.j1 kj6 a1 x8_6 (Int.tmod (wrap64 ((Int.tmod a2 (x8_6.length : Int)) + (x8_6.length : Int))) (x8_6.length : Int)) (!t526) t507 t510 t515 t518)) else (none))) else (none)) else (none)) else (if t513 = 13 then (if t521 = 13 then ((parquetrylaw2_known.f kj6).bind fun t524 => (if t524 = true then (some true) else (none))) else (none)) else (none))) = some r := H
          have A22 := Aside0.mk A220
          clear A220
          by_cases c23 : t523 = true
          · subst c23
            have H1 : (if t513 = 0 then (if t521 = 0 then ((tensor_Right.f kj6 t507 t510).bind fun t525 => (if t525 = true then ((tensor_Right.f kj6 t515 t518).bind fun t526 => (parquetrylaw2_TensorMade.j1 kj6 a1 x8_6 (Int.tmod (wrap64 ((Int.tmod a2 (x8_6.length : Int)) + (x8_6.length : Int))) (x8_6.length : Int)) (!t526) t507 t510 t515 t518)) else (none))) else (none)) else (none)) = some r := by rw [if_pos rfl] at H; exact H
            clear H
            have H := H1
            clear H1
            have HC24 := Aside0.mk H
            clear H
            obtain ⟨Ao25, co25, eo25⟩ := Kd.R_slice HO_8.out
            subst eo25
            go_upto_region 10 with (first | ((with_reducible refine gate_callee (f := 47) rfl ?_); refine goesL_ (some 46) rfl rfl Try.func47 (by kernel_rfl) rfl #[.slice Ao25 x8_6.length co25, .int .i64 a1] rfl (by (try simp only [List.map_toArray, List.map_cons, List.map_nil]); first | done | rfl | (simp only [List.length_drop, List.length_take]; rfl)) ?_; (with_reducible refine (tensor_Fill.calls kj6 _ _ x8_6 a1 t507 t510 t513 _ ?side1 ?side2 A20.out).mono ?_); (case side1 => repeat (first | exact (Kd.R_reads' HO_8.out).2.2 | (with_reducible refine Kd.C_alloc ?_ _) | (with_reducible refine Kd.C_drewN ?_ _) | (with_reducible refine Kd.C_drew ?_))); (case side2 => exact (Kd.R_reads' HO_8.out).2.1); rintro e w26 ⟨v508, v511, rfl, ho0, ho1, hb⟩; refine ⟨_, rfl, ?_⟩; have n0_ := Aside0.mk (Kd.R_elder' (by (with_reducible repeat (first | apply Kd.R_alloc | apply Kd.R_drewN | apply Kd.R_drew)); exact HO_8.out) (Kd.R_base ho0) hb); have n1_ := Aside0.mk (Kd.R_lower (Kd.R_new' ho0 (Kd.R_lt (by (with_reducible repeat (first | apply Kd.R_alloc | apply Kd.R_drewN | apply Kd.R_drew)); exact HO_8.out))) (below_size (by repeat (first | (with_reducible first | exact HB.out | apply below_alloc | apply pw_below_drewN | apply below_drew1) | exact HB.out)))); have n2_ := Aside0.mk (Kd.R_lower ho1 (below_size (by repeat (first | (with_reducible first | exact HB.out | apply below_alloc | apply pw_below_drewN | apply below_drew1) | exact HB.out)))); have n3_ := Aside0.mk (below_step (by repeat (first | (with_reducible first | exact HB.out | apply below_alloc | apply pw_below_drewN | apply below_drew1) | exact HB.out)) hb); clear HO_8; clear HB; have HO_8 := n0_; have HO509 := n1_; have HO512 := n2_; have HB := n3_; clear n0_ n1_ n2_ n3_; (try clear hb); (try clear hb2); (try clear hk); (try clear hi); (try clear ho0); (try clear ho1)) | ((with_reducible refine gate_dst (N := 10) rfl ?_); refine box_event ?hg (N := 10) ?hd (cs := #[.slice none 0 0, .slice none 0 0]) (t := 53) ?hr ?_; (case hd => rfl); (case hg => rfl); (case hr => first | (go_simp; done) | (go_simp; rfl)); intro gb514 hg w27 hbox hb; have n0_ := Aside0.mk (Kd.R_below (by (with_reducible repeat (first | apply Kd.R_alloc | apply Kd.R_drewN | apply Kd.R_drew)); exact HO_8.out) hb); have n1_ := Aside0.mk (Kd.R_below (by (with_reducible repeat (first | apply Kd.R_alloc | apply Kd.R_drewN | apply Kd.R_drew)); exact HO509.out) hb); have n2_ := Aside0.mk (Kd.R_below (by (with_reducible repeat (first | apply Kd.R_alloc | apply Kd.R_drewN | apply Kd.R_drew)); exact HO512.out) hb); have n3_ := Aside0.mk (below_step (by repeat (first | (with_reducible first | exact HB.out | apply below_alloc | apply pw_below_drewN | apply below_drew1) | exact HB.out)) hb); have n4_ := Aside0.mk (hbox); have n5_ := Aside0.mk ((by rw [hg]; exact (below_size (by repeat (first | (with_reducible first | exact HB.out | apply below_alloc | apply pw_below_drewN | apply below_drew1) | exact HB.out))) : w.heap.size ≤ gb514)); have n6_ := Aside0.mk ((by rw [hg]; exact (below_size (by repeat (first | (with_reducible first | exact HB.out | apply below_alloc | apply pw_below_drewN | apply below_drew1) | exact HB.out))) : w.heap.size ≤ gb514)); clear HO_8; clear HO509; clear HO512; clear HB; have HO_8 := n0_; have HO509 := n1_; have HO512 := n2_; have HB := n3_; have BK514 := n4_; have GW514 := n5_; have GE514 := n6_; clear n0_ n1_ n2_ n3_ n4_ n5_ n6_; clear hb hbox hg; obtain ⟨Ao28, co28, eo28⟩ := Kd.R_slice HO509.out; subst eo28; have hcz29_0 : w27.cell? ⟨gb514, 0, none⟩ = some (.slice none 0 0) := (blk_cell BK514.out 0).trans rfl; have hcz29_1 : w27.cell? ⟨gb514, 1, none⟩ = some (.slice none 0 0) := (blk_cell BK514.out 1).trans rfl; have hfz29_0 := blk_frozen BK514.out 0; have hfz29_1 := blk_frozen BK514.out 1; obtain ⟨Ao30, co30, eo30⟩ := Kd.R_slice HO512.out; subst eo30) | ((with_reducible refine gate_callee (f := 48) rfl ?_); refine goesL_ (some 52) rfl rfl Try.func48 (by kernel_rfl) rfl #[.slice Ao25 x8_6.length co25, .int .i64 (Int.tmod (wrap64 ((Int.tmod a2 (x8_6.length : Int)) + (x8_6.length : Int))) (x8_6.length : Int))] rfl (by (try simp only [List.map_toArray, List.map_cons, List.map_nil]); first | done | rfl | (simp only [List.length_drop, List.length_take]; rfl)) ?_; (with_reducible refine (tensor_Iota.calls kj6 _ _ x8_6 (Int.tmod (wrap64 ((Int.tmod a2 (x8_6.length : Int)) + (x8_6.length : Int))) (x8_6.length : Int)) t515 t518 t521 _ ?side1 ?side2 A21.out).mono ?_); (case side1 => refine (Kd.R_reads' (e := 3) (base := w.heap.size) (ok := fun k_ => (True ∧ some k_ ≠ (.slice Ao28 t507.length co28 : Value).ownBlock)) (n := x8_6.length) (c := co25) ?_).2.2; exact (by (with_reducible repeat (first | apply Kd.R_alloc | apply Kd.R_drewN | apply Kd.R_drew)); exact (Kd.R_mono (Kd.R_far (p := ⟨gb514, 1, none⟩) (Kd.R_far (p := ⟨gb514, 0, none⟩) (Kd.R_types HO_8.out BK514.out (by decide)) (fun _ hk => hk.2) (.slice Ao28 t507.length co28)) (fun _ hk => hk.2) (.slice Ao30 t510.length co30)) (fun _ h_ => h_.1)))); (case side2 => exact (Kd.R_reads' HO_8.out).2.1); rintro e w31 ⟨v516, v519, rfl, ho0, ho1, hb⟩; refine ⟨_, rfl, ?_⟩; have n0_ := Aside0.mk (Kd.R_elder' (by (with_reducible repeat (first | apply Kd.R_alloc | apply Kd.R_drewN | apply Kd.R_drew)); exact (Kd.R_mono (Kd.R_far (p := ⟨gb514, 1, none⟩) (Kd.R_far (p := ⟨gb514, 0, none⟩) (Kd.R_types HO_8.out BK514.out (by decide)) (fun _ hk => hk.2) (.slice Ao28 t507.length co28)) (fun _ hk => hk.2) (.slice Ao30 t510.length co30)) (fun _ h_ => h_.1))) (Kd.R_base ho0) hb); have n1_ := Aside0.mk (Kd.R_elder' (by (with_reducible repeat (first | apply Kd.R_alloc | apply Kd.R_drewN | apply Kd.R_drew)); exact (Kd.R_mono (Kd.R_far (p := ⟨gb514, 1, none⟩) (Kd.R_far (p := ⟨gb514, 0, none⟩) (Kd.R_types HO509.out BK514.out (by decide)) (fun _ hk => hk.2) (.slice Ao28 t507.length co28)) (fun _ hk => hk.2) (.slice Ao30 t510.length co30)) (fun _ h_ => h_.1))) (Kd.R_base ho0) hb); have n2_ := Aside0.mk (Kd.R_elder' (by (with_reducible repeat (first | apply Kd.R_alloc | apply Kd.R_drewN | apply Kd.R_drew)); exact (Kd.R_mono (Kd.R_far (p := ⟨gb514, 1, none⟩) (Kd.R_far (p := ⟨gb514, 0, none⟩) (Kd.R_types HO512.out BK514.out (by decide)) (fun _ hk => hk.2) (.slice Ao28 t507.length co28)) (fun _ hk => hk.2) (.slice Ao30 t510.length co30)) (fun _ h_ => h_.1))) (Kd.R_base ho1) hb); have n3_ := Aside0.mk (Kd.R_lower (Kd.R_new' (Kd.R_new' ho0 (Kd.R_lt (by (with_reducible repeat (first | apply Kd.R_alloc | apply Kd.R_drewN | apply Kd.R_drew)); exact (Kd.R_mono (Kd.R_far (p := ⟨gb514, 1, none⟩) (Kd.R_far (p := ⟨gb514, 0, none⟩) (Kd.R_types HO_8.out BK514.out (by decide)) (fun _ hk => hk.2) (.slice Ao28 t507.length co28)) (fun _ hk => hk.2) (.slice Ao30 t510.length co30)) (fun _ h_ => h_.1))))) (Kd.R_lt (by (with_reducible repeat (first | apply Kd.R_alloc | apply Kd.R_drewN | apply Kd.R_drew)); exact (Kd.R_mono (Kd.R_far (p := ⟨gb514, 1, none⟩) (Kd.R_far (p := ⟨gb514, 0, none⟩) (Kd.R_types HO509.out BK514.out (by decide)) (fun _ hk => hk.2) (.slice Ao28 t507.length co28)) (fun _ hk => hk.2) (.slice Ao30 t510.length co30)) (fun _ h_ => h_.1))))) (below_size (by repeat (first | (with_reducible first | exact HB.out | apply below_alloc | apply pw_below_drewN | apply below_drew1 | refine below_set ?_ GE514.out) | exact HB.out)))); have n4_ := Aside0.mk (Kd.R_lower (Kd.R_new' ho1 (Kd.R_lt (by (with_reducible repeat (first | apply Kd.R_alloc | apply Kd.R_drewN | apply Kd.R_drew)); exact (Kd.R_mono (Kd.R_far (p := ⟨gb514, 1, none⟩) (Kd.R_far (p := ⟨gb514, 0, none⟩) (Kd.R_types HO512.out BK514.out (by decide)) (fun _ hk => hk.2) (.slice Ao28 t507.length co28)) (fun _ hk => hk.2) (.slice Ao30 t510.length co30)) (fun _ h_ => h_.1))))) (below_size (by repeat (first | (with_reducible first | exact HB.out | apply below_alloc | apply pw_below_drewN | apply below_drew1 | refine below_set ?_ GE514.out) | exact HB.out)))); have n5_ := Aside0.mk (blk_below (g := gb514) (o := .cells #[.slice Ao28 t507.length co28, .slice Ao30 t510.length co30] 53 (0, 0)) (by (with_reducible repeat (first | refine blk_drewN ?_ _ | refine blk_drew ?_ | refine blk_alloc ?_ _)); refine blk_put (cs := #[.slice Ao28 t507.length co28, .slice none 0 0]) ?_ 1 _ rfl; (with_reducible repeat (first | refine blk_drewN ?_ _ | refine blk_drew ?_ | refine blk_alloc ?_ _)); refine blk_put (cs := #[.slice none 0 0, .slice none 0 0]) ?_ 0 _ rfl; (with_reducible repeat (first | refine blk_drewN ?_ _ | refine blk_drew ?_ | refine blk_alloc ?_ _)); exact BK514.out) hb); have n6_ := Aside0.mk (below_step (by repeat (first | (with_reducible first | exact HB.out | apply below_alloc | apply pw_below_drewN | apply below_drew1 | refine below_set ?_ GE514.out) | exact HB.out)) hb); clear HO_8; clear HO509; clear HO512; clear BK514; clear HB; have HO_8 := n0_; have HO509 := n1_; have HO512 := n2_; have HO517 := n3_; have HO520 := n4_; have BK514 := n5_; have HB := n6_; clear n0_ n1_ n2_ n3_ n4_ n5_ n6_; (try clear hb); (try clear hb2); (try clear hk); (try clear hi); (try clear ho0); (try clear ho1)) | ((with_reducible refine gate_dst (N := 12) rfl ?_); refine box_event ?hg (N := 12) ?hd (cs := #[.slice none 0 0, .slice none 0 0]) (t := 53) ?hr ?_; (case hd => rfl); (case hg => rfl); (case hr => first | (go_simp; done) | (go_simp; rfl)); intro gb522 hg w32 hbox hb; have n0_ := Aside0.mk (Kd.R_below (by (with_reducible repeat (first | apply Kd.R_alloc | apply Kd.R_drewN | apply Kd.R_drew)); exact HO_8.out) hb); have n1_ := Aside0.mk (Kd.R_below (by (with_reducible repeat (first | apply Kd.R_alloc | apply Kd.R_drewN | apply Kd.R_drew)); exact HO509.out) hb); have n2_ := Aside0.mk (Kd.R_below (by (with_reducible repeat (first | apply Kd.R_alloc | apply Kd.R_drewN | apply Kd.R_drew)); exact HO512.out) hb); have n3_ := Aside0.mk (Kd.R_below (by (with_reducible repeat (first | apply Kd.R_alloc | apply Kd.R_drewN | apply Kd.R_drew)); exact HO517.out) hb); have n4_ := Aside0.mk (Kd.R_below (by (with_reducible repeat (first | apply Kd.R_alloc | apply Kd.R_drewN | apply Kd.R_drew)); exact HO520.out) hb); have n5_ := Aside0.mk (blk_below (g := gb514) (o := .cells #[.slice Ao28 t507.length co28, .slice Ao30 t510.length co30] 53 (0, 0)) (by (with_reducible repeat (first | refine blk_drewN ?_ _ | refine blk_drew ?_ | refine blk_alloc ?_ _)); exact BK514.out) hb); have n6_ := Aside0.mk (below_step (by repeat (first | (with_reducible first | exact HB.out | apply below_alloc | apply pw_below_drewN | apply below_drew1 | refine below_set ?_ GE514.out) | exact HB.out)) hb); have n7_ := Aside0.mk (hbox); have n8_ := Aside0.mk ((by rw [hg]; exact (below_size (by repeat (first | (with_reducible first | exact HB.out | apply below_alloc | apply pw_below_drewN | apply below_drew1 | refine below_set ?_ GE514.out) | exact HB.out))) : w.heap.size ≤ gb522)); have n9_ := Aside0.mk ((by rw [hg]; exact (below_size (by repeat (first | (with_reducible first | exact HB.out | apply below_alloc | apply pw_below_drewN | apply below_drew1 | refine below_set ?_ GE514.out) | exact HB.out))) : w.heap.size ≤ gb522)); have n10_ := Aside0.mk ((by rw [hg]; exact Nat.ne_of_lt (blk_lt (g := gb514) (o := .cells #[.slice Ao28 t507.length co28, .slice Ao30 t510.length co30] 53 (0, 0)) (by (with_reducible repeat (first | refine blk_drewN ?_ _ | refine blk_drew ?_ | refine blk_alloc ?_ _)); exact BK514.out)) : gb514 ≠ gb522)); have n11_ := Aside0.mk ((by rw [hg]; exact Nat.ne_of_gt (blk_lt (g := gb514) (o := .cells #[.slice Ao28 t507.length co28, .slice Ao30 t510.length co30] 53 (0, 0)) (by (with_reducible repeat (first | refine blk_drewN ?_ _ | refine blk_drew ?_ | refine blk_alloc ?_ _)); exact BK514.out)) : gb522 ≠ gb514)); clear HO_8; clear HO509; clear HO512; clear HO517; clear HO520; clear BK514; clear HB; have HO_8 := n0_; have HO509 := n1_; have HO512 := n2_; have HO517 := n3_; have HO520 := n4_; have BK514 := n5_; have HB := n6_; have BK522 := n7_; have GW522 := n8_; have GE522 := n9_; have NB514_522 := n10_; have NB522_514 := n11_; clear n0_ n1_ n2_ n3_ n4_ n5_ n6_ n7_ n8_ n9_ n10_ n11_; clear hb hbox hg; obtain ⟨Ao33, co33, eo33⟩ := Kd.R_slice HO517.out; subst eo33; have hnb34 := NB522_514.out; have hnc34 := NB514_522.out; have hcz35_0 : w32.cell? ⟨gb522, 0, none⟩ = some (.slice none 0 0) := (blk_cell BK522.out 0).trans rfl; have hcz35_1 : w32.cell? ⟨gb522, 1, none⟩ = some (.slice none 0 0) := (blk_cell BK522.out 1).trans rfl; have hfz35_0 := blk_frozen BK522.out 0; have hfz35_1 := blk_frozen BK522.out 1; obtain ⟨Ao36, co36, eo36⟩ := Kd.R_slice HO520.out; subst eo36) | ((with_reducible refine gate_callee (f := 49) rfl ?_); refine goesL_ (some 56) rfl rfl Try.func49 (by kernel_rfl) rfl #[.slice Ao25 x8_6.length co25] rfl (by (try simp only [List.map_toArray, List.map_cons, List.map_nil]); first | done | rfl | (simp only [List.length_drop, List.length_take]; rfl)) ?_; (with_reducible refine (parquetryref1_Right.calls kj6 _ _ x8_6 true _ ?side1 ?side2 A22.out).mono ?_); (case side1 => refine (Kd.R_reads' (e := 3) (base := w.heap.size) (ok := fun k_ => ((True ∧ some k_ ≠ (.slice Ao28 t507.length co28 : Value).ownBlock) ∧ some k_ ≠ (.slice Ao33 t515.length co33 : Value).ownBlock)) (n := x8_6.length) (c := co25) ?_).2.2; exact (by (with_reducible repeat (first | apply Kd.R_alloc | apply Kd.R_drewN | apply Kd.R_drew)); exact (Kd.R_mono (Kd.R_far (p := ⟨gb522, 1, none⟩) (Kd.R_far (p := ⟨gb522, 0, none⟩) (Kd.R_types HO_8.out BK522.out (by decide)) (fun _ hk => hk.2) (.slice Ao33 t515.length co33)) (fun _ hk => hk.2) (.slice Ao36 t518.length co36)) (fun _ h_ => h_.1)))); (case side2 => exact (Kd.R_reads' HO_8.out).2.1); rintro e w' ⟨rfl, ⟨nd, rfl⟩⟩; refine ⟨_, rfl, ?_⟩))
            (try simp only [Act.put, List.setIfInBounds_toArray, List.set_cons_zero, List.set_cons_succ])
            go_cut [82] (fun v82 wc => ∃ (kq : Nat) (x82_23 : Bool), v82 = .bool x82_23 ∧ Aside0 (parquetrylaw2_TensorMade.j1 kq a1 x8_6 (Int.tmod (wrap64 ((Int.tmod a2 (x8_6.length : Int)) + (x8_6.length : Int))) (x8_6.length : Int)) x82_23 t507 t510 t515 t518 = some r) ∧ Aside0 (kq ≤ kj6) ∧ Aside0 (Kd.R (Kd.int .i64) 3 wc w.heap.size (fun k_ => some k_ ≠ ((.slice Ao28 t507.length co28) : Value).ownBlock ∧ some k_ ≠ ((.slice Ao33 t515.length co33) : Value).ownBlock) (.slice Ao25 x8_6.length co25) x8_6) ∧ Aside0 (Kd.R (Kd.int .i64) 3 wc w.heap.size (fun k_ => some k_ ≠ ((.slice Ao25 x8_6.length co25) : Value).ownBlock ∧ some k_ ≠ ((.slice Ao33 t515.length co33) : Value).ownBlock) (.slice Ao28 t507.length co28) t507) ∧ Aside0 (Kd.R (Kd.int .i64) 2 wc w.heap.size (fun k_ => some k_ ≠ ((.slice Ao36 t518.length co36) : Value).ownBlock) (.slice Ao30 t510.length co30) t510) ∧ Aside0 (Kd.R (Kd.int .i64) 3 wc w.heap.size (fun k_ => some k_ ≠ ((.slice Ao25 x8_6.length co25) : Value).ownBlock ∧ some k_ ≠ ((.slice Ao28 t507.length co28) : Value).ownBlock) (.slice Ao33 t515.length co33) t515) ∧ Aside0 (Kd.R (Kd.int .i64) 2 wc w.heap.size (fun k_ => some k_ ≠ ((.slice Ao30 t510.length co30) : Value).ownBlock) (.slice Ao36 t518.length co36) t518) ∧ Aside0 (wc.heap[gb514]? = some (.cells #[(.slice Ao28 t507.length co28), (.slice Ao30 t510.length co30)] 53 (0, 0))) ∧ Aside0 (wc.heap[gb522]? = some (.cells #[(.slice Ao33 t515.length co33), (.slice Ao36 t518.length co36)] 53 (0, 0))) ∧ Aside0 (Below w.heap.size w wc))
            case first =>
              have H := HC24.out
              clear HC24
              by_cases c37 : t513 = 0
              · rw [if_pos c37] at H
                have c37b0 : (t513 == 0) = true := beq_iff_eq.mpr c37
                have c37b1 : (t513 != 0) = false := bne_eq_false_iff_eq.mpr c37
                clear c37
                (first | rw [c37b0] | (simp only [i64_w, i32_w]; rw [c37b0]) | skip)
                by_cases c38 : t521 = 0
                · rw [if_pos c38] at H
                  have c38b0 : (t521 == 0) = true := beq_iff_eq.mpr c38
                  have c38b1 : (t521 != 0) = false := bne_eq_false_iff_eq.mpr c38
                  clear c38
                  replace H := Option.bind_eq_some_iff.mp H
                  obtain ⟨t525, A390, H⟩ := H
                  replace H : (if t525 = true then ((tensor_Right.f kj6 t515 t518).bind fun t526 => (parquetrylaw2_TensorMade.j1 kj6 a1 x8_6 (Int.tmod (wrap64 ((Int.tmod a2 (x8_6.length : Int)) + (x8_6.length : Int))) (x8_6.length : Int)) (!t526) t507 t510 t515 t518)) else (none)) = some r := H
                  have A39 := Aside0.mk A390
                  clear A390
                  by_cases c40 : t525 = true
                  · subst c40
                    have H1 : ((tensor_Right.f kj6 t515 t518).bind fun t526 => (parquetrylaw2_TensorMade.j1 kj6 a1 x8_6 (Int.tmod (wrap64 ((Int.tmod a2 (x8_6.length : Int)) + (x8_6.length : Int))) (x8_6.length : Int)) (!t526) t507 t510 t515 t518)) = some r := by rw [if_pos rfl] at H; exact H
                    clear H
                    have H := H1
                    clear H1
                    replace H := Option.bind_eq_some_iff.mp H
                    obtain ⟨t526, A410, H⟩ := H
                    replace H : (parquetrylaw2_TensorMade.j1 kj6 a1 x8_6 (Int.tmod (wrap64 ((Int.tmod a2 (x8_6.length : Int)) + (x8_6.length : Int))) (x8_6.length : Int)) (!t526) t507 t510 t515 t518) = some r := H
                    have A41 := Aside0.mk A410
                    clear A410
                    have H' := Aside0.mk H
                    clear H
                    have hnb42 := NB514_522.out
                    have hnc42 := NB522_514.out
                    have hcz43_0 : w32.cell? ⟨gb514, 0, none⟩ = some (.slice Ao28 t507.length co28) := (blk_cell BK514.out 0).trans rfl
                    have hcz43_1 : w32.cell? ⟨gb514, 1, none⟩ = some (.slice Ao30 t510.length co30) := (blk_cell BK514.out 1).trans rfl
                    have hfz43_0 := blk_frozen BK514.out 0
                    have hfz43_1 := blk_frozen BK514.out 1
                    go_wp2_with (first | (go_at_call 50; (with_reducible refine (tensor_Right.calls kj6 _ _ t507 _ _ t510 true _ ?side1 ?side2 ?side3 ?side4 A39.out).mono ?_); (case side1 => refine (Kd.R_reads' (e := 3) (base := w.heap.size) (ok := fun k_ => ((True ∧ some k_ ≠ (.slice Ao25 x8_6.length co25 : Value).ownBlock) ∧ some k_ ≠ (.slice Ao33 t515.length co33 : Value).ownBlock)) (n := t507.length) (c := co28) ?_).2.2; exact (by (with_reducible repeat (first | apply Kd.R_alloc | apply Kd.R_drewN | apply Kd.R_drew)); exact (Kd.R_mono (Kd.R_far (p := ⟨gb522, 1, none⟩) (Kd.R_far (p := ⟨gb522, 0, none⟩) (Kd.R_types HO509.out BK522.out (by decide)) (fun _ hk => hk.2) (.slice Ao33 t515.length co33)) (fun _ hk => hk.2) (.slice Ao36 t518.length co36)) (fun _ h_ => h_.1)))); (case side2 => exact (Kd.R_reads' HO509.out).2.1); (case side3 => refine (Kd.R_reads' (e := 2) (base := w.heap.size) (ok := fun k_ => (True ∧ some k_ ≠ (.slice Ao36 t518.length co36 : Value).ownBlock)) (n := t510.length) (c := co30) ?_).2.2; exact (by (with_reducible repeat (first | apply Kd.R_alloc | apply Kd.R_drewN | apply Kd.R_drew)); exact (Kd.R_mono (Kd.R_far (p := ⟨gb522, 1, none⟩) (Kd.R_far (p := ⟨gb522, 0, none⟩) (Kd.R_types HO512.out BK522.out (by decide)) (fun _ hk => hk.2) (.slice Ao33 t515.length co33)) (fun _ hk => hk.2) (.slice Ao36 t518.length co36)) (fun _ h_ => h_.1)))); (case side4 => exact (Kd.R_reads' HO512.out).2.1); rintro e w44 ⟨rfl, hb⟩; have n0_ := Aside0.mk (Kd.R_below (by (with_reducible repeat (first | apply Kd.R_alloc | apply Kd.R_drewN | apply Kd.R_drew)); exact (Kd.R_mono (Kd.R_far (p := ⟨gb522, 1, none⟩) (Kd.R_far (p := ⟨gb522, 0, none⟩) (Kd.R_types HO_8.out BK522.out (by decide)) (fun _ hk => hk.2) (.slice Ao33 t515.length co33)) (fun _ hk => hk.2) (.slice Ao36 t518.length co36)) (fun _ h_ => h_.1))) hb); have n1_ := Aside0.mk (Kd.R_below (by (with_reducible repeat (first | apply Kd.R_alloc | apply Kd.R_drewN | apply Kd.R_drew)); exact (Kd.R_mono (Kd.R_far (p := ⟨gb522, 1, none⟩) (Kd.R_far (p := ⟨gb522, 0, none⟩) (Kd.R_types HO509.out BK522.out (by decide)) (fun _ hk => hk.2) (.slice Ao33 t515.length co33)) (fun _ hk => hk.2) (.slice Ao36 t518.length co36)) (fun _ h_ => h_.1))) hb); have n2_ := Aside0.mk (Kd.R_below (by (with_reducible repeat (first | apply Kd.R_alloc | apply Kd.R_drewN | apply Kd.R_drew)); exact (Kd.R_mono (Kd.R_far (p := ⟨gb522, 1, none⟩) (Kd.R_far (p := ⟨gb522, 0, none⟩) (Kd.R_types HO512.out BK522.out (by decide)) (fun _ hk => hk.2) (.slice Ao33 t515.length co33)) (fun _ hk => hk.2) (.slice Ao36 t518.length co36)) (fun _ h_ => h_.1))) hb); have n3_ := Aside0.mk (Kd.R_below (by (with_reducible repeat (first | apply Kd.R_alloc | apply Kd.R_drewN | apply Kd.R_drew)); exact (Kd.R_mono (Kd.R_far (p := ⟨gb522, 1, none⟩) (Kd.R_far (p := ⟨gb522, 0, none⟩) (Kd.R_types HO517.out BK522.out (by decide)) (fun _ hk => hk.2) (.slice Ao33 t515.length co33)) (fun _ hk => hk.2) (.slice Ao36 t518.length co36)) (fun _ h_ => h_.1))) hb); have n4_ := Aside0.mk (Kd.R_below (by (with_reducible repeat (first | apply Kd.R_alloc | apply Kd.R_drewN | apply Kd.R_drew)); exact (Kd.R_mono (Kd.R_far (p := ⟨gb522, 1, none⟩) (Kd.R_far (p := ⟨gb522, 0, none⟩) (Kd.R_types HO520.out BK522.out (by decide)) (fun _ hk => hk.2) (.slice Ao33 t515.length co33)) (fun _ hk => hk.2) (.slice Ao36 t518.length co36)) (fun _ h_ => h_.1))) hb); have n5_ := Aside0.mk (blk_below (g := gb514) (o := .cells #[.slice Ao28 t507.length co28, .slice Ao30 t510.length co30] 53 (0, 0)) (by (with_reducible repeat (first | refine blk_drewN ?_ _ | refine blk_drew ?_ | refine blk_alloc ?_ _)); refine blk_far ?_ NB514_522.out _; (with_reducible repeat (first | refine blk_drewN ?_ _ | refine blk_drew ?_ | refine blk_alloc ?_ _)); refine blk_far ?_ NB514_522.out _; (with_reducible repeat (first | refine blk_drewN ?_ _ | refine blk_drew ?_ | refine blk_alloc ?_ _)); exact BK514.out) hb); have n6_ := Aside0.mk (blk_below (g := gb522) (o := .cells #[.slice Ao33 t515.length co33, .slice Ao36 t518.length co36] 53 (0, 0)) (by (with_reducible repeat (first | refine blk_drewN ?_ _ | refine blk_drew ?_ | refine blk_alloc ?_ _)); refine blk_put (cs := #[.slice Ao33 t515.length co33, .slice none 0 0]) ?_ 1 _ rfl; (with_reducible repeat (first | refine blk_drewN ?_ _ | refine blk_drew ?_ | refine blk_alloc ?_ _)); refine blk_put (cs := #[.slice none 0 0, .slice none 0 0]) ?_ 0 _ rfl; (with_reducible repeat (first | refine blk_drewN ?_ _ | refine blk_drew ?_ | refine blk_alloc ?_ _)); exact BK522.out) hb); have n7_ := Aside0.mk (below_step (by repeat (first | (with_reducible first | exact HB.out | apply below_alloc | apply pw_below_drewN | apply below_drew1 | refine below_set ?_ GE514.out | refine below_set ?_ GE522.out) | exact HB.out)) hb); clear HO_8; clear HO509; clear HO512; clear HO517; clear HO520; clear BK514; clear BK522; clear HB; have HO_8 := n0_; have HO509 := n1_; have HO512 := n2_; have HO517 := n3_; have HO520 := n4_; have BK514 := n5_; have BK522 := n6_; have HB := n7_; clear n0_ n1_ n2_ n3_ n4_ n5_ n6_ n7_; (try clear hb); (try clear hb2); (try clear hk); (try clear hi); have hcz45_0 : w44.cell? ⟨gb522, 0, none⟩ = some (.slice Ao33 t515.length co33) := (blk_cell BK522.out 0).trans rfl; have hcz45_1 : w44.cell? ⟨gb522, 1, none⟩ = some (.slice Ao36 t518.length co36) := (blk_cell BK522.out 1).trans rfl; have hfz45_0 := blk_frozen BK522.out 0; have hfz45_1 := blk_frozen BK522.out 1) | (go_at_call 50; (with_reducible refine (tensor_Right.calls kj6 _ _ t515 _ _ t518 t526 _ ?side1 ?side2 ?side3 ?side4 A41.out).mono ?_); (case side1 => repeat (first | exact (Kd.R_reads' HO517.out).2.2 | (with_reducible refine Kd.C_alloc ?_ _) | (with_reducible refine Kd.C_drewN ?_ _) | (with_reducible refine Kd.C_drew ?_))); (case side2 => exact (Kd.R_reads' HO517.out).2.1); (case side3 => repeat (first | exact (Kd.R_reads' HO520.out).2.2 | (with_reducible refine Kd.C_alloc ?_ _) | (with_reducible refine Kd.C_drewN ?_ _) | (with_reducible refine Kd.C_drew ?_))); (case side4 => exact (Kd.R_reads' HO520.out).2.1); rintro e w46 ⟨rfl, hb⟩; have n0_ := Aside0.mk (Kd.R_below (by (with_reducible repeat (first | apply Kd.R_alloc | apply Kd.R_drewN | apply Kd.R_drew)); exact HO_8.out) hb); have n1_ := Aside0.mk (Kd.R_below (by (with_reducible repeat (first | apply Kd.R_alloc | apply Kd.R_drewN | apply Kd.R_drew)); exact HO509.out) hb); have n2_ := Aside0.mk (Kd.R_below (by (with_reducible repeat (first | apply Kd.R_alloc | apply Kd.R_drewN | apply Kd.R_drew)); exact HO512.out) hb); have n3_ := Aside0.mk (Kd.R_below (by (with_reducible repeat (first | apply Kd.R_alloc | apply Kd.R_drewN | apply Kd.R_drew)); exact HO517.out) hb); have n4_ := Aside0.mk (Kd.R_below (by (with_reducible repeat (first | apply Kd.R_alloc | apply Kd.R_drewN | apply Kd.R_drew)); exact HO520.out) hb); have n5_ := Aside0.mk (blk_below (g := gb514) (o := .cells #[.slice Ao28 t507.length co28, .slice Ao30 t510.length co30] 53 (0, 0)) (by (with_reducible repeat (first | refine blk_drewN ?_ _ | refine blk_drew ?_ | refine blk_alloc ?_ _)); exact BK514.out) hb); have n6_ := Aside0.mk (blk_below (g := gb522) (o := .cells #[.slice Ao33 t515.length co33, .slice Ao36 t518.length co36] 53 (0, 0)) (by (with_reducible repeat (first | refine blk_drewN ?_ _ | refine blk_drew ?_ | refine blk_alloc ?_ _)); exact BK522.out) hb); have n7_ := Aside0.mk (below_step (by repeat (first | (with_reducible first | exact HB.out | apply below_alloc | apply pw_below_drewN | apply below_drew1 | refine below_set ?_ GE514.out | refine below_set ?_ GE522.out) | exact HB.out)) hb); clear HO_8; clear HO509; clear HO512; clear HO517; clear HO520; clear BK514; clear BK522; clear HB; have HO_8 := n0_; have HO509 := n1_; have HO512 := n2_; have HO517 := n3_; have HO520 := n4_; have BK514 := n5_; have BK522 := n6_; have HB := n7_; clear n0_ n1_ n2_ n3_ n4_ n5_ n6_ n7_; (try clear hb); (try clear hb2); (try clear hk); (try clear hi)))
                    go_meet
                    case rel => exact ⟨_, (!t526), (by first | rfl | (simp; done) | (simp [*]; done)), H', ⟨by have := HJ6.out; first | omega | exact Nat.le_refl _⟩, ⟨by (with_reducible repeat (first | apply Kd.R_alloc | apply Kd.R_drewN | apply Kd.R_drew)); exact Kd.R_mono HO_8.out (fun _ hk => ⟨hk.1.2, hk.2⟩)⟩, ⟨by (with_reducible repeat (first | apply Kd.R_alloc | apply Kd.R_drewN | apply Kd.R_drew)); exact Kd.R_mono HO509.out (fun _ hk => ⟨hk.1.2, hk.2⟩)⟩, ⟨by (with_reducible repeat (first | apply Kd.R_alloc | apply Kd.R_drewN | apply Kd.R_drew)); exact Kd.R_mono HO512.out (fun _ hk => hk.2)⟩, ⟨by (with_reducible repeat (first | apply Kd.R_alloc | apply Kd.R_drewN | apply Kd.R_drew)); exact Kd.R_mono HO517.out (fun _ hk => ⟨hk.1.2, hk.2⟩)⟩, ⟨by (with_reducible repeat (first | apply Kd.R_alloc | apply Kd.R_drewN | apply Kd.R_drew)); exact Kd.R_mono HO520.out (fun _ hk => hk.2)⟩, ⟨by (with_reducible repeat (first | refine blk_drewN ?_ _ | refine blk_drew ?_ | refine blk_alloc ?_ _)); exact BK514.out⟩, ⟨by (with_reducible repeat (first | refine blk_drewN ?_ _ | refine blk_drew ?_ | refine blk_alloc ?_ _)); exact BK522.out⟩, ⟨by repeat (first | (with_reducible first | exact HB.out | apply below_alloc | apply pw_below_drewN | apply below_drew1 | refine below_set ?_ GE514.out | refine below_set ?_ GE522.out) | exact HB.out)⟩⟩
                  · replace c40 := Bool.eq_false_iff.mpr c40
                    subst c40
                    have H1 : (none) = some r := by rw [if_neg (show ¬ (false = true) by decide)] at H; exact H
                    clear H
                    have H := H1
                    clear H1
                    exact absurd H (by simp)
                · rw [if_neg c38] at H
                  exact absurd H (by simp)
              · rw [if_neg c37] at H
                exact absurd H (by simp)
            case rest =>
              clear HC24
              try clear c1
              try clear q1
              try clear c2
              try clear p2
              try clear c3
              try clear c4
              try clear c6
              try clear p6
              try clear c15
              try clear c16
              try clear c16b0
              try clear c16b1
              try clear c17
              try clear c17b0
              try clear c17b1
              try clear q18
              try clear c19
              try clear c19b0
              try clear c19b1
              try clear c19b2
              try clear c22
              try clear c23
              try clear c34
              try clear c37
              try clear c37b0
              try clear c37b1
              try clear c38
              try clear c38b0
              try clear c38b1
              try clear c40
              try clear c42
              try clear hcz29_0
              try clear hcz29_1
              try clear hcz35_0
              try clear hcz35_1
              try clear hcz43_0
              try clear hcz43_1
              try clear hcz45_0
              try clear hcz45_1
              try clear hfz29_0
              try clear hfz29_1
              try clear hfz35_0
              try clear hfz35_1
              try clear hfz43_0
              try clear hfz43_1
              try clear hfz45_0
              try clear hfz45_1
              try clear p2
              try clear p6
              try clear q1
              try clear q18
              obtain ⟨kq, x82_23, rfl, HA, HJ23, HO_8, HO_515000, HO_515001, HO_523000, HO_523001, BK514, BK522, HB⟩ := hcut
              cases kq with
              | zero => exact absurd HA.out (by simp [parquetrylaw2_TensorMade.j1])
              | succ kj23 =>
                have H := HA.out
                clear HA
                simp only [parquetrylaw2_TensorMade.j1] at H
                by_cases c47 : x82_23 = true
                · subst c47
                  have H1 : (none) = some r := by rw [if_pos rfl] at H; exact H
                  clear H
                  have H := H1
                  clear H1
                  exact absurd H (by simp)
                · replace c47 := Bool.eq_false_iff.mpr c47
                  subst c47
                  have H1 : (parquetrylaw2_TensorMade.l0 kj23 a1 x8_6 (Int.tmod (wrap64 ((Int.tmod a2 (x8_6.length : Int)) + (x8_6.length : Int))) (x8_6.length : Int)) (t510.length : Int) 0 t507 t510 t515 t518) = some r := by rw [if_neg (show ¬ (false = true) by decide)] at H; exact H
                  clear H
                  have H := H1
                  clear H1
                  have H' := Aside0.mk H
                  clear H
                  have hnb48 := NB514_522.out
                  have hnc48 := NB522_514.out
                  have hcz49_0 : wc.cell? ⟨gb514, 0, none⟩ = some (.slice Ao28 t507.length co28) := (blk_cell BK514.out 0).trans rfl
                  have hcz49_1 : wc.cell? ⟨gb514, 1, none⟩ = some (.slice Ao30 t510.length co30) := (blk_cell BK514.out 1).trans rfl
                  have hfz49_0 := blk_frozen BK514.out 0
                  have hfz49_1 := blk_frozen BK514.out 1
                  go_wp2
                  go_loopg [86] kj23 (fun kq v86 w' => ∃ (x86_3 : Int), v86 = .int .i64 x86_3 ∧ Aside0 (parquetrylaw2_TensorMade.l0 kq a1 x8_6 (Int.tmod (wrap64 ((Int.tmod a2 (x8_6.length : Int)) + (x8_6.length : Int))) (x8_6.length : Int)) (t510.length : Int) x86_3 t507 t510 t515 t518 = some r) ∧ Aside0 (kq ≤ kj23) ∧ Aside0 (Kd.R (Kd.int .i64) 3 w' w.heap.size (fun k_ => some k_ ≠ ((.slice Ao28 t507.length co28) : Value).ownBlock ∧ some k_ ≠ ((.slice Ao33 t515.length co33) : Value).ownBlock) (.slice Ao25 x8_6.length co25) x8_6) ∧ Aside0 (Kd.R (Kd.int .i64) 3 w' w.heap.size (fun k_ => some k_ ≠ ((.slice Ao25 x8_6.length co25) : Value).ownBlock ∧ some k_ ≠ ((.slice Ao33 t515.length co33) : Value).ownBlock) (.slice Ao28 t507.length co28) t507) ∧ Aside0 (Kd.R (Kd.int .i64) 2 w' w.heap.size (fun k_ => some k_ ≠ ((.slice Ao36 t518.length co36) : Value).ownBlock) (.slice Ao30 t510.length co30) t510) ∧ Aside0 (Kd.R (Kd.int .i64) 3 w' w.heap.size (fun k_ => some k_ ≠ ((.slice Ao25 x8_6.length co25) : Value).ownBlock ∧ some k_ ≠ ((.slice Ao28 t507.length co28) : Value).ownBlock) (.slice Ao33 t515.length co33) t515) ∧ Aside0 (Kd.R (Kd.int .i64) 2 w' w.heap.size (fun k_ => some k_ ≠ ((.slice Ao30 t510.length co30) : Value).ownBlock) (.slice Ao36 t518.length co36) t518) ∧ Aside0 (w'.heap[gb514]? = some (.cells #[(.slice Ao28 t507.length co28), (.slice Ao30 t510.length co30)] 53 (0, 0))) ∧ Aside0 (w'.heap[gb522]? = some (.cells #[(.slice Ao33 t515.length co33), (.slice Ao36 t518.length co36)] 53 (0, 0))) ∧ Aside0 (Below w.heap.size w w'))
                  case atStart => exact ⟨(0), (by first | rfl | (simp; done) | (simp [*]; done)), H', ⟨Nat.le_refl _⟩, ⟨by (with_reducible repeat (first | apply Kd.R_alloc | apply Kd.R_drewN | apply Kd.R_drew)); exact HO_8.out⟩, ⟨by (with_reducible repeat (first | apply Kd.R_alloc | apply Kd.R_drewN | apply Kd.R_drew)); exact HO_515000.out⟩, ⟨by (with_reducible repeat (first | apply Kd.R_alloc | apply Kd.R_drewN | apply Kd.R_drew)); exact HO_515001.out⟩, ⟨by (with_reducible repeat (first | apply Kd.R_alloc | apply Kd.R_drewN | apply Kd.R_drew)); exact HO_523000.out⟩, ⟨by (with_reducible repeat (first | apply Kd.R_alloc | apply Kd.R_drewN | apply Kd.R_drew)); exact HO_523001.out⟩, ⟨by (with_reducible repeat (first | refine blk_drewN ?_ _ | refine blk_drew ?_ | refine blk_alloc ?_ _)); exact BK514.out⟩, ⟨by (with_reducible repeat (first | refine blk_drewN ?_ _ | refine blk_drew ?_ | refine blk_alloc ?_ _)); exact BK522.out⟩, ⟨by repeat (first | (with_reducible first | exact HB.out | apply below_alloc | apply pw_below_drewN | apply below_drew1 | refine below_set ?_ GE514.out | refine below_set ?_ GE522.out) | exact HB.out)⟩⟩
                  case round =>
                    clear H'
                    try clear c1
                    try clear q1
                    try clear c2
                    try clear p2
                    try clear c3
                    try clear c4
                    try clear c6
                    try clear p6
                    try clear c15
                    try clear c16
                    try clear c16b0
                    try clear c16b1
                    try clear c17
                    try clear c17b0
                    try clear c17b1
                    try clear q18
                    try clear c19
                    try clear c19b0
                    try clear c19b1
                    try clear c19b2
                    try clear c22
                    try clear c23
                    try clear c34
                    try clear c37
                    try clear c37b0
                    try clear c37b1
                    try clear c38
                    try clear c38b0
                    try clear c38b1
                    try clear c40
                    try clear c42
                    try clear c47
                    try clear c48
                    try clear c49
                    try clear hcz29_0
                    try clear hcz29_1
                    try clear hcz35_0
                    try clear hcz35_1
                    try clear hcz43_0
                    try clear hcz43_1
                    try clear hcz45_0
                    try clear hcz45_1
                    try clear hcz49_0
                    try clear hcz49_1
                    try clear hfz29_0
                    try clear hfz29_1
                    try clear hfz35_0
                    try clear hfz35_1
                    try clear hfz43_0
                    try clear hfz43_1
                    try clear hfz45_0
                    try clear hfz45_1
                    try clear hfz49_0
                    try clear hfz49_1
                    try clear p2
                    try clear p6
                    try clear q1
                    try clear q18
                    obtain ⟨x86_3, rfl, HA, HK3, HO_8, HO_515000, HO_515001, HO_523000, HO_523001, BK514, BK522, HB⟩ := hrel
                    cases gk with
                    | zero => exact absurd HA.out (by simp [parquetrylaw2_TensorMade.l0])
                    | succ k3 =>
                      have H := HA.out
                      clear HA
                      simp only [parquetrylaw2_TensorMade.l0] at H
                      by_cases c50 : x86_3 < (t510.length : Int)
                      · rw [if_pos c50] at H
                        have c50b0 : decide (x86_3 < (t510.length : Int)) = true := decide_eq_true c50
                        clear c50
                        replace H := Option.bind_eq_some_iff.mp H
                        obtain ⟨t529, A510, H⟩ := H
                        replace H : ((tensor_Get.f k3 t515 t518 t529).bind fun bt532 => (if 0 ≤ x86_3 then (if x86_3 < (t510.length : Int) then (if (rd t510 x86_3) = a1 then (if bt532.2 = true then (if 0 ≤ (Int.tmod (wrap64 ((Int.tmod a2 (x8_6.length : Int)) + (x8_6.length : Int))) (x8_6.length : Int)) then (if (Int.tmod (wrap64 ((Int.tmod a2 (x8_6.length : Int)) + (x8_6.length : Int))) (x8_6.length : Int)) < (t529.length : Int) then (if bt532.1 = (rd t529 (Int.tmod (wrap64 ((Int.tmod a2 (x8_6.length : Int)) + (x8_6.length : Int))) (x8_6.length : Int))) then (parquetrylaw2_TensorMade.l0 k3 a1 x8_6 (Int.tmod (wrap64 ((Int.tmod a2 (x8_6.length : Int)) + (x8_6.length : Int))) (x8_6.length : Int)) (t510.length : Int) (wrap64 (x86_3 + 1)) t507 t510 t515 t518) else (none)) else (none)) else (none)) else (none)) else (none)) else (none)) else (none))) = some r := H
                        have A51 := Aside0.mk A510
                        clear A510
                        replace H := Option.bind_eq_some_iff.mp H
                        obtain ⟨⟨t532, t533⟩, A520, H⟩ := H
                        replace H : (if 0 ≤ x86_3 then (if x86_3 < (t510.length : Int) then (if (rd t510 x86_3) = a1 then (if t533 = true then (if 0 ≤ (Int.tmod (wrap64 ((Int.tmod a2 (x8_6.length : Int)) + (x8_6.length : Int))) (x8_6.length : Int)) then (if (Int.tmod (wrap64 ((Int.tmod a2 (x8_6.length : Int)) + (x8_6.length : Int))) (x8_6.length : Int)) < (t529.length : Int) then (if t532 = (rd t529 (Int.tmod (wrap64 ((Int.tmod a2 (x8_6.length : Int)) + (x8_6.length : Int))) (x8_6.length : Int))) then (parquetrylaw2_TensorMade.l0 k3 a1 x8_6 (Int.tmod (wrap64 ((Int.tmod a2 (x8_6.length : Int)) + (x8_6.length : Int))) (x8_6.length : Int)) (t510.length : Int) (wrap64 (x86_3 + 1)) t507 t510 t515 t518) else (none)) else (none)) else (none)) else (none)) else (none)) else (none)) else (none)) = some r := H
                        have A52 := Aside0.mk A520
                        clear A520
                        by_cases c53 : 0 ≤ x86_3
                        · rw [if_pos c53] at H
                          have c53b0 : decide (0 ≤ x86_3) = true := decide_eq_true c53
                          clear c53
                          by_cases c54 : x86_3 < (t510.length : Int)
                          · rw [if_pos c54] at H
                            have c54b0 : decide (x86_3 < (t510.length : Int)) = true := decide_eq_true c54
                            clear c54
                            by_cases c55 : (rd t510 x86_3) = a1
                            · rw [if_pos c55] at H
                              have c55b0 : ((rd t510 x86_3) == a1) = true := beq_iff_eq.mpr c55
                              have c55b1 : ((rd t510 x86_3) != a1) = false := bne_eq_false_iff_eq.mpr c55
                              clear c55
                              by_cases c56 : t533 = true
                              · subst c56
                                have H1 : (if 0 ≤ (Int.tmod (wrap64 ((Int.tmod a2 (x8_6.length : Int)) + (x8_6.length : Int))) (x8_6.length : Int)) then (if (Int.tmod (wrap64 ((Int.tmod a2 (x8_6.length : Int)) + (x8_6.length : Int))) (x8_6.length : Int)) < (t529.length : Int) then (if t532 = (rd t529 (Int.tmod (wrap64 ((Int.tmod a2 (x8_6.length : Int)) + (x8_6.length : Int))) (x8_6.length : Int))) then (parquetrylaw2_TensorMade.l0 k3 a1 x8_6 (Int.tmod (wrap64 ((Int.tmod a2 (x8_6.length : Int)) + (x8_6.length : Int))) (x8_6.length : Int)) (t510.length : Int) (wrap64 (x86_3 + 1)) t507 t510 t515 t518) else (none)) else (none)) else (none)) = some r := by rw [if_pos rfl] at H; exact H
                                clear H
                                have H := H1
                                clear H1
                                by_cases c57 : 0 ≤ (Int.tmod (wrap64 ((Int.tmod a2 (x8_6.length : Int)) + (x8_6.length : Int))) (x8_6.length : Int))
                                · rw [if_pos c57] at H
                                  have c57b0 : decide (0 ≤ (Int.tmod (wrap64 ((Int.tmod a2 (x8_6.length : Int)) + (x8_6.length : Int))) (x8_6.length : Int))) = true := decide_eq_true c57
                                  clear c57
                                  by_cases c58 : (Int.tmod (wrap64 ((Int.tmod a2 (x8_6.length : Int)) + (x8_6.length : Int))) (x8_6.length : Int)) < (t529.length : Int)
                                  · rw [if_pos c58] at H
                                    have c58b0 : decide ((Int.tmod (wrap64 ((Int.tmod a2 (x8_6.length : Int)) + (x8_6.length : Int))) (x8_6.length : Int)) < (t529.length : Int)) = true := decide_eq_true c58
                                    clear c58
                                    by_cases c59 : t532 = (rd t529 (Int.tmod (wrap64 ((Int.tmod a2 (x8_6.length : Int)) + (x8_6.length : Int))) (x8_6.length : Int)))
                                    · rw [if_pos c59] at H
                                      have c59b0 : (t532 == (rd t529 (Int.tmod (wrap64 ((Int.tmod a2 (x8_6.length : Int)) + (x8_6.length : Int))) (x8_6.length : Int)))) = true := beq_iff_eq.mpr c59
                                      have c59b1 : (t532 != (rd t529 (Int.tmod (wrap64 ((Int.tmod a2 (x8_6.length : Int)) + (x8_6.length : Int))) (x8_6.length : Int)))) = false := bne_eq_false_iff_eq.mpr c59
                                      clear c59
                                      have H' := Aside0.mk H
                                      clear H
                                      go_wp2_with (first | ((with_reducible refine gate_callee (f := 20) rfl ?_); refine goesL_ (some 91) rfl rfl Try.func20 (by kernel_rfl) rfl #[.slice Ao25 x8_6.length co25, .int .i64 x86_3] rfl (by (try simp only [List.map_toArray, List.map_cons, List.map_nil]); first | done | rfl | (simp only [List.length_drop, List.length_take]; rfl)) ?_; (with_reducible refine (parquetryref1_Place.calls k3 _ _ x8_6 x86_3 t529 _ ?side1 ?side2 A51.out).mono ?_); (case side1 => repeat (first | exact (Kd.R_reads' HO_8.out).2.2 | (with_reducible refine Kd.C_alloc ?_ _) | (with_reducible refine Kd.C_drewN ?_ _) | (with_reducible refine Kd.C_drew ?_))); (case side2 => exact (Kd.R_reads' HO_8.out).2.1); rintro e w60 ⟨v530, rfl, ho0, hb⟩; refine ⟨_, rfl, ?_⟩; have n0_ := Aside0.mk (Kd.R_elder' (by (with_reducible repeat (first | apply Kd.R_alloc | apply Kd.R_drewN | apply Kd.R_drew)); exact HO_8.out) (Kd.R_base ho0) hb); have n1_ := Aside0.mk (Kd.R_elder' (by (with_reducible repeat (first | apply Kd.R_alloc | apply Kd.R_drewN | apply Kd.R_drew)); exact HO_515000.out) (Kd.R_base ho0) hb); have n2_ := Aside0.mk (Kd.R_below (by (with_reducible repeat (first | apply Kd.R_alloc | apply Kd.R_drewN | apply Kd.R_drew)); exact HO_515001.out) hb); have n3_ := Aside0.mk (Kd.R_elder' (by (with_reducible repeat (first | apply Kd.R_alloc | apply Kd.R_drewN | apply Kd.R_drew)); exact HO_523000.out) (Kd.R_base ho0) hb); have n4_ := Aside0.mk (Kd.R_below (by (with_reducible repeat (first | apply Kd.R_alloc | apply Kd.R_drewN | apply Kd.R_drew)); exact HO_523001.out) hb); have n5_ := Aside0.mk (Kd.R_lower (Kd.R_new' (Kd.R_new' (Kd.R_new' ho0 (Kd.R_lt (by (with_reducible repeat (first | apply Kd.R_alloc | apply Kd.R_drewN | apply Kd.R_drew)); exact HO_8.out))) (Kd.R_lt (by (with_reducible repeat (first | apply Kd.R_alloc | apply Kd.R_drewN | apply Kd.R_drew)); exact HO_515000.out))) (Kd.R_lt (by (with_reducible repeat (first | apply Kd.R_alloc | apply Kd.R_drewN | apply Kd.R_drew)); exact HO_523000.out))) (below_size (by repeat (first | (with_reducible first | exact HB.out | apply below_alloc | apply pw_below_drewN | apply below_drew1 | refine below_set ?_ GE514.out | refine below_set ?_ GE522.out) | exact HB.out)))); have n6_ := Aside0.mk (blk_below (g := gb514) (o := .cells #[.slice Ao28 t507.length co28, .slice Ao30 t510.length co30] 53 (0, 0)) (by (with_reducible repeat (first | refine blk_drewN ?_ _ | refine blk_drew ?_ | refine blk_alloc ?_ _)); exact BK514.out) hb); have n7_ := Aside0.mk (blk_below (g := gb522) (o := .cells #[.slice Ao33 t515.length co33, .slice Ao36 t518.length co36] 53 (0, 0)) (by (with_reducible repeat (first | refine blk_drewN ?_ _ | refine blk_drew ?_ | refine blk_alloc ?_ _)); exact BK522.out) hb); have n8_ := Aside0.mk (below_step (by repeat (first | (with_reducible first | exact HB.out | apply below_alloc | apply pw_below_drewN | apply below_drew1 | refine below_set ?_ GE514.out | refine below_set ?_ GE522.out) | exact HB.out)) hb); clear HO_8; clear HO_515000; clear HO_515001; clear HO_523000; clear HO_523001; clear BK514; clear BK522; clear HB; have HO_8 := n0_; have HO_515000 := n1_; have HO_515001 := n2_; have HO_523000 := n3_; have HO_523001 := n4_; have HO531 := n5_; have BK514 := n6_; have BK522 := n7_; have HB := n8_; clear n0_ n1_ n2_ n3_ n4_ n5_ n6_ n7_ n8_; (try clear hb); (try clear hb2); (try clear hk); (try clear hi); (try clear ho0); have hnb61 := NB522_514.out; have hnc61 := NB514_522.out; have hcz62_0 : w60.cell? ⟨gb522, 0, none⟩ = some (.slice Ao33 t515.length co33) := (blk_cell BK522.out 0).trans rfl; have hcz62_1 : w60.cell? ⟨gb522, 1, none⟩ = some (.slice Ao36 t518.length co36) := (blk_cell BK522.out 1).trans rfl; have hfz62_0 := blk_frozen BK522.out 0; have hfz62_1 := blk_frozen BK522.out 1; obtain ⟨Ao63, co63, eo63⟩ := Kd.R_slice HO531.out; subst eo63) | ((with_reducible refine gate_callee (f := 41) rfl ?_); refine goesL_ (some 95) rfl rfl Try.func41 (by kernel_rfl) rfl #[.agg #[.slice Ao33 t515.length co33, .slice Ao36 t518.length co36], .slice Ao63 t529.length co63] rfl (by (try simp only [List.map_toArray, List.map_cons, List.map_nil]); first | done | rfl | (simp only [List.length_drop, List.length_take]; rfl)) ?_; (with_reducible refine (tensor_Get.calls k3 _ _ t515 _ _ t518 _ _ t529 t532 true _ ?side1 ?side2 ?side3 ?side4 ?side5 ?side6 A52.out).mono ?_); (case side1 => repeat (first | exact (Kd.R_reads' HO_523000.out).2.2 | (with_reducible refine Kd.C_alloc ?_ _) | (with_reducible refine Kd.C_drewN ?_ _) | (with_reducible refine Kd.C_drew ?_))); (case side2 => exact (Kd.R_reads' HO_523000.out).2.1); (case side3 => repeat (first | exact (Kd.R_reads' HO_523001.out).2.2 | (with_reducible refine Kd.C_alloc ?_ _) | (with_reducible refine Kd.C_drewN ?_ _) | (with_reducible refine Kd.C_drew ?_))); (case side4 => exact (Kd.R_reads' HO_523001.out).2.1); (case side5 => repeat (first | exact (Kd.R_reads' HO531.out).2.2 | (with_reducible refine Kd.C_alloc ?_ _) | (with_reducible refine Kd.C_drewN ?_ _) | (with_reducible refine Kd.C_drew ?_))); (case side6 => exact (Kd.R_reads' HO531.out).2.1); rintro e w64 ⟨rfl, hb⟩; refine ⟨_, rfl, ?_⟩; have n0_ := Aside0.mk (Kd.R_below (by (with_reducible repeat (first | apply Kd.R_alloc | apply Kd.R_drewN | apply Kd.R_drew)); exact HO_8.out) hb); have n1_ := Aside0.mk (Kd.R_below (by (with_reducible repeat (first | apply Kd.R_alloc | apply Kd.R_drewN | apply Kd.R_drew)); exact HO_515000.out) hb); have n2_ := Aside0.mk (Kd.R_below (by (with_reducible repeat (first | apply Kd.R_alloc | apply Kd.R_drewN | apply Kd.R_drew)); exact HO_515001.out) hb); have n3_ := Aside0.mk (Kd.R_below (by (with_reducible repeat (first | apply Kd.R_alloc | apply Kd.R_drewN | apply Kd.R_drew)); exact HO_523000.out) hb); have n4_ := Aside0.mk (Kd.R_below (by (with_reducible repeat (first | apply Kd.R_alloc | apply Kd.R_drewN | apply Kd.R_drew)); exact HO_523001.out) hb); have n5_ := Aside0.mk (Kd.R_below (by (with_reducible repeat (first | apply Kd.R_alloc | apply Kd.R_drewN | apply Kd.R_drew)); exact HO531.out) hb); have n6_ := Aside0.mk (blk_below (g := gb514) (o := .cells #[.slice Ao28 t507.length co28, .slice Ao30 t510.length co30] 53 (0, 0)) (by (with_reducible repeat (first | refine blk_drewN ?_ _ | refine blk_drew ?_ | refine blk_alloc ?_ _)); exact BK514.out) hb); have n7_ := Aside0.mk (blk_below (g := gb522) (o := .cells #[.slice Ao33 t515.length co33, .slice Ao36 t518.length co36] 53 (0, 0)) (by (with_reducible repeat (first | refine blk_drewN ?_ _ | refine blk_drew ?_ | refine blk_alloc ?_ _)); exact BK522.out) hb); have n8_ := Aside0.mk (below_step (by repeat (first | (with_reducible first | exact HB.out | apply below_alloc | apply pw_below_drewN | apply below_drew1 | refine below_set ?_ GE514.out | refine below_set ?_ GE522.out) | exact HB.out)) hb); clear HO_8; clear HO_515000; clear HO_515001; clear HO_523000; clear HO_523001; clear HO531; clear BK514; clear BK522; clear HB; have HO_8 := n0_; have HO_515000 := n1_; have HO_515001 := n2_; have HO_523000 := n3_; have HO_523001 := n4_; have HO531 := n5_; have BK514 := n6_; have BK522 := n7_; have HB := n8_; clear n0_ n1_ n2_ n3_ n4_ n5_ n6_ n7_ n8_; (try clear hb); (try clear hb2); (try clear hk); (try clear hi); have hcz65_0 : w64.cell? ⟨gb514, 0, none⟩ = some (.slice Ao28 t507.length co28) := (blk_cell BK514.out 0).trans rfl; have hcz65_1 : w64.cell? ⟨gb514, 1, none⟩ = some (.slice Ao30 t510.length co30) := (blk_cell BK514.out 1).trans rfl; have hfz65_0 := blk_frozen BK514.out 0; have hfz65_1 := blk_frozen BK514.out 1; have p534 : 0 ≤ (x86_3 : Int) := of_decide_eq_true (by first | (with_reducible assumption) | assumption); have q534 : x86_3 < (t510.length : Int) := of_decide_eq_true (by first | (with_reducible assumption) | assumption); obtain ⟨ad534, e534, hx534_0⟩ := Kd.at_int (Kd.R_reads' HO_515001.out).2.2 x86_3 p534 q534; cases e534; replace p534 := eq_true p534; replace q534 := eq_true q534; have p535 : 0 ≤ ((Int.tmod (wrap64 ((Int.tmod a2 (x8_6.length : Int)) + (x8_6.length : Int))) (x8_6.length : Int)) : Int) := of_decide_eq_true (by first | (with_reducible assumption) | assumption); have q535 : (Int.tmod (wrap64 ((Int.tmod a2 (x8_6.length : Int)) + (x8_6.length : Int))) (x8_6.length : Int)) < (t529.length : Int) := of_decide_eq_true (by first | (with_reducible assumption) | assumption); obtain ⟨ad535, e535, hx535_0⟩ := Kd.at_int (Kd.R_reads' HO531.out).2.2 (Int.tmod (wrap64 ((Int.tmod a2 (x8_6.length : Int)) + (x8_6.length : Int))) (x8_6.length : Int)) p535 q535; cases e535; replace p535 := eq_true p535; replace q535 := eq_true q535))
                                      go_roundg k3
                                      case measure => have := HJ6.out; have := HJ23.out; have := HK3.out; omega
                                      case rel => exact ⟨(wrap64 (x86_3 + 1)), (by first | rfl | (simp; done) | (simp [*]; done)), H', ⟨by have := HJ6.out; have := HJ23.out; have := HK3.out; omega⟩, ⟨by (with_reducible repeat (first | apply Kd.R_alloc | apply Kd.R_drewN | apply Kd.R_drew)); exact Kd.R_mono HO_8.out (fun _ hk => ⟨hk.1.1, hk.1.2⟩)⟩, ⟨by (with_reducible repeat (first | apply Kd.R_alloc | apply Kd.R_drewN | apply Kd.R_drew)); exact Kd.R_mono HO_515000.out (fun _ hk => ⟨hk.1.1, hk.1.2⟩)⟩, ⟨by (with_reducible repeat (first | apply Kd.R_alloc | apply Kd.R_drewN | apply Kd.R_drew)); exact HO_515001.out⟩, ⟨by (with_reducible repeat (first | apply Kd.R_alloc | apply Kd.R_drewN | apply Kd.R_drew)); exact Kd.R_mono HO_523000.out (fun _ hk => ⟨hk.1.1, hk.1.2⟩)⟩, ⟨by (with_reducible repeat (first | apply Kd.R_alloc | apply Kd.R_drewN | apply Kd.R_drew)); exact HO_523001.out⟩, ⟨by (with_reducible repeat (first | refine blk_drewN ?_ _ | refine blk_drew ?_ | refine blk_alloc ?_ _)); exact BK514.out⟩, ⟨by (with_reducible repeat (first | refine blk_drewN ?_ _ | refine blk_drew ?_ | refine blk_alloc ?_ _)); exact BK522.out⟩, ⟨by repeat (first | (with_reducible first | exact HB.out | apply below_alloc | apply pw_below_drewN | apply below_drew1 | refine below_set ?_ GE514.out | refine below_set ?_ GE522.out) | exact HB.out)⟩⟩
                                    · rw [if_neg c59] at H
                                      exact absurd H (by simp)
                                  · rw [if_neg c58] at H
                                    exact absurd H (by simp)
                                · rw [if_neg c57] at H
                                  exact absurd H (by simp)
                              · replace c56 := Bool.eq_false_iff.mpr c56
                                subst c56
                                have H1 : (none) = some r := by rw [if_neg (show ¬ (false = true) by decide)] at H; exact H
                                clear H
                                have H := H1
                                clear H1
                                exact absurd H (by simp)
                            · rw [if_neg c55] at H
                              exact absurd H (by simp)
                          · rw [if_neg c54] at H
                            exact absurd H (by simp)
                        · rw [if_neg c53] at H
                          exact absurd H (by simp)
                      · rw [if_neg c50] at H
                        have c50b0 : decide (x86_3 < (t510.length : Int)) = false := decide_eq_false c50
                        clear c50
                        replace H := Option.bind_eq_some_iff.mp H
                        obtain ⟨t527, A660, H⟩ := H
                        replace H : (if (t510.length : Int) = t527 then ((parquetrylaw2_known.f k3).bind fun t528 => (if t528 = true then (some true) else (none))) else (none)) = some r := H
                        have A66 := Aside0.mk A660
                        clear A660
                        by_cases c67 : (t510.length : Int) = t527
                        · rw [if_pos c67] at H
                          have c67b0 : ((t510.length : Int) == t527) = true := beq_iff_eq.mpr c67
                          have c67b1 : ((t510.length : Int) != t527) = false := bne_eq_false_iff_eq.mpr c67
                          clear c67
                          replace H := Option.bind_eq_some_iff.mp H
                          obtain ⟨t528, A680, H⟩ := H
                          replace H : (if t528 = true then (some true) else (none)) = some r := H
                          have A68 := Aside0.mk A680
                          clear A680
                          by_cases c69 : t528 = true
                          · subst c69
                            have H1 : (some true) = some r := by rw [if_pos rfl] at H; exact H
                            clear H
                            have H := H1
                            clear H1
                            obtain rfl := Option.some.inj H
                            try go_wp2
                            have n0_ := Aside0.mk (Kd.R_drew HO_8.out)
                            have n1_ := Aside0.mk (Kd.R_drew HO_515000.out)
                            have n2_ := Aside0.mk (Kd.R_drew HO_515001.out)
                            have n3_ := Aside0.mk (Kd.R_drew HO_523000.out)
                            have n4_ := Aside0.mk (Kd.R_drew HO_523001.out)
                            have n5_ := Aside0.mk (blk_drew BK514.out)
                            have n6_ := Aside0.mk (blk_drew BK522.out)
                            have n7_ := Aside0.mk (below_drew1 HB.out)
                            clear HO_8
                            clear HO_515000
                            clear HO_515001
                            clear HO_523000
                            clear HO_523001
                            clear BK514
                            clear BK522
                            clear HB
                            have HO_8 := n0_
                            have HO_515000 := n1_
                            have HO_515001 := n2_
                            have HO_523000 := n3_
                            have HO_523001 := n4_
                            have BK514 := n5_
                            have BK522 := n6_
                            have HB := n7_
                            clear n0_ n1_ n2_ n3_ n4_ n5_ n6_ n7_
                            refine start_ (n := 10) (S := fun w' => w'.cell? ⟨gb514, 0, none⟩ = some (.slice Ao28 t507.length co28) ∧ w'.cell? ⟨gb514, 1, none⟩ = some (.slice Ao30 t510.length co30)) (ds := []) #[false, false, false, false, false, false, false, false, false, false] (by kernel_rfl) rfl rfl ⟨(blk_cell BK514.out 0).trans rfl, (blk_cell BK514.out 1).trans rfl⟩ (fun hHeld => ?_); refine with_tabW parquetrylaw2_TensorMade.tab20 parquetrylaw2_TensorMade.bits20 (fun HT_ HW_ => ?_)
                            generalize wr.drew = w70 at HO_8 HO_515000 HO_515001 HO_523000 HO_523001 BK514 BK522 HB hHeld ⊢
                            refine pure_ (i := 0) (N := some 118) (v := ?_) (a' := ?_) #[true, false, false, false, false, false, false, false, false, false] rfl rfl (any_of HT_.out (by kernel_rfl)) (fun _ _ _ h => h) (Or.inl ⟨by rfl, ?_⟩) ?_ ?_
                            rotate_left
                            · intro w'
                              go_simp
                              with_reducible rfl
                            rotate_left
                            · simp only [Act.put, List.setIfInBounds_toArray, List.set_cons_zero, List.set_cons_succ, i64_w, i32_w]
                              rfl
                            refine pure_ (i := 3) (N := some 121) (v := ?_) (a' := ?_) #[true, false, false, true, false, false, false, false, false, false] rfl rfl (any_of HT_.out (by kernel_rfl)) (fun _ _ _ h => h) (Or.inl ⟨by rfl, ?_⟩) ?_ ?_
                            rotate_left
                            · intro w'
                              go_simp
                              with_reducible rfl
                            rotate_left
                            · simp only [Act.put, List.setIfInBounds_toArray, List.set_cons_zero, List.set_cons_succ, i64_w, i32_w]
                              rfl
                            refine take_ (i := 1) (N := some 119) (v := ?_) (a' := ?_) #[true, true, false, true, false, false, false, false, false, false] rfl rfl (take_ofW HT_.out HW_.out (by kernel_rfl)) (fun _ _ _ h => h) (Or.inl ⟨by rfl, ?_⟩) hHeld ?_ ?_
                            rotate_left
                            · rintro w' ⟨s0, s1⟩
                              go_simp
                              with_reducible rfl
                            rotate_left
                            · simp only [Act.put, List.setIfInBounds_toArray, List.set_cons_zero, List.set_cons_succ, i64_w, i32_w]
                              rfl
                            refine pure_ (i := 2) (N := some 120) (v := ?_) (a' := ?_) #[true, true, true, true, false, false, false, false, false, false] rfl rfl (any_of HT_.out (by kernel_rfl)) (fun _ _ _ h => h) (Or.inl ⟨by rfl, ?_⟩) ?_ ?_
                            rotate_left
                            · intro w'
                              go_simp
                              with_reducible rfl
                            rotate_left
                            · simp only [Act.put, List.setIfInBounds_toArray, List.set_cons_zero, List.set_cons_succ, i64_w, i32_w]
                              rfl
                            refine one_ (i := 4) (N := some 122) #[true, true, true, true, true, false, false, false, false, false] rfl rfl (one_of HT_.out (by kernel_rfl)) (by decide) (fun K hK => ?_)
                            refine goes_ Try.func51 (by kernel_rfl) rfl #[.slice Ao25 x8_6.length co25] (by rfl) rfl rfl (by (try simp only [List.map_toArray, List.map_cons, List.map_nil]); first | done | rfl | (simp only [List.length_drop, List.length_take]; rfl)) ?_
                            with_reducible refine (parquetryref1_Size.calls k3 _ _ x8_6 t527 _ ?side1 ?side2 A66.out).mono ?_
                            (case side1 => repeat (first | exact (Kd.R_reads' HO_8.out).2.2 | (with_reducible refine Kd.C_alloc ?_ _) | (with_reducible refine Kd.C_drewN ?_ _) | (with_reducible refine Kd.C_drew ?_)))
                            (case side2 => exact (Kd.R_reads' HO_8.out).2.1)
                            rintro e w' ⟨rfl, ⟨nd, rfl⟩⟩
                            refine ⟨_, rfl, ?_⟩
                            refine hK.out _ _ ⟨(blk_cell BK514.out 0).trans rfl, (blk_cell BK514.out 1).trans rfl⟩ (fun hHeld => ?_)
                            clear hK K
                            refine norm_ (a' := ?_) ?_ ?_
                            rotate_left
                            · show Act.put _ (some 122) _ = _
                              simp only [Act.put, List.setIfInBounds_toArray, List.set_cons_zero, List.set_cons_succ, i64_w, i32_w]
                              rfl
                            refine pure_ (i := 5) (N := some 123) (v := ?_) (a' := ?_) #[true, true, true, true, true, true, false, false, false, false] rfl rfl (any_of HT_.out (by kernel_rfl)) (fun _ _ _ h => h) (Or.inl ⟨by rfl, ?_⟩) ?_ ?_
                            rotate_left
                            · intro w'
                              go_simp
                              with_reducible rfl
                            rotate_left
                            · simp only [Act.put, List.setIfInBounds_toArray, List.set_cons_zero, List.set_cons_succ, i64_w, i32_w]
                              rfl
                            refine pure_ (i := 6) (N := some 124) (v := ?_) (a' := ?_) #[true, true, true, true, true, true, true, false, false, false] rfl rfl (any_of HT_.out (by kernel_rfl)) (fun _ _ _ h => h) (Or.inl ⟨by rfl, ?_⟩) ?_ ?_
                            rotate_left
                            · intro w'
                              go_simp
                              with_reducible rfl
                            rotate_left
                            · simp only [Act.put, List.setIfInBounds_toArray, List.set_cons_zero, List.set_cons_succ, i64_w, i32_w]
                              rfl
                            refine one_ (i := 7) (N := some 125) #[true, true, true, true, true, true, true, true, false, false] rfl rfl (one_of HT_.out (by kernel_rfl)) (by decide) (fun K hK => ?_)
                            refine goes_ Try.func39 (by kernel_rfl) rfl #[] (by rfl) rfl rfl (by (try simp only [List.map_toArray, List.map_cons, List.map_nil]); first | done | rfl | (simp only [List.length_drop, List.length_take]; rfl)) ?_
                            with_reducible refine (parquetrylaw2_known.calls k3  true _ A68.out).mono ?_
                            rintro e w71 ⟨rfl, hb⟩
                            refine ⟨_, rfl, ?_⟩
                            have n0_ := Aside0.mk (Kd.R_below (by (with_reducible repeat (first | apply Kd.R_alloc | apply Kd.R_drewN | apply Kd.R_drew)); exact HO_8.out) hb)
                            have n1_ := Aside0.mk (Kd.R_below (by (with_reducible repeat (first | apply Kd.R_alloc | apply Kd.R_drewN | apply Kd.R_drew)); exact HO_515000.out) hb)
                            have n2_ := Aside0.mk (Kd.R_below (by (with_reducible repeat (first | apply Kd.R_alloc | apply Kd.R_drewN | apply Kd.R_drew)); exact HO_515001.out) hb)
                            have n3_ := Aside0.mk (Kd.R_below (by (with_reducible repeat (first | apply Kd.R_alloc | apply Kd.R_drewN | apply Kd.R_drew)); exact HO_523000.out) hb)
                            have n4_ := Aside0.mk (Kd.R_below (by (with_reducible repeat (first | apply Kd.R_alloc | apply Kd.R_drewN | apply Kd.R_drew)); exact HO_523001.out) hb)
                            have n5_ := Aside0.mk (blk_below (g := gb514) (o := .cells #[.slice Ao28 t507.length co28, .slice Ao30 t510.length co30] 53 (0, 0)) (by (with_reducible repeat (first | refine blk_drewN ?_ _ | refine blk_drew ?_ | refine blk_alloc ?_ _)); exact BK514.out) hb)
                            have n6_ := Aside0.mk (blk_below (g := gb522) (o := .cells #[.slice Ao33 t515.length co33, .slice Ao36 t518.length co36] 53 (0, 0)) (by (with_reducible repeat (first | refine blk_drewN ?_ _ | refine blk_drew ?_ | refine blk_alloc ?_ _)); exact BK522.out) hb)
                            have n7_ := Aside0.mk (below_step (by repeat (first | (with_reducible first | exact HB.out | apply below_alloc | apply pw_below_drewN | apply below_drew1 | refine below_set ?_ GE514.out | refine below_set ?_ GE522.out) | exact HB.out)) hb)
                            clear HO_8
                            clear HO_515000
                            clear HO_515001
                            clear HO_523000
                            clear HO_523001
                            clear BK514
                            clear BK522
                            clear HB
                            have HO_8 := n0_
                            have HO_515000 := n1_
                            have HO_515001 := n2_
                            have HO_523000 := n3_
                            have HO_523001 := n4_
                            have BK514 := n5_
                            have BK522 := n6_
                            have HB := n7_
                            clear n0_ n1_ n2_ n3_ n4_ n5_ n6_ n7_
                            (try clear hb)
                            (try clear hb2)
                            (try clear hk)
                            (try clear hi)
                            refine hK.out _ _ ⟨(blk_cell BK514.out 0).trans rfl, (blk_cell BK514.out 1).trans rfl⟩ (fun hHeld => ?_)
                            clear hK K
                            refine norm_ (a' := ?_) ?_ ?_
                            rotate_left
                            · show Act.put _ (some 125) _ = _
                              simp only [Act.put, List.setIfInBounds_toArray, List.set_cons_zero, List.set_cons_succ, i64_w, i32_w]
                              rfl
                            refine pure_ (i := 8) (N := some 126) (v := ?_) (a' := ?_) #[true, true, true, true, true, true, true, true, true, false] rfl rfl (any_of HT_.out (by kernel_rfl)) (fun _ _ _ h => h) (Or.inl ⟨by rfl, ?_⟩) ?_ ?_
                            rotate_left
                            · intro w'
                              go_simp
                              with_reducible rfl
                            rotate_left
                            · simp only [Act.put, List.setIfInBounds_toArray, List.set_cons_zero, List.set_cons_succ, i64_w, i32_w]
                              rfl
                            refine pure_ (i := 9) (N := some 6) (v := ?_) (a' := ?_) #[true, true, true, true, true, true, true, true, true, true] rfl rfl (any_of HT_.out (by kernel_rfl)) (fun _ _ _ h => h) (Or.inl ⟨by rfl, ?_⟩) ?_ ?_
                            rotate_left
                            · intro w'
                              go_simp
                              with_reducible rfl
                            rotate_left
                            · simp only [Act.put, List.setIfInBounds_toArray, List.set_cons_zero, List.set_cons_succ, i64_w, i32_w]
                              rfl
                            refine done_ (done_of HT_.out (by kernel_rfl)) ?_
                            try go_wp2
                            go_ret
                            exact ⟨by first | rfl | (simp [errW_none, errW_some] <;> rfl) | (simp [*, errW_none, errW_some] <;> rfl), by repeat (first | (with_reducible first | exact HB.out | apply below_alloc | apply pw_below_drewN | apply below_drew1 | refine below_set ?_ GE514.out | refine below_set ?_ GE522.out) | exact HB.out)⟩
                          · replace c69 := Bool.eq_false_iff.mpr c69
                            subst c69
                            have H1 : (none) = some r := by rw [if_neg (show ¬ (false = true) by decide)] at H; exact H
                            clear H
                            have H := H1
                            clear H1
                            exact absurd H (by simp)
                        · rw [if_neg c67] at H
                          have c67b0 : ((t510.length : Int) == t527) = false := beq_eq_false_iff_ne.mpr c67
                          have c67b1 : ((t510.length : Int) != t527) = true := bne_iff_ne.mpr c67
                          exact absurd H (by simp)
          · replace c23 := Bool.eq_false_iff.mpr c23
            subst c23
            have H1 : (if t513 = 13 then (if t521 = 13 then ((parquetrylaw2_known.f kj6).bind fun t524 => (if t524 = true then (some true) else (none))) else (none)) else (none)) = some r := by rw [if_neg (show ¬ (false = true) by decide)] at H; exact H
            clear H
            have H := H1
            clear H1
            by_cases c72 : t513 = 13
            · rw [if_pos c72] at H
              have c72b0 : (t513 == 13) = true := beq_iff_eq.mpr c72
              have c72b1 : (t513 != 13) = false := bne_eq_false_iff_eq.mpr c72
              clear c72
              by_cases c73 : t521 = 13
              · rw [if_pos c73] at H
                have c73b0 : (t521 == 13) = true := beq_iff_eq.mpr c73
                have c73b1 : (t521 != 13) = false := bne_eq_false_iff_eq.mpr c73
                clear c73
                replace H := Option.bind_eq_some_iff.mp H
                obtain ⟨t524, A740, H⟩ := H
                replace H : (if t524 = true then (some true) else (none)) = some r := H
                have A74 := Aside0.mk A740
                clear A740
                by_cases c75 : t524 = true
                · subst c75
                  have H1 : (some true) = some r := by rw [if_pos rfl] at H; exact H
                  clear H
                  have H := H1
                  clear H1
                  obtain rfl := Option.some.inj H
                  obtain ⟨Ao76, co76, eo76⟩ := Kd.R_slice HO_8.out
                  subst eo76
                  go_wp2_with (first | ((with_reducible refine gate_callee (f := 47) rfl ?_); refine goesL_ (some 46) rfl rfl Try.func47 (by kernel_rfl) rfl #[.slice Ao76 x8_6.length co76, .int .i64 a1] rfl (by (try simp only [List.map_toArray, List.map_cons, List.map_nil]); first | done | rfl | (simp only [List.length_drop, List.length_take]; rfl)) ?_; (with_reducible refine (tensor_Fill.calls kj6 _ _ x8_6 a1 t507 t510 t513 _ ?side1 ?side2 A20.out).mono ?_); (case side1 => repeat (first | exact (Kd.R_reads' HO_8.out).2.2 | (with_reducible refine Kd.C_alloc ?_ _) | (with_reducible refine Kd.C_drewN ?_ _) | (with_reducible refine Kd.C_drew ?_))); (case side2 => exact (Kd.R_reads' HO_8.out).2.1); rintro e w77 ⟨v508, v511, rfl, ho0, ho1, hb⟩; refine ⟨_, rfl, ?_⟩; have n0_ := Aside0.mk (Kd.R_elder' (by (with_reducible repeat (first | apply Kd.R_alloc | apply Kd.R_drewN | apply Kd.R_drew)); exact HO_8.out) (Kd.R_base ho0) hb); have n1_ := Aside0.mk (Kd.R_lower (Kd.R_new' ho0 (Kd.R_lt (by (with_reducible repeat (first | apply Kd.R_alloc | apply Kd.R_drewN | apply Kd.R_drew)); exact HO_8.out))) (below_size (by repeat (first | (with_reducible first | exact HB.out | apply below_alloc | apply pw_below_drewN | apply below_drew1) | exact HB.out)))); have n2_ := Aside0.mk (Kd.R_lower ho1 (below_size (by repeat (first | (with_reducible first | exact HB.out | apply below_alloc | apply pw_below_drewN | apply below_drew1) | exact HB.out)))); have n3_ := Aside0.mk (below_step (by repeat (first | (with_reducible first | exact HB.out | apply below_alloc | apply pw_below_drewN | apply below_drew1) | exact HB.out)) hb); clear HO_8; clear HB; have HO_8 := n0_; have HO509 := n1_; have HO512 := n2_; have HB := n3_; clear n0_ n1_ n2_ n3_; (try clear hb); (try clear hb2); (try clear hk); (try clear hi); (try clear ho0); (try clear ho1)) | ((with_reducible refine gate_dst (N := 10) rfl ?_); refine box_event ?hg (N := 10) ?hd (cs := #[.slice none 0 0, .slice none 0 0]) (t := 53) ?hr ?_; (case hd => rfl); (case hg => rfl); (case hr => first | (go_simp; done) | (go_simp; rfl)); intro gb514 hg w78 hbox hb; have n0_ := Aside0.mk (Kd.R_below (by (with_reducible repeat (first | apply Kd.R_alloc | apply Kd.R_drewN | apply Kd.R_drew)); exact HO_8.out) hb); have n1_ := Aside0.mk (Kd.R_below (by (with_reducible repeat (first | apply Kd.R_alloc | apply Kd.R_drewN | apply Kd.R_drew)); exact HO509.out) hb); have n2_ := Aside0.mk (Kd.R_below (by (with_reducible repeat (first | apply Kd.R_alloc | apply Kd.R_drewN | apply Kd.R_drew)); exact HO512.out) hb); have n3_ := Aside0.mk (below_step (by repeat (first | (with_reducible first | exact HB.out | apply below_alloc | apply pw_below_drewN | apply below_drew1) | exact HB.out)) hb); have n4_ := Aside0.mk (hbox); have n5_ := Aside0.mk ((by rw [hg]; exact (below_size (by repeat (first | (with_reducible first | exact HB.out | apply below_alloc | apply pw_below_drewN | apply below_drew1) | exact HB.out))) : w.heap.size ≤ gb514)); have n6_ := Aside0.mk ((by rw [hg]; exact (below_size (by repeat (first | (with_reducible first | exact HB.out | apply below_alloc | apply pw_below_drewN | apply below_drew1) | exact HB.out))) : w.heap.size ≤ gb514)); clear HO_8; clear HO509; clear HO512; clear HB; have HO_8 := n0_; have HO509 := n1_; have HO512 := n2_; have HB := n3_; have BK514 := n4_; have GW514 := n5_; have GE514 := n6_; clear n0_ n1_ n2_ n3_ n4_ n5_ n6_; clear hb hbox hg; obtain ⟨Ao79, co79, eo79⟩ := Kd.R_slice HO509.out; subst eo79; have hcz80_0 : w78.cell? ⟨gb514, 0, none⟩ = some (.slice none 0 0) := (blk_cell BK514.out 0).trans rfl; have hcz80_1 : w78.cell? ⟨gb514, 1, none⟩ = some (.slice none 0 0) := (blk_cell BK514.out 1).trans rfl; have hfz80_0 := blk_frozen BK514.out 0; have hfz80_1 := blk_frozen BK514.out 1; obtain ⟨Ao81, co81, eo81⟩ := Kd.R_slice HO512.out; subst eo81) | ((with_reducible refine gate_callee (f := 48) rfl ?_); refine goesL_ (some 52) rfl rfl Try.func48 (by kernel_rfl) rfl #[.slice Ao76 x8_6.length co76, .int .i64 (Int.tmod (wrap64 ((Int.tmod a2 (x8_6.length : Int)) + (x8_6.length : Int))) (x8_6.length : Int))] rfl (by (try simp only [List.map_toArray, List.map_cons, List.map_nil]); first | done | rfl | (simp only [List.length_drop, List.length_take]; rfl)) ?_; (with_reducible refine (tensor_Iota.calls kj6 _ _ x8_6 (Int.tmod (wrap64 ((Int.tmod a2 (x8_6.length : Int)) + (x8_6.length : Int))) (x8_6.length : Int)) t515 t518 t521 _ ?side1 ?side2 A21.out).mono ?_); (case side1 => refine (Kd.R_reads' (e := 3) (base := w.heap.size) (ok := fun k_ => (True ∧ some k_ ≠ (.slice Ao79 t507.length co79 : Value).ownBlock)) (n := x8_6.length) (c := co76) ?_).2.2; exact (by (with_reducible repeat (first | apply Kd.R_alloc | apply Kd.R_drewN | apply Kd.R_drew)); exact (Kd.R_mono (Kd.R_far (p := ⟨gb514, 1, none⟩) (Kd.R_far (p := ⟨gb514, 0, none⟩) (Kd.R_types HO_8.out BK514.out (by decide)) (fun _ hk => hk.2) (.slice Ao79 t507.length co79)) (fun _ hk => hk.2) (.slice Ao81 t510.length co81)) (fun _ h_ => h_.1)))); (case side2 => exact (Kd.R_reads' HO_8.out).2.1); rintro e w82 ⟨v516, v519, rfl, ho0, ho1, hb⟩; refine ⟨_, rfl, ?_⟩; have n0_ := Aside0.mk (Kd.R_elder' (by (with_reducible repeat (first | apply Kd.R_alloc | apply Kd.R_drewN | apply Kd.R_drew)); exact (Kd.R_mono (Kd.R_far (p := ⟨gb514, 1, none⟩) (Kd.R_far (p := ⟨gb514, 0, none⟩) (Kd.R_types HO_8.out BK514.out (by decide)) (fun _ hk => hk.2) (.slice Ao79 t507.length co79)) (fun _ hk => hk.2) (.slice Ao81 t510.length co81)) (fun _ h_ => h_.1))) (Kd.R_base ho0) hb); have n1_ := Aside0.mk (Kd.R_elder' (by (with_reducible repeat (first | apply Kd.R_alloc | apply Kd.R_drewN | apply Kd.R_drew)); exact (Kd.R_mono (Kd.R_far (p := ⟨gb514, 1, none⟩) (Kd.R_far (p := ⟨gb514, 0, none⟩) (Kd.R_types HO509.out BK514.out (by decide)) (fun _ hk => hk.2) (.slice Ao79 t507.length co79)) (fun _ hk => hk.2) (.slice Ao81 t510.length co81)) (fun _ h_ => h_.1))) (Kd.R_base ho0) hb); have n2_ := Aside0.mk (Kd.R_elder' (by (with_reducible repeat (first | apply Kd.R_alloc | apply Kd.R_drewN | apply Kd.R_drew)); exact (Kd.R_mono (Kd.R_far (p := ⟨gb514, 1, none⟩) (Kd.R_far (p := ⟨gb514, 0, none⟩) (Kd.R_types HO512.out BK514.out (by decide)) (fun _ hk => hk.2) (.slice Ao79 t507.length co79)) (fun _ hk => hk.2) (.slice Ao81 t510.length co81)) (fun _ h_ => h_.1))) (Kd.R_base ho1) hb); have n3_ := Aside0.mk (Kd.R_lower (Kd.R_new' (Kd.R_new' ho0 (Kd.R_lt (by (with_reducible repeat (first | apply Kd.R_alloc | apply Kd.R_drewN | apply Kd.R_drew)); exact (Kd.R_mono (Kd.R_far (p := ⟨gb514, 1, none⟩) (Kd.R_far (p := ⟨gb514, 0, none⟩) (Kd.R_types HO_8.out BK514.out (by decide)) (fun _ hk => hk.2) (.slice Ao79 t507.length co79)) (fun _ hk => hk.2) (.slice Ao81 t510.length co81)) (fun _ h_ => h_.1))))) (Kd.R_lt (by (with_reducible repeat (first | apply Kd.R_alloc | apply Kd.R_drewN | apply Kd.R_drew)); exact (Kd.R_mono (Kd.R_far (p := ⟨gb514, 1, none⟩) (Kd.R_far (p := ⟨gb514, 0, none⟩) (Kd.R_types HO509.out BK514.out (by decide)) (fun _ hk => hk.2) (.slice Ao79 t507.length co79)) (fun _ hk => hk.2) (.slice Ao81 t510.length co81)) (fun _ h_ => h_.1))))) (below_size (by repeat (first | (with_reducible first | exact HB.out | apply below_alloc | apply pw_below_drewN | apply below_drew1 | refine below_set ?_ GE514.out) | exact HB.out)))); have n4_ := Aside0.mk (Kd.R_lower (Kd.R_new' ho1 (Kd.R_lt (by (with_reducible repeat (first | apply Kd.R_alloc | apply Kd.R_drewN | apply Kd.R_drew)); exact (Kd.R_mono (Kd.R_far (p := ⟨gb514, 1, none⟩) (Kd.R_far (p := ⟨gb514, 0, none⟩) (Kd.R_types HO512.out BK514.out (by decide)) (fun _ hk => hk.2) (.slice Ao79 t507.length co79)) (fun _ hk => hk.2) (.slice Ao81 t510.length co81)) (fun _ h_ => h_.1))))) (below_size (by repeat (first | (with_reducible first | exact HB.out | apply below_alloc | apply pw_below_drewN | apply below_drew1 | refine below_set ?_ GE514.out) | exact HB.out)))); have n5_ := Aside0.mk (blk_below (g := gb514) (o := .cells #[.slice Ao79 t507.length co79, .slice Ao81 t510.length co81] 53 (0, 0)) (by (with_reducible repeat (first | refine blk_drewN ?_ _ | refine blk_drew ?_ | refine blk_alloc ?_ _)); refine blk_put (cs := #[.slice Ao79 t507.length co79, .slice none 0 0]) ?_ 1 _ rfl; (with_reducible repeat (first | refine blk_drewN ?_ _ | refine blk_drew ?_ | refine blk_alloc ?_ _)); refine blk_put (cs := #[.slice none 0 0, .slice none 0 0]) ?_ 0 _ rfl; (with_reducible repeat (first | refine blk_drewN ?_ _ | refine blk_drew ?_ | refine blk_alloc ?_ _)); exact BK514.out) hb); have n6_ := Aside0.mk (below_step (by repeat (first | (with_reducible first | exact HB.out | apply below_alloc | apply pw_below_drewN | apply below_drew1 | refine below_set ?_ GE514.out) | exact HB.out)) hb); clear HO_8; clear HO509; clear HO512; clear BK514; clear HB; have HO_8 := n0_; have HO509 := n1_; have HO512 := n2_; have HO517 := n3_; have HO520 := n4_; have BK514 := n5_; have HB := n6_; clear n0_ n1_ n2_ n3_ n4_ n5_ n6_; (try clear hb); (try clear hb2); (try clear hk); (try clear hi); (try clear ho0); (try clear ho1)) | ((with_reducible refine gate_dst (N := 12) rfl ?_); refine box_event ?hg (N := 12) ?hd (cs := #[.slice none 0 0, .slice none 0 0]) (t := 53) ?hr ?_; (case hd => rfl); (case hg => rfl); (case hr => first | (go_simp; done) | (go_simp; rfl)); intro gb522 hg w83 hbox hb; have n0_ := Aside0.mk (Kd.R_below (by (with_reducible repeat (first | apply Kd.R_alloc | apply Kd.R_drewN | apply Kd.R_drew)); exact HO_8.out) hb); have n1_ := Aside0.mk (Kd.R_below (by (with_reducible repeat (first | apply Kd.R_alloc | apply Kd.R_drewN | apply Kd.R_drew)); exact HO509.out) hb); have n2_ := Aside0.mk (Kd.R_below (by (with_reducible repeat (first | apply Kd.R_alloc | apply Kd.R_drewN | apply Kd.R_drew)); exact HO512.out) hb); have n3_ := Aside0.mk (Kd.R_below (by (with_reducible repeat (first | apply Kd.R_alloc | apply Kd.R_drewN | apply Kd.R_drew)); exact HO517.out) hb); have n4_ := Aside0.mk (Kd.R_below (by (with_reducible repeat (first | apply Kd.R_alloc | apply Kd.R_drewN | apply Kd.R_drew)); exact HO520.out) hb); have n5_ := Aside0.mk (blk_below (g := gb514) (o := .cells #[.slice Ao79 t507.length co79, .slice Ao81 t510.length co81] 53 (0, 0)) (by (with_reducible repeat (first | refine blk_drewN ?_ _ | refine blk_drew ?_ | refine blk_alloc ?_ _)); exact BK514.out) hb); have n6_ := Aside0.mk (below_step (by repeat (first | (with_reducible first | exact HB.out | apply below_alloc | apply pw_below_drewN | apply below_drew1 | refine below_set ?_ GE514.out) | exact HB.out)) hb); have n7_ := Aside0.mk (hbox); have n8_ := Aside0.mk ((by rw [hg]; exact (below_size (by repeat (first | (with_reducible first | exact HB.out | apply below_alloc | apply pw_below_drewN | apply below_drew1 | refine below_set ?_ GE514.out) | exact HB.out))) : w.heap.size ≤ gb522)); have n9_ := Aside0.mk ((by rw [hg]; exact (below_size (by repeat (first | (with_reducible first | exact HB.out | apply below_alloc | apply pw_below_drewN | apply below_drew1 | refine below_set ?_ GE514.out) | exact HB.out))) : w.heap.size ≤ gb522)); have n10_ := Aside0.mk ((by rw [hg]; exact Nat.ne_of_lt (blk_lt (g := gb514) (o := .cells #[.slice Ao79 t507.length co79, .slice Ao81 t510.length co81] 53 (0, 0)) (by (with_reducible repeat (first | refine blk_drewN ?_ _ | refine blk_drew ?_ | refine blk_alloc ?_ _)); exact BK514.out)) : gb514 ≠ gb522)); have n11_ := Aside0.mk ((by rw [hg]; exact Nat.ne_of_gt (blk_lt (g := gb514) (o := .cells #[.slice Ao79 t507.length co79, .slice Ao81 t510.length co81] 53 (0, 0)) (by (with_reducible repeat (first | refine blk_drewN ?_ _ | refine blk_drew ?_ | refine blk_alloc ?_ _)); exact BK514.out)) : gb522 ≠ gb514)); clear HO_8; clear HO509; clear HO512; clear HO517; clear HO520; clear BK514; clear HB; have HO_8 := n0_; have HO509 := n1_; have HO512 := n2_; have HO517 := n3_; have HO520 := n4_; have BK514 := n5_; have HB := n6_; have BK522 := n7_; have GW522 := n8_; have GE522 := n9_; have NB514_522 := n10_; have NB522_514 := n11_; clear n0_ n1_ n2_ n3_ n4_ n5_ n6_ n7_ n8_ n9_ n10_ n11_; clear hb hbox hg; obtain ⟨Ao84, co84, eo84⟩ := Kd.R_slice HO517.out; subst eo84; have hnb85 := NB522_514.out; have hnc85 := NB514_522.out; have hcz86_0 : w83.cell? ⟨gb522, 0, none⟩ = some (.slice none 0 0) := (blk_cell BK522.out 0).trans rfl; have hcz86_1 : w83.cell? ⟨gb522, 1, none⟩ = some (.slice none 0 0) := (blk_cell BK522.out 1).trans rfl; have hfz86_0 := blk_frozen BK522.out 0; have hfz86_1 := blk_frozen BK522.out 1; obtain ⟨Ao87, co87, eo87⟩ := Kd.R_slice HO520.out; subst eo87) | ((with_reducible refine gate_callee (f := 49) rfl ?_); refine goesL_ (some 56) rfl rfl Try.func49 (by kernel_rfl) rfl #[.slice Ao76 x8_6.length co76] rfl (by (try simp only [List.map_toArray, List.map_cons, List.map_nil]); first | done | rfl | (simp only [List.length_drop, List.length_take]; rfl)) ?_; (with_reducible refine (parquetryref1_Right.calls kj6 _ _ x8_6 false _ ?side1 ?side2 A22.out).mono ?_); (case side1 => refine (Kd.R_reads' (e := 3) (base := w.heap.size) (ok := fun k_ => ((True ∧ some k_ ≠ (.slice Ao79 t507.length co79 : Value).ownBlock) ∧ some k_ ≠ (.slice Ao84 t515.length co84 : Value).ownBlock)) (n := x8_6.length) (c := co76) ?_).2.2; exact (by (with_reducible repeat (first | apply Kd.R_alloc | apply Kd.R_drewN | apply Kd.R_drew)); exact (Kd.R_mono (Kd.R_far (p := ⟨gb522, 1, none⟩) (Kd.R_far (p := ⟨gb522, 0, none⟩) (Kd.R_types HO_8.out BK522.out (by decide)) (fun _ hk => hk.2) (.slice Ao84 t515.length co84)) (fun _ hk => hk.2) (.slice Ao87 t518.length co87)) (fun _ h_ => h_.1)))); (case side2 => exact (Kd.R_reads' HO_8.out).2.1); rintro e w' ⟨rfl, ⟨nd, rfl⟩⟩; refine ⟨_, rfl, ?_⟩) | (go_at_call 39; (with_reducible refine (parquetrylaw2_known.calls kj6  true _ A74.out).mono ?_); rintro e w88 ⟨rfl, hb⟩; have n0_ := Aside0.mk (Kd.R_below (by (with_reducible repeat (first | apply Kd.R_alloc | apply Kd.R_drewN | apply Kd.R_drew)); exact (Kd.R_mono (Kd.R_far (p := ⟨gb522, 1, none⟩) (Kd.R_far (p := ⟨gb522, 0, none⟩) (Kd.R_types HO_8.out BK522.out (by decide)) (fun _ hk => hk.2) (.slice Ao84 t515.length co84)) (fun _ hk => hk.2) (.slice Ao87 t518.length co87)) (fun _ h_ => h_.1))) hb); have n1_ := Aside0.mk (Kd.R_below (by (with_reducible repeat (first | apply Kd.R_alloc | apply Kd.R_drewN | apply Kd.R_drew)); exact (Kd.R_mono (Kd.R_far (p := ⟨gb522, 1, none⟩) (Kd.R_far (p := ⟨gb522, 0, none⟩) (Kd.R_types HO509.out BK522.out (by decide)) (fun _ hk => hk.2) (.slice Ao84 t515.length co84)) (fun _ hk => hk.2) (.slice Ao87 t518.length co87)) (fun _ h_ => h_.1))) hb); have n2_ := Aside0.mk (Kd.R_below (by (with_reducible repeat (first | apply Kd.R_alloc | apply Kd.R_drewN | apply Kd.R_drew)); exact (Kd.R_mono (Kd.R_far (p := ⟨gb522, 1, none⟩) (Kd.R_far (p := ⟨gb522, 0, none⟩) (Kd.R_types HO512.out BK522.out (by decide)) (fun _ hk => hk.2) (.slice Ao84 t515.length co84)) (fun _ hk => hk.2) (.slice Ao87 t518.length co87)) (fun _ h_ => h_.1))) hb); have n3_ := Aside0.mk (Kd.R_below (by (with_reducible repeat (first | apply Kd.R_alloc | apply Kd.R_drewN | apply Kd.R_drew)); exact (Kd.R_mono (Kd.R_far (p := ⟨gb522, 1, none⟩) (Kd.R_far (p := ⟨gb522, 0, none⟩) (Kd.R_types HO517.out BK522.out (by decide)) (fun _ hk => hk.2) (.slice Ao84 t515.length co84)) (fun _ hk => hk.2) (.slice Ao87 t518.length co87)) (fun _ h_ => h_.1))) hb); have n4_ := Aside0.mk (Kd.R_below (by (with_reducible repeat (first | apply Kd.R_alloc | apply Kd.R_drewN | apply Kd.R_drew)); exact (Kd.R_mono (Kd.R_far (p := ⟨gb522, 1, none⟩) (Kd.R_far (p := ⟨gb522, 0, none⟩) (Kd.R_types HO520.out BK522.out (by decide)) (fun _ hk => hk.2) (.slice Ao84 t515.length co84)) (fun _ hk => hk.2) (.slice Ao87 t518.length co87)) (fun _ h_ => h_.1))) hb); have n5_ := Aside0.mk (blk_below (g := gb514) (o := .cells #[.slice Ao79 t507.length co79, .slice Ao81 t510.length co81] 53 (0, 0)) (by (with_reducible repeat (first | refine blk_drewN ?_ _ | refine blk_drew ?_ | refine blk_alloc ?_ _)); refine blk_far ?_ NB514_522.out _; (with_reducible repeat (first | refine blk_drewN ?_ _ | refine blk_drew ?_ | refine blk_alloc ?_ _)); refine blk_far ?_ NB514_522.out _; (with_reducible repeat (first | refine blk_drewN ?_ _ | refine blk_drew ?_ | refine blk_alloc ?_ _)); exact BK514.out) hb); have n6_ := Aside0.mk (blk_below (g := gb522) (o := .cells #[.slice Ao84 t515.length co84, .slice Ao87 t518.length co87] 53 (0, 0)) (by (with_reducible repeat (first | refine blk_drewN ?_ _ | refine blk_drew ?_ | refine blk_alloc ?_ _)); refine blk_put (cs := #[.slice Ao84 t515.length co84, .slice none 0 0]) ?_ 1 _ rfl; (with_reducible repeat (first | refine blk_drewN ?_ _ | refine blk_drew ?_ | refine blk_alloc ?_ _)); refine blk_put (cs := #[.slice none 0 0, .slice none 0 0]) ?_ 0 _ rfl; (with_reducible repeat (first | refine blk_drewN ?_ _ | refine blk_drew ?_ | refine blk_alloc ?_ _)); exact BK522.out) hb); have n7_ := Aside0.mk (below_step (by repeat (first | (with_reducible first | exact HB.out | apply below_alloc | apply pw_below_drewN | apply below_drew1 | refine below_set ?_ GE514.out | refine below_set ?_ GE522.out) | exact HB.out)) hb); clear HO_8; clear HO509; clear HO512; clear HO517; clear HO520; clear BK514; clear BK522; clear HB; have HO_8 := n0_; have HO509 := n1_; have HO512 := n2_; have HO517 := n3_; have HO520 := n4_; have BK514 := n5_; have BK522 := n6_; have HB := n7_; clear n0_ n1_ n2_ n3_ n4_ n5_ n6_ n7_; (try clear hb); (try clear hb2); (try clear hk); (try clear hi)))
                  go_ret
                  exact ⟨by first | rfl | (simp [errW_none, errW_some] <;> rfl) | (simp [*, errW_none, errW_some] <;> rfl), by repeat (first | (with_reducible first | exact HB.out | apply below_alloc | apply pw_below_drewN | apply below_drew1 | refine below_set ?_ GE514.out | refine below_set ?_ GE522.out) | exact HB.out)⟩
                · replace c75 := Bool.eq_false_iff.mpr c75
                  subst c75
                  have H1 : (none) = some r := by rw [if_neg (show ¬ (false = true) by decide)] at H; exact H
                  clear H
                  have H := H1
                  clear H1
                  exact absurd H (by simp)
              · rw [if_neg c73] at H
                exact absurd H (by simp)
            · rw [if_neg c72] at H
              exact absurd H (by simp)
  · rw [if_neg c6] at H
    exact absurd H (by simp)

/-- THE ONE PURE STATEMENT of parquetrylaw2_TensorMade: yours. -/
def parquetrylaw2_TensorMade.Pure : Prop := ∀ (l0 : List Int) (a1 : Int) (a2 : Int), l0.length ≤ maxLen → l0.length * 8 ≤ 140737488351232 → (∀ x ∈ l0, (Lit.int .i64 x).wf = true) → (Lit.int .i64 a1).wf = true → (Lit.int .i64 a2).wf = true → ∃ k, parquetrylaw2_TensorMade.f k l0 a1 a2 = some true
theorem parquetrylaw2_TensorMade.walk (P : parquetrylaw2_TensorMade.Pure) (a0 : Option Addr) (len0 cap0 : Nat) (z0 : List Int) (a1 : Int) (a2 : Int) (w : World) (w0 : (a0 = none ∧ len0 = 0 ∧ cap0 = 0 ∧ z0 = []) ∨ ∃ x, a0 = some x ∧ len0 ≤ cap0 ∧ cap0 ≤ maxLen ∧ z0.length = cap0 ∧ (∀ i, i < z0.length → w.cell? (x.add i) = some (.int .i64 (z0.getD i 0))) ∧ ∀ n ∈ z0, (Lit.int .i64 n).wf = true) (y0 : len0 * 8 ≤ 140737488351232) (w1 : (Lit.int .i64 a1).wf = true) (w2 : (Lit.int .i64 a2).wf = true) :
    Calls Try.prog 15 #[.slice a0 len0 cap0, .int .i64 a1, .int .i64 a2] w fun e w' => e = .returned (.bool true) ∧ Below w.heap.size w w' := by
  obtain ⟨l0, rfl, hr0, hm0, hw0, hc0⟩ := ReadsInt.ofRowC w0
  obtain ⟨k, h⟩ := P l0 a1 a2 hm0 y0 hw0 w1 w2
  refine (parquetrylaw2_TensorMade.calls k _ _ l0 a1 a2 true w (Kd.C_of_reads (d := (0 : Int)) (h1 := fun _ => rfl) hr0) hc0 h).mono ?_
  rintro e w' ⟨rfl, hd⟩
  exact ⟨rfl, hd⟩

end Go.Proofs.Ythkcceknccdmpaa.Q
