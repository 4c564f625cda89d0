-- Printed by a program (a variant of the kit print, with contracts of our own).
import Derived.Test.YtapoeleiicnlbaaQx0
import Derived.Test.YtapoeleiicnlbaaQx1
namespace Go.Proofs.Ytapoeleiicnlbaa.Q
open Go.RowKit Go.Proofs.YtapoeleiicnlbaaW.PrintWords Go.Proofs.YtapoeleiicnlbaaW.PrintLast Go.Proofs.YtapoeleiicnlbaaW.PrintMore
attribute [local go_sem] max2_int min2_int max_two min_two max_three min_three max_four min_four   -- for this text's walks alone
set_option linter.unusedVariables false
set_option linter.unusedSimpArgs false

/-! ### shape_Index: function 32 -/
mutual
def shape_Index.j0 : Nat → List Int → List Int → Bool → Option (Int)
  | 0, _, _, _ => none
  | k + 1, x0, x1, x17 => if x17 = true then (some (-1)) else (shape_Index.l0 k x0 0 x1 (x1.length : Int) 0)
def shape_Index.l0 : Nat → List Int → Int → List Int → Int → Int → Option (Int)
  | 0, _, _, _, _, _ => none
  | k + 1, x0, x5, x18, x19, x20 => if x20 < x19 then (if 0 ≤ x20 then (if x20 < (x18.length : Int) then (if (rd x18 x20) < 0 then (some (-1)) else (if x20 < (x0.length : Int) then (if (rd x18 x20) ≥ (rd x0 x20) then (some (-1)) else (shape_Index.l0 k x0 (wrap64 ((wrap64 (x5 * (rd x0 x20))) + (rd x18 x20))) x18 x19 (wrap64 (x20 + 1)))) else (none))) else (none)) else (none)) else (some x5)
end
def shape_Index.f (k : Nat) (l0 : List Int) (l1 : List Int) : Option (Int) := (shape_Right.f k l0).bind fun t180 => (if t180 = true then (shape_Index.j0 k l0 l1 ((l1.length : Int) != (l0.length : Int))) else (shape_Index.j0 k l0 l1 true))
theorem shape_Index.mono_l : ∀ k, (∀ y0 y1 y2, LeO (shape_Index.j0 k y0 y1 y2) (shape_Index.j0 (k + 1) y0 y1 y2)) ∧ (∀ y0 y1 y2 y3 y4, LeO (shape_Index.l0 k y0 y1 y2 y3 y4) (shape_Index.l0 (k + 1) y0 y1 y2 y3 y4))
  | 0 => ⟨fun _ _ _ r h => by simp [shape_Index.j0] at h, fun _ _ _ _ _ r h => by simp [shape_Index.l0] at h⟩
  | k + 1 => by
    obtain ⟨ih0, ih1⟩ := shape_Index.mono_l k
    refine ⟨?_, ?_⟩
    · intro y0 y1 y2
      unfold shape_Index.j0
      repeat' first | (with_reducible first | exact ih0 _ _ _ | exact ih1 _ _ _ _ _ | exact shape_Right.mono _ _ | exact LeO.refl _ | exact LeO.none _ | refine LeO.ite ?_ ?_ | refine LeO.bind ?_ (fun _ => ?_)) | exact ih0 _ _ _ | exact ih1 _ _ _ _ _ | exact LeO.none _ | refine LeO.ite ?_ ?_ | refine LeO.bind ?_ (fun _ => ?_)
    · intro y0 y1 y2 y3 y4
      unfold shape_Index.l0
      repeat' first | (with_reducible first | exact ih0 _ _ _ | exact ih1 _ _ _ _ _ | exact shape_Right.mono _ _ | exact LeO.refl _ | exact LeO.none _ | refine LeO.ite ?_ ?_ | refine LeO.bind ?_ (fun _ => ?_)) | exact ih0 _ _ _ | exact ih1 _ _ _ _ _ | exact LeO.none _ | refine LeO.ite ?_ ?_ | refine LeO.bind ?_ (fun _ => ?_)
theorem shape_Index.mono : ∀ a0 a1 k, LeO (shape_Index.f k a0 a1) (shape_Index.f (k + 1) a0 a1) := by
  intro a0 a1 k
  obtain ⟨ih0, ih1⟩ := shape_Index.mono_l k
  unfold shape_Index.f
  repeat' first | (with_reducible first | exact ih0 _ _ _ | exact ih1 _ _ _ _ _ | exact shape_Right.mono _ _ | exact LeO.refl _ | exact LeO.none _ | refine LeO.ite ?_ ?_ | refine LeO.bind ?_ (fun _ => ?_)) | exact ih0 _ _ _ | exact ih1 _ _ _ _ _ | exact LeO.none _ | refine LeO.ite ?_ ?_ | refine LeO.bind ?_ (fun _ => ?_)

set_option maxHeartbeats 8000000 in
set_option maxRecDepth 100000 in
theorem shape_Index.calls (k : Nat) (A0 : Option Addr) (c0 : Nat) (l0 : List Int) (A1 : Option Addr) (c1 : Nat) (l1 : List Int) (r : Int) (w : World) (hr0 : Kd.C (Kd.int .i64) w A0 l0.length l0) (hc0 : l0.length ≤ c0) (hr1 : Kd.C (Kd.int .i64) w A1 l1.length l1) (hc1 : l1.length ≤ c1) (h : shape_Index.f k l0 l1 = some r) :
    Calls Try.prog 32 #[.slice A0 l0.length c0, .slice A1 l1.length c1] w fun e w' => e = .returned (.int .i64 r) ∧ Drawn0 w w' := by
  (have HR0 := am_ hr0); (have HC0 := am_ hc0); (clear hr0 hc0); (have HR1 := am_ hr1); (have HC1 := am_ hc1); (clear hr1 hc1); (have H : ((shape_Right.f k l0).bind fun t180 => (if t180 = true then (shape_Index.j0 k l0 l1 ((l1.length : Int) != (l0.length : Int))) else (shape_Index.j0 k l0 l1 true))) = some r := h); (clear h); (have HC3 := am_ H); (clear H); (go_enter Try.func32, Try.ntmps32); (go_upto_region 1 with (fail)); (go_cut [17] (fun v17 wc => ∃ (kq : Nat) (x17_2 : Bool), v17 = .bool x17_2 ∧ Aside0 (shape_Index.j0 kq l0 l1 x17_2 = some r) ∧ Aside0 (kq ≤ k) ∧ Drawn0 w wc))
  case first =>
    (have H := HC3.out); (clear HC3); (replace H := Option.bind_eq_some_iff.mp H); (obtain ⟨t180, A40, H⟩ := H); (replace H : (if t180 = true then (shape_Index.j0 k l0 l1 ((l1.length : Int) != (l0.length : Int))) else (shape_Index.j0 k l0 l1 true)) = some r := H); (have A4 := am_ A40); (clear A40); (by_cases c5 : t180 = true)
    · (subst c5); (have H1 : (shape_Index.j0 k l0 l1 ((l1.length : Int) != (l0.length : Int))) = some r := by rw [if_pos rfl] at H; exact H); (clear H); (have H := H1); (clear H1); (have H' := am_ H); (clear H); (go_wp2_with (first | ((with_reducible refine gate_callee (f := 36) rfl ?_); refine goesL_ (some 9) rfl rfl Try.func36 kr_ rfl #[.slice A0 l0.length c0] rfl ar_ ?_; (with_reducible refine (shape_Right.calls k _ _ l0 true _ ?side1 ?side2 A4.out).mono ?_); (case side1 => exact nC_ HR0.out); (case side2 => exact HC0.out); rintro e w' ⟨rfl, ⟨nd, rfl⟩⟩; refine ⟨_, rfl, ?_⟩))); (go_meet); (case rel => exact ⟨_, (((l1.length : Int) != (l0.length : Int))), rs_, H', ⟨by first | omega | exact Nat.le_refl _⟩, by repeat (first | exact Drawn0.refl _ | apply Drawn0.step)⟩)
    · (replace c5 := Bool.eq_false_iff.mpr c5); (subst c5); (have H1 : (shape_Index.j0 k l0 l1 true) = some r := by rw [if_neg (show ¬ (false = true) by decide)] at H; exact H); (clear H); (have H := H1); (clear H1); (have H' := am_ H); (clear H); (go_wp2_with (first | ((with_reducible refine gate_callee (f := 36) rfl ?_); refine goesL_ (some 9) rfl rfl Try.func36 kr_ rfl #[.slice A0 l0.length c0] rfl ar_ ?_; (with_reducible refine (shape_Right.calls k _ _ l0 false _ ?side1 ?side2 A4.out).mono ?_); (case side1 => exact nC_ HR0.out); (case side2 => exact HC0.out); rintro e w' ⟨rfl, ⟨nd, rfl⟩⟩; refine ⟨_, rfl, ?_⟩))); (go_meet); (case rel => exact ⟨_, (true), rs_, H', ⟨by first | omega | exact Nat.le_refl _⟩, by repeat (first | exact Drawn0.refl _ | apply Drawn0.step)⟩)
  case rest =>
    (clear HC3); (try clear p2); (obtain ⟨kq, x17_2, rfl, HA, HJ2, ⟨mc2, rfl⟩⟩ := hcut)
    cases kq with
    | zero => exact absurd HA.out (by simp [shape_Index.j0])
    | succ kj2 =>
      (have H := HA.out); (clear HA); (simp only [shape_Index.j0] at H); (by_cases c6 : x17_2 = true); (· (subst c6); (have H1 : (some (-1)) = some r := by rw [if_pos rfl] at H; exact H); (clear H); (have H := H1); (clear H1); (obtain rfl := Option.some.inj H); (go_wp2); (go_ret); (exact ⟨by first | rfl | (simp; done) | (simp [*]; done), by repeat (first | exact Drawn0.refl _ | apply Drawn0.step)⟩))
      · (replace c6 := Bool.eq_false_iff.mpr c6); (subst c6); (have H1 : (shape_Index.l0 kj2 l0 0 l1 (l1.length : Int) 0) = some r := by rw [if_neg (show ¬ (false = true) by decide)] at H; exact H); (clear H); (have H := H1); (clear H1); (have H' := am_ H); (clear H); (go_wp2); (go_loopg [5, 20] kj2 (fun kq v5 v20 w' => ∃ (x5_2 : Int) (x20_2 : Int), v5 = .int .i64 x5_2 ∧ v20 = .int .i64 x20_2 ∧ Aside0 (shape_Index.l0 kq l0 x5_2 l1 (l1.length : Int) x20_2 = some r) ∧ Aside0 (kq ≤ kj2) ∧ Drawn0 w w')); (case atStart => exact ⟨(0), (0), rs_, rs_, H', ⟨Nat.le_refl _⟩, by repeat (first | exact Drawn0.refl _ | apply Drawn0.step)⟩)
        case round =>
          (clear H'); (try clear p2); (try clear p2); (obtain ⟨x5_2, x20_2, rfl, rfl, HA, HK2, ⟨m2, rfl⟩⟩ := hrel)
          cases gk with
          | zero => exact absurd HA.out (by simp [shape_Index.l0])
          | succ k2 =>
            (have H := HA.out); (clear HA); (simp only [shape_Index.l0] at H); (by_cases c7 : x20_2 < (l1.length : Int))
            · (rw [if_pos c7] at H); (have c7b0 : decide (x20_2 < (l1.length : Int)) = true := decide_eq_true c7); (clear c7); (by_cases c8 : 0 ≤ x20_2)
              · (rw [if_pos c8] at H); (have c8b0 : decide (0 ≤ x20_2) = true := decide_eq_true c8); (clear c8); (by_cases c9 : x20_2 < (l1.length : Int))
                · (rw [if_pos c9] at H); (have c9b0 : decide (x20_2 < (l1.length : Int)) = true := decide_eq_true c9); (clear c9); (by_cases c10 : (rd l1 x20_2) < 0)
                  · (rw [if_pos c10] at H); (have c10b0 : decide ((rd l1 x20_2) < 0) = true := decide_eq_true c10); (clear c10); (obtain rfl := Option.some.inj H); (have p181 : 0 ≤ (x20_2 : Int) := od_); (have q181 : x20_2 < (l1.length : Int) := od_); (obtain ⟨ad181, e181, hx181_0⟩ := Kd.at_int HR1.out x20_2 p181 q181); (cases e181); (replace p181 := eq_true p181); (replace q181 := eq_true q181); (go_wp2); (go_ret); (exact ⟨by first | rfl | (simp; done) | (simp [*]; done), by repeat (first | exact Drawn0.refl _ | apply Drawn0.step)⟩)
                  · (rw [if_neg c10] at H); (have c10b0 : decide ((rd l1 x20_2) < 0) = false := decide_eq_false c10); (clear c10); (by_cases c11 : x20_2 < (l0.length : Int))
                    · (rw [if_pos c11] at H); (have c11b0 : decide (x20_2 < (l0.length : Int)) = true := decide_eq_true c11); (clear c11); (by_cases c12 : (rd l1 x20_2) ≥ (rd l0 x20_2))
                      · (rw [if_pos c12] at H); (have c12b0 : decide ((rd l0 x20_2) ≤ (rd l1 x20_2)) = true := decide_eq_true c12); (clear c12); (obtain rfl := Option.some.inj H); (have p181 : 0 ≤ (x20_2 : Int) := od_); (have q181 : x20_2 < (l1.length : Int) := od_); (obtain ⟨ad181, e181, hx181_0⟩ := Kd.at_int HR1.out x20_2 p181 q181); (cases e181); (replace p181 := eq_true p181); (replace q181 := eq_true q181); (have p182 : 0 ≤ (x20_2 : Int) := od_); (have q182 : x20_2 < (l0.length : Int) := od_); (obtain ⟨ad182, e182, hx182_0⟩ := Kd.at_int HR0.out x20_2 p182 q182); (cases e182); (replace p182 := eq_true p182); (replace q182 := eq_true q182); (go_wp2); (go_ret); (exact ⟨by first | rfl | (simp; done) | (simp [*]; done), by repeat (first | exact Drawn0.refl _ | apply Drawn0.step)⟩)
                      · (rw [if_neg c12] at H); (have c12b0 : decide ((rd l0 x20_2) ≤ (rd l1 x20_2)) = false := decide_eq_false c12); (clear c12); (have H' := am_ H); (clear H); (have p181 : 0 ≤ (x20_2 : Int) := od_); (have q181 : x20_2 < (l1.length : Int) := od_); (obtain ⟨ad181, e181, hx181_0⟩ := Kd.at_int HR1.out x20_2 p181 q181); (cases e181); (replace p181 := eq_true p181); (replace q181 := eq_true q181); (have p182 : 0 ≤ (x20_2 : Int) := od_); (have q182 : x20_2 < (l0.length : Int) := od_); (obtain ⟨ad182, e182, hx182_0⟩ := Kd.at_int HR0.out x20_2 p182 q182); (cases e182); (replace p182 := eq_true p182); (replace q182 := eq_true q182); (have p183 : 0 ≤ (x20_2 : Int) := od_); (have q183 : x20_2 < (l0.length : Int) := od_); (obtain ⟨ad183, e183, hx183_0⟩ := Kd.at_int HR0.out x20_2 p183 q183); (obtain rfl : ad182 = ad183 := (by injection e183)); (replace p183 := eq_true p183); (replace q183 := eq_true q183); (go_wp2); (go_roundg k2); (case measure => have := HJ2.out; have := HK2.out; omega); (case rel => exact ⟨(wrap64 ((wrap64 (x5_2 * (rd l0 x20_2))) + (rd l1 x20_2))), (wrap64 (x20_2 + 1)), rs_, rs_, H', ⟨by have := HJ2.out; have := HK2.out; omega⟩, by repeat (first | exact Drawn0.refl _ | apply Drawn0.step)⟩)
                    (· (rw [if_neg c11] at H); (exact absurd H (by simp)))
                (· (rw [if_neg c9] at H); (exact absurd H (by simp)))
              (· (rw [if_neg c8] at H); (exact absurd H (by simp)))
            (· (rw [if_neg c7] at H); (have c7b0 : decide (x20_2 < (l1.length : Int)) = false := decide_eq_false c7); (clear c7); (obtain rfl := Option.some.inj H); (go_wp2); (go_ret); (exact ⟨by first | rfl | (simp; done) | (simp [*]; done), by repeat (first | exact Drawn0.refl _ | apply Drawn0.step)⟩))
-- NOT PRINTED: function 31 (dot_Do_1)

end Go.Proofs.Ytapoeleiicnlbaa.Q
