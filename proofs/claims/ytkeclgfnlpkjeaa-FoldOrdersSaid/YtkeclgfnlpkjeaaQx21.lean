-- Printed by a program (a variant of the kit print, with contracts of our own).
import Derived.Test.YtkeclgfnlpkjeaaQx0
namespace Go.Proofs.Ytkeclgfnlpkjeaa.Q
open Go.RowKit Go.Proofs.YtkeclgfnlpkjeaaW.PrintWords Go.Proofs.YtkeclgfnlpkjeaaW.PrintLast Go.Proofs.YtkeclgfnlpkjeaaW.PrintMore
attribute [local go_sem] max2_int min2_int max_two min_two max_three min_three max_four min_four   -- for this text's walks alone
set_option linter.unusedVariables false
set_option linter.unusedSimpArgs false

/-! ### parquetryref4_rising: function 71 -/
def parquetryref4_rising.l0 : Nat → List Int → Int → Int → Int → Option (Bool)
  | 0, _, _, _, _ => none
  | k + 1, x0, x1, x7, x8 => if x8 < x7 then (if 0 ≤ x8 then (if x8 < (x0.length : Int) then (if (rd x0 x8) < 0 then (some false) else (if (rd x0 x8) ≥ x1 then (some false) else (if x8 > 0 then (if 0 ≤ (wrap64 (x8 - 1)) then (if (wrap64 (x8 - 1)) < (x0.length : Int) then (if (rd x0 (wrap64 (x8 - 1))) ≥ (rd x0 x8) then (some false) else (parquetryref4_rising.l0 k x0 x1 x7 (wrap64 (x8 + 1)))) else (none)) else (none)) else (parquetryref4_rising.l0 k x0 x1 x7 (wrap64 (x8 + 1)))))) else (none)) else (none)) else (some true)
def parquetryref4_rising.f (k : Nat) (l0 : List Int) (a1 : Int) : Option (Bool) := parquetryref4_rising.l0 k l0 a1 (l0.length : Int) 0
theorem parquetryref4_rising.mono_l : ∀ k, (∀ y0 y1 y2 y3, LeO (parquetryref4_rising.l0 k y0 y1 y2 y3) (parquetryref4_rising.l0 (k + 1) y0 y1 y2 y3))
  | 0 => fun _ _ _ _ r h => by simp [parquetryref4_rising.l0] at h
  | k + 1 => by
    have ih0 := parquetryref4_rising.mono_l k
    · intro y0 y1 y2 y3
      unfold parquetryref4_rising.l0
      repeat' first | (with_reducible first | exact ih0 _ _ _ _ | exact LeO.refl _ | exact LeO.none _ | refine LeO.ite ?_ ?_ | refine LeO.bind ?_ (fun _ => ?_)) | exact ih0 _ _ _ _ | exact LeO.none _ | refine LeO.ite ?_ ?_ | refine LeO.bind ?_ (fun _ => ?_)
theorem parquetryref4_rising.mono : ∀ a0 a1 k, LeO (parquetryref4_rising.f k a0 a1) (parquetryref4_rising.f (k + 1) a0 a1) := by
  intro a0 a1 k
  have ih0 := parquetryref4_rising.mono_l k
  unfold parquetryref4_rising.f
  repeat' first | (with_reducible first | exact ih0 _ _ _ _ | exact LeO.refl _ | exact LeO.none _ | refine LeO.ite ?_ ?_ | refine LeO.bind ?_ (fun _ => ?_)) | exact ih0 _ _ _ _ | exact LeO.none _ | refine LeO.ite ?_ ?_ | refine LeO.bind ?_ (fun _ => ?_)

set_option maxHeartbeats 8000000 in
set_option maxRecDepth 100000 in
theorem parquetryref4_rising.calls (k : Nat) (A0 : Option Addr) (c0 : Nat) (l0 : List Int) (a1 : Int) (r : Bool) (w : World) (hr0 : Kd.C (Kd.int .i64) w A0 l0.length l0) (hc0 : l0.length ≤ c0) (h : parquetryref4_rising.f k l0 a1 = some r) :
    Calls Try.prog 71 #[.slice A0 l0.length c0, .int .i64 a1] w fun e w' => e = .returned (.bool r) ∧ Drawn0 w w' := by
  (have HR0 := Aside0.mk hr0); (have HC0 := Aside0.mk hc0); (clear hr0 hc0); (have H : (parquetryref4_rising.l0 k l0 a1 (l0.length : Int) 0) = some r := h); (clear h); (have H' := Aside0.mk H); (clear H); (go_enter Try.func71, Try.ntmps71); (go_wp2); (repeat (go_quiet (fail); try go_wp2)); (go_loopg [8] k (fun kq v8 w' => ∃ (x8_1 : Int), v8 = .int .i64 x8_1 ∧ Aside0 (parquetryref4_rising.l0 kq l0 a1 (l0.length : Int) x8_1 = some r) ∧ Aside0 (kq ≤ k) ∧ Drawn0 w w')); (case atStart => exact ⟨(0), (by first | rfl | (simp; done) | (simp [*]; done)), H', ⟨Nat.le_refl _⟩, by repeat (first | exact Drawn0.refl _ | apply Drawn0.step)⟩)
  case round =>
    (clear H'); (try clear p2); (obtain ⟨x8_1, rfl, HA, HK1, ⟨m1, rfl⟩⟩ := hrel)
    cases gk with
    | zero => exact absurd HA.out (by simp [parquetryref4_rising.l0])
    | succ k1 =>
      (have H := HA.out); (clear HA); (simp only [parquetryref4_rising.l0] at H); (by_cases c3 : x8_1 < (l0.length : Int))
      · (rw [if_pos c3] at H); (have c3b0 : decide (x8_1 < (l0.length : Int)) = true := decide_eq_true c3); (clear c3); (by_cases c4 : 0 ≤ x8_1)
        · (rw [if_pos c4] at H); (have c4b0 : decide (0 ≤ x8_1) = true := decide_eq_true c4); (clear c4); (by_cases c5 : x8_1 < (l0.length : Int))
          · (rw [if_pos c5] at H); (have c5b0 : decide (x8_1 < (l0.length : Int)) = true := decide_eq_true c5); (clear c5); (by_cases c6 : (rd l0 x8_1) < 0)
            · (rw [if_pos c6] at H); (have c6b0 : decide ((rd l0 x8_1) < 0) = true := decide_eq_true c6); (clear c6); (obtain rfl := Option.some.inj H); (have p548 : 0 ≤ (x8_1 : Int) := of_decide_eq_true (by first | (with_reducible assumption) | assumption)); (have q548 : x8_1 < (l0.length : Int) := of_decide_eq_true (by first | (with_reducible assumption) | assumption)); (obtain ⟨ad548, e548, hx548_0⟩ := Kd.at_int HR0.out x8_1 p548 q548); (cases e548); (replace p548 := eq_true p548); (replace q548 := eq_true q548); (go_wp2); (repeat (go_quiet (fail); try go_wp2)); (go_ret); (exact ⟨by first | rfl | (simp; done) | (simp [*]; done), by repeat (first | exact Drawn0.refl _ | apply Drawn0.step)⟩)
            · (rw [if_neg c6] at H); (have c6b0 : decide ((rd l0 x8_1) < 0) = false := decide_eq_false c6); (clear c6); (by_cases c7 : (rd l0 x8_1) ≥ a1)
              · (rw [if_pos c7] at H); (have c7b0 : decide (a1 ≤ (rd l0 x8_1)) = true := decide_eq_true c7); (clear c7); (obtain rfl := Option.some.inj H); (have p548 : 0 ≤ (x8_1 : Int) := of_decide_eq_true (by first | (with_reducible assumption) | assumption)); (have q548 : x8_1 < (l0.length : Int) := of_decide_eq_true (by first | (with_reducible assumption) | assumption)); (obtain ⟨ad548, e548, hx548_0⟩ := Kd.at_int HR0.out x8_1 p548 q548); (cases e548); (replace p548 := eq_true p548); (replace q548 := eq_true q548); (have p549 : 0 ≤ (x8_1 : Int) := of_decide_eq_true (by first | (with_reducible assumption) | assumption)); (have q549 : x8_1 < (l0.length : Int) := of_decide_eq_true (by first | (with_reducible assumption) | assumption)); (obtain ⟨ad549, e549, hx549_0⟩ := Kd.at_int HR0.out x8_1 p549 q549); (obtain rfl : ad548 = ad549 := (by injection e549)); (replace p549 := eq_true p549); (replace q549 := eq_true q549); (go_wp2); (repeat (go_quiet (fail); try go_wp2)); (go_ret); (exact ⟨by first | rfl | (simp; done) | (simp [*]; done), by repeat (first | exact Drawn0.refl _ | apply Drawn0.step)⟩)
              · (rw [if_neg c7] at H); (have c7b0 : decide (a1 ≤ (rd l0 x8_1)) = false := decide_eq_false c7); (clear c7); (by_cases c8 : x8_1 > 0)
                · (rw [if_pos c8] at H); (have c8b0 : decide (0 < x8_1) = true := decide_eq_true c8); (clear c8); (obtain ⟨ji9, hji9⟩ : ∃ j_ : Int, (wrap64 (x8_1 - 1)) = j_ := ⟨_, rfl⟩); (replace H : (if 0 ≤ (ji9) then (if (ji9) < (l0.length : Int) then (if (rd l0 (ji9)) ≥ (rd l0 x8_1) then (some false) else (parquetryref4_rising.l0 k1 l0 a1 (l0.length : Int) (wrap64 (x8_1 + 1)))) else (none)) else (none)) = some r := by first | (rw [hji9] at H; exact H) | (simp only [hji9] at H ⊢; exact H)); (have hji9w : (IntKind.i64.wrap (x8_1 - 1)) = ji9 := (i64_w _).trans hji9); (by_cases c10 : 0 ≤ (ji9))
                  · (rw [if_pos c10] at H); (have c10b0 : decide (0 ≤ (ji9)) = true := decide_eq_true c10); (clear c10); (by_cases c11 : (ji9) < (l0.length : Int))
                    · (rw [if_pos c11] at H); (have c11b0 : decide ((ji9) < (l0.length : Int)) = true := decide_eq_true c11); (clear c11); (by_cases c12 : (rd l0 (ji9)) ≥ (rd l0 x8_1))
                      · (rw [if_pos c12] at H); (have c12b0 : decide ((rd l0 x8_1) ≤ (rd l0 (ji9))) = true := decide_eq_true c12); (clear c12); (obtain rfl := Option.some.inj H); (have p548 : 0 ≤ (x8_1 : Int) := of_decide_eq_true (by first | (with_reducible assumption) | assumption)); (have q548 : x8_1 < (l0.length : Int) := of_decide_eq_true (by first | (with_reducible assumption) | assumption)); (obtain ⟨ad548, e548, hx548_0⟩ := Kd.at_int HR0.out x8_1 p548 q548); (cases e548); (replace p548 := eq_true p548); (replace q548 := eq_true q548); (have p549 : 0 ≤ (x8_1 : Int) := of_decide_eq_true (by first | (with_reducible assumption) | assumption)); (have q549 : x8_1 < (l0.length : Int) := of_decide_eq_true (by first | (with_reducible assumption) | assumption)); (obtain ⟨ad549, e549, hx549_0⟩ := Kd.at_int HR0.out x8_1 p549 q549); (obtain rfl : ad548 = ad549 := (by injection e549)); (replace p549 := eq_true p549); (replace q549 := eq_true q549); (have p550 : 0 ≤ ((ji9) : Int) := of_decide_eq_true (by first | (with_reducible assumption) | assumption)); (have q550 : (ji9) < (l0.length : Int) := of_decide_eq_true (by first | (with_reducible assumption) | assumption)); (obtain ⟨ad550, e550, hx550_0⟩ := Kd.at_int HR0.out (ji9) p550 q550); (obtain rfl : ad548 = ad550 := (by injection e550)); (replace p550 := eq_true p550); (replace q550 := eq_true q550); (have p551 : 0 ≤ (x8_1 : Int) := of_decide_eq_true (by first | (with_reducible assumption) | assumption)); (have q551 : x8_1 < (l0.length : Int) := of_decide_eq_true (by first | (with_reducible assumption) | assumption)); (obtain ⟨ad551, e551, hx551_0⟩ := Kd.at_int HR0.out x8_1 p551 q551); (obtain rfl : ad548 = ad551 := (by injection e551)); (replace p551 := eq_true p551); (replace q551 := eq_true q551); (go_wp2); (repeat (go_quiet (fail); try go_wp2)); (go_ret); (exact ⟨by first | rfl | (simp; done) | (simp only [← hji9] <;> (first | rfl | simp)) | (simp [*]; done), by repeat (first | exact Drawn0.refl _ | apply Drawn0.step)⟩)
                      · (rw [if_neg c12] at H); (have c12b0 : decide ((rd l0 x8_1) ≤ (rd l0 (ji9))) = false := decide_eq_false c12); (clear c12); (have H' := Aside0.mk H); (clear H); (have p548 : 0 ≤ (x8_1 : Int) := of_decide_eq_true (by first | (with_reducible assumption) | assumption)); (have q548 : x8_1 < (l0.length : Int) := of_decide_eq_true (by first | (with_reducible assumption) | assumption)); (obtain ⟨ad548, e548, hx548_0⟩ := Kd.at_int HR0.out x8_1 p548 q548); (cases e548); (replace p548 := eq_true p548); (replace q548 := eq_true q548); (have p549 : 0 ≤ (x8_1 : Int) := of_decide_eq_true (by first | (with_reducible assumption) | assumption)); (have q549 : x8_1 < (l0.length : Int) := of_decide_eq_true (by first | (with_reducible assumption) | assumption)); (obtain ⟨ad549, e549, hx549_0⟩ := Kd.at_int HR0.out x8_1 p549 q549); (obtain rfl : ad548 = ad549 := (by injection e549)); (replace p549 := eq_true p549); (replace q549 := eq_true q549); (have p550 : 0 ≤ ((ji9) : Int) := of_decide_eq_true (by first | (with_reducible assumption) | assumption)); (have q550 : (ji9) < (l0.length : Int) := of_decide_eq_true (by first | (with_reducible assumption) | assumption)); (obtain ⟨ad550, e550, hx550_0⟩ := Kd.at_int HR0.out (ji9) p550 q550); (obtain rfl : ad548 = ad550 := (by injection e550)); (replace p550 := eq_true p550); (replace q550 := eq_true q550); (have p551 : 0 ≤ (x8_1 : Int) := of_decide_eq_true (by first | (with_reducible assumption) | assumption)); (have q551 : x8_1 < (l0.length : Int) := of_decide_eq_true (by first | (with_reducible assumption) | assumption)); (obtain ⟨ad551, e551, hx551_0⟩ := Kd.at_int HR0.out x8_1 p551 q551); (obtain rfl : ad548 = ad551 := (by injection e551)); (replace p551 := eq_true p551); (replace q551 := eq_true q551); (go_wp2); (repeat (go_quiet (fail); try go_wp2)); (go_roundg k1); (case measure => have := HK1.out; omega); (case rel => exact ⟨(wrap64 (x8_1 + 1)), (by first | rfl | (simp; done) | (simp [*]; done)), H', ⟨by have := HK1.out; omega⟩, by repeat (first | exact Drawn0.refl _ | apply Drawn0.step)⟩)
                    (· (rw [if_neg c11] at H); (exact absurd H (by simp)))
                  (· (rw [if_neg c10] at H); (exact absurd H (by simp)))
                · (rw [if_neg c8] at H); (have c8b0 : decide (0 < x8_1) = false := decide_eq_false c8); (clear c8); (have H' := Aside0.mk H); (clear H); (have p548 : 0 ≤ (x8_1 : Int) := of_decide_eq_true (by first | (with_reducible assumption) | assumption)); (have q548 : x8_1 < (l0.length : Int) := of_decide_eq_true (by first | (with_reducible assumption) | assumption)); (obtain ⟨ad548, e548, hx548_0⟩ := Kd.at_int HR0.out x8_1 p548 q548); (cases e548); (replace p548 := eq_true p548); (replace q548 := eq_true q548); (have p549 : 0 ≤ (x8_1 : Int) := of_decide_eq_true (by first | (with_reducible assumption) | assumption)); (have q549 : x8_1 < (l0.length : Int) := of_decide_eq_true (by first | (with_reducible assumption) | assumption)); (obtain ⟨ad549, e549, hx549_0⟩ := Kd.at_int HR0.out x8_1 p549 q549); (obtain rfl : ad548 = ad549 := (by injection e549)); (replace p549 := eq_true p549); (replace q549 := eq_true q549); (go_wp2); (repeat (go_quiet (fail); try go_wp2)); (go_roundg k1); (case measure => have := HK1.out; omega); (case rel => exact ⟨(wrap64 (x8_1 + 1)), (by first | rfl | (simp; done) | (simp [*]; done)), H', ⟨by have := HK1.out; omega⟩, by repeat (first | exact Drawn0.refl _ | apply Drawn0.step)⟩)
          (· (rw [if_neg c5] at H); (exact absurd H (by simp)))
        (· (rw [if_neg c4] at H); (exact absurd H (by simp)))
      (· (rw [if_neg c3] at H); (have c3b0 : decide (x8_1 < (l0.length : Int)) = false := decide_eq_false c3); (clear c3); (obtain rfl := Option.some.inj H); (go_wp2); (repeat (go_quiet (fail); try go_wp2)); (go_ret); (exact ⟨by first | rfl | (simp; done) | (simp [*]; done), by repeat (first | exact Drawn0.refl _ | apply Drawn0.step)⟩))
/-! ### parquetryref4_has: function 72 -/
def parquetryref4_has.l0 : Nat → List Int → Int → Int → Int → Option (Bool)
  | 0, _, _, _, _ => none
  | k + 1, x0, x1, x7, x8 => if x8 < x7 then (if 0 ≤ x8 then (if x8 < (x0.length : Int) then (if (rd x0 x8) = x1 then (some true) else (parquetryref4_has.l0 k x0 x1 x7 (wrap64 (x8 + 1)))) else (none)) else (none)) else (some false)
def parquetryref4_has.f (k : Nat) (l0 : List Int) (a1 : Int) : Option (Bool) := parquetryref4_has.l0 k l0 a1 (l0.length : Int) 0
theorem parquetryref4_has.mono_l : ∀ k, (∀ y0 y1 y2 y3, LeO (parquetryref4_has.l0 k y0 y1 y2 y3) (parquetryref4_has.l0 (k + 1) y0 y1 y2 y3))
  | 0 => fun _ _ _ _ r h => by simp [parquetryref4_has.l0] at h
  | k + 1 => by
    have ih0 := parquetryref4_has.mono_l k
    · intro y0 y1 y2 y3
      unfold parquetryref4_has.l0
      repeat' first | (with_reducible first | exact ih0 _ _ _ _ | exact LeO.refl _ | exact LeO.none _ | refine LeO.ite ?_ ?_ | refine LeO.bind ?_ (fun _ => ?_)) | exact ih0 _ _ _ _ | exact LeO.none _ | refine LeO.ite ?_ ?_ | refine LeO.bind ?_ (fun _ => ?_)
theorem parquetryref4_has.mono : ∀ a0 a1 k, LeO (parquetryref4_has.f k a0 a1) (parquetryref4_has.f (k + 1) a0 a1) := by
  intro a0 a1 k
  have ih0 := parquetryref4_has.mono_l k
  unfold parquetryref4_has.f
  repeat' first | (with_reducible first | exact ih0 _ _ _ _ | exact LeO.refl _ | exact LeO.none _ | refine LeO.ite ?_ ?_ | refine LeO.bind ?_ (fun _ => ?_)) | exact ih0 _ _ _ _ | exact LeO.none _ | refine LeO.ite ?_ ?_ | refine LeO.bind ?_ (fun _ => ?_)

set_option maxHeartbeats 8000000 in
set_option maxRecDepth 100000 in
theorem parquetryref4_has.calls (k : Nat) (A0 : Option Addr) (c0 : Nat) (l0 : List Int) (a1 : Int) (r : Bool) (w : World) (hr0 : Kd.C (Kd.int .i64) w A0 l0.length l0) (hc0 : l0.length ≤ c0) (h : parquetryref4_has.f k l0 a1 = some r) :
    Calls Try.prog 72 #[.slice A0 l0.length c0, .int .i64 a1] w fun e w' => e = .returned (.bool r) ∧ Drawn0 w w' := by
  (have HR0 := Aside0.mk hr0); (have HC0 := Aside0.mk hc0); (clear hr0 hc0); (have H : (parquetryref4_has.l0 k l0 a1 (l0.length : Int) 0) = some r := h); (clear h); (have H' := Aside0.mk H); (clear H); (go_enter Try.func72, Try.ntmps72); (go_wp2); (go_loopg [8] k (fun kq v8 w' => ∃ (x8_1 : Int), v8 = .int .i64 x8_1 ∧ Aside0 (parquetryref4_has.l0 kq l0 a1 (l0.length : Int) x8_1 = some r) ∧ Aside0 (kq ≤ k) ∧ Drawn0 w w')); (case atStart => exact ⟨(0), (by first | rfl | (simp; done) | (simp [*]; done)), H', ⟨Nat.le_refl _⟩, by repeat (first | exact Drawn0.refl _ | apply Drawn0.step)⟩)
  case round =>
    (clear H'); (try clear p2); (obtain ⟨x8_1, rfl, HA, HK1, ⟨m1, rfl⟩⟩ := hrel)
    cases gk with
    | zero => exact absurd HA.out (by simp [parquetryref4_has.l0])
    | succ k1 =>
      (have H := HA.out); (clear HA); (simp only [parquetryref4_has.l0] at H); (by_cases c3 : x8_1 < (l0.length : Int))
      · (rw [if_pos c3] at H); (have c3b0 : decide (x8_1 < (l0.length : Int)) = true := decide_eq_true c3); (clear c3); (by_cases c4 : 0 ≤ x8_1)
        · (rw [if_pos c4] at H); (have c4b0 : decide (0 ≤ x8_1) = true := decide_eq_true c4); (clear c4); (by_cases c5 : x8_1 < (l0.length : Int))
          · (rw [if_pos c5] at H); (have c5b0 : decide (x8_1 < (l0.length : Int)) = true := decide_eq_true c5); (clear c5); (by_cases c6 : (rd l0 x8_1) = a1)
            · (rw [if_pos c6] at H); (have c6b0 : ((rd l0 x8_1) == a1) = true := beq_iff_eq.mpr c6); (have c6b1 : ((rd l0 x8_1) != a1) = false := bne_eq_false_iff_eq.mpr c6); (clear c6); (obtain rfl := Option.some.inj H); (have p552 : 0 ≤ (x8_1 : Int) := of_decide_eq_true (by first | (with_reducible assumption) | assumption)); (have q552 : x8_1 < (l0.length : Int) := of_decide_eq_true (by first | (with_reducible assumption) | assumption)); (obtain ⟨ad552, e552, hx552_0⟩ := Kd.at_int HR0.out x8_1 p552 q552); (cases e552); (replace p552 := eq_true p552); (replace q552 := eq_true q552); (go_wp2); (go_ret); (exact ⟨by first | rfl | (simp; done) | (simp [*]; done), by repeat (first | exact Drawn0.refl _ | apply Drawn0.step)⟩)
            · (rw [if_neg c6] at H); (have c6b0 : ((rd l0 x8_1) == a1) = false := beq_eq_false_iff_ne.mpr c6); (have c6b1 : ((rd l0 x8_1) != a1) = true := bne_iff_ne.mpr c6); (have H' := Aside0.mk H); (clear H); (have p552 : 0 ≤ (x8_1 : Int) := of_decide_eq_true (by first | (with_reducible assumption) | assumption)); (have q552 : x8_1 < (l0.length : Int) := of_decide_eq_true (by first | (with_reducible assumption) | assumption)); (obtain ⟨ad552, e552, hx552_0⟩ := Kd.at_int HR0.out x8_1 p552 q552); (cases e552); (replace p552 := eq_true p552); (replace q552 := eq_true q552); (go_wp2); (go_roundg k1); (case measure => have := HK1.out; omega); (case rel => exact ⟨(wrap64 (x8_1 + 1)), (by first | rfl | (simp; done) | (simp [*]; done)), H', ⟨by have := HK1.out; omega⟩, by repeat (first | exact Drawn0.refl _ | apply Drawn0.step)⟩)
          (· (rw [if_neg c5] at H); (exact absurd H (by simp)))
        (· (rw [if_neg c4] at H); (exact absurd H (by simp)))
      (· (rw [if_neg c3] at H); (have c3b0 : decide (x8_1 < (l0.length : Int)) = false := decide_eq_false c3); (clear c3); (obtain rfl := Option.some.inj H); (go_wp2); (go_ret); (exact ⟨by first | rfl | (simp; done) | (simp [*]; done), by repeat (first | exact Drawn0.refl _ | apply Drawn0.step)⟩))
end Go.Proofs.Ytkeclgfnlpkjeaa.Q
