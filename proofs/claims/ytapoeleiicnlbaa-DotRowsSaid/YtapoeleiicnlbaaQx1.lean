-- Printed by a program (a variant of the kit print, with contracts of our own).
import Derived.Test.YtapoeleiicnlbaaQx0
namespace Go.Proofs.Ytapoeleiicnlbaa.Q
open Go.RowKit Go.Proofs.YtapoeleiicnlbaaW.PrintWords Go.Proofs.YtapoeleiicnlbaaW.PrintLast Go.Proofs.YtapoeleiicnlbaaW.PrintMore
attribute [local go_sem] max2_int min2_int max_two min_two max_three min_three max_four min_four   -- for this text's walks alone
set_option linter.unusedVariables false
set_option linter.unusedSimpArgs false

/-! ### parquetryref1_Right: function 33 -/
def parquetryref1_Right.l0 : Nat → List Int → Int → Int → Option (Bool)
  | 0, _, _, _ => none
  | k + 1, x0, x3, x4 => if x4 < (x0.length : Int) then (if 0 ≤ x4 then (if (rd x0 x4) < 0 then (some false) else (if (rd x0 x4) > 32 then (some false) else (if x4 ≥ 4 then (some false) else (parquetryref1_Right.l0 k x0 (wrap64 (x3 * (rd x0 x4))) (wrap64 (x4 + 1)))))) else (none)) else (some (decide (x3 ≤ 4096)))
def parquetryref1_Right.f (k : Nat) (l0 : List Int) : Option (Bool) := parquetryref1_Right.l0 k l0 1 0
theorem parquetryref1_Right.mono_l : ∀ k, (∀ y0 y1 y2, LeO (parquetryref1_Right.l0 k y0 y1 y2) (parquetryref1_Right.l0 (k + 1) y0 y1 y2))
  | 0 => fun _ _ _ r h => by simp [parquetryref1_Right.l0] at h
  | k + 1 => by
    have ih0 := parquetryref1_Right.mono_l k
    · intro y0 y1 y2
      unfold parquetryref1_Right.l0
      repeat' first | (with_reducible first | exact ih0 _ _ _ | exact LeO.refl _ | exact LeO.none _ | refine LeO.ite ?_ ?_ | refine LeO.bind ?_ (fun _ => ?_)) | exact ih0 _ _ _ | exact LeO.none _ | refine LeO.ite ?_ ?_ | refine LeO.bind ?_ (fun _ => ?_)
theorem parquetryref1_Right.mono : ∀ a0 k, LeO (parquetryref1_Right.f k a0) (parquetryref1_Right.f (k + 1) a0) := by
  intro a0 k
  have ih0 := parquetryref1_Right.mono_l k
  unfold parquetryref1_Right.f
  repeat' first | (with_reducible first | exact ih0 _ _ _ | exact LeO.refl _ | exact LeO.none _ | refine LeO.ite ?_ ?_ | refine LeO.bind ?_ (fun _ => ?_)) | exact ih0 _ _ _ | exact LeO.none _ | refine LeO.ite ?_ ?_ | refine LeO.bind ?_ (fun _ => ?_)

set_option maxHeartbeats 8000000 in
set_option maxRecDepth 100000 in
theorem parquetryref1_Right.calls (k : Nat) (A0 : Option Addr) (c0 : Nat) (l0 : List Int) (r : Bool) (w : World) (hr0 : Kd.C (Kd.int .i64) w A0 l0.length l0) (hc0 : l0.length ≤ c0) (h : parquetryref1_Right.f k l0 = some r) :
    Calls Try.prog 33 #[.slice A0 l0.length c0] w fun e w' => e = .returned (.bool r) ∧ Drawn0 w w' := by
  (have HR0 := am_ hr0); (have HC0 := am_ hc0); (clear hr0 hc0); (have H : (parquetryref1_Right.l0 k l0 1 0) = some r := h); (clear h); (have H' := am_ H); (clear H); (go_enter Try.func33, Try.ntmps33); (go_wp2); (go_loopg [3, 4] k (fun kq v3 v4 w' => ∃ (x3_1 : Int) (x4_1 : Int), v3 = .int .i64 x3_1 ∧ v4 = .int .i64 x4_1 ∧ Aside0 (parquetryref1_Right.l0 kq l0 x3_1 x4_1 = some r) ∧ Aside0 (kq ≤ k) ∧ Drawn0 w w')); (case atStart => exact ⟨(1), (0), rs_, rs_, H', ⟨Nat.le_refl _⟩, by repeat (first | exact Drawn0.refl _ | apply Drawn0.step)⟩)
  case round =>
    (clear H'); (obtain ⟨x3_1, x4_1, rfl, rfl, HA, HK1, ⟨m1, rfl⟩⟩ := hrel)
    cases gk with
    | zero => exact absurd HA.out (by simp [parquetryref1_Right.l0])
    | succ k1 =>
      (have H := HA.out); (clear HA); (simp only [parquetryref1_Right.l0] at H); (by_cases c2 : x4_1 < (l0.length : Int))
      · (rw [if_pos c2] at H); (have c2b0 : decide (x4_1 < (l0.length : Int)) = true := decide_eq_true c2); (clear c2); (by_cases c3 : 0 ≤ x4_1)
        · (rw [if_pos c3] at H); (have c3b0 : decide (0 ≤ x4_1) = true := decide_eq_true c3); (clear c3); (by_cases c4 : (rd l0 x4_1) < 0)
          · (rw [if_pos c4] at H); (have c4b0 : decide ((rd l0 x4_1) < 0) = true := decide_eq_true c4); (clear c4); (obtain rfl := Option.some.inj H); (have p101 : 0 ≤ (x4_1 : Int) := od_); (have q101 : x4_1 < (l0.length : Int) := od_); (obtain ⟨ad101, e101, hx101_0⟩ := Kd.at_int HR0.out x4_1 p101 q101); (cases e101); (replace p101 := eq_true p101); (replace q101 := eq_true q101); (go_wp2); (go_ret); (exact ⟨by first | rfl | (simp; done) | (simp [*]; done), by repeat (first | exact Drawn0.refl _ | apply Drawn0.step)⟩)
          · (rw [if_neg c4] at H); (have c4b0 : decide ((rd l0 x4_1) < 0) = false := decide_eq_false c4); (clear c4); (by_cases c5 : (rd l0 x4_1) > 32)
            · (rw [if_pos c5] at H); (have c5b0 : decide (32 < (rd l0 x4_1)) = true := decide_eq_true c5); (clear c5); (obtain rfl := Option.some.inj H); (have p101 : 0 ≤ (x4_1 : Int) := od_); (have q101 : x4_1 < (l0.length : Int) := od_); (obtain ⟨ad101, e101, hx101_0⟩ := Kd.at_int HR0.out x4_1 p101 q101); (cases e101); (replace p101 := eq_true p101); (replace q101 := eq_true q101); (have p102 : 0 ≤ (x4_1 : Int) := od_); (have q102 : x4_1 < (l0.length : Int) := od_); (obtain ⟨ad102, e102, hx102_0⟩ := Kd.at_int HR0.out x4_1 p102 q102); (obtain rfl : ad101 = ad102 := (by injection e102)); (replace p102 := eq_true p102); (replace q102 := eq_true q102); (go_wp2); (go_ret); (exact ⟨by first | rfl | (simp; done) | (simp [*]; done), by repeat (first | exact Drawn0.refl _ | apply Drawn0.step)⟩)
            · (rw [if_neg c5] at H); (have c5b0 : decide (32 < (rd l0 x4_1)) = false := decide_eq_false c5); (clear c5); (by_cases c6 : x4_1 ≥ 4)
              · (rw [if_pos c6] at H); (have c6b0 : decide (4 ≤ x4_1) = true := decide_eq_true c6); (clear c6); (obtain rfl := Option.some.inj H); (have p101 : 0 ≤ (x4_1 : Int) := od_); (have q101 : x4_1 < (l0.length : Int) := od_); (obtain ⟨ad101, e101, hx101_0⟩ := Kd.at_int HR0.out x4_1 p101 q101); (cases e101); (replace p101 := eq_true p101); (replace q101 := eq_true q101); (have p102 : 0 ≤ (x4_1 : Int) := od_); (have q102 : x4_1 < (l0.length : Int) := od_); (obtain ⟨ad102, e102, hx102_0⟩ := Kd.at_int HR0.out x4_1 p102 q102); (obtain rfl : ad101 = ad102 := (by injection e102)); (replace p102 := eq_true p102); (replace q102 := eq_true q102); (go_wp2); (go_ret); (exact ⟨by first | rfl | (simp; done) | (simp [*]; done), by repeat (first | exact Drawn0.refl _ | apply Drawn0.step)⟩)
              · (rw [if_neg c6] at H); (have c6b0 : decide (4 ≤ x4_1) = false := decide_eq_false c6); (clear c6); (have H' := am_ H); (clear H); (have p101 : 0 ≤ (x4_1 : Int) := od_); (have q101 : x4_1 < (l0.length : Int) := od_); (obtain ⟨ad101, e101, hx101_0⟩ := Kd.at_int HR0.out x4_1 p101 q101); (cases e101); (replace p101 := eq_true p101); (replace q101 := eq_true q101); (have p102 : 0 ≤ (x4_1 : Int) := od_); (have q102 : x4_1 < (l0.length : Int) := od_); (obtain ⟨ad102, e102, hx102_0⟩ := Kd.at_int HR0.out x4_1 p102 q102); (obtain rfl : ad101 = ad102 := (by injection e102)); (replace p102 := eq_true p102); (replace q102 := eq_true q102); (have p103 : 0 ≤ (x4_1 : Int) := od_); (have q103 : x4_1 < (l0.length : Int) := od_); (obtain ⟨ad103, e103, hx103_0⟩ := Kd.at_int HR0.out x4_1 p103 q103); (obtain rfl : ad101 = ad103 := (by injection e103)); (replace p103 := eq_true p103); (replace q103 := eq_true q103); (go_wp2); (go_roundg k1); (case measure => have := HK1.out; omega); (case rel => exact ⟨(wrap64 (x3_1 * (rd l0 x4_1))), (wrap64 (x4_1 + 1)), rs_, rs_, H', ⟨by have := HK1.out; omega⟩, by repeat (first | exact Drawn0.refl _ | apply Drawn0.step)⟩)
        (· (rw [if_neg c3] at H); (exact absurd H (by simp)))
      (· (rw [if_neg c2] at H); (have c2b0 : decide (x4_1 < (l0.length : Int)) = false := decide_eq_false c2); (clear c2); (obtain rfl := Option.some.inj H); (go_wp2); (go_ret); (exact ⟨by first | rfl | (simp; done) | (simp [*]; done), by repeat (first | exact Drawn0.refl _ | apply Drawn0.step)⟩))
/-! ### parquetryref1_Size: function 20 -/
def parquetryref1_Size.l0 : Nat → List Int → Int → Int → Option (Int)
  | 0, _, _, _ => none
  | k + 1, x0, x3, x4 => if x4 < (x0.length : Int) then (if 0 ≤ x4 then (parquetryref1_Size.l0 k x0 (wrap64 (x3 * (rd x0 x4))) (wrap64 (x4 + 1))) else (none)) else (some x3)
def parquetryref1_Size.f (k : Nat) (l0 : List Int) : Option (Int) := (parquetryref1_Right.f k l0).bind fun t104 => (if t104 = true then (parquetryref1_Size.l0 k l0 1 0) else (some 0))
theorem parquetryref1_Size.mono_l : ∀ k, (∀ y0 y1 y2, LeO (parquetryref1_Size.l0 k y0 y1 y2) (parquetryref1_Size.l0 (k + 1) y0 y1 y2))
  | 0 => fun _ _ _ r h => by simp [parquetryref1_Size.l0] at h
  | k + 1 => by
    have ih0 := parquetryref1_Size.mono_l k
    · intro y0 y1 y2
      unfold parquetryref1_Size.l0
      repeat' first | (with_reducible first | exact ih0 _ _ _ | exact parquetryref1_Right.mono _ _ | exact LeO.refl _ | exact LeO.none _ | refine LeO.ite ?_ ?_ | refine LeO.bind ?_ (fun _ => ?_)) | exact ih0 _ _ _ | exact LeO.none _ | refine LeO.ite ?_ ?_ | refine LeO.bind ?_ (fun _ => ?_)
theorem parquetryref1_Size.mono : ∀ a0 k, LeO (parquetryref1_Size.f k a0) (parquetryref1_Size.f (k + 1) a0) := by
  intro a0 k
  have ih0 := parquetryref1_Size.mono_l k
  unfold parquetryref1_Size.f
  repeat' first | (with_reducible first | exact ih0 _ _ _ | exact parquetryref1_Right.mono _ _ | exact LeO.refl _ | exact LeO.none _ | refine LeO.ite ?_ ?_ | refine LeO.bind ?_ (fun _ => ?_)) | exact ih0 _ _ _ | exact LeO.none _ | refine LeO.ite ?_ ?_ | refine LeO.bind ?_ (fun _ => ?_)

set_option maxHeartbeats 8000000 in
set_option maxRecDepth 100000 in
theorem parquetryref1_Size.calls (k : Nat) (A0 : Option Addr) (c0 : Nat) (l0 : List Int) (r : Int) (w : World) (hr0 : Kd.C (Kd.int .i64) w A0 l0.length l0) (hc0 : l0.length ≤ c0) (h : parquetryref1_Size.f k l0 = some r) :
    Calls Try.prog 20 #[.slice A0 l0.length c0] w fun e w' => e = .returned (.int .i64 r) ∧ Drawn0 w w' := by
  (have HR0 := am_ hr0); (have HC0 := am_ hc0); (clear hr0 hc0); (have H : ((parquetryref1_Right.f k l0).bind fun t104 => (if t104 = true then (parquetryref1_Size.l0 k l0 1 0) else (some 0))) = some r := h); (clear h); (replace H := Option.bind_eq_some_iff.mp H); (obtain ⟨t104, A20, H⟩ := H); (replace H : (if t104 = true then (parquetryref1_Size.l0 k l0 1 0) else (some 0)) = some r := H); (have A2 := am_ A20); (clear A20); (by_cases c3 : t104 = true)
  · (subst c3); (have H1 : (parquetryref1_Size.l0 k l0 1 0) = some r := by rw [if_pos rfl] at H; exact H); (clear H); (have H := H1); (clear H1); (have H' := am_ H); (clear H); (go_enter Try.func20, Try.ntmps20); (go_wp2_with (first | ((with_reducible refine gate_callee (f := 33) rfl ?_); refine goesL_ (some 6) rfl rfl Try.func33 kr_ rfl #[.slice A0 l0.length c0] rfl ar_ ?_; (with_reducible refine (parquetryref1_Right.calls k _ _ l0 true _ ?side1 ?side2 A2.out).mono ?_); (case side1 => exact nC_ HR0.out); (case side2 => exact HC0.out); rintro e w' ⟨rfl, ⟨nd, rfl⟩⟩; refine ⟨_, rfl, ?_⟩))); (go_loopg [3, 4] k (fun kq v3 v4 w' => ∃ (x3_1 : Int) (x4_1 : Int), v3 = .int .i64 x3_1 ∧ v4 = .int .i64 x4_1 ∧ Aside0 (parquetryref1_Size.l0 kq l0 x3_1 x4_1 = some r) ∧ Aside0 (kq ≤ k) ∧ Drawn0 w w')); (case atStart => exact ⟨(1), (0), rs_, rs_, H', ⟨Nat.le_refl _⟩, by repeat (first | exact Drawn0.refl _ | apply Drawn0.step)⟩)
    case round =>
      (clear H'); (try clear p2); (obtain ⟨x3_1, x4_1, rfl, rfl, HA, HK1, ⟨m1, rfl⟩⟩ := hrel)
      cases gk with
      | zero => exact absurd HA.out (by simp [parquetryref1_Size.l0])
      | succ k1 =>
        (have H := HA.out); (clear HA); (simp only [parquetryref1_Size.l0] at H); (by_cases c4 : x4_1 < (l0.length : Int))
        · (rw [if_pos c4] at H); (have c4b0 : decide (x4_1 < (l0.length : Int)) = true := decide_eq_true c4); (clear c4); (by_cases c5 : 0 ≤ x4_1)
          · (rw [if_pos c5] at H); (have c5b0 : decide (0 ≤ x4_1) = true := decide_eq_true c5); (clear c5); (have H' := am_ H); (clear H); (have p105 : 0 ≤ (x4_1 : Int) := od_); (have q105 : x4_1 < (l0.length : Int) := od_); (obtain ⟨ad105, e105, hx105_0⟩ := Kd.at_int HR0.out x4_1 p105 q105); (cases e105); (replace p105 := eq_true p105); (replace q105 := eq_true q105); (go_wp2); (go_roundg k1); (case measure => have := HK1.out; omega); (case rel => exact ⟨(wrap64 (x3_1 * (rd l0 x4_1))), (wrap64 (x4_1 + 1)), rs_, rs_, H', ⟨by have := HK1.out; omega⟩, by repeat (first | exact Drawn0.refl _ | apply Drawn0.step)⟩)
          (· (rw [if_neg c5] at H); (exact absurd H (by simp)))
        (· (rw [if_neg c4] at H); (have c4b0 : decide (x4_1 < (l0.length : Int)) = false := decide_eq_false c4); (clear c4); (obtain rfl := Option.some.inj H); (go_wp2); (go_ret); (exact ⟨by first | rfl | (simp; done) | (simp [*]; done), by repeat (first | exact Drawn0.refl _ | apply Drawn0.step)⟩))
  · (replace c3 := Bool.eq_false_iff.mpr c3); (subst c3); (have H1 : (some 0) = some r := by rw [if_neg (show ¬ (false = true) by decide)] at H; exact H); (clear H); (have H := H1); (clear H1); (obtain rfl := Option.some.inj H); (go_enter Try.func20, Try.ntmps20); (go_wp2_with (first | ((with_reducible refine gate_callee (f := 33) rfl ?_); refine goesL_ (some 6) rfl rfl Try.func33 kr_ rfl #[.slice A0 l0.length c0] rfl ar_ ?_; (with_reducible refine (parquetryref1_Right.calls k _ _ l0 false _ ?side1 ?side2 A2.out).mono ?_); (case side1 => exact nC_ HR0.out); (case side2 => exact HC0.out); rintro e w' ⟨rfl, ⟨nd, rfl⟩⟩; refine ⟨_, rfl, ?_⟩))); (go_ret); (exact ⟨by first | rfl | (simp; done) | (simp [*]; done), by repeat (first | exact Drawn0.refl _ | apply Drawn0.step)⟩)
/-! ### parquetryref1_Fill: function 7 -/
def parquetryref1_Fill.l0 : Nat → List Int → Int → Int → List Int → List Int → Option (List Int × List Int)
  | 0, _, _, _, _, _ => none
  | k + 1, x0, x1, x6, x114000, x114001 => (parquetryref1_Size.f k x0).bind fun t114 => (if x6 < t114 then (if x114001.length < 17592186044416 then (parquetryref1_Fill.l0 k x0 x1 (wrap64 (x6 + 1)) x114000 (x114001 ++ [x1])) else (none)) else (some (x114000, x114001)))
def parquetryref1_Fill.f (k : Nat) (l0 : List Int) (a1 : Int) : Option (List Int × List Int) := (some (([] : List Int) : List Int)).bind fun y107 => (if y107.length + l0.length < 17592186044416 then (parquetryref1_Fill.l0 k l0 a1 0 (y107 ++ l0) ([] : List Int)) else (none))
theorem parquetryref1_Fill.mono_l : ∀ k, (∀ y0 y1 y2 y3 y4, LeO (parquetryref1_Fill.l0 k y0 y1 y2 y3 y4) (parquetryref1_Fill.l0 (k + 1) y0 y1 y2 y3 y4))
  | 0 => fun _ _ _ _ _ r h => by simp [parquetryref1_Fill.l0] at h
  | k + 1 => by
    have ih0 := parquetryref1_Fill.mono_l k
    · intro y0 y1 y2 y3 y4
      unfold parquetryref1_Fill.l0
      repeat' first | (with_reducible first | exact ih0 _ _ _ _ _ | exact parquetryref1_Size.mono _ _ | exact LeO.refl _ | exact LeO.none _ | refine LeO.ite ?_ ?_ | refine LeO.bind ?_ (fun _ => ?_)) | exact ih0 _ _ _ _ _ | exact LeO.none _ | refine LeO.ite ?_ ?_ | refine LeO.bind ?_ (fun _ => ?_)
theorem parquetryref1_Fill.mono : ∀ a0 a1 k, LeO (parquetryref1_Fill.f k a0 a1) (parquetryref1_Fill.f (k + 1) a0 a1) := by
  intro a0 a1 k
  have ih0 := parquetryref1_Fill.mono_l k
  unfold parquetryref1_Fill.f
  repeat' first | (with_reducible first | exact ih0 _ _ _ _ _ | exact parquetryref1_Size.mono _ _ | exact LeO.refl _ | exact LeO.none _ | refine LeO.ite ?_ ?_ | refine LeO.bind ?_ (fun _ => ?_)) | exact ih0 _ _ _ _ _ | exact LeO.none _ | refine LeO.ite ?_ ?_ | refine LeO.bind ?_ (fun _ => ?_)

set_option maxHeartbeats 8000000 in
set_option maxRecDepth 100000 in
theorem parquetryref1_Fill.calls (k : Nat) (A0 : Option Addr) (c0 : Nat) (l0 : List Int) (a1 : Int) (r1 : List Int) (r2 : List Int) (w : World) (hr0 : Kd.C (Kd.int .i64) w A0 l0.length l0) (hc0 : l0.length ≤ c0) (h : parquetryref1_Fill.f k l0 a1 = some (r1, r2)) :
    Calls Try.prog 7 #[.slice A0 l0.length c0, .int .i64 a1] w fun e w' => ∃ v0_ v1_ : Value, e = .returned (.agg #[v0_, v1_]) ∧ Kd.R (Kd.int .i64) 3 w' w.heap.size (fun _ => True) v0_ r1 ∧ Kd.R (Kd.int .i64) 2 w' w.heap.size (fun _ => True) v1_ r2 ∧ Below w.heap.size w w' := by
  (have hu26 := Try.underlying26); (have HR0 := am_ hr0); (have HC0 := am_ hc0); (clear hr0 hc0); (have HB := am_ (Below.refl w.heap.size w)); (have H : ((some (([] : List Int) : List Int)).bind fun y107 => (if y107.length + l0.length < 17592186044416 then (parquetryref1_Fill.l0 k l0 a1 0 (y107 ++ l0) ([] : List Int)) else (none))) = some (r1, r2) := h); (clear h); (obtain ⟨y107, hy107⟩ : ∃ y_ : List Int, y_ = (([] : List Int)) := ⟨_, rfl⟩); (replace H : (if y107.length + l0.length < 17592186044416 then (parquetryref1_Fill.l0 k l0 a1 0 (y107 ++ l0) ([] : List Int)) else (none)) = some (r1, r2) := by first | exact bq_ hy107 H | (rw [hy107]; exact H) | exact H); (have Ny107 := am_ hy107); (clear hy107); (by_cases c3 : y107.length + l0.length < 17592186044416)
  · (rw [if_pos c3] at H); (have LMc3 := am_ c3); (clear c3); (obtain ⟨y110, hy110⟩ : ∃ y_ : List Int, y_ = (y107 ++ l0) := ⟨_, rfl⟩); (replace H : (parquetryref1_Fill.l0 k l0 a1 0 y110 ([] : List Int)) = some (r1, r2) := by first | exact bq_ hy110 H | (rw [hy110]; exact H) | exact H); (have Ny110 := am_ hy110); (clear hy110); (have H' := am_ H); (clear H); (go_enter Try.func7, Try.ntmps7); (go_wp2_with (first | ((with_reducible refine gate_dst (N := 4) rfl ?_); refine box_event ?hg (N := 4) ?hd (cs := #[.slice none 0 0, .slice none 0 0]) (t := 26) ?hr ?_; (case hd => rfl); (case hg => rfl); (case hr => first | (go_simp; done) | (go_simp; rfl)); intro gb106 hg w4 hbox hb; have n0_ := am_ (below_step (nB_ HB.out) hb); have n1_ := am_ (hbox); have n2_ := am_ ((by rw [hg]; exact (below_size (nB_ HB.out)) : w.heap.size ≤ gb106)); have n3_ := am_ ((by rw [hg]; exact (below_size (nB_ HB.out)) : w.heap.size ≤ gb106)); clear HB; have HB := n0_; have BK106 := n1_; have GW106 := n2_; have GE106 := n3_; clear n0_ n1_ n2_ n3_; clear hb hbox hg) | ((with_reducible refine gate_dst (N := 7) rfl ?_); refine Kd.R_lit (Kd.int .i64) _ 3 ?hg (N := 7) ?hd (xs := ([] : List Int)) (inner := []) (ok := fun _ => True) (okp := fun _ => True) ?hr ?hp (fun _ hk => hk) trivial (Below.refl _ _) (Nat.le_refl _) (by simp) ?_; (case hd => rfl); (case hg => rfl); (case hr => first | (go_simp; done) | (go_simp; rfl)); (case hp => exact (Reps.none _ _)); intro v108 w5 ho6 hb hg_ hnew_; clear hg_ hnew_; (first | rw [← Ny107.out] at ho6 | (simp only [Int.reduceToNat] at ho6; rw [← Ny107.out] at ho6)); have n0_ := am_ (Kd.R_lower ho6 (below_size (nB1_ HB.out GE106.out))); have n1_ := am_ (bB_ BK106.out hb); have n2_ := am_ (below_step (nB1_ HB.out GE106.out) hb); clear BK106; clear HB; have HO109 := n0_; have BK106 := n1_; have HB := n2_; clear n0_ n1_ n2_; clear hb ho6) | ((with_reducible refine gate_builtin (b := .append) (xs := #[.tmp 7, .tmp 8]) rfl ?_); at_builtin; refine Kd.R_append_rows (Kd.int .i64) (w0 := w) w.heap.size rfl (.tmp 7) (.tmp 8) 22 3 (.int .i64 0) 8 rfl Try.underlying22 info3 rfl (by decide) (by omega) v108 y107 l0 _ _ _ (fun _ => True) (fun _ => False) rfl rfl ?aO ?aR (fun _ _ h => h) (fun _ h => h.elim) ?aF ?aB ?aS ?aL ?_; (case aR => repeat (first | exact (Kd.C_below HR0.out HB.out) | (with_reducible refine Kd.C_alloc ?_ _) | (with_reducible refine Kd.C_drewN ?_ _) | (with_reducible refine Kd.C_drew ?_))); (case aB => exact (nB1_ HB.out GE106.out)); (case aF => exact (fun _ _ => trivial)); (case aO => exact (nR_ HO109.out)); (case aS => exact (below_size (nB1_ HB.out GE106.out))); (case aL => have := LMc3.out; omega); intro v111 w7 ho hb hg hat; rw [← Ny110.out] at ho; have n0_ := am_ (bG_ BK106.out hg (Kd.R_ne HO109.out BK106.out (by decide))); have n1_ := am_ (hb); have n2_ := am_ (ho); clear BK106; clear HB; clear HO109; have BK106 := n0_; have HB := n1_; have HO112 := n2_; clear n0_ n1_ n2_; clear ho hb hg hat; obtain ⟨Ao8, co8, eo8⟩ := Kd.R_slice HO112.out; subst eo8) | ((with_reducible refine gate_dst (N := 5) rfl ?_); refine box_event ?hg (N := 5) ?hd (cs := #[.slice none 0 0, .slice none 0 0]) (t := 26) ?hr ?_; (case hd => rfl); (case hg => rfl); (case hr => first | (go_simp; done) | (go_simp; rfl)); intro gb113 hg w9 hbox hb; have n0_ := am_ (Kd.R_below (nR_ HO112.out) hb); have n1_ := am_ (bB_ BK106.out hb); have n2_ := am_ (below_step (nB1_ HB.out GE106.out) hb); have n3_ := am_ (hbox); have n4_ := am_ ((by rw [hg]; exact (below_size (nB1_ HB.out GE106.out)) : w.heap.size ≤ gb113)); have n5_ := am_ ((by rw [hg]; exact (below_size (nB1_ HB.out GE106.out)) : w.heap.size ≤ gb113)); have n6_ := am_ ((by rw [hg]; exact Nat.ne_of_lt (bL_ BK106.out) : gb106 ≠ gb113)); have n7_ := am_ ((by rw [hg]; exact Nat.ne_of_gt (bL_ BK106.out) : gb113 ≠ gb106)); clear HO112; clear BK106; clear HB; have HO112 := n0_; have BK106 := n1_; have HB := n2_; have BK113 := n3_; have GW113 := n4_; have GE113 := n5_; have NB106_113 := n6_; have NB113_106 := n7_; clear n0_ n1_ n2_ n3_ n4_ n5_ n6_ n7_; clear hb hbox hg; have hnb10 := NB113_106.out; have hnc10 := NB106_113.out; have hcz11_0 := cz0_ BK113; have hcz11_1 := cz1_ BK113; have hfz11_0 := blk_frozen BK113.out 0; have hfz11_1 := blk_frozen BK113.out 1))); (go_loopg [6] k (fun kq v6 w' => ∃ (x6_1 : Int) (x114001_1 : List Int) (u114001 : Value), v6 = .int .i64 x6_1 ∧ Aside0 (parquetryref1_Fill.l0 kq l0 a1 x6_1 y110 x114001_1 = some (r1, r2)) ∧ Aside0 (kq ≤ k) ∧ Aside0 (Kd.R (Kd.int .i64) 3 w' w.heap.size (fun _ => True) (.slice Ao8 y110.length co8) y110) ∧ Aside0 (Kd.R (Kd.int .i64) 2 w' w.heap.size (fun _ => True) u114001 x114001_1) ∧ Aside0 (w'.heap[gb106]? = some (.cells #[(.slice none 0 0), (.slice none 0 0)] 26 (0, 0))) ∧ Aside0 (w'.heap[gb113]? = some (.cells #[(.slice Ao8 y110.length co8), u114001] 26 (0, 0))) ∧ Aside0 (Below w.heap.size w w'))); (case atStart => exact ⟨(0), (([] : List Int)), (.slice none 0 0), rs_, H', ⟨Nat.le_refl _⟩, ⟨by (with_reducible repeat (first | apply Kd.R_alloc | apply Kd.R_drewN | apply Kd.R_drew)); exact Kd.R_mono (Kd.R_far (p := ⟨gb113, 1, none⟩) (Kd.R_far (p := ⟨gb113, 0, none⟩) (Kd.R_types HO112.out BK113.out (by decide)) (fun _ hk => hk.2) (.slice Ao8 y110.length co8)) (fun _ hk => hk.2) (.slice none 0 0)) (fun _ hk => trivial)⟩, ⟨nl_⟩, ⟨nF1_ BK106.out NB106_113.out⟩, ⟨by (with_reducible repeat (first | refine blk_drewN ?_ _ | refine blk_drew ?_ | refine blk_alloc ?_ _)); refine blk_put (cs := #[.slice Ao8 y110.length co8, .slice none 0 0]) ?_ 1 _ rfl; (with_reducible repeat (first | refine blk_drewN ?_ _ | refine blk_drew ?_ | refine blk_alloc ?_ _)); refine blk_put (cs := #[.slice none 0 0, .slice none 0 0]) ?_ 0 _ rfl; (with_reducible repeat (first | refine blk_drewN ?_ _ | refine blk_drew ?_ | refine blk_alloc ?_ _)); exact BK113.out⟩, ⟨nA_ HB.out⟩⟩)
    case round =>
      (clear H'); (try clear p2); (try clear BK106); (try clear BK113); (obtain ⟨x6_1, x114001_1, u114001, rfl, HA, HK1, HO_114000, HO_114001, BK106, BK113, HB⟩ := hrel)
      cases gk with
      | zero => exact absurd HA.out (by simp [parquetryref1_Fill.l0])
      | succ k1 =>
        (have H := HA.out); (clear HA); (simp only [parquetryref1_Fill.l0] at H); (replace H := Option.bind_eq_some_iff.mp H); (obtain ⟨t114, A120, H⟩ := H); (replace H : (if x6_1 < t114 then (if x114001_1.length < 17592186044416 then (parquetryref1_Fill.l0 k1 l0 a1 (wrap64 (x6_1 + 1)) y110 (x114001_1 ++ [a1])) else (none)) else (some (y110, x114001_1))) = some (r1, r2) := H); (have A12 := am_ A120); (clear A120); (by_cases c13 : x6_1 < t114)
        · (rw [if_pos c13] at H); (have c13b0 : decide (x6_1 < t114) = true := decide_eq_true c13); (clear c13); (by_cases c14 : x114001_1.length < 17592186044416)
          · (rw [if_pos c14] at H); (have LMc14 := am_ c14); (clear c14); (obtain ⟨y115, hy115⟩ : ∃ y_ : List Int, y_ = (x114001_1 ++ [a1]) := ⟨_, rfl⟩); (replace H : (parquetryref1_Fill.l0 k1 l0 a1 (wrap64 (x6_1 + 1)) y110 y115) = some (r1, r2) := by first | exact bq_ hy115 H | (rw [hy115]; exact H) | exact H); (have Ny115 := am_ hy115); (clear hy115); (have H' := am_ H); (clear H); (go_wp2_with (first | ((with_reducible refine gate_callee (f := 20) rfl ?_); refine goesL_ (some 13) rfl rfl Try.func20 kr_ rfl #[.slice A0 l0.length c0] rfl ar_ ?_; (with_reducible refine (parquetryref1_Size.calls k1 _ _ l0 t114 _ ?side1 ?side2 A12.out).mono ?_); (case side1 => exact nC_ (Kd.C_below HR0.out HB.out)); (case side2 => exact HC0.out); rintro e w' ⟨rfl, ⟨nd, rfl⟩⟩; refine ⟨_, rfl, ?_⟩; (try ((repeat rw [World.drewN_drewN]); rw [drewN_self wr]; generalize hq_ : World.drewN wr _ = wr; have n0_ : Aside0 (Kd.R (Kd.int .i64) 3 wr w.heap.size (fun _ => True) (.slice Ao8 y110.length co8) y110) := ⟨by rw [← hq_]; exact (nR_ HO_114000.out)⟩; have n1_ : Aside0 (Kd.R (Kd.int .i64) 2 wr w.heap.size (fun _ => True) u114001 x114001_1) := ⟨by rw [← hq_]; exact (nR_ HO_114001.out)⟩; have n2_ : Aside0 (wr.heap[gb106]? = some (.cells #[.slice none 0 0, .slice none 0 0] 26 (0, 0))) := ⟨by rw [← hq_]; exact (nK_ BK106.out)⟩; have n3_ : Aside0 (wr.heap[gb113]? = some (.cells #[.slice Ao8 y110.length co8, u114001] 26 (0, 0))) := ⟨by rw [← hq_]; exact (nK_ BK113.out)⟩; have n4_ : Aside0 (Below w.heap.size w wr) := ⟨by rw [← hq_]; exact (nB2_ HB.out GE106.out GE113.out)⟩; clear HO_114000 HO_114001 BK106 BK113 HB hq_; have HO_114000 := n0_; have HO_114001 := n1_; have BK106 := n2_; have BK113 := n3_; have HB := n4_; clear n0_ n1_ n2_ n3_ n4_)); have hnb15 := NB113_106.out; have hnc15 := NB106_113.out; have hcz16_0 := cz0_ BK113; have hcz16_1 := cz1_ BK113; have hfz16_0 := blk_frozen BK113.out 0; have hfz16_1 := blk_frozen BK113.out 1) | ((with_reducible refine gate_builtin (b := .append) (xs := #[.tmp 18, .tmp 20]) rfl ?_); at_builtin; refine Kd.R_append (Kd.int .i64) (w0 := w) w.heap.size rfl (.tmp 18) (.tmp 20) 24 2 (.int .i64 0) 8 rfl Try.underlying24 info2 rfl (by decide) (by omega) u114001 x114001_1 a1 [.int .i64 a1] (fun _ => True) (fun _ => False) rfl rfl ?aP (fun _ hk => hk.elim) ?aF ?aO ?aB ?aS ?aL ?_; (case aP => exact rfl); (case aB => exact (nB2_ HB.out GE106.out GE113.out)); (case aF => exact (fun _ _ => trivial)); (case aO => exact (nR_ HO_114001.out)); (case aS => exact (below_size (nB2_ HB.out GE106.out GE113.out))); (case aL => have := LMc14.out; omega); intro v116 w17 ho hb hg hat; rw [← Ny115.out] at ho; have n0_ := am_ (Kd.R_over' (nR_ HO_114000.out) (Kd.R_typed (nR_ HO_114001.out)) (by decide) hg); have n1_ := am_ (bG_ BK106.out hg (Kd.R_ne HO_114001.out BK106.out (by decide))); have n2_ := am_ (bG_ BK113.out hg (Kd.R_ne HO_114001.out BK113.out (by decide))); have n3_ := am_ (hb); have n4_ := am_ (ho); clear HO_114000; clear BK106; clear BK113; clear HB; clear HO_114001; have HO_114000 := n0_; have BK106 := n1_; have BK113 := n2_; have HB := n3_; have HO117 := n4_; clear n0_ n1_ n2_ n3_ n4_; clear ho hb hg hat; obtain ⟨Ao18, co18, eo18⟩ := Kd.R_slice HO117.out; subst eo18; have hcz19_0 := cz0_ BK113; have hcz19_1 := cz1_ BK113; have hfz19_0 := blk_frozen BK113.out 0; have hfz19_1 := blk_frozen BK113.out 1))); (go_roundg k1); (case measure => have := HK1.out; omega); (case rel => exact ⟨(wrap64 (x6_1 + 1)), (y115), (.slice Ao18 y115.length co18), rs_, H', ⟨by have := HK1.out; omega⟩, ⟨by (with_reducible repeat (first | apply Kd.R_alloc | apply Kd.R_drewN | apply Kd.R_drew)); exact Kd.R_mono (Kd.R_far (p := ⟨gb113, 1, none⟩) (Kd.R_types HO_114000.out BK113.out (by decide)) (fun _ hk => hk.2) (.slice Ao18 y115.length co18)) (fun _ hk => trivial)⟩, ⟨by (with_reducible repeat (first | apply Kd.R_alloc | apply Kd.R_drewN | apply Kd.R_drew)); exact Kd.R_mono (Kd.R_far (p := ⟨gb113, 1, none⟩) (Kd.R_types HO117.out BK113.out (by decide)) (fun _ hk => hk.2) (.slice Ao18 y115.length co18)) (fun _ hk => trivial)⟩, ⟨nF1_ BK106.out NB106_113.out⟩, ⟨by (with_reducible repeat (first | refine blk_drewN ?_ _ | refine blk_drew ?_ | refine blk_alloc ?_ _)); refine blk_put (cs := #[.slice Ao8 y110.length co8, u114001]) ?_ 1 _ rfl; (with_reducible repeat (first | refine blk_drewN ?_ _ | refine blk_drew ?_ | refine blk_alloc ?_ _)); exact BK113.out⟩, ⟨nA_ HB.out⟩⟩)
          (· (rw [if_neg c14] at H); (exact absurd H (by simp)))
        · (rw [if_neg c13] at H); (have c13b0 : decide (x6_1 < t114) = false := decide_eq_false c13); (clear c13); (simp only [Option.some.injEq, Prod.mk.injEq] at H); (obtain ⟨rfl, rfl⟩ := H); (go_wp2_with (first | ((with_reducible refine gate_callee (f := 20) rfl ?_); refine goesL_ (some 13) rfl rfl Try.func20 kr_ rfl #[.slice A0 l0.length c0] rfl ar_ ?_; (with_reducible refine (parquetryref1_Size.calls k1 _ _ l0 t114 _ ?side1 ?side2 A12.out).mono ?_); (case side1 => exact nC_ (Kd.C_below HR0.out HB.out)); (case side2 => exact HC0.out); rintro e w' ⟨rfl, ⟨nd, rfl⟩⟩; refine ⟨_, rfl, ?_⟩; (try ((repeat rw [World.drewN_drewN]); rw [drewN_self wr]; generalize hq_ : World.drewN wr _ = wr; have n0_ : Aside0 (Kd.R (Kd.int .i64) 3 wr w.heap.size (fun _ => True) (.slice Ao8 y110.length co8) y110) := ⟨by rw [← hq_]; exact (nR_ HO_114000.out)⟩; have n1_ : Aside0 (Kd.R (Kd.int .i64) 2 wr w.heap.size (fun _ => True) u114001 x114001_1) := ⟨by rw [← hq_]; exact (nR_ HO_114001.out)⟩; have n2_ : Aside0 (wr.heap[gb106]? = some (.cells #[.slice none 0 0, .slice none 0 0] 26 (0, 0))) := ⟨by rw [← hq_]; exact (nK_ BK106.out)⟩; have n3_ : Aside0 (wr.heap[gb113]? = some (.cells #[.slice Ao8 y110.length co8, u114001] 26 (0, 0))) := ⟨by rw [← hq_]; exact (nK_ BK113.out)⟩; have n4_ : Aside0 (Below w.heap.size w wr) := ⟨by rw [← hq_]; exact (nB2_ HB.out GE106.out GE113.out)⟩; clear HO_114000 HO_114001 BK106 BK113 HB hq_; have HO_114000 := n0_; have HO_114001 := n1_; have BK106 := n2_; have BK113 := n3_; have HB := n4_; clear n0_ n1_ n2_ n3_ n4_)); have hnb20 := NB113_106.out; have hnc20 := NB106_113.out; have hcz21_0 := cz0_ BK113; have hcz21_1 := cz1_ BK113; have hfz21_0 := blk_frozen BK113.out 0; have hfz21_1 := blk_frozen BK113.out 1; have hcz22_0 := cz0_ BK106; have hcz22_1 := cz1_ BK106; have hfz22_0 := blk_frozen BK106.out 0; have hfz22_1 := blk_frozen BK106.out 1; obtain ⟨Ao23, co23, eo23⟩ := Kd.R_slice HO_114001.out; subst eo23))); (refine bodyPost_ret (results_cell_row rfl _ _ gb106 26 #[.slice Ao8 y110.length co8, .slice Ao23 x114001_1.length co23] (0, 0) _ rfl (by (with_reducible repeat (first | refine blk_drewN ?_ _ | refine blk_drew ?_ | refine blk_alloc ?_ _)); refine blk_put (cs := #[.slice Ao8 y110.length co8, .slice none 0 0]) ?_ 1 _ rfl; (with_reducible repeat (first | refine blk_drewN ?_ _ | refine blk_drew ?_ | refine blk_alloc ?_ _)); refine blk_put (cs := #[.slice none 0 0, .slice none 0 0]) ?_ 0 _ rfl; (with_reducible repeat (first | refine blk_drewN ?_ _ | refine blk_drew ?_ | refine blk_alloc ?_ _)); exact BK106.out) Try.underlying26 rfl (by kernel_rfl)) rfl ?_); (exact ⟨_, _, er_, by (with_reducible repeat (first | apply Kd.R_alloc | apply Kd.R_drewN | apply Kd.R_drew)); exact Kd.R_mono (Kd.R_far (p := ⟨gb106, 1, none⟩) (Kd.R_far (p := ⟨gb106, 0, none⟩) (Kd.R_types HO_114000.out BK106.out (by decide)) (fun _ hk => hk.2) (.slice Ao8 y110.length co8)) (fun _ hk => hk.2) (.slice Ao23 x114001_1.length co23)) (fun _ hk => trivial), by (with_reducible repeat (first | apply Kd.R_alloc | apply Kd.R_drewN | apply Kd.R_drew)); exact Kd.R_mono (Kd.R_far (p := ⟨gb106, 1, none⟩) (Kd.R_far (p := ⟨gb106, 0, none⟩) (Kd.R_types HO_114001.out BK106.out (by decide)) (fun _ hk => hk.2) (.slice Ao8 y110.length co8)) (fun _ hk => hk.2) (.slice Ao23 x114001_1.length co23)) (fun _ hk => trivial), nA_ HB.out⟩)
  (· (rw [if_neg c3] at H); (exact absurd H (by simp)))
/-! ### shape_Right: function 36 -/
def shape_Right.l0 : Nat → Int → List Int → Int → Int → Option (Bool)
  | 0, _, _, _, _ => none
  | k + 1, x3, x9, x10, x11 => if x11 < x10 then (if 0 ≤ x11 then (if x11 < (x9.length : Int) then (if (rd x9 x11) < 0 then (some false) else (if (rd x9 x11) > 32 then (some false) else (shape_Right.l0 k (wrap64 (x3 * (rd x9 x11))) x9 x10 (wrap64 (x11 + 1))))) else (none)) else (none)) else (some (decide (x3 ≤ 4096)))
def shape_Right.f (k : Nat) (l0 : List Int) : Option (Bool) := if (l0.length : Int) > 4 then (some false) else (shape_Right.l0 k 1 l0 (l0.length : Int) 0)
theorem shape_Right.mono_l : ∀ k, (∀ y0 y1 y2 y3, LeO (shape_Right.l0 k y0 y1 y2 y3) (shape_Right.l0 (k + 1) y0 y1 y2 y3))
  | 0 => fun _ _ _ _ r h => by simp [shape_Right.l0] at h
  | k + 1 => by
    have ih0 := shape_Right.mono_l k
    · intro y0 y1 y2 y3
      unfold shape_Right.l0
      repeat' first | (with_reducible first | exact ih0 _ _ _ _ | exact LeO.refl _ | exact LeO.none _ | refine LeO.ite ?_ ?_ | refine LeO.bind ?_ (fun _ => ?_)) | exact ih0 _ _ _ _ | exact LeO.none _ | refine LeO.ite ?_ ?_ | refine LeO.bind ?_ (fun _ => ?_)
theorem shape_Right.mono : ∀ a0 k, LeO (shape_Right.f k a0) (shape_Right.f (k + 1) a0) := by
  intro a0 k
  have ih0 := shape_Right.mono_l k
  unfold shape_Right.f
  repeat' first | (with_reducible first | exact ih0 _ _ _ _ | exact LeO.refl _ | exact LeO.none _ | refine LeO.ite ?_ ?_ | refine LeO.bind ?_ (fun _ => ?_)) | exact ih0 _ _ _ _ | exact LeO.none _ | refine LeO.ite ?_ ?_ | refine LeO.bind ?_ (fun _ => ?_)

set_option maxHeartbeats 8000000 in
set_option maxRecDepth 100000 in
theorem shape_Right.calls (k : Nat) (A0 : Option Addr) (c0 : Nat) (l0 : List Int) (r : Bool) (w : World) (hr0 : Kd.C (Kd.int .i64) w A0 l0.length l0) (hc0 : l0.length ≤ c0) (h : shape_Right.f k l0 = some r) :
    Calls Try.prog 36 #[.slice A0 l0.length c0] w fun e w' => e = .returned (.bool r) ∧ Drawn0 w w' := by
  (have HR0 := am_ hr0); (have HC0 := am_ hc0); (clear hr0 hc0); (have H : (if (l0.length : Int) > 4 then (some false) else (shape_Right.l0 k 1 l0 (l0.length : Int) 0)) = some r := h); (clear h); (by_cases c2 : (l0.length : Int) > 4); (· (rw [if_pos c2] at H); (have c2b0 : decide (4 < (l0.length : Int)) = true := decide_eq_true c2); (have c2b1 : decide (4 < l0.length) = true := decide_eq_true (by omega)); (clear c2); (obtain rfl := Option.some.inj H); (go_enter Try.func36, Try.ntmps36); (go_wp2); (go_ret); (exact ⟨by first | rfl | (simp; done) | (simp [*]; done), by repeat (first | exact Drawn0.refl _ | apply Drawn0.step)⟩))
  · (rw [if_neg c2] at H); (have c2b0 : decide (4 < (l0.length : Int)) = false := decide_eq_false c2); (have c2b1 : decide (4 < l0.length) = false := decide_eq_false (by omega)); (clear c2); (have H' := am_ H); (clear H); (go_enter Try.func36, Try.ntmps36); (go_wp2); (go_loopg [3, 11] k (fun kq v3 v11 w' => ∃ (x3_1 : Int) (x11_1 : Int), v3 = .int .i64 x3_1 ∧ v11 = .int .i64 x11_1 ∧ Aside0 (shape_Right.l0 kq x3_1 l0 (l0.length : Int) x11_1 = some r) ∧ Aside0 (kq ≤ k) ∧ Drawn0 w w')); (case atStart => exact ⟨(1), (0), rs_, rs_, H', ⟨Nat.le_refl _⟩, by repeat (first | exact Drawn0.refl _ | apply Drawn0.step)⟩)
    case round =>
      (clear H'); (try clear p2); (obtain ⟨x3_1, x11_1, rfl, rfl, HA, HK1, ⟨m1, rfl⟩⟩ := hrel)
      cases gk with
      | zero => exact absurd HA.out (by simp [shape_Right.l0])
      | succ k1 =>
        (have H := HA.out); (clear HA); (simp only [shape_Right.l0] at H); (by_cases c3 : x11_1 < (l0.length : Int))
        · (rw [if_pos c3] at H); (have c3b0 : decide (x11_1 < (l0.length : Int)) = true := decide_eq_true c3); (clear c3); (by_cases c4 : 0 ≤ x11_1)
          · (rw [if_pos c4] at H); (have c4b0 : decide (0 ≤ x11_1) = true := decide_eq_true c4); (clear c4); (by_cases c5 : x11_1 < (l0.length : Int))
            · (rw [if_pos c5] at H); (have c5b0 : decide (x11_1 < (l0.length : Int)) = true := decide_eq_true c5); (clear c5); (by_cases c6 : (rd l0 x11_1) < 0)
              · (rw [if_pos c6] at H); (have c6b0 : decide ((rd l0 x11_1) < 0) = true := decide_eq_true c6); (clear c6); (obtain rfl := Option.some.inj H); (have p118 : 0 ≤ (x11_1 : Int) := od_); (have q118 : x11_1 < (l0.length : Int) := od_); (obtain ⟨ad118, e118, hx118_0⟩ := Kd.at_int HR0.out x11_1 p118 q118); (cases e118); (replace p118 := eq_true p118); (replace q118 := eq_true q118); (go_wp2); (go_ret); (exact ⟨by first | rfl | (simp; done) | (simp [*]; done), by repeat (first | exact Drawn0.refl _ | apply Drawn0.step)⟩)
              · (rw [if_neg c6] at H); (have c6b0 : decide ((rd l0 x11_1) < 0) = false := decide_eq_false c6); (clear c6); (by_cases c7 : (rd l0 x11_1) > 32)
                · (rw [if_pos c7] at H); (have c7b0 : decide (32 < (rd l0 x11_1)) = true := decide_eq_true c7); (clear c7); (obtain rfl := Option.some.inj H); (have p118 : 0 ≤ (x11_1 : Int) := od_); (have q118 : x11_1 < (l0.length : Int) := od_); (obtain ⟨ad118, e118, hx118_0⟩ := Kd.at_int HR0.out x11_1 p118 q118); (cases e118); (replace p118 := eq_true p118); (replace q118 := eq_true q118); (go_wp2); (go_ret); (exact ⟨by first | rfl | (simp; done) | (simp [*]; done), by repeat (first | exact Drawn0.refl _ | apply Drawn0.step)⟩)
                · (rw [if_neg c7] at H); (have c7b0 : decide (32 < (rd l0 x11_1)) = false := decide_eq_false c7); (clear c7); (have H' := am_ H); (clear H); (have p118 : 0 ≤ (x11_1 : Int) := od_); (have q118 : x11_1 < (l0.length : Int) := od_); (obtain ⟨ad118, e118, hx118_0⟩ := Kd.at_int HR0.out x11_1 p118 q118); (cases e118); (replace p118 := eq_true p118); (replace q118 := eq_true q118); (go_wp2); (go_roundg k1); (case measure => have := HK1.out; omega); (case rel => exact ⟨(wrap64 (x3_1 * (rd l0 x11_1))), (wrap64 (x11_1 + 1)), rs_, rs_, H', ⟨by have := HK1.out; omega⟩, by repeat (first | exact Drawn0.refl _ | apply Drawn0.step)⟩)
            (· (rw [if_neg c5] at H); (exact absurd H (by simp)))
          (· (rw [if_neg c4] at H); (exact absurd H (by simp)))
        (· (rw [if_neg c3] at H); (have c3b0 : decide (x11_1 < (l0.length : Int)) = false := decide_eq_false c3); (clear c3); (obtain rfl := Option.some.inj H); (go_wp2); (go_ret); (exact ⟨by first | rfl | (simp; done) | (simp [*]; done), by repeat (first | exact Drawn0.refl _ | apply Drawn0.step)⟩))
/-! ### slices_Equal_int_int: function 44 -/
def slices_Equal_int_int.l0 : Nat → List Int → List Int → Int → Int → Option (Bool)
  | 0, _, _, _, _ => none
  | k + 1, x0, x1, x12, x13 => if x13 < x12 then (if 0 ≤ x13 then (if x13 < (x0.length : Int) then (if x13 < (x1.length : Int) then (if (rd x0 x13) = (rd x1 x13) then (slices_Equal_int_int.l0 k x0 x1 x12 (wrap64 (x13 + 1))) else (some false)) else (none)) else (none)) else (none)) else (some true)
def slices_Equal_int_int.f (k : Nat) (l0 : List Int) (l1 : List Int) : Option (Bool) := if (l0.length : Int) = (l1.length : Int) then (slices_Equal_int_int.l0 k l0 l1 (l0.length : Int) 0) else (some false)
theorem slices_Equal_int_int.mono_l : ∀ k, (∀ y0 y1 y2 y3, LeO (slices_Equal_int_int.l0 k y0 y1 y2 y3) (slices_Equal_int_int.l0 (k + 1) y0 y1 y2 y3))
  | 0 => fun _ _ _ _ r h => by simp [slices_Equal_int_int.l0] at h
  | k + 1 => by
    have ih0 := slices_Equal_int_int.mono_l k
    · intro y0 y1 y2 y3
      unfold slices_Equal_int_int.l0
      repeat' first | (with_reducible first | exact ih0 _ _ _ _ | exact LeO.refl _ | exact LeO.none _ | refine LeO.ite ?_ ?_ | refine LeO.bind ?_ (fun _ => ?_)) | exact ih0 _ _ _ _ | exact LeO.none _ | refine LeO.ite ?_ ?_ | refine LeO.bind ?_ (fun _ => ?_)
theorem slices_Equal_int_int.mono : ∀ a0 a1 k, LeO (slices_Equal_int_int.f k a0 a1) (slices_Equal_int_int.f (k + 1) a0 a1) := by
  intro a0 a1 k
  have ih0 := slices_Equal_int_int.mono_l k
  unfold slices_Equal_int_int.f
  repeat' first | (with_reducible first | exact ih0 _ _ _ _ | exact LeO.refl _ | exact LeO.none _ | refine LeO.ite ?_ ?_ | refine LeO.bind ?_ (fun _ => ?_)) | exact ih0 _ _ _ _ | exact LeO.none _ | refine LeO.ite ?_ ?_ | refine LeO.bind ?_ (fun _ => ?_)

set_option maxHeartbeats 8000000 in
set_option maxRecDepth 100000 in
theorem slices_Equal_int_int.calls (k : Nat) (A0 : Option Addr) (c0 : Nat) (l0 : List Int) (A1 : Option Addr) (c1 : Nat) (l1 : List Int) (r : Bool) (w : World) (hr0 : Kd.C (Kd.int .i64) w A0 l0.length l0) (hc0 : l0.length ≤ c0) (hr1 : Kd.C (Kd.int .i64) w A1 l1.length l1) (hc1 : l1.length ≤ c1) (h : slices_Equal_int_int.f k l0 l1 = some r) :
    Calls Try.prog 44 #[.slice A0 l0.length c0, .slice A1 l1.length c1] w fun e w' => e = .returned (.bool r) ∧ Drawn0 w w' := by
  (have HR0 := am_ hr0); (have HC0 := am_ hc0); (clear hr0 hc0); (have HR1 := am_ hr1); (have HC1 := am_ hc1); (clear hr1 hc1); (have H : (if (l0.length : Int) = (l1.length : Int) then (slices_Equal_int_int.l0 k l0 l1 (l0.length : Int) 0) else (some false)) = some r := h); (clear h); (by_cases c3 : (l0.length : Int) = (l1.length : Int))
  · (rw [if_pos c3] at H); (have c3b0 : ((l0.length : Int) == (l1.length : Int)) = true := beq_iff_eq.mpr c3); (have c3b1 : ((l0.length : Int) != (l1.length : Int)) = false := bne_eq_false_iff_eq.mpr c3); (have c3b2 : (l0.length == l1.length) = true := by first | simpa using c3 | (simp at c3 ⊢; omega)); (clear c3); (have H' := am_ H); (clear H); (go_enter Try.func44, Try.ntmps44); (go_wp2); (repeat (go_quiet (fail); try go_wp2)); (go_loopg [13] k (fun kq v13 w' => ∃ (x13_1 : Int), v13 = .int .i64 x13_1 ∧ Aside0 (slices_Equal_int_int.l0 kq l0 l1 (l0.length : Int) x13_1 = some r) ∧ Aside0 (kq ≤ k) ∧ Drawn0 w w')); (case atStart => exact ⟨(0), rs_, H', ⟨Nat.le_refl _⟩, by repeat (first | exact Drawn0.refl _ | apply Drawn0.step)⟩)
    case round =>
      (clear H'); (try clear p2); (obtain ⟨x13_1, rfl, HA, HK1, ⟨m1, rfl⟩⟩ := hrel)
      cases gk with
      | zero => exact absurd HA.out (by simp [slices_Equal_int_int.l0])
      | succ k1 =>
        (have H := HA.out); (clear HA); (simp only [slices_Equal_int_int.l0] at H); (by_cases c4 : x13_1 < (l0.length : Int))
        · (rw [if_pos c4] at H); (have c4b0 : decide (x13_1 < (l0.length : Int)) = true := decide_eq_true c4); (clear c4); (by_cases c5 : 0 ≤ x13_1)
          · (rw [if_pos c5] at H); (have c5b0 : decide (0 ≤ x13_1) = true := decide_eq_true c5); (clear c5); (by_cases c6 : x13_1 < (l0.length : Int))
            · (rw [if_pos c6] at H); (have c6b0 : decide (x13_1 < (l0.length : Int)) = true := decide_eq_true c6); (clear c6); (by_cases c7 : x13_1 < (l1.length : Int))
              · (rw [if_pos c7] at H); (have c7b0 : decide (x13_1 < (l1.length : Int)) = true := decide_eq_true c7); (clear c7); (by_cases c8 : (rd l0 x13_1) = (rd l1 x13_1))
                · (rw [if_pos c8] at H); (have c8b0 : ((rd l0 x13_1) == (rd l1 x13_1)) = true := beq_iff_eq.mpr c8); (have c8b1 : ((rd l0 x13_1) != (rd l1 x13_1)) = false := bne_eq_false_iff_eq.mpr c8); (clear c8); (have H' := am_ H); (clear H); (have p119 : 0 ≤ (x13_1 : Int) := od_); (have q119 : x13_1 < (l0.length : Int) := od_); (obtain ⟨ad119, e119, hx119_0⟩ := Kd.at_int HR0.out x13_1 p119 q119); (cases e119); (replace p119 := eq_true p119); (replace q119 := eq_true q119); (have p120 : 0 ≤ (x13_1 : Int) := od_); (have q120 : x13_1 < (l1.length : Int) := od_); (obtain ⟨ad120, e120, hx120_0⟩ := Kd.at_int HR1.out x13_1 p120 q120); (cases e120); (replace p120 := eq_true p120); (replace q120 := eq_true q120); (go_wp2); (repeat (go_quiet (fail); try go_wp2)); (go_roundg k1); (case measure => have := HK1.out; omega); (case rel => exact ⟨(wrap64 (x13_1 + 1)), rs_, H', ⟨by have := HK1.out; omega⟩, by repeat (first | exact Drawn0.refl _ | apply Drawn0.step)⟩)
                · (rw [if_neg c8] at H); (have c8b0 : ((rd l0 x13_1) == (rd l1 x13_1)) = false := beq_eq_false_iff_ne.mpr c8); (have c8b1 : ((rd l0 x13_1) != (rd l1 x13_1)) = true := bne_iff_ne.mpr c8); (obtain rfl := Option.some.inj H); (have p119 : 0 ≤ (x13_1 : Int) := od_); (have q119 : x13_1 < (l0.length : Int) := od_); (obtain ⟨ad119, e119, hx119_0⟩ := Kd.at_int HR0.out x13_1 p119 q119); (cases e119); (replace p119 := eq_true p119); (replace q119 := eq_true q119); (have p120 : 0 ≤ (x13_1 : Int) := od_); (have q120 : x13_1 < (l1.length : Int) := od_); (obtain ⟨ad120, e120, hx120_0⟩ := Kd.at_int HR1.out x13_1 p120 q120); (cases e120); (replace p120 := eq_true p120); (replace q120 := eq_true q120); (go_wp2); (repeat (go_quiet (fail); try go_wp2)); (go_ret); (exact ⟨by first | rfl | (simp; done) | (simp [*]; done), by repeat (first | exact Drawn0.refl _ | apply Drawn0.step)⟩)
              (· (rw [if_neg c7] at H); (exact absurd H (by simp)))
            (· (rw [if_neg c6] at H); (exact absurd H (by simp)))
          (· (rw [if_neg c5] at H); (exact absurd H (by simp)))
        (· (rw [if_neg c4] at H); (have c4b0 : decide (x13_1 < (l0.length : Int)) = false := decide_eq_false c4); (clear c4); (obtain rfl := Option.some.inj H); (go_wp2); (repeat (go_quiet (fail); try go_wp2)); (go_ret); (exact ⟨by first | rfl | (simp; done) | (simp [*]; done), by repeat (first | exact Drawn0.refl _ | apply Drawn0.step)⟩))
  (· (rw [if_neg c3] at H); (have c3b0 : ((l0.length : Int) == (l1.length : Int)) = false := beq_eq_false_iff_ne.mpr c3); (have c3b1 : ((l0.length : Int) != (l1.length : Int)) = true := bne_iff_ne.mpr c3); (have c3b2 : (l0.length == l1.length) = false := by first | simpa using c3 | (simp at c3 ⊢; omega)); (obtain rfl := Option.some.inj H); (go_enter Try.func44, Try.ntmps44); (go_wp2); (repeat (go_quiet (fail); try go_wp2)); (go_ret); (exact ⟨by first | rfl | (simp; done) | (simp [*]; done), by repeat (first | exact Drawn0.refl _ | apply Drawn0.step)⟩))
/-! ### shape_Same: function 37 -/
def shape_Same.f (k : Nat) (l0 : List Int) (l1 : List Int) : Option (Bool) := (slices_Equal_int_int.f k l0 l1).bind fun t121 => (some t121)
theorem shape_Same.mono : ∀ a0 a1 k, LeO (shape_Same.f k a0 a1) (shape_Same.f (k + 1) a0 a1) := by
  intro a0 a1 k
  unfold shape_Same.f
  repeat' first
      | (with_reducible exact slices_Equal_int_int.mono _ _ _)
      | (with_reducible exact LeO.refl _)
      | (with_reducible exact LeO.none _)
      | (with_reducible refine LeO.ite ?_ ?_)
      | (with_reducible refine LeO.bind ?_ (fun _ => ?_))
      | exact slices_Equal_int_int.mono _ _ _
      | exact LeO.none _
      | refine LeO.ite ?_ ?_
      | refine LeO.bind ?_ (fun _ => ?_)
set_option maxHeartbeats 8000000 in
set_option maxRecDepth 100000 in
theorem shape_Same.calls (k : Nat) (A0 : Option Addr) (c0 : Nat) (l0 : List Int) (A1 : Option Addr) (c1 : Nat) (l1 : List Int) (r : Bool) (w : World) (hr0 : Kd.C (Kd.int .i64) w A0 l0.length l0) (hc0 : l0.length ≤ c0) (hr1 : Kd.C (Kd.int .i64) w A1 l1.length l1) (hc1 : l1.length ≤ c1) (h : shape_Same.f k l0 l1 = some r) :
    Calls Try.prog 37 #[.slice A0 l0.length c0, .slice A1 l1.length c1] w fun e w' => e = .returned (.bool r) ∧ Drawn0 w w' := by
  have HR0 := am_ hr0
  have HC0 := am_ hc0
  clear hr0 hc0
  have HR1 := am_ hr1
  have HC1 := am_ hc1
  clear hr1 hc1
  have H : ((slices_Equal_int_int.f k l0 l1).bind fun t121 => (some t121)) = some r := h
  clear h
  replace H := Option.bind_eq_some_iff.mp H
  obtain ⟨t121, A30, H⟩ := H
  replace H : (some t121) = some r := H
  have A3 := am_ A30
  clear A30
  obtain rfl := Option.some.inj H
  go_enter Try.func37, Try.ntmps37
  go_wp2_with (first | ((with_reducible refine gate_callee (f := 44) rfl ?_); refine goesL_ (some 7) rfl rfl Try.func44 kr_ rfl #[.slice A0 l0.length c0, .slice A1 l1.length c1] rfl ar_ ?_; (with_reducible refine (slices_Equal_int_int.calls k _ _ l0 _ _ l1 t121 _ ?side1 ?side2 ?side3 ?side4 A3.out).mono ?_); (case side1 => repeat (first | exact HR0.out | (with_reducible refine Kd.C_alloc ?_ _) | (with_reducible refine Kd.C_drewN ?_ _) | (with_reducible refine Kd.C_drew ?_))); (case side2 => exact HC0.out); (case side3 => repeat (first | exact HR1.out | (with_reducible refine Kd.C_alloc ?_ _) | (with_reducible refine Kd.C_drewN ?_ _) | (with_reducible refine Kd.C_drew ?_))); (case side4 => exact HC1.out); rintro e w' ⟨rfl, ⟨nd, rfl⟩⟩; refine ⟨_, rfl, ?_⟩))
  go_ret
  exact ⟨by first | rfl | (simp; done) | (simp [*]; done), by repeat (first | exact Drawn0.refl _ | apply Drawn0.step)⟩

end Go.Proofs.Ytapoeleiicnlbaa.Q
