-- Printed by a program (a variant of the kit print, with contracts of our own).
import Derived.Test.YtjofogblgjhcfaaQx0
namespace Go.Proofs.Ytjofogblgjhcfaa.Q
open Go.RowKit Go.Proofs.YtjofogblgjhcfaaW.PrintWords Go.Proofs.YtjofogblgjhcfaaW.PrintLast Go.Proofs.YtjofogblgjhcfaaW.PrintMore
attribute [local go_sem] max2_int min2_int max_two min_two max_three min_three max_four min_four   -- for this text's walks alone
set_option linter.unusedVariables false
set_option linter.unusedSimpArgs false

/-! ### parquetrybook_Within: function 9 -/
def parquetrybook_Within.j0 : Nat → Int → Int → Int → Bool → Option (Int)
  | 0, _, _, _, _ => none
  | k + 1, x0, x1, x2, x14 => if x14 = true then (some x0) else (if (wrap64 ((wrap64 (x2 - x1)) + 1)) = 0 then (none) else (if (Int.tmod x0 (wrap64 ((wrap64 (x2 - x1)) + 1))) < 0 then (some (wrap64 (x1 + (wrap64 ((wrap64 ((wrap64 ((Int.tmod x0 (wrap64 ((wrap64 (x2 - x1)) + 1))) + x2)) - x1)) + 1))))) else (some (wrap64 (x1 + (Int.tmod x0 (wrap64 ((wrap64 (x2 - x1)) + 1))))))))
def parquetrybook_Within.f (k : Nat) (a0 : Int) (a1 : Int) (a2 : Int) : Option (Int) := if a0 ≥ a1 then (parquetrybook_Within.j0 k a0 a1 a2 (decide (a0 ≤ a2))) else (parquetrybook_Within.j0 k a0 a1 a2 false)
theorem parquetrybook_Within.mono_l : ∀ k, (∀ y0 y1 y2 y3, LeO (parquetrybook_Within.j0 k y0 y1 y2 y3) (parquetrybook_Within.j0 (k + 1) y0 y1 y2 y3))
  | 0 => fun _ _ _ _ r h => by simp [parquetrybook_Within.j0] at h
  | k + 1 => by
    have ih0 := parquetrybook_Within.mono_l k
    · intro y0 y1 y2 y3
      unfold parquetrybook_Within.j0
      repeat' first | (with_reducible first | exact ih0 _ _ _ _ | exact LeO.refl _ | exact LeO.none _ | refine LeO.ite ?_ ?_ | refine LeO.bind ?_ (fun _ => ?_)) | exact ih0 _ _ _ _ | exact LeO.none _ | refine LeO.ite ?_ ?_ | refine LeO.bind ?_ (fun _ => ?_)
theorem parquetrybook_Within.mono : ∀ a0 a1 a2 k, LeO (parquetrybook_Within.f k a0 a1 a2) (parquetrybook_Within.f (k + 1) a0 a1 a2) := by
  intro a0 a1 a2 k
  have ih0 := parquetrybook_Within.mono_l k
  unfold parquetrybook_Within.f
  repeat' first | (with_reducible first | exact ih0 _ _ _ _ | exact LeO.refl _ | exact LeO.none _ | refine LeO.ite ?_ ?_ | refine LeO.bind ?_ (fun _ => ?_)) | exact ih0 _ _ _ _ | exact LeO.none _ | refine LeO.ite ?_ ?_ | refine LeO.bind ?_ (fun _ => ?_)

set_option maxHeartbeats 8000000 in
set_option maxRecDepth 100000 in
theorem parquetrybook_Within.calls (k : Nat) (a0 : Int) (a1 : Int) (a2 : Int) (r : Int) (w : World) (h : parquetrybook_Within.f k a0 a1 a2 = some r) :
    Calls Try.prog 9 #[.int .i64 a0, .int .i64 a1, .int .i64 a2] w fun e w' => e = .returned (.int .i64 r) ∧ Drawn0 w w' := by
  (have H : (if a0 ≥ a1 then (parquetrybook_Within.j0 k a0 a1 a2 (decide (a0 ≤ a2))) else (parquetrybook_Within.j0 k a0 a1 a2 false)) = some r := h); (clear h); (have HC4 := Aside0.mk H); (clear H); (go_enter Try.func9, Try.ntmps9); (go_upto_region 1 with (fail)); (go_cut [14] (fun v14 wc => ∃ (kq : Nat) (x14_3 : Bool), v14 = .bool x14_3 ∧ Aside0 (parquetrybook_Within.j0 kq a0 a1 a2 x14_3 = some r) ∧ Aside0 (kq ≤ k) ∧ Drawn0 w wc))
  case first =>
    (have H := HC4.out); (clear HC4); (by_cases c5 : a0 ≥ a1); (· (rw [if_pos c5] at H); (have c5b0 : decide (a1 ≤ a0) = true := decide_eq_true c5); (clear c5); ((first | rw [c5b0] | (simp only [i64_w, i32_w]; rw [c5b0]) | skip)); (have H' := Aside0.mk H); (clear H); (go_wp2); (go_meet); (case rel => exact ⟨_, (decide (a0 ≤ a2)), (by first | rfl | (simp; done) | (simp [*]; done)), H', ⟨by first | omega | exact Nat.le_refl _⟩, by repeat (first | exact Drawn0.refl _ | apply Drawn0.step)⟩)); (· (rw [if_neg c5] at H); (have c5b0 : decide (a1 ≤ a0) = false := decide_eq_false c5); (clear c5); ((first | rw [c5b0] | (simp only [i64_w, i32_w]; rw [c5b0]) | skip)); (have H' := Aside0.mk H); (clear H); (go_wp2); (go_meet); (case rel => exact ⟨_, (false), (by first | rfl | (simp; done) | (simp [*]; done)), H', ⟨by first | omega | exact Nat.le_refl _⟩, by repeat (first | exact Drawn0.refl _ | apply Drawn0.step)⟩))
  case rest =>
    (clear HC4); (try clear p2); (try clear c5); (try clear c5b0); (obtain ⟨kq, x14_3, rfl, HA, HJ3, ⟨mc3, rfl⟩⟩ := hcut)
    cases kq with
    | zero => exact absurd HA.out (by simp [parquetrybook_Within.j0])
    | succ kj3 =>
      (have H := HA.out); (clear HA); (simp only [parquetrybook_Within.j0] at H); (by_cases c6 : x14_3 = true); (· (subst c6); (have H1 : (some a0) = some r := by rw [if_pos rfl] at H; exact H); (clear H); (have H := H1); (clear H1); (obtain rfl := Option.some.inj H); (go_wp2); (go_ret); (exact ⟨by first | rfl | (simp; done) | (simp [*]; done), by repeat (first | exact Drawn0.refl _ | apply Drawn0.step)⟩))
      · (replace c6 := Bool.eq_false_iff.mpr c6); (subst c6); (have H1 : (if (wrap64 ((wrap64 (a2 - a1)) + 1)) = 0 then (none) else (if (Int.tmod a0 (wrap64 ((wrap64 (a2 - a1)) + 1))) < 0 then (some (wrap64 (a1 + (wrap64 ((wrap64 ((wrap64 ((Int.tmod a0 (wrap64 ((wrap64 (a2 - a1)) + 1))) + a2)) - a1)) + 1))))) else (some (wrap64 (a1 + (Int.tmod a0 (wrap64 ((wrap64 (a2 - a1)) + 1)))))))) = some r := by rw [if_neg (show ¬ (false = true) by decide)] at H; exact H); (clear H); (have H := H1); (clear H1); (by_cases c7 : (wrap64 ((wrap64 (a2 - a1)) + 1)) = 0); (· (rw [if_pos c7] at H); (exact absurd H (by simp)))
        · (rw [if_neg c7] at H); (have c7b0 : ((wrap64 ((wrap64 (a2 - a1)) + 1)) == 0) = false := beq_eq_false_iff_ne.mpr c7); (have c7b1 : ((wrap64 ((wrap64 (a2 - a1)) + 1)) != 0) = true := bne_iff_ne.mpr c7); (by_cases c8 : (Int.tmod a0 (wrap64 ((wrap64 (a2 - a1)) + 1))) < 0); (· (rw [if_pos c8] at H); (have c8b0 : decide ((Int.tmod a0 (wrap64 ((wrap64 (a2 - a1)) + 1))) < 0) = true := decide_eq_true c8); (clear c8); (obtain rfl := Option.some.inj H); (go_wp2); (go_ret); (exact ⟨by first | rfl | (simp; done) | (simp [*]; done), by repeat (first | exact Drawn0.refl _ | apply Drawn0.step)⟩)); (· (rw [if_neg c8] at H); (have c8b0 : decide ((Int.tmod a0 (wrap64 ((wrap64 (a2 - a1)) + 1))) < 0) = false := decide_eq_false c8); (clear c8); (obtain rfl := Option.some.inj H); (go_wp2); (go_ret); (exact ⟨by first | rfl | (simp; done) | (simp [*]; done), by repeat (first | exact Drawn0.refl _ | apply Drawn0.step)⟩))
end Go.Proofs.Ytjofogblgjhcfaa.Q
