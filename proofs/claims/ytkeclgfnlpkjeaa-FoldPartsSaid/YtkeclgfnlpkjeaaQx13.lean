-- Printed by a program (a variant of the kit print, with contracts of our own).
import Derived.Test.YtkeclgfnlpkjeaaQx0
import Derived.Test.YtkeclgfnlpkjeaaQx10
import Derived.Test.YtkeclgfnlpkjeaaQx11
namespace Go.Proofs.Ytkeclgfnlpkjeaa.Q
open Go.RowKit Go.Proofs.YtkeclgfnlpkjeaaW.PrintWords Go.Proofs.YtkeclgfnlpkjeaaW.PrintLast Go.Proofs.YtkeclgfnlpkjeaaW.PrintMore
attribute [local go_sem] max2_int min2_int max_two min_two max_three min_three max_four min_four   -- for this text's walks alone
set_option linter.unusedVariables false
set_option linter.unusedSimpArgs false

/-! ### fold_Step: function 39 -/
def fold_Step.f (a0 : Int) (a1 : Int) (a2 : Int) : Option (Int) := if a0 = 1 then (some (wrap64 (a1 + a2))) else (if a0 = 2 then (some (wrap64 (a1 * a2))) else (if a0 = 3 then (some (mn a1 a2)) else (if a0 = 4 then (some (mx a1 a2)) else (some 0))))
set_option maxHeartbeats 8000000 in
set_option maxRecDepth 100000 in
theorem fold_Step.calls (a0 : Int) (a1 : Int) (a2 : Int) (r : Int) (w : World) (h : fold_Step.f a0 a1 a2 = some r) :
    Calls Try.prog 39 #[.int .i64 a0, .int .i64 a1, .int .i64 a2] w fun e w' => e = .returned (.int .i64 r) ∧ Below w.heap.size w w' := by
  have HB := Aside0.mk (Below.refl w.heap.size w)
  have H : (if a0 = 1 then (some (wrap64 (a1 + a2))) else (if a0 = 2 then (some (wrap64 (a1 * a2))) else (if a0 = 3 then (some (mn a1 a2)) else (if a0 = 4 then (some (mx a1 a2)) else (some 0))))) = some r := h
  clear h
  by_cases c4 : a0 = 1
  · rw [if_pos c4] at H
    have c4b0 : (a0 == 1) = true := beq_iff_eq.mpr c4
    have c4b1 : (a0 != 1) = false := bne_eq_false_iff_eq.mpr c4
    clear c4
    obtain rfl := Option.some.inj H
    go_enter Try.func39, Try.ntmps39
    go_wp2
    go_ret
    exact ⟨by first | rfl | (simp [errW_none, errW_some] <;> rfl) | (simp [*, errW_none, errW_some] <;> rfl), by repeat (first | (with_reducible first | exact HB.out | apply below_alloc | apply pw_below_drewN | apply below_drew1) | exact HB.out)⟩
  · rw [if_neg c4] at H
    have c4b0 : (a0 == 1) = false := beq_eq_false_iff_ne.mpr c4
    have c4b1 : (a0 != 1) = true := bne_iff_ne.mpr c4
    by_cases c5 : a0 = 2
    · rw [if_pos c5] at H
      have c5b0 : (a0 == 2) = true := beq_iff_eq.mpr c5
      have c5b1 : (a0 != 2) = false := bne_eq_false_iff_eq.mpr c5
      clear c5
      obtain rfl := Option.some.inj H
      go_enter Try.func39, Try.ntmps39
      go_wp2
      go_ret
      exact ⟨by first | rfl | (simp [errW_none, errW_some] <;> rfl) | (simp [*, errW_none, errW_some] <;> rfl), by repeat (first | (with_reducible first | exact HB.out | apply below_alloc | apply pw_below_drewN | apply below_drew1) | exact HB.out)⟩
    · rw [if_neg c5] at H
      have c5b0 : (a0 == 2) = false := beq_eq_false_iff_ne.mpr c5
      have c5b1 : (a0 != 2) = true := bne_iff_ne.mpr c5
      by_cases c6 : a0 = 3
      · rw [if_pos c6] at H
        have c6b0 : (a0 == 3) = true := beq_iff_eq.mpr c6
        have c6b1 : (a0 != 3) = false := bne_eq_false_iff_eq.mpr c6
        clear c6
        obtain ⟨ji7, hji7⟩ : ∃ j_ : Int, (mn a1 a2) = j_ := ⟨_, rfl⟩
        replace H : (some ji7) = some r := by first | (rw [hji7] at H; exact H) | (simp only [hji7] at H ⊢; exact H)
        have hji7_ : (if a2 < a1 then a2 else a1) = ji7 := hji7
        obtain rfl := Option.some.inj H
        go_enter Try.func39, Try.ntmps39
        go_wp2
        go_ret
        exact ⟨by first | rfl | (simp [errW_none, errW_some] <;> rfl) | (simp only [← hji7]; first | rfl | (simp [errW_none, errW_some] <;> rfl)) | (simp [*, errW_none, errW_some] <;> rfl), by repeat (first | (with_reducible first | exact HB.out | apply below_alloc | apply pw_below_drewN | apply below_drew1) | exact HB.out)⟩
      · rw [if_neg c6] at H
        have c6b0 : (a0 == 3) = false := beq_eq_false_iff_ne.mpr c6
        have c6b1 : (a0 != 3) = true := bne_iff_ne.mpr c6
        by_cases c8 : a0 = 4
        · rw [if_pos c8] at H
          have c8b0 : (a0 == 4) = true := beq_iff_eq.mpr c8
          have c8b1 : (a0 != 4) = false := bne_eq_false_iff_eq.mpr c8
          clear c8
          obtain ⟨ji9, hji9⟩ : ∃ j_ : Int, (mx a1 a2) = j_ := ⟨_, rfl⟩
          replace H : (some ji9) = some r := by first | (rw [hji9] at H; exact H) | (simp only [hji9] at H ⊢; exact H)
          have hji9_ : (if a1 < a2 then a2 else a1) = ji9 := hji9
          obtain rfl := Option.some.inj H
          go_enter Try.func39, Try.ntmps39
          go_wp2
          go_ret
          exact ⟨by first | rfl | (simp [errW_none, errW_some] <;> rfl) | (simp only [← hji9]; first | rfl | (simp [errW_none, errW_some] <;> rfl)) | (simp [*, errW_none, errW_some] <;> rfl), by repeat (first | (with_reducible first | exact HB.out | apply below_alloc | apply pw_below_drewN | apply below_drew1) | exact HB.out)⟩
        · rw [if_neg c8] at H
          have c8b0 : (a0 == 4) = false := beq_eq_false_iff_ne.mpr c8
          have c8b1 : (a0 != 4) = true := bne_iff_ne.mpr c8
          obtain rfl := Option.some.inj H
          go_enter Try.func39, Try.ntmps39
          go_wp2
          go_ret
          exact ⟨by first | rfl | (simp [errW_none, errW_some] <;> rfl) | (simp [*, errW_none, errW_some] <;> rfl), by repeat (first | (with_reducible first | exact HB.out | apply below_alloc | apply pw_below_drewN | apply below_drew1) | exact HB.out)⟩

/-! ### fold_None: function 44 -/
def fold_None.f (a0 : Int) : Option (Int) := if a0 = 2 then (some 1) else (if a0 = 3 then (some 9223372036854775807) else (if a0 = 4 then (some (-9223372036854775808)) else (some 0)))
set_option maxHeartbeats 8000000 in
set_option maxRecDepth 100000 in
theorem fold_None.calls (a0 : Int) (r : Int) (w : World) (h : fold_None.f a0 = some r) :
    Calls Try.prog 44 #[.int .i64 a0] w fun e w' => e = .returned (.int .i64 r) ∧ Drawn0 w w' := by
  have H : (if a0 = 2 then (some 1) else (if a0 = 3 then (some 9223372036854775807) else (if a0 = 4 then (some (-9223372036854775808)) else (some 0)))) = some r := h
  clear h
  by_cases c2 : a0 = 2
  · rw [if_pos c2] at H
    have c2b0 : (a0 == 2) = true := beq_iff_eq.mpr c2
    have c2b1 : (a0 != 2) = false := bne_eq_false_iff_eq.mpr c2
    clear c2
    obtain rfl := Option.some.inj H
    go_enter Try.func44, Try.ntmps44
    go_wp2
    go_ret
    exact ⟨by first | rfl | (simp; done) | (simp [*]; done), by repeat (first | exact Drawn0.refl _ | apply Drawn0.step)⟩
  · rw [if_neg c2] at H
    have c2b0 : (a0 == 2) = false := beq_eq_false_iff_ne.mpr c2
    have c2b1 : (a0 != 2) = true := bne_iff_ne.mpr c2
    by_cases c3 : a0 = 3
    · rw [if_pos c3] at H
      have c3b0 : (a0 == 3) = true := beq_iff_eq.mpr c3
      have c3b1 : (a0 != 3) = false := bne_eq_false_iff_eq.mpr c3
      clear c3
      obtain rfl := Option.some.inj H
      go_enter Try.func44, Try.ntmps44
      go_wp2
      go_ret
      exact ⟨by first | rfl | (simp; done) | (simp [*]; done), by repeat (first | exact Drawn0.refl _ | apply Drawn0.step)⟩
    · rw [if_neg c3] at H
      have c3b0 : (a0 == 3) = false := beq_eq_false_iff_ne.mpr c3
      have c3b1 : (a0 != 3) = true := bne_iff_ne.mpr c3
      by_cases c4 : a0 = 4
      · rw [if_pos c4] at H
        have c4b0 : (a0 == 4) = true := beq_iff_eq.mpr c4
        have c4b1 : (a0 != 4) = false := bne_eq_false_iff_eq.mpr c4
        clear c4
        obtain rfl := Option.some.inj H
        go_enter Try.func44, Try.ntmps44
        go_wp2
        go_ret
        exact ⟨by first | rfl | (simp; done) | (simp [*]; done), by repeat (first | exact Drawn0.refl _ | apply Drawn0.step)⟩
      · rw [if_neg c4] at H
        have c4b0 : (a0 == 4) = false := beq_eq_false_iff_ne.mpr c4
        have c4b1 : (a0 != 4) = true := bne_iff_ne.mpr c4
        obtain rfl := Option.some.inj H
        go_enter Try.func44, Try.ntmps44
        go_wp2
        go_ret
        exact ⟨by first | rfl | (simp; done) | (simp [*]; done), by repeat (first | exact Drawn0.refl _ | apply Drawn0.step)⟩

/-! ### shape_Index: function 82 -/
mutual
def shape_Index.j0 : Nat → List Int → List Int → Bool → Option (Int)
  | 0, _, _, _ => none
  | k + 1, x0, x1, x17 => if x17 = true then (some (-1)) else (shape_Index.l0 k x0 0 x1 (x1.length : Int) 0)
def shape_Index.l0 : Nat → List Int → Int → List Int → Int → Int → Option (Int)
  | 0, _, _, _, _, _ => none
  | k + 1, x0, x5, x18, x19, x20 => if x20 < x19 then (if 0 ≤ x20 then (if x20 < (x18.length : Int) then (if (rd x18 x20) < 0 then (some (-1)) else (if x20 < (x0.length : Int) then (if (rd x18 x20) ≥ (rd x0 x20) then (some (-1)) else (shape_Index.l0 k x0 (wrap64 ((wrap64 (x5 * (rd x0 x20))) + (rd x18 x20))) x18 x19 (wrap64 (x20 + 1)))) else (none))) else (none)) else (none)) else (some x5)
end
def shape_Index.f (k : Nat) (l0 : List Int) (l1 : List Int) : Option (Int) := (shape_Right.f k l0).bind fun t368 => (if t368 = true then (shape_Index.j0 k l0 l1 ((l1.length : Int) != (l0.length : Int))) else (shape_Index.j0 k l0 l1 true))
theorem shape_Index.mono_l : ∀ k, (∀ y0 y1 y2, LeO (shape_Index.j0 k y0 y1 y2) (shape_Index.j0 (k + 1) y0 y1 y2)) ∧ (∀ y0 y1 y2 y3 y4, LeO (shape_Index.l0 k y0 y1 y2 y3 y4) (shape_Index.l0 (k + 1) y0 y1 y2 y3 y4))
  | 0 => ⟨fun _ _ _ r h => by simp [shape_Index.j0] at h, fun _ _ _ _ _ r h => by simp [shape_Index.l0] at h⟩
  | k + 1 => by
    obtain ⟨ih0, ih1⟩ := shape_Index.mono_l k
    refine ⟨?_, ?_⟩
    · intro y0 y1 y2
      unfold shape_Index.j0
      repeat' first | (with_reducible first | exact ih0 _ _ _ | exact ih1 _ _ _ _ _ | exact shape_Right.mono _ _ | exact LeO.refl _ | exact LeO.none _ | refine LeO.ite ?_ ?_ | refine LeO.bind ?_ (fun _ => ?_)) | exact ih0 _ _ _ | exact ih1 _ _ _ _ _ | exact LeO.none _ | refine LeO.ite ?_ ?_ | refine LeO.bind ?_ (fun _ => ?_)
    · intro y0 y1 y2 y3 y4
      unfold shape_Index.l0
      repeat' first | (with_reducible first | exact ih0 _ _ _ | exact ih1 _ _ _ _ _ | exact shape_Right.mono _ _ | exact LeO.refl _ | exact LeO.none _ | refine LeO.ite ?_ ?_ | refine LeO.bind ?_ (fun _ => ?_)) | exact ih0 _ _ _ | exact ih1 _ _ _ _ _ | exact LeO.none _ | refine LeO.ite ?_ ?_ | refine LeO.bind ?_ (fun _ => ?_)
theorem shape_Index.mono : ∀ a0 a1 k, LeO (shape_Index.f k a0 a1) (shape_Index.f (k + 1) a0 a1) := by
  intro a0 a1 k
  obtain ⟨ih0, ih1⟩ := shape_Index.mono_l k
  unfold shape_Index.f
  repeat' first | (with_reducible first | exact ih0 _ _ _ | exact ih1 _ _ _ _ _ | exact shape_Right.mono _ _ | exact LeO.refl _ | exact LeO.none _ | refine LeO.ite ?_ ?_ | refine LeO.bind ?_ (fun _ => ?_)) | exact ih0 _ _ _ | exact ih1 _ _ _ _ _ | exact LeO.none _ | refine LeO.ite ?_ ?_ | refine LeO.bind ?_ (fun _ => ?_)

set_option maxHeartbeats 8000000 in
set_option maxRecDepth 100000 in
theorem shape_Index.calls (k : Nat) (A0 : Option Addr) (c0 : Nat) (l0 : List Int) (A1 : Option Addr) (c1 : Nat) (l1 : List Int) (r : Int) (w : World) (hr0 : Kd.C (Kd.int .i64) w A0 l0.length l0) (hc0 : l0.length ≤ c0) (hr1 : Kd.C (Kd.int .i64) w A1 l1.length l1) (hc1 : l1.length ≤ c1) (h : shape_Index.f k l0 l1 = some r) :
    Calls Try.prog 82 #[.slice A0 l0.length c0, .slice A1 l1.length c1] w fun e w' => e = .returned (.int .i64 r) ∧ Drawn0 w w' := by
  (have HR0 := Aside0.mk hr0); (have HC0 := Aside0.mk hc0); (clear hr0 hc0); (have HR1 := Aside0.mk hr1); (have HC1 := Aside0.mk hc1); (clear hr1 hc1); (have H : ((shape_Right.f k l0).bind fun t368 => (if t368 = true then (shape_Index.j0 k l0 l1 ((l1.length : Int) != (l0.length : Int))) else (shape_Index.j0 k l0 l1 true))) = some r := h); (clear h); (have HC3 := Aside0.mk H); (clear H); (go_enter Try.func82, Try.ntmps82); (go_upto_region 1 with (fail)); (go_cut [17] (fun v17 wc => ∃ (kq : Nat) (x17_2 : Bool), v17 = .bool x17_2 ∧ Aside0 (shape_Index.j0 kq l0 l1 x17_2 = some r) ∧ Aside0 (kq ≤ k) ∧ Drawn0 w wc))
  case first =>
    (have H := HC3.out); (clear HC3); (replace H := Option.bind_eq_some_iff.mp H); (obtain ⟨t368, A40, H⟩ := H); (replace H : (if t368 = true then (shape_Index.j0 k l0 l1 ((l1.length : Int) != (l0.length : Int))) else (shape_Index.j0 k l0 l1 true)) = some r := H); (have A4 := Aside0.mk A40); (clear A40); (by_cases c5 : t368 = true)
    · (subst c5); (have H1 : (shape_Index.j0 k l0 l1 ((l1.length : Int) != (l0.length : Int))) = some r := by rw [if_pos rfl] at H; exact H); (clear H); (have H := H1); (clear H1); (have H' := Aside0.mk H); (clear H); (go_wp2_with (first | ((with_reducible refine gate_callee (f := 79) rfl ?_); refine goesL_ (some 9) rfl rfl Try.func79 (by kernel_rfl) rfl #[.slice A0 l0.length c0] rfl (by (try simp only [List.map_toArray, List.map_cons, List.map_nil]); first | done | rfl | (simp only [List.length_drop, List.length_take]; rfl)) ?_; (with_reducible refine (shape_Right.calls k _ _ l0 true _ ?side1 ?side2 A4.out).mono ?_); (case side1 => exact nC_ HR0.out); (case side2 => exact HC0.out); rintro e w' ⟨rfl, ⟨nd, rfl⟩⟩; refine ⟨_, rfl, ?_⟩))); (go_meet); (case rel => exact ⟨_, (((l1.length : Int) != (l0.length : Int))), (by first | rfl | (simp; done) | (simp [*]; done)), H', ⟨by first | omega | exact Nat.le_refl _⟩, by repeat (first | exact Drawn0.refl _ | apply Drawn0.step)⟩)
    · (replace c5 := Bool.eq_false_iff.mpr c5); (subst c5); (have H1 : (shape_Index.j0 k l0 l1 true) = some r := by rw [if_neg (show ¬ (false = true) by decide)] at H; exact H); (clear H); (have H := H1); (clear H1); (have H' := Aside0.mk H); (clear H); (go_wp2_with (first | ((with_reducible refine gate_callee (f := 79) rfl ?_); refine goesL_ (some 9) rfl rfl Try.func79 (by kernel_rfl) rfl #[.slice A0 l0.length c0] rfl (by (try simp only [List.map_toArray, List.map_cons, List.map_nil]); first | done | rfl | (simp only [List.length_drop, List.length_take]; rfl)) ?_; (with_reducible refine (shape_Right.calls k _ _ l0 false _ ?side1 ?side2 A4.out).mono ?_); (case side1 => exact nC_ HR0.out); (case side2 => exact HC0.out); rintro e w' ⟨rfl, ⟨nd, rfl⟩⟩; refine ⟨_, rfl, ?_⟩))); (go_meet); (case rel => exact ⟨_, (true), (by first | rfl | (simp; done) | (simp [*]; done)), H', ⟨by first | omega | exact Nat.le_refl _⟩, by repeat (first | exact Drawn0.refl _ | apply Drawn0.step)⟩)
  case rest =>
    (clear HC3); (try clear c1); (try clear p2); (try clear c5); (obtain ⟨kq, x17_2, rfl, HA, HJ2, ⟨mc2, rfl⟩⟩ := hcut)
    cases kq with
    | zero => exact absurd HA.out (by simp [shape_Index.j0])
    | succ kj2 =>
      (have H := HA.out); (clear HA); (simp only [shape_Index.j0] at H); (by_cases c6 : x17_2 = true); (· (subst c6); (have H1 : (some (-1)) = some r := by rw [if_pos rfl] at H; exact H); (clear H); (have H := H1); (clear H1); (obtain rfl := Option.some.inj H); (go_wp2); (go_ret); (exact ⟨by first | rfl | (simp; done) | (simp [*]; done), by repeat (first | exact Drawn0.refl _ | apply Drawn0.step)⟩))
      · (replace c6 := Bool.eq_false_iff.mpr c6); (subst c6); (have H1 : (shape_Index.l0 kj2 l0 0 l1 (l1.length : Int) 0) = some r := by rw [if_neg (show ¬ (false = true) by decide)] at H; exact H); (clear H); (have H := H1); (clear H1); (have H' := Aside0.mk H); (clear H); (go_wp2); (go_loopg [5, 20] kj2 (fun kq v5 v20 w' => ∃ (x5_2 : Int) (x20_2 : Int), v5 = .int .i64 x5_2 ∧ v20 = .int .i64 x20_2 ∧ Aside0 (shape_Index.l0 kq l0 x5_2 l1 (l1.length : Int) x20_2 = some r) ∧ Aside0 (kq ≤ kj2) ∧ Drawn0 w w')); (case atStart => exact ⟨(0), (0), (by first | rfl | (simp; done) | (simp [*]; done)), (by first | rfl | (simp; done) | (simp [*]; done)), H', ⟨Nat.le_refl _⟩, by repeat (first | exact Drawn0.refl _ | apply Drawn0.step)⟩)
        case round =>
          (clear H'); (try clear c1); (try clear c2); (try clear p2); (try clear c5); (try clear c6); (try clear p2); (obtain ⟨x5_2, x20_2, rfl, rfl, HA, HK2, ⟨m2, rfl⟩⟩ := hrel)
          cases gk with
          | zero => exact absurd HA.out (by simp [shape_Index.l0])
          | succ k2 =>
            (have H := HA.out); (clear HA); (simp only [shape_Index.l0] at H); (by_cases c7 : x20_2 < (l1.length : Int))
            · (rw [if_pos c7] at H); (have c7b0 : decide (x20_2 < (l1.length : Int)) = true := decide_eq_true c7); (clear c7); (by_cases c8 : 0 ≤ x20_2)
              · (rw [if_pos c8] at H); (have c8b0 : decide (0 ≤ x20_2) = true := decide_eq_true c8); (clear c8); (by_cases c9 : x20_2 < (l1.length : Int))
                · (rw [if_pos c9] at H); (have c9b0 : decide (x20_2 < (l1.length : Int)) = true := decide_eq_true c9); (clear c9); (by_cases c10 : (rd l1 x20_2) < 0)
                  · (rw [if_pos c10] at H); (have c10b0 : decide ((rd l1 x20_2) < 0) = true := decide_eq_true c10); (clear c10); (obtain rfl := Option.some.inj H); (have p369 : 0 ≤ (x20_2 : Int) := of_decide_eq_true (by first | (with_reducible assumption) | assumption)); (have q369 : x20_2 < (l1.length : Int) := of_decide_eq_true (by first | (with_reducible assumption) | assumption)); (obtain ⟨ad369, e369, hx369_0⟩ := Kd.at_int HR1.out x20_2 p369 q369); (cases e369); (replace p369 := eq_true p369); (replace q369 := eq_true q369); (go_wp2); (go_ret); (exact ⟨by first | rfl | (simp; done) | (simp [*]; done), by repeat (first | exact Drawn0.refl _ | apply Drawn0.step)⟩)
                  · (rw [if_neg c10] at H); (have c10b0 : decide ((rd l1 x20_2) < 0) = false := decide_eq_false c10); (clear c10); (by_cases c11 : x20_2 < (l0.length : Int))
                    · (rw [if_pos c11] at H); (have c11b0 : decide (x20_2 < (l0.length : Int)) = true := decide_eq_true c11); (clear c11); (by_cases c12 : (rd l1 x20_2) ≥ (rd l0 x20_2))
                      · (rw [if_pos c12] at H); (have c12b0 : decide ((rd l0 x20_2) ≤ (rd l1 x20_2)) = true := decide_eq_true c12); (clear c12); (obtain rfl := Option.some.inj H); (have p369 : 0 ≤ (x20_2 : Int) := of_decide_eq_true (by first | (with_reducible assumption) | assumption)); (have q369 : x20_2 < (l1.length : Int) := of_decide_eq_true (by first | (with_reducible assumption) | assumption)); (obtain ⟨ad369, e369, hx369_0⟩ := Kd.at_int HR1.out x20_2 p369 q369); (cases e369); (replace p369 := eq_true p369); (replace q369 := eq_true q369); (have p370 : 0 ≤ (x20_2 : Int) := of_decide_eq_true (by first | (with_reducible assumption) | assumption)); (have q370 : x20_2 < (l0.length : Int) := of_decide_eq_true (by first | (with_reducible assumption) | assumption)); (obtain ⟨ad370, e370, hx370_0⟩ := Kd.at_int HR0.out x20_2 p370 q370); (cases e370); (replace p370 := eq_true p370); (replace q370 := eq_true q370); (go_wp2); (go_ret); (exact ⟨by first | rfl | (simp; done) | (simp [*]; done), by repeat (first | exact Drawn0.refl _ | apply Drawn0.step)⟩)
                      · (rw [if_neg c12] at H); (have c12b0 : decide ((rd l0 x20_2) ≤ (rd l1 x20_2)) = false := decide_eq_false c12); (clear c12); (have H' := Aside0.mk H); (clear H); (have p369 : 0 ≤ (x20_2 : Int) := of_decide_eq_true (by first | (with_reducible assumption) | assumption)); (have q369 : x20_2 < (l1.length : Int) := of_decide_eq_true (by first | (with_reducible assumption) | assumption)); (obtain ⟨ad369, e369, hx369_0⟩ := Kd.at_int HR1.out x20_2 p369 q369); (cases e369); (replace p369 := eq_true p369); (replace q369 := eq_true q369); (have p370 : 0 ≤ (x20_2 : Int) := of_decide_eq_true (by first | (with_reducible assumption) | assumption)); (have q370 : x20_2 < (l0.length : Int) := of_decide_eq_true (by first | (with_reducible assumption) | assumption)); (obtain ⟨ad370, e370, hx370_0⟩ := Kd.at_int HR0.out x20_2 p370 q370); (cases e370); (replace p370 := eq_true p370); (replace q370 := eq_true q370); (have p371 : 0 ≤ (x20_2 : Int) := of_decide_eq_true (by first | (with_reducible assumption) | assumption)); (have q371 : x20_2 < (l0.length : Int) := of_decide_eq_true (by first | (with_reducible assumption) | assumption)); (obtain ⟨ad371, e371, hx371_0⟩ := Kd.at_int HR0.out x20_2 p371 q371); (obtain rfl : ad370 = ad371 := (by injection e371)); (replace p371 := eq_true p371); (replace q371 := eq_true q371); (go_wp2); (go_roundg k2); (case measure => have := HJ2.out; have := HK2.out; omega); (case rel => exact ⟨(wrap64 ((wrap64 (x5_2 * (rd l0 x20_2))) + (rd l1 x20_2))), (wrap64 (x20_2 + 1)), (by first | rfl | (simp; done) | (simp [*]; done)), (by first | rfl | (simp; done) | (simp [*]; done)), H', ⟨by have := HJ2.out; have := HK2.out; omega⟩, by repeat (first | exact Drawn0.refl _ | apply Drawn0.step)⟩)
                    (· (rw [if_neg c11] at H); (exact absurd H (by simp)))
                (· (rw [if_neg c9] at H); (exact absurd H (by simp)))
              (· (rw [if_neg c8] at H); (exact absurd H (by simp)))
            (· (rw [if_neg c7] at H); (have c7b0 : decide (x20_2 < (l1.length : Int)) = false := decide_eq_false c7); (clear c7); (obtain rfl := Option.some.inj H); (go_wp2); (go_ret); (exact ⟨by first | rfl | (simp; done) | (simp [*]; done), by repeat (first | exact Drawn0.refl _ | apply Drawn0.step)⟩))
/-! ### tensor_place: function 96 -/
def tensor_place.f (k : Nat) (l0_0 : List Int) (l0_1 : List Int) (l1 : List Int) : Option (Int) := (tensor_Right.f k l0_0 l0_1).bind fun t373 => (if t373 = true then ((shape_Index.f k l0_0 l1).bind fun t374 => (some t374)) else (some (-1)))
theorem tensor_place.mono : ∀ a0 a1 a2 k, LeO (tensor_place.f k a0 a1 a2) (tensor_place.f (k + 1) a0 a1 a2) := by
  intro a0 a1 a2 k
  unfold tensor_place.f
  repeat' first | (with_reducible first | exact shape_Index.mono _ _ _ | exact tensor_Right.mono _ _ _ | exact LeO.refl _ | exact LeO.none _ | refine LeO.ite ?_ ?_ | refine LeO.bind ?_ (fun _ => ?_)) | exact LeO.none _ | refine LeO.ite ?_ ?_ | refine LeO.bind ?_ (fun _ => ?_)

set_option maxHeartbeats 8000000 in
set_option maxRecDepth 100000 in
theorem tensor_place.calls (k : Nat) (A0_0 : Option Addr) (c0_0 : Nat) (l0_0 : List Int) (A0_1 : Option Addr) (c0_1 : Nat) (l0_1 : List Int) (A1 : Option Addr) (c1 : Nat) (l1 : List Int) (r : Int) (w : World) (hr0_0 : Kd.C (Kd.int .i64) w A0_0 l0_0.length l0_0) (hc0_0 : l0_0.length ≤ c0_0) (hr0_1 : Kd.C (Kd.int .i64) w A0_1 l0_1.length l0_1) (hc0_1 : l0_1.length ≤ c0_1) (hr1 : Kd.C (Kd.int .i64) w A1 l1.length l1) (hc1 : l1.length ≤ c1) (h : tensor_place.f k l0_0 l0_1 l1 = some r) :
    Calls Try.prog 96 #[.agg #[.slice A0_0 l0_0.length c0_0, .slice A0_1 l0_1.length c0_1], .slice A1 l1.length c1] w fun e w' => e = .returned (.int .i64 r) ∧ Below w.heap.size w w' := by
  (have hu27 := Try.underlying27); (have HR0_0 := Aside0.mk hr0_0); (have HC0_0 := Aside0.mk hc0_0); (clear hr0_0 hc0_0); (have HR0_1 := Aside0.mk hr0_1); (have HC0_1 := Aside0.mk hc0_1); (clear hr0_1 hc0_1); (have HR1 := Aside0.mk hr1); (have HC1 := Aside0.mk hc1); (clear hr1 hc1); (have HB := Aside0.mk (Below.refl w.heap.size w)); (have H : ((tensor_Right.f k l0_0 l0_1).bind fun t373 => (if t373 = true then ((shape_Index.f k l0_0 l1).bind fun t374 => (some t374)) else (some (-1)))) = some r := h); (clear h); (replace H := Option.bind_eq_some_iff.mp H); (obtain ⟨t373, A30, H⟩ := H); (replace H : (if t373 = true then ((shape_Index.f k l0_0 l1).bind fun t374 => (some t374)) else (some (-1))) = some r := H); (have A3 := Aside0.mk A30); (clear A30); (by_cases c4 : t373 = true)
  · (subst c4); (have H1 : ((shape_Index.f k l0_0 l1).bind fun t374 => (some t374)) = some r := by rw [if_pos rfl] at H; exact H); (clear H); (have H := H1); (clear H1); (replace H := Option.bind_eq_some_iff.mp H); (obtain ⟨t374, A50, H⟩ := H); (replace H : (some t374) = some r := H); (have A5 := Aside0.mk A50); (clear A50); (obtain rfl := Option.some.inj H); (go_enter Try.func96, Try.ntmps96); (go_wp2_with (first | ((with_reducible refine gate_dst (N := 2) rfl ?_); refine box_event ?hg (N := 2) ?hd (cs := #[.slice A0_0 l0_0.length c0_0, .slice A0_1 l0_1.length c0_1]) (t := 27) ?hr ?_; (case hd => rfl); (case hg => rfl); (case hr => first | (go_simp; done) | (go_simp; rfl)); intro gb372 hg w6 hbox hb; have n0_ := Aside0.mk (below_step (nB_ HB.out) hb); have n1_ := Aside0.mk (hbox); have n2_ := Aside0.mk ((by rw [hg]; exact (below_size (nB_ HB.out)) : w.heap.size ≤ gb372)); have n3_ := Aside0.mk ((by rw [hg]; exact (below_size (nB_ HB.out)) : w.heap.size ≤ gb372)); clear HB; have HB := n0_; have BK372 := n1_; have GW372 := n2_; have GE372 := n3_; clear n0_ n1_ n2_ n3_; clear hb hbox hg; have hcz7_0 : w6.cell? ⟨gb372, 0, none⟩ = some (.slice A0_0 l0_0.length c0_0) := (blk_cell BK372.out 0).trans rfl; have hcz7_1 : w6.cell? ⟨gb372, 1, none⟩ = some (.slice A0_1 l0_1.length c0_1) := (blk_cell BK372.out 1).trans rfl; have hfz7_0 := blk_frozen BK372.out 0; have hfz7_1 := blk_frozen BK372.out 1) | ((with_reducible refine gate_callee (f := 65) rfl ?_); refine goesL_ (some 6) rfl rfl Try.func65 (by kernel_rfl) rfl #[.agg #[.slice A0_0 l0_0.length c0_0, .slice A0_1 l0_1.length c0_1]] rfl (by (try simp only [List.map_toArray, List.map_cons, List.map_nil]); first | done | rfl | (simp only [List.length_drop, List.length_take]; rfl)) ?_; (with_reducible refine (tensor_Right.calls k _ _ l0_0 _ _ l0_1 true _ ?side1 ?side2 ?side3 ?side4 A3.out).mono ?_); (case side1 => exact nC_ (Kd.C_below HR0_0.out HB.out)); (case side2 => exact HC0_0.out); (case side3 => exact nC_ (Kd.C_below HR0_1.out HB.out)); (case side4 => exact HC0_1.out); rintro e w8 ⟨rfl, hb⟩; refine ⟨_, rfl, ?_⟩; have n0_ := Aside0.mk (bB_ BK372.out hb); have n1_ := Aside0.mk (below_step (nB1_ HB.out GE372.out) hb); clear BK372; clear HB; have BK372 := n0_; have HB := n1_; clear n0_ n1_; (try clear hb); (try clear hb2); (try clear hk); (try clear hi); have hcz9_0 : w8.cell? ⟨gb372, 0, none⟩ = some (.slice A0_0 l0_0.length c0_0) := (blk_cell BK372.out 0).trans rfl; have hcz9_1 : w8.cell? ⟨gb372, 1, none⟩ = some (.slice A0_1 l0_1.length c0_1) := (blk_cell BK372.out 1).trans rfl; have hfz9_0 := blk_frozen BK372.out 0; have hfz9_1 := blk_frozen BK372.out 1) | ((with_reducible refine gate_callee (f := 82) rfl ?_); refine goesL_ (some 11) rfl rfl Try.func82 (by kernel_rfl) rfl #[.slice A0_0 l0_0.length c0_0, .slice A1 l1.length c1] rfl (by (try simp only [List.map_toArray, List.map_cons, List.map_nil]); first | done | rfl | (simp only [List.length_drop, List.length_take]; rfl)) ?_; (with_reducible refine (shape_Index.calls k _ _ l0_0 _ _ l1 t374 _ ?side1 ?side2 ?side3 ?side4 A5.out).mono ?_); (case side1 => exact nC_ (Kd.C_below HR0_0.out HB.out)); (case side2 => exact HC0_0.out); (case side3 => exact nC_ (Kd.C_below HR1.out HB.out)); (case side4 => exact HC1.out); rintro e w' ⟨rfl, ⟨nd, rfl⟩⟩; refine ⟨_, rfl, ?_⟩))); (go_ret); (exact ⟨by first | rfl | (simp [errW_none, errW_some] <;> rfl) | (simp [*, errW_none, errW_some] <;> rfl), by repeat (first | (with_reducible first | exact HB.out | apply below_alloc | apply pw_below_drewN | apply below_drew1 | refine below_set ?_ GE372.out) | exact HB.out)⟩)
  · (replace c4 := Bool.eq_false_iff.mpr c4); (subst c4); (have H1 : (some (-1)) = some r := by rw [if_neg (show ¬ (false = true) by decide)] at H; exact H); (clear H); (have H := H1); (clear H1); (obtain rfl := Option.some.inj H); (go_enter Try.func96, Try.ntmps96); (go_wp2_with (first | ((with_reducible refine gate_dst (N := 2) rfl ?_); refine box_event ?hg (N := 2) ?hd (cs := #[.slice A0_0 l0_0.length c0_0, .slice A0_1 l0_1.length c0_1]) (t := 27) ?hr ?_; (case hd => rfl); (case hg => rfl); (case hr => first | (go_simp; done) | (go_simp; rfl)); intro gb372 hg w10 hbox hb; have n0_ := Aside0.mk (below_step (nB_ HB.out) hb); have n1_ := Aside0.mk (hbox); have n2_ := Aside0.mk ((by rw [hg]; exact (below_size (nB_ HB.out)) : w.heap.size ≤ gb372)); have n3_ := Aside0.mk ((by rw [hg]; exact (below_size (nB_ HB.out)) : w.heap.size ≤ gb372)); clear HB; have HB := n0_; have BK372 := n1_; have GW372 := n2_; have GE372 := n3_; clear n0_ n1_ n2_ n3_; clear hb hbox hg; have hcz11_0 : w10.cell? ⟨gb372, 0, none⟩ = some (.slice A0_0 l0_0.length c0_0) := (blk_cell BK372.out 0).trans rfl; have hcz11_1 : w10.cell? ⟨gb372, 1, none⟩ = some (.slice A0_1 l0_1.length c0_1) := (blk_cell BK372.out 1).trans rfl; have hfz11_0 := blk_frozen BK372.out 0; have hfz11_1 := blk_frozen BK372.out 1) | ((with_reducible refine gate_callee (f := 65) rfl ?_); refine goesL_ (some 6) rfl rfl Try.func65 (by kernel_rfl) rfl #[.agg #[.slice A0_0 l0_0.length c0_0, .slice A0_1 l0_1.length c0_1]] rfl (by (try simp only [List.map_toArray, List.map_cons, List.map_nil]); first | done | rfl | (simp only [List.length_drop, List.length_take]; rfl)) ?_; (with_reducible refine (tensor_Right.calls k _ _ l0_0 _ _ l0_1 false _ ?side1 ?side2 ?side3 ?side4 A3.out).mono ?_); (case side1 => exact nC_ (Kd.C_below HR0_0.out HB.out)); (case side2 => exact HC0_0.out); (case side3 => exact nC_ (Kd.C_below HR0_1.out HB.out)); (case side4 => exact HC0_1.out); rintro e w12 ⟨rfl, hb⟩; refine ⟨_, rfl, ?_⟩; have n0_ := Aside0.mk (bB_ BK372.out hb); have n1_ := Aside0.mk (below_step (nB1_ HB.out GE372.out) hb); clear BK372; clear HB; have BK372 := n0_; have HB := n1_; clear n0_ n1_; (try clear hb); (try clear hb2); (try clear hk); (try clear hi)))); (go_ret); (exact ⟨by first | rfl | (simp [errW_none, errW_some] <;> rfl) | (simp [*, errW_none, errW_some] <;> rfl), by repeat (first | (with_reducible first | exact HB.out | apply below_alloc | apply pw_below_drewN | apply below_drew1 | refine below_set ?_ GE372.out) | exact HB.out)⟩)
/-! ### tensor_Get: function 69 -/
def tensor_Get.f (k : Nat) (l0_0 : List Int) (l0_1 : List Int) (l1 : List Int) : Option (Int × Bool) := (tensor_place.f k l0_0 l0_1 l1).bind fun t376 => (if t376 < 0 then (some (0, false)) else (if 0 ≤ t376 then (if t376 < (l0_1.length : Int) then (some (rd l0_1 t376, true)) else (none)) else (none)))
theorem tensor_Get.mono : ∀ a0 a1 a2 k, LeO (tensor_Get.f k a0 a1 a2) (tensor_Get.f (k + 1) a0 a1 a2) := by
  intro a0 a1 a2 k
  unfold tensor_Get.f
  repeat' first | (with_reducible first | exact tensor_place.mono _ _ _ _ | exact LeO.refl _ | exact LeO.none _ | refine LeO.ite ?_ ?_ | refine LeO.bind ?_ (fun _ => ?_)) | exact LeO.none _ | refine LeO.ite ?_ ?_ | refine LeO.bind ?_ (fun _ => ?_)

set_option maxHeartbeats 8000000 in
set_option maxRecDepth 100000 in
theorem tensor_Get.calls (k : Nat) (A0_0 : Option Addr) (c0_0 : Nat) (l0_0 : List Int) (A0_1 : Option Addr) (c0_1 : Nat) (l0_1 : List Int) (A1 : Option Addr) (c1 : Nat) (l1 : List Int) (r1 : Int) (r2 : Bool) (w : World) (hr0_0 : Kd.C (Kd.int .i64) w A0_0 l0_0.length l0_0) (hc0_0 : l0_0.length ≤ c0_0) (hr0_1 : Kd.C (Kd.int .i64) w A0_1 l0_1.length l0_1) (hc0_1 : l0_1.length ≤ c0_1) (hr1 : Kd.C (Kd.int .i64) w A1 l1.length l1) (hc1 : l1.length ≤ c1) (h : tensor_Get.f k l0_0 l0_1 l1 = some (r1, r2)) :
    Calls Try.prog 69 #[.agg #[.slice A0_0 l0_0.length c0_0, .slice A0_1 l0_1.length c0_1], .slice A1 l1.length c1] w fun e w' => e = .returned (.tuple #[.int .i64 r1, .bool r2]) ∧ Below w.heap.size w w' := by
  (have hu27 := Try.underlying27); (have HR0_0 := Aside0.mk hr0_0); (have HC0_0 := Aside0.mk hc0_0); (clear hr0_0 hc0_0); (have HR0_1 := Aside0.mk hr0_1); (have HC0_1 := Aside0.mk hc0_1); (clear hr0_1 hc0_1); (have HR1 := Aside0.mk hr1); (have HC1 := Aside0.mk hc1); (clear hr1 hc1); (have HB := Aside0.mk (Below.refl w.heap.size w)); (have H : ((tensor_place.f k l0_0 l0_1 l1).bind fun t376 => (if t376 < 0 then (some (0, false)) else (if 0 ≤ t376 then (if t376 < (l0_1.length : Int) then (some (rd l0_1 t376, true)) else (none)) else (none)))) = some (r1, r2) := h); (clear h); (replace H := Option.bind_eq_some_iff.mp H); (obtain ⟨t376, A30, H⟩ := H); (replace H : (if t376 < 0 then (some (0, false)) else (if 0 ≤ t376 then (if t376 < (l0_1.length : Int) then (some (rd l0_1 t376, true)) else (none)) else (none))) = some (r1, r2) := H); (have A3 := Aside0.mk A30); (clear A30); (by_cases c4 : t376 < 0)
  · (rw [if_pos c4] at H); (have c4b0 : decide (t376 < 0) = true := decide_eq_true c4); (clear c4); (simp only [Option.some.injEq, Prod.mk.injEq] at H); (obtain ⟨rfl, rfl⟩ := H); (go_enter Try.func69, Try.ntmps69); (go_wp2_with (first | ((with_reducible refine gate_dst (N := 2) rfl ?_); refine box_event ?hg (N := 2) ?hd (cs := #[.slice A0_0 l0_0.length c0_0, .slice A0_1 l0_1.length c0_1]) (t := 27) ?hr ?_; (case hd => rfl); (case hg => rfl); (case hr => first | (go_simp; done) | (go_simp; rfl)); intro gb375 hg w5 hbox hb; have n0_ := Aside0.mk (below_step (nB_ HB.out) hb); have n1_ := Aside0.mk (hbox); have n2_ := Aside0.mk ((by rw [hg]; exact (below_size (nB_ HB.out)) : w.heap.size ≤ gb375)); have n3_ := Aside0.mk ((by rw [hg]; exact (below_size (nB_ HB.out)) : w.heap.size ≤ gb375)); clear HB; have HB := n0_; have BK375 := n1_; have GW375 := n2_; have GE375 := n3_; clear n0_ n1_ n2_ n3_; clear hb hbox hg; have hcz6_0 : w5.cell? ⟨gb375, 0, none⟩ = some (.slice A0_0 l0_0.length c0_0) := (blk_cell BK375.out 0).trans rfl; have hcz6_1 : w5.cell? ⟨gb375, 1, none⟩ = some (.slice A0_1 l0_1.length c0_1) := (blk_cell BK375.out 1).trans rfl; have hfz6_0 := blk_frozen BK375.out 0; have hfz6_1 := blk_frozen BK375.out 1) | ((with_reducible refine gate_callee (f := 96) rfl ?_); refine goesL_ (some 9) rfl rfl Try.func96 (by kernel_rfl) rfl #[.agg #[.slice A0_0 l0_0.length c0_0, .slice A0_1 l0_1.length c0_1], .slice A1 l1.length c1] rfl (by (try simp only [List.map_toArray, List.map_cons, List.map_nil]); first | done | rfl | (simp only [List.length_drop, List.length_take]; rfl)) ?_; (with_reducible refine (tensor_place.calls k _ _ l0_0 _ _ l0_1 _ _ l1 t376 _ ?side1 ?side2 ?side3 ?side4 ?side5 ?side6 A3.out).mono ?_); (case side1 => exact nC_ (Kd.C_below HR0_0.out HB.out)); (case side2 => exact HC0_0.out); (case side3 => exact nC_ (Kd.C_below HR0_1.out HB.out)); (case side4 => exact HC0_1.out); (case side5 => exact nC_ (Kd.C_below HR1.out HB.out)); (case side6 => exact HC1.out); rintro e w7 ⟨rfl, hb⟩; refine ⟨_, rfl, ?_⟩; have n0_ := Aside0.mk (bB_ BK375.out hb); have n1_ := Aside0.mk (below_step (nB1_ HB.out GE375.out) hb); clear BK375; clear HB; have BK375 := n0_; have HB := n1_; clear n0_ n1_; (try clear hb); (try clear hb2); (try clear hk); (try clear hi)))); (go_ret2); (exact ⟨by first | rfl | (simp [errW_none, errW_some] <;> rfl) | (simp [*, errW_none, errW_some] <;> rfl), by repeat (first | (with_reducible first | exact HB.out | apply below_alloc | apply pw_below_drewN | apply below_drew1 | refine below_set ?_ GE375.out) | exact HB.out)⟩)
  · (rw [if_neg c4] at H); (have c4b0 : decide (t376 < 0) = false := decide_eq_false c4); (clear c4); (by_cases c8 : 0 ≤ t376)
    · (rw [if_pos c8] at H); (have c8b0 : decide (0 ≤ t376) = true := decide_eq_true c8); (clear c8); (by_cases c9 : t376 < (l0_1.length : Int))
      · (rw [if_pos c9] at H); (have c9b0 : decide (t376 < (l0_1.length : Int)) = true := decide_eq_true c9); (clear c9); (simp only [Option.some.injEq, Prod.mk.injEq] at H); (obtain ⟨rfl, rfl⟩ := H); (go_enter Try.func69, Try.ntmps69); (go_wp2_with (first | ((with_reducible refine gate_dst (N := 2) rfl ?_); refine box_event ?hg (N := 2) ?hd (cs := #[.slice A0_0 l0_0.length c0_0, .slice A0_1 l0_1.length c0_1]) (t := 27) ?hr ?_; (case hd => rfl); (case hg => rfl); (case hr => first | (go_simp; done) | (go_simp; rfl)); intro gb375 hg w10 hbox hb; have n0_ := Aside0.mk (below_step (nB_ HB.out) hb); have n1_ := Aside0.mk (hbox); have n2_ := Aside0.mk ((by rw [hg]; exact (below_size (nB_ HB.out)) : w.heap.size ≤ gb375)); have n3_ := Aside0.mk ((by rw [hg]; exact (below_size (nB_ HB.out)) : w.heap.size ≤ gb375)); clear HB; have HB := n0_; have BK375 := n1_; have GW375 := n2_; have GE375 := n3_; clear n0_ n1_ n2_ n3_; clear hb hbox hg; have hcz11_0 : w10.cell? ⟨gb375, 0, none⟩ = some (.slice A0_0 l0_0.length c0_0) := (blk_cell BK375.out 0).trans rfl; have hcz11_1 : w10.cell? ⟨gb375, 1, none⟩ = some (.slice A0_1 l0_1.length c0_1) := (blk_cell BK375.out 1).trans rfl; have hfz11_0 := blk_frozen BK375.out 0; have hfz11_1 := blk_frozen BK375.out 1) | ((with_reducible refine gate_callee (f := 96) rfl ?_); refine goesL_ (some 9) rfl rfl Try.func96 (by kernel_rfl) rfl #[.agg #[.slice A0_0 l0_0.length c0_0, .slice A0_1 l0_1.length c0_1], .slice A1 l1.length c1] rfl (by (try simp only [List.map_toArray, List.map_cons, List.map_nil]); first | done | rfl | (simp only [List.length_drop, List.length_take]; rfl)) ?_; (with_reducible refine (tensor_place.calls k _ _ l0_0 _ _ l0_1 _ _ l1 t376 _ ?side1 ?side2 ?side3 ?side4 ?side5 ?side6 A3.out).mono ?_); (case side1 => exact nC_ (Kd.C_below HR0_0.out HB.out)); (case side2 => exact HC0_0.out); (case side3 => exact nC_ (Kd.C_below HR0_1.out HB.out)); (case side4 => exact HC0_1.out); (case side5 => exact nC_ (Kd.C_below HR1.out HB.out)); (case side6 => exact HC1.out); rintro e w12 ⟨rfl, hb⟩; refine ⟨_, rfl, ?_⟩; have n0_ := Aside0.mk (bB_ BK375.out hb); have n1_ := Aside0.mk (below_step (nB1_ HB.out GE375.out) hb); clear BK375; clear HB; have BK375 := n0_; have HB := n1_; clear n0_ n1_; (try clear hb); (try clear hb2); (try clear hk); (try clear hi); have hcz13_0 : w12.cell? ⟨gb375, 0, none⟩ = some (.slice A0_0 l0_0.length c0_0) := (blk_cell BK375.out 0).trans rfl; have hcz13_1 : w12.cell? ⟨gb375, 1, none⟩ = some (.slice A0_1 l0_1.length c0_1) := (blk_cell BK375.out 1).trans rfl; have hfz13_0 := blk_frozen BK375.out 0; have hfz13_1 := blk_frozen BK375.out 1; have p377 : 0 ≤ (t376 : Int) := of_decide_eq_true (by first | (with_reducible assumption) | assumption); have q377 : t376 < (l0_1.length : Int) := of_decide_eq_true (by first | (with_reducible assumption) | assumption); obtain ⟨ad377, e377, hx377_0⟩ := Kd.at_int HR0_1.out t376 p377 q377; cases e377; replace hx377_0 := (HB.out.cell (World.block_lt_of_cell? w _ hx377_0)).trans hx377_0; replace p377 := eq_true p377; replace q377 := eq_true q377))); (go_ret2); (exact ⟨by first | rfl | (simp [errW_none, errW_some] <;> rfl) | (simp [*, errW_none, errW_some] <;> rfl), by repeat (first | (with_reducible first | exact HB.out | apply below_alloc | apply pw_below_drewN | apply below_drew1 | refine below_set ?_ GE375.out) | exact HB.out)⟩)
      (· (rw [if_neg c9] at H); (exact absurd H (by simp)))
    (· (rw [if_neg c8] at H); (exact absurd H (by simp)))
-- NOT PRINTED: function 68 (window_Do_1)

end Go.Proofs.Ytkeclgfnlpkjeaa.Q
