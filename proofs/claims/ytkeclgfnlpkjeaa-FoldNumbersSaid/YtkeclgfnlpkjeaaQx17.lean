-- Printed by a program (a variant of the kit print, with contracts of our own).
import Derived.Test.YtkeclgfnlpkjeaaQx0
import Derived.Test.YtkeclgfnlpkjeaaQx10
namespace Go.Proofs.Ytkeclgfnlpkjeaa.Q
open Go.RowKit Go.Proofs.YtkeclgfnlpkjeaaW.PrintWords Go.Proofs.YtkeclgfnlpkjeaaW.PrintLast Go.Proofs.YtkeclgfnlpkjeaaW.PrintMore
attribute [local go_sem] max2_int min2_int max_two min_two max_three min_three max_four min_four   -- for this text's walks alone
set_option linter.unusedVariables false
set_option linter.unusedSimpArgs false

-- NOT PRINTED: function 9 (parquetrylaw8_WindowOnes)

-- NOT PRINTED: function 10 (parquetrylaw8_WindowCounts)

/-! ### fold_Step: function 39 -/
def fold_Step.f (a0 : Int) (a1 : Int) (a2 : Int) : Option (Int) := if a0 = 1 then (some (wrap64 (a1 + a2))) else (if a0 = 2 then (some (wrap64 (a1 * a2))) else (if a0 = 3 then (some (mn a1 a2)) else (if a0 = 4 then (some (mx a1 a2)) else (some 0))))
set_option maxHeartbeats 8000000 in
set_option maxRecDepth 100000 in
theorem fold_Step.calls (a0 : Int) (a1 : Int) (a2 : Int) (r : Int) (w : World) (h : fold_Step.f a0 a1 a2 = some r) :
    Calls Try.prog 39 #[.int .i64 a0, .int .i64 a1, .int .i64 a2] w fun e w' => e = .returned (.int .i64 r) ∧ Below w.heap.size w w' := by
  have HB := Aside0.mk (Below.refl w.heap.size w)
  have H : (if a0 = 1 then (some (wrap64 (a1 + a2))) else (if a0 = 2 then (some (wrap64 (a1 * a2))) else (if a0 = 3 then (some (mn a1 a2)) else (if a0 = 4 then (some (mx a1 a2)) else (some 0))))) = some r := h
  clear h
  by_cases c4 : a0 = 1
  · rw [if_pos c4] at H
    have c4b0 : (a0 == 1) = true := beq_iff_eq.mpr c4
    have c4b1 : (a0 != 1) = false := bne_eq_false_iff_eq.mpr c4
    clear c4
    obtain rfl := Option.some.inj H
    go_enter Try.func39, Try.ntmps39
    go_wp2
    go_ret
    exact ⟨by first | rfl | (simp [errW_none, errW_some] <;> rfl) | (simp [*, errW_none, errW_some] <;> rfl), by repeat (first | (with_reducible first | exact HB.out | apply below_alloc | apply pw_below_drewN | apply below_drew1) | exact HB.out)⟩
  · rw [if_neg c4] at H
    have c4b0 : (a0 == 1) = false := beq_eq_false_iff_ne.mpr c4
    have c4b1 : (a0 != 1) = true := bne_iff_ne.mpr c4
    by_cases c5 : a0 = 2
    · rw [if_pos c5] at H
      have c5b0 : (a0 == 2) = true := beq_iff_eq.mpr c5
      have c5b1 : (a0 != 2) = false := bne_eq_false_iff_eq.mpr c5
      clear c5
      obtain rfl := Option.some.inj H
      go_enter Try.func39, Try.ntmps39
      go_wp2
      go_ret
      exact ⟨by first | rfl | (simp [errW_none, errW_some] <;> rfl) | (simp [*, errW_none, errW_some] <;> rfl), by repeat (first | (with_reducible first | exact HB.out | apply below_alloc | apply pw_below_drewN | apply below_drew1) | exact HB.out)⟩
    · rw [if_neg c5] at H
      have c5b0 : (a0 == 2) = false := beq_eq_false_iff_ne.mpr c5
      have c5b1 : (a0 != 2) = true := bne_iff_ne.mpr c5
      by_cases c6 : a0 = 3
      · rw [if_pos c6] at H
        have c6b0 : (a0 == 3) = true := beq_iff_eq.mpr c6
        have c6b1 : (a0 != 3) = false := bne_eq_false_iff_eq.mpr c6
        clear c6
        obtain ⟨ji7, hji7⟩ : ∃ j_ : Int, (mn a1 a2) = j_ := ⟨_, rfl⟩
        replace H : (some ji7) = some r := by first | (rw [hji7] at H; exact H) | (simp only [hji7] at H ⊢; exact H)
        have hji7_ : (if a2 < a1 then a2 else a1) = ji7 := hji7
        obtain rfl := Option.some.inj H
        go_enter Try.func39, Try.ntmps39
        go_wp2
        go_ret
        exact ⟨by first | rfl | (simp [errW_none, errW_some] <;> rfl) | (simp only [← hji7]; first | rfl | (simp [errW_none, errW_some] <;> rfl)) | (simp [*, errW_none, errW_some] <;> rfl), by repeat (first | (with_reducible first | exact HB.out | apply below_alloc | apply pw_below_drewN | apply below_drew1) | exact HB.out)⟩
      · rw [if_neg c6] at H
        have c6b0 : (a0 == 3) = false := beq_eq_false_iff_ne.mpr c6
        have c6b1 : (a0 != 3) = true := bne_iff_ne.mpr c6
        by_cases c8 : a0 = 4
        · rw [if_pos c8] at H
          have c8b0 : (a0 == 4) = true := beq_iff_eq.mpr c8
          have c8b1 : (a0 != 4) = false := bne_eq_false_iff_eq.mpr c8
          clear c8
          obtain ⟨ji9, hji9⟩ : ∃ j_ : Int, (mx a1 a2) = j_ := ⟨_, rfl⟩
          replace H : (some ji9) = some r := by first | (rw [hji9] at H; exact H) | (simp only [hji9] at H ⊢; exact H)
          have hji9_ : (if a1 < a2 then a2 else a1) = ji9 := hji9
          obtain rfl := Option.some.inj H
          go_enter Try.func39, Try.ntmps39
          go_wp2
          go_ret
          exact ⟨by first | rfl | (simp [errW_none, errW_some] <;> rfl) | (simp only [← hji9]; first | rfl | (simp [errW_none, errW_some] <;> rfl)) | (simp [*, errW_none, errW_some] <;> rfl), by repeat (first | (with_reducible first | exact HB.out | apply below_alloc | apply pw_below_drewN | apply below_drew1) | exact HB.out)⟩
        · rw [if_neg c8] at H
          have c8b0 : (a0 == 4) = false := beq_eq_false_iff_ne.mpr c8
          have c8b1 : (a0 != 4) = true := bne_iff_ne.mpr c8
          obtain rfl := Option.some.inj H
          go_enter Try.func39, Try.ntmps39
          go_wp2
          go_ret
          exact ⟨by first | rfl | (simp [errW_none, errW_some] <;> rfl) | (simp [*, errW_none, errW_some] <;> rfl), by repeat (first | (with_reducible first | exact HB.out | apply below_alloc | apply pw_below_drewN | apply below_drew1) | exact HB.out)⟩

/-! ### axes_Rising: function 97 -/
def axes_Rising.l0 : Nat → Int → Int → List Int → Int → Int → Option (Bool)
  | 0, _, _, _, _, _ => none
  | k + 1, x1, x5, x8, x9, x10 => if x10 < x9 then (if 0 ≤ x10 then (if x10 < (x8.length : Int) then (if (rd x8 x10) ≤ x5 then (some false) else (if (rd x8 x10) ≥ x1 then (some false) else (axes_Rising.l0 k x1 (rd x8 x10) x8 x9 (wrap64 (x10 + 1))))) else (none)) else (none)) else (some true)
def axes_Rising.f (k : Nat) (l0 : List Int) (a1 : Int) : Option (Bool) := axes_Rising.l0 k a1 (-1) l0 (l0.length : Int) 0
theorem axes_Rising.mono_l : ∀ k, (∀ y0 y1 y2 y3 y4, LeO (axes_Rising.l0 k y0 y1 y2 y3 y4) (axes_Rising.l0 (k + 1) y0 y1 y2 y3 y4))
  | 0 => fun _ _ _ _ _ r h => by simp [axes_Rising.l0] at h
  | k + 1 => by
    have ih0 := axes_Rising.mono_l k
    · intro y0 y1 y2 y3 y4
      unfold axes_Rising.l0
      repeat' first | (with_reducible first | exact ih0 _ _ _ _ _ | exact LeO.refl _ | exact LeO.none _ | refine LeO.ite ?_ ?_ | refine LeO.bind ?_ (fun _ => ?_)) | exact ih0 _ _ _ _ _ | exact LeO.none _ | refine LeO.ite ?_ ?_ | refine LeO.bind ?_ (fun _ => ?_)
theorem axes_Rising.mono : ∀ a0 a1 k, LeO (axes_Rising.f k a0 a1) (axes_Rising.f (k + 1) a0 a1) := by
  intro a0 a1 k
  have ih0 := axes_Rising.mono_l k
  unfold axes_Rising.f
  repeat' first | (with_reducible first | exact ih0 _ _ _ _ _ | exact LeO.refl _ | exact LeO.none _ | refine LeO.ite ?_ ?_ | refine LeO.bind ?_ (fun _ => ?_)) | exact ih0 _ _ _ _ _ | exact LeO.none _ | refine LeO.ite ?_ ?_ | refine LeO.bind ?_ (fun _ => ?_)

set_option maxHeartbeats 8000000 in
set_option maxRecDepth 100000 in
theorem axes_Rising.calls (k : Nat) (A0 : Option Addr) (c0 : Nat) (l0 : List Int) (a1 : Int) (r : Bool) (w : World) (hr0 : Kd.C (Kd.int .i64) w A0 l0.length l0) (hc0 : l0.length ≤ c0) (h : axes_Rising.f k l0 a1 = some r) :
    Calls Try.prog 97 #[.slice A0 l0.length c0, .int .i64 a1] w fun e w' => e = .returned (.bool r) ∧ Drawn0 w w' := by
  (have HR0 := Aside0.mk hr0); (have HC0 := Aside0.mk hc0); (clear hr0 hc0); (have H : (axes_Rising.l0 k a1 (-1) l0 (l0.length : Int) 0) = some r := h); (clear h); (have H' := Aside0.mk H); (clear H); (go_enter Try.func97, Try.ntmps97); (go_wp2); (go_loopg [5, 10] k (fun kq v5 v10 w' => ∃ (x5_1 : Int) (x10_1 : Int), v5 = .int .i64 x5_1 ∧ v10 = .int .i64 x10_1 ∧ Aside0 (axes_Rising.l0 kq a1 x5_1 l0 (l0.length : Int) x10_1 = some r) ∧ Aside0 (kq ≤ k) ∧ Drawn0 w w')); (case atStart => exact ⟨((-1)), (0), (by first | rfl | (simp; done) | (simp [*]; done)), (by first | rfl | (simp; done) | (simp [*]; done)), H', ⟨Nat.le_refl _⟩, by repeat (first | exact Drawn0.refl _ | apply Drawn0.step)⟩)
  case round =>
    (clear H'); (try clear p2); (obtain ⟨x5_1, x10_1, rfl, rfl, HA, HK1, ⟨m1, rfl⟩⟩ := hrel)
    cases gk with
    | zero => exact absurd HA.out (by simp [axes_Rising.l0])
    | succ k1 =>
      (have H := HA.out); (clear HA); (simp only [axes_Rising.l0] at H); (by_cases c3 : x10_1 < (l0.length : Int))
      · (rw [if_pos c3] at H); (have c3b0 : decide (x10_1 < (l0.length : Int)) = true := decide_eq_true c3); (clear c3); (by_cases c4 : 0 ≤ x10_1)
        · (rw [if_pos c4] at H); (have c4b0 : decide (0 ≤ x10_1) = true := decide_eq_true c4); (clear c4); (by_cases c5 : x10_1 < (l0.length : Int))
          · (rw [if_pos c5] at H); (have c5b0 : decide (x10_1 < (l0.length : Int)) = true := decide_eq_true c5); (clear c5); (by_cases c6 : (rd l0 x10_1) ≤ x5_1)
            · (rw [if_pos c6] at H); (have c6b0 : decide ((rd l0 x10_1) ≤ x5_1) = true := decide_eq_true c6); (clear c6); (obtain rfl := Option.some.inj H); (have p543 : 0 ≤ (x10_1 : Int) := of_decide_eq_true (by first | (with_reducible assumption) | assumption)); (have q543 : x10_1 < (l0.length : Int) := of_decide_eq_true (by first | (with_reducible assumption) | assumption)); (obtain ⟨ad543, e543, hx543_0⟩ := Kd.at_int HR0.out x10_1 p543 q543); (cases e543); (replace p543 := eq_true p543); (replace q543 := eq_true q543); (go_wp2); (go_ret); (exact ⟨by first | rfl | (simp; done) | (simp [*]; done), by repeat (first | exact Drawn0.refl _ | apply Drawn0.step)⟩)
            · (rw [if_neg c6] at H); (have c6b0 : decide ((rd l0 x10_1) ≤ x5_1) = false := decide_eq_false c6); (clear c6); (by_cases c7 : (rd l0 x10_1) ≥ a1)
              · (rw [if_pos c7] at H); (have c7b0 : decide (a1 ≤ (rd l0 x10_1)) = true := decide_eq_true c7); (clear c7); (obtain rfl := Option.some.inj H); (have p543 : 0 ≤ (x10_1 : Int) := of_decide_eq_true (by first | (with_reducible assumption) | assumption)); (have q543 : x10_1 < (l0.length : Int) := of_decide_eq_true (by first | (with_reducible assumption) | assumption)); (obtain ⟨ad543, e543, hx543_0⟩ := Kd.at_int HR0.out x10_1 p543 q543); (cases e543); (replace p543 := eq_true p543); (replace q543 := eq_true q543); (go_wp2); (go_ret); (exact ⟨by first | rfl | (simp; done) | (simp [*]; done), by repeat (first | exact Drawn0.refl _ | apply Drawn0.step)⟩)
              · (rw [if_neg c7] at H); (have c7b0 : decide (a1 ≤ (rd l0 x10_1)) = false := decide_eq_false c7); (clear c7); (have H' := Aside0.mk H); (clear H); (have p543 : 0 ≤ (x10_1 : Int) := of_decide_eq_true (by first | (with_reducible assumption) | assumption)); (have q543 : x10_1 < (l0.length : Int) := of_decide_eq_true (by first | (with_reducible assumption) | assumption)); (obtain ⟨ad543, e543, hx543_0⟩ := Kd.at_int HR0.out x10_1 p543 q543); (cases e543); (replace p543 := eq_true p543); (replace q543 := eq_true q543); (go_wp2); (go_roundg k1); (case measure => have := HK1.out; omega); (case rel => exact ⟨(rd l0 x10_1), (wrap64 (x10_1 + 1)), (by first | rfl | (simp; done) | (simp [*]; done)), (by first | rfl | (simp; done) | (simp [*]; done)), H', ⟨by have := HK1.out; omega⟩, by repeat (first | exact Drawn0.refl _ | apply Drawn0.step)⟩)
          (· (rw [if_neg c5] at H); (exact absurd H (by simp)))
        (· (rw [if_neg c4] at H); (exact absurd H (by simp)))
      (· (rw [if_neg c3] at H); (have c3b0 : decide (x10_1 < (l0.length : Int)) = false := decide_eq_false c3); (clear c3); (obtain rfl := Option.some.inj H); (go_wp2); (go_ret); (exact ⟨by first | rfl | (simp; done) | (simp [*]; done), by repeat (first | exact Drawn0.refl _ | apply Drawn0.step)⟩))
/-! ### fold_Left: function 78 -/
def fold_Left.l0 : Nat → List Int → List Int → List Int → Int → Int → Option (List Int × Int)
  | 0, _, _, _, _, _ => none
  | k + 1, x1, x6, x14, x15, x16 => if x16 < x15 then (if 0 ≤ x16 then (if x16 < (x14.length : Int) then (if (x1.length : Int) > 0 then (if 0 < (x1.length : Int) then (if (rd x1 0) = x16 then (if 1 ≤ (x1.length : Int) then (fold_Left.l0 k (x1.drop 1) x6 x14 x15 (wrap64 (x16 + 1))) else (none)) else (if x6.length < 17592186044416 then (fold_Left.l0 k x1 (x6 ++ [rd x14 x16]) x14 x15 (wrap64 (x16 + 1))) else (none))) else (none)) else (if x6.length < 17592186044416 then (fold_Left.l0 k x1 (x6 ++ [rd x14 x16]) x14 x15 (wrap64 (x16 + 1))) else (none))) else (none)) else (none)) else (some (x6, 0))
def fold_Left.f (k : Nat) (l0 : List Int) (l1 : List Int) : Option (List Int × Int) := (axes_Rising.f k l1 (l0.length : Int)).bind fun t544 => (if t544 = true then (fold_Left.l0 k l1 ([] : List Int) l0 (l0.length : Int) 0) else (some (([] : List Int), 1)))
theorem fold_Left.mono_l : ∀ k, (∀ y0 y1 y2 y3 y4, LeO (fold_Left.l0 k y0 y1 y2 y3 y4) (fold_Left.l0 (k + 1) y0 y1 y2 y3 y4))
  | 0 => fun _ _ _ _ _ r h => by simp [fold_Left.l0] at h
  | k + 1 => by
    have ih0 := fold_Left.mono_l k
    · intro y0 y1 y2 y3 y4
      unfold fold_Left.l0
      repeat' first | (with_reducible first | exact ih0 _ _ _ _ _ | exact axes_Rising.mono _ _ _ | exact LeO.refl _ | exact LeO.none _ | refine LeO.ite ?_ ?_ | refine LeO.bind ?_ (fun _ => ?_)) | exact ih0 _ _ _ _ _ | exact LeO.none _ | refine LeO.ite ?_ ?_ | refine LeO.bind ?_ (fun _ => ?_)
theorem fold_Left.mono : ∀ a0 a1 k, LeO (fold_Left.f k a0 a1) (fold_Left.f (k + 1) a0 a1) := by
  intro a0 a1 k
  have ih0 := fold_Left.mono_l k
  unfold fold_Left.f
  repeat' first | (with_reducible first | exact ih0 _ _ _ _ _ | exact axes_Rising.mono _ _ _ | exact LeO.refl _ | exact LeO.none _ | refine LeO.ite ?_ ?_ | refine LeO.bind ?_ (fun _ => ?_)) | exact ih0 _ _ _ _ _ | exact LeO.none _ | refine LeO.ite ?_ ?_ | refine LeO.bind ?_ (fun _ => ?_)

set_option maxHeartbeats 8000000 in
set_option maxRecDepth 100000 in
theorem fold_Left.calls (k : Nat) (A0 : Option Addr) (c0 : Nat) (l0 : List Int) (P1_ : Nat → Prop) (A1 : Option Addr) (c1 : Nat) (l1 : List Int) (r1 : List Int) (r2 : Int) (w : World) (hr0 : Kd.C (Kd.int .i64) w A0 l0.length l0) (hc0 : l0.length ≤ c0) (hs1 : Kd.V (Kd.int .i64) 3 w w.heap.size (fun k_ => P1_ k_) (.slice A1 l1.length c1) l1) (h : fold_Left.f k l0 l1 = some (r1, r2)) :
    Calls Try.prog 78 #[.slice A0 l0.length c0, .slice A1 l1.length c1] w fun e w' => ∃ v0_ : Value, e = .returned (.tuple #[v0_, .int .i64 r2]) ∧ Kd.R (Kd.int .i64) 3 w' w.heap.size (fun k_ => (w.heap.size ≤ k_)) v0_ r1 ∧ Below w.heap.size w w' := by
  (have HR0 := Aside0.mk hr0); (have HC0 := Aside0.mk hc0); (clear hr0 hc0); (have HO1 := Aside0.mk (show Kd.V (Kd.int .i64) 3 w w.heap.size (fun k_ => (P1_ k_ ∨ w.heap.size ≤ k_)) (.slice A1 l1.length c1) l1 from Kd.V_mono hs1 (fun k_ hk => .inl hk))); (have HB := Aside0.mk (Below.refl w.heap.size w)); (have H : ((axes_Rising.f k l1 (l0.length : Int)).bind fun t544 => (if t544 = true then (fold_Left.l0 k l1 ([] : List Int) l0 (l0.length : Int) 0) else (some (([] : List Int), 1)))) = some (r1, r2) := h); (clear h); (replace H := Option.bind_eq_some_iff.mp H); (obtain ⟨t544, A30, H⟩ := H); (replace H : (if t544 = true then (fold_Left.l0 k l1 ([] : List Int) l0 (l0.length : Int) 0) else (some (([] : List Int), 1))) = some (r1, r2) := H); (have A3 := Aside0.mk A30); (clear A30); (by_cases c4 : t544 = true)
  · (subst c4); (have H1 : (fold_Left.l0 k l1 ([] : List Int) l0 (l0.length : Int) 0) = some (r1, r2) := by rw [if_pos rfl] at H; exact H); (clear H); (have H := H1); (clear H1); (have H' := Aside0.mk H); (clear H); (go_enter Try.func78, Try.ntmps78); (go_wp2_with (first | ((with_reducible refine gate_callee (f := 97) rfl ?_); refine goesL_ (some 12) rfl rfl Try.func97 (by kernel_rfl) rfl #[.slice A1 l1.length c1, .int .i64 (l0.length : Int)] rfl (by (try simp only [List.map_toArray, List.map_cons, List.map_nil]); first | done | rfl | (simp only [List.length_drop, List.length_take]; rfl)) ?_; (with_reducible refine (axes_Rising.calls k _ _ l1 (l0.length : Int) true _ ?side1 ?side2 A3.out).mono ?_); (case side1 => exact nC_ (Kd.V_reads' HO1.out).2.2); (case side2 => exact (Kd.V_reads' HO1.out).2.1); rintro e w' ⟨rfl, ⟨nd, rfl⟩⟩; refine ⟨_, rfl, ?_⟩))); (go_loopg [1, 6, 16] k (fun kq v1 v6 v16 w' => ∃ (x1_1 : List Int) (x6_1 : List Int) (x16_1 : Int), v16 = .int .i64 x16_1 ∧ Aside0 (fold_Left.l0 kq x1_1 x6_1 l0 (l0.length : Int) x16_1 = some (r1, r2)) ∧ Aside0 (kq ≤ k) ∧ Aside0 (Kd.V (Kd.int .i64) 3 w' w.heap.size (fun k_ => (P1_ k_ ∨ w.heap.size ≤ k_) ∧ some k_ ≠ (v6 : Value).ownBlock) v1 x1_1) ∧ Aside0 (Kd.R (Kd.int .i64) 3 w' w.heap.size (fun k_ => (w.heap.size ≤ k_)) v6 x6_1) ∧ Aside0 (Below w.heap.size w w'))); (case atStart => exact ⟨(l1), (([] : List Int)), (0), (by first | rfl | (simp; done) | (simp [*]; done)), H', ⟨Nat.le_refl _⟩, ⟨by (with_reducible repeat (first | apply Kd.V_alloc | apply Kd.V_drewN | apply Kd.V_drew)); exact Kd.V_mono HO1.out (fun _ hk => ⟨hk, (by simp [Value.ownBlock])⟩)⟩, ⟨by first | exact Kd.R_nil _ _ _ _ _ | exact Kd.N_nil _ _ _ _ _ | exact Kd.V_nil _ _ _ _ _ | exact Kd.Q_nil _ _ _ _ _ | exact Kd.S_nil _ _ _ _ _⟩, ⟨by repeat (first | (with_reducible first | exact HB.out | apply below_alloc | apply pw_below_drewN | apply below_drew1) | exact HB.out)⟩⟩)
    case round =>
      (clear H'); (try clear c1); (try clear p2); (try clear c4); (obtain ⟨x1_1, x6_1, x16_1, rfl, HA, HK1, HO_1, HO_6, HB⟩ := hrel)
      cases gk with
      | zero => exact absurd HA.out (by simp [fold_Left.l0])
      | succ k1 =>
        (have H := HA.out); (clear HA); (simp only [fold_Left.l0] at H); (by_cases c5 : x16_1 < (l0.length : Int))
        · (rw [if_pos c5] at H); (have c5b0 : decide (x16_1 < (l0.length : Int)) = true := decide_eq_true c5); (clear c5); (by_cases c6 : 0 ≤ x16_1)
          · (rw [if_pos c6] at H); (have c6b0 : decide (0 ≤ x16_1) = true := decide_eq_true c6); (clear c6); (by_cases c7 : x16_1 < (l0.length : Int))
            · (rw [if_pos c7] at H); (have c7b0 : decide (x16_1 < (l0.length : Int)) = true := decide_eq_true c7); (clear c7); (by_cases c8 : (x1_1.length : Int) > 0)
              · (rw [if_pos c8] at H); (have c8b0 : decide (0 < (x1_1.length : Int)) = true := decide_eq_true c8); (have c8b1 : decide (0 < x1_1.length) = true := decide_eq_true (by omega)); (clear c8); (by_cases c9 : 0 < (x1_1.length : Int))
                · (rw [if_pos c9] at H); (have c9b0 : decide (0 < (x1_1.length : Int)) = true := decide_eq_true c9); (have c9b1 : decide (0 < x1_1.length) = true := decide_eq_true (by omega)); (clear c9); (by_cases c10 : (rd x1_1 0) = x16_1)
                  · (rw [if_pos c10] at H); (have c10b0 : ((rd x1_1 0) == x16_1) = true := beq_iff_eq.mpr c10); (have c10b1 : ((rd x1_1 0) != x16_1) = false := bne_eq_false_iff_eq.mpr c10); (clear c10); (by_cases c11 : 1 ≤ (x1_1.length : Int))
                    · (rw [if_pos c11] at H); (have c11b0 := eq_true c11); (have c11b1 : decide (1 ≤ (x1_1.length : Int)) = true := decide_eq_true c11); (clear c11); (obtain ⟨y547, hy547⟩ : ∃ y_ : List Int, y_ = (x1_1.drop 1) := ⟨_, rfl⟩); (replace H : (fold_Left.l0 k1 y547 x6_1 l0 (l0.length : Int) (wrap64 (x16_1 + 1))) = some (r1, r2) := by first | (rw [hy547]; with_reducible exact H) | (have H2_ := (Option.bind_some _ _).symm.trans H; rw [hy547]; with_reducible exact H2_) | (have H2_ := (Option.bind_some _ _).symm.trans H; with_reducible exact H2_) | with_reducible exact H | (rw [hy547]; exact H) | exact H); (have Ny547 := Aside0.mk hy547); (clear hy547); (have H' := Aside0.mk H); (clear H); (have p545 : 0 ≤ (x16_1 : Int) := of_decide_eq_true (by first | (with_reducible assumption) | assumption)); (have q545 : x16_1 < (l0.length : Int) := of_decide_eq_true (by first | (with_reducible assumption) | assumption)); (obtain ⟨ad545, e545, hx545_0⟩ := Kd.at_int HR0.out x16_1 p545 q545); (cases e545); (replace hx545_0 := (HB.out.cell (World.block_lt_of_cell? w _ hx545_0)).trans hx545_0); (replace p545 := eq_true p545); (replace q545 := eq_true q545); (obtain ⟨Ao12, co12, eo12⟩ := Kd.V_slice HO_1.out); (subst eo12); (have p546 : 0 ≤ (0 : Int) := (by omega)); (have q546 : 0 < (x1_1.length : Int) := of_decide_eq_true (by first | (with_reducible assumption) | assumption)); (obtain ⟨ad546, e546, hx546_0⟩ := Kd.at_int (Kd.V_reads' HO_1.out).2.2 0 p546 q546); (cases e546); (have qi546 : (0 < x1_1.length) = True := eq_true (by omega)); ((try rw [show ((0 : Int)).toNat = 0 from rfl] at hx546_0)); ((try rw [Addr.add_zero'] at hx546_0)); (replace p546 := eq_true p546); (replace q546 := eq_true q546); (have q13 : (1 : Int) ≤ ((x1_1.length : Int) : Int) := of_decide_eq_true (by first | (with_reducible assumption) | assumption)); (obtain ⟨i013, hi013, _, hsz13, _⟩ := info_parts info3); (have hroom13 : x1_1.length ≤ co12 := (Kd.V_reads' HO_1.out).2.1); (have hC13 : Kd.F (Kd.int .i64) _ _ (some ad546) x1_1.length x1_1 := (Kd.V_at (base := w.heap.size) HO_1.out).2.2); (have hcut13 := cut_from (P := Try.prog) 25 3 .i64 Try.underlying25 hi013 1 hsz13 (some ad546) x1_1.length co12 1 (by omega) q13); (have hr13 := Kd.F_cut (m := (1 : Int).toNat) (c := co12) hC13 (by omega) hroom13); (obtain ⟨A13, hA13⟩ : ∃ A1, A1 = (if co12 = (1 : Int).toNat then (some ad546) else ((some ad546) : Option Addr).map (·.add ((1 : Int).toNat * 1))) := ⟨_, rfl⟩); (obtain ⟨c13, hc13⟩ : ∃ c1, c1 = co12 - (1 : Int).toNat := ⟨_, rfl⟩); (have hy13 : y547.length = x1_1.length - (1 : Int).toNat := (by rw [Ny547.out, List.length_drop] <;> omega)); (rw [show (x1_1).drop (1 : Int).toNat = y547 from Ny547.out.symm] at hr13); (replace hr13 : Kd.F (Kd.int .i64) _ _ A13 y547.length y547 := (by rw [hA13]; exact hr13)); (rw [← hy13, ← hA13, ← hc13] at hcut13); (have HO551 := Aside0.mk (show Kd.V (Kd.int .i64) 3 _ w.heap.size _ (.slice A13 y547.length c13) y547 from Kd.V_mk (by rw [hy13, hc13]; exact Nat.sub_le_sub_right hroom13 _) hr13)); (have HC551 := Aside0.mk (show y547.length ≤ c13 from by rw [hy13, hc13]; exact Nat.sub_le_sub_right hroom13 _)); (clear hr13 hC13 hroom13 hi013 hsz13 hc13); (have KY13 := Aside0.mk hy13); (have KA13 := Aside0.mk hA13); (clear hy13 hA13); (replace q13 := eq_true q13); (go_wp2); (go_roundg k1); (case measure => have := HK1.out; omega); (case rel => exact ⟨(y547), (x6_1), (wrap64 (x16_1 + 1)), (by first | rfl | (simp; done) | (simp [*]; done)), H', ⟨by have := HK1.out; omega⟩, ⟨by (with_reducible repeat (first | apply Kd.V_alloc | apply Kd.V_drewN | apply Kd.V_drew)); exact HO551.out⟩, ⟨nR_ HO_6.out⟩, ⟨by repeat (first | (with_reducible first | exact HB.out | apply below_alloc | apply pw_below_drewN | apply below_drew1) | exact HB.out)⟩⟩)
                    (· (rw [if_neg c11] at H); (exact absurd H (by simp)))
                  · (rw [if_neg c10] at H); (have c10b0 : ((rd x1_1 0) == x16_1) = false := beq_eq_false_iff_ne.mpr c10); (have c10b1 : ((rd x1_1 0) != x16_1) = true := bne_iff_ne.mpr c10); (by_cases c14 : x6_1.length < 17592186044416)
                    · (rw [if_pos c14] at H); (have LMc14 := Aside0.mk c14); (clear c14); (obtain ⟨y552, hy552⟩ : ∃ y_ : List Int, y_ = (x6_1 ++ [rd l0 x16_1]) := ⟨_, rfl⟩); (replace H : (fold_Left.l0 k1 x1_1 y552 l0 (l0.length : Int) (wrap64 (x16_1 + 1))) = some (r1, r2) := by first | (rw [hy552]; with_reducible exact H) | (have H2_ := (Option.bind_some _ _).symm.trans H; rw [hy552]; with_reducible exact H2_) | (have H2_ := (Option.bind_some _ _).symm.trans H; with_reducible exact H2_) | with_reducible exact H | (rw [hy552]; exact H) | exact H); (have Ny552 := Aside0.mk hy552); (clear hy552); (have H' := Aside0.mk H); (clear H); (have p545 : 0 ≤ (x16_1 : Int) := of_decide_eq_true (by first | (with_reducible assumption) | assumption)); (have q545 : x16_1 < (l0.length : Int) := of_decide_eq_true (by first | (with_reducible assumption) | assumption)); (obtain ⟨ad545, e545, hx545_0⟩ := Kd.at_int HR0.out x16_1 p545 q545); (cases e545); (replace hx545_0 := (HB.out.cell (World.block_lt_of_cell? w _ hx545_0)).trans hx545_0); (replace p545 := eq_true p545); (replace q545 := eq_true q545); (obtain ⟨Ao15, co15, eo15⟩ := Kd.V_slice HO_1.out); (subst eo15); (have p546 : 0 ≤ (0 : Int) := (by omega)); (have q546 : 0 < (x1_1.length : Int) := of_decide_eq_true (by first | (with_reducible assumption) | assumption)); (obtain ⟨ad546, e546, hx546_0⟩ := Kd.at_int (Kd.V_reads' HO_1.out).2.2 0 p546 q546); (cases e546); (have qi546 : (0 < x1_1.length) = True := eq_true (by omega)); ((try rw [show ((0 : Int)).toNat = 0 from rfl] at hx546_0)); ((try rw [Addr.add_zero'] at hx546_0)); (replace p546 := eq_true p546); (replace q546 := eq_true q546); (go_wp2_with (first | ((with_reducible refine gate_builtin (b := .append) (xs := #[.tmp 33, .tmp 35]) rfl ?_); at_builtin; refine Kd.R_append (Kd.int .i64) (w0 := w) w.heap.size rfl (.tmp 33) (.tmp 35) 25 3 (.int .i64 0) 8 rfl Try.underlying25 info3 rfl (by decide) (by omega) u6 x6_1 (rd l0 x16_1) [.int .i64 (rd l0 x16_1)] (fun k_ => (w.heap.size ≤ k_)) (fun _ => False) rfl rfl ?aP (fun _ hk => hk.elim) ?aF ?aO ?aB ?aS ?aL ?_; (case aP => exact rfl); (case aB => exact (nB_ HB.out)); (case aF => exact (fun k_ hk => (Nat.le_trans (below_size (nB_ HB.out)) hk))); (case aO => exact (nR_ HO_6.out)); (case aS => exact (below_size (nB_ HB.out))); (case aL => have := LMc14.out; omega); intro v553 w16 ho hb hg hat; rw [← Ny552.out] at ho; have n0_ := Aside0.mk (Kd.V_afterv (ok := (fun k_ => (P1_ k_ ∨ w.heap.size ≤ k_))) (by (with_reducible repeat (first | apply Kd.V_alloc | apply Kd.V_drewN | apply Kd.V_drew)); exact HO_1.out) hg hat); have n1_ := Aside0.mk (hb); have n2_ := Aside0.mk (ho); clear HO_1; clear HB; clear HO_6; have HO_1 := n0_; have HB := n1_; have HO554 := n2_; clear n0_ n1_ n2_; clear ho hb hg hat))); (go_roundg k1); (case measure => have := HK1.out; omega); (case rel => exact ⟨(x1_1), (y552), (wrap64 (x16_1 + 1)), (by first | rfl | (simp; done) | (simp [*]; done)), H', ⟨by have := HK1.out; omega⟩, ⟨by (with_reducible repeat (first | apply Kd.V_alloc | apply Kd.V_drewN | apply Kd.V_drew)); exact HO_1.out⟩, ⟨nR_ HO554.out⟩, ⟨by repeat (first | (with_reducible first | exact HB.out | apply below_alloc | apply pw_below_drewN | apply below_drew1) | exact HB.out)⟩⟩)
                    (· (rw [if_neg c14] at H); (exact absurd H (by simp)))
                (· (rw [if_neg c9] at H); (exact absurd H (by simp)))
              · (rw [if_neg c8] at H); (have c8b0 : decide (0 < (x1_1.length : Int)) = false := decide_eq_false c8); (have c8b1 : decide (0 < x1_1.length) = false := decide_eq_false (by omega)); (clear c8); (by_cases c17 : x6_1.length < 17592186044416)
                · (rw [if_pos c17] at H); (have LMc17 := Aside0.mk c17); (clear c17); (obtain ⟨y555, hy555⟩ : ∃ y_ : List Int, y_ = (x6_1 ++ [rd l0 x16_1]) := ⟨_, rfl⟩); (replace H : (fold_Left.l0 k1 x1_1 y555 l0 (l0.length : Int) (wrap64 (x16_1 + 1))) = some (r1, r2) := by first | (rw [hy555]; with_reducible exact H) | (have H2_ := (Option.bind_some _ _).symm.trans H; rw [hy555]; with_reducible exact H2_) | (have H2_ := (Option.bind_some _ _).symm.trans H; with_reducible exact H2_) | with_reducible exact H | (rw [hy555]; exact H) | exact H); (have Ny555 := Aside0.mk hy555); (clear hy555); (have H' := Aside0.mk H); (clear H); (have p545 : 0 ≤ (x16_1 : Int) := of_decide_eq_true (by first | (with_reducible assumption) | assumption)); (have q545 : x16_1 < (l0.length : Int) := of_decide_eq_true (by first | (with_reducible assumption) | assumption)); (obtain ⟨ad545, e545, hx545_0⟩ := Kd.at_int HR0.out x16_1 p545 q545); (cases e545); (replace hx545_0 := (HB.out.cell (World.block_lt_of_cell? w _ hx545_0)).trans hx545_0); (replace p545 := eq_true p545); (replace q545 := eq_true q545); (obtain ⟨Ao18, co18, eo18⟩ := Kd.V_slice HO_1.out); (subst eo18); (go_wp2_with (first | ((with_reducible refine gate_builtin (b := .append) (xs := #[.tmp 33, .tmp 35]) rfl ?_); at_builtin; refine Kd.R_append (Kd.int .i64) (w0 := w) w.heap.size rfl (.tmp 33) (.tmp 35) 25 3 (.int .i64 0) 8 rfl Try.underlying25 info3 rfl (by decide) (by omega) u6 x6_1 (rd l0 x16_1) [.int .i64 (rd l0 x16_1)] (fun k_ => (w.heap.size ≤ k_)) (fun _ => False) rfl rfl ?aP (fun _ hk => hk.elim) ?aF ?aO ?aB ?aS ?aL ?_; (case aP => exact rfl); (case aB => exact (nB_ HB.out)); (case aF => exact (fun k_ hk => (Nat.le_trans (below_size (nB_ HB.out)) hk))); (case aO => exact (nR_ HO_6.out)); (case aS => exact (below_size (nB_ HB.out))); (case aL => have := LMc17.out; omega); intro v556 w19 ho hb hg hat; rw [← Ny555.out] at ho; have n0_ := Aside0.mk (Kd.V_afterv (ok := (fun k_ => (P1_ k_ ∨ w.heap.size ≤ k_))) (by (with_reducible repeat (first | apply Kd.V_alloc | apply Kd.V_drewN | apply Kd.V_drew)); exact HO_1.out) hg hat); have n1_ := Aside0.mk (hb); have n2_ := Aside0.mk (ho); clear HO_1; clear HB; clear HO_6; have HO_1 := n0_; have HB := n1_; have HO557 := n2_; clear n0_ n1_ n2_; clear ho hb hg hat))); (go_roundg k1); (case measure => have := HK1.out; omega); (case rel => exact ⟨(x1_1), (y555), (wrap64 (x16_1 + 1)), (by first | rfl | (simp; done) | (simp [*]; done)), H', ⟨by have := HK1.out; omega⟩, ⟨by (with_reducible repeat (first | apply Kd.V_alloc | apply Kd.V_drewN | apply Kd.V_drew)); exact HO_1.out⟩, ⟨nR_ HO557.out⟩, ⟨by repeat (first | (with_reducible first | exact HB.out | apply below_alloc | apply pw_below_drewN | apply below_drew1) | exact HB.out)⟩⟩)
                (· (rw [if_neg c17] at H); (exact absurd H (by simp)))
            (· (rw [if_neg c7] at H); (exact absurd H (by simp)))
          (· (rw [if_neg c6] at H); (exact absurd H (by simp)))
        (· (rw [if_neg c5] at H); (have c5b0 : decide (x16_1 < (l0.length : Int)) = false := decide_eq_false c5); (clear c5); (simp only [Option.some.injEq, Prod.mk.injEq] at H); (obtain ⟨rfl, rfl⟩ := H); (go_wp2); (go_ret2); (exact ⟨_, by first | rfl | (simp [errW_none, errW_some] <;> rfl) | (simp [*, errW_none, errW_some] <;> rfl), by (with_reducible repeat (first | apply Kd.R_alloc | apply Kd.R_drewN | apply Kd.R_drew)); exact HO_6.out, by repeat (first | (with_reducible first | exact HB.out | apply below_alloc | apply pw_below_drewN | apply below_drew1) | exact HB.out)⟩))
  · (replace c4 := Bool.eq_false_iff.mpr c4); (subst c4); (have H1 : (some (([] : List Int), 1)) = some (r1, r2) := by rw [if_neg (show ¬ (false = true) by decide)] at H; exact H); (clear H); (have H := H1); (clear H1); (simp only [Option.some.injEq, Prod.mk.injEq] at H); (obtain ⟨rfl, rfl⟩ := H); (go_enter Try.func78, Try.ntmps78); (go_wp2_with (first | ((with_reducible refine gate_callee (f := 97) rfl ?_); refine goesL_ (some 12) rfl rfl Try.func97 (by kernel_rfl) rfl #[.slice A1 l1.length c1, .int .i64 (l0.length : Int)] rfl (by (try simp only [List.map_toArray, List.map_cons, List.map_nil]); first | done | rfl | (simp only [List.length_drop, List.length_take]; rfl)) ?_; (with_reducible refine (axes_Rising.calls k _ _ l1 (l0.length : Int) false _ ?side1 ?side2 A3.out).mono ?_); (case side1 => exact nC_ (Kd.V_reads' HO1.out).2.2); (case side2 => exact (Kd.V_reads' HO1.out).2.1); rintro e w' ⟨rfl, ⟨nd, rfl⟩⟩; refine ⟨_, rfl, ?_⟩))); (go_ret2); (exact ⟨_, by first | rfl | (simp [errW_none, errW_some] <;> rfl) | (simp [*, errW_none, errW_some] <;> rfl), by first | exact Kd.R_nil _ _ _ _ _ | exact Kd.N_nil _ _ _ _ _ | exact Kd.V_nil _ _ _ _ _ | exact Kd.Q_nil _ _ _ _ _ | exact Kd.S_nil _ _ _ _ _, by repeat (first | (with_reducible first | exact HB.out | apply below_alloc | apply pw_below_drewN | apply below_drew1) | exact HB.out)⟩)
/-! ### shape_Index: function 82 -/
mutual
def shape_Index.j0 : Nat → List Int → List Int → Bool → Option (Int)
  | 0, _, _, _ => none
  | k + 1, x0, x1, x17 => if x17 = true then (some (-1)) else (shape_Index.l0 k x0 0 x1 (x1.length : Int) 0)
def shape_Index.l0 : Nat → List Int → Int → List Int → Int → Int → Option (Int)
  | 0, _, _, _, _, _ => none
  | k + 1, x0, x5, x18, x19, x20 => if x20 < x19 then (if 0 ≤ x20 then (if x20 < (x18.length : Int) then (if (rd x18 x20) < 0 then (some (-1)) else (if x20 < (x0.length : Int) then (if (rd x18 x20) ≥ (rd x0 x20) then (some (-1)) else (shape_Index.l0 k x0 (wrap64 ((wrap64 (x5 * (rd x0 x20))) + (rd x18 x20))) x18 x19 (wrap64 (x20 + 1)))) else (none))) else (none)) else (none)) else (some x5)
end
def shape_Index.f (k : Nat) (l0 : List Int) (l1 : List Int) : Option (Int) := (shape_Right.f k l0).bind fun t558 => (if t558 = true then (shape_Index.j0 k l0 l1 ((l1.length : Int) != (l0.length : Int))) else (shape_Index.j0 k l0 l1 true))
theorem shape_Index.mono_l : ∀ k, (∀ y0 y1 y2, LeO (shape_Index.j0 k y0 y1 y2) (shape_Index.j0 (k + 1) y0 y1 y2)) ∧ (∀ y0 y1 y2 y3 y4, LeO (shape_Index.l0 k y0 y1 y2 y3 y4) (shape_Index.l0 (k + 1) y0 y1 y2 y3 y4))
  | 0 => ⟨fun _ _ _ r h => by simp [shape_Index.j0] at h, fun _ _ _ _ _ r h => by simp [shape_Index.l0] at h⟩
  | k + 1 => by
    obtain ⟨ih0, ih1⟩ := shape_Index.mono_l k
    refine ⟨?_, ?_⟩
    · intro y0 y1 y2
      unfold shape_Index.j0
      repeat' first | (with_reducible first | exact ih0 _ _ _ | exact ih1 _ _ _ _ _ | exact shape_Right.mono _ _ | exact LeO.refl _ | exact LeO.none _ | refine LeO.ite ?_ ?_ | refine LeO.bind ?_ (fun _ => ?_)) | exact ih0 _ _ _ | exact ih1 _ _ _ _ _ | exact LeO.none _ | refine LeO.ite ?_ ?_ | refine LeO.bind ?_ (fun _ => ?_)
    · intro y0 y1 y2 y3 y4
      unfold shape_Index.l0
      repeat' first | (with_reducible first | exact ih0 _ _ _ | exact ih1 _ _ _ _ _ | exact shape_Right.mono _ _ | exact LeO.refl _ | exact LeO.none _ | refine LeO.ite ?_ ?_ | refine LeO.bind ?_ (fun _ => ?_)) | exact ih0 _ _ _ | exact ih1 _ _ _ _ _ | exact LeO.none _ | refine LeO.ite ?_ ?_ | refine LeO.bind ?_ (fun _ => ?_)
theorem shape_Index.mono : ∀ a0 a1 k, LeO (shape_Index.f k a0 a1) (shape_Index.f (k + 1) a0 a1) := by
  intro a0 a1 k
  obtain ⟨ih0, ih1⟩ := shape_Index.mono_l k
  unfold shape_Index.f
  repeat' first | (with_reducible first | exact ih0 _ _ _ | exact ih1 _ _ _ _ _ | exact shape_Right.mono _ _ | exact LeO.refl _ | exact LeO.none _ | refine LeO.ite ?_ ?_ | refine LeO.bind ?_ (fun _ => ?_)) | exact ih0 _ _ _ | exact ih1 _ _ _ _ _ | exact LeO.none _ | refine LeO.ite ?_ ?_ | refine LeO.bind ?_ (fun _ => ?_)

set_option maxHeartbeats 8000000 in
set_option maxRecDepth 100000 in
theorem shape_Index.calls (k : Nat) (A0 : Option Addr) (c0 : Nat) (l0 : List Int) (A1 : Option Addr) (c1 : Nat) (l1 : List Int) (r : Int) (w : World) (hr0 : Kd.C (Kd.int .i64) w A0 l0.length l0) (hc0 : l0.length ≤ c0) (hr1 : Kd.C (Kd.int .i64) w A1 l1.length l1) (hc1 : l1.length ≤ c1) (h : shape_Index.f k l0 l1 = some r) :
    Calls Try.prog 82 #[.slice A0 l0.length c0, .slice A1 l1.length c1] w fun e w' => e = .returned (.int .i64 r) ∧ Drawn0 w w' := by
  (have HR0 := Aside0.mk hr0); (have HC0 := Aside0.mk hc0); (clear hr0 hc0); (have HR1 := Aside0.mk hr1); (have HC1 := Aside0.mk hc1); (clear hr1 hc1); (have H : ((shape_Right.f k l0).bind fun t558 => (if t558 = true then (shape_Index.j0 k l0 l1 ((l1.length : Int) != (l0.length : Int))) else (shape_Index.j0 k l0 l1 true))) = some r := h); (clear h); (have HC3 := Aside0.mk H); (clear H); (go_enter Try.func82, Try.ntmps82); (go_upto_region 1 with (fail)); (go_cut [17] (fun v17 wc => ∃ (kq : Nat) (x17_2 : Bool), v17 = .bool x17_2 ∧ Aside0 (shape_Index.j0 kq l0 l1 x17_2 = some r) ∧ Aside0 (kq ≤ k) ∧ Drawn0 w wc))
  case first =>
    (have H := HC3.out); (clear HC3); (replace H := Option.bind_eq_some_iff.mp H); (obtain ⟨t558, A40, H⟩ := H); (replace H : (if t558 = true then (shape_Index.j0 k l0 l1 ((l1.length : Int) != (l0.length : Int))) else (shape_Index.j0 k l0 l1 true)) = some r := H); (have A4 := Aside0.mk A40); (clear A40); (by_cases c5 : t558 = true)
    · (subst c5); (have H1 : (shape_Index.j0 k l0 l1 ((l1.length : Int) != (l0.length : Int))) = some r := by rw [if_pos rfl] at H; exact H); (clear H); (have H := H1); (clear H1); (have H' := Aside0.mk H); (clear H); (go_wp2_with (first | ((with_reducible refine gate_callee (f := 79) rfl ?_); refine goesL_ (some 9) rfl rfl Try.func79 (by kernel_rfl) rfl #[.slice A0 l0.length c0] rfl (by (try simp only [List.map_toArray, List.map_cons, List.map_nil]); first | done | rfl | (simp only [List.length_drop, List.length_take]; rfl)) ?_; (with_reducible refine (shape_Right.calls k _ _ l0 true _ ?side1 ?side2 A4.out).mono ?_); (case side1 => exact nC_ HR0.out); (case side2 => exact HC0.out); rintro e w' ⟨rfl, ⟨nd, rfl⟩⟩; refine ⟨_, rfl, ?_⟩))); (go_meet); (case rel => exact ⟨_, (((l1.length : Int) != (l0.length : Int))), (by first | rfl | (simp; done) | (simp [*]; done)), H', ⟨by first | omega | exact Nat.le_refl _⟩, by repeat (first | exact Drawn0.refl _ | apply Drawn0.step)⟩)
    · (replace c5 := Bool.eq_false_iff.mpr c5); (subst c5); (have H1 : (shape_Index.j0 k l0 l1 true) = some r := by rw [if_neg (show ¬ (false = true) by decide)] at H; exact H); (clear H); (have H := H1); (clear H1); (have H' := Aside0.mk H); (clear H); (go_wp2_with (first | ((with_reducible refine gate_callee (f := 79) rfl ?_); refine goesL_ (some 9) rfl rfl Try.func79 (by kernel_rfl) rfl #[.slice A0 l0.length c0] rfl (by (try simp only [List.map_toArray, List.map_cons, List.map_nil]); first | done | rfl | (simp only [List.length_drop, List.length_take]; rfl)) ?_; (with_reducible refine (shape_Right.calls k _ _ l0 false _ ?side1 ?side2 A4.out).mono ?_); (case side1 => exact nC_ HR0.out); (case side2 => exact HC0.out); rintro e w' ⟨rfl, ⟨nd, rfl⟩⟩; refine ⟨_, rfl, ?_⟩))); (go_meet); (case rel => exact ⟨_, (true), (by first | rfl | (simp; done) | (simp [*]; done)), H', ⟨by first | omega | exact Nat.le_refl _⟩, by repeat (first | exact Drawn0.refl _ | apply Drawn0.step)⟩)
  case rest =>
    (clear HC3); (try clear c1); (try clear p2); (try clear c5); (obtain ⟨kq, x17_2, rfl, HA, HJ2, ⟨mc2, rfl⟩⟩ := hcut)
    cases kq with
    | zero => exact absurd HA.out (by simp [shape_Index.j0])
    | succ kj2 =>
      (have H := HA.out); (clear HA); (simp only [shape_Index.j0] at H); (by_cases c6 : x17_2 = true); (· (subst c6); (have H1 : (some (-1)) = some r := by rw [if_pos rfl] at H; exact H); (clear H); (have H := H1); (clear H1); (obtain rfl := Option.some.inj H); (go_wp2); (go_ret); (exact ⟨by first | rfl | (simp; done) | (simp [*]; done), by repeat (first | exact Drawn0.refl _ | apply Drawn0.step)⟩))
      · (replace c6 := Bool.eq_false_iff.mpr c6); (subst c6); (have H1 : (shape_Index.l0 kj2 l0 0 l1 (l1.length : Int) 0) = some r := by rw [if_neg (show ¬ (false = true) by decide)] at H; exact H); (clear H); (have H := H1); (clear H1); (have H' := Aside0.mk H); (clear H); (go_wp2); (go_loopg [5, 20] kj2 (fun kq v5 v20 w' => ∃ (x5_2 : Int) (x20_2 : Int), v5 = .int .i64 x5_2 ∧ v20 = .int .i64 x20_2 ∧ Aside0 (shape_Index.l0 kq l0 x5_2 l1 (l1.length : Int) x20_2 = some r) ∧ Aside0 (kq ≤ kj2) ∧ Drawn0 w w')); (case atStart => exact ⟨(0), (0), (by first | rfl | (simp; done) | (simp [*]; done)), (by first | rfl | (simp; done) | (simp [*]; done)), H', ⟨Nat.le_refl _⟩, by repeat (first | exact Drawn0.refl _ | apply Drawn0.step)⟩)
        case round =>
          (clear H'); (try clear c1); (try clear c2); (try clear p2); (try clear c5); (try clear c6); (try clear p2); (obtain ⟨x5_2, x20_2, rfl, rfl, HA, HK2, ⟨m2, rfl⟩⟩ := hrel)
          cases gk with
          | zero => exact absurd HA.out (by simp [shape_Index.l0])
          | succ k2 =>
            (have H := HA.out); (clear HA); (simp only [shape_Index.l0] at H); (by_cases c7 : x20_2 < (l1.length : Int))
            · (rw [if_pos c7] at H); (have c7b0 : decide (x20_2 < (l1.length : Int)) = true := decide_eq_true c7); (clear c7); (by_cases c8 : 0 ≤ x20_2)
              · (rw [if_pos c8] at H); (have c8b0 : decide (0 ≤ x20_2) = true := decide_eq_true c8); (clear c8); (by_cases c9 : x20_2 < (l1.length : Int))
                · (rw [if_pos c9] at H); (have c9b0 : decide (x20_2 < (l1.length : Int)) = true := decide_eq_true c9); (clear c9); (by_cases c10 : (rd l1 x20_2) < 0)
                  · (rw [if_pos c10] at H); (have c10b0 : decide ((rd l1 x20_2) < 0) = true := decide_eq_true c10); (clear c10); (obtain rfl := Option.some.inj H); (have p559 : 0 ≤ (x20_2 : Int) := of_decide_eq_true (by first | (with_reducible assumption) | assumption)); (have q559 : x20_2 < (l1.length : Int) := of_decide_eq_true (by first | (with_reducible assumption) | assumption)); (obtain ⟨ad559, e559, hx559_0⟩ := Kd.at_int HR1.out x20_2 p559 q559); (cases e559); (replace p559 := eq_true p559); (replace q559 := eq_true q559); (go_wp2); (go_ret); (exact ⟨by first | rfl | (simp; done) | (simp [*]; done), by repeat (first | exact Drawn0.refl _ | apply Drawn0.step)⟩)
                  · (rw [if_neg c10] at H); (have c10b0 : decide ((rd l1 x20_2) < 0) = false := decide_eq_false c10); (clear c10); (by_cases c11 : x20_2 < (l0.length : Int))
                    · (rw [if_pos c11] at H); (have c11b0 : decide (x20_2 < (l0.length : Int)) = true := decide_eq_true c11); (clear c11); (by_cases c12 : (rd l1 x20_2) ≥ (rd l0 x20_2))
                      · (rw [if_pos c12] at H); (have c12b0 : decide ((rd l0 x20_2) ≤ (rd l1 x20_2)) = true := decide_eq_true c12); (clear c12); (obtain rfl := Option.some.inj H); (have p559 : 0 ≤ (x20_2 : Int) := of_decide_eq_true (by first | (with_reducible assumption) | assumption)); (have q559 : x20_2 < (l1.length : Int) := of_decide_eq_true (by first | (with_reducible assumption) | assumption)); (obtain ⟨ad559, e559, hx559_0⟩ := Kd.at_int HR1.out x20_2 p559 q559); (cases e559); (replace p559 := eq_true p559); (replace q559 := eq_true q559); (have p560 : 0 ≤ (x20_2 : Int) := of_decide_eq_true (by first | (with_reducible assumption) | assumption)); (have q560 : x20_2 < (l0.length : Int) := of_decide_eq_true (by first | (with_reducible assumption) | assumption)); (obtain ⟨ad560, e560, hx560_0⟩ := Kd.at_int HR0.out x20_2 p560 q560); (cases e560); (replace p560 := eq_true p560); (replace q560 := eq_true q560); (go_wp2); (go_ret); (exact ⟨by first | rfl | (simp; done) | (simp [*]; done), by repeat (first | exact Drawn0.refl _ | apply Drawn0.step)⟩)
                      · (rw [if_neg c12] at H); (have c12b0 : decide ((rd l0 x20_2) ≤ (rd l1 x20_2)) = false := decide_eq_false c12); (clear c12); (have H' := Aside0.mk H); (clear H); (have p559 : 0 ≤ (x20_2 : Int) := of_decide_eq_true (by first | (with_reducible assumption) | assumption)); (have q559 : x20_2 < (l1.length : Int) := of_decide_eq_true (by first | (with_reducible assumption) | assumption)); (obtain ⟨ad559, e559, hx559_0⟩ := Kd.at_int HR1.out x20_2 p559 q559); (cases e559); (replace p559 := eq_true p559); (replace q559 := eq_true q559); (have p560 : 0 ≤ (x20_2 : Int) := of_decide_eq_true (by first | (with_reducible assumption) | assumption)); (have q560 : x20_2 < (l0.length : Int) := of_decide_eq_true (by first | (with_reducible assumption) | assumption)); (obtain ⟨ad560, e560, hx560_0⟩ := Kd.at_int HR0.out x20_2 p560 q560); (cases e560); (replace p560 := eq_true p560); (replace q560 := eq_true q560); (have p561 : 0 ≤ (x20_2 : Int) := of_decide_eq_true (by first | (with_reducible assumption) | assumption)); (have q561 : x20_2 < (l0.length : Int) := of_decide_eq_true (by first | (with_reducible assumption) | assumption)); (obtain ⟨ad561, e561, hx561_0⟩ := Kd.at_int HR0.out x20_2 p561 q561); (obtain rfl : ad560 = ad561 := (by injection e561)); (replace p561 := eq_true p561); (replace q561 := eq_true q561); (go_wp2); (go_roundg k2); (case measure => have := HJ2.out; have := HK2.out; omega); (case rel => exact ⟨(wrap64 ((wrap64 (x5_2 * (rd l0 x20_2))) + (rd l1 x20_2))), (wrap64 (x20_2 + 1)), (by first | rfl | (simp; done) | (simp [*]; done)), (by first | rfl | (simp; done) | (simp [*]; done)), H', ⟨by have := HJ2.out; have := HK2.out; omega⟩, by repeat (first | exact Drawn0.refl _ | apply Drawn0.step)⟩)
                    (· (rw [if_neg c11] at H); (exact absurd H (by simp)))
                (· (rw [if_neg c9] at H); (exact absurd H (by simp)))
              (· (rw [if_neg c8] at H); (exact absurd H (by simp)))
            (· (rw [if_neg c7] at H); (have c7b0 : decide (x20_2 < (l1.length : Int)) = false := decide_eq_false c7); (clear c7); (obtain rfl := Option.some.inj H); (go_wp2); (go_ret); (exact ⟨by first | rfl | (simp; done) | (simp [*]; done), by repeat (first | exact Drawn0.refl _ | apply Drawn0.step)⟩))
/-! ### fold_None: function 44 -/
def fold_None.f (a0 : Int) : Option (Int) := if a0 = 2 then (some 1) else (if a0 = 3 then (some 9223372036854775807) else (if a0 = 4 then (some (-9223372036854775808)) else (some 0)))
set_option maxHeartbeats 8000000 in
set_option maxRecDepth 100000 in
theorem fold_None.calls (a0 : Int) (r : Int) (w : World) (h : fold_None.f a0 = some r) :
    Calls Try.prog 44 #[.int .i64 a0] w fun e w' => e = .returned (.int .i64 r) ∧ Drawn0 w w' := by
  have H : (if a0 = 2 then (some 1) else (if a0 = 3 then (some 9223372036854775807) else (if a0 = 4 then (some (-9223372036854775808)) else (some 0)))) = some r := h
  clear h
  by_cases c2 : a0 = 2
  · rw [if_pos c2] at H
    have c2b0 : (a0 == 2) = true := beq_iff_eq.mpr c2
    have c2b1 : (a0 != 2) = false := bne_eq_false_iff_eq.mpr c2
    clear c2
    obtain rfl := Option.some.inj H
    go_enter Try.func44, Try.ntmps44
    go_wp2
    go_ret
    exact ⟨by first | rfl | (simp; done) | (simp [*]; done), by repeat (first | exact Drawn0.refl _ | apply Drawn0.step)⟩
  · rw [if_neg c2] at H
    have c2b0 : (a0 == 2) = false := beq_eq_false_iff_ne.mpr c2
    have c2b1 : (a0 != 2) = true := bne_iff_ne.mpr c2
    by_cases c3 : a0 = 3
    · rw [if_pos c3] at H
      have c3b0 : (a0 == 3) = true := beq_iff_eq.mpr c3
      have c3b1 : (a0 != 3) = false := bne_eq_false_iff_eq.mpr c3
      clear c3
      obtain rfl := Option.some.inj H
      go_enter Try.func44, Try.ntmps44
      go_wp2
      go_ret
      exact ⟨by first | rfl | (simp; done) | (simp [*]; done), by repeat (first | exact Drawn0.refl _ | apply Drawn0.step)⟩
    · rw [if_neg c3] at H
      have c3b0 : (a0 == 3) = false := beq_eq_false_iff_ne.mpr c3
      have c3b1 : (a0 != 3) = true := bne_iff_ne.mpr c3
      by_cases c4 : a0 = 4
      · rw [if_pos c4] at H
        have c4b0 : (a0 == 4) = true := beq_iff_eq.mpr c4
        have c4b1 : (a0 != 4) = false := bne_eq_false_iff_eq.mpr c4
        clear c4
        obtain rfl := Option.some.inj H
        go_enter Try.func44, Try.ntmps44
        go_wp2
        go_ret
        exact ⟨by first | rfl | (simp; done) | (simp [*]; done), by repeat (first | exact Drawn0.refl _ | apply Drawn0.step)⟩
      · rw [if_neg c4] at H
        have c4b0 : (a0 == 4) = false := beq_eq_false_iff_ne.mpr c4
        have c4b1 : (a0 != 4) = true := bne_iff_ne.mpr c4
        obtain rfl := Option.some.inj H
        go_enter Try.func44, Try.ntmps44
        go_wp2
        go_ret
        exact ⟨by first | rfl | (simp; done) | (simp [*]; done), by repeat (first | exact Drawn0.refl _ | apply Drawn0.step)⟩

-- NOT PRINTED: function 80 (fold_Do_1)

end Go.Proofs.Ytkeclgfnlpkjeaa.Q
