-- Printed by a program (a variant of the kit print, with contracts of our own).
import Derived.Test.YtkeclgfnlpkjeaaQx0
import Derived.Test.YtkeclgfnlpkjeaaQx4
import Derived.Test.YtkeclgfnlpkjeaaQx5
namespace Go.Proofs.Ytkeclgfnlpkjeaa.Q
open Go.RowKit Go.Proofs.YtkeclgfnlpkjeaaW.PrintWords Go.Proofs.YtkeclgfnlpkjeaaW.PrintLast Go.Proofs.YtkeclgfnlpkjeaaW.PrintMore
attribute [local go_sem] max2_int min2_int max_two min_two max_three min_three max_four min_four   -- for this text's walks alone
set_option linter.unusedVariables false
set_option linter.unusedSimpArgs false

/-! ### parquetryref4_Put: function 40 -/
def parquetryref4_Put.f (a0 : Int) (a1 : Int) (a2 : Int) : Option (Int) := if a0 = 1 then (some (wrap64 (a1 + a2))) else (if a0 = 2 then (some (wrap64 (a1 * a2))) else (if a0 = 3 then (some (mn a1 a2)) else (if a0 = 4 then (some (mx a1 a2)) else (some 0))))
set_option maxHeartbeats 8000000 in
set_option maxRecDepth 100000 in
theorem parquetryref4_Put.calls (a0 : Int) (a1 : Int) (a2 : Int) (r : Int) (w : World) (h : parquetryref4_Put.f a0 a1 a2 = some r) :
    Calls Try.prog 40 #[.int .i64 a0, .int .i64 a1, .int .i64 a2] w fun e w' => e = .returned (.int .i64 r) ∧ Below w.heap.size w w' := by
  have HB := Aside0.mk (Below.refl w.heap.size w)
  have H : (if a0 = 1 then (some (wrap64 (a1 + a2))) else (if a0 = 2 then (some (wrap64 (a1 * a2))) else (if a0 = 3 then (some (mn a1 a2)) else (if a0 = 4 then (some (mx a1 a2)) else (some 0))))) = some r := h
  clear h
  by_cases c4 : a0 = 1
  · rw [if_pos c4] at H
    have c4b0 : (a0 == 1) = true := beq_iff_eq.mpr c4
    have c4b1 : (a0 != 1) = false := bne_eq_false_iff_eq.mpr c4
    clear c4
    obtain rfl := Option.some.inj H
    go_enter Try.func40, Try.ntmps40
    go_wp2
    go_ret
    exact ⟨by first | rfl | (simp [errW_none, errW_some] <;> rfl) | (simp [*, errW_none, errW_some] <;> rfl), by repeat (first | (with_reducible first | exact HB.out | apply below_alloc | apply pw_below_drewN | apply below_drew1) | exact HB.out)⟩
  · rw [if_neg c4] at H
    have c4b0 : (a0 == 1) = false := beq_eq_false_iff_ne.mpr c4
    have c4b1 : (a0 != 1) = true := bne_iff_ne.mpr c4
    by_cases c5 : a0 = 2
    · rw [if_pos c5] at H
      have c5b0 : (a0 == 2) = true := beq_iff_eq.mpr c5
      have c5b1 : (a0 != 2) = false := bne_eq_false_iff_eq.mpr c5
      clear c5
      obtain rfl := Option.some.inj H
      go_enter Try.func40, Try.ntmps40
      go_wp2
      go_ret
      exact ⟨by first | rfl | (simp [errW_none, errW_some] <;> rfl) | (simp [*, errW_none, errW_some] <;> rfl), by repeat (first | (with_reducible first | exact HB.out | apply below_alloc | apply pw_below_drewN | apply below_drew1) | exact HB.out)⟩
    · rw [if_neg c5] at H
      have c5b0 : (a0 == 2) = false := beq_eq_false_iff_ne.mpr c5
      have c5b1 : (a0 != 2) = true := bne_iff_ne.mpr c5
      by_cases c6 : a0 = 3
      · rw [if_pos c6] at H
        have c6b0 : (a0 == 3) = true := beq_iff_eq.mpr c6
        have c6b1 : (a0 != 3) = false := bne_eq_false_iff_eq.mpr c6
        clear c6
        obtain ⟨ji7, hji7⟩ : ∃ j_ : Int, (mn a1 a2) = j_ := ⟨_, rfl⟩
        replace H : (some ji7) = some r := by first | (rw [hji7] at H; exact H) | (simp only [hji7] at H ⊢; exact H)
        have hji7_ : (if a2 < a1 then a2 else a1) = ji7 := hji7
        obtain rfl := Option.some.inj H
        go_enter Try.func40, Try.ntmps40
        go_wp2
        go_ret
        exact ⟨by first | rfl | (simp [errW_none, errW_some] <;> rfl) | (simp only [← hji7]; first | rfl | (simp [errW_none, errW_some] <;> rfl)) | (simp [*, errW_none, errW_some] <;> rfl), by repeat (first | (with_reducible first | exact HB.out | apply below_alloc | apply pw_below_drewN | apply below_drew1) | exact HB.out)⟩
      · rw [if_neg c6] at H
        have c6b0 : (a0 == 3) = false := beq_eq_false_iff_ne.mpr c6
        have c6b1 : (a0 != 3) = true := bne_iff_ne.mpr c6
        by_cases c8 : a0 = 4
        · rw [if_pos c8] at H
          have c8b0 : (a0 == 4) = true := beq_iff_eq.mpr c8
          have c8b1 : (a0 != 4) = false := bne_eq_false_iff_eq.mpr c8
          clear c8
          obtain ⟨ji9, hji9⟩ : ∃ j_ : Int, (mx a1 a2) = j_ := ⟨_, rfl⟩
          replace H : (some ji9) = some r := by first | (rw [hji9] at H; exact H) | (simp only [hji9] at H ⊢; exact H)
          have hji9_ : (if a1 < a2 then a2 else a1) = ji9 := hji9
          obtain rfl := Option.some.inj H
          go_enter Try.func40, Try.ntmps40
          go_wp2
          go_ret
          exact ⟨by first | rfl | (simp [errW_none, errW_some] <;> rfl) | (simp only [← hji9]; first | rfl | (simp [errW_none, errW_some] <;> rfl)) | (simp [*, errW_none, errW_some] <;> rfl), by repeat (first | (with_reducible first | exact HB.out | apply below_alloc | apply pw_below_drewN | apply below_drew1) | exact HB.out)⟩
        · rw [if_neg c8] at H
          have c8b0 : (a0 == 4) = false := beq_eq_false_iff_ne.mpr c8
          have c8b1 : (a0 != 4) = true := bne_iff_ne.mpr c8
          obtain rfl := Option.some.inj H
          go_enter Try.func40, Try.ntmps40
          go_wp2
          go_ret
          exact ⟨by first | rfl | (simp [errW_none, errW_some] <;> rfl) | (simp [*, errW_none, errW_some] <;> rfl), by repeat (first | (with_reducible first | exact HB.out | apply below_alloc | apply pw_below_drewN | apply below_drew1) | exact HB.out)⟩

/-! ### parquetryref4_How: function 70 -/
def parquetryref4_How.f (a0 : Int) : Option (Bool) := if a0 ≥ 1 then (some (decide (a0 ≤ 4))) else (some false)
set_option maxHeartbeats 8000000 in
set_option maxRecDepth 100000 in
theorem parquetryref4_How.calls (a0 : Int) (r : Bool) (w : World) (h : parquetryref4_How.f a0 = some r) :
    Calls Try.prog 70 #[.int .i64 a0] w fun e w' => e = .returned (.bool r) ∧ Drawn0 w w' := by
  have H : (if a0 ≥ 1 then (some (decide (a0 ≤ 4))) else (some false)) = some r := h
  clear h
  by_cases c2 : a0 ≥ 1
  · rw [if_pos c2] at H
    have c2b0 : decide (1 ≤ a0) = true := decide_eq_true c2
    clear c2
    obtain rfl := Option.some.inj H
    go_enter Try.func70, Try.ntmps70
    go_wp2
    go_ret
    exact ⟨by first | rfl | (simp; done) | (simp [*]; done), by repeat (first | exact Drawn0.refl _ | apply Drawn0.step)⟩
  · rw [if_neg c2] at H
    have c2b0 : decide (1 ≤ a0) = false := decide_eq_false c2
    clear c2
    obtain rfl := Option.some.inj H
    go_enter Try.func70, Try.ntmps70
    go_wp2
    go_ret
    exact ⟨by first | rfl | (simp; done) | (simp [*]; done), by repeat (first | exact Drawn0.refl _ | apply Drawn0.step)⟩

/-! ### parquetryref4_None: function 74 -/
def parquetryref4_None.f (a0 : Int) : Option (Int) := if a0 = 2 then (some 1) else (if a0 = 3 then (some 9223372036854775807) else (if a0 = 4 then (some (-9223372036854775808)) else (some 0)))
set_option maxHeartbeats 8000000 in
set_option maxRecDepth 100000 in
theorem parquetryref4_None.calls (a0 : Int) (r : Int) (w : World) (h : parquetryref4_None.f a0 = some r) :
    Calls Try.prog 74 #[.int .i64 a0] w fun e w' => e = .returned (.int .i64 r) ∧ Drawn0 w w' := by
  have H : (if a0 = 2 then (some 1) else (if a0 = 3 then (some 9223372036854775807) else (if a0 = 4 then (some (-9223372036854775808)) else (some 0)))) = some r := h
  clear h
  by_cases c2 : a0 = 2
  · rw [if_pos c2] at H
    have c2b0 : (a0 == 2) = true := beq_iff_eq.mpr c2
    have c2b1 : (a0 != 2) = false := bne_eq_false_iff_eq.mpr c2
    clear c2
    obtain rfl := Option.some.inj H
    go_enter Try.func74, Try.ntmps74
    go_wp2
    go_ret
    exact ⟨by first | rfl | (simp; done) | (simp [*]; done), by repeat (first | exact Drawn0.refl _ | apply Drawn0.step)⟩
  · rw [if_neg c2] at H
    have c2b0 : (a0 == 2) = false := beq_eq_false_iff_ne.mpr c2
    have c2b1 : (a0 != 2) = true := bne_iff_ne.mpr c2
    by_cases c3 : a0 = 3
    · rw [if_pos c3] at H
      have c3b0 : (a0 == 3) = true := beq_iff_eq.mpr c3
      have c3b1 : (a0 != 3) = false := bne_eq_false_iff_eq.mpr c3
      clear c3
      obtain rfl := Option.some.inj H
      go_enter Try.func74, Try.ntmps74
      go_wp2
      go_ret
      exact ⟨by first | rfl | (simp; done) | (simp [*]; done), by repeat (first | exact Drawn0.refl _ | apply Drawn0.step)⟩
    · rw [if_neg c3] at H
      have c3b0 : (a0 == 3) = false := beq_eq_false_iff_ne.mpr c3
      have c3b1 : (a0 != 3) = true := bne_iff_ne.mpr c3
      by_cases c4 : a0 = 4
      · rw [if_pos c4] at H
        have c4b0 : (a0 == 4) = true := beq_iff_eq.mpr c4
        have c4b1 : (a0 != 4) = false := bne_eq_false_iff_eq.mpr c4
        clear c4
        obtain rfl := Option.some.inj H
        go_enter Try.func74, Try.ntmps74
        go_wp2
        go_ret
        exact ⟨by first | rfl | (simp; done) | (simp [*]; done), by repeat (first | exact Drawn0.refl _ | apply Drawn0.step)⟩
      · rw [if_neg c4] at H
        have c4b0 : (a0 == 4) = false := beq_eq_false_iff_ne.mpr c4
        have c4b1 : (a0 != 4) = true := bne_iff_ne.mpr c4
        obtain rfl := Option.some.inj H
        go_enter Try.func74, Try.ntmps74
        go_wp2
        go_ret
        exact ⟨by first | rfl | (simp; done) | (simp [*]; done), by repeat (first | exact Drawn0.refl _ | apply Drawn0.step)⟩

/-! ### parquetryref1_Place: function 75 -/
mutual
def parquetryref1_Place.j0 : Nat → List Int → Int → Bool → Option (List Int)
  | 0, _, _, _ => none
  | k + 1, x0, x1, x14 => if x14 = true then (some ([] : List Int)) else (if 0 ≤ (x0.length : Int) then (if ((x0.length : Int) : Int).toNat ≤ 35184372088832 then (parquetryref1_Place.l0 k x0 x1 (List.replicate ((x0.length : Int) : Int).toNat 0) (wrap64 ((x0.length : Int) - 1))) else (none)) else (none))
def parquetryref1_Place.l0 : Nat → List Int → Int → List Int → Int → Option (List Int)
  | 0, _, _, _, _ => none
  | k + 1, x0, x1, x5, x6 => if x6 ≥ 0 then (if 0 ≤ x6 then (if x6 < (x0.length : Int) then (if (rd x0 x6) = 0 then (none) else (if x6 < (x5.length : Int) then (parquetryref1_Place.l0 k x0 (wrap64 (Int.tdiv x1 (rd x0 x6))) (x5.set (x6 : Int).toNat (Int.tmod x1 (rd x0 x6))) (wrap64 (x6 - 1))) else (none))) else (none)) else (none)) else (some x5)
end
def parquetryref1_Place.f (k : Nat) (l0 : List Int) (a1 : Int) : Option (List Int) := if a1 < 0 then (parquetryref1_Place.j0 k l0 a1 true) else ((parquetryref1_Size.f k l0).bind fun t398 => (parquetryref1_Place.j0 k l0 a1 (decide (a1 ≥ t398))))
theorem parquetryref1_Place.mono_l : ∀ k, (∀ y0 y1 y2, LeO (parquetryref1_Place.j0 k y0 y1 y2) (parquetryref1_Place.j0 (k + 1) y0 y1 y2)) ∧ (∀ y0 y1 y2 y3, LeO (parquetryref1_Place.l0 k y0 y1 y2 y3) (parquetryref1_Place.l0 (k + 1) y0 y1 y2 y3))
  | 0 => ⟨fun _ _ _ r h => by simp [parquetryref1_Place.j0] at h, fun _ _ _ _ r h => by simp [parquetryref1_Place.l0] at h⟩
  | k + 1 => by
    obtain ⟨ih0, ih1⟩ := parquetryref1_Place.mono_l k
    refine ⟨?_, ?_⟩
    · intro y0 y1 y2
      unfold parquetryref1_Place.j0
      repeat' first | (with_reducible first | exact ih0 _ _ _ | exact ih1 _ _ _ _ | exact parquetryref1_Size.mono _ _ | exact LeO.refl _ | exact LeO.none _ | refine LeO.ite ?_ ?_ | refine LeO.bind ?_ (fun _ => ?_)) | exact ih0 _ _ _ | exact ih1 _ _ _ _ | exact LeO.none _ | refine LeO.ite ?_ ?_ | refine LeO.bind ?_ (fun _ => ?_)
    · intro y0 y1 y2 y3
      unfold parquetryref1_Place.l0
      repeat' first | (with_reducible first | exact ih0 _ _ _ | exact ih1 _ _ _ _ | exact parquetryref1_Size.mono _ _ | exact LeO.refl _ | exact LeO.none _ | refine LeO.ite ?_ ?_ | refine LeO.bind ?_ (fun _ => ?_)) | exact ih0 _ _ _ | exact ih1 _ _ _ _ | exact LeO.none _ | refine LeO.ite ?_ ?_ | refine LeO.bind ?_ (fun _ => ?_)
theorem parquetryref1_Place.mono : ∀ a0 a1 k, LeO (parquetryref1_Place.f k a0 a1) (parquetryref1_Place.f (k + 1) a0 a1) := by
  intro a0 a1 k
  obtain ⟨ih0, ih1⟩ := parquetryref1_Place.mono_l k
  unfold parquetryref1_Place.f
  repeat' first | (with_reducible first | exact ih0 _ _ _ | exact ih1 _ _ _ _ | exact parquetryref1_Size.mono _ _ | exact LeO.refl _ | exact LeO.none _ | refine LeO.ite ?_ ?_ | refine LeO.bind ?_ (fun _ => ?_)) | exact ih0 _ _ _ | exact ih1 _ _ _ _ | exact LeO.none _ | refine LeO.ite ?_ ?_ | refine LeO.bind ?_ (fun _ => ?_)

set_option maxHeartbeats 8000000 in
set_option maxRecDepth 100000 in
theorem parquetryref1_Place.calls (k : Nat) (A0 : Option Addr) (c0 : Nat) (l0 : List Int) (a1 : Int) (r : List Int) (w : World) (hr0 : Kd.C (Kd.int .i64) w A0 l0.length l0) (hc0 : l0.length ≤ c0) (h : parquetryref1_Place.f k l0 a1 = some r) :
    Calls Try.prog 75 #[.slice A0 l0.length c0, .int .i64 a1] w fun e w' => ∃ v0_ : Value, e = .returned (v0_) ∧ Kd.R (Kd.int .i64) 3 w' w.heap.size (fun _ => True) v0_ r ∧ Below w.heap.size w w' := by
  (have HR0 := Aside0.mk hr0); (have HC0 := Aside0.mk hc0); (clear hr0 hc0); (have HB := Aside0.mk (Below.refl w.heap.size w)); (have H : (if a1 < 0 then (parquetryref1_Place.j0 k l0 a1 true) else ((parquetryref1_Size.f k l0).bind fun t398 => (parquetryref1_Place.j0 k l0 a1 (decide (a1 ≥ t398))))) = some r := h); (clear h); (have HC3 := Aside0.mk H); (clear H); (go_enter Try.func75, Try.ntmps75); (go_upto_region 1 with (fail)); (go_cut [14] (fun v14 wc => ∃ (kq : Nat) (x14_2 : Bool), v14 = .bool x14_2 ∧ Aside0 (parquetryref1_Place.j0 kq l0 a1 x14_2 = some r) ∧ Aside0 (kq ≤ k) ∧ Aside0 (Below w.heap.size w wc)))
  case first =>
    (have H := HC3.out); (clear HC3); (by_cases c4 : a1 < 0); (· (rw [if_pos c4] at H); (have c4b0 : decide (a1 < 0) = true := decide_eq_true c4); (clear c4); ((first | rw [c4b0] | (simp only [i64_w, i32_w]; rw [c4b0]) | skip)); (have H' := Aside0.mk H); (clear H); (go_wp2); (go_meet); (case rel => exact ⟨_, (true), (by first | rfl | (simp; done) | (simp [*]; done)), H', ⟨by first | omega | exact Nat.le_refl _⟩, ⟨by repeat (first | (with_reducible first | exact HB.out | apply below_alloc | apply pw_below_drewN | apply below_drew1) | exact HB.out)⟩⟩))
    · (rw [if_neg c4] at H); (have c4b0 : decide (a1 < 0) = false := decide_eq_false c4); (clear c4); ((first | rw [c4b0] | (simp only [i64_w, i32_w]; rw [c4b0]) | skip)); (replace H := Option.bind_eq_some_iff.mp H); (obtain ⟨t398, A50, H⟩ := H); (replace H : (parquetryref1_Place.j0 k l0 a1 (decide (a1 ≥ t398))) = some r := H); (have A5 := Aside0.mk A50); (clear A50); (have H' := Aside0.mk H); (clear H); (go_wp2_with (first | (go_at_call 61; (with_reducible refine (parquetryref1_Size.calls k _ _ l0 t398 _ ?side1 ?side2 A5.out).mono ?_); (case side1 => exact nC_ (Kd.C_below HR0.out HB.out)); (case side2 => exact HC0.out); rintro e w' ⟨rfl, ⟨nd, rfl⟩⟩))); (go_meet); (case rel => exact ⟨_, (decide (a1 ≥ t398)), (by first | rfl | (simp; done) | (simp [*]; done)), H', ⟨by first | omega | exact Nat.le_refl _⟩, ⟨by repeat (first | (with_reducible first | exact HB.out | apply below_alloc | apply pw_below_drewN | apply below_drew1) | exact HB.out)⟩⟩)
  case rest =>
    (clear HC3); (try clear p2); (try clear c4); (try clear c4b0); (obtain ⟨kq, x14_2, rfl, HA, HJ2, HB⟩ := hcut)
    cases kq with
    | zero => exact absurd HA.out (by simp [parquetryref1_Place.j0])
    | succ kj2 =>
      (have H := HA.out); (clear HA); (simp only [parquetryref1_Place.j0] at H); (by_cases c6 : x14_2 = true); (· (subst c6); (have H1 : (some ([] : List Int)) = some r := by rw [if_pos rfl] at H; exact H); (clear H); (have H := H1); (clear H1); (obtain rfl := Option.some.inj H); (go_wp2); (go_ret); (exact ⟨_, by first | rfl | (simp [errW_none, errW_some] <;> rfl) | (simp [*, errW_none, errW_some] <;> rfl), by first | exact Kd.R_nil _ _ _ _ _ | exact Kd.N_nil _ _ _ _ _ | exact Kd.V_nil _ _ _ _ _ | exact Kd.Q_nil _ _ _ _ _ | exact Kd.S_nil _ _ _ _ _, by repeat (first | (with_reducible first | exact HB.out | apply below_alloc | apply pw_below_drewN | apply below_drew1) | exact HB.out)⟩))
      · (replace c6 := Bool.eq_false_iff.mpr c6); (subst c6); (have H1 : (if 0 ≤ (l0.length : Int) then (if ((l0.length : Int) : Int).toNat ≤ 35184372088832 then (parquetryref1_Place.l0 kj2 l0 a1 (List.replicate ((l0.length : Int) : Int).toNat 0) (wrap64 ((l0.length : Int) - 1))) else (none)) else (none)) = some r := by rw [if_neg (show ¬ (false = true) by decide)] at H; exact H); (clear H); (have H := H1); (clear H1); (by_cases c7 : 0 ≤ (l0.length : Int))
        · (rw [if_pos c7] at H); (have c7b0 := eq_true c7); (have c7b1 : decide (0 ≤ (l0.length : Int)) = true := decide_eq_true c7); (clear c7); (by_cases c8 : ((l0.length : Int) : Int).toNat ≤ 35184372088832)
          · (rw [if_pos c8] at H); (have c8b0 := eq_true c8); (have c8b1 : decide (((l0.length : Int) : Int).toNat ≤ 35184372088832) = true := decide_eq_true c8); (clear c8); (obtain ⟨y399, hy399⟩ : ∃ y_ : List Int, y_ = (List.replicate ((l0.length : Int) : Int).toNat 0) := ⟨_, rfl⟩); (replace H : (parquetryref1_Place.l0 kj2 l0 a1 y399 (wrap64 ((l0.length : Int) - 1))) = some r := by first | (rw [hy399]; with_reducible exact H) | (have H2_ := (Option.bind_some _ _).symm.trans H; rw [hy399]; with_reducible exact H2_) | (have H2_ := (Option.bind_some _ _).symm.trans H; with_reducible exact H2_) | with_reducible exact H | (rw [hy399]; exact H) | exact H); (have Ny399 := Aside0.mk hy399); (clear hy399); (have H' := Aside0.mk H); (clear H); (go_wp2_with (first | ((with_reducible refine gate_dst (N := 17) rfl ?_); refine Kd.R_make (Kd.int .i64) _ 3 rfl (N := 17) rfl 25 _ _ rfl (l0.length : Int) rfl rfl Try.underlying25 (.int .i64 0) 8 info3 rfl (by decide) (by omega) 0 (ok := fun _ => True) (okp := fun _ => True) rfl (fun _ hk => hk) trivial (of_decide_eq_true (by first | (with_reducible assumption) | assumption)) (Nat.le_trans (Nat.mul_le_mul_right _ (of_decide_eq_true (by first | (with_reducible assumption) | assumption) : (l0.length : Int).toNat ≤ 35184372088832)) (by omega)) (Below.refl _ _) (Nat.le_refl _) ?_; intro v400 w9 ho10 hb hg_ hnew_; clear hg_ hnew_; (first | rw [← Ny399.out] at ho10 | (simp only [Int.reduceToNat] at ho10; rw [← Ny399.out] at ho10)); have n0_ := Aside0.mk (Kd.R_lower ho10 (below_size (nB_ HB.out))); have n1_ := Aside0.mk (below_step (nB_ HB.out) hb); clear HB; have HO401 := n0_; have HB := n1_; clear n0_ n1_; clear hb ho10))); (go_loopg [1, 6] kj2 (fun kq v1 v6 w' => ∃ (x1_2 : Int) (x5_2 : List Int) (x6_2 : Int), v1 = .int .i64 x1_2 ∧ v6 = .int .i64 x6_2 ∧ Aside0 (parquetryref1_Place.l0 kq l0 x1_2 x5_2 x6_2 = some r) ∧ Aside0 (kq ≤ kj2) ∧ Aside0 (Kd.R (Kd.int .i64) 3 w' w.heap.size (fun _ => True) v400 x5_2) ∧ Aside0 (Below w.heap.size w w'))); (case atStart => exact ⟨(a1), (y399), (wrap64 ((l0.length : Int) - 1)), (by first | rfl | (simp; done) | (simp [*]; done)), (by first | rfl | (simp; done) | (simp [*]; done)), H', ⟨Nat.le_refl _⟩, ⟨nR_ HO401.out⟩, ⟨by repeat (first | (with_reducible first | exact HB.out | apply below_alloc | apply pw_below_drewN | apply below_drew1) | exact HB.out)⟩⟩)
            case round =>
              (clear H'); (try clear p2); (try clear c4); (try clear c4b0); (try clear c6); (try clear p6); (try clear c7); (try clear c7b0); (try clear c7b1); (try clear c8); (try clear c8b0); (try clear c8b1); (try clear p2); (obtain ⟨x1_2, x5_2, x6_2, rfl, rfl, HA, HK2, HO_5, HB⟩ := hrel)
              cases gk with
              | zero => exact absurd HA.out (by simp [parquetryref1_Place.l0])
              | succ k2 =>
                (have H := HA.out); (clear HA); (simp only [parquetryref1_Place.l0] at H); (by_cases c11 : x6_2 ≥ 0)
                · (rw [if_pos c11] at H); (have c11b0 : decide (0 ≤ x6_2) = true := decide_eq_true c11); (clear c11); (by_cases c12 : 0 ≤ x6_2)
                  · (rw [if_pos c12] at H); (have c12b0 : decide (0 ≤ x6_2) = true := decide_eq_true c12); (clear c12); (by_cases c13 : x6_2 < (l0.length : Int))
                    · (rw [if_pos c13] at H); (have c13b0 : decide (x6_2 < (l0.length : Int)) = true := decide_eq_true c13); (clear c13); (by_cases c14 : (rd l0 x6_2) = 0); (· (rw [if_pos c14] at H); (exact absurd H (by simp)))
                      · (rw [if_neg c14] at H); (have c14b0 : ((rd l0 x6_2) == 0) = false := beq_eq_false_iff_ne.mpr c14); (have c14b1 : ((rd l0 x6_2) != 0) = true := bne_iff_ne.mpr c14); (by_cases c15 : x6_2 < (x5_2.length : Int))
                        · (rw [if_pos c15] at H); (have c15b0 : decide (x6_2 < (x5_2.length : Int)) = true := decide_eq_true c15); (clear c15); (obtain ⟨y403, hy403⟩ : ∃ y_ : List Int, y_ = (x5_2.set (x6_2 : Int).toNat (Int.tmod x1_2 (rd l0 x6_2))) := ⟨_, rfl⟩); (replace H : (parquetryref1_Place.l0 k2 l0 (wrap64 (Int.tdiv x1_2 (rd l0 x6_2))) y403 (wrap64 (x6_2 - 1))) = some r := by first | (rw [hy403]; with_reducible exact H) | (have H2_ := (Option.bind_some _ _).symm.trans H; rw [hy403]; with_reducible exact H2_) | (have H2_ := (Option.bind_some _ _).symm.trans H; with_reducible exact H2_) | with_reducible exact H | (rw [hy403]; exact H) | exact H); (have Ny403 := Aside0.mk hy403); (clear hy403); (have H' := Aside0.mk H); (clear H); (have p402 : 0 ≤ (x6_2 : Int) := of_decide_eq_true (by first | (with_reducible assumption) | assumption)); (have q402 : x6_2 < (l0.length : Int) := of_decide_eq_true (by first | (with_reducible assumption) | assumption)); (obtain ⟨ad402, e402, hx402_0⟩ := Kd.at_int HR0.out x6_2 p402 q402); (cases e402); (replace hx402_0 := (HB.out.cell (World.block_lt_of_cell? w _ hx402_0)).trans hx402_0); (replace p402 := eq_true p402); (replace q402 := eq_true q402); (have p16 : 0 ≤ (x6_2 : Int) := of_decide_eq_true (by first | (with_reducible assumption) | assumption)); (have q16 : (x6_2 : Int) < ((x5_2.length : Int) : Int) := of_decide_eq_true (by first | (with_reducible assumption) | assumption)); (obtain ⟨go16, co16, eo16, gb16, gl16, cl16, HG16⟩ := Kd.R_form HO_5.out (by omega)); ((first | cases eo16 | (injection eo16 with ea_ en_ ec_; (first | subst ea_ | (injection ea_ with ea_; subst ea_)); subst ec_; clear en_))); (have GB16 := Aside0.mk gb16); (have GG16 := Aside0.mk HG16); (clear gb16 gl16 HG16); (obtain ⟨hx16_0, hf16_0⟩ := Kd.R_celln 0 HO_5.out (x6_2 : Int) p16 q16); (replace p16 := eq_true p16); (replace q16 := eq_true q16); (have HP17 := Kd.R_putg HO_5.out (x6_2 : Int) (Int.tmod x1_2 (rd l0 x6_2))); (go_wp2_with (first | ((with_reducible refine gate_store (t := 3) (p := 33) rfl ?_); refine store_event (t := 3) (p := 33) (v := ?vo_w18) (w1 := (wr.setCell ⟨go16, (x6_2 : Int).toNat, none⟩ (.int .i64 (Int.tmod x1_2 (rd l0 x6_2))))) ?hg ?ho ?hn ?hr ?_; (case ho => rfl); (case hg => rfl); (case hn => rfl); (case hr => first | (go_simp; done) | (go_simp; rfl)); intro w18 hw; have hg : wr.grownBy w18 (some go16) := (by rw [hw]; exact HP17.2); have hp_ : Kd.R (Kd.int .i64) 3 w18 w.heap.size (fun _ => True) (.slice (some ⟨go16, 0, none⟩) x5_2.length co16) y403 := (by rw [hw, Ny403.out]; exact HP17.1); clear HP17; have n0_ := Aside0.mk (hp_); have n1_ := Aside0.mk ((by rw [hw]; exact below_set (HB.out) GB16.out : Below w.heap.size w w18)); clear HO_5; clear HB; have HO_5 := n0_; have HB := n1_; clear n0_ n1_; clear hg hw hp_; have p404 : 0 ≤ (x6_2 : Int) := of_decide_eq_true (by first | (with_reducible assumption) | assumption); have q404 : x6_2 < (l0.length : Int) := of_decide_eq_true (by first | (with_reducible assumption) | assumption); obtain ⟨ad404, e404, hx404_0⟩ := Kd.at_int HR0.out x6_2 p404 q404; obtain rfl : ad402 = ad404 := (by injection e404); replace hx404_0 := (HB.out.cell (World.block_lt_of_cell? w _ hx404_0)).trans hx404_0; replace p404 := eq_true p404; replace q404 := eq_true q404))); (go_roundg k2); (case measure => have := HJ2.out; have := HK2.out; omega); (case rel => exact ⟨(wrap64 (Int.tdiv x1_2 (rd l0 x6_2))), (y403), (wrap64 (x6_2 - 1)), (by first | rfl | (simp; done) | (simp [*]; done)), (by first | rfl | (simp; done) | (simp [*]; done)), H', ⟨by have := HJ2.out; have := HK2.out; omega⟩, ⟨nR_ HO_5.out⟩, ⟨by repeat (first | (with_reducible first | exact HB.out | apply below_alloc | apply pw_below_drewN | apply below_drew1) | exact HB.out)⟩⟩)
                        (· (rw [if_neg c15] at H); (exact absurd H (by simp)))
                    (· (rw [if_neg c13] at H); (exact absurd H (by simp)))
                  (· (rw [if_neg c12] at H); (exact absurd H (by simp)))
                (· (rw [if_neg c11] at H); (have c11b0 : decide (0 ≤ x6_2) = false := decide_eq_false c11); (clear c11); (obtain rfl := Option.some.inj H); (go_wp2); (go_ret); (exact ⟨_, by first | rfl | (simp [errW_none, errW_some] <;> rfl) | (simp [*, errW_none, errW_some] <;> rfl), by (with_reducible repeat (first | apply Kd.R_alloc | apply Kd.R_drewN | apply Kd.R_drew)); exact HO_5.out, by repeat (first | (with_reducible first | exact HB.out | apply below_alloc | apply pw_below_drewN | apply below_drew1) | exact HB.out)⟩))
          (· (rw [if_neg c8] at H); (exact absurd H (by simp)))
        (· (rw [if_neg c7] at H); (exact absurd H (by simp)))
/-! ### parquetryref1_Index: function 76 -/
mutual
def parquetryref1_Index.j0 : Nat → List Int → List Int → Bool → Option (Int)
  | 0, _, _, _ => none
  | k + 1, x0, x1, x16 => if x16 = true then (some (-1)) else (parquetryref1_Index.l0 k x0 x1 0 0)
def parquetryref1_Index.l0 : Nat → List Int → List Int → Int → Int → Option (Int)
  | 0, _, _, _, _ => none
  | k + 1, x0, x1, x5, x6 => if x6 < (x0.length : Int) then (if 0 ≤ x6 then (if x6 < (x1.length : Int) then (if (rd x1 x6) < 0 then (some (-1)) else (if (rd x1 x6) ≥ (rd x0 x6) then (some (-1)) else (parquetryref1_Index.l0 k x0 x1 (wrap64 ((wrap64 (x5 * (rd x0 x6))) + (rd x1 x6))) (wrap64 (x6 + 1))))) else (none)) else (none)) else (some x5)
end
def parquetryref1_Index.f (k : Nat) (l0 : List Int) (l1 : List Int) : Option (Int) := (parquetryref1_Right.f k l0).bind fun t405 => (if t405 = true then (parquetryref1_Index.j0 k l0 l1 ((l1.length : Int) != (l0.length : Int))) else (parquetryref1_Index.j0 k l0 l1 true))
theorem parquetryref1_Index.mono_l : ∀ k, (∀ y0 y1 y2, LeO (parquetryref1_Index.j0 k y0 y1 y2) (parquetryref1_Index.j0 (k + 1) y0 y1 y2)) ∧ (∀ y0 y1 y2 y3, LeO (parquetryref1_Index.l0 k y0 y1 y2 y3) (parquetryref1_Index.l0 (k + 1) y0 y1 y2 y3))
  | 0 => ⟨fun _ _ _ r h => by simp [parquetryref1_Index.j0] at h, fun _ _ _ _ r h => by simp [parquetryref1_Index.l0] at h⟩
  | k + 1 => by
    obtain ⟨ih0, ih1⟩ := parquetryref1_Index.mono_l k
    refine ⟨?_, ?_⟩
    · intro y0 y1 y2
      unfold parquetryref1_Index.j0
      repeat' first | (with_reducible first | exact ih0 _ _ _ | exact ih1 _ _ _ _ | exact parquetryref1_Right.mono _ _ | exact LeO.refl _ | exact LeO.none _ | refine LeO.ite ?_ ?_ | refine LeO.bind ?_ (fun _ => ?_)) | exact ih0 _ _ _ | exact ih1 _ _ _ _ | exact LeO.none _ | refine LeO.ite ?_ ?_ | refine LeO.bind ?_ (fun _ => ?_)
    · intro y0 y1 y2 y3
      unfold parquetryref1_Index.l0
      repeat' first | (with_reducible first | exact ih0 _ _ _ | exact ih1 _ _ _ _ | exact parquetryref1_Right.mono _ _ | exact LeO.refl _ | exact LeO.none _ | refine LeO.ite ?_ ?_ | refine LeO.bind ?_ (fun _ => ?_)) | exact ih0 _ _ _ | exact ih1 _ _ _ _ | exact LeO.none _ | refine LeO.ite ?_ ?_ | refine LeO.bind ?_ (fun _ => ?_)
theorem parquetryref1_Index.mono : ∀ a0 a1 k, LeO (parquetryref1_Index.f k a0 a1) (parquetryref1_Index.f (k + 1) a0 a1) := by
  intro a0 a1 k
  obtain ⟨ih0, ih1⟩ := parquetryref1_Index.mono_l k
  unfold parquetryref1_Index.f
  repeat' first | (with_reducible first | exact ih0 _ _ _ | exact ih1 _ _ _ _ | exact parquetryref1_Right.mono _ _ | exact LeO.refl _ | exact LeO.none _ | refine LeO.ite ?_ ?_ | refine LeO.bind ?_ (fun _ => ?_)) | exact ih0 _ _ _ | exact ih1 _ _ _ _ | exact LeO.none _ | refine LeO.ite ?_ ?_ | refine LeO.bind ?_ (fun _ => ?_)

set_option maxHeartbeats 8000000 in
set_option maxRecDepth 100000 in
theorem parquetryref1_Index.calls (k : Nat) (A0 : Option Addr) (c0 : Nat) (l0 : List Int) (A1 : Option Addr) (c1 : Nat) (l1 : List Int) (r : Int) (w : World) (hr0 : Kd.C (Kd.int .i64) w A0 l0.length l0) (hc0 : l0.length ≤ c0) (hr1 : Kd.C (Kd.int .i64) w A1 l1.length l1) (hc1 : l1.length ≤ c1) (h : parquetryref1_Index.f k l0 l1 = some r) :
    Calls Try.prog 76 #[.slice A0 l0.length c0, .slice A1 l1.length c1] w fun e w' => e = .returned (.int .i64 r) ∧ Drawn0 w w' := by
  (have HR0 := Aside0.mk hr0); (have HC0 := Aside0.mk hc0); (clear hr0 hc0); (have HR1 := Aside0.mk hr1); (have HC1 := Aside0.mk hc1); (clear hr1 hc1); (have H : ((parquetryref1_Right.f k l0).bind fun t405 => (if t405 = true then (parquetryref1_Index.j0 k l0 l1 ((l1.length : Int) != (l0.length : Int))) else (parquetryref1_Index.j0 k l0 l1 true))) = some r := h); (clear h); (have HC3 := Aside0.mk H); (clear H); (go_enter Try.func76, Try.ntmps76); (go_upto_region 1 with (fail)); (repeat (go_quiet (fail); go_upto_region 1 with (fail))); (go_cut [16] (fun v16 wc => ∃ (kq : Nat) (x16_2 : Bool), v16 = .bool x16_2 ∧ Aside0 (parquetryref1_Index.j0 kq l0 l1 x16_2 = some r) ∧ Aside0 (kq ≤ k) ∧ Drawn0 w wc))
  case first =>
    (have H := HC3.out); (clear HC3); (replace H := Option.bind_eq_some_iff.mp H); (obtain ⟨t405, A40, H⟩ := H); (replace H : (if t405 = true then (parquetryref1_Index.j0 k l0 l1 ((l1.length : Int) != (l0.length : Int))) else (parquetryref1_Index.j0 k l0 l1 true)) = some r := H); (have A4 := Aside0.mk A40); (clear A40); (by_cases c5 : t405 = true)
    · (subst c5); (have H1 : (parquetryref1_Index.j0 k l0 l1 ((l1.length : Int) != (l0.length : Int))) = some r := by rw [if_pos rfl] at H; exact H); (clear H); (have H := H1); (clear H1); (have H' := Aside0.mk H); (clear H); (go_wp2_with (first | (go_at_call 73; (with_reducible refine (parquetryref1_Right.calls k _ _ l0 true _ ?side1 ?side2 A4.out).mono ?_); (case side1 => exact nC_ HR0.out); (case side2 => exact HC0.out); rintro e w' ⟨rfl, ⟨nd, rfl⟩⟩; (try first | exact ⟨rfl, _, World.drewN_drewN _ _ _⟩ | exact ⟨rfl, _, Eq.trans (World.drewN_drewN _ _ _) (congrArg (World.drewN _) (Nat.add_assoc _ _ _))⟩)))); (repeat (go_quiet (first | (go_at_call 73; (with_reducible refine (parquetryref1_Right.calls k _ _ l0 true _ ?side1 ?side2 A4.out).mono ?_); (case side1 => exact nC_ HR0.out); (case side2 => exact HC0.out); rintro e w' ⟨rfl, ⟨nd, rfl⟩⟩; (try first | exact ⟨rfl, _, World.drewN_drewN _ _ _⟩ | exact ⟨rfl, _, Eq.trans (World.drewN_drewN _ _ _) (congrArg (World.drewN _) (Nat.add_assoc _ _ _))⟩))); try go_wp2_with (first | (go_at_call 73; (with_reducible refine (parquetryref1_Right.calls k _ _ l0 true _ ?side1 ?side2 A4.out).mono ?_); (case side1 => exact nC_ HR0.out); (case side2 => exact HC0.out); rintro e w' ⟨rfl, ⟨nd, rfl⟩⟩; (try first | exact ⟨rfl, _, World.drewN_drewN _ _ _⟩ | exact ⟨rfl, _, Eq.trans (World.drewN_drewN _ _ _) (congrArg (World.drewN _) (Nat.add_assoc _ _ _))⟩))))); (go_meet); (case rel => exact ⟨_, (((l1.length : Int) != (l0.length : Int))), (by first | rfl | (simp; done) | (simp [*]; done)), H', ⟨by first | omega | exact Nat.le_refl _⟩, by repeat (first | exact Drawn0.refl _ | apply Drawn0.step)⟩)
    · (replace c5 := Bool.eq_false_iff.mpr c5); (subst c5); (have H1 : (parquetryref1_Index.j0 k l0 l1 true) = some r := by rw [if_neg (show ¬ (false = true) by decide)] at H; exact H); (clear H); (have H := H1); (clear H1); (have H' := Aside0.mk H); (clear H); (go_wp2_with (first | (go_at_call 73; (with_reducible refine (parquetryref1_Right.calls k _ _ l0 false _ ?side1 ?side2 A4.out).mono ?_); (case side1 => exact nC_ HR0.out); (case side2 => exact HC0.out); rintro e w' ⟨rfl, ⟨nd, rfl⟩⟩; (try first | exact ⟨rfl, _, World.drewN_drewN _ _ _⟩ | exact ⟨rfl, _, Eq.trans (World.drewN_drewN _ _ _) (congrArg (World.drewN _) (Nat.add_assoc _ _ _))⟩)))); (repeat (go_quiet (first | (go_at_call 73; (with_reducible refine (parquetryref1_Right.calls k _ _ l0 false _ ?side1 ?side2 A4.out).mono ?_); (case side1 => exact nC_ HR0.out); (case side2 => exact HC0.out); rintro e w' ⟨rfl, ⟨nd, rfl⟩⟩; (try first | exact ⟨rfl, _, World.drewN_drewN _ _ _⟩ | exact ⟨rfl, _, Eq.trans (World.drewN_drewN _ _ _) (congrArg (World.drewN _) (Nat.add_assoc _ _ _))⟩))); try go_wp2_with (first | (go_at_call 73; (with_reducible refine (parquetryref1_Right.calls k _ _ l0 false _ ?side1 ?side2 A4.out).mono ?_); (case side1 => exact nC_ HR0.out); (case side2 => exact HC0.out); rintro e w' ⟨rfl, ⟨nd, rfl⟩⟩; (try first | exact ⟨rfl, _, World.drewN_drewN _ _ _⟩ | exact ⟨rfl, _, Eq.trans (World.drewN_drewN _ _ _) (congrArg (World.drewN _) (Nat.add_assoc _ _ _))⟩))))); (go_meet); (case rel => exact ⟨_, (true), (by first | rfl | (simp; done) | (simp [*]; done)), H', ⟨by first | omega | exact Nat.le_refl _⟩, by repeat (first | exact Drawn0.refl _ | apply Drawn0.step)⟩)
  case rest =>
    (clear HC3); (try clear c1); (try clear p2); (try clear c5); (obtain ⟨kq, x16_2, rfl, HA, HJ2, ⟨mc2, rfl⟩⟩ := hcut)
    cases kq with
    | zero => exact absurd HA.out (by simp [parquetryref1_Index.j0])
    | succ kj2 =>
      (have H := HA.out); (clear HA); (simp only [parquetryref1_Index.j0] at H); (by_cases c6 : x16_2 = true); (· (subst c6); (have H1 : (some (-1)) = some r := by rw [if_pos rfl] at H; exact H); (clear H); (have H := H1); (clear H1); (obtain rfl := Option.some.inj H); (go_wp2); (repeat (go_quiet (fail); try go_wp2)); (go_ret); (exact ⟨by first | rfl | (simp; done) | (simp [*]; done), by repeat (first | exact Drawn0.refl _ | apply Drawn0.step)⟩))
      · (replace c6 := Bool.eq_false_iff.mpr c6); (subst c6); (have H1 : (parquetryref1_Index.l0 kj2 l0 l1 0 0) = some r := by rw [if_neg (show ¬ (false = true) by decide)] at H; exact H); (clear H); (have H := H1); (clear H1); (have H' := Aside0.mk H); (clear H); (go_wp2); (repeat (go_quiet (fail); try go_wp2)); (go_loopg [5, 6] kj2 (fun kq v5 v6 w' => ∃ (x5_2 : Int) (x6_2 : Int), v5 = .int .i64 x5_2 ∧ v6 = .int .i64 x6_2 ∧ Aside0 (parquetryref1_Index.l0 kq l0 l1 x5_2 x6_2 = some r) ∧ Aside0 (kq ≤ kj2) ∧ Drawn0 w w')); (case atStart => exact ⟨(0), (0), (by first | rfl | (simp; done) | (simp [*]; done)), (by first | rfl | (simp; done) | (simp [*]; done)), H', ⟨Nat.le_refl _⟩, by repeat (first | exact Drawn0.refl _ | apply Drawn0.step)⟩)
        case round =>
          (clear H'); (try clear c1); (try clear c2); (try clear p2); (try clear c5); (try clear c6); (try clear p2); (obtain ⟨x5_2, x6_2, rfl, rfl, HA, HK2, ⟨m2, rfl⟩⟩ := hrel)
          cases gk with
          | zero => exact absurd HA.out (by simp [parquetryref1_Index.l0])
          | succ k2 =>
            (have H := HA.out); (clear HA); (simp only [parquetryref1_Index.l0] at H); (by_cases c7 : x6_2 < (l0.length : Int))
            · (rw [if_pos c7] at H); (have c7b0 : decide (x6_2 < (l0.length : Int)) = true := decide_eq_true c7); (clear c7); (by_cases c8 : 0 ≤ x6_2)
              · (rw [if_pos c8] at H); (have c8b0 : decide (0 ≤ x6_2) = true := decide_eq_true c8); (clear c8); (by_cases c9 : x6_2 < (l1.length : Int))
                · (rw [if_pos c9] at H); (have c9b0 : decide (x6_2 < (l1.length : Int)) = true := decide_eq_true c9); (clear c9); (by_cases c10 : (rd l1 x6_2) < 0)
                  · (rw [if_pos c10] at H); (have c10b0 : decide ((rd l1 x6_2) < 0) = true := decide_eq_true c10); (clear c10); (obtain rfl := Option.some.inj H); (have p406 : 0 ≤ (x6_2 : Int) := of_decide_eq_true (by first | (with_reducible assumption) | assumption)); (have q406 : x6_2 < (l1.length : Int) := of_decide_eq_true (by first | (with_reducible assumption) | assumption)); (obtain ⟨ad406, e406, hx406_0⟩ := Kd.at_int HR1.out x6_2 p406 q406); (cases e406); (replace p406 := eq_true p406); (replace q406 := eq_true q406); (go_wp2); (repeat (go_quiet (fail); try go_wp2)); (go_ret); (exact ⟨by first | rfl | (simp; done) | (simp [*]; done), by repeat (first | exact Drawn0.refl _ | apply Drawn0.step)⟩)
                  · (rw [if_neg c10] at H); (have c10b0 : decide ((rd l1 x6_2) < 0) = false := decide_eq_false c10); (clear c10); (by_cases c11 : (rd l1 x6_2) ≥ (rd l0 x6_2))
                    · (rw [if_pos c11] at H); (have c11b0 : decide ((rd l0 x6_2) ≤ (rd l1 x6_2)) = true := decide_eq_true c11); (clear c11); (obtain rfl := Option.some.inj H); (have p406 : 0 ≤ (x6_2 : Int) := of_decide_eq_true (by first | (with_reducible assumption) | assumption)); (have q406 : x6_2 < (l1.length : Int) := of_decide_eq_true (by first | (with_reducible assumption) | assumption)); (obtain ⟨ad406, e406, hx406_0⟩ := Kd.at_int HR1.out x6_2 p406 q406); (cases e406); (replace p406 := eq_true p406); (replace q406 := eq_true q406); (have p407 : 0 ≤ (x6_2 : Int) := of_decide_eq_true (by first | (with_reducible assumption) | assumption)); (have q407 : x6_2 < (l1.length : Int) := of_decide_eq_true (by first | (with_reducible assumption) | assumption)); (obtain ⟨ad407, e407, hx407_0⟩ := Kd.at_int HR1.out x6_2 p407 q407); (obtain rfl : ad406 = ad407 := (by injection e407)); (replace p407 := eq_true p407); (replace q407 := eq_true q407); (have p408 : 0 ≤ (x6_2 : Int) := of_decide_eq_true (by first | (with_reducible assumption) | assumption)); (have q408 : x6_2 < (l0.length : Int) := of_decide_eq_true (by first | (with_reducible assumption) | assumption)); (obtain ⟨ad408, e408, hx408_0⟩ := Kd.at_int HR0.out x6_2 p408 q408); (cases e408); (replace p408 := eq_true p408); (replace q408 := eq_true q408); (go_wp2); (repeat (go_quiet (fail); try go_wp2)); (go_ret); (exact ⟨by first | rfl | (simp; done) | (simp [*]; done), by repeat (first | exact Drawn0.refl _ | apply Drawn0.step)⟩)
                    · (rw [if_neg c11] at H); (have c11b0 : decide ((rd l0 x6_2) ≤ (rd l1 x6_2)) = false := decide_eq_false c11); (clear c11); (have H' := Aside0.mk H); (clear H); (have p406 : 0 ≤ (x6_2 : Int) := of_decide_eq_true (by first | (with_reducible assumption) | assumption)); (have q406 : x6_2 < (l1.length : Int) := of_decide_eq_true (by first | (with_reducible assumption) | assumption)); (obtain ⟨ad406, e406, hx406_0⟩ := Kd.at_int HR1.out x6_2 p406 q406); (cases e406); (replace p406 := eq_true p406); (replace q406 := eq_true q406); (have p407 : 0 ≤ (x6_2 : Int) := of_decide_eq_true (by first | (with_reducible assumption) | assumption)); (have q407 : x6_2 < (l1.length : Int) := of_decide_eq_true (by first | (with_reducible assumption) | assumption)); (obtain ⟨ad407, e407, hx407_0⟩ := Kd.at_int HR1.out x6_2 p407 q407); (obtain rfl : ad406 = ad407 := (by injection e407)); (replace p407 := eq_true p407); (replace q407 := eq_true q407); (have p408 : 0 ≤ (x6_2 : Int) := of_decide_eq_true (by first | (with_reducible assumption) | assumption)); (have q408 : x6_2 < (l0.length : Int) := of_decide_eq_true (by first | (with_reducible assumption) | assumption)); (obtain ⟨ad408, e408, hx408_0⟩ := Kd.at_int HR0.out x6_2 p408 q408); (cases e408); (replace p408 := eq_true p408); (replace q408 := eq_true q408); (have p409 : 0 ≤ (x6_2 : Int) := of_decide_eq_true (by first | (with_reducible assumption) | assumption)); (have q409 : x6_2 < (l0.length : Int) := of_decide_eq_true (by first | (with_reducible assumption) | assumption)); (obtain ⟨ad409, e409, hx409_0⟩ := Kd.at_int HR0.out x6_2 p409 q409); (obtain rfl : ad408 = ad409 := (by injection e409)); (replace p409 := eq_true p409); (replace q409 := eq_true q409); (have p410 : 0 ≤ (x6_2 : Int) := of_decide_eq_true (by first | (with_reducible assumption) | assumption)); (have q410 : x6_2 < (l1.length : Int) := of_decide_eq_true (by first | (with_reducible assumption) | assumption)); (obtain ⟨ad410, e410, hx410_0⟩ := Kd.at_int HR1.out x6_2 p410 q410); (obtain rfl : ad406 = ad410 := (by injection e410)); (replace p410 := eq_true p410); (replace q410 := eq_true q410); (go_wp2); (repeat (go_quiet (fail); try go_wp2)); (go_roundg k2); (case measure => have := HJ2.out; have := HK2.out; omega); (case rel => exact ⟨(wrap64 ((wrap64 (x5_2 * (rd l0 x6_2))) + (rd l1 x6_2))), (wrap64 (x6_2 + 1)), (by first | rfl | (simp; done) | (simp [*]; done)), (by first | rfl | (simp; done) | (simp [*]; done)), H', ⟨by have := HJ2.out; have := HK2.out; omega⟩, by repeat (first | exact Drawn0.refl _ | apply Drawn0.step)⟩)
                (· (rw [if_neg c9] at H); (exact absurd H (by simp)))
              (· (rw [if_neg c8] at H); (exact absurd H (by simp)))
            (· (rw [if_neg c7] at H); (have c7b0 : decide (x6_2 < (l0.length : Int)) = false := decide_eq_false c7); (clear c7); (obtain rfl := Option.some.inj H); (go_wp2); (repeat (go_quiet (fail); try go_wp2)); (go_ret); (exact ⟨by first | rfl | (simp; done) | (simp [*]; done), by repeat (first | exact Drawn0.refl _ | apply Drawn0.step)⟩))
/-! ### parquetryref4_number: function 83 -/
def parquetryref4_number.f (k : Nat) (l0_0 : List Int) (l0_1 : List Int) (l1 : List Int) : Option (Int) := (parquetryref1_Index.f k l0_0 l1).bind fun t412 => (if 0 ≤ t412 then (if t412 < (l0_1.length : Int) then (some (rd l0_1 t412)) else (none)) else (none))
theorem parquetryref4_number.mono : ∀ a0 a1 a2 k, LeO (parquetryref4_number.f k a0 a1 a2) (parquetryref4_number.f (k + 1) a0 a1 a2) := by
  intro a0 a1 a2 k
  unfold parquetryref4_number.f
  repeat' first | (with_reducible first | exact parquetryref1_Index.mono _ _ _ | exact LeO.refl _ | exact LeO.none _ | refine LeO.ite ?_ ?_ | refine LeO.bind ?_ (fun _ => ?_)) | exact LeO.none _ | refine LeO.ite ?_ ?_ | refine LeO.bind ?_ (fun _ => ?_)

set_option maxHeartbeats 8000000 in
set_option maxRecDepth 100000 in
theorem parquetryref4_number.calls (k : Nat) (A0_0 : Option Addr) (c0_0 : Nat) (l0_0 : List Int) (A0_1 : Option Addr) (c0_1 : Nat) (l0_1 : List Int) (A1 : Option Addr) (c1 : Nat) (l1 : List Int) (r : Int) (w : World) (hr0_0 : Kd.C (Kd.int .i64) w A0_0 l0_0.length l0_0) (hc0_0 : l0_0.length ≤ c0_0) (hr0_1 : Kd.C (Kd.int .i64) w A0_1 l0_1.length l0_1) (hc0_1 : l0_1.length ≤ c0_1) (hr1 : Kd.C (Kd.int .i64) w A1 l1.length l1) (hc1 : l1.length ≤ c1) (h : parquetryref4_number.f k l0_0 l0_1 l1 = some r) :
    Calls Try.prog 83 #[.agg #[.slice A0_0 l0_0.length c0_0, .slice A0_1 l0_1.length c0_1], .slice A1 l1.length c1] w fun e w' => e = .returned (.int .i64 r) ∧ Below w.heap.size w w' := by
  (have hu27 := Try.underlying27); (have HR0_0 := Aside0.mk hr0_0); (have HC0_0 := Aside0.mk hc0_0); (clear hr0_0 hc0_0); (have HR0_1 := Aside0.mk hr0_1); (have HC0_1 := Aside0.mk hc0_1); (clear hr0_1 hc0_1); (have HR1 := Aside0.mk hr1); (have HC1 := Aside0.mk hc1); (clear hr1 hc1); (have HB := Aside0.mk (Below.refl w.heap.size w)); (have H : ((parquetryref1_Index.f k l0_0 l1).bind fun t412 => (if 0 ≤ t412 then (if t412 < (l0_1.length : Int) then (some (rd l0_1 t412)) else (none)) else (none))) = some r := h); (clear h); (replace H := Option.bind_eq_some_iff.mp H); (obtain ⟨t412, A30, H⟩ := H); (replace H : (if 0 ≤ t412 then (if t412 < (l0_1.length : Int) then (some (rd l0_1 t412)) else (none)) else (none)) = some r := H); (have A3 := Aside0.mk A30); (clear A30); (by_cases c4 : 0 ≤ t412)
  · (rw [if_pos c4] at H); (have c4b0 : decide (0 ≤ t412) = true := decide_eq_true c4); (clear c4); (by_cases c5 : t412 < (l0_1.length : Int))
    · (rw [if_pos c5] at H); (have c5b0 : decide (t412 < (l0_1.length : Int)) = true := decide_eq_true c5); (clear c5); (obtain rfl := Option.some.inj H); (go_enter Try.func83, Try.ntmps83); (go_wp2_with (first | ((with_reducible refine gate_dst (N := 2) rfl ?_); refine box_event ?hg (N := 2) ?hd (cs := #[.slice A0_0 l0_0.length c0_0, .slice A0_1 l0_1.length c0_1]) (t := 27) ?hr ?_; (case hd => rfl); (case hg => rfl); (case hr => first | (go_simp; done) | (go_simp; rfl)); intro gb411 hg w6 hbox hb; have n0_ := Aside0.mk (below_step (nB_ HB.out) hb); have n1_ := Aside0.mk (hbox); have n2_ := Aside0.mk ((by rw [hg]; exact (below_size (nB_ HB.out)) : w.heap.size ≤ gb411)); have n3_ := Aside0.mk ((by rw [hg]; exact (below_size (nB_ HB.out)) : w.heap.size ≤ gb411)); clear HB; have HB := n0_; have BK411 := n1_; have GW411 := n2_; have GE411 := n3_; clear n0_ n1_ n2_ n3_; clear hb hbox hg; have hcz7_0 : w6.cell? ⟨gb411, 0, none⟩ = some (.slice A0_0 l0_0.length c0_0) := (blk_cell BK411.out 0).trans rfl; have hcz7_1 : w6.cell? ⟨gb411, 1, none⟩ = some (.slice A0_1 l0_1.length c0_1) := (blk_cell BK411.out 1).trans rfl; have hfz7_0 := blk_frozen BK411.out 0; have hfz7_1 := blk_frozen BK411.out 1) | (go_at_call 76; (with_reducible refine (parquetryref1_Index.calls k _ _ l0_0 _ _ l1 t412 _ ?side1 ?side2 ?side3 ?side4 A3.out).mono ?_); (case side1 => exact nC_ (Kd.C_below HR0_0.out HB.out)); (case side2 => exact HC0_0.out); (case side3 => exact nC_ (Kd.C_below HR1.out HB.out)); (case side4 => exact HC1.out); rintro e w' ⟨rfl, ⟨nd, rfl⟩⟩; (try first | exact ⟨rfl, _, World.drewN_drewN _ _ _⟩ | exact ⟨rfl, _, Eq.trans (World.drewN_drewN _ _ _) (congrArg (World.drewN _) (Nat.add_assoc _ _ _))⟩); have p413 : 0 ≤ (t412 : Int) := of_decide_eq_true (by first | (with_reducible assumption) | assumption); have q413 : t412 < (l0_1.length : Int) := of_decide_eq_true (by first | (with_reducible assumption) | assumption); obtain ⟨ad413, e413, hx413_0⟩ := Kd.at_int HR0_1.out t412 p413 q413; cases e413; replace hx413_0 := (HB.out.cell (World.block_lt_of_cell? w _ hx413_0)).trans hx413_0; replace p413 := eq_true p413; replace q413 := eq_true q413))); (repeat (go_quiet (first | ((with_reducible refine gate_dst (N := 2) rfl ?_); refine box_event ?hg (N := 2) ?hd (cs := #[.slice A0_0 l0_0.length c0_0, .slice A0_1 l0_1.length c0_1]) (t := 27) ?hr ?_; (case hd => rfl); (case hg => rfl); (case hr => first | (go_simp; done) | (go_simp; rfl)); intro gb411 hg w6 hbox hb; have n0_ := Aside0.mk (below_step (nB_ HB.out) hb); have n1_ := Aside0.mk (hbox); have n2_ := Aside0.mk ((by rw [hg]; exact (below_size (nB_ HB.out)) : w.heap.size ≤ gb411)); have n3_ := Aside0.mk ((by rw [hg]; exact (below_size (nB_ HB.out)) : w.heap.size ≤ gb411)); clear HB; have HB := n0_; have BK411 := n1_; have GW411 := n2_; have GE411 := n3_; clear n0_ n1_ n2_ n3_; clear hb hbox hg; have hcz7_0 : w6.cell? ⟨gb411, 0, none⟩ = some (.slice A0_0 l0_0.length c0_0) := (blk_cell BK411.out 0).trans rfl; have hcz7_1 : w6.cell? ⟨gb411, 1, none⟩ = some (.slice A0_1 l0_1.length c0_1) := (blk_cell BK411.out 1).trans rfl; have hfz7_0 := blk_frozen BK411.out 0; have hfz7_1 := blk_frozen BK411.out 1) | (go_at_call 76; (with_reducible refine (parquetryref1_Index.calls k _ _ l0_0 _ _ l1 t412 _ ?side1 ?side2 ?side3 ?side4 A3.out).mono ?_); (case side1 => exact nC_ (Kd.C_below HR0_0.out HB.out)); (case side2 => exact HC0_0.out); (case side3 => exact nC_ (Kd.C_below HR1.out HB.out)); (case side4 => exact HC1.out); rintro e w' ⟨rfl, ⟨nd, rfl⟩⟩; (try first | exact ⟨rfl, _, World.drewN_drewN _ _ _⟩ | exact ⟨rfl, _, Eq.trans (World.drewN_drewN _ _ _) (congrArg (World.drewN _) (Nat.add_assoc _ _ _))⟩); have p413 : 0 ≤ (t412 : Int) := of_decide_eq_true (by first | (with_reducible assumption) | assumption); have q413 : t412 < (l0_1.length : Int) := of_decide_eq_true (by first | (with_reducible assumption) | assumption); obtain ⟨ad413, e413, hx413_0⟩ := Kd.at_int HR0_1.out t412 p413 q413; cases e413; replace hx413_0 := (HB.out.cell (World.block_lt_of_cell? w _ hx413_0)).trans hx413_0; replace p413 := eq_true p413; replace q413 := eq_true q413)); try go_wp2_with (first | ((with_reducible refine gate_dst (N := 2) rfl ?_); refine box_event ?hg (N := 2) ?hd (cs := #[.slice A0_0 l0_0.length c0_0, .slice A0_1 l0_1.length c0_1]) (t := 27) ?hr ?_; (case hd => rfl); (case hg => rfl); (case hr => first | (go_simp; done) | (go_simp; rfl)); intro gb411 hg w6 hbox hb; have n0_ := Aside0.mk (below_step (nB_ HB.out) hb); have n1_ := Aside0.mk (hbox); have n2_ := Aside0.mk ((by rw [hg]; exact (below_size (nB_ HB.out)) : w.heap.size ≤ gb411)); have n3_ := Aside0.mk ((by rw [hg]; exact (below_size (nB_ HB.out)) : w.heap.size ≤ gb411)); clear HB; have HB := n0_; have BK411 := n1_; have GW411 := n2_; have GE411 := n3_; clear n0_ n1_ n2_ n3_; clear hb hbox hg; have hcz7_0 : w6.cell? ⟨gb411, 0, none⟩ = some (.slice A0_0 l0_0.length c0_0) := (blk_cell BK411.out 0).trans rfl; have hcz7_1 : w6.cell? ⟨gb411, 1, none⟩ = some (.slice A0_1 l0_1.length c0_1) := (blk_cell BK411.out 1).trans rfl; have hfz7_0 := blk_frozen BK411.out 0; have hfz7_1 := blk_frozen BK411.out 1) | (go_at_call 76; (with_reducible refine (parquetryref1_Index.calls k _ _ l0_0 _ _ l1 t412 _ ?side1 ?side2 ?side3 ?side4 A3.out).mono ?_); (case side1 => exact nC_ (Kd.C_below HR0_0.out HB.out)); (case side2 => exact HC0_0.out); (case side3 => exact nC_ (Kd.C_below HR1.out HB.out)); (case side4 => exact HC1.out); rintro e w' ⟨rfl, ⟨nd, rfl⟩⟩; (try first | exact ⟨rfl, _, World.drewN_drewN _ _ _⟩ | exact ⟨rfl, _, Eq.trans (World.drewN_drewN _ _ _) (congrArg (World.drewN _) (Nat.add_assoc _ _ _))⟩); have p413 : 0 ≤ (t412 : Int) := of_decide_eq_true (by first | (with_reducible assumption) | assumption); have q413 : t412 < (l0_1.length : Int) := of_decide_eq_true (by first | (with_reducible assumption) | assumption); obtain ⟨ad413, e413, hx413_0⟩ := Kd.at_int HR0_1.out t412 p413 q413; cases e413; replace hx413_0 := (HB.out.cell (World.block_lt_of_cell? w _ hx413_0)).trans hx413_0; replace p413 := eq_true p413; replace q413 := eq_true q413)))); (go_ret); (exact ⟨by first | rfl | (simp [errW_none, errW_some] <;> rfl) | (simp [*, errW_none, errW_some] <;> rfl), by repeat (first | (with_reducible first | exact HB.out | apply below_alloc | apply pw_below_drewN | apply below_drew1 | refine below_set ?_ GE411.out) | exact HB.out)⟩)
    (· (rw [if_neg c5] at H); (exact absurd H (by simp)))
  (· (rw [if_neg c4] at H); (exact absurd H (by simp)))
end Go.Proofs.Ytkeclgfnlpkjeaa.Q
