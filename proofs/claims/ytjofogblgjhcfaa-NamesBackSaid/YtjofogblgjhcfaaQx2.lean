-- Printed by a program (a variant of the kit print, with contracts of our own).
import Derived.Test.YtjofogblgjhcfaaQx0
import Derived.Test.YtjofogblgjhcfaaQx1
namespace Go.Proofs.Ytjofogblgjhcfaa.Q
open Go.RowKit Go.Proofs.YtjofogblgjhcfaaW.PrintWords Go.Proofs.YtjofogblgjhcfaaW.PrintLast Go.Proofs.YtjofogblgjhcfaaW.PrintMore
attribute [local go_sem] max2_int min2_int max_two min_two max_three min_three max_four min_four   -- for this text's walks alone
set_option linter.unusedVariables false
set_option linter.unusedSimpArgs false

/-! ### names_Text: function 10 -/
def names_Text.l0 : Nat → List Int → List Int → List Int → Int → Int → Option (ByteArray)
  | 0, _, _, _, _, _ => none
  | k + 1, x5, x6, x11, x12, x13 => if x13 < x12 then (if 0 ≤ x13 then (if x13 < (x11.length : Int) then (if (rd x11 x13) ≥ 0 then (if (rd x11 x13) < (x5.length : Int) then (if 0 ≤ (rd x11 x13) then (if x6.length < 35184372088832 then (names_Text.l0 k x5 (x6 ++ [rd x5 (rd x11 x13)]) x11 x12 (wrap64 (x13 + 1))) else (none)) else (none)) else (if x6.length < 35184372088832 then (names_Text.l0 k x5 (x6 ++ [46]) x11 x12 (wrap64 (x13 + 1))) else (none))) else (if x6.length < 35184372088832 then (names_Text.l0 k x5 (x6 ++ [46]) x11 x12 (wrap64 (x13 + 1))) else (none))) else (none)) else (none)) else (some (runesBytes x6))
def names_Text.f (k : Nat) (a0 : ByteArray) (l1 : List Int) : Option (ByteArray) := (names_Runes.f a0).bind fun t101 => (names_Text.l0 k t101 ([] : List Int) l1 (l1.length : Int) 0)
theorem names_Text.mono_l : ∀ k, (∀ y0 y1 y2 y3 y4, LeO (names_Text.l0 k y0 y1 y2 y3 y4) (names_Text.l0 (k + 1) y0 y1 y2 y3 y4))
  | 0 => fun _ _ _ _ _ r h => by simp [names_Text.l0] at h
  | k + 1 => by
    have ih0 := names_Text.mono_l k
    · intro y0 y1 y2 y3 y4
      unfold names_Text.l0
      repeat' first | (with_reducible first | exact ih0 _ _ _ _ _ | exact LeO.refl _ | exact LeO.none _ | refine LeO.ite ?_ ?_ | refine LeO.bind ?_ (fun _ => ?_)) | exact ih0 _ _ _ _ _ | exact LeO.none _ | refine LeO.ite ?_ ?_ | refine LeO.bind ?_ (fun _ => ?_)
theorem names_Text.mono : ∀ a0 a1 k, LeO (names_Text.f k a0 a1) (names_Text.f (k + 1) a0 a1) := by
  intro a0 a1 k
  have ih0 := names_Text.mono_l k
  unfold names_Text.f
  repeat' first | (with_reducible first | exact ih0 _ _ _ _ _ | exact LeO.refl _ | exact LeO.none _ | refine LeO.ite ?_ ?_ | refine LeO.bind ?_ (fun _ => ?_)) | exact ih0 _ _ _ _ _ | exact LeO.none _ | refine LeO.ite ?_ ?_ | refine LeO.bind ?_ (fun _ => ?_)

set_option maxHeartbeats 8000000 in
set_option maxRecDepth 100000 in
theorem names_Text.calls (k : Nat) (a0 : ByteArray) (A1 : Option Addr) (c1 : Nat) (l1 : List Int) (r : ByteArray) (w : World) (hr1 : Kd.C (Kd.int .i64) w A1 l1.length l1) (hc1 : l1.length ≤ c1) (h : names_Text.f k a0 l1 = some r) :
    Calls Try.prog 10 #[.string a0, .slice A1 l1.length c1] w fun e w' => e = .returned (.string r) ∧ Below w.heap.size w w' := by
  (have HR1 := Aside0.mk hr1); (have HC1 := Aside0.mk hc1); (clear hr1 hc1); (have HB := Aside0.mk (Below.refl w.heap.size w)); (have H : ((names_Runes.f a0).bind fun t101 => (names_Text.l0 k t101 ([] : List Int) l1 (l1.length : Int) 0)) = some r := h); (clear h); (replace H := Option.bind_eq_some_iff.mp H); (obtain ⟨t101, A30, H⟩ := H); (replace H : (names_Text.l0 k t101 ([] : List Int) l1 (l1.length : Int) 0) = some r := H); (have A3 := Aside0.mk A30); (clear A30); (have H' := Aside0.mk H); (clear H); (go_enter Try.func10, Try.ntmps10); (go_wp2_with (first | ((with_reducible refine gate_callee (f := 20) rfl ?_); refine goesL_ (some 10) rfl rfl Try.func20 (by kernel_rfl) rfl #[.string a0] rfl (by (try simp only [List.map_toArray, List.map_cons, List.map_nil]); first | done | rfl | (simp only [List.length_drop, List.length_take]; rfl)) ?_; (with_reducible refine (names_Runes.calls a0 t101 _ A3.out).mono ?_); rintro e w4 ⟨v102, rfl, ho0, hb⟩; refine ⟨_, rfl, ?_⟩; have n0_ := Aside0.mk (Kd.R_lower ho0 (below_size (nB_ HB.out))); have n1_ := Aside0.mk (below_step (nB_ HB.out) hb); clear HB; have HO103 := n0_; have HB := n1_; clear n0_ n1_; (try clear hb); (try clear hb2); (try clear hk); (try clear hi); (try clear ho0)))); (go_loopg [6, 13] k (fun kq v6 v13 w' => ∃ (x6_1 : List Int) (x13_1 : Int), v13 = .int .i64 x13_1 ∧ Aside0 (names_Text.l0 kq t101 x6_1 l1 (l1.length : Int) x13_1 = some r) ∧ Aside0 (kq ≤ k) ∧ Aside0 (Kd.R (Kd.int .i32) 21 w' w.heap.size (fun k_ => some k_ ≠ (v6 : Value).ownBlock) v102 t101) ∧ Aside0 (Kd.R (Kd.int .i32) 21 w' w.heap.size (fun k_ => some k_ ≠ (v102 : Value).ownBlock) v6 x6_1) ∧ Aside0 (Below w.heap.size w w'))); (case atStart => exact ⟨(([] : List Int)), (0), (by first | rfl | (simp; done) | (simp [*]; done)), H', ⟨Nat.le_refl _⟩, ⟨by (with_reducible repeat (first | apply Kd.R_alloc | apply Kd.R_drewN | apply Kd.R_drew)); exact Kd.R_mono HO103.out (fun _ hk => (by simp [Value.ownBlock]))⟩, ⟨by first | exact Kd.R_nil _ _ _ _ _ | exact Kd.N_nil _ _ _ _ _ | exact Kd.V_nil _ _ _ _ _ | exact Kd.Q_nil _ _ _ _ _ | exact Kd.S_nil _ _ _ _ _⟩, ⟨by repeat (first | (with_reducible first | exact HB.out | apply below_alloc | apply pw_below_drewN | apply below_drew1) | exact HB.out)⟩⟩)
  case round =>
    (clear H'); (try clear c1); (try clear c2); (try clear p2); (obtain ⟨x6_1, x13_1, rfl, HA, HK1, HO_5, HO_6, HB⟩ := hrel)
    cases gk with
    | zero => exact absurd HA.out (by simp [names_Text.l0])
    | succ k1 =>
      (have H := HA.out); (clear HA); (simp only [names_Text.l0] at H); (by_cases c5 : x13_1 < (l1.length : Int))
      · (rw [if_pos c5] at H); (have c5b0 : decide (x13_1 < (l1.length : Int)) = true := decide_eq_true c5); (clear c5); (by_cases c6 : 0 ≤ x13_1)
        · (rw [if_pos c6] at H); (have c6b0 : decide (0 ≤ x13_1) = true := decide_eq_true c6); (clear c6); (by_cases c7 : x13_1 < (l1.length : Int))
          · (rw [if_pos c7] at H); (have c7b0 : decide (x13_1 < (l1.length : Int)) = true := decide_eq_true c7); (clear c7); (by_cases c8 : (rd l1 x13_1) ≥ 0)
            · (rw [if_pos c8] at H); (have c8b0 : decide (0 ≤ (rd l1 x13_1)) = true := decide_eq_true c8); (clear c8); (by_cases c9 : (rd l1 x13_1) < (t101.length : Int))
              · (rw [if_pos c9] at H); (have c9b0 : decide ((rd l1 x13_1) < (t101.length : Int)) = true := decide_eq_true c9); (clear c9); (by_cases c10 : 0 ≤ (rd l1 x13_1))
                · (rw [if_pos c10] at H); (have c10b0 : decide (0 ≤ (rd l1 x13_1)) = true := decide_eq_true c10); (clear c10); (by_cases c11 : x6_1.length < 35184372088832)
                  · (rw [if_pos c11] at H); (have LMc11 := Aside0.mk c11); (clear c11); (obtain ⟨y106, hy106⟩ : ∃ y_ : List Int, y_ = (x6_1 ++ [rd t101 (rd l1 x13_1)]) := ⟨_, rfl⟩); (replace H : (names_Text.l0 k1 t101 y106 l1 (l1.length : Int) (wrap64 (x13_1 + 1))) = some r := by first | (rw [hy106]; with_reducible exact H) | (have H2_ := (Option.bind_some _ _).symm.trans H; rw [hy106]; with_reducible exact H2_) | (have H2_ := (Option.bind_some _ _).symm.trans H; with_reducible exact H2_) | with_reducible exact H | (rw [hy106]; exact H) | exact H); (have Ny106 := Aside0.mk hy106); (clear hy106); (have H' := Aside0.mk H); (clear H); (have p104 : 0 ≤ (x13_1 : Int) := of_decide_eq_true (by first | (with_reducible assumption) | assumption)); (have q104 : x13_1 < (l1.length : Int) := of_decide_eq_true (by first | (with_reducible assumption) | assumption)); (obtain ⟨ad104, e104, hx104_0⟩ := Kd.at_int HR1.out x13_1 p104 q104); (cases e104); (replace hx104_0 := (HB.out.cell (World.block_lt_of_cell? w _ hx104_0)).trans hx104_0); (replace p104 := eq_true p104); (replace q104 := eq_true q104); (obtain ⟨Ao12, co12, eo12⟩ := Kd.R_slice HO_5.out); (subst eo12); (have p105 : 0 ≤ ((rd l1 x13_1) : Int) := of_decide_eq_true (by first | (with_reducible assumption) | assumption)); (have q105 : (rd l1 x13_1) < (t101.length : Int) := of_decide_eq_true (by first | (with_reducible assumption) | assumption)); (obtain ⟨ad105, e105, hx105_0⟩ := Kd.at_int (Kd.R_reads' HO_5.out).2.2 (rd l1 x13_1) p105 q105); (cases e105); (replace p105 := eq_true p105); (replace q105 := eq_true q105); (go_wp2_with (first | ((with_reducible refine gate_builtin (b := .append) (xs := #[.tmp 25, .tmp 30]) rfl ?_); (try (refine gate_guard (by rfl) ?_; dsimp only)); at_builtin; refine Kd.R_append (Kd.int .i32) (w0 := w) w.heap.size rfl (.tmp 25) (.tmp 30) 33 21 (.int .i32 0) 4 rfl Try.underlying33 info21 rfl (by decide) (by omega) u6 x6_1 (rd t101 (rd l1 x13_1)) [.int .i32 (rd t101 (rd l1 x13_1))] (fun k_ => some k_ ≠ (.slice (some ad105) t101.length co12 : Value).ownBlock) (fun _ => False) rfl rfl ?aP (fun _ hk => hk.elim) ?aF ?aO ?aB ?aS ?aL ?_; (case aP => exact rfl); (case aB => exact (nB_ HB.out)); (case aF => exact (fun k_ hk => Kd.fresh' (Kd.R_lt (nR_ HO_5.out)) k_ hk)); (case aO => exact (nR_ HO_6.out)); (case aS => exact (below_size (nB_ HB.out))); (case aL => have := LMc11.out; omega); intro v107 w13 ho hb hg hat; rw [← Ny106.out] at ho; have n0_ := Aside0.mk (Kd.R_after (ok := (fun _ => True)) (by (with_reducible repeat (first | apply Kd.R_alloc | apply Kd.R_drewN | apply Kd.R_drew)); exact Kd.R_mono HO_5.out (fun _ hk => ⟨trivial, hk⟩)) hg hat); have n1_ := Aside0.mk (hb); have n2_ := Aside0.mk (ho); clear HO_5; clear HB; clear HO_6; have HO_5 := n0_; have HB := n1_; have HO108 := n2_; clear n0_ n1_ n2_; clear ho hb hg hat))); (go_roundg k1); (case measure => have := HK1.out; omega); (case rel => exact ⟨(y106), (wrap64 (x13_1 + 1)), (by first | rfl | (simp; done) | (simp [*]; done)), H', ⟨by have := HK1.out; omega⟩, ⟨by (with_reducible repeat (first | apply Kd.R_alloc | apply Kd.R_drewN | apply Kd.R_drew)); exact Kd.R_mono HO_5.out (fun _ hk => hk.2)⟩, ⟨nR_ HO108.out⟩, ⟨by repeat (first | (with_reducible first | exact HB.out | apply below_alloc | apply pw_below_drewN | apply below_drew1) | exact HB.out)⟩⟩)
                  (· (rw [if_neg c11] at H); (exact absurd H (by simp)))
                (· (rw [if_neg c10] at H); (exact absurd H (by simp)))
              · (rw [if_neg c9] at H); (have c9b0 : decide ((rd l1 x13_1) < (t101.length : Int)) = false := decide_eq_false c9); (clear c9); (by_cases c14 : x6_1.length < 35184372088832)
                · (rw [if_pos c14] at H); (have LMc14 := Aside0.mk c14); (clear c14); (obtain ⟨y109, hy109⟩ : ∃ y_ : List Int, y_ = (x6_1 ++ [46]) := ⟨_, rfl⟩); (replace H : (names_Text.l0 k1 t101 y109 l1 (l1.length : Int) (wrap64 (x13_1 + 1))) = some r := by first | (rw [hy109]; with_reducible exact H) | (have H2_ := (Option.bind_some _ _).symm.trans H; rw [hy109]; with_reducible exact H2_) | (have H2_ := (Option.bind_some _ _).symm.trans H; with_reducible exact H2_) | with_reducible exact H | (rw [hy109]; exact H) | exact H); (have Ny109 := Aside0.mk hy109); (clear hy109); (have H' := Aside0.mk H); (clear H); (have p104 : 0 ≤ (x13_1 : Int) := of_decide_eq_true (by first | (with_reducible assumption) | assumption)); (have q104 : x13_1 < (l1.length : Int) := of_decide_eq_true (by first | (with_reducible assumption) | assumption)); (obtain ⟨ad104, e104, hx104_0⟩ := Kd.at_int HR1.out x13_1 p104 q104); (cases e104); (replace hx104_0 := (HB.out.cell (World.block_lt_of_cell? w _ hx104_0)).trans hx104_0); (replace p104 := eq_true p104); (replace q104 := eq_true q104); (obtain ⟨Ao15, co15, eo15⟩ := Kd.R_slice HO_5.out); (subst eo15); (go_wp2_with (first | ((with_reducible refine gate_builtin (b := .append) (xs := #[.tmp 32, .tmp 33]) rfl ?_); (try (refine gate_guard (by rfl) ?_; dsimp only)); at_builtin; refine Kd.R_append (Kd.int .i32) (w0 := w) w.heap.size rfl (.tmp 32) (.tmp 33) 33 21 (.int .i32 0) 4 rfl Try.underlying33 info21 rfl (by decide) (by omega) u6 x6_1 46 [.int .i32 46] (fun k_ => some k_ ≠ (.slice Ao15 t101.length co15 : Value).ownBlock) (fun _ => False) rfl rfl ?aP (fun _ hk => hk.elim) ?aF ?aO ?aB ?aS ?aL ?_; (case aP => exact rfl); (case aB => exact (nB_ HB.out)); (case aF => exact (fun k_ hk => Kd.fresh' (Kd.R_lt (nR_ HO_5.out)) k_ hk)); (case aO => exact (nR_ HO_6.out)); (case aS => exact (below_size (nB_ HB.out))); (case aL => have := LMc14.out; omega); intro v110 w16 ho hb hg hat; rw [← Ny109.out] at ho; have n0_ := Aside0.mk (Kd.R_after (ok := (fun _ => True)) (by (with_reducible repeat (first | apply Kd.R_alloc | apply Kd.R_drewN | apply Kd.R_drew)); exact Kd.R_mono HO_5.out (fun _ hk => ⟨trivial, hk⟩)) hg hat); have n1_ := Aside0.mk (hb); have n2_ := Aside0.mk (ho); clear HO_5; clear HB; clear HO_6; have HO_5 := n0_; have HB := n1_; have HO111 := n2_; clear n0_ n1_ n2_; clear ho hb hg hat))); (go_roundg k1); (case measure => have := HK1.out; omega); (case rel => exact ⟨(y109), (wrap64 (x13_1 + 1)), (by first | rfl | (simp; done) | (simp [*]; done)), H', ⟨by have := HK1.out; omega⟩, ⟨by (with_reducible repeat (first | apply Kd.R_alloc | apply Kd.R_drewN | apply Kd.R_drew)); exact Kd.R_mono HO_5.out (fun _ hk => hk.2)⟩, ⟨nR_ HO111.out⟩, ⟨by repeat (first | (with_reducible first | exact HB.out | apply below_alloc | apply pw_below_drewN | apply below_drew1) | exact HB.out)⟩⟩)
                (· (rw [if_neg c14] at H); (exact absurd H (by simp)))
            · (rw [if_neg c8] at H); (have c8b0 : decide (0 ≤ (rd l1 x13_1)) = false := decide_eq_false c8); (clear c8); (by_cases c17 : x6_1.length < 35184372088832)
              · (rw [if_pos c17] at H); (have LMc17 := Aside0.mk c17); (clear c17); (obtain ⟨y112, hy112⟩ : ∃ y_ : List Int, y_ = (x6_1 ++ [46]) := ⟨_, rfl⟩); (replace H : (names_Text.l0 k1 t101 y112 l1 (l1.length : Int) (wrap64 (x13_1 + 1))) = some r := by first | (rw [hy112]; with_reducible exact H) | (have H2_ := (Option.bind_some _ _).symm.trans H; rw [hy112]; with_reducible exact H2_) | (have H2_ := (Option.bind_some _ _).symm.trans H; with_reducible exact H2_) | with_reducible exact H | (rw [hy112]; exact H) | exact H); (have Ny112 := Aside0.mk hy112); (clear hy112); (have H' := Aside0.mk H); (clear H); (have p104 : 0 ≤ (x13_1 : Int) := of_decide_eq_true (by first | (with_reducible assumption) | assumption)); (have q104 : x13_1 < (l1.length : Int) := of_decide_eq_true (by first | (with_reducible assumption) | assumption)); (obtain ⟨ad104, e104, hx104_0⟩ := Kd.at_int HR1.out x13_1 p104 q104); (cases e104); (replace hx104_0 := (HB.out.cell (World.block_lt_of_cell? w _ hx104_0)).trans hx104_0); (replace p104 := eq_true p104); (replace q104 := eq_true q104); (go_wp2_with (first | ((with_reducible refine gate_builtin (b := .append) (xs := #[.tmp 32, .tmp 33]) rfl ?_); (try (refine gate_guard (by rfl) ?_; dsimp only)); at_builtin; refine Kd.R_append (Kd.int .i32) (w0 := w) w.heap.size rfl (.tmp 32) (.tmp 33) 33 21 (.int .i32 0) 4 rfl Try.underlying33 info21 rfl (by decide) (by omega) u6 x6_1 46 [.int .i32 46] (fun k_ => some k_ ≠ (v102 : Value).ownBlock) (fun _ => False) rfl rfl ?aP (fun _ hk => hk.elim) ?aF ?aO ?aB ?aS ?aL ?_; (case aP => exact rfl); (case aB => exact (nB_ HB.out)); (case aF => exact (fun k_ hk => Kd.fresh' (Kd.R_lt (nR_ HO_5.out)) k_ hk)); (case aO => exact (nR_ HO_6.out)); (case aS => exact (below_size (nB_ HB.out))); (case aL => have := LMc17.out; omega); intro v113 w18 ho hb hg hat; rw [← Ny112.out] at ho; have n0_ := Aside0.mk (Kd.R_after (ok := (fun _ => True)) (by (with_reducible repeat (first | apply Kd.R_alloc | apply Kd.R_drewN | apply Kd.R_drew)); exact Kd.R_mono HO_5.out (fun _ hk => ⟨trivial, hk⟩)) hg hat); have n1_ := Aside0.mk (hb); have n2_ := Aside0.mk (ho); clear HO_5; clear HB; clear HO_6; have HO_5 := n0_; have HB := n1_; have HO114 := n2_; clear n0_ n1_ n2_; clear ho hb hg hat))); (go_roundg k1); (case measure => have := HK1.out; omega); (case rel => exact ⟨(y112), (wrap64 (x13_1 + 1)), (by first | rfl | (simp; done) | (simp [*]; done)), H', ⟨by have := HK1.out; omega⟩, ⟨by (with_reducible repeat (first | apply Kd.R_alloc | apply Kd.R_drewN | apply Kd.R_drew)); exact Kd.R_mono HO_5.out (fun _ hk => hk.2)⟩, ⟨nR_ HO114.out⟩, ⟨by repeat (first | (with_reducible first | exact HB.out | apply below_alloc | apply pw_below_drewN | apply below_drew1) | exact HB.out)⟩⟩)
              (· (rw [if_neg c17] at H); (exact absurd H (by simp)))
          (· (rw [if_neg c7] at H); (exact absurd H (by simp)))
        (· (rw [if_neg c6] at H); (exact absurd H (by simp)))
      (· (rw [if_neg c5] at H); (have c5b0 : decide (x13_1 < (l1.length : Int)) = false := decide_eq_false c5); (clear c5); (obtain rfl := Option.some.inj H); (have hcv19 := own_runes (P := Try.prog) Try.underlying33 Try.underlying21 Try.underlying9 (Kd.own_of_R HO_6.out)); (go_wp2); (go_ret); (exact ⟨by first | rfl | (simp [errW_none, errW_some] <;> rfl) | (simp [*, errW_none, errW_some] <;> rfl), by repeat (first | (with_reducible first | exact HB.out | apply below_alloc | apply pw_below_drewN | apply below_drew1) | exact HB.out)⟩))
/-! ### slices_Index_rune_rune: function 23 -/
def slices_Index_rune_rune.l0 : Nat → List Int → Int → Int → Int → Option (Int)
  | 0, _, _, _, _ => none
  | k + 1, x0, x1, x7, x8 => if x8 < x7 then (if 0 ≤ x8 then (if x8 < (x0.length : Int) then (if x1 = (rd x0 x8) then (some x8) else (slices_Index_rune_rune.l0 k x0 x1 x7 (wrap64 (x8 + 1)))) else (none)) else (none)) else (some (-1))
def slices_Index_rune_rune.f (k : Nat) (l0 : List Int) (a1 : Int) : Option (Int) := slices_Index_rune_rune.l0 k l0 a1 (l0.length : Int) 0
theorem slices_Index_rune_rune.mono_l : ∀ k, (∀ y0 y1 y2 y3, LeO (slices_Index_rune_rune.l0 k y0 y1 y2 y3) (slices_Index_rune_rune.l0 (k + 1) y0 y1 y2 y3))
  | 0 => fun _ _ _ _ r h => by simp [slices_Index_rune_rune.l0] at h
  | k + 1 => by
    have ih0 := slices_Index_rune_rune.mono_l k
    · intro y0 y1 y2 y3
      unfold slices_Index_rune_rune.l0
      repeat' first | (with_reducible first | exact ih0 _ _ _ _ | exact LeO.refl _ | exact LeO.none _ | refine LeO.ite ?_ ?_ | refine LeO.bind ?_ (fun _ => ?_)) | exact ih0 _ _ _ _ | exact LeO.none _ | refine LeO.ite ?_ ?_ | refine LeO.bind ?_ (fun _ => ?_)
theorem slices_Index_rune_rune.mono : ∀ a0 a1 k, LeO (slices_Index_rune_rune.f k a0 a1) (slices_Index_rune_rune.f (k + 1) a0 a1) := by
  intro a0 a1 k
  have ih0 := slices_Index_rune_rune.mono_l k
  unfold slices_Index_rune_rune.f
  repeat' first | (with_reducible first | exact ih0 _ _ _ _ | exact LeO.refl _ | exact LeO.none _ | refine LeO.ite ?_ ?_ | refine LeO.bind ?_ (fun _ => ?_)) | exact ih0 _ _ _ _ | exact LeO.none _ | refine LeO.ite ?_ ?_ | refine LeO.bind ?_ (fun _ => ?_)

set_option maxHeartbeats 8000000 in
set_option maxRecDepth 100000 in
theorem slices_Index_rune_rune.calls (k : Nat) (A0 : Option Addr) (c0 : Nat) (l0 : List Int) (a1 : Int) (r : Int) (w : World) (hr0 : Kd.C (Kd.int .i32) w A0 l0.length l0) (hc0 : l0.length ≤ c0) (h : slices_Index_rune_rune.f k l0 a1 = some r) :
    Calls Try.prog 23 #[.slice A0 l0.length c0, .int .i32 a1] w fun e w' => e = .returned (.int .i64 r) ∧ Drawn0 w w' := by
  (have HR0 := Aside0.mk hr0); (have HC0 := Aside0.mk hc0); (clear hr0 hc0); (have H : (slices_Index_rune_rune.l0 k l0 a1 (l0.length : Int) 0) = some r := h); (clear h); (have H' := Aside0.mk H); (clear H); (go_enter Try.func23, Try.ntmps23); (go_wp2); (go_loopg [8] k (fun kq v8 w' => ∃ (x8_1 : Int), v8 = .int .i64 x8_1 ∧ Aside0 (slices_Index_rune_rune.l0 kq l0 a1 (l0.length : Int) x8_1 = some r) ∧ Aside0 (kq ≤ k) ∧ Drawn0 w w')); (case atStart => exact ⟨(0), (by first | rfl | (simp; done) | (simp [*]; done)), H', ⟨Nat.le_refl _⟩, by repeat (first | exact Drawn0.refl _ | apply Drawn0.step)⟩)
  case round =>
    (clear H'); (try clear c2); (try clear p2); (obtain ⟨x8_1, rfl, HA, HK1, ⟨m1, rfl⟩⟩ := hrel)
    cases gk with
    | zero => exact absurd HA.out (by simp [slices_Index_rune_rune.l0])
    | succ k1 =>
      (have H := HA.out); (clear HA); (simp only [slices_Index_rune_rune.l0] at H); (by_cases c3 : x8_1 < (l0.length : Int))
      · (rw [if_pos c3] at H); (have c3b0 : decide (x8_1 < (l0.length : Int)) = true := decide_eq_true c3); (clear c3); (by_cases c4 : 0 ≤ x8_1)
        · (rw [if_pos c4] at H); (have c4b0 : decide (0 ≤ x8_1) = true := decide_eq_true c4); (clear c4); (by_cases c5 : x8_1 < (l0.length : Int))
          · (rw [if_pos c5] at H); (have c5b0 : decide (x8_1 < (l0.length : Int)) = true := decide_eq_true c5); (clear c5); (by_cases c6 : a1 = (rd l0 x8_1))
            · (rw [if_pos c6] at H); (have c6b0 : (a1 == (rd l0 x8_1)) = true := beq_iff_eq.mpr c6); (have c6b1 : (a1 != (rd l0 x8_1)) = false := bne_eq_false_iff_eq.mpr c6); (clear c6); (obtain rfl := Option.some.inj H); (have p115 : 0 ≤ (x8_1 : Int) := of_decide_eq_true (by first | (with_reducible assumption) | assumption)); (have q115 : x8_1 < (l0.length : Int) := of_decide_eq_true (by first | (with_reducible assumption) | assumption)); (obtain ⟨ad115, e115, hx115_0⟩ := Kd.at_int HR0.out x8_1 p115 q115); (cases e115); (replace p115 := eq_true p115); (replace q115 := eq_true q115); (go_wp2); (go_ret); (exact ⟨by first | rfl | (simp; done) | (simp [*]; done), by repeat (first | exact Drawn0.refl _ | apply Drawn0.step)⟩)
            · (rw [if_neg c6] at H); (have c6b0 : (a1 == (rd l0 x8_1)) = false := beq_eq_false_iff_ne.mpr c6); (have c6b1 : (a1 != (rd l0 x8_1)) = true := bne_iff_ne.mpr c6); (have H' := Aside0.mk H); (clear H); (have p115 : 0 ≤ (x8_1 : Int) := of_decide_eq_true (by first | (with_reducible assumption) | assumption)); (have q115 : x8_1 < (l0.length : Int) := of_decide_eq_true (by first | (with_reducible assumption) | assumption)); (obtain ⟨ad115, e115, hx115_0⟩ := Kd.at_int HR0.out x8_1 p115 q115); (cases e115); (replace p115 := eq_true p115); (replace q115 := eq_true q115); (go_wp2); (go_roundg k1); (case measure => have := HK1.out; omega); (case rel => exact ⟨(wrap64 (x8_1 + 1)), (by first | rfl | (simp; done) | (simp [*]; done)), H', ⟨by have := HK1.out; omega⟩, by repeat (first | exact Drawn0.refl _ | apply Drawn0.step)⟩)
          (· (rw [if_neg c5] at H); (exact absurd H (by simp)))
        (· (rw [if_neg c4] at H); (exact absurd H (by simp)))
      (· (rw [if_neg c3] at H); (have c3b0 : decide (x8_1 < (l0.length : Int)) = false := decide_eq_false c3); (clear c3); (obtain rfl := Option.some.inj H); (go_wp2); (go_ret); (exact ⟨by first | rfl | (simp; done) | (simp [*]; done), by repeat (first | exact Drawn0.refl _ | apply Drawn0.step)⟩))
/-! ### names_Find: function 13 -/
def names_Find.f (k : Nat) (a0 : ByteArray) (a1 : Int) : Option (Int) := (names_Runes.f a0).bind fun t116 => ((slices_Index_rune_rune.f k t116 a1).bind fun t119 => (some t119))
theorem names_Find.mono : ∀ a0 a1 k, LeO (names_Find.f k a0 a1) (names_Find.f (k + 1) a0 a1) := by
  intro a0 a1 k
  unfold names_Find.f
  repeat' first
      | (with_reducible exact slices_Index_rune_rune.mono _ _ _)
      | (with_reducible exact LeO.refl _)
      | (with_reducible exact LeO.none _)
      | (with_reducible refine LeO.ite ?_ ?_)
      | (with_reducible refine LeO.bind ?_ (fun _ => ?_))
      | exact slices_Index_rune_rune.mono _ _ _
      | exact LeO.none _
      | refine LeO.ite ?_ ?_
      | refine LeO.bind ?_ (fun _ => ?_)
set_option maxHeartbeats 8000000 in
set_option maxRecDepth 100000 in
theorem names_Find.calls (k : Nat) (a0 : ByteArray) (a1 : Int) (r : Int) (w : World) (h : names_Find.f k a0 a1 = some r) :
    Calls Try.prog 13 #[.string a0, .int .i32 a1] w fun e w' => e = .returned (.int .i64 r) ∧ Below w.heap.size w w' := by
  have HB := Aside0.mk (Below.refl w.heap.size w)
  have H : ((names_Runes.f a0).bind fun t116 => ((slices_Index_rune_rune.f k t116 a1).bind fun t119 => (some t119))) = some r := h
  clear h
  replace H := Option.bind_eq_some_iff.mp H
  obtain ⟨t116, A30, H⟩ := H
  replace H : ((slices_Index_rune_rune.f k t116 a1).bind fun t119 => (some t119)) = some r := H
  have A3 := Aside0.mk A30
  clear A30
  replace H := Option.bind_eq_some_iff.mp H
  obtain ⟨t119, A40, H⟩ := H
  replace H : (some t119) = some r := H
  have A4 := Aside0.mk A40
  clear A40
  obtain rfl := Option.some.inj H
  go_enter Try.func13, Try.ntmps13
  go_wp2_with (first | ((with_reducible refine gate_callee (f := 20) rfl ?_); refine goesL_ (some 6) rfl rfl Try.func20 (by kernel_rfl) rfl #[.string a0] rfl (by (try simp only [List.map_toArray, List.map_cons, List.map_nil]); first | done | rfl | (simp only [List.length_drop, List.length_take]; rfl)) ?_; (with_reducible refine (names_Runes.calls a0 t116 _ A3.out).mono ?_); rintro e w5 ⟨v117, rfl, ho0, hb⟩; refine ⟨_, rfl, ?_⟩; have n0_ := Aside0.mk (Kd.R_lower ho0 (below_size (by repeat (first | (with_reducible first | exact HB.out | apply below_alloc | apply pw_below_drewN | apply below_drew1) | exact HB.out)))); have n1_ := Aside0.mk (below_step (by repeat (first | (with_reducible first | exact HB.out | apply below_alloc | apply pw_below_drewN | apply below_drew1) | exact HB.out)) hb); clear HB; have HO118 := n0_; have HB := n1_; clear n0_ n1_; (try clear hb); (try clear hb2); (try clear hk); (try clear hi); (try clear ho0); obtain ⟨Ao6, co6, eo6⟩ := Kd.R_slice HO118.out; subst eo6) | ((with_reducible refine gate_callee (f := 23) rfl ?_); refine goesL_ (some 8) rfl rfl Try.func23 (by kernel_rfl) rfl #[.slice Ao6 t116.length co6, .int .i32 a1] rfl (by (try simp only [List.map_toArray, List.map_cons, List.map_nil]); first | done | rfl | (simp only [List.length_drop, List.length_take]; rfl)) ?_; (with_reducible refine (slices_Index_rune_rune.calls k _ _ t116 a1 t119 _ ?side1 ?side2 A4.out).mono ?_); (case side1 => repeat (first | exact (Kd.R_reads' HO118.out).2.2 | (with_reducible refine Kd.C_alloc ?_ _) | (with_reducible refine Kd.C_drewN ?_ _) | (with_reducible refine Kd.C_drew ?_))); (case side2 => exact (Kd.R_reads' HO118.out).2.1); rintro e w' ⟨rfl, ⟨nd, rfl⟩⟩; refine ⟨_, rfl, ?_⟩))
  go_ret
  exact ⟨by first | rfl | (simp [errW_none, errW_some] <;> rfl) | (simp [*, errW_none, errW_some] <;> rfl), by repeat (first | (with_reducible first | exact HB.out | apply below_alloc | apply pw_below_drewN | apply below_drew1) | exact HB.out)⟩

/-! ### slices_Index_int_int: function 26 -/
def slices_Index_int_int.l0 : Nat → List Int → Int → Int → Int → Option (Int)
  | 0, _, _, _, _ => none
  | k + 1, x0, x1, x7, x8 => if x8 < x7 then (if 0 ≤ x8 then (if x8 < (x0.length : Int) then (if x1 = (rd x0 x8) then (some x8) else (slices_Index_int_int.l0 k x0 x1 x7 (wrap64 (x8 + 1)))) else (none)) else (none)) else (some (-1))
def slices_Index_int_int.f (k : Nat) (l0 : List Int) (a1 : Int) : Option (Int) := slices_Index_int_int.l0 k l0 a1 (l0.length : Int) 0
theorem slices_Index_int_int.mono_l : ∀ k, (∀ y0 y1 y2 y3, LeO (slices_Index_int_int.l0 k y0 y1 y2 y3) (slices_Index_int_int.l0 (k + 1) y0 y1 y2 y3))
  | 0 => fun _ _ _ _ r h => by simp [slices_Index_int_int.l0] at h
  | k + 1 => by
    have ih0 := slices_Index_int_int.mono_l k
    · intro y0 y1 y2 y3
      unfold slices_Index_int_int.l0
      repeat' first | (with_reducible first | exact ih0 _ _ _ _ | exact LeO.refl _ | exact LeO.none _ | refine LeO.ite ?_ ?_ | refine LeO.bind ?_ (fun _ => ?_)) | exact ih0 _ _ _ _ | exact LeO.none _ | refine LeO.ite ?_ ?_ | refine LeO.bind ?_ (fun _ => ?_)
theorem slices_Index_int_int.mono : ∀ a0 a1 k, LeO (slices_Index_int_int.f k a0 a1) (slices_Index_int_int.f (k + 1) a0 a1) := by
  intro a0 a1 k
  have ih0 := slices_Index_int_int.mono_l k
  unfold slices_Index_int_int.f
  repeat' first | (with_reducible first | exact ih0 _ _ _ _ | exact LeO.refl _ | exact LeO.none _ | refine LeO.ite ?_ ?_ | refine LeO.bind ?_ (fun _ => ?_)) | exact ih0 _ _ _ _ | exact LeO.none _ | refine LeO.ite ?_ ?_ | refine LeO.bind ?_ (fun _ => ?_)

set_option maxHeartbeats 8000000 in
set_option maxRecDepth 100000 in
theorem slices_Index_int_int.calls (k : Nat) (A0 : Option Addr) (c0 : Nat) (l0 : List Int) (a1 : Int) (r : Int) (w : World) (hr0 : Kd.C (Kd.int .i64) w A0 l0.length l0) (hc0 : l0.length ≤ c0) (h : slices_Index_int_int.f k l0 a1 = some r) :
    Calls Try.prog 26 #[.slice A0 l0.length c0, .int .i64 a1] w fun e w' => e = .returned (.int .i64 r) ∧ Drawn0 w w' := by
  (have HR0 := Aside0.mk hr0); (have HC0 := Aside0.mk hc0); (clear hr0 hc0); (have H : (slices_Index_int_int.l0 k l0 a1 (l0.length : Int) 0) = some r := h); (clear h); (have H' := Aside0.mk H); (clear H); (go_enter Try.func26, Try.ntmps26); (go_wp2); (go_loopg [8] k (fun kq v8 w' => ∃ (x8_1 : Int), v8 = .int .i64 x8_1 ∧ Aside0 (slices_Index_int_int.l0 kq l0 a1 (l0.length : Int) x8_1 = some r) ∧ Aside0 (kq ≤ k) ∧ Drawn0 w w')); (case atStart => exact ⟨(0), (by first | rfl | (simp; done) | (simp [*]; done)), H', ⟨Nat.le_refl _⟩, by repeat (first | exact Drawn0.refl _ | apply Drawn0.step)⟩)
  case round =>
    (clear H'); (try clear c2); (try clear p2); (obtain ⟨x8_1, rfl, HA, HK1, ⟨m1, rfl⟩⟩ := hrel)
    cases gk with
    | zero => exact absurd HA.out (by simp [slices_Index_int_int.l0])
    | succ k1 =>
      (have H := HA.out); (clear HA); (simp only [slices_Index_int_int.l0] at H); (by_cases c3 : x8_1 < (l0.length : Int))
      · (rw [if_pos c3] at H); (have c3b0 : decide (x8_1 < (l0.length : Int)) = true := decide_eq_true c3); (clear c3); (by_cases c4 : 0 ≤ x8_1)
        · (rw [if_pos c4] at H); (have c4b0 : decide (0 ≤ x8_1) = true := decide_eq_true c4); (clear c4); (by_cases c5 : x8_1 < (l0.length : Int))
          · (rw [if_pos c5] at H); (have c5b0 : decide (x8_1 < (l0.length : Int)) = true := decide_eq_true c5); (clear c5); (by_cases c6 : a1 = (rd l0 x8_1))
            · (rw [if_pos c6] at H); (have c6b0 : (a1 == (rd l0 x8_1)) = true := beq_iff_eq.mpr c6); (have c6b1 : (a1 != (rd l0 x8_1)) = false := bne_eq_false_iff_eq.mpr c6); (clear c6); (obtain rfl := Option.some.inj H); (have p120 : 0 ≤ (x8_1 : Int) := of_decide_eq_true (by first | (with_reducible assumption) | assumption)); (have q120 : x8_1 < (l0.length : Int) := of_decide_eq_true (by first | (with_reducible assumption) | assumption)); (obtain ⟨ad120, e120, hx120_0⟩ := Kd.at_int HR0.out x8_1 p120 q120); (cases e120); (replace p120 := eq_true p120); (replace q120 := eq_true q120); (go_wp2); (go_ret); (exact ⟨by first | rfl | (simp; done) | (simp [*]; done), by repeat (first | exact Drawn0.refl _ | apply Drawn0.step)⟩)
            · (rw [if_neg c6] at H); (have c6b0 : (a1 == (rd l0 x8_1)) = false := beq_eq_false_iff_ne.mpr c6); (have c6b1 : (a1 != (rd l0 x8_1)) = true := bne_iff_ne.mpr c6); (have H' := Aside0.mk H); (clear H); (have p120 : 0 ≤ (x8_1 : Int) := of_decide_eq_true (by first | (with_reducible assumption) | assumption)); (have q120 : x8_1 < (l0.length : Int) := of_decide_eq_true (by first | (with_reducible assumption) | assumption)); (obtain ⟨ad120, e120, hx120_0⟩ := Kd.at_int HR0.out x8_1 p120 q120); (cases e120); (replace p120 := eq_true p120); (replace q120 := eq_true q120); (go_wp2); (go_roundg k1); (case measure => have := HK1.out; omega); (case rel => exact ⟨(wrap64 (x8_1 + 1)), (by first | rfl | (simp; done) | (simp [*]; done)), H', ⟨by have := HK1.out; omega⟩, by repeat (first | exact Drawn0.refl _ | apply Drawn0.step)⟩)
          (· (rw [if_neg c5] at H); (exact absurd H (by simp)))
        (· (rw [if_neg c4] at H); (exact absurd H (by simp)))
      (· (rw [if_neg c3] at H); (have c3b0 : decide (x8_1 < (l0.length : Int)) = false := decide_eq_false c3); (clear c3); (obtain rfl := Option.some.inj H); (go_wp2); (go_ret); (exact ⟨by first | rfl | (simp; done) | (simp [*]; done), by repeat (first | exact Drawn0.refl _ | apply Drawn0.step)⟩))
/-! ### slices_Contains_int_int: function 22 -/
def slices_Contains_int_int.f (k : Nat) (l0 : List Int) (a1 : Int) : Option (Bool) := (slices_Index_int_int.f k l0 a1).bind fun t121 => (some (decide (t121 ≥ 0)))
theorem slices_Contains_int_int.mono : ∀ a0 a1 k, LeO (slices_Contains_int_int.f k a0 a1) (slices_Contains_int_int.f (k + 1) a0 a1) := by
  intro a0 a1 k
  unfold slices_Contains_int_int.f
  repeat' first
      | (with_reducible exact slices_Index_int_int.mono _ _ _)
      | (with_reducible exact LeO.refl _)
      | (with_reducible exact LeO.none _)
      | (with_reducible refine LeO.ite ?_ ?_)
      | (with_reducible refine LeO.bind ?_ (fun _ => ?_))
      | exact slices_Index_int_int.mono _ _ _
      | exact LeO.none _
      | refine LeO.ite ?_ ?_
      | refine LeO.bind ?_ (fun _ => ?_)
set_option maxHeartbeats 8000000 in
set_option maxRecDepth 100000 in
theorem slices_Contains_int_int.calls (k : Nat) (A0 : Option Addr) (c0 : Nat) (l0 : List Int) (a1 : Int) (r : Bool) (w : World) (hr0 : Kd.C (Kd.int .i64) w A0 l0.length l0) (hc0 : l0.length ≤ c0) (h : slices_Contains_int_int.f k l0 a1 = some r) :
    Calls Try.prog 22 #[.slice A0 l0.length c0, .int .i64 a1] w fun e w' => e = .returned (.bool r) ∧ Drawn0 w w' := by
  have HR0 := Aside0.mk hr0
  have HC0 := Aside0.mk hc0
  clear hr0 hc0
  have H : ((slices_Index_int_int.f k l0 a1).bind fun t121 => (some (decide (t121 ≥ 0)))) = some r := h
  clear h
  replace H := Option.bind_eq_some_iff.mp H
  obtain ⟨t121, A30, H⟩ := H
  replace H : (some (decide (t121 ≥ 0))) = some r := H
  have A3 := Aside0.mk A30
  clear A30
  obtain rfl := Option.some.inj H
  go_enter Try.func22, Try.ntmps22
  go_wp2_with (first | ((with_reducible refine gate_callee (f := 26) rfl ?_); refine goesL_ (some 7) rfl rfl Try.func26 (by kernel_rfl) rfl #[.slice A0 l0.length c0, .int .i64 a1] rfl (by (try simp only [List.map_toArray, List.map_cons, List.map_nil]); first | done | rfl | (simp only [List.length_drop, List.length_take]; rfl)) ?_; (with_reducible refine (slices_Index_int_int.calls k _ _ l0 a1 t121 _ ?side1 ?side2 A3.out).mono ?_); (case side1 => repeat (first | exact HR0.out | (with_reducible refine Kd.C_alloc ?_ _) | (with_reducible refine Kd.C_drewN ?_ _) | (with_reducible refine Kd.C_drew ?_))); (case side2 => exact HC0.out); rintro e w' ⟨rfl, ⟨nd, rfl⟩⟩; refine ⟨_, rfl, ?_⟩))
  go_ret
  exact ⟨by first | rfl | (simp; done) | (simp [*]; done), by repeat (first | exact Drawn0.refl _ | apply Drawn0.step)⟩

end Go.Proofs.Ytjofogblgjhcfaa.Q
