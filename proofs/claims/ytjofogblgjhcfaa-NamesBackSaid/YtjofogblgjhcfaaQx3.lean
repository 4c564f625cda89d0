-- Printed by a program (a variant of the kit print, with contracts of our own).
import Derived.Test.YtjofogblgjhcfaaQx0
import Derived.Test.YtjofogblgjhcfaaQx1
import Derived.Test.YtjofogblgjhcfaaQx2
namespace Go.Proofs.Ytjofogblgjhcfaa.Q
open Go.RowKit Go.Proofs.YtjofogblgjhcfaaW.PrintWords Go.Proofs.YtjofogblgjhcfaaW.PrintLast Go.Proofs.YtjofogblgjhcfaaW.PrintMore
attribute [local go_sem] max2_int min2_int max_two min_two max_three min_three max_four min_four   -- for this text's walks alone
set_option linter.unusedVariables false
set_option linter.unusedSimpArgs false

/-! ### names_Note: function 11 -/
def names_Note.l0 : Nat → ByteArray → Int → List Int → List Int → Int → Int → Option (List Int × Bool × Int)
  | 0, _, _, _, _, _, _ => none
  | k + 1, x0, x2, x10, x19, x20, x21 => if x21 < x20 then (if 0 ≤ x21 then (if x21 < (x19.length : Int) then ((names_Find.f k x0 (rd x19 x21)).bind fun t126 => (if (rd x19 x21) = 32 then (names_Note.l0 k x0 x2 x10 x19 x20 (wrap64 (x21 + 1))) else (if (rd x19 x21) = 46 then (if x10.length < 17592186044416 then (names_Note.l0 k x0 x2 (x10 ++ [(-1)]) x19 x20 (wrap64 (x21 + 1))) else (none)) else (if t126 < 0 then (some (([] : List Int), false, 14)) else ((slices_Contains_int_int.f k x10 t126).bind fun t130 => (if t130 = true then (some (([] : List Int), false, 14)) else (if x10.length < 17592186044416 then (names_Note.l0 k x0 x2 (x10 ++ [t126]) x19 x20 (wrap64 (x21 + 1))) else (none)))))))) else (none)) else (none)) else (if (x10.length : Int) = 0 then (some (([] : List Int), false, 0)) else (if (x10.length : Int) = x2 then (some (x10, true, 0)) else (some (([] : List Int), false, 14))))
def names_Note.f (k : Nat) (a0 : ByteArray) (a1 : ByteArray) (a2 : Int) : Option (List Int × Bool × Int) := (names_Runes.f a1).bind fun t122 => (if (t122.length : Int) > 16 then (some (([] : List Int), false, 14)) else (names_Note.l0 k a0 a2 ([] : List Int) t122 (t122.length : Int) 0))
theorem names_Note.mono_l : ∀ k, (∀ y0 y1 y2 y3 y4 y5, LeO (names_Note.l0 k y0 y1 y2 y3 y4 y5) (names_Note.l0 (k + 1) y0 y1 y2 y3 y4 y5))
  | 0 => fun _ _ _ _ _ _ r h => by simp [names_Note.l0] at h
  | k + 1 => by
    have ih0 := names_Note.mono_l k
    · intro y0 y1 y2 y3 y4 y5
      unfold names_Note.l0
      repeat' first | (with_reducible first | exact ih0 _ _ _ _ _ _ | exact names_Find.mono _ _ _ | exact slices_Contains_int_int.mono _ _ _ | exact LeO.refl _ | exact LeO.none _ | refine LeO.ite ?_ ?_ | refine LeO.bind ?_ (fun _ => ?_)) | exact ih0 _ _ _ _ _ _ | exact LeO.none _ | refine LeO.ite ?_ ?_ | refine LeO.bind ?_ (fun _ => ?_)
theorem names_Note.mono : ∀ a0 a1 a2 k, LeO (names_Note.f k a0 a1 a2) (names_Note.f (k + 1) a0 a1 a2) := by
  intro a0 a1 a2 k
  have ih0 := names_Note.mono_l k
  unfold names_Note.f
  repeat' first | (with_reducible first | exact ih0 _ _ _ _ _ _ | exact names_Find.mono _ _ _ | exact slices_Contains_int_int.mono _ _ _ | exact LeO.refl _ | exact LeO.none _ | refine LeO.ite ?_ ?_ | refine LeO.bind ?_ (fun _ => ?_)) | exact ih0 _ _ _ _ _ _ | exact LeO.none _ | refine LeO.ite ?_ ?_ | refine LeO.bind ?_ (fun _ => ?_)

set_option maxHeartbeats 8000000 in
set_option maxRecDepth 100000 in
theorem names_Note.calls (k : Nat) (a0 : ByteArray) (a1 : ByteArray) (a2 : Int) (r1 : List Int) (r2 : Bool) (r3 : Int) (w : World) (h : names_Note.f k a0 a1 a2 = some (r1, r2, r3)) :
    Calls Try.prog 11 #[.string a0, .string a1, .int .i64 a2] w fun e w' => ∃ v0_ : Value, e = .returned (.tuple #[v0_, .bool r2, .int .i64 r3]) ∧ Kd.R (Kd.int .i64) 3 w' w.heap.size (fun _ => True) v0_ r1 ∧ Below w.heap.size w w' := by
  (have HB := Aside0.mk (Below.refl w.heap.size w)); (have H : ((names_Runes.f a1).bind fun t122 => (if (t122.length : Int) > 16 then (some (([] : List Int), false, 14)) else (names_Note.l0 k a0 a2 ([] : List Int) t122 (t122.length : Int) 0))) = some (r1, r2, r3) := h); (clear h); (replace H := Option.bind_eq_some_iff.mp H); (obtain ⟨t122, A40, H⟩ := H); (replace H : (if (t122.length : Int) > 16 then (some (([] : List Int), false, 14)) else (names_Note.l0 k a0 a2 ([] : List Int) t122 (t122.length : Int) 0)) = some (r1, r2, r3) := H); (have A4 := Aside0.mk A40); (clear A40); (by_cases c5 : (t122.length : Int) > 16)
  · (rw [if_pos c5] at H); (have c5b0 : decide (16 < (t122.length : Int)) = true := decide_eq_true c5); (have c5b1 : decide (16 < t122.length) = true := decide_eq_true (by omega)); (clear c5); (simp only [Option.some.injEq, Prod.mk.injEq] at H); (obtain ⟨rfl, rfl, rfl⟩ := H); (go_enter Try.func11, Try.ntmps11); (go_wp2_with (first | ((with_reducible refine gate_callee (f := 20) rfl ?_); refine goesL_ (some 15) rfl rfl Try.func20 (by kernel_rfl) rfl #[.string a1] rfl (by (try simp only [List.map_toArray, List.map_cons, List.map_nil]); first | done | rfl | (simp only [List.length_drop, List.length_take]; rfl)) ?_; (with_reducible refine (names_Runes.calls a1 t122 _ A4.out).mono ?_); rintro e w6 ⟨v123, rfl, ho0, hb⟩; refine ⟨_, rfl, ?_⟩; have n0_ := Aside0.mk (Kd.R_lower ho0 (below_size (nB_ HB.out))); have n1_ := Aside0.mk (below_step (nB_ HB.out) hb); clear HB; have HO124 := n0_; have HB := n1_; clear n0_ n1_; (try clear hb); (try clear hb2); (try clear hk); (try clear hi); (try clear ho0); obtain ⟨Ao7, co7, eo7⟩ := Kd.R_slice HO124.out; subst eo7))); (go_ret3); (exact ⟨_, by first | rfl | (simp [errW_none, errW_some] <;> rfl) | (simp [*, errW_none, errW_some] <;> rfl), by first | exact Kd.R_nil _ _ _ _ _ | exact Kd.N_nil _ _ _ _ _ | exact Kd.V_nil _ _ _ _ _ | exact Kd.Q_nil _ _ _ _ _ | exact Kd.S_nil _ _ _ _ _, by repeat (first | (with_reducible first | exact HB.out | apply below_alloc | apply pw_below_drewN | apply below_drew1) | exact HB.out)⟩)
  · (rw [if_neg c5] at H); (have c5b0 : decide (16 < (t122.length : Int)) = false := decide_eq_false c5); (have c5b1 : decide (16 < t122.length) = false := decide_eq_false (by omega)); (clear c5); (have H' := Aside0.mk H); (clear H); (go_enter Try.func11, Try.ntmps11); (go_wp2_with (first | ((with_reducible refine gate_callee (f := 20) rfl ?_); refine goesL_ (some 15) rfl rfl Try.func20 (by kernel_rfl) rfl #[.string a1] rfl (by (try simp only [List.map_toArray, List.map_cons, List.map_nil]); first | done | rfl | (simp only [List.length_drop, List.length_take]; rfl)) ?_; (with_reducible refine (names_Runes.calls a1 t122 _ A4.out).mono ?_); rintro e w8 ⟨v123, rfl, ho0, hb⟩; refine ⟨_, rfl, ?_⟩; have n0_ := Aside0.mk (Kd.R_lower ho0 (below_size (nB_ HB.out))); have n1_ := Aside0.mk (below_step (nB_ HB.out) hb); clear HB; have HO124 := n0_; have HB := n1_; clear n0_ n1_; (try clear hb); (try clear hb2); (try clear hk); (try clear hi); (try clear ho0); obtain ⟨Ao9, co9, eo9⟩ := Kd.R_slice HO124.out; subst eo9))); (go_loopg [10, 21] k (fun kq v10 v21 w' => ∃ (x10_1 : List Int) (x21_1 : Int), v21 = .int .i64 x21_1 ∧ Aside0 (names_Note.l0 kq a0 a2 x10_1 t122 (t122.length : Int) x21_1 = some (r1, r2, r3)) ∧ Aside0 (kq ≤ k) ∧ Aside0 (Kd.R (Kd.int .i64) 3 w' w.heap.size (fun _ => True) v10 x10_1) ∧ Aside0 (Kd.R (Kd.int .i32) 21 w' w.heap.size (fun _ => True) (.slice Ao9 t122.length co9) t122) ∧ Aside0 (Below w.heap.size w w'))); (case atStart => exact ⟨(([] : List Int)), (0), (by first | rfl | (simp; done) | (simp [*]; done)), H', ⟨Nat.le_refl _⟩, ⟨by first | exact Kd.R_nil _ _ _ _ _ | exact Kd.N_nil _ _ _ _ _ | exact Kd.V_nil _ _ _ _ _ | exact Kd.Q_nil _ _ _ _ _ | exact Kd.S_nil _ _ _ _ _⟩, ⟨nR_ HO124.out⟩, ⟨by repeat (first | (with_reducible first | exact HB.out | apply below_alloc | apply pw_below_drewN | apply below_drew1) | exact HB.out)⟩⟩)
    case round =>
      (clear H'); (try clear c1); (try clear c2); (try clear p2); (try clear c5); (try clear c5b0); (try clear c5b1); (obtain ⟨x10_1, x21_1, rfl, HA, HK1, HO_10, HO_19, HB⟩ := hrel)
      cases gk with
      | zero => exact absurd HA.out (by simp [names_Note.l0])
      | succ k1 =>
        (have H := HA.out); (clear HA); (simp only [names_Note.l0] at H); (by_cases c10 : x21_1 < (t122.length : Int))
        · (rw [if_pos c10] at H); (have c10b0 : decide (x21_1 < (t122.length : Int)) = true := decide_eq_true c10); (clear c10); (by_cases c11 : 0 ≤ x21_1)
          · (rw [if_pos c11] at H); (have c11b0 : decide (0 ≤ x21_1) = true := decide_eq_true c11); (clear c11); (by_cases c12 : x21_1 < (t122.length : Int))
            · (rw [if_pos c12] at H); (have c12b0 : decide (x21_1 < (t122.length : Int)) = true := decide_eq_true c12); (clear c12); (replace H := Option.bind_eq_some_iff.mp H); (obtain ⟨t126, A130, H⟩ := H); (replace H : (if (rd t122 x21_1) = 32 then (names_Note.l0 k1 a0 a2 x10_1 t122 (t122.length : Int) (wrap64 (x21_1 + 1))) else (if (rd t122 x21_1) = 46 then (if x10_1.length < 17592186044416 then (names_Note.l0 k1 a0 a2 (x10_1 ++ [(-1)]) t122 (t122.length : Int) (wrap64 (x21_1 + 1))) else (none)) else (if t126 < 0 then (some (([] : List Int), false, 14)) else ((slices_Contains_int_int.f k1 x10_1 t126).bind fun t130 => (if t130 = true then (some (([] : List Int), false, 14)) else (if x10_1.length < 17592186044416 then (names_Note.l0 k1 a0 a2 (x10_1 ++ [t126]) t122 (t122.length : Int) (wrap64 (x21_1 + 1))) else (none))))))) = some (r1, r2, r3) := H); (have A13 := Aside0.mk A130); (clear A130); (by_cases c14 : (rd t122 x21_1) = 32)
              · (rw [if_pos c14] at H); (have c14b0 : ((rd t122 x21_1) == 32) = true := beq_iff_eq.mpr c14); (have c14b1 : ((rd t122 x21_1) != 32) = false := bne_eq_false_iff_eq.mpr c14); (clear c14); (have H' := Aside0.mk H); (clear H); (have p125 : 0 ≤ (x21_1 : Int) := of_decide_eq_true (by first | (with_reducible assumption) | assumption)); (have q125 : x21_1 < (t122.length : Int) := of_decide_eq_true (by first | (with_reducible assumption) | assumption)); (obtain ⟨ad125, e125, hx125_0⟩ := Kd.at_int (Kd.R_reads' HO_19.out).2.2 x21_1 p125 q125); (cases e125); (replace p125 := eq_true p125); (replace q125 := eq_true q125); (go_wp2_with (first | ((with_reducible refine gate_callee (f := 13) rfl ?_); refine goesL_ (some 27) rfl rfl Try.func13 (by kernel_rfl) rfl #[.string a0, .int .i32 (rd t122 x21_1)] rfl (by (try simp only [List.map_toArray, List.map_cons, List.map_nil]); first | done | rfl | (simp only [List.length_drop, List.length_take]; rfl)) ?_; (with_reducible refine (names_Find.calls k1 a0 (rd t122 x21_1) t126 _ A13.out).mono ?_); rintro e w15 ⟨rfl, hb⟩; refine ⟨_, rfl, ?_⟩; have n0_ := Aside0.mk (Kd.R_below (nR_ HO_10.out) hb); have n1_ := Aside0.mk (Kd.R_below (nR_ HO_19.out) hb); have n2_ := Aside0.mk (below_step (nB_ HB.out) hb); clear HO_10; clear HO_19; clear HB; have HO_10 := n0_; have HO_19 := n1_; have HB := n2_; clear n0_ n1_ n2_; (try clear hb); (try clear hb2); (try clear hk); (try clear hi)))); (go_roundg k1); (case measure => have := HK1.out; omega); (case rel => exact ⟨(x10_1), (wrap64 (x21_1 + 1)), (by first | rfl | (simp; done) | (simp [*]; done)), H', ⟨by have := HK1.out; omega⟩, ⟨nR_ HO_10.out⟩, ⟨nR_ HO_19.out⟩, ⟨by repeat (first | (with_reducible first | exact HB.out | apply below_alloc | apply pw_below_drewN | apply below_drew1) | exact HB.out)⟩⟩)
              · (rw [if_neg c14] at H); (have c14b0 : ((rd t122 x21_1) == 32) = false := beq_eq_false_iff_ne.mpr c14); (have c14b1 : ((rd t122 x21_1) != 32) = true := bne_iff_ne.mpr c14); (by_cases c16 : (rd t122 x21_1) = 46)
                · (rw [if_pos c16] at H); (have c16b0 : ((rd t122 x21_1) == 46) = true := beq_iff_eq.mpr c16); (have c16b1 : ((rd t122 x21_1) != 46) = false := bne_eq_false_iff_eq.mpr c16); (clear c16); (by_cases c17 : x10_1.length < 17592186044416)
                  · (rw [if_pos c17] at H); (have LMc17 := Aside0.mk c17); (clear c17); (obtain ⟨y127, hy127⟩ : ∃ y_ : List Int, y_ = (x10_1 ++ [(-1)]) := ⟨_, rfl⟩); (replace H : (names_Note.l0 k1 a0 a2 y127 t122 (t122.length : Int) (wrap64 (x21_1 + 1))) = some (r1, r2, r3) := by first | (rw [hy127]; with_reducible exact H) | (have H2_ := (Option.bind_some _ _).symm.trans H; rw [hy127]; with_reducible exact H2_) | (have H2_ := (Option.bind_some _ _).symm.trans H; with_reducible exact H2_) | with_reducible exact H | (rw [hy127]; exact H) | exact H); (have Ny127 := Aside0.mk hy127); (clear hy127); (have H' := Aside0.mk H); (clear H); (have p125 : 0 ≤ (x21_1 : Int) := of_decide_eq_true (by first | (with_reducible assumption) | assumption)); (have q125 : x21_1 < (t122.length : Int) := of_decide_eq_true (by first | (with_reducible assumption) | assumption)); (obtain ⟨ad125, e125, hx125_0⟩ := Kd.at_int (Kd.R_reads' HO_19.out).2.2 x21_1 p125 q125); (cases e125); (replace p125 := eq_true p125); (replace q125 := eq_true q125); (go_wp2_with (first | ((with_reducible refine gate_callee (f := 13) rfl ?_); refine goesL_ (some 27) rfl rfl Try.func13 (by kernel_rfl) rfl #[.string a0, .int .i32 (rd t122 x21_1)] rfl (by (try simp only [List.map_toArray, List.map_cons, List.map_nil]); first | done | rfl | (simp only [List.length_drop, List.length_take]; rfl)) ?_; (with_reducible refine (names_Find.calls k1 a0 (rd t122 x21_1) t126 _ A13.out).mono ?_); rintro e w18 ⟨rfl, hb⟩; refine ⟨_, rfl, ?_⟩; have n0_ := Aside0.mk (Kd.R_below (nR_ HO_10.out) hb); have n1_ := Aside0.mk (Kd.R_below (nR_ HO_19.out) hb); have n2_ := Aside0.mk (below_step (nB_ HB.out) hb); clear HO_10; clear HO_19; clear HB; have HO_10 := n0_; have HO_19 := n1_; have HB := n2_; clear n0_ n1_ n2_; (try clear hb); (try clear hb2); (try clear hk); (try clear hi)) | ((with_reducible refine gate_builtin (b := .append) (xs := #[.tmp 42, .tmp 44]) rfl ?_); at_builtin; refine Kd.R_append (Kd.int .i64) (w0 := w) w.heap.size rfl (.tmp 42) (.tmp 44) 24 3 (.int .i64 0) 8 rfl Try.underlying24 info3 rfl (by decide) (by omega) u10 x10_1 (-1) [.int .i64 (-1)] (fun _ => True) (fun _ => False) rfl rfl ?aP (fun _ hk => hk.elim) ?aF ?aO ?aB ?aS ?aL ?_; (case aP => exact rfl); (case aB => exact (nB_ HB.out)); (case aF => exact (fun _ _ => trivial)); (case aO => exact (nR_ HO_10.out)); (case aS => exact (below_size (nB_ HB.out))); (case aL => have := LMc17.out; omega); intro v128 w19 ho hb hg hat; rw [← Ny127.out] at ho; have n0_ := Aside0.mk (Kd.R_over' (nR_ HO_19.out) (Kd.R_typed (nR_ HO_10.out)) (by decide) hg); have n1_ := Aside0.mk (hb); have n2_ := Aside0.mk (ho); clear HO_19; clear HB; clear HO_10; have HO_19 := n0_; have HB := n1_; have HO129 := n2_; clear n0_ n1_ n2_; clear ho hb hg hat))); (go_roundg k1); (case measure => have := HK1.out; omega); (case rel => exact ⟨(y127), (wrap64 (x21_1 + 1)), (by first | rfl | (simp; done) | (simp [*]; done)), H', ⟨by have := HK1.out; omega⟩, ⟨nR_ HO129.out⟩, ⟨nR_ HO_19.out⟩, ⟨by repeat (first | (with_reducible first | exact HB.out | apply below_alloc | apply pw_below_drewN | apply below_drew1) | exact HB.out)⟩⟩)
                  (· (rw [if_neg c17] at H); (exact absurd H (by simp)))
                · (rw [if_neg c16] at H); (have c16b0 : ((rd t122 x21_1) == 46) = false := beq_eq_false_iff_ne.mpr c16); (have c16b1 : ((rd t122 x21_1) != 46) = true := bne_iff_ne.mpr c16); (by_cases c20 : t126 < 0)
                  · (rw [if_pos c20] at H); (have c20b0 : decide (t126 < 0) = true := decide_eq_true c20); (clear c20); (simp only [Option.some.injEq, Prod.mk.injEq] at H); (obtain ⟨rfl, rfl, rfl⟩ := H); (have p125 : 0 ≤ (x21_1 : Int) := of_decide_eq_true (by first | (with_reducible assumption) | assumption)); (have q125 : x21_1 < (t122.length : Int) := of_decide_eq_true (by first | (with_reducible assumption) | assumption)); (obtain ⟨ad125, e125, hx125_0⟩ := Kd.at_int (Kd.R_reads' HO_19.out).2.2 x21_1 p125 q125); (cases e125); (replace p125 := eq_true p125); (replace q125 := eq_true q125); (go_wp2_with (first | ((with_reducible refine gate_callee (f := 13) rfl ?_); refine goesL_ (some 27) rfl rfl Try.func13 (by kernel_rfl) rfl #[.string a0, .int .i32 (rd t122 x21_1)] rfl (by (try simp only [List.map_toArray, List.map_cons, List.map_nil]); first | done | rfl | (simp only [List.length_drop, List.length_take]; rfl)) ?_; (with_reducible refine (names_Find.calls k1 a0 (rd t122 x21_1) t126 _ A13.out).mono ?_); rintro e w21 ⟨rfl, hb⟩; refine ⟨_, rfl, ?_⟩; have n0_ := Aside0.mk (Kd.R_below (nR_ HO_10.out) hb); have n1_ := Aside0.mk (Kd.R_below (nR_ HO_19.out) hb); have n2_ := Aside0.mk (below_step (nB_ HB.out) hb); clear HO_10; clear HO_19; clear HB; have HO_10 := n0_; have HO_19 := n1_; have HB := n2_; clear n0_ n1_ n2_; (try clear hb); (try clear hb2); (try clear hk); (try clear hi)))); (go_ret3); (exact ⟨_, by first | rfl | (simp [errW_none, errW_some] <;> rfl) | (simp [*, errW_none, errW_some] <;> rfl), by first | exact Kd.R_nil _ _ _ _ _ | exact Kd.N_nil _ _ _ _ _ | exact Kd.V_nil _ _ _ _ _ | exact Kd.Q_nil _ _ _ _ _ | exact Kd.S_nil _ _ _ _ _, by repeat (first | (with_reducible first | exact HB.out | apply below_alloc | apply pw_below_drewN | apply below_drew1) | exact HB.out)⟩)
                  · (rw [if_neg c20] at H); (have c20b0 : decide (t126 < 0) = false := decide_eq_false c20); (clear c20); (replace H := Option.bind_eq_some_iff.mp H); (obtain ⟨t130, A220, H⟩ := H); (replace H : (if t130 = true then (some (([] : List Int), false, 14)) else (if x10_1.length < 17592186044416 then (names_Note.l0 k1 a0 a2 (x10_1 ++ [t126]) t122 (t122.length : Int) (wrap64 (x21_1 + 1))) else (none))) = some (r1, r2, r3) := H); (have A22 := Aside0.mk A220); (clear A220); (by_cases c23 : t130 = true)
                    · (subst c23); (have H1 : (some (([] : List Int), false, 14)) = some (r1, r2, r3) := by rw [if_pos rfl] at H; exact H); (clear H); (have H := H1); (clear H1); (simp only [Option.some.injEq, Prod.mk.injEq] at H); (obtain ⟨rfl, rfl, rfl⟩ := H); (have p125 : 0 ≤ (x21_1 : Int) := of_decide_eq_true (by first | (with_reducible assumption) | assumption)); (have q125 : x21_1 < (t122.length : Int) := of_decide_eq_true (by first | (with_reducible assumption) | assumption)); (obtain ⟨ad125, e125, hx125_0⟩ := Kd.at_int (Kd.R_reads' HO_19.out).2.2 x21_1 p125 q125); (cases e125); (replace p125 := eq_true p125); (replace q125 := eq_true q125); (go_wp2_with (first | ((with_reducible refine gate_callee (f := 13) rfl ?_); refine goesL_ (some 27) rfl rfl Try.func13 (by kernel_rfl) rfl #[.string a0, .int .i32 (rd t122 x21_1)] rfl (by (try simp only [List.map_toArray, List.map_cons, List.map_nil]); first | done | rfl | (simp only [List.length_drop, List.length_take]; rfl)) ?_; (with_reducible refine (names_Find.calls k1 a0 (rd t122 x21_1) t126 _ A13.out).mono ?_); rintro e w24 ⟨rfl, hb⟩; refine ⟨_, rfl, ?_⟩; have n0_ := Aside0.mk (Kd.R_below (nR_ HO_10.out) hb); have n1_ := Aside0.mk (Kd.R_below (nR_ HO_19.out) hb); have n2_ := Aside0.mk (below_step (nB_ HB.out) hb); clear HO_10; clear HO_19; clear HB; have HO_10 := n0_; have HO_19 := n1_; have HB := n2_; clear n0_ n1_ n2_; (try clear hb); (try clear hb2); (try clear hk); (try clear hi); obtain ⟨Ao25, co25, eo25⟩ := Kd.R_slice HO_10.out; subst eo25) | (go_at_call 22; (with_reducible refine (slices_Contains_int_int.calls k1 _ _ x10_1 t126 true _ ?side1 ?side2 A22.out).mono ?_); (case side1 => exact nC_ (Kd.R_reads' HO_10.out).2.2); (case side2 => exact (Kd.R_reads' HO_10.out).2.1); rintro e w' ⟨rfl, ⟨nd, rfl⟩⟩))); (go_ret3); (exact ⟨_, by first | rfl | (simp [errW_none, errW_some] <;> rfl) | (simp [*, errW_none, errW_some] <;> rfl), by first | exact Kd.R_nil _ _ _ _ _ | exact Kd.N_nil _ _ _ _ _ | exact Kd.V_nil _ _ _ _ _ | exact Kd.Q_nil _ _ _ _ _ | exact Kd.S_nil _ _ _ _ _, by repeat (first | (with_reducible first | exact HB.out | apply below_alloc | apply pw_below_drewN | apply below_drew1) | exact HB.out)⟩)
                    · (replace c23 := Bool.eq_false_iff.mpr c23); (subst c23); (have H1 : (if x10_1.length < 17592186044416 then (names_Note.l0 k1 a0 a2 (x10_1 ++ [t126]) t122 (t122.length : Int) (wrap64 (x21_1 + 1))) else (none)) = some (r1, r2, r3) := by rw [if_neg (show ¬ (false = true) by decide)] at H; exact H); (clear H); (have H := H1); (clear H1); (by_cases c26 : x10_1.length < 17592186044416)
                      · (rw [if_pos c26] at H); (have LMc26 := Aside0.mk c26); (clear c26); (obtain ⟨y131, hy131⟩ : ∃ y_ : List Int, y_ = (x10_1 ++ [t126]) := ⟨_, rfl⟩); (replace H : (names_Note.l0 k1 a0 a2 y131 t122 (t122.length : Int) (wrap64 (x21_1 + 1))) = some (r1, r2, r3) := by first | (rw [hy131]; with_reducible exact H) | (have H2_ := (Option.bind_some _ _).symm.trans H; rw [hy131]; with_reducible exact H2_) | (have H2_ := (Option.bind_some _ _).symm.trans H; with_reducible exact H2_) | with_reducible exact H | (rw [hy131]; exact H) | exact H); (have Ny131 := Aside0.mk hy131); (clear hy131); (have H' := Aside0.mk H); (clear H); (have p125 : 0 ≤ (x21_1 : Int) := of_decide_eq_true (by first | (with_reducible assumption) | assumption)); (have q125 : x21_1 < (t122.length : Int) := of_decide_eq_true (by first | (with_reducible assumption) | assumption)); (obtain ⟨ad125, e125, hx125_0⟩ := Kd.at_int (Kd.R_reads' HO_19.out).2.2 x21_1 p125 q125); (cases e125); (replace p125 := eq_true p125); (replace q125 := eq_true q125); (go_wp2_with (first | ((with_reducible refine gate_callee (f := 13) rfl ?_); refine goesL_ (some 27) rfl rfl Try.func13 (by kernel_rfl) rfl #[.string a0, .int .i32 (rd t122 x21_1)] rfl (by (try simp only [List.map_toArray, List.map_cons, List.map_nil]); first | done | rfl | (simp only [List.length_drop, List.length_take]; rfl)) ?_; (with_reducible refine (names_Find.calls k1 a0 (rd t122 x21_1) t126 _ A13.out).mono ?_); rintro e w27 ⟨rfl, hb⟩; refine ⟨_, rfl, ?_⟩; have n0_ := Aside0.mk (Kd.R_below (nR_ HO_10.out) hb); have n1_ := Aside0.mk (Kd.R_below (nR_ HO_19.out) hb); have n2_ := Aside0.mk (below_step (nB_ HB.out) hb); clear HO_10; clear HO_19; clear HB; have HO_10 := n0_; have HO_19 := n1_; have HB := n2_; clear n0_ n1_ n2_; (try clear hb); (try clear hb2); (try clear hk); (try clear hi); obtain ⟨Ao28, co28, eo28⟩ := Kd.R_slice HO_10.out; subst eo28) | (go_at_call 22; (with_reducible refine (slices_Contains_int_int.calls k1 _ _ x10_1 t126 false _ ?side1 ?side2 A22.out).mono ?_); (case side1 => exact nC_ (Kd.R_reads' HO_10.out).2.2); (case side2 => exact (Kd.R_reads' HO_10.out).2.1); rintro e w' ⟨rfl, ⟨nd, rfl⟩⟩) | ((with_reducible refine gate_builtin (b := .append) (xs := #[.tmp 42, .tmp 44]) rfl ?_); at_builtin; refine Kd.R_append (Kd.int .i64) (w0 := w) w.heap.size rfl (.tmp 42) (.tmp 44) 24 3 (.int .i64 0) 8 rfl Try.underlying24 info3 rfl (by decide) (by omega) (.slice Ao28 x10_1.length co28) x10_1 t126 [.int .i64 t126] (fun _ => True) (fun _ => False) rfl rfl ?aP (fun _ hk => hk.elim) ?aF ?aO ?aB ?aS ?aL ?_; (case aP => exact rfl); (case aB => exact (nB_ HB.out)); (case aF => exact (fun _ _ => trivial)); (case aO => exact (nR_ HO_10.out)); (case aS => exact (below_size (nB_ HB.out))); (case aL => have := LMc26.out; omega); intro v132 w29 ho hb hg hat; rw [← Ny131.out] at ho; have n0_ := Aside0.mk (Kd.R_over' (nR_ HO_19.out) (Kd.R_typed (nR_ HO_10.out)) (by decide) hg); have n1_ := Aside0.mk (hb); have n2_ := Aside0.mk (ho); clear HO_19; clear HB; clear HO_10; have HO_19 := n0_; have HB := n1_; have HO133 := n2_; clear n0_ n1_ n2_; clear ho hb hg hat))); (go_roundg k1); (case measure => have := HK1.out; omega); (case rel => exact ⟨(y131), (wrap64 (x21_1 + 1)), (by first | rfl | (simp; done) | (simp [*]; done)), H', ⟨by have := HK1.out; omega⟩, ⟨nR_ HO133.out⟩, ⟨nR_ HO_19.out⟩, ⟨by repeat (first | (with_reducible first | exact HB.out | apply below_alloc | apply pw_below_drewN | apply below_drew1) | exact HB.out)⟩⟩)
                      (· (rw [if_neg c26] at H); (exact absurd H (by simp)))
            (· (rw [if_neg c12] at H); (exact absurd H (by simp)))
          (· (rw [if_neg c11] at H); (exact absurd H (by simp)))
        · (rw [if_neg c10] at H); (have c10b0 : decide (x21_1 < (t122.length : Int)) = false := decide_eq_false c10); (clear c10); (by_cases c30 : (x10_1.length : Int) = 0)
          · (rw [if_pos c30] at H); (have c30b0 : ((x10_1.length : Int) == 0) = true := beq_iff_eq.mpr c30); (have c30b1 : ((x10_1.length : Int) != 0) = false := bne_eq_false_iff_eq.mpr c30); (clear c30); (simp only [Option.some.injEq, Prod.mk.injEq] at H); (obtain ⟨rfl, rfl, rfl⟩ := H); (obtain ⟨Ao31, co31, eo31⟩ := Kd.R_slice HO_10.out); (subst eo31); (go_wp2); (go_ret3); (exact ⟨_, by first | rfl | (simp [errW_none, errW_some] <;> rfl) | (simp [*, errW_none, errW_some] <;> rfl), by first | exact Kd.R_nil _ _ _ _ _ | exact Kd.N_nil _ _ _ _ _ | exact Kd.V_nil _ _ _ _ _ | exact Kd.Q_nil _ _ _ _ _ | exact Kd.S_nil _ _ _ _ _, by repeat (first | (with_reducible first | exact HB.out | apply below_alloc | apply pw_below_drewN | apply below_drew1) | exact HB.out)⟩)
          · (rw [if_neg c30] at H); (have c30b0 : ((x10_1.length : Int) == 0) = false := beq_eq_false_iff_ne.mpr c30); (have c30b1 : ((x10_1.length : Int) != 0) = true := bne_iff_ne.mpr c30); (have c30b2 : ¬ (x10_1 = []) := fun h_ => c30 (by rw [h_]; rfl)); (by_cases c32 : (x10_1.length : Int) = a2)
            · (rw [if_pos c32] at H); (have c32b0 : ((x10_1.length : Int) == a2) = true := beq_iff_eq.mpr c32); (have c32b1 : ((x10_1.length : Int) != a2) = false := bne_eq_false_iff_eq.mpr c32); (clear c32); (simp only [Option.some.injEq, Prod.mk.injEq] at H); (obtain ⟨rfl, rfl, rfl⟩ := H); (obtain ⟨Ao33, co33, eo33⟩ := Kd.R_slice HO_10.out); (subst eo33); (go_wp2); (go_ret3); (exact ⟨_, by first | rfl | (simp [errW_none, errW_some] <;> rfl) | (simp [*, errW_none, errW_some] <;> rfl), by (with_reducible repeat (first | apply Kd.R_alloc | apply Kd.R_drewN | apply Kd.R_drew)); exact HO_10.out, by repeat (first | (with_reducible first | exact HB.out | apply below_alloc | apply pw_below_drewN | apply below_drew1) | exact HB.out)⟩)
            · (rw [if_neg c32] at H); (have c32b0 : ((x10_1.length : Int) == a2) = false := beq_eq_false_iff_ne.mpr c32); (have c32b1 : ((x10_1.length : Int) != a2) = true := bne_iff_ne.mpr c32); (simp only [Option.some.injEq, Prod.mk.injEq] at H); (obtain ⟨rfl, rfl, rfl⟩ := H); (obtain ⟨Ao34, co34, eo34⟩ := Kd.R_slice HO_10.out); (subst eo34); (go_wp2); (go_ret3); (exact ⟨_, by first | rfl | (simp [errW_none, errW_some] <;> rfl) | (simp [*, errW_none, errW_some] <;> rfl), by first | exact Kd.R_nil _ _ _ _ _ | exact Kd.N_nil _ _ _ _ _ | exact Kd.V_nil _ _ _ _ _ | exact Kd.Q_nil _ _ _ _ _ | exact Kd.S_nil _ _ _ _ _, by repeat (first | (with_reducible first | exact HB.out | apply below_alloc | apply pw_below_drewN | apply below_drew1) | exact HB.out)⟩)
/-! ### parquetrybook_Same_int: function 12 -/
def parquetrybook_Same_int.l0 : Nat → List Int → List Int → Int → Option (Bool)
  | 0, _, _, _ => none
  | k + 1, x0, x1, x5 => if x5 < (x0.length : Int) then (if 0 ≤ x5 then (if x5 < (x1.length : Int) then (if (rd x0 x5) = (rd x1 x5) then (parquetrybook_Same_int.l0 k x0 x1 (wrap64 (x5 + 1))) else (some false)) else (none)) else (none)) else (some true)
def parquetrybook_Same_int.f (k : Nat) (l0 : List Int) (l1 : List Int) : Option (Bool) := if (l0.length : Int) = (l1.length : Int) then (parquetrybook_Same_int.l0 k l0 l1 0) else (some false)
theorem parquetrybook_Same_int.mono_l : ∀ k, (∀ y0 y1 y2, LeO (parquetrybook_Same_int.l0 k y0 y1 y2) (parquetrybook_Same_int.l0 (k + 1) y0 y1 y2))
  | 0 => fun _ _ _ r h => by simp [parquetrybook_Same_int.l0] at h
  | k + 1 => by
    have ih0 := parquetrybook_Same_int.mono_l k
    · intro y0 y1 y2
      unfold parquetrybook_Same_int.l0
      repeat' first | (with_reducible first | exact ih0 _ _ _ | exact LeO.refl _ | exact LeO.none _ | refine LeO.ite ?_ ?_ | refine LeO.bind ?_ (fun _ => ?_)) | exact ih0 _ _ _ | exact LeO.none _ | refine LeO.ite ?_ ?_ | refine LeO.bind ?_ (fun _ => ?_)
theorem parquetrybook_Same_int.mono : ∀ a0 a1 k, LeO (parquetrybook_Same_int.f k a0 a1) (parquetrybook_Same_int.f (k + 1) a0 a1) := by
  intro a0 a1 k
  have ih0 := parquetrybook_Same_int.mono_l k
  unfold parquetrybook_Same_int.f
  repeat' first | (with_reducible first | exact ih0 _ _ _ | exact LeO.refl _ | exact LeO.none _ | refine LeO.ite ?_ ?_ | refine LeO.bind ?_ (fun _ => ?_)) | exact ih0 _ _ _ | exact LeO.none _ | refine LeO.ite ?_ ?_ | refine LeO.bind ?_ (fun _ => ?_)

set_option maxHeartbeats 8000000 in
set_option maxRecDepth 100000 in
theorem parquetrybook_Same_int.calls (k : Nat) (A0 : Option Addr) (c0 : Nat) (l0 : List Int) (A1 : Option Addr) (c1 : Nat) (l1 : List Int) (r : Bool) (w : World) (hr0 : Kd.C (Kd.int .i64) w A0 l0.length l0) (hc0 : l0.length ≤ c0) (hr1 : Kd.C (Kd.int .i64) w A1 l1.length l1) (hc1 : l1.length ≤ c1) (h : parquetrybook_Same_int.f k l0 l1 = some r) :
    Calls Try.prog 12 #[.slice A0 l0.length c0, .slice A1 l1.length c1] w fun e w' => e = .returned (.bool r) ∧ Drawn0 w w' := by
  (have HR0 := Aside0.mk hr0); (have HC0 := Aside0.mk hc0); (clear hr0 hc0); (have HR1 := Aside0.mk hr1); (have HC1 := Aside0.mk hc1); (clear hr1 hc1); (have H : (if (l0.length : Int) = (l1.length : Int) then (parquetrybook_Same_int.l0 k l0 l1 0) else (some false)) = some r := h); (clear h); (by_cases c3 : (l0.length : Int) = (l1.length : Int))
  · (rw [if_pos c3] at H); (have c3b0 : ((l0.length : Int) == (l1.length : Int)) = true := beq_iff_eq.mpr c3); (have c3b1 : ((l0.length : Int) != (l1.length : Int)) = false := bne_eq_false_iff_eq.mpr c3); (have c3b2 : (l0.length == l1.length) = true := by first | simpa using c3 | (simp at c3 ⊢; omega)); (clear c3); (have H' := Aside0.mk H); (clear H); (go_enter Try.func12, Try.ntmps12); (go_wp2); (repeat (go_quiet (fail); try go_wp2)); (go_loopg [5] k (fun kq v5 w' => ∃ (x5_1 : Int), v5 = .int .i64 x5_1 ∧ Aside0 (parquetrybook_Same_int.l0 kq l0 l1 x5_1 = some r) ∧ Aside0 (kq ≤ k) ∧ Drawn0 w w')); (case atStart => exact ⟨(0), (by first | rfl | (simp; done) | (simp [*]; done)), H', ⟨Nat.le_refl _⟩, by repeat (first | exact Drawn0.refl _ | apply Drawn0.step)⟩)
    case round =>
      (clear H'); (try clear c1); (try clear p2); (try clear c3); (try clear c3b0); (try clear c3b1); (try clear c3b2); (obtain ⟨x5_1, rfl, HA, HK1, ⟨m1, rfl⟩⟩ := hrel)
      cases gk with
      | zero => exact absurd HA.out (by simp [parquetrybook_Same_int.l0])
      | succ k1 =>
        (have H := HA.out); (clear HA); (simp only [parquetrybook_Same_int.l0] at H); (by_cases c4 : x5_1 < (l0.length : Int))
        · (rw [if_pos c4] at H); (have c4b0 : decide (x5_1 < (l0.length : Int)) = true := decide_eq_true c4); (clear c4); (by_cases c5 : 0 ≤ x5_1)
          · (rw [if_pos c5] at H); (have c5b0 : decide (0 ≤ x5_1) = true := decide_eq_true c5); (clear c5); (by_cases c6 : x5_1 < (l1.length : Int))
            · (rw [if_pos c6] at H); (have c6b0 : decide (x5_1 < (l1.length : Int)) = true := decide_eq_true c6); (clear c6); (by_cases c7 : (rd l0 x5_1) = (rd l1 x5_1))
              · (rw [if_pos c7] at H); (have c7b0 : ((rd l0 x5_1) == (rd l1 x5_1)) = true := beq_iff_eq.mpr c7); (have c7b1 : ((rd l0 x5_1) != (rd l1 x5_1)) = false := bne_eq_false_iff_eq.mpr c7); (clear c7); (have H' := Aside0.mk H); (clear H); (have p134 : 0 ≤ (x5_1 : Int) := of_decide_eq_true (by first | (with_reducible assumption) | assumption)); (have q134 : x5_1 < (l0.length : Int) := of_decide_eq_true (by first | (with_reducible assumption) | assumption)); (obtain ⟨ad134, e134, hx134_0⟩ := Kd.at_int HR0.out x5_1 p134 q134); (cases e134); (replace p134 := eq_true p134); (replace q134 := eq_true q134); (have p135 : 0 ≤ (x5_1 : Int) := of_decide_eq_true (by first | (with_reducible assumption) | assumption)); (have q135 : x5_1 < (l1.length : Int) := of_decide_eq_true (by first | (with_reducible assumption) | assumption)); (obtain ⟨ad135, e135, hx135_0⟩ := Kd.at_int HR1.out x5_1 p135 q135); (cases e135); (replace p135 := eq_true p135); (replace q135 := eq_true q135); (go_wp2); (repeat (go_quiet (fail); try go_wp2)); (go_roundg k1); (case measure => have := HK1.out; omega); (case rel => exact ⟨(wrap64 (x5_1 + 1)), (by first | rfl | (simp; done) | (simp [*]; done)), H', ⟨by have := HK1.out; omega⟩, by repeat (first | exact Drawn0.refl _ | apply Drawn0.step)⟩)
              · (rw [if_neg c7] at H); (have c7b0 : ((rd l0 x5_1) == (rd l1 x5_1)) = false := beq_eq_false_iff_ne.mpr c7); (have c7b1 : ((rd l0 x5_1) != (rd l1 x5_1)) = true := bne_iff_ne.mpr c7); (obtain rfl := Option.some.inj H); (have p134 : 0 ≤ (x5_1 : Int) := of_decide_eq_true (by first | (with_reducible assumption) | assumption)); (have q134 : x5_1 < (l0.length : Int) := of_decide_eq_true (by first | (with_reducible assumption) | assumption)); (obtain ⟨ad134, e134, hx134_0⟩ := Kd.at_int HR0.out x5_1 p134 q134); (cases e134); (replace p134 := eq_true p134); (replace q134 := eq_true q134); (have p135 : 0 ≤ (x5_1 : Int) := of_decide_eq_true (by first | (with_reducible assumption) | assumption)); (have q135 : x5_1 < (l1.length : Int) := of_decide_eq_true (by first | (with_reducible assumption) | assumption)); (obtain ⟨ad135, e135, hx135_0⟩ := Kd.at_int HR1.out x5_1 p135 q135); (cases e135); (replace p135 := eq_true p135); (replace q135 := eq_true q135); (go_wp2); (repeat (go_quiet (fail); try go_wp2)); (go_ret); (exact ⟨by first | rfl | (simp; done) | (simp [*]; done), by repeat (first | exact Drawn0.refl _ | apply Drawn0.step)⟩)
            (· (rw [if_neg c6] at H); (exact absurd H (by simp)))
          (· (rw [if_neg c5] at H); (exact absurd H (by simp)))
        (· (rw [if_neg c4] at H); (have c4b0 : decide (x5_1 < (l0.length : Int)) = false := decide_eq_false c4); (clear c4); (obtain rfl := Option.some.inj H); (go_wp2); (repeat (go_quiet (fail); try go_wp2)); (go_ret); (exact ⟨by first | rfl | (simp; done) | (simp [*]; done), by repeat (first | exact Drawn0.refl _ | apply Drawn0.step)⟩))
  (· (rw [if_neg c3] at H); (have c3b0 : ((l0.length : Int) == (l1.length : Int)) = false := beq_eq_false_iff_ne.mpr c3); (have c3b1 : ((l0.length : Int) != (l1.length : Int)) = true := bne_iff_ne.mpr c3); (have c3b2 : (l0.length == l1.length) = false := by first | simpa using c3 | (simp at c3 ⊢; omega)); (obtain rfl := Option.some.inj H); (go_enter Try.func12, Try.ntmps12); (go_wp2); (repeat (go_quiet (fail); try go_wp2)); (go_ret); (exact ⟨by first | rfl | (simp; done) | (simp [*]; done), by repeat (first | exact Drawn0.refl _ | apply Drawn0.step)⟩))
/-! ### names_may: function 24 -/
def names_may.f (a0 : Int) : Option (Bool) := if a0 = 46 then (some false) else (if a0 = 45 then (some false) else (if a0 = 40 then (some false) else (if a0 = 41 then (some false) else (if a0 = 65533 then (some false) else (some (decide (a0 ≥ 33)))))))
set_option maxHeartbeats 8000000 in
set_option maxRecDepth 100000 in
theorem names_may.calls (a0 : Int) (r : Bool) (w : World) (h : names_may.f a0 = some r) :
    Calls Try.prog 24 #[.int .i32 a0] w fun e w' => e = .returned (.bool r) ∧ Drawn0 w w' := by
  have H : (if a0 = 46 then (some false) else (if a0 = 45 then (some false) else (if a0 = 40 then (some false) else (if a0 = 41 then (some false) else (if a0 = 65533 then (some false) else (some (decide (a0 ≥ 33)))))))) = some r := h
  clear h
  by_cases c2 : a0 = 46
  · rw [if_pos c2] at H
    have c2b0 : (a0 == 46) = true := beq_iff_eq.mpr c2
    have c2b1 : (a0 != 46) = false := bne_eq_false_iff_eq.mpr c2
    clear c2
    obtain rfl := Option.some.inj H
    go_enter Try.func24, Try.ntmps24
    go_wp2
    go_ret
    exact ⟨by first | rfl | (simp; done) | (simp [*]; done), by repeat (first | exact Drawn0.refl _ | apply Drawn0.step)⟩
  · rw [if_neg c2] at H
    have c2b0 : (a0 == 46) = false := beq_eq_false_iff_ne.mpr c2
    have c2b1 : (a0 != 46) = true := bne_iff_ne.mpr c2
    by_cases c3 : a0 = 45
    · rw [if_pos c3] at H
      have c3b0 : (a0 == 45) = true := beq_iff_eq.mpr c3
      have c3b1 : (a0 != 45) = false := bne_eq_false_iff_eq.mpr c3
      clear c3
      obtain rfl := Option.some.inj H
      go_enter Try.func24, Try.ntmps24
      go_wp2
      go_ret
      exact ⟨by first | rfl | (simp; done) | (simp [*]; done), by repeat (first | exact Drawn0.refl _ | apply Drawn0.step)⟩
    · rw [if_neg c3] at H
      have c3b0 : (a0 == 45) = false := beq_eq_false_iff_ne.mpr c3
      have c3b1 : (a0 != 45) = true := bne_iff_ne.mpr c3
      by_cases c4 : a0 = 40
      · rw [if_pos c4] at H
        have c4b0 : (a0 == 40) = true := beq_iff_eq.mpr c4
        have c4b1 : (a0 != 40) = false := bne_eq_false_iff_eq.mpr c4
        clear c4
        obtain rfl := Option.some.inj H
        go_enter Try.func24, Try.ntmps24
        go_wp2
        go_ret
        exact ⟨by first | rfl | (simp; done) | (simp [*]; done), by repeat (first | exact Drawn0.refl _ | apply Drawn0.step)⟩
      · rw [if_neg c4] at H
        have c4b0 : (a0 == 40) = false := beq_eq_false_iff_ne.mpr c4
        have c4b1 : (a0 != 40) = true := bne_iff_ne.mpr c4
        by_cases c5 : a0 = 41
        · rw [if_pos c5] at H
          have c5b0 : (a0 == 41) = true := beq_iff_eq.mpr c5
          have c5b1 : (a0 != 41) = false := bne_eq_false_iff_eq.mpr c5
          clear c5
          obtain rfl := Option.some.inj H
          go_enter Try.func24, Try.ntmps24
          go_wp2
          go_ret
          exact ⟨by first | rfl | (simp; done) | (simp [*]; done), by repeat (first | exact Drawn0.refl _ | apply Drawn0.step)⟩
        · rw [if_neg c5] at H
          have c5b0 : (a0 == 41) = false := beq_eq_false_iff_ne.mpr c5
          have c5b1 : (a0 != 41) = true := bne_iff_ne.mpr c5
          by_cases c6 : a0 = 65533
          · rw [if_pos c6] at H
            have c6b0 : (a0 == 65533) = true := beq_iff_eq.mpr c6
            have c6b1 : (a0 != 65533) = false := bne_eq_false_iff_eq.mpr c6
            clear c6
            obtain rfl := Option.some.inj H
            go_enter Try.func24, Try.ntmps24
            go_wp2
            go_ret
            exact ⟨by first | rfl | (simp; done) | (simp [*]; done), by repeat (first | exact Drawn0.refl _ | apply Drawn0.step)⟩
          · rw [if_neg c6] at H
            have c6b0 : (a0 == 65533) = false := beq_eq_false_iff_ne.mpr c6
            have c6b1 : (a0 != 65533) = true := bne_iff_ne.mpr c6
            obtain rfl := Option.some.inj H
            go_enter Try.func24, Try.ntmps24
            go_wp2
            go_ret
            exact ⟨by first | rfl | (simp; done) | (simp [*]; done), by repeat (first | exact Drawn0.refl _ | apply Drawn0.step)⟩

/-! ### slices_Contains_rune_rune: function 25 -/
def slices_Contains_rune_rune.f (k : Nat) (l0 : List Int) (a1 : Int) : Option (Bool) := (slices_Index_rune_rune.f k l0 a1).bind fun t136 => (some (decide (t136 ≥ 0)))
theorem slices_Contains_rune_rune.mono : ∀ a0 a1 k, LeO (slices_Contains_rune_rune.f k a0 a1) (slices_Contains_rune_rune.f (k + 1) a0 a1) := by
  intro a0 a1 k
  unfold slices_Contains_rune_rune.f
  repeat' first
      | (with_reducible exact slices_Index_rune_rune.mono _ _ _)
      | (with_reducible exact LeO.refl _)
      | (with_reducible exact LeO.none _)
      | (with_reducible refine LeO.ite ?_ ?_)
      | (with_reducible refine LeO.bind ?_ (fun _ => ?_))
      | exact slices_Index_rune_rune.mono _ _ _
      | exact LeO.none _
      | refine LeO.ite ?_ ?_
      | refine LeO.bind ?_ (fun _ => ?_)
set_option maxHeartbeats 8000000 in
set_option maxRecDepth 100000 in
theorem slices_Contains_rune_rune.calls (k : Nat) (A0 : Option Addr) (c0 : Nat) (l0 : List Int) (a1 : Int) (r : Bool) (w : World) (hr0 : Kd.C (Kd.int .i32) w A0 l0.length l0) (hc0 : l0.length ≤ c0) (h : slices_Contains_rune_rune.f k l0 a1 = some r) :
    Calls Try.prog 25 #[.slice A0 l0.length c0, .int .i32 a1] w fun e w' => e = .returned (.bool r) ∧ Drawn0 w w' := by
  have HR0 := Aside0.mk hr0
  have HC0 := Aside0.mk hc0
  clear hr0 hc0
  have H : ((slices_Index_rune_rune.f k l0 a1).bind fun t136 => (some (decide (t136 ≥ 0)))) = some r := h
  clear h
  replace H := Option.bind_eq_some_iff.mp H
  obtain ⟨t136, A30, H⟩ := H
  replace H : (some (decide (t136 ≥ 0))) = some r := H
  have A3 := Aside0.mk A30
  clear A30
  obtain rfl := Option.some.inj H
  go_enter Try.func25, Try.ntmps25
  go_wp2_with (first | ((with_reducible refine gate_callee (f := 23) rfl ?_); refine goesL_ (some 7) rfl rfl Try.func23 (by kernel_rfl) rfl #[.slice A0 l0.length c0, .int .i32 a1] rfl (by (try simp only [List.map_toArray, List.map_cons, List.map_nil]); first | done | rfl | (simp only [List.length_drop, List.length_take]; rfl)) ?_; (with_reducible refine (slices_Index_rune_rune.calls k _ _ l0 a1 t136 _ ?side1 ?side2 A3.out).mono ?_); (case side1 => repeat (first | exact HR0.out | (with_reducible refine Kd.C_alloc ?_ _) | (with_reducible refine Kd.C_drewN ?_ _) | (with_reducible refine Kd.C_drew ?_))); (case side2 => exact HC0.out); rintro e w' ⟨rfl, ⟨nd, rfl⟩⟩; refine ⟨_, rfl, ?_⟩))
  go_ret
  exact ⟨by first | rfl | (simp; done) | (simp [*]; done), by repeat (first | exact Drawn0.refl _ | apply Drawn0.step)⟩

end Go.Proofs.Ytjofogblgjhcfaa.Q
