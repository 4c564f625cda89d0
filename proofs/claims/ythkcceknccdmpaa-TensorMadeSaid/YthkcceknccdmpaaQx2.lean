-- Printed by a program (a variant of the kit print, with contracts of our own).
import Derived.Test.YthkcceknccdmpaaQx0
import Derived.Test.YthkcceknccdmpaaQx1
namespace Go.Proofs.Ythkcceknccdmpaa.Q
open Go.RowKit Go.Proofs.YthkcceknccdmpaaW.PrintWords Go.Proofs.YthkcceknccdmpaaW.PrintLast Go.Proofs.YthkcceknccdmpaaW.PrintMore
attribute [local go_sem] max2_int min2_int max_two min_two max_three min_three max_four min_four   -- for this text's walks alone
set_option linter.unusedVariables false
set_option linter.unusedSimpArgs false

/-! ### parquetrykeep_Tape_Shape: function 22 -/
def parquetrykeep_Tape_Shape.l0 : Nat → List Int → Int → List Int → Int → Option (List Int × Int)
  | 0, _, _, _, _ => none
  | k + 1, x3, x4, x1000, x1001 => if x4 > 0 then ((some (([1, 2, 3, 4, 5, 0, 7, 2] : List Int) : List Int)).bind fun y117 => ((parquetrykeep_Tape_Next.f k x1000 x1001 8).bind fun bt120 => (if 0 ≤ bt120.1 then (if bt120.1 < (y117.length : Int) then (if x3.length < 17592186044416 then (parquetrykeep_Tape_Shape.l0 k (x3 ++ [rd y117 bt120.1]) (wrap64 (x4 - 1)) x1000 bt120.2) else (none)) else (none)) else (none)))) else (some (x3, x1001))
def parquetrykeep_Tape_Shape.f (k : Nat) (s0_0 : List Int) (s0_1 : Int) : Option (List Int × Int) := (parquetrykeep_Tape_Next.f k s0_0 s0_1 4).bind fun bt115 => (parquetrykeep_Tape_Shape.l0 k ([] : List Int) bt115.1 s0_0 bt115.2)
theorem parquetrykeep_Tape_Shape.mono_l : ∀ k, (∀ y0 y1 y2 y3, LeO (parquetrykeep_Tape_Shape.l0 k y0 y1 y2 y3) (parquetrykeep_Tape_Shape.l0 (k + 1) y0 y1 y2 y3))
  | 0 => fun _ _ _ _ r h => by simp [parquetrykeep_Tape_Shape.l0] at h
  | k + 1 => by
    have ih0 := parquetrykeep_Tape_Shape.mono_l k
    · intro y0 y1 y2 y3
      unfold parquetrykeep_Tape_Shape.l0
      repeat' first
      | (with_reducible exact ih0 _ _ _ _)
      | (with_reducible exact parquetrykeep_Tape_Next.mono _ _ _ _)
      | (with_reducible exact LeO.refl _)
      | (with_reducible exact LeO.none _)
      | (with_reducible refine LeO.ite ?_ ?_)
      | (with_reducible refine LeO.bind ?_ (fun _ => ?_))
      | exact ih0 _ _ _ _
      | exact parquetrykeep_Tape_Next.mono _ _ _ _
      | exact LeO.none _
      | refine LeO.ite ?_ ?_
      | refine LeO.bind ?_ (fun _ => ?_)
theorem parquetrykeep_Tape_Shape.mono : ∀ a0 a1 k, LeO (parquetrykeep_Tape_Shape.f k a0 a1) (parquetrykeep_Tape_Shape.f (k + 1) a0 a1) := by
  intro a0 a1 k
  have ih0 := parquetrykeep_Tape_Shape.mono_l k
  unfold parquetrykeep_Tape_Shape.f
  repeat' first
      | (with_reducible exact ih0 _ _ _ _)
      | (with_reducible exact parquetrykeep_Tape_Next.mono _ _ _ _)
      | (with_reducible exact LeO.refl _)
      | (with_reducible exact LeO.none _)
      | (with_reducible refine LeO.ite ?_ ?_)
      | (with_reducible refine LeO.bind ?_ (fun _ => ?_))
      | exact ih0 _ _ _ _
      | exact parquetrykeep_Tape_Next.mono _ _ _ _
      | exact LeO.none _
      | refine LeO.ite ?_ ?_
      | refine LeO.bind ?_ (fun _ => ?_)
set_option maxHeartbeats 8000000 in
set_option maxRecDepth 100000 in
theorem parquetrykeep_Tape_Shape.calls (k : Nat) (g : Nat) (s0_0 : List Int) (s0_1 : Int) (r1 : List Int) (r2 : Int) (w0 w : World) (hI : IsS29 w0 w g s0_0 s0_1) (hB : Below w0.heap.size w0 w) (h : parquetrykeep_Tape_Shape.f k s0_0 s0_1 = some (r1, r2)) :
    Calls Try.prog 22 #[.pointer (some ⟨g, 0, none⟩)] w fun e w' => ∃ v0_ : Value, e = .returned (v0_) ∧ Kd.R (Kd.int .i64) 3 w' w.heap.size (fun _ => True) v0_ r1 ∧ IsS29 w0 w' g s0_0 r2 ∧ Below w0.heap.size w0 w' ∧ KeepBut w w' g none := by
  have HI0 := Aside0.mk hI
  have HK := Aside0.mk (KeepBut.refl w g none)
  have HL := Aside0.mk hB.size
  clear hI
  have HW0 := Aside0.mk hB.size
  have HB := Aside0.mk hB
  clear hB
  have H : ((parquetrykeep_Tape_Next.f k s0_0 s0_1 4).bind fun bt115 => (parquetrykeep_Tape_Shape.l0 k ([] : List Int) bt115.1 s0_0 bt115.2)) = some (r1, r2) := h
  clear h
  replace H := Option.bind_eq_some_iff.mp H
  obtain ⟨⟨t115, t116⟩, A20, H⟩ := H
  replace H : (parquetrykeep_Tape_Shape.l0 k ([] : List Int) t115 s0_0 t116) = some (r1, r2) := H
  have A2 := Aside0.mk A20
  clear A20
  have H' := Aside0.mk H
  clear H
  go_enter Try.func22, Try.ntmps22
  go_wp2_with (first | ((with_reducible refine gate_callee (f := 23) rfl ?_); refine goesL_ (some 6) rfl rfl Try.func23 (by kernel_rfl) rfl #[.pointer (some ⟨g, 0, none⟩), .int .i64 4] rfl (by (try simp only [List.map_toArray, List.map_cons, List.map_nil]); first | done | rfl | (simp only [List.length_drop, List.length_take]; rfl)) ?_; (with_reducible refine (parquetrykeep_Tape_Next.calls k g s0_0 s0_1 4 t115 t116 w0 _ ?side1 ?side2 A2.out).mono ?_); (case side1 => repeat (first | (with_reducible first | exact HI0.out | apply IsS29.alloc | apply IsS29.drewN | apply IsS29.drew | apply IsS29.set_1) | exact HI0.out)); (case side2 => repeat (first | (with_reducible first | exact HB.out | apply below_alloc | apply pw_below_drewN | apply below_drew1 | refine below_set ?_ (IsS29.ge HI0.out)) | exact HB.out)); rintro e w3 ⟨rfl, hi, hb, hk⟩; refine ⟨_, rfl, ?_⟩; have n0_ := Aside0.mk (KeepBut.trans (by repeat (first | (with_reducible first | exact HK.out | apply KeepBut.set_ | apply keep_drewN | apply keep_drew | apply keep_alloc) | exact HK.out)) hk (.inl rfl)); have n1_ := Aside0.mk (hb); have n2_ := Aside0.mk (hi); clear HK; clear HB; clear HI0; have HK := n0_; have HB := n1_; have HI0 := n2_; clear n0_ n1_ n2_; (try clear hb); (try clear hb2); (try clear hk); (try clear hi)))
  go_loopg [3, 4] k (fun kq v3 v4 w' => ∃ (x3_1 : List Int) (x4_1 : Int) (x1001_1 : Int), v4 = .int .i64 x4_1 ∧ Aside0 (parquetrykeep_Tape_Shape.l0 kq x3_1 x4_1 s0_0 x1001_1 = some (r1, r2)) ∧ Aside0 (kq ≤ k) ∧ Aside0 (Kd.R (Kd.int .i64) 3 w' w.heap.size (fun _ => True) v3 x3_1) ∧ Aside0 (IsS29 w0 w' g s0_0 x1001_1) ∧ Aside0 (KeepBut w w' g none) ∧ Aside0 (Below w0.heap.size w0 w'))
  case atStart => exact ⟨(([] : List Int)), (t115), (t116), (by first | rfl | (simp; done) | (simp [*]; done)), H', ⟨Nat.le_refl _⟩, ⟨by first | exact Kd.R_nil _ _ _ _ _ | exact Kd.N_nil _ _ _ _ _ | exact Kd.V_nil _ _ _ _ _ | exact Kd.Q_nil _ _ _ _ _ | exact Kd.S_nil _ _ _ _ _⟩, ⟨by repeat (first | (with_reducible first | exact HI0.out | apply IsS29.alloc | apply IsS29.drewN | apply IsS29.drew | apply IsS29.set_1) | exact HI0.out)⟩, ⟨by repeat (first | (with_reducible first | exact HK.out | apply KeepBut.set_ | apply keep_drewN | apply keep_drew | apply keep_alloc) | exact HK.out)⟩, ⟨by repeat (first | (with_reducible first | exact HB.out | apply below_alloc | apply pw_below_drewN | apply below_drew1 | refine below_set ?_ (IsS29.ge HI0.out)) | exact HB.out)⟩⟩
  case round =>
    clear H'
    try clear c2
    try clear p2
    obtain ⟨x3_1, x4_1, x1001_1, rfl, HA, HK1, HO_3, HI0, HK, HB⟩ := hrel
    cases gk with
    | zero => exact absurd HA.out (by simp [parquetrykeep_Tape_Shape.l0])
    | succ k1 =>
      have H := HA.out
      clear HA
      simp only [parquetrykeep_Tape_Shape.l0] at H
      by_cases c4 : x4_1 > 0
      · rw [if_pos c4] at H
        have c4b0 : decide (0 < x4_1) = true := decide_eq_true c4
        clear c4
        obtain ⟨y117, hy117⟩ : ∃ y_ : List Int, y_ = (([1, 2, 3, 4, 5, 0, 7, 2] : List Int)) := ⟨_, rfl⟩
        replace H : ((parquetrykeep_Tape_Next.f k1 s0_0 x1001_1 8).bind fun bt120 => (if 0 ≤ bt120.1 then (if bt120.1 < (y117.length : Int) then (if x3_1.length < 17592186044416 then (parquetrykeep_Tape_Shape.l0 k1 (x3_1 ++ [rd y117 bt120.1]) (wrap64 (x4_1 - 1)) s0_0 bt120.2) else (none)) else (none)) else (none))) = some (r1, r2) := by first | (rw [hy117]; with_reducible exact H) | (have H2_ := (Option.bind_some _ _).symm.trans H; rw [hy117]; with_reducible exact H2_) | (have H2_ := (Option.bind_some _ _).symm.trans H; with_reducible exact H2_) | with_reducible exact H | (rw [hy117]; exact H) | exact H
        have Ny117 := Aside0.mk hy117
        clear hy117
        replace H := Option.bind_eq_some_iff.mp H
        obtain ⟨⟨t120, t121⟩, A50, H⟩ := H
        replace H : (if 0 ≤ t120 then (if t120 < (y117.length : Int) then (if x3_1.length < 17592186044416 then (parquetrykeep_Tape_Shape.l0 k1 (x3_1 ++ [rd y117 t120]) (wrap64 (x4_1 - 1)) s0_0 t121) else (none)) else (none)) else (none)) = some (r1, r2) := H
        have A5 := Aside0.mk A50
        clear A50
        by_cases c6 : 0 ≤ t120
        · rw [if_pos c6] at H
          have c6b0 : decide (0 ≤ t120) = true := decide_eq_true c6
          clear c6
          by_cases c7 : t120 < (y117.length : Int)
          · rw [if_pos c7] at H
            have c7b0 : decide (t120 < (y117.length : Int)) = true := decide_eq_true c7
            clear c7
            by_cases c8 : x3_1.length < 17592186044416
            · rw [if_pos c8] at H
              have LMc8 := Aside0.mk c8
              clear c8
              obtain ⟨y123, hy123⟩ : ∃ y_ : List Int, y_ = (x3_1 ++ [rd y117 t120]) := ⟨_, rfl⟩
              replace H : (parquetrykeep_Tape_Shape.l0 k1 y123 (wrap64 (x4_1 - 1)) s0_0 t121) = some (r1, r2) := by first | (rw [hy123]; with_reducible exact H) | (have H2_ := (Option.bind_some _ _).symm.trans H; rw [hy123]; with_reducible exact H2_) | (have H2_ := (Option.bind_some _ _).symm.trans H; with_reducible exact H2_) | with_reducible exact H | (rw [hy123]; exact H) | exact H
              have Ny123 := Aside0.mk hy123
              clear hy123
              have H' := Aside0.mk H
              clear H
              go_wp2_with (first | ((with_reducible refine gate_dst (N := 12) rfl ?_); refine Kd.R_lit (Kd.int .i64) _ 3 ?hg (N := 12) ?hd (xs := ([1, 2, 3, 4, 5, 0, 7, 2] : List Int)) (inner := [.int .i64 1, .int .i64 2, .int .i64 3, .int .i64 4, .int .i64 5, .int .i64 0, .int .i64 7, .int .i64 2]) (ok := fun _ => True) (okp := fun _ => True) ?hr ?hp (fun _ hk => hk) trivial (Below.refl _ _) (Nat.le_refl _) (by simp) ?_; (case hd => rfl); (case hg => rfl); (case hr => first | (go_simp; done) | (go_simp; rfl)); (case hp => exact (Reps.one (show Kd.M (Kd.int .i64) _ _ _ 1 [.int .i64 1] from rfl) (Reps.one (show Kd.M (Kd.int .i64) _ _ _ 2 [.int .i64 2] from rfl) (Reps.one (show Kd.M (Kd.int .i64) _ _ _ 3 [.int .i64 3] from rfl) (Reps.one (show Kd.M (Kd.int .i64) _ _ _ 4 [.int .i64 4] from rfl) (Reps.one (show Kd.M (Kd.int .i64) _ _ _ 5 [.int .i64 5] from rfl) (Reps.one (show Kd.M (Kd.int .i64) _ _ _ 0 [.int .i64 0] from rfl) (Reps.one (show Kd.M (Kd.int .i64) _ _ _ 7 [.int .i64 7] from rfl) (Reps.one (show Kd.M (Kd.int .i64) _ _ _ 2 [.int .i64 2] from rfl) (Reps.none _ _)))))))))); intro v118 w9 ho10 hb hg_ hnew_; clear hg_ hnew_; (first | rw [← Ny117.out] at ho10 | (simp only [Int.reduceToNat] at ho10; rw [← Ny117.out] at ho10)); have n0_ := Aside0.mk (Kd.R_elder' (by (with_reducible repeat (first | apply Kd.R_alloc | apply Kd.R_drewN | apply Kd.R_drew)); exact HO_3.out) (Kd.R_base ho10) hb); have n1_ := Aside0.mk (Kd.R_lower (Kd.R_new' ho10 (Kd.R_lt (by (with_reducible repeat (first | apply Kd.R_alloc | apply Kd.R_drewN | apply Kd.R_drew)); exact HO_3.out))) (keep_size (w := w) (g := g) (row := none) (by repeat (first | (with_reducible first | exact HK.out | apply KeepBut.set_ | apply keep_drewN | apply keep_drew | apply keep_alloc) | exact HK.out)))); have n2_ := Aside0.mk (IsS29.below (by repeat (first | (with_reducible first | exact HI0.out | apply IsS29.alloc | apply IsS29.drewN | apply IsS29.drew | apply IsS29.set_1) | exact HI0.out)) hb); have n3_ := Aside0.mk (KeepBut.trans (by repeat (first | (with_reducible first | exact HK.out | apply KeepBut.set_ | apply keep_drewN | apply keep_drew | apply keep_alloc) | exact HK.out)) (KeepBut.of_below hb g none) (.inl rfl)); have n4_ := Aside0.mk (below_step (by repeat (first | (with_reducible first | exact HB.out | apply below_alloc | apply pw_below_drewN | apply below_drew1 | refine below_set ?_ (IsS29.ge HI0.out)) | exact HB.out)) hb); clear HO_3; clear HI0; clear HK; clear HB; have HO_3 := n0_; have HO119 := n1_; have HI0 := n2_; have HK := n3_; have HB := n4_; clear n0_ n1_ n2_ n3_ n4_; clear hb ho10) | ((with_reducible refine gate_callee (f := 23) rfl ?_); refine goesL_ (some 14) rfl rfl Try.func23 (by kernel_rfl) rfl #[.pointer (some ⟨g, 0, none⟩), .int .i64 8] rfl (by (try simp only [List.map_toArray, List.map_cons, List.map_nil]); first | done | rfl | (simp only [List.length_drop, List.length_take]; rfl)) ?_; (with_reducible refine (parquetrykeep_Tape_Next.calls k1 g s0_0 x1001_1 8 t120 t121 w0 _ ?side1 ?side2 A5.out).mono ?_); (case side1 => repeat (first | (with_reducible first | exact HI0.out | apply IsS29.alloc | apply IsS29.drewN | apply IsS29.drew | apply IsS29.set_1) | exact HI0.out)); (case side2 => repeat (first | (with_reducible first | exact HB.out | apply below_alloc | apply pw_below_drewN | apply below_drew1 | refine below_set ?_ (IsS29.ge HI0.out)) | exact HB.out)); rintro e w11 ⟨rfl, hi, hb, hk⟩; refine ⟨_, rfl, ?_⟩; have n0_ := Aside0.mk (Kd.R_mono (Kd.R_keep (IsS29.apart (show IsS29 w0 _ g s0_0 x1001_1 from by repeat (first | (with_reducible first | exact HI0.out | apply IsS29.alloc | apply IsS29.drewN | apply IsS29.drew | apply IsS29.set_1) | exact HI0.out)) (by (with_reducible repeat (first | apply Kd.R_alloc | apply Kd.R_drewN | apply Kd.R_drew)); exact HO_3.out) (by decide)) hk (fun _ h => h.2)) (fun _ h => h.1)); have n1_ := Aside0.mk (Kd.R_mono (Kd.R_keep (IsS29.apart (show IsS29 w0 _ g s0_0 x1001_1 from by repeat (first | (with_reducible first | exact HI0.out | apply IsS29.alloc | apply IsS29.drewN | apply IsS29.drew | apply IsS29.set_1) | exact HI0.out)) (by (with_reducible repeat (first | apply Kd.R_alloc | apply Kd.R_drewN | apply Kd.R_drew)); exact HO119.out) (by decide)) hk (fun _ h => h.2)) (fun _ h => h.1)); have n2_ := Aside0.mk (KeepBut.trans (by repeat (first | (with_reducible first | exact HK.out | apply KeepBut.set_ | apply keep_drewN | apply keep_drew | apply keep_alloc) | exact HK.out)) hk (.inl rfl)); have n3_ := Aside0.mk (hb); have n4_ := Aside0.mk (hi); clear HO_3; clear HO119; clear HK; clear HB; clear HI0; have HO_3 := n0_; have HO119 := n1_; have HK := n2_; have HB := n3_; have HI0 := n4_; clear n0_ n1_ n2_ n3_ n4_; (try clear hb); (try clear hb2); (try clear hk); (try clear hi); obtain ⟨Ao12, co12, eo12⟩ := Kd.R_slice HO119.out; subst eo12; have p122 : 0 ≤ (t120 : Int) := of_decide_eq_true (by first | (with_reducible assumption) | assumption); have q122 : t120 < (y117.length : Int) := of_decide_eq_true (by first | (with_reducible assumption) | assumption); obtain ⟨ad122, e122, hx122_0⟩ := Kd.at_int (Kd.R_reads' HO119.out).2.2 t120 p122 q122; cases e122; replace p122 := eq_true p122; replace q122 := eq_true q122) | ((with_reducible refine gate_builtin (b := .append) (xs := #[.tmp 11, .tmp 17]) rfl ?_); at_builtin; refine Kd.R_append (Kd.int .i64) w.heap.size rfl (.tmp 11) (.tmp 17) 22 3 (.int .i64 0) 8 rfl Try.underlying22 info3 rfl (by decide) (by omega) u3 x3_1 (rd y117 t120) [.int .i64 (rd y117 t120)] (fun k_ => some k_ ≠ (.slice (some ad122) y117.length co12 : Value).ownBlock) (fun _ => False) rfl rfl ?aP (fun _ hk => hk.elim) ?aF ?aO (Below.refl _ _) ?aS ?aL ?_; (case aP => exact rfl); (case aF => exact (fun k_ hk => Kd.fresh' (Kd.R_lt (by (with_reducible repeat (first | apply Kd.R_alloc | apply Kd.R_drewN | apply Kd.R_drew)); exact HO119.out)) k_ hk)); (case aO => exact (by (with_reducible repeat (first | apply Kd.R_alloc | apply Kd.R_drewN | apply Kd.R_drew)); exact Kd.R_mono HO_3.out (fun _ hk => hk.2))); (case aS => exact (keep_size (w := w) (g := g) (row := none) (by repeat (first | (with_reducible first | exact HK.out | apply KeepBut.set_ | apply keep_drewN | apply keep_drew | apply keep_alloc) | exact HK.out)))); (case aL => have := LMc8.out; omega); intro v124 w13 ho hb hg hat; rw [← Ny123.out] at ho; have n0_ := Aside0.mk (IsS29.grown (by repeat (first | (with_reducible first | exact HI0.out | apply IsS29.alloc | apply IsS29.drewN | apply IsS29.drew | apply IsS29.set_1) | exact HI0.out)) hg (IsS29.own_ne HI0.out HO_3.out (by decide))); have n1_ := Aside0.mk (Kd.R_after (ok := (fun _ => True)) (by (with_reducible repeat (first | apply Kd.R_alloc | apply Kd.R_drewN | apply Kd.R_drew)); exact HO119.out) hg hat); have n2_ := Aside0.mk (below_weaken (by repeat (first | (with_reducible first | exact HB.out | apply below_alloc | apply pw_below_drewN | apply below_drew1 | refine below_set ?_ (IsS29.ge HI0.out)) | exact HB.out)) HL.out hb); have n3_ := Aside0.mk (KeepBut.trans (by repeat (first | (with_reducible first | exact HK.out | apply KeepBut.set_ | apply keep_drewN | apply keep_drew | apply keep_alloc) | exact HK.out)) (KeepBut.of_grown hg g) (Kd.R_base2 HO_3.out)); have n4_ := Aside0.mk (ho); clear HI0; clear HO119; clear HB; clear HK; clear HO_3; have HI0 := n0_; have HO119 := n1_; have HB := n2_; have HK := n3_; have HO125 := n4_; clear n0_ n1_ n2_ n3_ n4_; clear ho hb hg hat))
              go_roundg k1
              case measure => have := HK1.out; omega
              case rel => exact ⟨(y123), (wrap64 (x4_1 - 1)), (t121), (by first | rfl | (simp; done) | (simp [*]; done)), H', ⟨by have := HK1.out; omega⟩, ⟨by (with_reducible repeat (first | apply Kd.R_alloc | apply Kd.R_drewN | apply Kd.R_drew)); exact Kd.R_mono HO125.out (fun _ hk => trivial)⟩, ⟨by repeat (first | (with_reducible first | exact HI0.out | apply IsS29.alloc | apply IsS29.drewN | apply IsS29.drew | apply IsS29.set_1) | exact HI0.out)⟩, ⟨by repeat (first | (with_reducible first | exact HK.out | apply KeepBut.set_ | apply keep_drewN | apply keep_drew | apply keep_alloc) | exact HK.out)⟩, ⟨by repeat (first | (with_reducible first | exact HB.out | apply below_alloc | apply pw_below_drewN | apply below_drew1 | refine below_set ?_ (IsS29.ge HI0.out)) | exact HB.out)⟩⟩
            · rw [if_neg c8] at H
              exact absurd H (by simp)
          · rw [if_neg c7] at H
            exact absurd H (by simp)
        · rw [if_neg c6] at H
          exact absurd H (by simp)
      · rw [if_neg c4] at H
        have c4b0 : decide (0 < x4_1) = false := decide_eq_false c4
        clear c4
        simp only [Option.some.injEq, Prod.mk.injEq] at H
        obtain ⟨rfl, rfl⟩ := H
        go_wp2
        go_ret
        exact ⟨_, by first | rfl | (simp [errW_none, errW_some] <;> rfl) | (simp [*, errW_none, errW_some] <;> rfl), by (with_reducible repeat (first | apply Kd.R_alloc | apply Kd.R_drewN | apply Kd.R_drew)); exact HO_3.out, by repeat (first | (with_reducible first | exact HI0.out | apply IsS29.alloc | apply IsS29.drewN | apply IsS29.drew | apply IsS29.set_1) | exact HI0.out), by repeat (first | (with_reducible first | exact HB.out | apply below_alloc | apply pw_below_drewN | apply below_drew1 | refine below_set ?_ (IsS29.ge HI0.out)) | exact HB.out), by repeat (first | (with_reducible first | exact HK.out | apply KeepBut.set_ | apply keep_drewN | apply keep_drew | apply keep_alloc) | exact HK.out)⟩

/-! ### parquetryref1_Fill: function 45 -/
def parquetryref1_Fill.l0 : Nat → List Int → Int → Int → List Int → List Int → Option (List Int × List Int)
  | 0, _, _, _, _, _ => none
  | k + 1, x0, x1, x6, x134000, x134001 => (parquetryref1_Size.f k x0).bind fun t134 => (if x6 < t134 then (if x134001.length < 17592186044416 then (parquetryref1_Fill.l0 k x0 x1 (wrap64 (x6 + 1)) x134000 (x134001 ++ [x1])) else (none)) else (some (x134000, x134001)))
def parquetryref1_Fill.f (k : Nat) (l0 : List Int) (a1 : Int) : Option (List Int × List Int) := (some (([] : List Int) : List Int)).bind fun y127 => (if y127.length + l0.length < 17592186044416 then (parquetryref1_Fill.l0 k l0 a1 0 (y127 ++ l0) ([] : List Int)) else (none))
theorem parquetryref1_Fill.mono_l : ∀ k, (∀ y0 y1 y2 y3 y4, LeO (parquetryref1_Fill.l0 k y0 y1 y2 y3 y4) (parquetryref1_Fill.l0 (k + 1) y0 y1 y2 y3 y4))
  | 0 => fun _ _ _ _ _ r h => by simp [parquetryref1_Fill.l0] at h
  | k + 1 => by
    have ih0 := parquetryref1_Fill.mono_l k
    · intro y0 y1 y2 y3 y4
      unfold parquetryref1_Fill.l0
      repeat' first
      | (with_reducible exact ih0 _ _ _ _ _)
      | (with_reducible exact parquetryref1_Size.mono _ _)
      | (with_reducible exact LeO.refl _)
      | (with_reducible exact LeO.none _)
      | (with_reducible refine LeO.ite ?_ ?_)
      | (with_reducible refine LeO.bind ?_ (fun _ => ?_))
      | exact ih0 _ _ _ _ _
      | exact parquetryref1_Size.mono _ _
      | exact LeO.none _
      | refine LeO.ite ?_ ?_
      | refine LeO.bind ?_ (fun _ => ?_)
theorem parquetryref1_Fill.mono : ∀ a0 a1 k, LeO (parquetryref1_Fill.f k a0 a1) (parquetryref1_Fill.f (k + 1) a0 a1) := by
  intro a0 a1 k
  have ih0 := parquetryref1_Fill.mono_l k
  unfold parquetryref1_Fill.f
  repeat' first
      | (with_reducible exact ih0 _ _ _ _ _)
      | (with_reducible exact parquetryref1_Size.mono _ _)
      | (with_reducible exact LeO.refl _)
      | (with_reducible exact LeO.none _)
      | (with_reducible refine LeO.ite ?_ ?_)
      | (with_reducible refine LeO.bind ?_ (fun _ => ?_))
      | exact ih0 _ _ _ _ _
      | exact parquetryref1_Size.mono _ _
      | exact LeO.none _
      | refine LeO.ite ?_ ?_
      | refine LeO.bind ?_ (fun _ => ?_)
set_option maxHeartbeats 8000000 in
set_option maxRecDepth 100000 in
theorem parquetryref1_Fill.calls (k : Nat) (A0 : Option Addr) (c0 : Nat) (l0 : List Int) (a1 : Int) (r1 : List Int) (r2 : List Int) (w : World) (hr0 : Kd.C (Kd.int .i64) w A0 l0.length l0) (hc0 : l0.length ≤ c0) (h : parquetryref1_Fill.f k l0 a1 = some (r1, r2)) :
    Calls Try.prog 45 #[.slice A0 l0.length c0, .int .i64 a1] w fun e w' => ∃ v0_ v1_ : Value, e = .returned (.agg #[v0_, v1_]) ∧ Kd.R (Kd.int .i64) 3 w' w.heap.size (fun _ => True) v0_ r1 ∧ Kd.R (Kd.int .i64) 2 w' w.heap.size (fun _ => True) v1_ r2 ∧ Below w.heap.size w w' := by
  have hu53 := Try.underlying53
  have HR0 := Aside0.mk hr0
  have HC0 := Aside0.mk hc0
  clear hr0 hc0
  have HB := Aside0.mk (Below.refl w.heap.size w)
  have H : ((some (([] : List Int) : List Int)).bind fun y127 => (if y127.length + l0.length < 17592186044416 then (parquetryref1_Fill.l0 k l0 a1 0 (y127 ++ l0) ([] : List Int)) else (none))) = some (r1, r2) := h
  clear h
  obtain ⟨y127, hy127⟩ : ∃ y_ : List Int, y_ = (([] : List Int)) := ⟨_, rfl⟩
  replace H : (if y127.length + l0.length < 17592186044416 then (parquetryref1_Fill.l0 k l0 a1 0 (y127 ++ l0) ([] : List Int)) else (none)) = some (r1, r2) := by first | (rw [hy127]; with_reducible exact H) | (have H2_ := (Option.bind_some _ _).symm.trans H; rw [hy127]; with_reducible exact H2_) | (have H2_ := (Option.bind_some _ _).symm.trans H; with_reducible exact H2_) | with_reducible exact H | (rw [hy127]; exact H) | exact H
  have Ny127 := Aside0.mk hy127
  clear hy127
  by_cases c3 : y127.length + l0.length < 17592186044416
  · rw [if_pos c3] at H
    have LMc3 := Aside0.mk c3
    clear c3
    obtain ⟨y130, hy130⟩ : ∃ y_ : List Int, y_ = (y127 ++ l0) := ⟨_, rfl⟩
    replace H : (parquetryref1_Fill.l0 k l0 a1 0 y130 ([] : List Int)) = some (r1, r2) := by first | (rw [hy130]; with_reducible exact H) | (have H2_ := (Option.bind_some _ _).symm.trans H; rw [hy130]; with_reducible exact H2_) | (have H2_ := (Option.bind_some _ _).symm.trans H; with_reducible exact H2_) | with_reducible exact H | (rw [hy130]; exact H) | exact H
    have Ny130 := Aside0.mk hy130
    clear hy130
    have H' := Aside0.mk H
    clear H
    go_enter Try.func45, Try.ntmps45
    go_wp2_with (first | ((with_reducible refine gate_dst (N := 4) rfl ?_); refine box_event ?hg (N := 4) ?hd (cs := #[.slice none 0 0, .slice none 0 0]) (t := 53) ?hr ?_; (case hd => rfl); (case hg => rfl); (case hr => first | (go_simp; done) | (go_simp; rfl)); intro gb126 hg w4 hbox hb; have n0_ := Aside0.mk (below_step (by repeat (first | (with_reducible first | exact HB.out | apply below_alloc | apply pw_below_drewN | apply below_drew1) | exact HB.out)) hb); have n1_ := Aside0.mk (hbox); have n2_ := Aside0.mk ((by rw [hg]; exact (below_size (by repeat (first | (with_reducible first | exact HB.out | apply below_alloc | apply pw_below_drewN | apply below_drew1) | exact HB.out))) : w.heap.size ≤ gb126)); have n3_ := Aside0.mk ((by rw [hg]; exact (below_size (by repeat (first | (with_reducible first | exact HB.out | apply below_alloc | apply pw_below_drewN | apply below_drew1) | exact HB.out))) : w.heap.size ≤ gb126)); clear HB; have HB := n0_; have BK126 := n1_; have GW126 := n2_; have GE126 := n3_; clear n0_ n1_ n2_ n3_; clear hb hbox hg) | ((with_reducible refine gate_dst (N := 7) rfl ?_); refine Kd.R_lit (Kd.int .i64) _ 3 ?hg (N := 7) ?hd (xs := ([] : List Int)) (inner := []) (ok := fun _ => True) (okp := fun _ => True) ?hr ?hp (fun _ hk => hk) trivial (Below.refl _ _) (Nat.le_refl _) (by simp) ?_; (case hd => rfl); (case hg => rfl); (case hr => first | (go_simp; done) | (go_simp; rfl)); (case hp => exact (Reps.none _ _)); intro v128 w5 ho6 hb hg_ hnew_; clear hg_ hnew_; (first | rw [← Ny127.out] at ho6 | (simp only [Int.reduceToNat] at ho6; rw [← Ny127.out] at ho6)); have n0_ := Aside0.mk (Kd.R_lower ho6 (below_size (by repeat (first | (with_reducible first | exact HB.out | apply below_alloc | apply pw_below_drewN | apply below_drew1 | refine below_set ?_ GE126.out) | exact HB.out)))); have n1_ := Aside0.mk (blk_below (g := gb126) (o := .cells #[.slice none 0 0, .slice none 0 0] 53 (0, 0)) (by (with_reducible repeat (first | refine blk_drewN ?_ _ | refine blk_drew ?_ | refine blk_alloc ?_ _)); exact BK126.out) hb); have n2_ := Aside0.mk (below_step (by repeat (first | (with_reducible first | exact HB.out | apply below_alloc | apply pw_below_drewN | apply below_drew1 | refine below_set ?_ GE126.out) | exact HB.out)) hb); clear BK126; clear HB; have HO129 := n0_; have BK126 := n1_; have HB := n2_; clear n0_ n1_ n2_; clear hb ho6) | ((with_reducible refine gate_builtin (b := .append) (xs := #[.tmp 7, .tmp 8]) rfl ?_); at_builtin; refine Kd.R_append_rows (Kd.int .i64) (w0 := w) w.heap.size rfl (.tmp 7) (.tmp 8) 22 3 (.int .i64 0) 8 rfl Try.underlying22 info3 rfl (by decide) (by omega) v128 y127 l0 _ _ _ (fun _ => True) (fun _ => False) rfl rfl ?aO ?aR (fun _ _ h => h) (fun _ h => h.elim) ?aF ?aB ?aS ?aL ?_; (case aR => repeat (first | exact (Kd.C_below HR0.out HB.out) | (with_reducible refine Kd.C_alloc ?_ _) | (with_reducible refine Kd.C_drewN ?_ _) | (with_reducible refine Kd.C_drew ?_))); (case aB => exact (by repeat (first | (with_reducible first | exact HB.out | apply below_alloc | apply pw_below_drewN | apply below_drew1 | refine below_set ?_ GE126.out) | exact HB.out))); (case aF => exact (fun _ _ => trivial)); (case aO => exact (by (with_reducible repeat (first | apply Kd.R_alloc | apply Kd.R_drewN | apply Kd.R_drew)); exact HO129.out)); (case aS => exact (below_size (by repeat (first | (with_reducible first | exact HB.out | apply below_alloc | apply pw_below_drewN | apply below_drew1 | refine below_set ?_ GE126.out) | exact HB.out)))); (case aL => have := LMc3.out; omega); intro v131 w7 ho hb hg hat; rw [← Ny130.out] at ho; have n0_ := Aside0.mk (blk_grown (g := gb126) (o := .cells #[.slice none 0 0, .slice none 0 0] 53 (0, 0)) (by (with_reducible repeat (first | refine blk_drewN ?_ _ | refine blk_drew ?_ | refine blk_alloc ?_ _)); exact BK126.out) hg (Kd.R_ne HO129.out BK126.out (by decide))); have n1_ := Aside0.mk (hb); have n2_ := Aside0.mk (ho); clear BK126; clear HB; clear HO129; have BK126 := n0_; have HB := n1_; have HO132 := n2_; clear n0_ n1_ n2_; clear ho hb hg hat; obtain ⟨Ao8, co8, eo8⟩ := Kd.R_slice HO132.out; subst eo8) | ((with_reducible refine gate_dst (N := 5) rfl ?_); refine box_event ?hg (N := 5) ?hd (cs := #[.slice none 0 0, .slice none 0 0]) (t := 53) ?hr ?_; (case hd => rfl); (case hg => rfl); (case hr => first | (go_simp; done) | (go_simp; rfl)); intro gb133 hg w9 hbox hb; have n0_ := Aside0.mk (Kd.R_below (by (with_reducible repeat (first | apply Kd.R_alloc | apply Kd.R_drewN | apply Kd.R_drew)); exact HO132.out) hb); have n1_ := Aside0.mk (blk_below (g := gb126) (o := .cells #[.slice none 0 0, .slice none 0 0] 53 (0, 0)) (by (with_reducible repeat (first | refine blk_drewN ?_ _ | refine blk_drew ?_ | refine blk_alloc ?_ _)); exact BK126.out) hb); have n2_ := Aside0.mk (below_step (by repeat (first | (with_reducible first | exact HB.out | apply below_alloc | apply pw_below_drewN | apply below_drew1 | refine below_set ?_ GE126.out) | exact HB.out)) hb); have n3_ := Aside0.mk (hbox); have n4_ := Aside0.mk ((by rw [hg]; exact (below_size (by repeat (first | (with_reducible first | exact HB.out | apply below_alloc | apply pw_below_drewN | apply below_drew1 | refine below_set ?_ GE126.out) | exact HB.out))) : w.heap.size ≤ gb133)); have n5_ := Aside0.mk ((by rw [hg]; exact (below_size (by repeat (first | (with_reducible first | exact HB.out | apply below_alloc | apply pw_below_drewN | apply below_drew1 | refine below_set ?_ GE126.out) | exact HB.out))) : w.heap.size ≤ gb133)); have n6_ := Aside0.mk ((by rw [hg]; exact Nat.ne_of_lt (blk_lt (g := gb126) (o := .cells #[.slice none 0 0, .slice none 0 0] 53 (0, 0)) (by (with_reducible repeat (first | refine blk_drewN ?_ _ | refine blk_drew ?_ | refine blk_alloc ?_ _)); exact BK126.out)) : gb126 ≠ gb133)); have n7_ := Aside0.mk ((by rw [hg]; exact Nat.ne_of_gt (blk_lt (g := gb126) (o := .cells #[.slice none 0 0, .slice none 0 0] 53 (0, 0)) (by (with_reducible repeat (first | refine blk_drewN ?_ _ | refine blk_drew ?_ | refine blk_alloc ?_ _)); exact BK126.out)) : gb133 ≠ gb126)); clear HO132; clear BK126; clear HB; have HO132 := n0_; have BK126 := n1_; have HB := n2_; have BK133 := n3_; have GW133 := n4_; have GE133 := n5_; have NB126_133 := n6_; have NB133_126 := n7_; clear n0_ n1_ n2_ n3_ n4_ n5_ n6_ n7_; clear hb hbox hg; have hnb10 := NB133_126.out; have hnc10 := NB126_133.out; have hcz11_0 : w9.cell? ⟨gb133, 0, none⟩ = some (.slice none 0 0) := (blk_cell BK133.out 0).trans rfl; have hcz11_1 : w9.cell? ⟨gb133, 1, none⟩ = some (.slice none 0 0) := (blk_cell BK133.out 1).trans rfl; have hfz11_0 := blk_frozen BK133.out 0; have hfz11_1 := blk_frozen BK133.out 1))
    go_loopg [6] k (fun kq v6 w' => ∃ (x6_1 : Int) (x134001_1 : List Int) (u134001 : Value), v6 = .int .i64 x6_1 ∧ Aside0 (parquetryref1_Fill.l0 kq l0 a1 x6_1 y130 x134001_1 = some (r1, r2)) ∧ Aside0 (kq ≤ k) ∧ Aside0 (Kd.R (Kd.int .i64) 3 w' w.heap.size (fun _ => True) (.slice Ao8 y130.length co8) y130) ∧ Aside0 (Kd.R (Kd.int .i64) 2 w' w.heap.size (fun _ => True) u134001 x134001_1) ∧ Aside0 (w'.heap[gb126]? = some (.cells #[(.slice none 0 0), (.slice none 0 0)] 53 (0, 0))) ∧ Aside0 (w'.heap[gb133]? = some (.cells #[(.slice Ao8 y130.length co8), u134001] 53 (0, 0))) ∧ Aside0 (Below w.heap.size w w'))
    case atStart => exact ⟨(0), (([] : List Int)), (.slice none 0 0), (by first | rfl | (simp; done) | (simp [*]; done)), H', ⟨Nat.le_refl _⟩, ⟨by (with_reducible repeat (first | apply Kd.R_alloc | apply Kd.R_drewN | apply Kd.R_drew)); exact Kd.R_mono (Kd.R_far (p := ⟨gb133, 1, none⟩) (Kd.R_far (p := ⟨gb133, 0, none⟩) (Kd.R_types HO132.out BK133.out (by decide)) (fun _ hk => hk.2) (.slice Ao8 y130.length co8)) (fun _ hk => hk.2) (.slice none 0 0)) (fun _ hk => trivial)⟩, ⟨by first | exact Kd.R_nil _ _ _ _ _ | exact Kd.N_nil _ _ _ _ _ | exact Kd.V_nil _ _ _ _ _ | exact Kd.Q_nil _ _ _ _ _ | exact Kd.S_nil _ _ _ _ _⟩, ⟨by (with_reducible repeat (first | refine blk_drewN ?_ _ | refine blk_drew ?_ | refine blk_alloc ?_ _)); refine blk_far ?_ NB126_133.out _; (with_reducible repeat (first | refine blk_drewN ?_ _ | refine blk_drew ?_ | refine blk_alloc ?_ _)); refine blk_far ?_ NB126_133.out _; (with_reducible repeat (first | refine blk_drewN ?_ _ | refine blk_drew ?_ | refine blk_alloc ?_ _)); exact BK126.out⟩, ⟨by (with_reducible repeat (first | refine blk_drewN ?_ _ | refine blk_drew ?_ | refine blk_alloc ?_ _)); refine blk_put (cs := #[.slice Ao8 y130.length co8, .slice none 0 0]) ?_ 1 _ rfl; (with_reducible repeat (first | refine blk_drewN ?_ _ | refine blk_drew ?_ | refine blk_alloc ?_ _)); refine blk_put (cs := #[.slice none 0 0, .slice none 0 0]) ?_ 0 _ rfl; (with_reducible repeat (first | refine blk_drewN ?_ _ | refine blk_drew ?_ | refine blk_alloc ?_ _)); exact BK133.out⟩, ⟨by repeat (first | (with_reducible first | exact HB.out | apply below_alloc | apply pw_below_drewN | apply below_drew1 | refine below_set ?_ GE126.out | refine below_set ?_ GE133.out) | exact HB.out)⟩⟩
    case round =>
      clear H'
      try clear c1
      try clear p2
      try clear c3
      try clear c4
      try clear c10
      try clear hcz11_0
      try clear hcz11_1
      try clear hfz11_0
      try clear hfz11_1
      obtain ⟨x6_1, x134001_1, u134001, rfl, HA, HK1, HO_134000, HO_134001, BK126, BK133, HB⟩ := hrel
      cases gk with
      | zero => exact absurd HA.out (by simp [parquetryref1_Fill.l0])
      | succ k1 =>
        have H := HA.out
        clear HA
        simp only [parquetryref1_Fill.l0] at H
        replace H := Option.bind_eq_some_iff.mp H
        obtain ⟨t134, A120, H⟩ := H
        replace H : (if x6_1 < t134 then (if x134001_1.length < 17592186044416 then (parquetryref1_Fill.l0 k1 l0 a1 (wrap64 (x6_1 + 1)) y130 (x134001_1 ++ [a1])) else (none)) else (some (y130, x134001_1))) = some (r1, r2) := H
        have A12 := Aside0.mk A120
        clear A120
        by_cases c13 : x6_1 < t134
        · rw [if_pos c13] at H
          have c13b0 : decide (x6_1 < t134) = true := decide_eq_true c13
          clear c13
          by_cases c14 : x134001_1.length < 17592186044416
          · rw [if_pos c14] at H
            have LMc14 := Aside0.mk c14
            clear c14
            obtain ⟨y135, hy135⟩ : ∃ y_ : List Int, y_ = (x134001_1 ++ [a1]) := ⟨_, rfl⟩
            replace H : (parquetryref1_Fill.l0 k1 l0 a1 (wrap64 (x6_1 + 1)) y130 y135) = some (r1, r2) := by first | (rw [hy135]; with_reducible exact H) | (have H2_ := (Option.bind_some _ _).symm.trans H; rw [hy135]; with_reducible exact H2_) | (have H2_ := (Option.bind_some _ _).symm.trans H; with_reducible exact H2_) | with_reducible exact H | (rw [hy135]; exact H) | exact H
            have Ny135 := Aside0.mk hy135
            clear hy135
            have H' := Aside0.mk H
            clear H
            go_wp2_with (first | ((with_reducible refine gate_callee (f := 51) rfl ?_); refine goesL_ (some 13) rfl rfl Try.func51 (by kernel_rfl) rfl #[.slice A0 l0.length c0] rfl (by (try simp only [List.map_toArray, List.map_cons, List.map_nil]); first | done | rfl | (simp only [List.length_drop, List.length_take]; rfl)) ?_; (with_reducible refine (parquetryref1_Size.calls k1 _ _ l0 t134 _ ?side1 ?side2 A12.out).mono ?_); (case side1 => repeat (first | exact (Kd.C_below HR0.out HB.out) | (with_reducible refine Kd.C_alloc ?_ _) | (with_reducible refine Kd.C_drewN ?_ _) | (with_reducible refine Kd.C_drew ?_))); (case side2 => exact HC0.out); rintro e w' ⟨rfl, ⟨nd, rfl⟩⟩; refine ⟨_, rfl, ?_⟩; (try (rw [drewN_self wr]; generalize hq_ : World.drewN wr _ = wr; have n0_ : Aside0 (Kd.R (Kd.int .i64) 3 wr w.heap.size (fun _ => True) (.slice Ao8 y130.length co8) y130) := ⟨by rw [← hq_]; exact (by (with_reducible repeat (first | apply Kd.R_alloc | apply Kd.R_drewN | apply Kd.R_drew)); exact HO_134000.out)⟩; have n1_ : Aside0 (Kd.R (Kd.int .i64) 2 wr w.heap.size (fun _ => True) u134001 x134001_1) := ⟨by rw [← hq_]; exact (by (with_reducible repeat (first | apply Kd.R_alloc | apply Kd.R_drewN | apply Kd.R_drew)); exact HO_134001.out)⟩; have n2_ : Aside0 (wr.heap[gb126]? = some (.cells #[.slice none 0 0, .slice none 0 0] 53 (0, 0))) := ⟨by rw [← hq_]; exact (by (with_reducible repeat (first | refine blk_drewN ?_ _ | refine blk_drew ?_ | refine blk_alloc ?_ _)); exact BK126.out)⟩; have n3_ : Aside0 (wr.heap[gb133]? = some (.cells #[.slice Ao8 y130.length co8, u134001] 53 (0, 0))) := ⟨by rw [← hq_]; exact (by (with_reducible repeat (first | refine blk_drewN ?_ _ | refine blk_drew ?_ | refine blk_alloc ?_ _)); exact BK133.out)⟩; have n4_ : Aside0 (Below w.heap.size w wr) := ⟨by rw [← hq_]; exact (by repeat (first | (with_reducible first | exact HB.out | apply below_alloc | apply pw_below_drewN | apply below_drew1 | refine below_set ?_ GE126.out | refine below_set ?_ GE133.out) | exact HB.out))⟩; clear HO_134000 HO_134001 BK126 BK133 HB hq_; have HO_134000 := n0_; have HO_134001 := n1_; have BK126 := n2_; have BK133 := n3_; have HB := n4_; clear n0_ n1_ n2_ n3_ n4_)); have hnb15 := NB133_126.out; have hnc15 := NB126_133.out; have hcz16_0 : wr.cell? ⟨gb133, 0, none⟩ = some (.slice Ao8 y130.length co8) := (blk_cell BK133.out 0).trans rfl; have hcz16_1 : wr.cell? ⟨gb133, 1, none⟩ = some (u134001) := (blk_cell BK133.out 1).trans rfl; have hfz16_0 := blk_frozen BK133.out 0; have hfz16_1 := blk_frozen BK133.out 1) | ((with_reducible refine gate_builtin (b := .append) (xs := #[.tmp 18, .tmp 20]) rfl ?_); at_builtin; refine Kd.R_append (Kd.int .i64) (w0 := w) w.heap.size rfl (.tmp 18) (.tmp 20) 51 2 (.int .i64 0) 8 rfl Try.underlying51 info2 rfl (by decide) (by omega) u134001 x134001_1 a1 [.int .i64 a1] (fun _ => True) (fun _ => False) rfl rfl ?aP (fun _ hk => hk.elim) ?aF ?aO ?aB ?aS ?aL ?_; (case aP => exact rfl); (case aB => exact (by repeat (first | (with_reducible first | exact HB.out | apply below_alloc | apply pw_below_drewN | apply below_drew1 | refine below_set ?_ GE126.out | refine below_set ?_ GE133.out) | exact HB.out))); (case aF => exact (fun _ _ => trivial)); (case aO => exact (by (with_reducible repeat (first | apply Kd.R_alloc | apply Kd.R_drewN | apply Kd.R_drew)); exact HO_134001.out)); (case aS => exact (below_size (by repeat (first | (with_reducible first | exact HB.out | apply below_alloc | apply pw_below_drewN | apply below_drew1 | refine below_set ?_ GE126.out | refine below_set ?_ GE133.out) | exact HB.out)))); (case aL => have := LMc14.out; omega); intro v136 w17 ho hb hg hat; rw [← Ny135.out] at ho; have n0_ := Aside0.mk (Kd.R_over' (by (with_reducible repeat (first | apply Kd.R_alloc | apply Kd.R_drewN | apply Kd.R_drew)); exact HO_134000.out) (Kd.R_typed (by (with_reducible repeat (first | apply Kd.R_alloc | apply Kd.R_drewN | apply Kd.R_drew)); exact HO_134001.out)) (by decide) hg); have n1_ := Aside0.mk (blk_grown (g := gb126) (o := .cells #[.slice none 0 0, .slice none 0 0] 53 (0, 0)) (by (with_reducible repeat (first | refine blk_drewN ?_ _ | refine blk_drew ?_ | refine blk_alloc ?_ _)); exact BK126.out) hg (Kd.R_ne HO_134001.out BK126.out (by decide))); have n2_ := Aside0.mk (blk_grown (g := gb133) (o := .cells #[.slice Ao8 y130.length co8, u134001] 53 (0, 0)) (by (with_reducible repeat (first | refine blk_drewN ?_ _ | refine blk_drew ?_ | refine blk_alloc ?_ _)); exact BK133.out) hg (Kd.R_ne HO_134001.out BK133.out (by decide))); have n3_ := Aside0.mk (hb); have n4_ := Aside0.mk (ho); clear HO_134000; clear BK126; clear BK133; clear HB; clear HO_134001; have HO_134000 := n0_; have BK126 := n1_; have BK133 := n2_; have HB := n3_; have HO137 := n4_; clear n0_ n1_ n2_ n3_ n4_; clear ho hb hg hat; obtain ⟨Ao18, co18, eo18⟩ := Kd.R_slice HO137.out; subst eo18; have hcz19_0 : w17.cell? ⟨gb133, 0, none⟩ = some (.slice Ao8 y130.length co8) := (blk_cell BK133.out 0).trans rfl; have hcz19_1 : w17.cell? ⟨gb133, 1, none⟩ = some (u134001) := (blk_cell BK133.out 1).trans rfl; have hfz19_0 := blk_frozen BK133.out 0; have hfz19_1 := blk_frozen BK133.out 1))
            go_roundg k1
            case measure => have := HK1.out; omega
            case rel => exact ⟨(wrap64 (x6_1 + 1)), (y135), (.slice Ao18 y135.length co18), (by first | rfl | (simp; done) | (simp [*]; done)), H', ⟨by have := HK1.out; omega⟩, ⟨by (with_reducible repeat (first | apply Kd.R_alloc | apply Kd.R_drewN | apply Kd.R_drew)); exact Kd.R_mono (Kd.R_far (p := ⟨gb133, 1, none⟩) (Kd.R_types HO_134000.out BK133.out (by decide)) (fun _ hk => hk.2) (.slice Ao18 y135.length co18)) (fun _ hk => trivial)⟩, ⟨by (with_reducible repeat (first | apply Kd.R_alloc | apply Kd.R_drewN | apply Kd.R_drew)); exact Kd.R_mono (Kd.R_far (p := ⟨gb133, 1, none⟩) (Kd.R_types HO137.out BK133.out (by decide)) (fun _ hk => hk.2) (.slice Ao18 y135.length co18)) (fun _ hk => trivial)⟩, ⟨by (with_reducible repeat (first | refine blk_drewN ?_ _ | refine blk_drew ?_ | refine blk_alloc ?_ _)); refine blk_far ?_ NB126_133.out _; (with_reducible repeat (first | refine blk_drewN ?_ _ | refine blk_drew ?_ | refine blk_alloc ?_ _)); exact BK126.out⟩, ⟨by (with_reducible repeat (first | refine blk_drewN ?_ _ | refine blk_drew ?_ | refine blk_alloc ?_ _)); refine blk_put (cs := #[.slice Ao8 y130.length co8, u134001]) ?_ 1 _ rfl; (with_reducible repeat (first | refine blk_drewN ?_ _ | refine blk_drew ?_ | refine blk_alloc ?_ _)); exact BK133.out⟩, ⟨by repeat (first | (with_reducible first | exact HB.out | apply below_alloc | apply pw_below_drewN | apply below_drew1 | refine below_set ?_ GE126.out | refine below_set ?_ GE133.out) | exact HB.out)⟩⟩
          · rw [if_neg c14] at H
            exact absurd H (by simp)
        · rw [if_neg c13] at H
          have c13b0 : decide (x6_1 < t134) = false := decide_eq_false c13
          clear c13
          simp only [Option.some.injEq, Prod.mk.injEq] at H
          obtain ⟨rfl, rfl⟩ := H
          go_wp2_with (first | ((with_reducible refine gate_callee (f := 51) rfl ?_); refine goesL_ (some 13) rfl rfl Try.func51 (by kernel_rfl) rfl #[.slice A0 l0.length c0] rfl (by (try simp only [List.map_toArray, List.map_cons, List.map_nil]); first | done | rfl | (simp only [List.length_drop, List.length_take]; rfl)) ?_; (with_reducible refine (parquetryref1_Size.calls k1 _ _ l0 t134 _ ?side1 ?side2 A12.out).mono ?_); (case side1 => repeat (first | exact (Kd.C_below HR0.out HB.out) | (with_reducible refine Kd.C_alloc ?_ _) | (with_reducible refine Kd.C_drewN ?_ _) | (with_reducible refine Kd.C_drew ?_))); (case side2 => exact HC0.out); rintro e w' ⟨rfl, ⟨nd, rfl⟩⟩; refine ⟨_, rfl, ?_⟩; (try (rw [drewN_self wr]; generalize hq_ : World.drewN wr _ = wr; have n0_ : Aside0 (Kd.R (Kd.int .i64) 3 wr w.heap.size (fun _ => True) (.slice Ao8 y130.length co8) y130) := ⟨by rw [← hq_]; exact (by (with_reducible repeat (first | apply Kd.R_alloc | apply Kd.R_drewN | apply Kd.R_drew)); exact HO_134000.out)⟩; have n1_ : Aside0 (Kd.R (Kd.int .i64) 2 wr w.heap.size (fun _ => True) u134001 x134001_1) := ⟨by rw [← hq_]; exact (by (with_reducible repeat (first | apply Kd.R_alloc | apply Kd.R_drewN | apply Kd.R_drew)); exact HO_134001.out)⟩; have n2_ : Aside0 (wr.heap[gb126]? = some (.cells #[.slice none 0 0, .slice none 0 0] 53 (0, 0))) := ⟨by rw [← hq_]; exact (by (with_reducible repeat (first | refine blk_drewN ?_ _ | refine blk_drew ?_ | refine blk_alloc ?_ _)); exact BK126.out)⟩; have n3_ : Aside0 (wr.heap[gb133]? = some (.cells #[.slice Ao8 y130.length co8, u134001] 53 (0, 0))) := ⟨by rw [← hq_]; exact (by (with_reducible repeat (first | refine blk_drewN ?_ _ | refine blk_drew ?_ | refine blk_alloc ?_ _)); exact BK133.out)⟩; have n4_ : Aside0 (Below w.heap.size w wr) := ⟨by rw [← hq_]; exact (by repeat (first | (with_reducible first | exact HB.out | apply below_alloc | apply pw_below_drewN | apply below_drew1 | refine below_set ?_ GE126.out | refine below_set ?_ GE133.out) | exact HB.out))⟩; clear HO_134000 HO_134001 BK126 BK133 HB hq_; have HO_134000 := n0_; have HO_134001 := n1_; have BK126 := n2_; have BK133 := n3_; have HB := n4_; clear n0_ n1_ n2_ n3_ n4_)); have hnb20 := NB133_126.out; have hnc20 := NB126_133.out; have hcz21_0 : wr.cell? ⟨gb133, 0, none⟩ = some (.slice Ao8 y130.length co8) := (blk_cell BK133.out 0).trans rfl; have hcz21_1 : wr.cell? ⟨gb133, 1, none⟩ = some (u134001) := (blk_cell BK133.out 1).trans rfl; have hfz21_0 := blk_frozen BK133.out 0; have hfz21_1 := blk_frozen BK133.out 1; have hcz22_0 : wr.cell? ⟨gb126, 0, none⟩ = some (.slice none 0 0) := (blk_cell BK126.out 0).trans rfl; have hcz22_1 : wr.cell? ⟨gb126, 1, none⟩ = some (.slice none 0 0) := (blk_cell BK126.out 1).trans rfl; have hfz22_0 := blk_frozen BK126.out 0; have hfz22_1 := blk_frozen BK126.out 1; obtain ⟨Ao23, co23, eo23⟩ := Kd.R_slice HO_134001.out; subst eo23))
          refine bodyPost_ret (results_cell_row rfl _ _ gb126 53 #[.slice Ao8 y130.length co8, .slice Ao23 x134001_1.length co23] (0, 0) _ rfl (by (with_reducible repeat (first | refine blk_drewN ?_ _ | refine blk_drew ?_ | refine blk_alloc ?_ _)); refine blk_put (cs := #[.slice Ao8 y130.length co8, .slice none 0 0]) ?_ 1 _ rfl; (with_reducible repeat (first | refine blk_drewN ?_ _ | refine blk_drew ?_ | refine blk_alloc ?_ _)); refine blk_put (cs := #[.slice none 0 0, .slice none 0 0]) ?_ 0 _ rfl; (with_reducible repeat (first | refine blk_drewN ?_ _ | refine blk_drew ?_ | refine blk_alloc ?_ _)); exact BK126.out) Try.underlying53 rfl (by kernel_rfl)) rfl ?_
          exact ⟨_, _, by first | rfl | (simp [errW_none, errW_some] <;> rfl) | (simp [*, errW_none, errW_some] <;> rfl), by (with_reducible repeat (first | apply Kd.R_alloc | apply Kd.R_drewN | apply Kd.R_drew)); exact Kd.R_mono (Kd.R_far (p := ⟨gb126, 1, none⟩) (Kd.R_far (p := ⟨gb126, 0, none⟩) (Kd.R_types HO_134000.out BK126.out (by decide)) (fun _ hk => hk.2) (.slice Ao8 y130.length co8)) (fun _ hk => hk.2) (.slice Ao23 x134001_1.length co23)) (fun _ hk => trivial), by (with_reducible repeat (first | apply Kd.R_alloc | apply Kd.R_drewN | apply Kd.R_drew)); exact Kd.R_mono (Kd.R_far (p := ⟨gb126, 1, none⟩) (Kd.R_far (p := ⟨gb126, 0, none⟩) (Kd.R_types HO_134001.out BK126.out (by decide)) (fun _ hk => hk.2) (.slice Ao8 y130.length co8)) (fun _ hk => hk.2) (.slice Ao23 x134001_1.length co23)) (fun _ hk => trivial), by repeat (first | (with_reducible first | exact HB.out | apply below_alloc | apply pw_below_drewN | apply below_drew1 | refine below_set ?_ GE126.out | refine below_set ?_ GE133.out) | exact HB.out)⟩
  · rw [if_neg c3] at H
    exact absurd H (by simp)

/-! ### parquetrykeep_Tape_Number: function 71 -/
def parquetrykeep_Tape_Number.f (k : Nat) (s0_0 : List Int) (s0_1 : Int) : Option (Int × Int) := (parquetrykeep_Tape_Next.f k s0_0 s0_1 9).bind fun bt138 => (if bt138.1 = 0 then ((some (([9223372036854775807, (-9223372036854775808), 4611686018427387904, (-1099511627776), 8589934592, 3037000500] : List Int) : List Int)).bind fun y140 => ((parquetrykeep_Tape_Next.f k s0_0 bt138.2 6).bind fun bt143 => (if 0 ≤ bt143.1 then (if bt143.1 < (y140.length : Int) then (some (rd y140 bt143.1, bt143.2)) else (none)) else (none)))) else (if bt138.1 = 1 then (some (0, bt138.2)) else ((parquetrykeep_Tape_Next.f k s0_0 bt138.2 19).bind fun bt146 => (some (wrap64 (bt146.1 - 9), bt146.2)))))
theorem parquetrykeep_Tape_Number.mono : ∀ a0 a1 k, LeO (parquetrykeep_Tape_Number.f k a0 a1) (parquetrykeep_Tape_Number.f (k + 1) a0 a1) := by
  intro a0 a1 k
  unfold parquetrykeep_Tape_Number.f
  repeat' first
      | (with_reducible exact parquetrykeep_Tape_Next.mono _ _ _ _)
      | (with_reducible exact LeO.refl _)
      | (with_reducible exact LeO.none _)
      | (with_reducible refine LeO.ite ?_ ?_)
      | (with_reducible refine LeO.bind ?_ (fun _ => ?_))
      | exact parquetrykeep_Tape_Next.mono _ _ _ _
      | exact LeO.none _
      | refine LeO.ite ?_ ?_
      | refine LeO.bind ?_ (fun _ => ?_)
set_option maxHeartbeats 8000000 in
set_option maxRecDepth 100000 in
theorem parquetrykeep_Tape_Number.calls (k : Nat) (g : Nat) (s0_0 : List Int) (s0_1 : Int) (r1 : Int) (r2 : Int) (w0 w : World) (hI : IsS29 w0 w g s0_0 s0_1) (hB : Below w0.heap.size w0 w) (h : parquetrykeep_Tape_Number.f k s0_0 s0_1 = some (r1, r2)) :
    Calls Try.prog 71 #[.pointer (some ⟨g, 0, none⟩)] w fun e w' => e = .returned (.int .i64 r1) ∧ IsS29 w0 w' g s0_0 r2 ∧ Below w0.heap.size w0 w' ∧ KeepBut w w' g none := by
  have HI0 := Aside0.mk hI
  have HK := Aside0.mk (KeepBut.refl w g none)
  have HL := Aside0.mk hB.size
  clear hI
  have HW0 := Aside0.mk hB.size
  have HB := Aside0.mk hB
  clear hB
  have H : ((parquetrykeep_Tape_Next.f k s0_0 s0_1 9).bind fun bt138 => (if bt138.1 = 0 then ((some (([9223372036854775807, (-9223372036854775808), 4611686018427387904, (-1099511627776), 8589934592, 3037000500] : List Int) : List Int)).bind fun y140 => ((parquetrykeep_Tape_Next.f k s0_0 bt138.2 6).bind fun bt143 => (if 0 ≤ bt143.1 then (if bt143.1 < (y140.length : Int) then (some (rd y140 bt143.1, bt143.2)) else (none)) else (none)))) else (if bt138.1 = 1 then (some (0, bt138.2)) else ((parquetrykeep_Tape_Next.f k s0_0 bt138.2 19).bind fun bt146 => (some (wrap64 (bt146.1 - 9), bt146.2)))))) = some (r1, r2) := h
  clear h
  replace H := Option.bind_eq_some_iff.mp H
  obtain ⟨⟨t138, t139⟩, A20, H⟩ := H
  replace H : (if t138 = 0 then ((some (([9223372036854775807, (-9223372036854775808), 4611686018427387904, (-1099511627776), 8589934592, 3037000500] : List Int) : List Int)).bind fun y140 => ((parquetrykeep_Tape_Next.f k s0_0 t139 6).bind fun bt143 => (if 0 ≤ bt143.1 then (if bt143.1 < (y140.length : Int) then (some (rd y140 bt143.1, bt143.2)) else (none)) else (none)))) else (if t138 = 1 then (some (0, t139)) else ((parquetrykeep_Tape_Next.f k s0_0 t139 19).bind fun bt146 => (some (wrap64 (bt146.1 - 9), bt146.2))))) = some (r1, r2) := H
  have A2 := Aside0.mk A20
  clear A20
  by_cases c3 : t138 = 0
  · rw [if_pos c3] at H
    have c3b0 : (t138 == 0) = true := beq_iff_eq.mpr c3
    have c3b1 : (t138 != 0) = false := bne_eq_false_iff_eq.mpr c3
    clear c3
    obtain ⟨y140, hy140⟩ : ∃ y_ : List Int, y_ = (([9223372036854775807, (-9223372036854775808), 4611686018427387904, (-1099511627776), 8589934592, 3037000500] : List Int)) := ⟨_, rfl⟩
    replace H : ((parquetrykeep_Tape_Next.f k s0_0 t139 6).bind fun bt143 => (if 0 ≤ bt143.1 then (if bt143.1 < (y140.length : Int) then (some (rd y140 bt143.1, bt143.2)) else (none)) else (none))) = some (r1, r2) := by first | (rw [hy140]; with_reducible exact H) | (have H2_ := (Option.bind_some _ _).symm.trans H; rw [hy140]; with_reducible exact H2_) | (have H2_ := (Option.bind_some _ _).symm.trans H; with_reducible exact H2_) | with_reducible exact H | (rw [hy140]; exact H) | exact H
    have Ny140 := Aside0.mk hy140
    clear hy140
    replace H := Option.bind_eq_some_iff.mp H
    obtain ⟨⟨t143, t144⟩, A40, H⟩ := H
    replace H : (if 0 ≤ t143 then (if t143 < (y140.length : Int) then (some (rd y140 t143, t144)) else (none)) else (none)) = some (r1, r2) := H
    have A4 := Aside0.mk A40
    clear A40
    by_cases c5 : 0 ≤ t143
    · rw [if_pos c5] at H
      have c5b0 : decide (0 ≤ t143) = true := decide_eq_true c5
      clear c5
      by_cases c6 : t143 < (y140.length : Int)
      · rw [if_pos c6] at H
        have c6b0 : decide (t143 < (y140.length : Int)) = true := decide_eq_true c6
        clear c6
        simp only [Option.some.injEq, Prod.mk.injEq] at H
        obtain ⟨rfl, rfl⟩ := H
        go_enter Try.func71, Try.ntmps71
        go_wp2_with (first | ((with_reducible refine gate_callee (f := 23) rfl ?_); refine goesL_ (some 4) rfl rfl Try.func23 (by kernel_rfl) rfl #[.pointer (some ⟨g, 0, none⟩), .int .i64 9] rfl (by (try simp only [List.map_toArray, List.map_cons, List.map_nil]); first | done | rfl | (simp only [List.length_drop, List.length_take]; rfl)) ?_; (with_reducible refine (parquetrykeep_Tape_Next.calls k g s0_0 s0_1 9 t138 t139 w0 _ ?side1 ?side2 A2.out).mono ?_); (case side1 => repeat (first | (with_reducible first | exact HI0.out | apply IsS29.alloc | apply IsS29.drewN | apply IsS29.drew | apply IsS29.set_1) | exact HI0.out)); (case side2 => repeat (first | (with_reducible first | exact HB.out | apply below_alloc | apply pw_below_drewN | apply below_drew1 | refine below_set ?_ (IsS29.ge HI0.out)) | exact HB.out)); rintro e w7 ⟨rfl, hi, hb, hk⟩; refine ⟨_, rfl, ?_⟩; have n0_ := Aside0.mk (KeepBut.trans (by repeat (first | (with_reducible first | exact HK.out | apply KeepBut.set_ | apply keep_drewN | apply keep_drew | apply keep_alloc) | exact HK.out)) hk (.inl rfl)); have n1_ := Aside0.mk (hb); have n2_ := Aside0.mk (hi); clear HK; clear HB; clear HI0; have HK := n0_; have HB := n1_; have HI0 := n2_; clear n0_ n1_ n2_; (try clear hb); (try clear hb2); (try clear hk); (try clear hi)) | ((with_reducible refine gate_dst (N := 7) rfl ?_); refine Kd.R_lit (Kd.int .i64) _ 2 ?hg (N := 7) ?hd (xs := ([9223372036854775807, (-9223372036854775808), 4611686018427387904, (-1099511627776), 8589934592, 3037000500] : List Int)) (inner := [.int .i64 9223372036854775807, .int .i64 (-9223372036854775808), .int .i64 4611686018427387904, .int .i64 (-1099511627776), .int .i64 8589934592, .int .i64 3037000500]) (ok := fun _ => True) (okp := fun _ => True) ?hr ?hp (fun _ hk => hk) trivial (Below.refl _ _) (Nat.le_refl _) (by simp) ?_; (case hd => rfl); (case hg => rfl); (case hr => first | (go_simp; done) | (go_simp; rfl)); (case hp => exact (Reps.one (show Kd.M (Kd.int .i64) _ _ _ 9223372036854775807 [.int .i64 9223372036854775807] from rfl) (Reps.one (show Kd.M (Kd.int .i64) _ _ _ (-9223372036854775808) [.int .i64 (-9223372036854775808)] from rfl) (Reps.one (show Kd.M (Kd.int .i64) _ _ _ 4611686018427387904 [.int .i64 4611686018427387904] from rfl) (Reps.one (show Kd.M (Kd.int .i64) _ _ _ (-1099511627776) [.int .i64 (-1099511627776)] from rfl) (Reps.one (show Kd.M (Kd.int .i64) _ _ _ 8589934592 [.int .i64 8589934592] from rfl) (Reps.one (show Kd.M (Kd.int .i64) _ _ _ 3037000500 [.int .i64 3037000500] from rfl) (Reps.none _ _)))))))); intro v141 w8 ho9 hb hg_ hnew_; clear hg_ hnew_; (first | rw [← Ny140.out] at ho9 | (simp only [Int.reduceToNat] at ho9; rw [← Ny140.out] at ho9)); have n0_ := Aside0.mk (Kd.R_lower ho9 (keep_size (w := w) (g := g) (row := none) (by repeat (first | (with_reducible first | exact HK.out | apply KeepBut.set_ | apply keep_drewN | apply keep_drew | apply keep_alloc) | exact HK.out)))); have n1_ := Aside0.mk (IsS29.below (by repeat (first | (with_reducible first | exact HI0.out | apply IsS29.alloc | apply IsS29.drewN | apply IsS29.drew | apply IsS29.set_1) | exact HI0.out)) hb); have n2_ := Aside0.mk (KeepBut.trans (by repeat (first | (with_reducible first | exact HK.out | apply KeepBut.set_ | apply keep_drewN | apply keep_drew | apply keep_alloc) | exact HK.out)) (KeepBut.of_below hb g none) (.inl rfl)); have n3_ := Aside0.mk (below_step (by repeat (first | (with_reducible first | exact HB.out | apply below_alloc | apply pw_below_drewN | apply below_drew1 | refine below_set ?_ (IsS29.ge HI0.out)) | exact HB.out)) hb); clear HI0; clear HK; clear HB; have HO142 := n0_; have HI0 := n1_; have HK := n2_; have HB := n3_; clear n0_ n1_ n2_ n3_; clear hb ho9) | ((with_reducible refine gate_callee (f := 23) rfl ?_); refine goesL_ (some 9) rfl rfl Try.func23 (by kernel_rfl) rfl #[.pointer (some ⟨g, 0, none⟩), .int .i64 6] rfl (by (try simp only [List.map_toArray, List.map_cons, List.map_nil]); first | done | rfl | (simp only [List.length_drop, List.length_take]; rfl)) ?_; (with_reducible refine (parquetrykeep_Tape_Next.calls k g s0_0 t139 6 t143 t144 w0 _ ?side1 ?side2 A4.out).mono ?_); (case side1 => repeat (first | (with_reducible first | exact HI0.out | apply IsS29.alloc | apply IsS29.drewN | apply IsS29.drew | apply IsS29.set_1) | exact HI0.out)); (case side2 => repeat (first | (with_reducible first | exact HB.out | apply below_alloc | apply pw_below_drewN | apply below_drew1 | refine below_set ?_ (IsS29.ge HI0.out)) | exact HB.out)); rintro e w10 ⟨rfl, hi, hb, hk⟩; refine ⟨_, rfl, ?_⟩; have n0_ := Aside0.mk (Kd.R_mono (Kd.R_keep (IsS29.apart (show IsS29 w0 _ g s0_0 t139 from by repeat (first | (with_reducible first | exact HI0.out | apply IsS29.alloc | apply IsS29.drewN | apply IsS29.drew | apply IsS29.set_1) | exact HI0.out)) (by (with_reducible repeat (first | apply Kd.R_alloc | apply Kd.R_drewN | apply Kd.R_drew)); exact HO142.out) (by decide)) hk (fun _ h => h.2)) (fun _ h => h.1)); have n1_ := Aside0.mk (KeepBut.trans (by repeat (first | (with_reducible first | exact HK.out | apply KeepBut.set_ | apply keep_drewN | apply keep_drew | apply keep_alloc) | exact HK.out)) hk (.inl rfl)); have n2_ := Aside0.mk (hb); have n3_ := Aside0.mk (hi); clear HO142; clear HK; clear HB; clear HI0; have HO142 := n0_; have HK := n1_; have HB := n2_; have HI0 := n3_; clear n0_ n1_ n2_ n3_; (try clear hb); (try clear hb2); (try clear hk); (try clear hi); obtain ⟨Ao11, co11, eo11⟩ := Kd.R_slice HO142.out; subst eo11; have p145 : 0 ≤ (t143 : Int) := of_decide_eq_true (by first | (with_reducible assumption) | assumption); have q145 : t143 < (y140.length : Int) := of_decide_eq_true (by first | (with_reducible assumption) | assumption); obtain ⟨ad145, e145, hx145_0⟩ := Kd.at_int (Kd.R_reads' HO142.out).2.2 t143 p145 q145; cases e145; replace p145 := eq_true p145; replace q145 := eq_true q145))
        go_ret
        exact ⟨by first | rfl | (simp [errW_none, errW_some] <;> rfl) | (simp [*, errW_none, errW_some] <;> rfl), by repeat (first | (with_reducible first | exact HI0.out | apply IsS29.alloc | apply IsS29.drewN | apply IsS29.drew | apply IsS29.set_1) | exact HI0.out), by repeat (first | (with_reducible first | exact HB.out | apply below_alloc | apply pw_below_drewN | apply below_drew1 | refine below_set ?_ (IsS29.ge HI0.out)) | exact HB.out), by repeat (first | (with_reducible first | exact HK.out | apply KeepBut.set_ | apply keep_drewN | apply keep_drew | apply keep_alloc) | exact HK.out)⟩
      · rw [if_neg c6] at H
        exact absurd H (by simp)
    · rw [if_neg c5] at H
      exact absurd H (by simp)
  · rw [if_neg c3] at H
    have c3b0 : (t138 == 0) = false := beq_eq_false_iff_ne.mpr c3
    have c3b1 : (t138 != 0) = true := bne_iff_ne.mpr c3
    by_cases c12 : t138 = 1
    · rw [if_pos c12] at H
      have c12b0 : (t138 == 1) = true := beq_iff_eq.mpr c12
      have c12b1 : (t138 != 1) = false := bne_eq_false_iff_eq.mpr c12
      clear c12
      simp only [Option.some.injEq, Prod.mk.injEq] at H
      obtain ⟨rfl, rfl⟩ := H
      go_enter Try.func71, Try.ntmps71
      go_wp2_with (first | ((with_reducible refine gate_callee (f := 23) rfl ?_); refine goesL_ (some 4) rfl rfl Try.func23 (by kernel_rfl) rfl #[.pointer (some ⟨g, 0, none⟩), .int .i64 9] rfl (by (try simp only [List.map_toArray, List.map_cons, List.map_nil]); first | done | rfl | (simp only [List.length_drop, List.length_take]; rfl)) ?_; (with_reducible refine (parquetrykeep_Tape_Next.calls k g s0_0 s0_1 9 t138 t139 w0 _ ?side1 ?side2 A2.out).mono ?_); (case side1 => repeat (first | (with_reducible first | exact HI0.out | apply IsS29.alloc | apply IsS29.drewN | apply IsS29.drew | apply IsS29.set_1) | exact HI0.out)); (case side2 => repeat (first | (with_reducible first | exact HB.out | apply below_alloc | apply pw_below_drewN | apply below_drew1 | refine below_set ?_ (IsS29.ge HI0.out)) | exact HB.out)); rintro e w13 ⟨rfl, hi, hb, hk⟩; refine ⟨_, rfl, ?_⟩; have n0_ := Aside0.mk (KeepBut.trans (by repeat (first | (with_reducible first | exact HK.out | apply KeepBut.set_ | apply keep_drewN | apply keep_drew | apply keep_alloc) | exact HK.out)) hk (.inl rfl)); have n1_ := Aside0.mk (hb); have n2_ := Aside0.mk (hi); clear HK; clear HB; clear HI0; have HK := n0_; have HB := n1_; have HI0 := n2_; clear n0_ n1_ n2_; (try clear hb); (try clear hb2); (try clear hk); (try clear hi)))
      go_ret
      exact ⟨by first | rfl | (simp [errW_none, errW_some] <;> rfl) | (simp [*, errW_none, errW_some] <;> rfl), by repeat (first | (with_reducible first | exact HI0.out | apply IsS29.alloc | apply IsS29.drewN | apply IsS29.drew | apply IsS29.set_1) | exact HI0.out), by repeat (first | (with_reducible first | exact HB.out | apply below_alloc | apply pw_below_drewN | apply below_drew1 | refine below_set ?_ (IsS29.ge HI0.out)) | exact HB.out), by repeat (first | (with_reducible first | exact HK.out | apply KeepBut.set_ | apply keep_drewN | apply keep_drew | apply keep_alloc) | exact HK.out)⟩
    · rw [if_neg c12] at H
      have c12b0 : (t138 == 1) = false := beq_eq_false_iff_ne.mpr c12
      have c12b1 : (t138 != 1) = true := bne_iff_ne.mpr c12
      replace H := Option.bind_eq_some_iff.mp H
      obtain ⟨⟨t146, t147⟩, A140, H⟩ := H
      replace H : (some (wrap64 (t146 - 9), t147)) = some (r1, r2) := H
      have A14 := Aside0.mk A140
      clear A140
      simp only [Option.some.injEq, Prod.mk.injEq] at H
      obtain ⟨rfl, rfl⟩ := H
      go_enter Try.func71, Try.ntmps71
      go_wp2_with (first | ((with_reducible refine gate_callee (f := 23) rfl ?_); refine goesL_ (some 4) rfl rfl Try.func23 (by kernel_rfl) rfl #[.pointer (some ⟨g, 0, none⟩), .int .i64 9] rfl (by (try simp only [List.map_toArray, List.map_cons, List.map_nil]); first | done | rfl | (simp only [List.length_drop, List.length_take]; rfl)) ?_; (with_reducible refine (parquetrykeep_Tape_Next.calls k g s0_0 s0_1 9 t138 t139 w0 _ ?side1 ?side2 A2.out).mono ?_); (case side1 => repeat (first | (with_reducible first | exact HI0.out | apply IsS29.alloc | apply IsS29.drewN | apply IsS29.drew | apply IsS29.set_1) | exact HI0.out)); (case side2 => repeat (first | (with_reducible first | exact HB.out | apply below_alloc | apply pw_below_drewN | apply below_drew1 | refine below_set ?_ (IsS29.ge HI0.out)) | exact HB.out)); rintro e w15 ⟨rfl, hi, hb, hk⟩; refine ⟨_, rfl, ?_⟩; have n0_ := Aside0.mk (KeepBut.trans (by repeat (first | (with_reducible first | exact HK.out | apply KeepBut.set_ | apply keep_drewN | apply keep_drew | apply keep_alloc) | exact HK.out)) hk (.inl rfl)); have n1_ := Aside0.mk (hb); have n2_ := Aside0.mk (hi); clear HK; clear HB; clear HI0; have HK := n0_; have HB := n1_; have HI0 := n2_; clear n0_ n1_ n2_; (try clear hb); (try clear hb2); (try clear hk); (try clear hi)) | ((with_reducible refine gate_callee (f := 23) rfl ?_); refine goesL_ (some 15) rfl rfl Try.func23 (by kernel_rfl) rfl #[.pointer (some ⟨g, 0, none⟩), .int .i64 19] rfl (by (try simp only [List.map_toArray, List.map_cons, List.map_nil]); first | done | rfl | (simp only [List.length_drop, List.length_take]; rfl)) ?_; (with_reducible refine (parquetrykeep_Tape_Next.calls k g s0_0 t139 19 t146 t147 w0 _ ?side1 ?side2 A14.out).mono ?_); (case side1 => repeat (first | (with_reducible first | exact HI0.out | apply IsS29.alloc | apply IsS29.drewN | apply IsS29.drew | apply IsS29.set_1) | exact HI0.out)); (case side2 => repeat (first | (with_reducible first | exact HB.out | apply below_alloc | apply pw_below_drewN | apply below_drew1 | refine below_set ?_ (IsS29.ge HI0.out)) | exact HB.out)); rintro e w16 ⟨rfl, hi, hb, hk⟩; refine ⟨_, rfl, ?_⟩; have n0_ := Aside0.mk (KeepBut.trans (by repeat (first | (with_reducible first | exact HK.out | apply KeepBut.set_ | apply keep_drewN | apply keep_drew | apply keep_alloc) | exact HK.out)) hk (.inl rfl)); have n1_ := Aside0.mk (hb); have n2_ := Aside0.mk (hi); clear HK; clear HB; clear HI0; have HK := n0_; have HB := n1_; have HI0 := n2_; clear n0_ n1_ n2_; (try clear hb); (try clear hb2); (try clear hk); (try clear hi)))
      go_ret
      exact ⟨by first | rfl | (simp [errW_none, errW_some] <;> rfl) | (simp [*, errW_none, errW_some] <;> rfl), by repeat (first | (with_reducible first | exact HI0.out | apply IsS29.alloc | apply IsS29.drewN | apply IsS29.drew | apply IsS29.set_1) | exact HI0.out), by repeat (first | (with_reducible first | exact HB.out | apply below_alloc | apply pw_below_drewN | apply below_drew1 | refine below_set ?_ (IsS29.ge HI0.out)) | exact HB.out), by repeat (first | (with_reducible first | exact HK.out | apply KeepBut.set_ | apply keep_drewN | apply keep_drew | apply keep_alloc) | exact HK.out)⟩

/-! ### parquetrykeep_Tape_Tensor: function 36 -/
def parquetrykeep_Tape_Tensor.l0 : Nat → Int → Int → List Int → Int → List Int → List Int → Option (List Int × List Int × Int)
  | 0, _, _, _, _, _, _ => none
  | k + 1, x11, x12, x1000, x1001, x156000, x156001 => if x12 < x11 then ((parquetrykeep_Tape_Number.f k x1000 x1001).bind fun bt156 => (if 0 ≤ x12 then (if x12 < (x156001.length : Int) then (parquetrykeep_Tape_Tensor.l0 k x11 (wrap64 (x12 + 1)) x1000 bt156.2 x156000 (x156001.set (x12 : Int).toNat bt156.1)) else (none)) else (none))) else (some (x156000, x156001, x1001))
def parquetrykeep_Tape_Tensor.f (k : Nat) (s0_0 : List Int) (s0_1 : Int) (l1 : List Int) : Option (List Int × List Int × Int) := (parquetryref1_Fill.f k l1 0).bind fun bt149 => (parquetrykeep_Tape_Tensor.l0 k (bt149.2.length : Int) 0 s0_0 s0_1 bt149.1 bt149.2)
theorem parquetrykeep_Tape_Tensor.mono_l : ∀ k, (∀ y0 y1 y2 y3 y4 y5, LeO (parquetrykeep_Tape_Tensor.l0 k y0 y1 y2 y3 y4 y5) (parquetrykeep_Tape_Tensor.l0 (k + 1) y0 y1 y2 y3 y4 y5))
  | 0 => fun _ _ _ _ _ _ r h => by simp [parquetrykeep_Tape_Tensor.l0] at h
  | k + 1 => by
    have ih0 := parquetrykeep_Tape_Tensor.mono_l k
    · intro y0 y1 y2 y3 y4 y5
      unfold parquetrykeep_Tape_Tensor.l0
      repeat' first
      | (with_reducible exact ih0 _ _ _ _ _ _)
      | (with_reducible exact parquetrykeep_Tape_Number.mono _ _ _)
      | (with_reducible exact parquetryref1_Fill.mono _ _ _)
      | (with_reducible exact LeO.refl _)
      | (with_reducible exact LeO.none _)
      | (with_reducible refine LeO.ite ?_ ?_)
      | (with_reducible refine LeO.bind ?_ (fun _ => ?_))
      | exact ih0 _ _ _ _ _ _
      | exact parquetrykeep_Tape_Number.mono _ _ _
      | exact parquetryref1_Fill.mono _ _ _
      | exact LeO.none _
      | refine LeO.ite ?_ ?_
      | refine LeO.bind ?_ (fun _ => ?_)
theorem parquetrykeep_Tape_Tensor.mono : ∀ a0 a1 a2 k, LeO (parquetrykeep_Tape_Tensor.f k a0 a1 a2) (parquetrykeep_Tape_Tensor.f (k + 1) a0 a1 a2) := by
  intro a0 a1 a2 k
  have ih0 := parquetrykeep_Tape_Tensor.mono_l k
  unfold parquetrykeep_Tape_Tensor.f
  repeat' first
      | (with_reducible exact ih0 _ _ _ _ _ _)
      | (with_reducible exact parquetrykeep_Tape_Number.mono _ _ _)
      | (with_reducible exact parquetryref1_Fill.mono _ _ _)
      | (with_reducible exact LeO.refl _)
      | (with_reducible exact LeO.none _)
      | (with_reducible refine LeO.ite ?_ ?_)
      | (with_reducible refine LeO.bind ?_ (fun _ => ?_))
      | exact ih0 _ _ _ _ _ _
      | exact parquetrykeep_Tape_Number.mono _ _ _
      | exact parquetryref1_Fill.mono _ _ _
      | exact LeO.none _
      | refine LeO.ite ?_ ?_
      | refine LeO.bind ?_ (fun _ => ?_)
set_option maxHeartbeats 8000000 in
set_option maxRecDepth 100000 in
theorem parquetrykeep_Tape_Tensor.calls (k : Nat) (g : Nat) (s0_0 : List Int) (s0_1 : Int) (A1 : Option Addr) (c1 : Nat) (l1 : List Int) (r1 : List Int) (r2 : List Int) (r3 : Int) (w0 w : World) (hI : IsS29 w0 w g s0_0 s0_1) (hB : Below w0.heap.size w0 w) (hr1 : Kd.C (Kd.int .i64) w A1 l1.length l1) (hc1 : l1.length ≤ c1) (hf1 : ∀ ad, A1 = some ad → 0 < l1.length → ad.block ≠ g) (h : parquetrykeep_Tape_Tensor.f k s0_0 s0_1 l1 = some (r1, r2, r3)) :
    Calls Try.prog 36 #[.pointer (some ⟨g, 0, none⟩), .slice A1 l1.length c1] w fun e w' => ∃ v0_ v1_ : Value, e = .returned (.agg #[v0_, v1_]) ∧ Kd.R (Kd.int .i64) 3 w' w.heap.size (fun _ => True) v0_ r1 ∧ Kd.R (Kd.int .i64) 2 w' w.heap.size (fun _ => True) v1_ r2 ∧ IsS29 w0 w' g s0_0 r3 ∧ Below w0.heap.size w0 w' ∧ KeepBut w w' g none := by
  have hu53 := Try.underlying53
  have HR1 := Aside0.mk hr1
  have HC1 := Aside0.mk hc1
  clear hr1 hc1
  have HI0 := Aside0.mk hI
  have HK := Aside0.mk (KeepBut.refl w g none)
  have HL := Aside0.mk hB.size
  clear hI
  have HW0 := Aside0.mk hB.size
  have HB := Aside0.mk hB
  clear hB
  have H : ((parquetryref1_Fill.f k l1 0).bind fun bt149 => (parquetrykeep_Tape_Tensor.l0 k (bt149.2.length : Int) 0 s0_0 s0_1 bt149.1 bt149.2)) = some (r1, r2, r3) := h
  clear h
  replace H := Option.bind_eq_some_iff.mp H
  obtain ⟨⟨t149, t152⟩, A30, H⟩ := H
  replace H : (parquetrykeep_Tape_Tensor.l0 k (t152.length : Int) 0 s0_0 s0_1 t149 t152) = some (r1, r2, r3) := H
  have A3 := Aside0.mk A30
  clear A30
  have H' := Aside0.mk H
  clear H
  go_enter Try.func36, Try.ntmps36
  go_wp2_with (first | ((with_reducible refine gate_dst (N := 4) rfl ?_); refine box_event ?hg (N := 4) ?hd (cs := #[.slice none 0 0, .slice none 0 0]) (t := 53) ?hr ?_; (case hd => rfl); (case hg => rfl); (case hr => first | (go_simp; done) | (go_simp; rfl)); intro gb148 hg w4 hbox hb; have n0_ := Aside0.mk (IsS29.below (by repeat (first | (with_reducible first | exact HI0.out | apply IsS29.alloc | apply IsS29.drewN | apply IsS29.drew | apply IsS29.set_1) | exact HI0.out)) hb); have n1_ := Aside0.mk (KeepBut.trans (by repeat (first | (with_reducible first | exact HK.out | apply KeepBut.set_ | apply keep_drewN | apply keep_drew | apply keep_alloc) | exact HK.out)) (KeepBut.of_below hb g none) (.inl rfl)); have n2_ := Aside0.mk (below_step (by repeat (first | (with_reducible first | exact HB.out | apply below_alloc | apply pw_below_drewN | apply below_drew1 | refine below_set ?_ (IsS29.ge HI0.out)) | exact HB.out)) hb); have n3_ := Aside0.mk (hbox); have n4_ := Aside0.mk ((by rw [hg]; exact (keep_size (w := w) (g := g) (row := none) (by repeat (first | (with_reducible first | exact HK.out | apply KeepBut.set_ | apply keep_drewN | apply keep_drew | apply keep_alloc) | exact HK.out))) : w.heap.size ≤ gb148)); have n5_ := Aside0.mk ((Nat.le_trans HW0.out (by rw [hg]; exact (keep_size (w := w) (g := g) (row := none) (by repeat (first | (with_reducible first | exact HK.out | apply KeepBut.set_ | apply keep_drewN | apply keep_drew | apply keep_alloc) | exact HK.out))) : w.heap.size ≤ gb148) : w0.heap.size ≤ gb148)); have n6_ := Aside0.mk ((by rw [hg]; exact Nat.ne_of_lt (IsS29.lt (show IsS29 w0 _ g s0_0 s0_1 from by repeat (first | (with_reducible first | exact HI0.out | apply IsS29.alloc | apply IsS29.drewN | apply IsS29.drew | apply IsS29.set_1) | exact HI0.out))) : g ≠ gb148)); have n7_ := Aside0.mk ((by rw [hg]; exact Nat.ne_of_gt (IsS29.lt (show IsS29 w0 _ g s0_0 s0_1 from by repeat (first | (with_reducible first | exact HI0.out | apply IsS29.alloc | apply IsS29.drewN | apply IsS29.drew | apply IsS29.set_1) | exact HI0.out))) : gb148 ≠ g)); clear HI0; clear HK; clear HB; have HI0 := n0_; have HK := n1_; have HB := n2_; have BK148 := n3_; have GW148 := n4_; have GE148 := n5_; have NB0_148 := n6_; have NB148_0 := n7_; clear n0_ n1_ n2_ n3_ n4_ n5_ n6_ n7_; clear hb hbox hg) | ((with_reducible refine gate_callee (f := 45) rfl ?_); refine goesL_ (some 8) rfl rfl Try.func45 (by kernel_rfl) rfl #[.slice A1 l1.length c1, .int .i64 0] rfl (by (try simp only [List.map_toArray, List.map_cons, List.map_nil]); first | done | rfl | (simp only [List.length_drop, List.length_take]; rfl)) ?_; (with_reducible refine (parquetryref1_Fill.calls k _ _ l1 0 t149 t152 _ ?side1 ?side2 A3.out).mono ?_); (case side1 => exact Kd.C_keep 0 HR1.out (by repeat (first | (with_reducible first | exact HK.out | apply KeepBut.set_ | apply keep_drewN | apply keep_drew | apply keep_alloc | refine keep_far ?_ GW148.out _) | exact HK.out)) hf1); (case side2 => exact HC1.out); rintro e w5 ⟨v150, v153, rfl, ho0, ho1, hb⟩; refine ⟨_, rfl, ?_⟩; have n0_ := Aside0.mk (Kd.R_lower ho0 (keep_size (w := w) (g := g) (row := none) (by repeat (first | (with_reducible first | exact HK.out | apply KeepBut.set_ | apply keep_drewN | apply keep_drew | apply keep_alloc | refine keep_far ?_ GW148.out _) | exact HK.out)))); have n1_ := Aside0.mk (Kd.R_lower ho1 (keep_size (w := w) (g := g) (row := none) (by repeat (first | (with_reducible first | exact HK.out | apply KeepBut.set_ | apply keep_drewN | apply keep_drew | apply keep_alloc | refine keep_far ?_ GW148.out _) | exact HK.out)))); have n2_ := Aside0.mk (IsS29.below (by repeat (first | (with_reducible first | exact HI0.out | apply IsS29.alloc | apply IsS29.drewN | apply IsS29.drew | apply IsS29.set_1 | refine IsS29.far ?_ NB0_148.out _) | exact HI0.out)) hb); have n3_ := Aside0.mk (blk_below (g := gb148) (o := .cells #[.slice none 0 0, .slice none 0 0] 53 (0, 0)) (by (with_reducible repeat (first | refine blk_drewN ?_ _ | refine blk_drew ?_ | refine blk_alloc ?_ _)); exact BK148.out) hb); have n4_ := Aside0.mk (KeepBut.trans (by repeat (first | (with_reducible first | exact HK.out | apply KeepBut.set_ | apply keep_drewN | apply keep_drew | apply keep_alloc | refine keep_far ?_ GW148.out _) | exact HK.out)) (KeepBut.of_below hb g none) (.inl rfl)); have n5_ := Aside0.mk (below_step (by repeat (first | (with_reducible first | exact HB.out | apply below_alloc | apply pw_below_drewN | apply below_drew1 | refine below_set ?_ (IsS29.ge HI0.out) | refine below_set ?_ GE148.out) | exact HB.out)) hb); clear HI0; clear BK148; clear HK; clear HB; have HO151 := n0_; have HO154 := n1_; have HI0 := n2_; have BK148 := n3_; have HK := n4_; have HB := n5_; clear n0_ n1_ n2_ n3_ n4_ n5_; (try clear hb); (try clear hb2); (try clear hk); (try clear hi); (try clear ho0); (try clear ho1)) | ((with_reducible refine gate_dst (N := 5) rfl ?_); refine box_event ?hg (N := 5) ?hd (cs := #[.slice none 0 0, .slice none 0 0]) (t := 53) ?hr ?_; (case hd => rfl); (case hg => rfl); (case hr => first | (go_simp; done) | (go_simp; rfl)); intro gb155 hg w6 hbox hb; have n0_ := Aside0.mk (Kd.R_below (by (with_reducible repeat (first | apply Kd.R_alloc | apply Kd.R_drewN | apply Kd.R_drew)); exact HO151.out) hb); have n1_ := Aside0.mk (Kd.R_below (by (with_reducible repeat (first | apply Kd.R_alloc | apply Kd.R_drewN | apply Kd.R_drew)); exact HO154.out) hb); have n2_ := Aside0.mk (IsS29.below (by repeat (first | (with_reducible first | exact HI0.out | apply IsS29.alloc | apply IsS29.drewN | apply IsS29.drew | apply IsS29.set_1 | refine IsS29.far ?_ NB0_148.out _) | exact HI0.out)) hb); have n3_ := Aside0.mk (blk_below (g := gb148) (o := .cells #[.slice none 0 0, .slice none 0 0] 53 (0, 0)) (by (with_reducible repeat (first | refine blk_drewN ?_ _ | refine blk_drew ?_ | refine blk_alloc ?_ _)); exact BK148.out) hb); have n4_ := Aside0.mk (KeepBut.trans (by repeat (first | (with_reducible first | exact HK.out | apply KeepBut.set_ | apply keep_drewN | apply keep_drew | apply keep_alloc | refine keep_far ?_ GW148.out _) | exact HK.out)) (KeepBut.of_below hb g none) (.inl rfl)); have n5_ := Aside0.mk (below_step (by repeat (first | (with_reducible first | exact HB.out | apply below_alloc | apply pw_below_drewN | apply below_drew1 | refine below_set ?_ (IsS29.ge HI0.out) | refine below_set ?_ GE148.out) | exact HB.out)) hb); have n6_ := Aside0.mk (hbox); have n7_ := Aside0.mk ((by rw [hg]; exact (keep_size (w := w) (g := g) (row := none) (by repeat (first | (with_reducible first | exact HK.out | apply KeepBut.set_ | apply keep_drewN | apply keep_drew | apply keep_alloc | refine keep_far ?_ GW148.out _) | exact HK.out))) : w.heap.size ≤ gb155)); have n8_ := Aside0.mk ((Nat.le_trans HW0.out (by rw [hg]; exact (keep_size (w := w) (g := g) (row := none) (by repeat (first | (with_reducible first | exact HK.out | apply KeepBut.set_ | apply keep_drewN | apply keep_drew | apply keep_alloc | refine keep_far ?_ GW148.out _) | exact HK.out))) : w.heap.size ≤ gb155) : w0.heap.size ≤ gb155)); have n9_ := Aside0.mk ((by rw [hg]; exact Nat.ne_of_lt (blk_lt (g := gb148) (o := .cells #[.slice none 0 0, .slice none 0 0] 53 (0, 0)) (by (with_reducible repeat (first | refine blk_drewN ?_ _ | refine blk_drew ?_ | refine blk_alloc ?_ _)); exact BK148.out)) : gb148 ≠ gb155)); have n10_ := Aside0.mk ((by rw [hg]; exact Nat.ne_of_gt (blk_lt (g := gb148) (o := .cells #[.slice none 0 0, .slice none 0 0] 53 (0, 0)) (by (with_reducible repeat (first | refine blk_drewN ?_ _ | refine blk_drew ?_ | refine blk_alloc ?_ _)); exact BK148.out)) : gb155 ≠ gb148)); have n11_ := Aside0.mk ((by rw [hg]; exact Nat.ne_of_lt (IsS29.lt (show IsS29 w0 _ g s0_0 s0_1 from by repeat (first | (with_reducible first | exact HI0.out | apply IsS29.alloc | apply IsS29.drewN | apply IsS29.drew | apply IsS29.set_1 | refine IsS29.far ?_ NB0_148.out _) | exact HI0.out))) : g ≠ gb155)); have n12_ := Aside0.mk ((by rw [hg]; exact Nat.ne_of_gt (IsS29.lt (show IsS29 w0 _ g s0_0 s0_1 from by repeat (first | (with_reducible first | exact HI0.out | apply IsS29.alloc | apply IsS29.drewN | apply IsS29.drew | apply IsS29.set_1 | refine IsS29.far ?_ NB0_148.out _) | exact HI0.out))) : gb155 ≠ g)); clear HO151; clear HO154; clear HI0; clear BK148; clear HK; clear HB; have HO151 := n0_; have HO154 := n1_; have HI0 := n2_; have BK148 := n3_; have HK := n4_; have HB := n5_; have BK155 := n6_; have GW155 := n7_; have GE155 := n8_; have NB148_155 := n9_; have NB155_148 := n10_; have NB0_155 := n11_; have NB155_0 := n12_; clear n0_ n1_ n2_ n3_ n4_ n5_ n6_ n7_ n8_ n9_ n10_ n11_ n12_; clear hb hbox hg; obtain ⟨Ao7, co7, eo7⟩ := Kd.R_slice HO151.out; subst eo7; have hnb8 := NB155_148.out; have hnc8 := NB148_155.out; have hnb9 := NB155_0.out; have hnc9 := NB0_155.out; have hcz10_0 : w6.cell? ⟨gb155, 0, none⟩ = some (.slice none 0 0) := (blk_cell BK155.out 0).trans rfl; have hcz10_1 : w6.cell? ⟨gb155, 1, none⟩ = some (.slice none 0 0) := (blk_cell BK155.out 1).trans rfl; have hfz10_0 := blk_frozen BK155.out 0; have hfz10_1 := blk_frozen BK155.out 1; obtain ⟨Ao11, co11, eo11⟩ := Kd.R_slice HO154.out; subst eo11))
  go_loopg [12] k (fun kq v12 w' => ∃ (x12_1 : Int) (x1001_1 : Int) (x156001_1 : List Int) (u156001 : Value), v12 = .int .i64 x12_1 ∧ Aside0 (parquetrykeep_Tape_Tensor.l0 kq (t152.length : Int) x12_1 s0_0 x1001_1 t149 x156001_1 = some (r1, r2, r3)) ∧ Aside0 (kq ≤ k) ∧ Aside0 (Kd.R (Kd.int .i64) 3 w' w.heap.size (fun _ => True) (.slice Ao7 t149.length co7) t149) ∧ Aside0 (Kd.R (Kd.int .i64) 2 w' w.heap.size (fun _ => True) u156001 x156001_1) ∧ Aside0 (w'.heap[gb148]? = some (.cells #[(.slice none 0 0), (.slice none 0 0)] 53 (0, 0))) ∧ Aside0 (w'.heap[gb155]? = some (.cells #[(.slice Ao7 t149.length co7), u156001] 53 (0, 0))) ∧ Aside0 (IsS29 w0 w' g s0_0 x1001_1) ∧ Aside0 (KeepBut w w' g none) ∧ Aside0 (Below w0.heap.size w0 w'))
  case atStart => exact ⟨(0), (s0_1), (t152), (.slice Ao11 t152.length co11), (by first | rfl | (simp; done) | (simp [*]; done)), H', ⟨Nat.le_refl _⟩, ⟨by (with_reducible repeat (first | apply Kd.R_alloc | apply Kd.R_drewN | apply Kd.R_drew)); exact Kd.R_mono (Kd.R_far (p := ⟨gb155, 1, none⟩) (Kd.R_far (p := ⟨gb155, 0, none⟩) (Kd.R_types HO151.out BK155.out (by decide)) (fun _ hk => hk.2) (.slice Ao7 t149.length co7)) (fun _ hk => hk.2) (.slice Ao11 t152.length co11)) (fun _ hk => trivial)⟩, ⟨by (with_reducible repeat (first | apply Kd.R_alloc | apply Kd.R_drewN | apply Kd.R_drew)); exact Kd.R_mono (Kd.R_far (p := ⟨gb155, 1, none⟩) (Kd.R_far (p := ⟨gb155, 0, none⟩) (Kd.R_types HO154.out BK155.out (by decide)) (fun _ hk => hk.2) (.slice Ao7 t149.length co7)) (fun _ hk => hk.2) (.slice Ao11 t152.length co11)) (fun _ hk => trivial)⟩, ⟨by (with_reducible repeat (first | refine blk_drewN ?_ _ | refine blk_drew ?_ | refine blk_alloc ?_ _)); refine blk_far ?_ NB148_155.out _; (with_reducible repeat (first | refine blk_drewN ?_ _ | refine blk_drew ?_ | refine blk_alloc ?_ _)); refine blk_far ?_ NB148_155.out _; (with_reducible repeat (first | refine blk_drewN ?_ _ | refine blk_drew ?_ | refine blk_alloc ?_ _)); exact BK148.out⟩, ⟨by (with_reducible repeat (first | refine blk_drewN ?_ _ | refine blk_drew ?_ | refine blk_alloc ?_ _)); refine blk_put (cs := #[.slice Ao7 t149.length co7, .slice none 0 0]) ?_ 1 _ rfl; (with_reducible repeat (first | refine blk_drewN ?_ _ | refine blk_drew ?_ | refine blk_alloc ?_ _)); refine blk_put (cs := #[.slice none 0 0, .slice none 0 0]) ?_ 0 _ rfl; (with_reducible repeat (first | refine blk_drewN ?_ _ | refine blk_drew ?_ | refine blk_alloc ?_ _)); exact BK155.out⟩, ⟨by repeat (first | (with_reducible first | exact HI0.out | apply IsS29.alloc | apply IsS29.drewN | apply IsS29.drew | apply IsS29.set_1 | refine IsS29.far ?_ NB0_148.out _ | refine IsS29.far ?_ NB0_155.out _) | exact HI0.out)⟩, ⟨by repeat (first | (with_reducible first | exact HK.out | apply KeepBut.set_ | apply keep_drewN | apply keep_drew | apply keep_alloc | refine keep_far ?_ GW148.out _ | refine keep_far ?_ GW155.out _) | exact HK.out)⟩, ⟨by repeat (first | (with_reducible first | exact HB.out | apply below_alloc | apply pw_below_drewN | apply below_drew1 | refine below_set ?_ (IsS29.ge HI0.out) | refine below_set ?_ GE148.out | refine below_set ?_ GE155.out) | exact HB.out)⟩⟩
  case round =>
    clear H'
    try clear c1
    try clear p2
    try clear c3
    try clear c4
    try clear c8
    try clear c9
    try clear hcz10_0
    try clear hcz10_1
    try clear hfz10_0
    try clear hfz10_1
    obtain ⟨x12_1, x1001_1, x156001_1, u156001, rfl, HA, HK1, HO_156000, HO_156001, BK148, BK155, HI0, HK, HB⟩ := hrel
    cases gk with
    | zero => exact absurd HA.out (by simp [parquetrykeep_Tape_Tensor.l0])
    | succ k1 =>
      have H := HA.out
      clear HA
      simp only [parquetrykeep_Tape_Tensor.l0] at H
      by_cases c12 : x12_1 < (t152.length : Int)
      · rw [if_pos c12] at H
        have c12b0 : decide (x12_1 < (t152.length : Int)) = true := decide_eq_true c12
        clear c12
        replace H := Option.bind_eq_some_iff.mp H
        obtain ⟨⟨t156, t157⟩, A130, H⟩ := H
        replace H : (if 0 ≤ x12_1 then (if x12_1 < (x156001_1.length : Int) then (parquetrykeep_Tape_Tensor.l0 k1 (t152.length : Int) (wrap64 (x12_1 + 1)) s0_0 t157 t149 (x156001_1.set (x12_1 : Int).toNat t156)) else (none)) else (none)) = some (r1, r2, r3) := H
        have A13 := Aside0.mk A130
        clear A130
        by_cases c14 : 0 ≤ x12_1
        · rw [if_pos c14] at H
          have c14b0 : decide (0 ≤ x12_1) = true := decide_eq_true c14
          clear c14
          by_cases c15 : x12_1 < (x156001_1.length : Int)
          · rw [if_pos c15] at H
            have c15b0 : decide (x12_1 < (x156001_1.length : Int)) = true := decide_eq_true c15
            clear c15
            obtain ⟨y158, hy158⟩ : ∃ y_ : List Int, y_ = (x156001_1.set (x12_1 : Int).toNat t156) := ⟨_, rfl⟩
            replace H : (parquetrykeep_Tape_Tensor.l0 k1 (t152.length : Int) (wrap64 (x12_1 + 1)) s0_0 t157 t149 y158) = some (r1, r2, r3) := by first | (rw [hy158]; with_reducible exact H) | (have H2_ := (Option.bind_some _ _).symm.trans H; rw [hy158]; with_reducible exact H2_) | (have H2_ := (Option.bind_some _ _).symm.trans H; with_reducible exact H2_) | with_reducible exact H | (rw [hy158]; exact H) | exact H
            have Ny158 := Aside0.mk hy158
            clear hy158
            have H' := Aside0.mk H
            clear H
            try go_wp2
            have n0_ := Aside0.mk (Kd.R_drew HO_156000.out)
            have n1_ := Aside0.mk (Kd.R_drew HO_156001.out)
            have n2_ := Aside0.mk (blk_drew BK148.out)
            have n3_ := Aside0.mk (blk_drew BK155.out)
            have n4_ := Aside0.mk (IsS29.drew HI0.out)
            have n5_ := Aside0.mk (keep_drew HK.out)
            have n6_ := Aside0.mk (below_drew1 HB.out)
            clear HO_156000
            clear HO_156001
            clear BK148
            clear BK155
            clear HI0
            clear HK
            clear HB
            have HO_156000 := n0_
            have HO_156001 := n1_
            have BK148 := n2_
            have BK155 := n3_
            have HI0 := n4_
            have HK := n5_
            have HB := n6_
            clear n0_ n1_ n2_ n3_ n4_ n5_ n6_
            refine start_ (n := 7) (S := fun w' => w'.cell? ⟨gb155, 0, none⟩ = some (.slice Ao7 t149.length co7) ∧ w'.cell? ⟨gb155, 1, none⟩ = some (u156001)) (ds := [6]) #[false, false, false, false, false, false, false] (by kernel_rfl) rfl rfl ⟨(blk_cell BK155.out 0).trans rfl, (blk_cell BK155.out 1).trans rfl⟩ (fun hHeld => ?_)
            generalize wr.drew = w17 at HO_156000 HO_156001 BK148 BK155 HI0 HK HB hHeld ⊢
            refine pure_ (i := 0) (N := some 15) (v := ?_) (a' := ?_) #[true, false, false, false, false, false, false] rfl rfl (by kernel_rfl) (fun _ _ _ h => h) (Or.inl ⟨by rfl, ?_⟩) ?_ ?_
            rotate_left
            · intro w'
              go_simp
              with_reducible rfl
            rotate_left
            · simp only [Act.put, List.setIfInBounds_toArray, List.set_cons_zero, List.set_cons_succ, i64_w, i32_w]
              rfl
            refine pure_ (i := 2) (N := some 17) (v := ?_) (a' := ?_) #[true, false, true, false, false, false, false] rfl rfl (by kernel_rfl) (fun _ _ _ h => h) (Or.inl ⟨by rfl, ?_⟩) ?_ ?_
            rotate_left
            · intro w'
              go_simp
              with_reducible rfl
            rotate_left
            · simp only [Act.put, List.setIfInBounds_toArray, List.set_cons_zero, List.set_cons_succ, i64_w, i32_w]
              rfl
            refine pure_ (i := 3) (N := some 18) (v := ?_) (a' := ?_) #[true, false, true, true, false, false, false] rfl rfl (by kernel_rfl) (fun _ _ _ h => h) (Or.inl ⟨by rfl, ?_⟩) ?_ ?_
            rotate_left
            · intro w'
              go_simp
              with_reducible rfl
            rotate_left
            · simp only [Act.put, List.setIfInBounds_toArray, List.set_cons_zero, List.set_cons_succ, i64_w, i32_w]
              rfl
            refine take_ (i := 1) (N := some 16) (v := ?_) (a' := ?_) #[true, true, true, true, false, false, false] rfl rfl (by kernel_rfl) (fun _ _ _ h => h) (Or.inl ⟨by rfl, ?_⟩) hHeld ?_ ?_
            rotate_left
            · rintro w' ⟨s0, s1⟩
              go_simp
              with_reducible rfl
            rotate_left
            · simp only [Act.put, List.setIfInBounds_toArray, List.set_cons_zero, List.set_cons_succ, i64_w, i32_w]
              rfl
            refine one_ (i := 4) (N := some 19) #[true, true, true, true, true, false, false] rfl rfl (by kernel_rfl) (by decide) (fun K hK => ?_)
            refine goes_ Try.func71 (by kernel_rfl) rfl #[.pointer (some ⟨g, 0, none⟩)] (by rfl) rfl rfl (by (try simp only [List.map_toArray, List.map_cons, List.map_nil]); first | done | rfl | (simp only [List.length_drop, List.length_take]; rfl)) ?_
            with_reducible refine (parquetrykeep_Tape_Number.calls k1 g s0_0 x1001_1 t156 t157 w0 _ ?side1 ?side2 A13.out).mono ?_
            (case side1 => repeat (first | (with_reducible first | exact HI0.out | apply IsS29.alloc | apply IsS29.drewN | apply IsS29.drew | apply IsS29.set_1 | refine IsS29.far ?_ NB0_148.out _ | refine IsS29.far ?_ NB0_155.out _) | exact HI0.out))
            (case side2 => repeat (first | (with_reducible first | exact HB.out | apply below_alloc | apply pw_below_drewN | apply below_drew1 | refine below_set ?_ (IsS29.ge HI0.out) | refine below_set ?_ GE148.out | refine below_set ?_ GE155.out) | exact HB.out))
            rintro e w18 ⟨rfl, hi, hb, hk⟩
            refine ⟨_, rfl, ?_⟩
            have n0_ := Aside0.mk (Kd.R_mono (Kd.R_keep (IsS29.apart (show IsS29 w0 _ g s0_0 x1001_1 from by repeat (first | (with_reducible first | exact HI0.out | apply IsS29.alloc | apply IsS29.drewN | apply IsS29.drew | apply IsS29.set_1 | refine IsS29.far ?_ NB0_148.out _ | refine IsS29.far ?_ NB0_155.out _) | exact HI0.out)) (by (with_reducible repeat (first | apply Kd.R_alloc | apply Kd.R_drewN | apply Kd.R_drew)); exact HO_156000.out) (by decide)) hk (fun _ h => h.2)) (fun _ h => h.1))
            have n1_ := Aside0.mk (Kd.R_mono (Kd.R_keep (IsS29.apart (show IsS29 w0 _ g s0_0 x1001_1 from by repeat (first | (with_reducible first | exact HI0.out | apply IsS29.alloc | apply IsS29.drewN | apply IsS29.drew | apply IsS29.set_1 | refine IsS29.far ?_ NB0_148.out _ | refine IsS29.far ?_ NB0_155.out _) | exact HI0.out)) (by (with_reducible repeat (first | apply Kd.R_alloc | apply Kd.R_drewN | apply Kd.R_drew)); exact HO_156001.out) (by decide)) hk (fun _ h => h.2)) (fun _ h => h.1))
            have n2_ := Aside0.mk (KeepBut.blk hk (g' := gb148) (o := .cells #[.slice none 0 0, .slice none 0 0] 53 (0, 0)) (by (with_reducible repeat (first | refine blk_drewN ?_ _ | refine blk_drew ?_ | refine blk_alloc ?_ _)); exact BK148.out) NB148_0.out (by simp))
            have n3_ := Aside0.mk (KeepBut.blk hk (g' := gb155) (o := .cells #[.slice Ao7 t149.length co7, u156001] 53 (0, 0)) (by (with_reducible repeat (first | refine blk_drewN ?_ _ | refine blk_drew ?_ | refine blk_alloc ?_ _)); exact BK155.out) NB155_0.out (by simp))
            have n4_ := Aside0.mk (KeepBut.trans (by repeat (first | (with_reducible first | exact HK.out | apply KeepBut.set_ | apply keep_drewN | apply keep_drew | apply keep_alloc | refine keep_far ?_ GW148.out _ | refine keep_far ?_ GW155.out _) | exact HK.out)) hk (.inl rfl))
            have n5_ := Aside0.mk (hb)
            have n6_ := Aside0.mk (hi)
            clear HO_156000
            clear HO_156001
            clear BK148
            clear BK155
            clear HK
            clear HB
            clear HI0
            have HO_156000 := n0_
            have HO_156001 := n1_
            have BK148 := n2_
            have BK155 := n3_
            have HK := n4_
            have HB := n5_
            have HI0 := n6_
            clear n0_ n1_ n2_ n3_ n4_ n5_ n6_
            (try clear hb)
            (try clear hb2)
            (try clear hk)
            (try clear hi)
            have p16 : 0 ≤ (x12_1 : Int) := of_decide_eq_true (by first | (with_reducible assumption) | assumption)
            have q16 : (x12_1 : Int) < ((x156001_1.length : Int) : Int) := of_decide_eq_true (by first | (with_reducible assumption) | assumption)
            obtain ⟨go16, co16, eo16, gb16, gl16, cl16, HG16⟩ := Kd.R_form HO_156001.out (by omega)
            (first | cases eo16 | (injection eo16 with ea_ en_ ec_; (first | subst ea_ | (injection ea_ with ea_; subst ea_)); subst ec_; clear en_))
            have GB16 := Aside0.mk gb16
            have GG16 := Aside0.mk HG16
            clear gb16 gl16 HG16
            obtain ⟨hx16_0, hf16_0⟩ := Kd.R_celln 0 HO_156001.out (x12_1 : Int) p16 q16
            replace p16 := eq_true p16
            replace q16 := eq_true q16
            have HN0_go16 := Aside0.mk (show g ≠ go16 from by have h_ := IsS29.own_ne HI0.out HO_156001.out (by decide); intro e_; exact h_ (by rw [e_]; rfl))
            have HP19 := Kd.R_putn HO_156001.out (x12_1 : Int) t156
            rw [← Ny158.out] at HP19
            have HQ19 := Aside0.mk HP19
            clear HP19
            refine hK.out _ _ ⟨(blk_cell BK155.out 0).trans rfl, (blk_cell BK155.out 1).trans rfl⟩ (fun hHeld => ?_)
            clear hK K
            refine norm_ (a' := ?_) ?_ ?_
            rotate_left
            · show Act.put _ (some 19) _ = _
              simp only [Act.put, List.setIfInBounds_toArray, List.set_cons_zero, List.set_cons_succ, i64_w, i32_w]
              rfl
            refine pure_ (i := 5) (N := some 20) (v := ?_) (a' := ?_) #[true, true, true, true, true, true, false] rfl rfl (by kernel_rfl) (fun _ _ _ h => h) (Or.inl ⟨by rfl, ?_⟩) ?_ ?_
            rotate_left
            · intro w'
              go_simp
              with_reducible rfl
            rotate_left
            · simp only [Act.put, List.setIfInBounds_toArray, List.set_cons_zero, List.set_cons_succ, i64_w, i32_w]
              rfl
            refine last_ (i := 6) (N := none) #[true, true, true, true, true, true, true] rfl rfl (by kernel_rfl) (by decide) (fun K hK => ?_)
            refine skip_ (w1 := ?_) (by rfl) rfl ?_ ?_
            rotate_left
            · go_simp
              rfl
            refine hK.out _ _ ?_
            clear hK K
            refine done_ (by kernel_rfl) ?_
            try go_wp2
            go_roundg k1
            case measure => have := HK1.out; omega
            case rel => exact ⟨(wrap64 (x12_1 + 1)), (t157), (y158), (.slice (some ⟨go16, 0, none⟩) x156001_1.length co16), (by first | rfl | (simp; done) | (simp [*]; done)), H', ⟨by have := HK1.out; omega⟩, ⟨by (with_reducible repeat (first | apply Kd.R_alloc | apply Kd.R_drewN | apply Kd.R_drew)); exact Kd.R_mono (Kd.R_far (p := ⟨go16, (x12_1 : Int).toNat, none⟩) (Kd.R_types HO_156000.out GG16.out (by decide)) (fun _ hk => hk.2) (.int .i64 t156)) (fun _ hk => trivial)⟩, ⟨by (with_reducible repeat (first | apply Kd.R_alloc | apply Kd.R_drewN | apply Kd.R_drew)); exact HQ19.out⟩, ⟨by (with_reducible repeat (first | refine blk_drewN ?_ _ | refine blk_drew ?_ | refine blk_alloc ?_ _)); refine blk_far ?_ (by have h_ := Kd.R_ne HO_156001.out BK148.out (by decide); intro e_; exact h_ (by rw [e_]; rfl)) _; (with_reducible repeat (first | refine blk_drewN ?_ _ | refine blk_drew ?_ | refine blk_alloc ?_ _)); exact BK148.out⟩, ⟨by (with_reducible repeat (first | refine blk_drewN ?_ _ | refine blk_drew ?_ | refine blk_alloc ?_ _)); refine blk_far ?_ (by have h_ := Kd.R_ne HO_156001.out BK155.out (by decide); intro e_; exact h_ (by rw [e_]; rfl)) _; (with_reducible repeat (first | refine blk_drewN ?_ _ | refine blk_drew ?_ | refine blk_alloc ?_ _)); exact BK155.out⟩, ⟨by repeat (first | (with_reducible first | exact HI0.out | apply IsS29.alloc | apply IsS29.drewN | apply IsS29.drew | apply IsS29.set_1 | refine IsS29.far ?_ HN0_go16.out _ | refine IsS29.far ?_ NB0_148.out _ | refine IsS29.far ?_ NB0_155.out _) | exact HI0.out)⟩, ⟨by repeat (first | (with_reducible first | exact HK.out | apply KeepBut.set_ | apply keep_drewN | apply keep_drew | apply keep_alloc | refine keep_far ?_ GB16.out _ | refine keep_far ?_ GW148.out _ | refine keep_far ?_ GW155.out _) | exact HK.out)⟩, ⟨by repeat (first | (with_reducible first | exact HB.out | apply below_alloc | apply pw_below_drewN | apply below_drew1 | refine below_set ?_ (Nat.le_trans HL.out GB16.out) | refine below_set ?_ (IsS29.ge HI0.out) | refine below_set ?_ GE148.out | refine below_set ?_ GE155.out) | exact HB.out)⟩⟩
          · rw [if_neg c15] at H
            exact absurd H (by simp)
        · rw [if_neg c14] at H
          exact absurd H (by simp)
      · rw [if_neg c12] at H
        have c12b0 : decide (x12_1 < (t152.length : Int)) = false := decide_eq_false c12
        clear c12
        simp only [Option.some.injEq, Prod.mk.injEq] at H
        obtain ⟨rfl, rfl, rfl⟩ := H
        have hnb20 := NB155_148.out
        have hnc20 := NB148_155.out
        have hnb21 := NB155_0.out
        have hnc21 := NB0_155.out
        have hcz22_0 : wr.cell? ⟨gb155, 0, none⟩ = some (.slice Ao7 t149.length co7) := (blk_cell BK155.out 0).trans rfl
        have hcz22_1 : wr.cell? ⟨gb155, 1, none⟩ = some (u156001) := (blk_cell BK155.out 1).trans rfl
        have hfz22_0 := blk_frozen BK155.out 0
        have hfz22_1 := blk_frozen BK155.out 1
        have hnb23 := NB148_0.out
        have hnc23 := NB0_148.out
        have hcz24_0 : wr.cell? ⟨gb148, 0, none⟩ = some (.slice none 0 0) := (blk_cell BK148.out 0).trans rfl
        have hcz24_1 : wr.cell? ⟨gb148, 1, none⟩ = some (.slice none 0 0) := (blk_cell BK148.out 1).trans rfl
        have hfz24_0 := blk_frozen BK148.out 0
        have hfz24_1 := blk_frozen BK148.out 1
        obtain ⟨Ao25, co25, eo25⟩ := Kd.R_slice HO_156001.out
        subst eo25
        go_wp2
        refine bodyPost_ret (results_cell_row rfl _ _ gb148 53 #[.slice Ao7 t149.length co7, .slice Ao25 x156001_1.length co25] (0, 0) _ rfl (by (with_reducible repeat (first | refine blk_drewN ?_ _ | refine blk_drew ?_ | refine blk_alloc ?_ _)); refine blk_put (cs := #[.slice Ao7 t149.length co7, .slice none 0 0]) ?_ 1 _ rfl; (with_reducible repeat (first | refine blk_drewN ?_ _ | refine blk_drew ?_ | refine blk_alloc ?_ _)); refine blk_put (cs := #[.slice none 0 0, .slice none 0 0]) ?_ 0 _ rfl; (with_reducible repeat (first | refine blk_drewN ?_ _ | refine blk_drew ?_ | refine blk_alloc ?_ _)); exact BK148.out) Try.underlying53 rfl (by kernel_rfl)) rfl ?_
        exact ⟨_, _, by first | rfl | (simp [errW_none, errW_some] <;> rfl) | (simp [*, errW_none, errW_some] <;> rfl), by (with_reducible repeat (first | apply Kd.R_alloc | apply Kd.R_drewN | apply Kd.R_drew)); exact Kd.R_mono (Kd.R_far (p := ⟨gb148, 1, none⟩) (Kd.R_far (p := ⟨gb148, 0, none⟩) (Kd.R_types HO_156000.out BK148.out (by decide)) (fun _ hk => hk.2) (.slice Ao7 t149.length co7)) (fun _ hk => hk.2) (.slice Ao25 x156001_1.length co25)) (fun _ hk => trivial), by (with_reducible repeat (first | apply Kd.R_alloc | apply Kd.R_drewN | apply Kd.R_drew)); exact Kd.R_mono (Kd.R_far (p := ⟨gb148, 1, none⟩) (Kd.R_far (p := ⟨gb148, 0, none⟩) (Kd.R_types HO_156001.out BK148.out (by decide)) (fun _ hk => hk.2) (.slice Ao7 t149.length co7)) (fun _ hk => hk.2) (.slice Ao25 x156001_1.length co25)) (fun _ hk => trivial), by repeat (first | (with_reducible first | exact HI0.out | apply IsS29.alloc | apply IsS29.drewN | apply IsS29.drew | apply IsS29.set_1 | refine IsS29.far ?_ NB0_148.out _ | refine IsS29.far ?_ NB0_155.out _) | exact HI0.out), by repeat (first | (with_reducible first | exact HB.out | apply below_alloc | apply pw_below_drewN | apply below_drew1 | refine below_set ?_ (IsS29.ge HI0.out) | refine below_set ?_ GE148.out | refine below_set ?_ GE155.out) | exact HB.out), by repeat (first | (with_reducible first | exact HK.out | apply KeepBut.set_ | apply keep_drewN | apply keep_drew | apply keep_alloc | refine keep_far ?_ GW148.out _ | refine keep_far ?_ GW155.out _) | exact HK.out)⟩

end Go.Proofs.Ythkcceknccdmpaa.Q
