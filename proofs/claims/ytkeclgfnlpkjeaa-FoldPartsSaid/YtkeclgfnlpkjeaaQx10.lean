-- Printed by a program (a variant of the kit print, with contracts of our own).
import Derived.Test.YtkeclgfnlpkjeaaQx0
import Derived.Test.YtkeclgfnlpkjeaaQx5
import Derived.Test.YtkeclgfnlpkjeaaQx9
namespace Go.Proofs.Ytkeclgfnlpkjeaa.Q
open Go.RowKit Go.Proofs.YtkeclgfnlpkjeaaW.PrintWords Go.Proofs.YtkeclgfnlpkjeaaW.PrintLast Go.Proofs.YtkeclgfnlpkjeaaW.PrintMore
attribute [local go_sem] max2_int min2_int max_two min_two max_three min_three max_four min_four   -- for this text's walks alone
set_option linter.unusedVariables false
set_option linter.unusedSimpArgs false

/-! ### parquetrykeep_Tape_Tensor: function 25 -/
def parquetrykeep_Tape_Tensor.l0 : Nat → Int → Int → List Int → Int → List Int → List Int → Option (List Int × List Int × Int)
  | 0, _, _, _, _, _, _ => none
  | k + 1, x11, x12, x1000, x1001, x276000, x276001 => if x12 < x11 then ((parquetrykeep_Tape_Number.f k x1000 x1001).bind fun bt276 => (if 0 ≤ x12 then (if x12 < (x276001.length : Int) then (parquetrykeep_Tape_Tensor.l0 k x11 (wrap64 (x12 + 1)) x1000 bt276.2 x276000 (x276001.set (x12 : Int).toNat bt276.1)) else (none)) else (none))) else (some (x276000, x276001, x1001))
def parquetrykeep_Tape_Tensor.f (k : Nat) (s0_0 : List Int) (s0_1 : Int) (l1 : List Int) : Option (List Int × List Int × Int) := (parquetryref1_Fill.f k l1 0).bind fun bt269 => (parquetrykeep_Tape_Tensor.l0 k (bt269.2.length : Int) 0 s0_0 s0_1 bt269.1 bt269.2)
theorem parquetrykeep_Tape_Tensor.mono_l : ∀ k, (∀ y0 y1 y2 y3 y4 y5, LeO (parquetrykeep_Tape_Tensor.l0 k y0 y1 y2 y3 y4 y5) (parquetrykeep_Tape_Tensor.l0 (k + 1) y0 y1 y2 y3 y4 y5))
  | 0 => fun _ _ _ _ _ _ r h => by simp [parquetrykeep_Tape_Tensor.l0] at h
  | k + 1 => by
    have ih0 := parquetrykeep_Tape_Tensor.mono_l k
    · intro y0 y1 y2 y3 y4 y5
      unfold parquetrykeep_Tape_Tensor.l0
      repeat' first | (with_reducible first | exact ih0 _ _ _ _ _ _ | exact parquetrykeep_Tape_Number.mono _ _ _ | exact parquetryref1_Fill.mono _ _ _ | exact LeO.refl _ | exact LeO.none _ | refine LeO.ite ?_ ?_ | refine LeO.bind ?_ (fun _ => ?_)) | exact ih0 _ _ _ _ _ _ | exact LeO.none _ | refine LeO.ite ?_ ?_ | refine LeO.bind ?_ (fun _ => ?_)
theorem parquetrykeep_Tape_Tensor.mono : ∀ a0 a1 a2 k, LeO (parquetrykeep_Tape_Tensor.f k a0 a1 a2) (parquetrykeep_Tape_Tensor.f (k + 1) a0 a1 a2) := by
  intro a0 a1 a2 k
  have ih0 := parquetrykeep_Tape_Tensor.mono_l k
  unfold parquetrykeep_Tape_Tensor.f
  repeat' first | (with_reducible first | exact ih0 _ _ _ _ _ _ | exact parquetrykeep_Tape_Number.mono _ _ _ | exact parquetryref1_Fill.mono _ _ _ | exact LeO.refl _ | exact LeO.none _ | refine LeO.ite ?_ ?_ | refine LeO.bind ?_ (fun _ => ?_)) | exact ih0 _ _ _ _ _ _ | exact LeO.none _ | refine LeO.ite ?_ ?_ | refine LeO.bind ?_ (fun _ => ?_)

set_option maxHeartbeats 8000000 in
set_option maxRecDepth 100000 in
theorem parquetrykeep_Tape_Tensor.calls (k : Nat) (g : Nat) (s0_0 : List Int) (s0_1 : Int) (A1 : Option Addr) (c1 : Nat) (l1 : List Int) (r1 : List Int) (r2 : List Int) (r3 : Int) (w0 w : World) (hI : IsS32 w0 w g s0_0 s0_1) (hB : Below w0.heap.size w0 w) (hr1 : Kd.C (Kd.int .i64) w A1 l1.length l1) (hc1 : l1.length ≤ c1) (hf1 : ∀ ad, A1 = some ad → 0 < l1.length → ad.block ≠ g) (h : parquetrykeep_Tape_Tensor.f k s0_0 s0_1 l1 = some (r1, r2, r3)) :
    Calls Try.prog 25 #[.pointer (some ⟨g, 0, none⟩), .slice A1 l1.length c1] w fun e w' => ∃ v0_ v1_ : Value, e = .returned (.agg #[v0_, v1_]) ∧ Kd.R (Kd.int .i64) 3 w' w.heap.size (fun _ => True) v0_ r1 ∧ Kd.R (Kd.int .i64) 2 w' w.heap.size (fun _ => True) v1_ r2 ∧ IsS32 w0 w' g s0_0 r3 ∧ Below w0.heap.size w0 w' ∧ KeepBut w w' g none := by
  (have hu27 := Try.underlying27); (have HR1 := Aside0.mk hr1); (have HC1 := Aside0.mk hc1); (clear hr1 hc1); (have HI0 := Aside0.mk hI); (have HK := Aside0.mk (KeepBut.refl w g none)); (have HL := Aside0.mk hB.size); (clear hI); (have HW0 := Aside0.mk hB.size); (have HB := Aside0.mk hB); (clear hB); (have H : ((parquetryref1_Fill.f k l1 0).bind fun bt269 => (parquetrykeep_Tape_Tensor.l0 k (bt269.2.length : Int) 0 s0_0 s0_1 bt269.1 bt269.2)) = some (r1, r2, r3) := h); (clear h); (replace H := Option.bind_eq_some_iff.mp H); (obtain ⟨⟨t269, t272⟩, A30, H⟩ := H); (replace H : (parquetrykeep_Tape_Tensor.l0 k (t272.length : Int) 0 s0_0 s0_1 t269 t272) = some (r1, r2, r3) := H); (have A3 := Aside0.mk A30); (clear A30); (have H' := Aside0.mk H); (clear H); (go_enter Try.func25, Try.ntmps25); (go_wp2_with (first | ((with_reducible refine gate_dst (N := 4) rfl ?_); refine box_event ?hg (N := 4) ?hd (cs := #[.slice none 0 0, .slice none 0 0]) (t := 27) ?hr ?_; (case hd => rfl); (case hg => rfl); (case hr => first | (go_simp; done) | (go_simp; rfl)); intro gb268 hg w4 hbox hb; have n0_ := Aside0.mk (IsS32.below (by repeat (first | (with_reducible first | exact HI0.out | apply IsS32.alloc | apply IsS32.drewN | apply IsS32.drew | apply IsS32.set_1) | exact HI0.out)) hb); have n1_ := Aside0.mk (KeepBut.trans (by repeat (first | (with_reducible first | exact HK.out | apply KeepBut.set_ | apply keep_drewN | apply keep_drew | apply keep_alloc) | exact HK.out)) (KeepBut.of_below hb g none) (.inl rfl)); have n2_ := Aside0.mk (below_step (by repeat (first | (with_reducible first | exact HB.out | apply below_alloc | apply pw_below_drewN | apply below_drew1 | refine below_set ?_ (IsS32.ge HI0.out)) | exact HB.out)) hb); have n3_ := Aside0.mk (hbox); have n4_ := Aside0.mk ((by rw [hg]; exact (keep_size (w := w) (g := g) (row := none) (by repeat (first | (with_reducible first | exact HK.out | apply KeepBut.set_ | apply keep_drewN | apply keep_drew | apply keep_alloc) | exact HK.out))) : w.heap.size ≤ gb268)); have n5_ := Aside0.mk ((Nat.le_trans HW0.out (by rw [hg]; exact (keep_size (w := w) (g := g) (row := none) (by repeat (first | (with_reducible first | exact HK.out | apply KeepBut.set_ | apply keep_drewN | apply keep_drew | apply keep_alloc) | exact HK.out))) : w.heap.size ≤ gb268) : w0.heap.size ≤ gb268)); have n6_ := Aside0.mk ((by rw [hg]; exact Nat.ne_of_lt (IsS32.lt (show IsS32 w0 _ g s0_0 s0_1 from by repeat (first | (with_reducible first | exact HI0.out | apply IsS32.alloc | apply IsS32.drewN | apply IsS32.drew | apply IsS32.set_1) | exact HI0.out))) : g ≠ gb268)); have n7_ := Aside0.mk ((by rw [hg]; exact Nat.ne_of_gt (IsS32.lt (show IsS32 w0 _ g s0_0 s0_1 from by repeat (first | (with_reducible first | exact HI0.out | apply IsS32.alloc | apply IsS32.drewN | apply IsS32.drew | apply IsS32.set_1) | exact HI0.out))) : gb268 ≠ g)); clear HI0; clear HK; clear HB; have HI0 := n0_; have HK := n1_; have HB := n2_; have BK268 := n3_; have GW268 := n4_; have GE268 := n5_; have NB0_268 := n6_; have NB268_0 := n7_; clear n0_ n1_ n2_ n3_ n4_ n5_ n6_ n7_; clear hb hbox hg) | ((with_reducible refine gate_callee (f := 29) rfl ?_); refine goesL_ (some 8) rfl rfl Try.func29 (by kernel_rfl) rfl #[.slice A1 l1.length c1, .int .i64 0] rfl (by (try simp only [List.map_toArray, List.map_cons, List.map_nil]); first | done | rfl | (simp only [List.length_drop, List.length_take]; rfl)) ?_; (with_reducible refine (parquetryref1_Fill.calls k _ _ l1 0 t269 t272 _ ?side1 ?side2 A3.out).mono ?_); (case side1 => exact Kd.C_keep 0 HR1.out (by repeat (first | (with_reducible first | exact HK.out | apply KeepBut.set_ | apply keep_drewN | apply keep_drew | apply keep_alloc | refine keep_far ?_ GW268.out _) | exact HK.out)) hf1); (case side2 => exact HC1.out); rintro e w5 ⟨v270, v273, rfl, ho0, ho1, hb⟩; refine ⟨_, rfl, ?_⟩; have n0_ := Aside0.mk (Kd.R_lower ho0 (keep_size (w := w) (g := g) (row := none) (by repeat (first | (with_reducible first | exact HK.out | apply KeepBut.set_ | apply keep_drewN | apply keep_drew | apply keep_alloc | refine keep_far ?_ GW268.out _) | exact HK.out)))); have n1_ := Aside0.mk (Kd.R_lower ho1 (keep_size (w := w) (g := g) (row := none) (by repeat (first | (with_reducible first | exact HK.out | apply KeepBut.set_ | apply keep_drewN | apply keep_drew | apply keep_alloc | refine keep_far ?_ GW268.out _) | exact HK.out)))); have n2_ := Aside0.mk (IsS32.below (by repeat (first | (with_reducible first | exact HI0.out | apply IsS32.alloc | apply IsS32.drewN | apply IsS32.drew | apply IsS32.set_1 | refine IsS32.far ?_ NB0_268.out _) | exact HI0.out)) hb); have n3_ := Aside0.mk (bB_ BK268.out hb); have n4_ := Aside0.mk (KeepBut.trans (by repeat (first | (with_reducible first | exact HK.out | apply KeepBut.set_ | apply keep_drewN | apply keep_drew | apply keep_alloc | refine keep_far ?_ GW268.out _) | exact HK.out)) (KeepBut.of_below hb g none) (.inl rfl)); have n5_ := Aside0.mk (below_step (by repeat (first | (with_reducible first | exact HB.out | apply below_alloc | apply pw_below_drewN | apply below_drew1 | refine below_set ?_ (IsS32.ge HI0.out) | refine below_set ?_ GE268.out) | exact HB.out)) hb); clear HI0; clear BK268; clear HK; clear HB; have HO271 := n0_; have HO274 := n1_; have HI0 := n2_; have BK268 := n3_; have HK := n4_; have HB := n5_; clear n0_ n1_ n2_ n3_ n4_ n5_; (try clear hb); (try clear hb2); (try clear hk); (try clear hi); (try clear ho0); (try clear ho1)) | ((with_reducible refine gate_dst (N := 5) rfl ?_); refine box_event ?hg (N := 5) ?hd (cs := #[.slice none 0 0, .slice none 0 0]) (t := 27) ?hr ?_; (case hd => rfl); (case hg => rfl); (case hr => first | (go_simp; done) | (go_simp; rfl)); intro gb275 hg w6 hbox hb; have n0_ := Aside0.mk (Kd.R_below (nR_ HO271.out) hb); have n1_ := Aside0.mk (Kd.R_below (nR_ HO274.out) hb); have n2_ := Aside0.mk (IsS32.below (by repeat (first | (with_reducible first | exact HI0.out | apply IsS32.alloc | apply IsS32.drewN | apply IsS32.drew | apply IsS32.set_1 | refine IsS32.far ?_ NB0_268.out _) | exact HI0.out)) hb); have n3_ := Aside0.mk (bB_ BK268.out hb); have n4_ := Aside0.mk (KeepBut.trans (by repeat (first | (with_reducible first | exact HK.out | apply KeepBut.set_ | apply keep_drewN | apply keep_drew | apply keep_alloc | refine keep_far ?_ GW268.out _) | exact HK.out)) (KeepBut.of_below hb g none) (.inl rfl)); have n5_ := Aside0.mk (below_step (by repeat (first | (with_reducible first | exact HB.out | apply below_alloc | apply pw_below_drewN | apply below_drew1 | refine below_set ?_ (IsS32.ge HI0.out) | refine below_set ?_ GE268.out) | exact HB.out)) hb); have n6_ := Aside0.mk (hbox); have n7_ := Aside0.mk ((by rw [hg]; exact (keep_size (w := w) (g := g) (row := none) (by repeat (first | (with_reducible first | exact HK.out | apply KeepBut.set_ | apply keep_drewN | apply keep_drew | apply keep_alloc | refine keep_far ?_ GW268.out _) | exact HK.out))) : w.heap.size ≤ gb275)); have n8_ := Aside0.mk ((Nat.le_trans HW0.out (by rw [hg]; exact (keep_size (w := w) (g := g) (row := none) (by repeat (first | (with_reducible first | exact HK.out | apply KeepBut.set_ | apply keep_drewN | apply keep_drew | apply keep_alloc | refine keep_far ?_ GW268.out _) | exact HK.out))) : w.heap.size ≤ gb275) : w0.heap.size ≤ gb275)); have n9_ := Aside0.mk ((by rw [hg]; exact Nat.ne_of_lt (bL_ BK268.out) : gb268 ≠ gb275)); have n10_ := Aside0.mk ((by rw [hg]; exact Nat.ne_of_gt (bL_ BK268.out) : gb275 ≠ gb268)); have n11_ := Aside0.mk ((by rw [hg]; exact Nat.ne_of_lt (IsS32.lt (show IsS32 w0 _ g s0_0 s0_1 from by repeat (first | (with_reducible first | exact HI0.out | apply IsS32.alloc | apply IsS32.drewN | apply IsS32.drew | apply IsS32.set_1 | refine IsS32.far ?_ NB0_268.out _) | exact HI0.out))) : g ≠ gb275)); have n12_ := Aside0.mk ((by rw [hg]; exact Nat.ne_of_gt (IsS32.lt (show IsS32 w0 _ g s0_0 s0_1 from by repeat (first | (with_reducible first | exact HI0.out | apply IsS32.alloc | apply IsS32.drewN | apply IsS32.drew | apply IsS32.set_1 | refine IsS32.far ?_ NB0_268.out _) | exact HI0.out))) : gb275 ≠ g)); clear HO271; clear HO274; clear HI0; clear BK268; clear HK; clear HB; have HO271 := n0_; have HO274 := n1_; have HI0 := n2_; have BK268 := n3_; have HK := n4_; have HB := n5_; have BK275 := n6_; have GW275 := n7_; have GE275 := n8_; have NB268_275 := n9_; have NB275_268 := n10_; have NB0_275 := n11_; have NB275_0 := n12_; clear n0_ n1_ n2_ n3_ n4_ n5_ n6_ n7_ n8_ n9_ n10_ n11_ n12_; clear hb hbox hg; obtain ⟨Ao7, co7, eo7⟩ := Kd.R_slice HO271.out; subst eo7; have hnb8 := NB275_268.out; have hnc8 := NB268_275.out; have hnb9 := NB275_0.out; have hnc9 := NB0_275.out; have hcz10_0 : w6.cell? ⟨gb275, 0, none⟩ = some (.slice none 0 0) := (blk_cell BK275.out 0).trans rfl; have hcz10_1 : w6.cell? ⟨gb275, 1, none⟩ = some (.slice none 0 0) := (blk_cell BK275.out 1).trans rfl; have hfz10_0 := blk_frozen BK275.out 0; have hfz10_1 := blk_frozen BK275.out 1; obtain ⟨Ao11, co11, eo11⟩ := Kd.R_slice HO274.out; subst eo11))); (go_loopg [12] k (fun kq v12 w' => ∃ (x12_1 : Int) (x1001_1 : Int) (x276001_1 : List Int) (u276001 : Value), v12 = .int .i64 x12_1 ∧ Aside0 (parquetrykeep_Tape_Tensor.l0 kq (t272.length : Int) x12_1 s0_0 x1001_1 t269 x276001_1 = some (r1, r2, r3)) ∧ Aside0 (kq ≤ k) ∧ Aside0 (Kd.R (Kd.int .i64) 3 w' w.heap.size (fun _ => True) (.slice Ao7 t269.length co7) t269) ∧ Aside0 (Kd.R (Kd.int .i64) 2 w' w.heap.size (fun _ => True) u276001 x276001_1) ∧ Aside0 (w'.heap[gb268]? = some (.cells #[(.slice none 0 0), (.slice none 0 0)] 27 (0, 0))) ∧ Aside0 (w'.heap[gb275]? = some (.cells #[(.slice Ao7 t269.length co7), u276001] 27 (0, 0))) ∧ Aside0 (IsS32 w0 w' g s0_0 x1001_1) ∧ Aside0 (KeepBut w w' g none) ∧ Aside0 (Below w0.heap.size w0 w'))); (case atStart => exact ⟨(0), (s0_1), (t272), (.slice Ao11 t272.length co11), (by first | rfl | (simp; done) | (simp [*]; done)), H', ⟨Nat.le_refl _⟩, ⟨by (with_reducible repeat (first | apply Kd.R_alloc | apply Kd.R_drewN | apply Kd.R_drew)); exact Kd.R_mono (Kd.R_far (p := ⟨gb275, 1, none⟩) (Kd.R_far (p := ⟨gb275, 0, none⟩) (Kd.R_types HO271.out BK275.out (by decide)) (fun _ hk => hk.2) (.slice Ao7 t269.length co7)) (fun _ hk => hk.2) (.slice Ao11 t272.length co11)) (fun _ hk => trivial)⟩, ⟨by (with_reducible repeat (first | apply Kd.R_alloc | apply Kd.R_drewN | apply Kd.R_drew)); exact Kd.R_mono (Kd.R_far (p := ⟨gb275, 1, none⟩) (Kd.R_far (p := ⟨gb275, 0, none⟩) (Kd.R_types HO274.out BK275.out (by decide)) (fun _ hk => hk.2) (.slice Ao7 t269.length co7)) (fun _ hk => hk.2) (.slice Ao11 t272.length co11)) (fun _ hk => trivial)⟩, ⟨by (with_reducible repeat (first | refine blk_drewN ?_ _ | refine blk_drew ?_ | refine blk_alloc ?_ _)); refine blk_far ?_ NB268_275.out _; (with_reducible repeat (first | refine blk_drewN ?_ _ | refine blk_drew ?_ | refine blk_alloc ?_ _)); refine blk_far ?_ NB268_275.out _; (with_reducible repeat (first | refine blk_drewN ?_ _ | refine blk_drew ?_ | refine blk_alloc ?_ _)); exact BK268.out⟩, ⟨by (with_reducible repeat (first | refine blk_drewN ?_ _ | refine blk_drew ?_ | refine blk_alloc ?_ _)); refine blk_put (cs := #[.slice Ao7 t269.length co7, .slice none 0 0]) ?_ 1 _ rfl; (with_reducible repeat (first | refine blk_drewN ?_ _ | refine blk_drew ?_ | refine blk_alloc ?_ _)); refine blk_put (cs := #[.slice none 0 0, .slice none 0 0]) ?_ 0 _ rfl; (with_reducible repeat (first | refine blk_drewN ?_ _ | refine blk_drew ?_ | refine blk_alloc ?_ _)); exact BK275.out⟩, ⟨by repeat (first | (with_reducible first | exact HI0.out | apply IsS32.alloc | apply IsS32.drewN | apply IsS32.drew | apply IsS32.set_1 | refine IsS32.far ?_ NB0_268.out _ | refine IsS32.far ?_ NB0_275.out _) | exact HI0.out)⟩, ⟨by repeat (first | (with_reducible first | exact HK.out | apply KeepBut.set_ | apply keep_drewN | apply keep_drew | apply keep_alloc | refine keep_far ?_ GW268.out _ | refine keep_far ?_ GW275.out _) | exact HK.out)⟩, ⟨by repeat (first | (with_reducible first | exact HB.out | apply below_alloc | apply pw_below_drewN | apply below_drew1 | refine below_set ?_ (IsS32.ge HI0.out) | refine below_set ?_ GE268.out | refine below_set ?_ GE275.out) | exact HB.out)⟩⟩)
  case round =>
    (clear H'); (try clear c1); (try clear c2); (try clear p2); (try clear c8); (try clear c9); (try clear hcz10_0); (try clear hcz10_1); (try clear hfz10_0); (try clear hfz10_1); (obtain ⟨x12_1, x1001_1, x276001_1, u276001, rfl, HA, HK1, HO_276000, HO_276001, BK268, BK275, HI0, HK, HB⟩ := hrel)
    cases gk with
    | zero => exact absurd HA.out (by simp [parquetrykeep_Tape_Tensor.l0])
    | succ k1 =>
      (have H := HA.out); (clear HA); (simp only [parquetrykeep_Tape_Tensor.l0] at H); (by_cases c12 : x12_1 < (t272.length : Int))
      · (rw [if_pos c12] at H); (have c12b0 : decide (x12_1 < (t272.length : Int)) = true := decide_eq_true c12); (clear c12); (replace H := Option.bind_eq_some_iff.mp H); (obtain ⟨⟨t276, t277⟩, A130, H⟩ := H); (replace H : (if 0 ≤ x12_1 then (if x12_1 < (x276001_1.length : Int) then (parquetrykeep_Tape_Tensor.l0 k1 (t272.length : Int) (wrap64 (x12_1 + 1)) s0_0 t277 t269 (x276001_1.set (x12_1 : Int).toNat t276)) else (none)) else (none)) = some (r1, r2, r3) := H); (have A13 := Aside0.mk A130); (clear A130); (by_cases c14 : 0 ≤ x12_1)
        · (rw [if_pos c14] at H); (have c14b0 : decide (0 ≤ x12_1) = true := decide_eq_true c14); (clear c14); (by_cases c15 : x12_1 < (x276001_1.length : Int))
          · (rw [if_pos c15] at H); (have c15b0 : decide (x12_1 < (x276001_1.length : Int)) = true := decide_eq_true c15); (clear c15); (obtain ⟨y278, hy278⟩ : ∃ y_ : List Int, y_ = (x276001_1.set (x12_1 : Int).toNat t276) := ⟨_, rfl⟩); (replace H : (parquetrykeep_Tape_Tensor.l0 k1 (t272.length : Int) (wrap64 (x12_1 + 1)) s0_0 t277 t269 y278) = some (r1, r2, r3) := by first | (rw [hy278]; with_reducible exact H) | (have H2_ := (Option.bind_some _ _).symm.trans H; rw [hy278]; with_reducible exact H2_) | (have H2_ := (Option.bind_some _ _).symm.trans H; with_reducible exact H2_) | with_reducible exact H | (rw [hy278]; exact H) | exact H); (have Ny278 := Aside0.mk hy278); (clear hy278); (have H' := Aside0.mk H); (clear H); (try go_wp2); (have n0_ := Aside0.mk (Kd.R_drew HO_276000.out)); (have n1_ := Aside0.mk (Kd.R_drew HO_276001.out)); (have n2_ := Aside0.mk (blk_drew BK268.out)); (have n3_ := Aside0.mk (blk_drew BK275.out)); (have n4_ := Aside0.mk (IsS32.drew HI0.out)); (have n5_ := Aside0.mk (keep_drew HK.out)); (have n6_ := Aside0.mk (below_drew1 HB.out)); (clear HO_276000 HO_276001 BK268 BK275 HI0 HK HB); (have HO_276000 := n0_); (have HO_276001 := n1_); (have BK268 := n2_); (have BK275 := n3_); (have HI0 := n4_); (have HK := n5_); (have HB := n6_); (clear n0_ n1_ n2_ n3_ n4_ n5_ n6_); (refine start_ (n := 7) (S := fun w' => w'.cell? ⟨gb275, 0, none⟩ = some (.slice Ao7 t269.length co7) ∧ w'.cell? ⟨gb275, 1, none⟩ = some (u276001)) (ds := [6]) #[false, false, false, false, false, false, false] (by kernel_rfl) rfl rfl ⟨(blk_cell BK275.out 0).trans rfl, (blk_cell BK275.out 1).trans rfl⟩ (fun hHeld => ?_)); (generalize wr.drew = w17 at HO_276000 HO_276001 BK268 BK275 HI0 HK HB hHeld ⊢); (refine pure_ (i := 0) (N := some 15) (v := ?_) (a' := ?_) #[true, false, false, false, false, false, false] rfl rfl (by kernel_rfl) (fun _ _ _ h => h) (Or.inl ⟨by rfl, ?_⟩) ?_ ?_); (rotate_left); (· (intro w'); (go_simp); (with_reducible rfl)); (rotate_left); (· (simp only [Act.put, List.setIfInBounds_toArray, List.set_cons_zero, List.set_cons_succ, i64_w, i32_w]); (rfl)); (refine pure_ (i := 2) (N := some 17) (v := ?_) (a' := ?_) #[true, false, true, false, false, false, false] rfl rfl (by kernel_rfl) (fun _ _ _ h => h) (Or.inl ⟨by rfl, ?_⟩) ?_ ?_); (rotate_left); (· (intro w'); (go_simp); (with_reducible rfl)); (rotate_left); (· (simp only [Act.put, List.setIfInBounds_toArray, List.set_cons_zero, List.set_cons_succ, i64_w, i32_w]); (rfl)); (refine pure_ (i := 3) (N := some 18) (v := ?_) (a' := ?_) #[true, false, true, true, false, false, false] rfl rfl (by kernel_rfl) (fun _ _ _ h => h) (Or.inl ⟨by rfl, ?_⟩) ?_ ?_); (rotate_left); (· (intro w'); (go_simp); (with_reducible rfl)); (rotate_left); (· (simp only [Act.put, List.setIfInBounds_toArray, List.set_cons_zero, List.set_cons_succ, i64_w, i32_w]); (rfl)); (refine take_ (i := 1) (N := some 16) (v := ?_) (a' := ?_) #[true, true, true, true, false, false, false] rfl rfl (by kernel_rfl) (fun _ _ _ h => h) (Or.inl ⟨by rfl, ?_⟩) hHeld ?_ ?_); (rotate_left); (· (rintro w' ⟨s0, s1⟩); (go_simp); (with_reducible rfl)); (rotate_left); (· (simp only [Act.put, List.setIfInBounds_toArray, List.set_cons_zero, List.set_cons_succ, i64_w, i32_w]); (rfl)); (refine one_ (i := 4) (N := some 19) #[true, true, true, true, true, false, false] rfl rfl (by kernel_rfl) (by decide) (fun K hK => ?_)); (refine goes_ Try.func57 (by kernel_rfl) rfl #[.pointer (some ⟨g, 0, none⟩)] (by rfl) rfl rfl (by (try simp only [List.map_toArray, List.map_cons, List.map_nil]); first | done | rfl | (simp only [List.length_drop, List.length_take]; rfl)) ?_); (with_reducible refine (parquetrykeep_Tape_Number.calls k1 g s0_0 x1001_1 t276 t277 w0 _ ?side1 ?side2 A13.out).mono ?_); ((case side1 => repeat (first | (with_reducible first | exact HI0.out | apply IsS32.alloc | apply IsS32.drewN | apply IsS32.drew | apply IsS32.set_1 | refine IsS32.far ?_ NB0_268.out _ | refine IsS32.far ?_ NB0_275.out _) | exact HI0.out))); ((case side2 => repeat (first | (with_reducible first | exact HB.out | apply below_alloc | apply pw_below_drewN | apply below_drew1 | refine below_set ?_ (IsS32.ge HI0.out) | refine below_set ?_ GE268.out | refine below_set ?_ GE275.out) | exact HB.out))); (rintro e w18 ⟨rfl, hi, hb, hk⟩); (refine ⟨_, rfl, ?_⟩); (have n0_ := Aside0.mk (Kd.R_mono (Kd.R_keep (IsS32.apart (show IsS32 w0 _ g s0_0 x1001_1 from by repeat (first | (with_reducible first | exact HI0.out | apply IsS32.alloc | apply IsS32.drewN | apply IsS32.drew | apply IsS32.set_1 | refine IsS32.far ?_ NB0_268.out _ | refine IsS32.far ?_ NB0_275.out _) | exact HI0.out)) (nR_ HO_276000.out) (by decide)) hk (fun _ h => h.2)) (fun _ h => h.1))); (have n1_ := Aside0.mk (Kd.R_mono (Kd.R_keep (IsS32.apart (show IsS32 w0 _ g s0_0 x1001_1 from by repeat (first | (with_reducible first | exact HI0.out | apply IsS32.alloc | apply IsS32.drewN | apply IsS32.drew | apply IsS32.set_1 | refine IsS32.far ?_ NB0_268.out _ | refine IsS32.far ?_ NB0_275.out _) | exact HI0.out)) (nR_ HO_276001.out) (by decide)) hk (fun _ h => h.2)) (fun _ h => h.1))); (have n2_ := Aside0.mk (KeepBut.blk hk (g' := gb268) (o := .cells #[.slice none 0 0, .slice none 0 0] 27 (0, 0)) (nK_ BK268.out) NB268_0.out (by simp))); (have n3_ := Aside0.mk (KeepBut.blk hk (g' := gb275) (o := .cells #[.slice Ao7 t269.length co7, u276001] 27 (0, 0)) (nK_ BK275.out) NB275_0.out (by simp))); (have n4_ := Aside0.mk (KeepBut.trans (by repeat (first | (with_reducible first | exact HK.out | apply KeepBut.set_ | apply keep_drewN | apply keep_drew | apply keep_alloc | refine keep_far ?_ GW268.out _ | refine keep_far ?_ GW275.out _) | exact HK.out)) hk (.inl rfl))); (have n5_ := Aside0.mk (hb)); (have n6_ := Aside0.mk (hi)); (clear HO_276000 HO_276001 BK268 BK275 HK HB HI0); (have HO_276000 := n0_); (have HO_276001 := n1_); (have BK268 := n2_); (have BK275 := n3_); (have HK := n4_); (have HB := n5_); (have HI0 := n6_); (clear n0_ n1_ n2_ n3_ n4_ n5_ n6_); ((try clear hb)); ((try clear hb2)); ((try clear hk)); ((try clear hi)); (have p16 : 0 ≤ (x12_1 : Int) := of_decide_eq_true (by first | (with_reducible assumption) | assumption)); (have q16 : (x12_1 : Int) < ((x276001_1.length : Int) : Int) := of_decide_eq_true (by first | (with_reducible assumption) | assumption)); (obtain ⟨go16, co16, eo16, gb16, gl16, cl16, HG16⟩ := Kd.R_form HO_276001.out (by omega)); ((first | cases eo16 | (injection eo16 with ea_ en_ ec_; (first | subst ea_ | (injection ea_ with ea_; subst ea_)); subst ec_; clear en_))); (have GB16 := Aside0.mk gb16); (have GG16 := Aside0.mk HG16); (clear gb16 gl16 HG16); (obtain ⟨hx16_0, hf16_0⟩ := Kd.R_celln 0 HO_276001.out (x12_1 : Int) p16 q16); (replace p16 := eq_true p16); (replace q16 := eq_true q16); (have HN0_go16 := Aside0.mk (show g ≠ go16 from by have h_ := IsS32.own_ne HI0.out HO_276001.out (by decide); intro e_; exact h_ (by rw [e_]; rfl))); (have HP19 := Kd.R_putn HO_276001.out (x12_1 : Int) t276); (rw [← Ny278.out] at HP19); (have HQ19 := Aside0.mk HP19); (clear HP19); (refine hK.out _ _ ⟨(blk_cell BK275.out 0).trans rfl, (blk_cell BK275.out 1).trans rfl⟩ (fun hHeld => ?_)); (clear hK K); (refine norm_ (a' := ?_) ?_ ?_); (rotate_left); (· (show Act.put _ (some 19) _ = _); (simp only [Act.put, List.setIfInBounds_toArray, List.set_cons_zero, List.set_cons_succ, i64_w, i32_w]); (rfl)); (refine pure_ (i := 5) (N := some 20) (v := ?_) (a' := ?_) #[true, true, true, true, true, true, false] rfl rfl (by kernel_rfl) (fun _ _ _ h => h) (Or.inl ⟨by rfl, ?_⟩) ?_ ?_); (rotate_left); (· (intro w'); (go_simp); (with_reducible rfl)); (rotate_left); (· (simp only [Act.put, List.setIfInBounds_toArray, List.set_cons_zero, List.set_cons_succ, i64_w, i32_w]); (rfl)); (refine last_ (i := 6) (N := none) #[true, true, true, true, true, true, true] rfl rfl (by kernel_rfl) (by decide) (fun K hK => ?_)); (refine skip_ (w1 := ?_) (by rfl) rfl ?_ ?_); (rotate_left); (· (go_simp); (rfl)); (refine hK.out _ _ ?_); (clear hK K); (refine done_ (by kernel_rfl) ?_); (try go_wp2); (go_roundg k1); (case measure => have := HK1.out; omega); (case rel => exact ⟨(wrap64 (x12_1 + 1)), (t277), (y278), (.slice (some ⟨go16, 0, none⟩) x276001_1.length co16), (by first | rfl | (simp; done) | (simp [*]; done)), H', ⟨by have := HK1.out; omega⟩, ⟨by (with_reducible repeat (first | apply Kd.R_alloc | apply Kd.R_drewN | apply Kd.R_drew)); exact Kd.R_mono (Kd.R_far (p := ⟨go16, (x12_1 : Int).toNat, none⟩) (Kd.R_types HO_276000.out GG16.out (by decide)) (fun _ hk => hk.2) (.int .i64 t276)) (fun _ hk => trivial)⟩, ⟨nR_ HQ19.out⟩, ⟨by (with_reducible repeat (first | refine blk_drewN ?_ _ | refine blk_drew ?_ | refine blk_alloc ?_ _)); refine blk_far ?_ (by have h_ := Kd.R_ne HO_276001.out BK268.out (by decide); intro e_; exact h_ (by rw [e_]; rfl)) _; (with_reducible repeat (first | refine blk_drewN ?_ _ | refine blk_drew ?_ | refine blk_alloc ?_ _)); exact BK268.out⟩, ⟨by (with_reducible repeat (first | refine blk_drewN ?_ _ | refine blk_drew ?_ | refine blk_alloc ?_ _)); refine blk_far ?_ (by have h_ := Kd.R_ne HO_276001.out BK275.out (by decide); intro e_; exact h_ (by rw [e_]; rfl)) _; (with_reducible repeat (first | refine blk_drewN ?_ _ | refine blk_drew ?_ | refine blk_alloc ?_ _)); exact BK275.out⟩, ⟨by repeat (first | (with_reducible first | exact HI0.out | apply IsS32.alloc | apply IsS32.drewN | apply IsS32.drew | apply IsS32.set_1 | refine IsS32.far ?_ HN0_go16.out _ | refine IsS32.far ?_ NB0_268.out _ | refine IsS32.far ?_ NB0_275.out _) | exact HI0.out)⟩, ⟨by repeat (first | (with_reducible first | exact HK.out | apply KeepBut.set_ | apply keep_drewN | apply keep_drew | apply keep_alloc | refine keep_far ?_ GB16.out _ | refine keep_far ?_ GW268.out _ | refine keep_far ?_ GW275.out _) | exact HK.out)⟩, ⟨by repeat (first | (with_reducible first | exact HB.out | apply below_alloc | apply pw_below_drewN | apply below_drew1 | refine below_set ?_ (Nat.le_trans HL.out GB16.out) | refine below_set ?_ (IsS32.ge HI0.out) | refine below_set ?_ GE268.out | refine below_set ?_ GE275.out) | exact HB.out)⟩⟩)
          (· (rw [if_neg c15] at H); (exact absurd H (by simp)))
        (· (rw [if_neg c14] at H); (exact absurd H (by simp)))
      · (rw [if_neg c12] at H); (have c12b0 : decide (x12_1 < (t272.length : Int)) = false := decide_eq_false c12); (clear c12); (simp only [Option.some.injEq, Prod.mk.injEq] at H); (obtain ⟨rfl, rfl, rfl⟩ := H); (have hnb20 := NB275_268.out); (have hnc20 := NB268_275.out); (have hnb21 := NB275_0.out); (have hnc21 := NB0_275.out); (have hcz22_0 : wr.cell? ⟨gb275, 0, none⟩ = some (.slice Ao7 t269.length co7) := (blk_cell BK275.out 0).trans rfl); (have hcz22_1 : wr.cell? ⟨gb275, 1, none⟩ = some (u276001) := (blk_cell BK275.out 1).trans rfl); (have hfz22_0 := blk_frozen BK275.out 0); (have hfz22_1 := blk_frozen BK275.out 1); (have hnb23 := NB268_0.out); (have hnc23 := NB0_268.out); (have hcz24_0 : wr.cell? ⟨gb268, 0, none⟩ = some (.slice none 0 0) := (blk_cell BK268.out 0).trans rfl); (have hcz24_1 : wr.cell? ⟨gb268, 1, none⟩ = some (.slice none 0 0) := (blk_cell BK268.out 1).trans rfl); (have hfz24_0 := blk_frozen BK268.out 0); (have hfz24_1 := blk_frozen BK268.out 1); (obtain ⟨Ao25, co25, eo25⟩ := Kd.R_slice HO_276001.out); (subst eo25); (go_wp2); (refine bodyPost_ret (results_cell_row rfl _ _ gb268 27 #[.slice Ao7 t269.length co7, .slice Ao25 x276001_1.length co25] (0, 0) _ rfl (by (with_reducible repeat (first | refine blk_drewN ?_ _ | refine blk_drew ?_ | refine blk_alloc ?_ _)); refine blk_put (cs := #[.slice Ao7 t269.length co7, .slice none 0 0]) ?_ 1 _ rfl; (with_reducible repeat (first | refine blk_drewN ?_ _ | refine blk_drew ?_ | refine blk_alloc ?_ _)); refine blk_put (cs := #[.slice none 0 0, .slice none 0 0]) ?_ 0 _ rfl; (with_reducible repeat (first | refine blk_drewN ?_ _ | refine blk_drew ?_ | refine blk_alloc ?_ _)); exact BK268.out) Try.underlying27 rfl (by kernel_rfl)) rfl ?_); (exact ⟨_, _, by first | rfl | (simp [errW_none, errW_some] <;> rfl) | (simp [*, errW_none, errW_some] <;> rfl), by (with_reducible repeat (first | apply Kd.R_alloc | apply Kd.R_drewN | apply Kd.R_drew)); exact Kd.R_mono (Kd.R_far (p := ⟨gb268, 1, none⟩) (Kd.R_far (p := ⟨gb268, 0, none⟩) (Kd.R_types HO_276000.out BK268.out (by decide)) (fun _ hk => hk.2) (.slice Ao7 t269.length co7)) (fun _ hk => hk.2) (.slice Ao25 x276001_1.length co25)) (fun _ hk => trivial), by (with_reducible repeat (first | apply Kd.R_alloc | apply Kd.R_drewN | apply Kd.R_drew)); exact Kd.R_mono (Kd.R_far (p := ⟨gb268, 1, none⟩) (Kd.R_far (p := ⟨gb268, 0, none⟩) (Kd.R_types HO_276001.out BK268.out (by decide)) (fun _ hk => hk.2) (.slice Ao7 t269.length co7)) (fun _ hk => hk.2) (.slice Ao25 x276001_1.length co25)) (fun _ hk => trivial), by repeat (first | (with_reducible first | exact HI0.out | apply IsS32.alloc | apply IsS32.drewN | apply IsS32.drew | apply IsS32.set_1 | refine IsS32.far ?_ NB0_268.out _ | refine IsS32.far ?_ NB0_275.out _) | exact HI0.out), by repeat (first | (with_reducible first | exact HB.out | apply below_alloc | apply pw_below_drewN | apply below_drew1 | refine below_set ?_ (IsS32.ge HI0.out) | refine below_set ?_ GE268.out | refine below_set ?_ GE275.out) | exact HB.out), by repeat (first | (with_reducible first | exact HK.out | apply KeepBut.set_ | apply keep_drewN | apply keep_drew | apply keep_alloc | refine keep_far ?_ GW268.out _ | refine keep_far ?_ GW275.out _) | exact HK.out)⟩)
-- NOT PRINTED: function 4 (parquetrylaw4_PointTells)

-- NOT PRINTED: function 5 (parquetrylaw4_PointPairs)

-- NOT PRINTED: function 6 (parquetrylaw4_PointTruths)

/-! ### window_Out: function 31 -/
def window_Out.f (a0 : Int) (a1 : Int) (a2 : Int) : Option (Int) := if a0 < 0 then (some 0) else (if a1 < 1 then (some 0) else (if a2 < 1 then (some 0) else (if a1 > a0 then (some 0) else (if a2 = 0 then (none) else (some (wrap64 ((wrap64 (Int.tdiv (wrap64 (a0 - a1)) a2)) + 1)))))))
set_option maxHeartbeats 8000000 in
set_option maxRecDepth 100000 in
theorem window_Out.calls (a0 : Int) (a1 : Int) (a2 : Int) (r : Int) (w : World) (h : window_Out.f a0 a1 a2 = some r) :
    Calls Try.prog 31 #[.int .i64 a0, .int .i64 a1, .int .i64 a2] w fun e w' => e = .returned (.int .i64 r) ∧ Below w.heap.size w w' := by
  have HB := Aside0.mk (Below.refl w.heap.size w)
  have H : (if a0 < 0 then (some 0) else (if a1 < 1 then (some 0) else (if a2 < 1 then (some 0) else (if a1 > a0 then (some 0) else (if a2 = 0 then (none) else (some (wrap64 ((wrap64 (Int.tdiv (wrap64 (a0 - a1)) a2)) + 1)))))))) = some r := h
  clear h
  by_cases c4 : a0 < 0
  · rw [if_pos c4] at H
    have c4b0 : decide (a0 < 0) = true := decide_eq_true c4
    clear c4
    obtain rfl := Option.some.inj H
    go_enter Try.func31, Try.ntmps31
    go_wp2
    go_ret
    exact ⟨by first | rfl | (simp [errW_none, errW_some] <;> rfl) | (simp [*, errW_none, errW_some] <;> rfl), by repeat (first | (with_reducible first | exact HB.out | apply below_alloc | apply pw_below_drewN | apply below_drew1) | exact HB.out)⟩
  · rw [if_neg c4] at H
    have c4b0 : decide (a0 < 0) = false := decide_eq_false c4
    clear c4
    by_cases c5 : a1 < 1
    · rw [if_pos c5] at H
      have c5b0 : decide (a1 < 1) = true := decide_eq_true c5
      clear c5
      obtain rfl := Option.some.inj H
      go_enter Try.func31, Try.ntmps31
      go_wp2
      go_ret
      exact ⟨by first | rfl | (simp [errW_none, errW_some] <;> rfl) | (simp [*, errW_none, errW_some] <;> rfl), by repeat (first | (with_reducible first | exact HB.out | apply below_alloc | apply pw_below_drewN | apply below_drew1) | exact HB.out)⟩
    · rw [if_neg c5] at H
      have c5b0 : decide (a1 < 1) = false := decide_eq_false c5
      clear c5
      by_cases c6 : a2 < 1
      · rw [if_pos c6] at H
        have c6b0 : decide (a2 < 1) = true := decide_eq_true c6
        clear c6
        obtain rfl := Option.some.inj H
        go_enter Try.func31, Try.ntmps31
        go_wp2
        go_ret
        exact ⟨by first | rfl | (simp [errW_none, errW_some] <;> rfl) | (simp [*, errW_none, errW_some] <;> rfl), by repeat (first | (with_reducible first | exact HB.out | apply below_alloc | apply pw_below_drewN | apply below_drew1) | exact HB.out)⟩
      · rw [if_neg c6] at H
        have c6b0 : decide (a2 < 1) = false := decide_eq_false c6
        clear c6
        by_cases c7 : a1 > a0
        · rw [if_pos c7] at H
          have c7b0 : decide (a0 < a1) = true := decide_eq_true c7
          clear c7
          obtain rfl := Option.some.inj H
          go_enter Try.func31, Try.ntmps31
          go_wp2
          go_ret
          exact ⟨by first | rfl | (simp [errW_none, errW_some] <;> rfl) | (simp [*, errW_none, errW_some] <;> rfl), by repeat (first | (with_reducible first | exact HB.out | apply below_alloc | apply pw_below_drewN | apply below_drew1) | exact HB.out)⟩
        · rw [if_neg c7] at H
          have c7b0 : decide (a0 < a1) = false := decide_eq_false c7
          clear c7
          by_cases c8 : a2 = 0
          · rw [if_pos c8] at H
            exact absurd H (by simp)
          · rw [if_neg c8] at H
            have c8b0 : (a2 == 0) = false := beq_eq_false_iff_ne.mpr c8
            have c8b1 : (a2 != 0) = true := bne_iff_ne.mpr c8
            obtain rfl := Option.some.inj H
            go_enter Try.func31, Try.ntmps31
            go_wp2
            go_ret
            exact ⟨by first | rfl | (simp [errW_none, errW_some] <;> rfl) | (simp [*, errW_none, errW_some] <;> rfl), by repeat (first | (with_reducible first | exact HB.out | apply below_alloc | apply pw_below_drewN | apply below_drew1) | exact HB.out)⟩

/-! ### parquetryref4_Windows: function 32 -/
def parquetryref4_Windows.f (a0 : Int) (a1 : Int) (a2 : Int) : Option (Int) := if a0 < 0 then (some 0) else (if a1 < 1 then (some 0) else (if a2 < 1 then (some 0) else (if a1 > a0 then (some 0) else (if a2 = 0 then (none) else (some (wrap64 ((wrap64 (Int.tdiv (wrap64 (a0 - a1)) a2)) + 1)))))))
set_option maxHeartbeats 8000000 in
set_option maxRecDepth 100000 in
theorem parquetryref4_Windows.calls (a0 : Int) (a1 : Int) (a2 : Int) (r : Int) (w : World) (h : parquetryref4_Windows.f a0 a1 a2 = some r) :
    Calls Try.prog 32 #[.int .i64 a0, .int .i64 a1, .int .i64 a2] w fun e w' => e = .returned (.int .i64 r) ∧ Drawn0 w w' := by
  have H : (if a0 < 0 then (some 0) else (if a1 < 1 then (some 0) else (if a2 < 1 then (some 0) else (if a1 > a0 then (some 0) else (if a2 = 0 then (none) else (some (wrap64 ((wrap64 (Int.tdiv (wrap64 (a0 - a1)) a2)) + 1)))))))) = some r := h
  clear h
  by_cases c4 : a0 < 0
  · rw [if_pos c4] at H
    have c4b0 : decide (a0 < 0) = true := decide_eq_true c4
    clear c4
    obtain rfl := Option.some.inj H
    go_enter Try.func32, Try.ntmps32
    go_wp2
    go_ret
    exact ⟨by first | rfl | (simp; done) | (simp [*]; done), by repeat (first | exact Drawn0.refl _ | apply Drawn0.step)⟩
  · rw [if_neg c4] at H
    have c4b0 : decide (a0 < 0) = false := decide_eq_false c4
    clear c4
    by_cases c5 : a1 < 1
    · rw [if_pos c5] at H
      have c5b0 : decide (a1 < 1) = true := decide_eq_true c5
      clear c5
      obtain rfl := Option.some.inj H
      go_enter Try.func32, Try.ntmps32
      go_wp2
      go_ret
      exact ⟨by first | rfl | (simp; done) | (simp [*]; done), by repeat (first | exact Drawn0.refl _ | apply Drawn0.step)⟩
    · rw [if_neg c5] at H
      have c5b0 : decide (a1 < 1) = false := decide_eq_false c5
      clear c5
      by_cases c6 : a2 < 1
      · rw [if_pos c6] at H
        have c6b0 : decide (a2 < 1) = true := decide_eq_true c6
        clear c6
        obtain rfl := Option.some.inj H
        go_enter Try.func32, Try.ntmps32
        go_wp2
        go_ret
        exact ⟨by first | rfl | (simp; done) | (simp [*]; done), by repeat (first | exact Drawn0.refl _ | apply Drawn0.step)⟩
      · rw [if_neg c6] at H
        have c6b0 : decide (a2 < 1) = false := decide_eq_false c6
        clear c6
        by_cases c7 : a1 > a0
        · rw [if_pos c7] at H
          have c7b0 : decide (a0 < a1) = true := decide_eq_true c7
          clear c7
          obtain rfl := Option.some.inj H
          go_enter Try.func32, Try.ntmps32
          go_wp2
          go_ret
          exact ⟨by first | rfl | (simp; done) | (simp [*]; done), by repeat (first | exact Drawn0.refl _ | apply Drawn0.step)⟩
        · rw [if_neg c7] at H
          have c7b0 : decide (a0 < a1) = false := decide_eq_false c7
          clear c7
          by_cases c8 : a2 = 0
          · rw [if_pos c8] at H
            exact absurd H (by simp)
          · rw [if_neg c8] at H
            have c8b0 : (a2 == 0) = false := beq_eq_false_iff_ne.mpr c8
            have c8b1 : (a2 != 0) = true := bne_iff_ne.mpr c8
            obtain rfl := Option.some.inj H
            go_enter Try.func32, Try.ntmps32
            go_wp2
            go_ret
            exact ⟨by first | rfl | (simp; done) | (simp [*]; done), by repeat (first | exact Drawn0.refl _ | apply Drawn0.step)⟩

/-! ### fold_Right: function 77 -/
def fold_Right.f (a0 : Int) : Option (Bool) := if a0 ≥ 1 then (some (decide (a0 ≤ 4))) else (some false)
set_option maxHeartbeats 8000000 in
set_option maxRecDepth 100000 in
theorem fold_Right.calls (a0 : Int) (r : Bool) (w : World) (h : fold_Right.f a0 = some r) :
    Calls Try.prog 77 #[.int .i64 a0] w fun e w' => e = .returned (.bool r) ∧ Drawn0 w w' := by
  have H : (if a0 ≥ 1 then (some (decide (a0 ≤ 4))) else (some false)) = some r := h
  clear h
  by_cases c2 : a0 ≥ 1
  · rw [if_pos c2] at H
    have c2b0 : decide (1 ≤ a0) = true := decide_eq_true c2
    clear c2
    obtain rfl := Option.some.inj H
    go_enter Try.func77, Try.ntmps77
    go_wp2
    go_ret
    exact ⟨by first | rfl | (simp; done) | (simp [*]; done), by repeat (first | exact Drawn0.refl _ | apply Drawn0.step)⟩
  · rw [if_neg c2] at H
    have c2b0 : decide (1 ≤ a0) = false := decide_eq_false c2
    clear c2
    obtain rfl := Option.some.inj H
    go_enter Try.func77, Try.ntmps77
    go_wp2
    go_ret
    exact ⟨by first | rfl | (simp; done) | (simp [*]; done), by repeat (first | exact Drawn0.refl _ | apply Drawn0.step)⟩

/-! ### window_within: function 94 -/
def window_within.f (a0 : Int) : Option (Bool) := if a0 ≥ 1 then (some (decide (a0 ≤ 32))) else (some false)
set_option maxHeartbeats 8000000 in
set_option maxRecDepth 100000 in
theorem window_within.calls (a0 : Int) (r : Bool) (w : World) (h : window_within.f a0 = some r) :
    Calls Try.prog 94 #[.int .i64 a0] w fun e w' => e = .returned (.bool r) ∧ Drawn0 w w' := by
  have H : (if a0 ≥ 1 then (some (decide (a0 ≤ 32))) else (some false)) = some r := h
  clear h
  by_cases c2 : a0 ≥ 1
  · rw [if_pos c2] at H
    have c2b0 : decide (1 ≤ a0) = true := decide_eq_true c2
    clear c2
    obtain rfl := Option.some.inj H
    go_enter Try.func94, Try.ntmps94
    go_wp2
    go_ret
    exact ⟨by first | rfl | (simp; done) | (simp [*]; done), by repeat (first | exact Drawn0.refl _ | apply Drawn0.step)⟩
  · rw [if_neg c2] at H
    have c2b0 : decide (1 ≤ a0) = false := decide_eq_false c2
    clear c2
    obtain rfl := Option.some.inj H
    go_enter Try.func94, Try.ntmps94
    go_wp2
    go_ret
    exact ⟨by first | rfl | (simp; done) | (simp [*]; done), by repeat (first | exact Drawn0.refl _ | apply Drawn0.step)⟩

/-! ### window_May: function 64 -/
def window_May.f (a0 : Int) (a1 : Int) (a2 : Int) : Option (Bool) := (fold_Right.f a0).bind fun t352 => (if t352 = true then ((window_within.f a1).bind fun t353 => (if t353 = true then ((window_within.f a2).bind fun t354 => (some t354)) else (some false))) else (some false))
set_option maxHeartbeats 8000000 in
set_option maxRecDepth 100000 in
theorem window_May.calls (a0 : Int) (a1 : Int) (a2 : Int) (r : Bool) (w : World) (h : window_May.f a0 a1 a2 = some r) :
    Calls Try.prog 64 #[.int .i64 a0, .int .i64 a1, .int .i64 a2] w fun e w' => e = .returned (.bool r) ∧ Drawn0 w w' := by
  have H : ((fold_Right.f a0).bind fun t352 => (if t352 = true then ((window_within.f a1).bind fun t353 => (if t353 = true then ((window_within.f a2).bind fun t354 => (some t354)) else (some false))) else (some false))) = some r := h
  clear h
  replace H := Option.bind_eq_some_iff.mp H
  obtain ⟨t352, A40, H⟩ := H
  replace H : (if t352 = true then ((window_within.f a1).bind fun t353 => (if t353 = true then ((window_within.f a2).bind fun t354 => (some t354)) else (some false))) else (some false)) = some r := H
  have A4 := Aside0.mk A40
  clear A40
  by_cases c5 : t352 = true
  · subst c5
    have H1 : ((window_within.f a1).bind fun t353 => (if t353 = true then ((window_within.f a2).bind fun t354 => (some t354)) else (some false))) = some r := by rw [if_pos rfl] at H; exact H
    clear H
    have H := H1
    clear H1
    replace H := Option.bind_eq_some_iff.mp H
    obtain ⟨t353, A60, H⟩ := H
    replace H : (if t353 = true then ((window_within.f a2).bind fun t354 => (some t354)) else (some false)) = some r := H
    have A6 := Aside0.mk A60
    clear A60
    by_cases c7 : t353 = true
    · subst c7
      have H1 : ((window_within.f a2).bind fun t354 => (some t354)) = some r := by rw [if_pos rfl] at H; exact H
      clear H
      have H := H1
      clear H1
      replace H := Option.bind_eq_some_iff.mp H
      obtain ⟨t354, A80, H⟩ := H
      replace H : (some t354) = some r := H
      have A8 := Aside0.mk A80
      clear A80
      obtain rfl := Option.some.inj H
      go_enter Try.func64, Try.ntmps64
      go_wp2_with (first | ((with_reducible refine gate_callee (f := 77) rfl ?_); refine goesL_ (some 9) rfl rfl Try.func77 (by kernel_rfl) rfl #[.int .i64 a0] rfl (by (try simp only [List.map_toArray, List.map_cons, List.map_nil]); first | done | rfl | (simp only [List.length_drop, List.length_take]; rfl)) ?_; (with_reducible refine (fold_Right.calls a0 true _ A4.out).mono ?_); rintro e w' ⟨rfl, ⟨nd, rfl⟩⟩; refine ⟨_, rfl, ?_⟩) | (go_at_call 94; (with_reducible refine (window_within.calls a1 true _ A6.out).mono ?_); rintro e w' ⟨rfl, ⟨nd, rfl⟩⟩) | (go_at_call 94; (with_reducible refine (window_within.calls a2 t354 _ A8.out).mono ?_); rintro e w' ⟨rfl, ⟨nd, rfl⟩⟩))
      go_ret
      exact ⟨by first | rfl | (simp; done) | (simp [*]; done), by repeat (first | exact Drawn0.refl _ | apply Drawn0.step)⟩
    · replace c7 := Bool.eq_false_iff.mpr c7
      subst c7
      have H1 : (some false) = some r := by rw [if_neg (show ¬ (false = true) by decide)] at H; exact H
      clear H
      have H := H1
      clear H1
      obtain rfl := Option.some.inj H
      go_enter Try.func64, Try.ntmps64
      go_wp2_with (first | ((with_reducible refine gate_callee (f := 77) rfl ?_); refine goesL_ (some 9) rfl rfl Try.func77 (by kernel_rfl) rfl #[.int .i64 a0] rfl (by (try simp only [List.map_toArray, List.map_cons, List.map_nil]); first | done | rfl | (simp only [List.length_drop, List.length_take]; rfl)) ?_; (with_reducible refine (fold_Right.calls a0 true _ A4.out).mono ?_); rintro e w' ⟨rfl, ⟨nd, rfl⟩⟩; refine ⟨_, rfl, ?_⟩) | (go_at_call 94; (with_reducible refine (window_within.calls a1 false _ A6.out).mono ?_); rintro e w' ⟨rfl, ⟨nd, rfl⟩⟩))
      go_ret
      exact ⟨by first | rfl | (simp; done) | (simp [*]; done), by repeat (first | exact Drawn0.refl _ | apply Drawn0.step)⟩
  · replace c5 := Bool.eq_false_iff.mpr c5
    subst c5
    have H1 : (some false) = some r := by rw [if_neg (show ¬ (false = true) by decide)] at H; exact H
    clear H
    have H := H1
    clear H1
    obtain rfl := Option.some.inj H
    go_enter Try.func64, Try.ntmps64
    go_wp2_with (first | ((with_reducible refine gate_callee (f := 77) rfl ?_); refine goesL_ (some 9) rfl rfl Try.func77 (by kernel_rfl) rfl #[.int .i64 a0] rfl (by (try simp only [List.map_toArray, List.map_cons, List.map_nil]); first | done | rfl | (simp only [List.length_drop, List.length_take]; rfl)) ?_; (with_reducible refine (fold_Right.calls a0 false _ A4.out).mono ?_); rintro e w' ⟨rfl, ⟨nd, rfl⟩⟩; refine ⟨_, rfl, ?_⟩))
    go_ret
    exact ⟨by first | rfl | (simp; done) | (simp [*]; done), by repeat (first | exact Drawn0.refl _ | apply Drawn0.step)⟩

/-! ### shape_Right: function 79 -/
def shape_Right.l0 : Nat → Int → List Int → Int → Int → Option (Bool)
  | 0, _, _, _, _ => none
  | k + 1, x3, x9, x10, x11 => if x11 < x10 then (if 0 ≤ x11 then (if x11 < (x9.length : Int) then (if (rd x9 x11) < 0 then (some false) else (if (rd x9 x11) > 32 then (some false) else (shape_Right.l0 k (wrap64 (x3 * (rd x9 x11))) x9 x10 (wrap64 (x11 + 1))))) else (none)) else (none)) else (some (decide (x3 ≤ 4096)))
def shape_Right.f (k : Nat) (l0 : List Int) : Option (Bool) := if (l0.length : Int) > 4 then (some false) else (shape_Right.l0 k 1 l0 (l0.length : Int) 0)
theorem shape_Right.mono_l : ∀ k, (∀ y0 y1 y2 y3, LeO (shape_Right.l0 k y0 y1 y2 y3) (shape_Right.l0 (k + 1) y0 y1 y2 y3))
  | 0 => fun _ _ _ _ r h => by simp [shape_Right.l0] at h
  | k + 1 => by
    have ih0 := shape_Right.mono_l k
    · intro y0 y1 y2 y3
      unfold shape_Right.l0
      repeat' first | (with_reducible first | exact ih0 _ _ _ _ | exact LeO.refl _ | exact LeO.none _ | refine LeO.ite ?_ ?_ | refine LeO.bind ?_ (fun _ => ?_)) | exact ih0 _ _ _ _ | exact LeO.none _ | refine LeO.ite ?_ ?_ | refine LeO.bind ?_ (fun _ => ?_)
theorem shape_Right.mono : ∀ a0 k, LeO (shape_Right.f k a0) (shape_Right.f (k + 1) a0) := by
  intro a0 k
  have ih0 := shape_Right.mono_l k
  unfold shape_Right.f
  repeat' first | (with_reducible first | exact ih0 _ _ _ _ | exact LeO.refl _ | exact LeO.none _ | refine LeO.ite ?_ ?_ | refine LeO.bind ?_ (fun _ => ?_)) | exact ih0 _ _ _ _ | exact LeO.none _ | refine LeO.ite ?_ ?_ | refine LeO.bind ?_ (fun _ => ?_)

set_option maxHeartbeats 8000000 in
set_option maxRecDepth 100000 in
theorem shape_Right.calls (k : Nat) (A0 : Option Addr) (c0 : Nat) (l0 : List Int) (r : Bool) (w : World) (hr0 : Kd.C (Kd.int .i64) w A0 l0.length l0) (hc0 : l0.length ≤ c0) (h : shape_Right.f k l0 = some r) :
    Calls Try.prog 79 #[.slice A0 l0.length c0] w fun e w' => e = .returned (.bool r) ∧ Drawn0 w w' := by
  (have HR0 := Aside0.mk hr0); (have HC0 := Aside0.mk hc0); (clear hr0 hc0); (have H : (if (l0.length : Int) > 4 then (some false) else (shape_Right.l0 k 1 l0 (l0.length : Int) 0)) = some r := h); (clear h); (by_cases c2 : (l0.length : Int) > 4); (· (rw [if_pos c2] at H); (have c2b0 : decide (4 < (l0.length : Int)) = true := decide_eq_true c2); (have c2b1 : decide (4 < l0.length) = true := decide_eq_true (by omega)); (clear c2); (obtain rfl := Option.some.inj H); (go_enter Try.func79, Try.ntmps79); (go_wp2); (go_ret); (exact ⟨by first | rfl | (simp; done) | (simp [*]; done), by repeat (first | exact Drawn0.refl _ | apply Drawn0.step)⟩))
  · (rw [if_neg c2] at H); (have c2b0 : decide (4 < (l0.length : Int)) = false := decide_eq_false c2); (have c2b1 : decide (4 < l0.length) = false := decide_eq_false (by omega)); (clear c2); (have H' := Aside0.mk H); (clear H); (go_enter Try.func79, Try.ntmps79); (go_wp2); (go_loopg [3, 11] k (fun kq v3 v11 w' => ∃ (x3_1 : Int) (x11_1 : Int), v3 = .int .i64 x3_1 ∧ v11 = .int .i64 x11_1 ∧ Aside0 (shape_Right.l0 kq x3_1 l0 (l0.length : Int) x11_1 = some r) ∧ Aside0 (kq ≤ k) ∧ Drawn0 w w')); (case atStart => exact ⟨(1), (0), (by first | rfl | (simp; done) | (simp [*]; done)), (by first | rfl | (simp; done) | (simp [*]; done)), H', ⟨Nat.le_refl _⟩, by repeat (first | exact Drawn0.refl _ | apply Drawn0.step)⟩)
    case round =>
      (clear H'); (try clear c2); (try clear c2b0); (try clear c2b1); (try clear p2); (obtain ⟨x3_1, x11_1, rfl, rfl, HA, HK1, ⟨m1, rfl⟩⟩ := hrel)
      cases gk with
      | zero => exact absurd HA.out (by simp [shape_Right.l0])
      | succ k1 =>
        (have H := HA.out); (clear HA); (simp only [shape_Right.l0] at H); (by_cases c3 : x11_1 < (l0.length : Int))
        · (rw [if_pos c3] at H); (have c3b0 : decide (x11_1 < (l0.length : Int)) = true := decide_eq_true c3); (clear c3); (by_cases c4 : 0 ≤ x11_1)
          · (rw [if_pos c4] at H); (have c4b0 : decide (0 ≤ x11_1) = true := decide_eq_true c4); (clear c4); (by_cases c5 : x11_1 < (l0.length : Int))
            · (rw [if_pos c5] at H); (have c5b0 : decide (x11_1 < (l0.length : Int)) = true := decide_eq_true c5); (clear c5); (by_cases c6 : (rd l0 x11_1) < 0)
              · (rw [if_pos c6] at H); (have c6b0 : decide ((rd l0 x11_1) < 0) = true := decide_eq_true c6); (clear c6); (obtain rfl := Option.some.inj H); (have p355 : 0 ≤ (x11_1 : Int) := of_decide_eq_true (by first | (with_reducible assumption) | assumption)); (have q355 : x11_1 < (l0.length : Int) := of_decide_eq_true (by first | (with_reducible assumption) | assumption)); (obtain ⟨ad355, e355, hx355_0⟩ := Kd.at_int HR0.out x11_1 p355 q355); (cases e355); (replace p355 := eq_true p355); (replace q355 := eq_true q355); (go_wp2); (go_ret); (exact ⟨by first | rfl | (simp; done) | (simp [*]; done), by repeat (first | exact Drawn0.refl _ | apply Drawn0.step)⟩)
              · (rw [if_neg c6] at H); (have c6b0 : decide ((rd l0 x11_1) < 0) = false := decide_eq_false c6); (clear c6); (by_cases c7 : (rd l0 x11_1) > 32)
                · (rw [if_pos c7] at H); (have c7b0 : decide (32 < (rd l0 x11_1)) = true := decide_eq_true c7); (clear c7); (obtain rfl := Option.some.inj H); (have p355 : 0 ≤ (x11_1 : Int) := of_decide_eq_true (by first | (with_reducible assumption) | assumption)); (have q355 : x11_1 < (l0.length : Int) := of_decide_eq_true (by first | (with_reducible assumption) | assumption)); (obtain ⟨ad355, e355, hx355_0⟩ := Kd.at_int HR0.out x11_1 p355 q355); (cases e355); (replace p355 := eq_true p355); (replace q355 := eq_true q355); (go_wp2); (go_ret); (exact ⟨by first | rfl | (simp; done) | (simp [*]; done), by repeat (first | exact Drawn0.refl _ | apply Drawn0.step)⟩)
                · (rw [if_neg c7] at H); (have c7b0 : decide (32 < (rd l0 x11_1)) = false := decide_eq_false c7); (clear c7); (have H' := Aside0.mk H); (clear H); (have p355 : 0 ≤ (x11_1 : Int) := of_decide_eq_true (by first | (with_reducible assumption) | assumption)); (have q355 : x11_1 < (l0.length : Int) := of_decide_eq_true (by first | (with_reducible assumption) | assumption)); (obtain ⟨ad355, e355, hx355_0⟩ := Kd.at_int HR0.out x11_1 p355 q355); (cases e355); (replace p355 := eq_true p355); (replace q355 := eq_true q355); (go_wp2); (go_roundg k1); (case measure => have := HK1.out; omega); (case rel => exact ⟨(wrap64 (x3_1 * (rd l0 x11_1))), (wrap64 (x11_1 + 1)), (by first | rfl | (simp; done) | (simp [*]; done)), (by first | rfl | (simp; done) | (simp [*]; done)), H', ⟨by have := HK1.out; omega⟩, by repeat (first | exact Drawn0.refl _ | apply Drawn0.step)⟩)
            (· (rw [if_neg c5] at H); (exact absurd H (by simp)))
          (· (rw [if_neg c4] at H); (exact absurd H (by simp)))
        (· (rw [if_neg c3] at H); (have c3b0 : decide (x11_1 < (l0.length : Int)) = false := decide_eq_false c3); (clear c3); (obtain rfl := Option.some.inj H); (go_wp2); (go_ret); (exact ⟨by first | rfl | (simp; done) | (simp [*]; done), by repeat (first | exact Drawn0.refl _ | apply Drawn0.step)⟩))
end Go.Proofs.Ytkeclgfnlpkjeaa.Q
