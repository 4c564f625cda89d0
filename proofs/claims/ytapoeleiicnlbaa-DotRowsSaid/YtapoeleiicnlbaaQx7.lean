-- Printed by a program (a variant of the kit print, with contracts of our own).
import Derived.Test.YtapoeleiicnlbaaQx0
import Derived.Test.YtapoeleiicnlbaaQx5
namespace Go.Proofs.Ytapoeleiicnlbaa.Q
open Go.RowKit Go.Proofs.YtapoeleiicnlbaaW.PrintWords Go.Proofs.YtapoeleiicnlbaaW.PrintLast Go.Proofs.YtapoeleiicnlbaaW.PrintMore
attribute [local go_sem] max2_int min2_int max_two min_two max_three min_three max_four min_four   -- for this text's walks alone
set_option linter.unusedVariables false
set_option linter.unusedSimpArgs false

/-! ### shape_Place: function 42 -/
mutual
def shape_Place.j0 : Nat → List Int → Int → Bool → Option (List Int)
  | 0, _, _, _ => none
  | k + 1, x0, x1, x14 => if x14 = true then (some ([] : List Int)) else (if 0 ≤ (x0.length : Int) then (if ((x0.length : Int) : Int).toNat ≤ 35184372088832 then (shape_Place.l0 k x0 x1 (List.replicate ((x0.length : Int) : Int).toNat 0) (wrap64 ((x0.length : Int) - 1))) else (none)) else (none))
def shape_Place.l0 : Nat → List Int → Int → List Int → Int → Option (List Int)
  | 0, _, _, _, _ => none
  | k + 1, x0, x1, x5, x6 => if x6 ≥ 0 then (if 0 ≤ x6 then (if x6 < (x0.length : Int) then (if (rd x0 x6) = 0 then (none) else (if x6 < (x5.length : Int) then (shape_Place.l0 k x0 (wrap64 (Int.tdiv x1 (rd x0 x6))) (x5.set (x6 : Int).toNat (Int.tmod x1 (rd x0 x6))) (wrap64 (x6 - 1))) else (none))) else (none)) else (none)) else (some x5)
end
def shape_Place.f (k : Nat) (l0 : List Int) (a1 : Int) : Option (List Int) := if a1 < 0 then (shape_Place.j0 k l0 a1 true) else ((shape_Size.f k l0).bind fun t173 => (shape_Place.j0 k l0 a1 (decide (a1 ≥ t173))))
theorem shape_Place.mono_l : ∀ k, (∀ y0 y1 y2, LeO (shape_Place.j0 k y0 y1 y2) (shape_Place.j0 (k + 1) y0 y1 y2)) ∧ (∀ y0 y1 y2 y3, LeO (shape_Place.l0 k y0 y1 y2 y3) (shape_Place.l0 (k + 1) y0 y1 y2 y3))
  | 0 => ⟨fun _ _ _ r h => by simp [shape_Place.j0] at h, fun _ _ _ _ r h => by simp [shape_Place.l0] at h⟩
  | k + 1 => by
    obtain ⟨ih0, ih1⟩ := shape_Place.mono_l k
    refine ⟨?_, ?_⟩
    · intro y0 y1 y2
      unfold shape_Place.j0
      repeat' first | (with_reducible first | exact ih0 _ _ _ | exact ih1 _ _ _ _ | exact shape_Size.mono _ _ | exact LeO.refl _ | exact LeO.none _ | refine LeO.ite ?_ ?_ | refine LeO.bind ?_ (fun _ => ?_)) | exact ih0 _ _ _ | exact ih1 _ _ _ _ | exact LeO.none _ | refine LeO.ite ?_ ?_ | refine LeO.bind ?_ (fun _ => ?_)
    · intro y0 y1 y2 y3
      unfold shape_Place.l0
      repeat' first | (with_reducible first | exact ih0 _ _ _ | exact ih1 _ _ _ _ | exact shape_Size.mono _ _ | exact LeO.refl _ | exact LeO.none _ | refine LeO.ite ?_ ?_ | refine LeO.bind ?_ (fun _ => ?_)) | exact ih0 _ _ _ | exact ih1 _ _ _ _ | exact LeO.none _ | refine LeO.ite ?_ ?_ | refine LeO.bind ?_ (fun _ => ?_)
theorem shape_Place.mono : ∀ a0 a1 k, LeO (shape_Place.f k a0 a1) (shape_Place.f (k + 1) a0 a1) := by
  intro a0 a1 k
  obtain ⟨ih0, ih1⟩ := shape_Place.mono_l k
  unfold shape_Place.f
  repeat' first | (with_reducible first | exact ih0 _ _ _ | exact ih1 _ _ _ _ | exact shape_Size.mono _ _ | exact LeO.refl _ | exact LeO.none _ | refine LeO.ite ?_ ?_ | refine LeO.bind ?_ (fun _ => ?_)) | exact ih0 _ _ _ | exact ih1 _ _ _ _ | exact LeO.none _ | refine LeO.ite ?_ ?_ | refine LeO.bind ?_ (fun _ => ?_)

set_option maxHeartbeats 8000000 in
set_option maxRecDepth 100000 in
theorem shape_Place.calls (k : Nat) (A0 : Option Addr) (c0 : Nat) (l0 : List Int) (a1 : Int) (r : List Int) (w : World) (hr0 : Kd.C (Kd.int .i64) w A0 l0.length l0) (hc0 : l0.length ≤ c0) (h : shape_Place.f k l0 a1 = some r) :
    Calls Try.prog 42 #[.slice A0 l0.length c0, .int .i64 a1] w fun e w' => ∃ v0_ : Value, e = .returned (v0_) ∧ Kd.R (Kd.int .i64) 3 w' w.heap.size (fun _ => True) v0_ r ∧ Below w.heap.size w w' := by
  (have HR0 := am_ hr0); (have HC0 := am_ hc0); (clear hr0 hc0); (have HB := am_ (Below.refl w.heap.size w)); (have H : (if a1 < 0 then (shape_Place.j0 k l0 a1 true) else ((shape_Size.f k l0).bind fun t173 => (shape_Place.j0 k l0 a1 (decide (a1 ≥ t173))))) = some r := h); (clear h); (have HC3 := am_ H); (clear H); (go_enter Try.func42, Try.ntmps42); (go_upto_region 1 with (fail)); (go_cut [14] (fun v14 wc => ∃ (kq : Nat) (x14_2 : Bool), v14 = .bool x14_2 ∧ Aside0 (shape_Place.j0 kq l0 a1 x14_2 = some r) ∧ Aside0 (kq ≤ k) ∧ Aside0 (Below w.heap.size w wc)))
  case first =>
    (have H := HC3.out); (clear HC3); (by_cases c4 : a1 < 0); (· (rw [if_pos c4] at H); (have c4b0 : decide (a1 < 0) = true := decide_eq_true c4); (clear c4); ((first | rw [c4b0] | (simp only [i64_w, i32_w]; rw [c4b0]) | skip)); (have H' := am_ H); (clear H); (go_wp2); (go_meet); (case rel => exact ⟨_, (true), rs_, H', ⟨by first | omega | exact Nat.le_refl _⟩, ⟨nA_ HB.out⟩⟩))
    · (rw [if_neg c4] at H); (have c4b0 : decide (a1 < 0) = false := decide_eq_false c4); (clear c4); ((first | rw [c4b0] | (simp only [i64_w, i32_w]; rw [c4b0]) | skip)); (replace H := Option.bind_eq_some_iff.mp H); (obtain ⟨t173, A50, H⟩ := H); (replace H : (shape_Place.j0 k l0 a1 (decide (a1 ≥ t173))) = some r := H); (have A5 := am_ A50); (clear A50); (have H' := am_ H); (clear H); (go_wp2_with (first | (go_at_call 40; (with_reducible refine (shape_Size.calls k _ _ l0 t173 _ ?side1 ?side2 A5.out).mono ?_); (case side1 => exact nC_ (Kd.C_below HR0.out HB.out)); (case side2 => exact HC0.out); rintro e w' ⟨rfl, ⟨nd, rfl⟩⟩))); (go_meet); (case rel => exact ⟨_, (decide (a1 ≥ t173)), rs_, H', ⟨by first | omega | exact Nat.le_refl _⟩, ⟨nA_ HB.out⟩⟩)
  case rest =>
    (clear HC3); (try clear p2); (obtain ⟨kq, x14_2, rfl, HA, HJ2, HB⟩ := hcut)
    cases kq with
    | zero => exact absurd HA.out (by simp [shape_Place.j0])
    | succ kj2 =>
      (have H := HA.out); (clear HA); (simp only [shape_Place.j0] at H); (by_cases c6 : x14_2 = true); (· (subst c6); (have H1 : (some ([] : List Int)) = some r := by rw [if_pos rfl] at H; exact H); (clear H); (have H := H1); (clear H1); (obtain rfl := Option.some.inj H); (go_wp2); (go_ret); (exact ⟨_, er_, nl_, nA_ HB.out⟩))
      · (replace c6 := Bool.eq_false_iff.mpr c6); (subst c6); (have H1 : (if 0 ≤ (l0.length : Int) then (if ((l0.length : Int) : Int).toNat ≤ 35184372088832 then (shape_Place.l0 kj2 l0 a1 (List.replicate ((l0.length : Int) : Int).toNat 0) (wrap64 ((l0.length : Int) - 1))) else (none)) else (none)) = some r := by rw [if_neg (show ¬ (false = true) by decide)] at H; exact H); (clear H); (have H := H1); (clear H1); (by_cases c7 : 0 ≤ (l0.length : Int))
        · (rw [if_pos c7] at H); (have c7b0 := eq_true c7); (have c7b1 : decide (0 ≤ (l0.length : Int)) = true := decide_eq_true c7); (clear c7); (by_cases c8 : ((l0.length : Int) : Int).toNat ≤ 35184372088832)
          · (rw [if_pos c8] at H); (have c8b0 := eq_true c8); (have c8b1 : decide (((l0.length : Int) : Int).toNat ≤ 35184372088832) = true := decide_eq_true c8); (clear c8); (obtain ⟨y174, hy174⟩ : ∃ y_ : List Int, y_ = (List.replicate ((l0.length : Int) : Int).toNat 0) := ⟨_, rfl⟩); (replace H : (shape_Place.l0 kj2 l0 a1 y174 (wrap64 ((l0.length : Int) - 1))) = some r := by first | exact bq_ hy174 H | (rw [hy174]; exact H) | exact H); (have Ny174 := am_ hy174); (clear hy174); (have H' := am_ H); (clear H); (go_wp2_with (first | ((with_reducible refine gate_dst (N := 17) rfl ?_); refine Kd.R_make (Kd.int .i64) _ 3 rfl (N := 17) rfl 22 _ _ rfl (l0.length : Int) rfl rfl Try.underlying22 (.int .i64 0) 8 info3 rfl (by decide) (by omega) 0 (ok := fun _ => True) (okp := fun _ => True) rfl (fun _ hk => hk) trivial od_ (Nat.le_trans (Nat.mul_le_mul_right _ (od_ : (l0.length : Int).toNat ≤ 35184372088832)) (by omega)) (Below.refl _ _) (Nat.le_refl _) ?_; intro v175 w9 ho10 hb hg_ hnew_; clear hg_ hnew_; (first | rw [← Ny174.out] at ho10 | (simp only [Int.reduceToNat] at ho10; rw [← Ny174.out] at ho10)); have n0_ := am_ (Kd.R_lower ho10 (below_size (nB_ HB.out))); have n1_ := am_ (below_step (nB_ HB.out) hb); clear HB; have HO176 := n0_; have HB := n1_; clear n0_ n1_; clear hb ho10))); (go_loopg [1, 6] kj2 (fun kq v1 v6 w' => ∃ (x1_2 : Int) (x5_2 : List Int) (x6_2 : Int), v1 = .int .i64 x1_2 ∧ v6 = .int .i64 x6_2 ∧ Aside0 (shape_Place.l0 kq l0 x1_2 x5_2 x6_2 = some r) ∧ Aside0 (kq ≤ kj2) ∧ Aside0 (Kd.R (Kd.int .i64) 3 w' w.heap.size (fun _ => True) v175 x5_2) ∧ Aside0 (Below w.heap.size w w'))); (case atStart => exact ⟨(a1), (y174), (wrap64 ((l0.length : Int) - 1)), rs_, rs_, H', ⟨Nat.le_refl _⟩, ⟨nR_ HO176.out⟩, ⟨nA_ HB.out⟩⟩)
            case round =>
              (clear H'); (try clear p2); (try clear p6); (try clear p2); (obtain ⟨x1_2, x5_2, x6_2, rfl, rfl, HA, HK2, HO_5, HB⟩ := hrel)
              cases gk with
              | zero => exact absurd HA.out (by simp [shape_Place.l0])
              | succ k2 =>
                (have H := HA.out); (clear HA); (simp only [shape_Place.l0] at H); (by_cases c11 : x6_2 ≥ 0)
                · (rw [if_pos c11] at H); (have c11b0 : decide (0 ≤ x6_2) = true := decide_eq_true c11); (clear c11); (by_cases c12 : 0 ≤ x6_2)
                  · (rw [if_pos c12] at H); (have c12b0 : decide (0 ≤ x6_2) = true := decide_eq_true c12); (clear c12); (by_cases c13 : x6_2 < (l0.length : Int))
                    · (rw [if_pos c13] at H); (have c13b0 : decide (x6_2 < (l0.length : Int)) = true := decide_eq_true c13); (clear c13); (by_cases c14 : (rd l0 x6_2) = 0); (· (rw [if_pos c14] at H); (exact absurd H (by simp)))
                      · (rw [if_neg c14] at H); (have c14b0 : ((rd l0 x6_2) == 0) = false := beq_eq_false_iff_ne.mpr c14); (have c14b1 : ((rd l0 x6_2) != 0) = true := bne_iff_ne.mpr c14); (by_cases c15 : x6_2 < (x5_2.length : Int))
                        · (rw [if_pos c15] at H); (have c15b0 : decide (x6_2 < (x5_2.length : Int)) = true := decide_eq_true c15); (clear c15); (obtain ⟨y178, hy178⟩ : ∃ y_ : List Int, y_ = (x5_2.set (x6_2 : Int).toNat (Int.tmod x1_2 (rd l0 x6_2))) := ⟨_, rfl⟩); (replace H : (shape_Place.l0 k2 l0 (wrap64 (Int.tdiv x1_2 (rd l0 x6_2))) y178 (wrap64 (x6_2 - 1))) = some r := by first | exact bq_ hy178 H | (rw [hy178]; exact H) | exact H); (have Ny178 := am_ hy178); (clear hy178); (have H' := am_ H); (clear H); (have p177 : 0 ≤ (x6_2 : Int) := od_); (have q177 : x6_2 < (l0.length : Int) := od_); (obtain ⟨ad177, e177, hx177_0⟩ := Kd.at_int HR0.out x6_2 p177 q177); (cases e177); (replace hx177_0 := (HB.out.cell (World.block_lt_of_cell? w _ hx177_0)).trans hx177_0); (replace p177 := eq_true p177); (replace q177 := eq_true q177); (have p16 : 0 ≤ (x6_2 : Int) := od_); (have q16 : (x6_2 : Int) < ((x5_2.length : Int) : Int) := od_); (obtain ⟨go16, co16, eo16, gb16, gl16, cl16, HG16⟩ := Kd.R_form HO_5.out (by omega)); ((first | cases eo16 | (injection eo16 with ea_ en_ ec_; (first | subst ea_ | (injection ea_ with ea_; subst ea_)); subst ec_; clear en_))); (have GB16 := am_ gb16); (have GG16 := am_ HG16); (clear gb16 gl16 HG16); (obtain ⟨hx16_0, hf16_0⟩ := Kd.R_celln 0 HO_5.out (x6_2 : Int) p16 q16); (replace p16 := eq_true p16); (replace q16 := eq_true q16); (have HP17 := Kd.R_putg HO_5.out (x6_2 : Int) (Int.tmod x1_2 (rd l0 x6_2))); (go_wp2_with (first | ((with_reducible refine gate_store (t := 3) (p := 33) rfl ?_); refine store_event (t := 3) (p := 33) (v := ?vo_w18) (w1 := (wr.setCell ⟨go16, (x6_2 : Int).toNat, none⟩ (.int .i64 (Int.tmod x1_2 (rd l0 x6_2))))) ?hg ?ho ?hn ?hr ?_; (case ho => rfl); (case hg => rfl); (case hn => rfl); (case hr => first | (go_simp; done) | (go_simp; rfl)); intro w18 hw; have hg : wr.grownBy w18 (some go16) := (by rw [hw]; exact HP17.2); have hp_ : Kd.R (Kd.int .i64) 3 w18 w.heap.size (fun _ => True) (.slice (some ⟨go16, 0, none⟩) x5_2.length co16) y178 := (by rw [hw, Ny178.out]; exact HP17.1); clear HP17; have n0_ := am_ (hp_); have n1_ := am_ ((by rw [hw]; exact below_set (HB.out) GB16.out : Below w.heap.size w w18)); clear HO_5; clear HB; have HO_5 := n0_; have HB := n1_; clear n0_ n1_; clear hg hw hp_; have p179 : 0 ≤ (x6_2 : Int) := od_; have q179 : x6_2 < (l0.length : Int) := od_; obtain ⟨ad179, e179, hx179_0⟩ := Kd.at_int HR0.out x6_2 p179 q179; obtain rfl : ad177 = ad179 := (by injection e179); replace hx179_0 := (HB.out.cell (World.block_lt_of_cell? w _ hx179_0)).trans hx179_0; replace p179 := eq_true p179; replace q179 := eq_true q179))); (go_roundg k2); (case measure => have := HJ2.out; have := HK2.out; omega); (case rel => exact ⟨(wrap64 (Int.tdiv x1_2 (rd l0 x6_2))), (y178), (wrap64 (x6_2 - 1)), rs_, rs_, H', ⟨by have := HJ2.out; have := HK2.out; omega⟩, ⟨nR_ HO_5.out⟩, ⟨nA_ HB.out⟩⟩)
                        (· (rw [if_neg c15] at H); (exact absurd H (by simp)))
                    (· (rw [if_neg c13] at H); (exact absurd H (by simp)))
                  (· (rw [if_neg c12] at H); (exact absurd H (by simp)))
                (· (rw [if_neg c11] at H); (have c11b0 : decide (0 ≤ x6_2) = false := decide_eq_false c11); (clear c11); (obtain rfl := Option.some.inj H); (go_wp2); (go_ret); (exact ⟨_, er_, by (with_reducible repeat (first | apply Kd.R_alloc | apply Kd.R_drewN | apply Kd.R_drew)); exact HO_5.out, nA_ HB.out⟩))
          (· (rw [if_neg c8] at H); (exact absurd H (by simp)))
        (· (rw [if_neg c7] at H); (exact absurd H (by simp)))
end Go.Proofs.Ytapoeleiicnlbaa.Q
