-- Printed by a program (a variant of the kit print, with contracts of our own).
import Derived.Test.YtapoeleiicnlbaaQx0
namespace Go.Proofs.Ytapoeleiicnlbaa.Q
open Go.RowKit Go.Proofs.YtapoeleiicnlbaaW.PrintWords Go.Proofs.YtapoeleiicnlbaaW.PrintLast Go.Proofs.YtapoeleiicnlbaaW.PrintMore
attribute [local go_sem] max2_int min2_int max_two min_two max_three min_three max_four min_four   -- for this text's walks alone
set_option linter.unusedVariables false
set_option linter.unusedSimpArgs false

-- OWN PART
/-! ### slices_Grow_int_int: function 45 -/
def slices_Grow_int_int.f (_ : List Int) (a1 : Int) : Option (List Int) := if 0 < a1 ∧ a1 ≤ 1000 then some [] else if a1 = 0 then some [] else none
set_option maxHeartbeats 8000000 in
set_option maxRecDepth 100000 in
theorem slices_Grow_int_int.calls (A0 : Option Addr) (c0 : Nat) (l0 : List Int) (a1 : Int) (r : List Int) (w : World) (hr0 : Kd.C (Kd.int .i64) w A0 l0.length l0) (hc0 : l0.length ≤ c0) (h : slices_Grow_int_int.f l0 a1 = some r) :
    Calls Try.prog 45 #[.slice none 0 0, .int .i64 a1] w fun e w' => ∃ v0_ : Value, e = .returned (v0_) ∧ Kd.R (Kd.int .i64) 3 w' w.heap.size (fun _ => True) v0_ r ∧ Below w.heap.size w w' := by
  unfold slices_Grow_int_int.f at h
  clear hr0 hc0
  have HB := am_ (Below.refl w.heap.size w)
  by_cases hp : 0 < a1 ∧ a1 ≤ 1000
  · rw [if_pos hp] at h
    obtain rfl := Option.some.inj h
    have hw : IntKind.i64.wrap a1 = a1 := by rw [i64_w]; unfold wrap64; omega
    have c1 : decide (a1 < 0) = false := decide_eq_false (by omega)
    have c2 : decide (0 < a1) = true := decide_eq_true (by omega)
    go_enter Try.func45, Try.ntmps45
    go_wp2_with (first | ((with_reducible refine gate_builtin (b := .append) (xs := #[.tmp 20, .tmp 21]) rfl ?_); at_builtin; refine Kd.R_append_zeros (Kd.int .i64) (w0 := w) w.heap.size rfl (.tmp 20) (.tmp 21) 22 3 3 (.int .i64 0) 8 rfl Try.underlying22 Try.underlying3 info3 rfl (by decide) (by omega) (.slice none 0 0) ([] : List Int) 0 (a1 : Int) (fun _ => True) rfl rfl rfl ?aF ?aO (Int.le_of_lt hp.1) ?aB ?aS ?aL ?_; (case aB => exact (nB_ HB.out)); (case aF => exact (fun _ _ => trivial)); (case aO => exact ((Kd.R_nil _ _ _ _ (fun _ => True)))); (case aS => exact (below_size (nB_ HB.out))); (case aL => simp only [List.length_nil]; omega); intro v123 w10 ho hb hg hat; have n0_ := am_ (hb); clear HB; have HB := n0_; clear n0_ hb hg hat; obtain ⟨Ao11, co11, eo11⟩ := Kd.R_slice ho; subst eo11; obtain ⟨i012, hi012, _, hsz12, _⟩ := info_parts info3; have hcut12 := cut_to (P := Try.prog) 22 3 .i64 Try.underlying22 hi012 Ao11 _ co11 (0 : Int) (by omega) (by omega) (Kd.R_reads' ho).2.1; have hr12 := Kd.R_take (m := 0) ho (by omega); have HO127 := am_ hr12; clear hr12 ho))
    go_ret
    exact ⟨_, by first | rfl | (simp [errW_none, errW_some] <;> rfl), by (with_reducible repeat (first | apply Kd.R_alloc | apply Kd.R_drewN | apply Kd.R_drew)); exact HO127.out, nA_ HB.out⟩
  · rw [if_neg hp] at h
    by_cases h0 : a1 = 0
    · rw [if_pos h0] at h
      obtain rfl := Option.some.inj h
      subst h0
      go_enter Try.func45, Try.ntmps45
      go_wp2
      go_ret
      exact ⟨_, by first | rfl | (simp [errW_none, errW_some] <;> rfl), Kd.R_nil _ _ _ _ _, nA_ HB.out⟩
    · rw [if_neg h0] at h
      exact absurd h (by simp)

end Go.Proofs.Ytapoeleiicnlbaa.Q
