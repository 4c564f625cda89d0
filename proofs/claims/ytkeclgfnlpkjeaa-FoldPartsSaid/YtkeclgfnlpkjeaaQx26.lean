-- Printed by a program (a variant of the kit print, with contracts of our own).
import Derived.Test.YtkeclgfnlpkjeaaQx0
import Derived.Test.YtkeclgfnlpkjeaaQx12
import Derived.Test.YtkeclgfnlpkjeaaQx13
namespace Go.Proofs.Ytkeclgfnlpkjeaa.Q
open Go.RowKit Go.Proofs.YtkeclgfnlpkjeaaW.PrintWords Go.Proofs.YtkeclgfnlpkjeaaW.PrintLast Go.Proofs.YtkeclgfnlpkjeaaW.PrintMore
attribute [local go_sem] max2_int min2_int max_two min_two max_three min_three max_four min_four   -- for this text's walks alone
set_option linter.unusedVariables false
set_option linter.unusedSimpArgs false

-- OWN PART
/-! ### fold_Made: function 119 -/
theorem fold_Made.enters (args : Array Value) (W : World) : (callFunc 80 args).run Try.prog W = .ok (.enter 80 args) W := enters_ Try.func80 (by kernel_rfl) rfl args W
set_option maxRecDepth 100000 in
theorem fold_Made.clo (W : World) (v : Value) (g : Nat) (n r : Int) (hc : W.cell? ⟨g, 0, none⟩ = some (.int .i64 n)) (hr : fold_None.f n = some r) :
    Calls Try.prog 80 #[v, .pointer (some ⟨g, 0, none⟩)] W fun e W' => e = .returned (.int .i64 r) ∧ W.grownBy W' v.ownBlock := by
  go_enter Try.func80, Try.ntmps80
  go_wp2_with (first | ((with_reducible refine gate_callee (f := 44) rfl ?_); refine goesL_ (some 5) rfl rfl Try.func44 (by kernel_rfl) rfl #[.int .i64 n] rfl (by (try simp only [List.map_toArray, List.map_cons, List.map_nil]); first | done | rfl) ?_; (with_reducible refine (fold_None.calls n r _ hr).mono ?_); rintro e w' ⟨rfl, ⟨nd, rfl⟩⟩; refine ⟨_, rfl, ?_⟩))
  go_ret
  exact ⟨rfl, grown_of_below (by repeat (first | exact Below.refl _ _ | apply pw_below_drewN | apply below_drew1)) _⟩
def fold_Made.f (k : Nat) (l0 : List Int) (a1 : Int) : Option (List Int × List Int) := tensor_Made.f (fun _ => fold_None.f a1) k l0
theorem fold_Made.mono : ∀ a0 a1 k, LeO (fold_Made.f k a0 a1) (fold_Made.f (k + 1) a0 a1) := fun a0 _ k => tensor_Made.mono _ a0 k
theorem fold_Made.calls (g : Nat) (k : Nat) (A0 : Option Addr) (c0 : Nat) (l0 : List Int) (a1 : Int) (r1 : List Int) (r2 : List Int) (w : World) (hr0 : Kd.C (Kd.int .i64) w A0 l0.length l0) (hc0 : l0.length ≤ c0) (h : fold_Made.f k l0 a1 = some (r1, r2)) (hb : w.heap[g]? = some (.cells #[.int .i64 a1] 3 (0, 0))) :
    Calls Try.prog 67 #[.slice A0 l0.length c0, .func (.func 80) #[] #[.pointer (some ⟨g, 0, none⟩)]] w fun e w' => ∃ v0_ v1_ : Value, e = .returned (.agg #[v0_, v1_]) ∧ Kd.R (Kd.int .i64) 3 w' w.heap.size (fun _ => True) v0_ r1 ∧ Kd.R (Kd.int .i64) 2 w' w.heap.size (fun _ => True) v1_ r2 ∧ Below w.heap.size w w' :=
  tensor_Made.calls2 80 #[.pointer (some ⟨g, 0, none⟩)] (fun _ => fold_None.f a1) w A0 c0 l0 hr0 hc0 fold_Made.enters (fun W v _ r hB _ hr => fold_Made.clo W v g a1 r ((blk_cell (blk_below hb hB) 0).trans rfl) hr) k r1 r2 h

end Go.Proofs.Ytkeclgfnlpkjeaa.Q
