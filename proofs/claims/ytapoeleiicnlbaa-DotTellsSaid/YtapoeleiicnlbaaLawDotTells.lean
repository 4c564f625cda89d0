-- Printed by a program (a variant of the kit print, with contracts of our own).
import Derived.Test.YtapoeleiicnlbaaRows
import Derived.Test.YtapoeleiicnlbaaQx21
import Derived.Test.YtapoeleiicnlbaaPureDotTells
import Derived.WalkKit
import Derived.ProofKit
import Derived.OpenShut
import Derived.ShutString
import Derived.ChangeOld
import Derived.Below
import Derived.SizedLaws
import Derived.Lib.SmallJoins
import Derived.Test.YtapoeleiicnlbaaWSized
namespace Go.Proofs.Ytapoeleiicnlbaa.dotTells
open Go.ChangeShapes Go.WideShapes Go.ChangeAt Go.RowKit
open Go.ChangeMaps (open_string shut_string)
set_option linter.unusedVariables false
theorem own : ownKnob Try.prog.godebug = none := by kernel_rfl
theorem laidOut : laidOutB Try.prog = true := by kernel_rfl
def IsRow (k : IntKind) (w : World) (a : Option Addr) (len cap : Nat) (zs : List Int) : Prop :=
  (a = none ∧ len = 0 ∧ cap = 0 ∧ zs = []) ∨
  ∃ x, a = some x ∧ len ≤ cap ∧ cap ≤ maxLen ∧ zs.length = cap ∧ (∀ i, i < zs.length → w.cell? (x.add i) = some (.int k (zs.getD i 0))) ∧ ∀ n ∈ zs, (Lit.int k n).wf = true
set_option maxRecDepth 100000 in
theorem lifted (os : Os) (started : os.Started) (H : Type) (enc : TypeId × Value → H) :
    ReturnsInHanded {} Try.checked os 4 .any (Rows.dotTellsSpec.pre6 enc Try.prog Try.f4 Rows.dotTellsRow.domain false) (Rows.dotTellsSpec.post enc Try.prog Try.f4 false true false false) := by
  refine returnsInHanded_of_change_sized (C := Try.checked) own started (by kernel_rfl) Try.func4
    (ChangeSpec.witness6 (enc := enc) (C := Try.checked) false ⟨#[], #[.slice none 0 0, .int .i64 0, .agg #[.slice none 0 0, .slice none 0 0], .agg #[.slice none 0 0, .slice none 0 0]], []⟩ 8 (by kernel_rfl) (by kernel_rfl) (by kernel_rfl) (by kernel_rfl)) ?_
  intro W base args ds gs before hval0 hW hcnd hsz0 _
  have hsz : (DataW.weightsEach Try.prog (Try.f4.params.toList ++ Rows.dotTellsSpec.plain.varTypes Try.prog) (ds ++ gs)).all (· ≤ reachBytes) = true := hsz0
  have hval : ∀ (j : Nat) t v, Try.f4.params[j]? = some t → args[j]? = some v → Value.okWide Try.prog W .any base t v := hval0
  have hW' := hW
  obtain ⟨p, q, hA0, hV, rfl, hfz, hnd⟩ := hW
  have hA : DataW.TrodAll enc Try.prog W 0 (fun _ => true) true Try.f4.params.toList args.toList ds p := hA0
  rw [Try.params4] at hA hval hsz
  obtain ⟨v0, vs0, d0, ds0, p0, q0, hargs, rfl, rfl, h0, r0⟩ := trodAll_cons hA
  obtain ⟨v1, vs1, d1, ds1, p1, q1, rfl, rfl, rfl, h1, r1⟩ := trodAll_cons r0
  obtain ⟨v2, vs2, d2, ds2, p2, q2, rfl, rfl, rfl, h2, r2⟩ := trodAll_cons r1
  obtain ⟨v3, vs3, d3, ds3, p3, q3, rfl, rfl, rfl, h3, r3⟩ := trodAll_cons r2
  obtain ⟨rfl, rfl, rfl⟩ := trodAll_nil r3
  obtain rfl : args = #[v0, v1, v2, v3] := by cases args; simp_all
  obtain ⟨rfl, rfl⟩ := trodVars_none hV
  obtain ⟨a0, len0, cap0, rfl⟩ := okWide_slice Try.underlying22 (hval 0 22 v0 rfl rfl)
  have k0 := h0
  have lt0 : ∀ x ∈ p0, x.block < W.heap.size := by obtain ⟨m, hm⟩ := k0; exact DataW.trod_lt m _ _ _ hm
  obtain ⟨z0, w0⟩ : ∃ zs, IsRow .i64 W a0 len0 cap0 zs := by
    obtain ⟨fuel, hf⟩ := h0
    rcases open_ints Try.underlying22 Try.underlying3 (by kernel_rfl) hf with ⟨hcs, _⟩ | ⟨x, l, c, zs, hcs, _, hl, hm, hz, _, hcell, hwz⟩
    · simp [Value.cells] at hcs
      obtain ⟨rfl, rfl, rfl⟩ := hcs
      exact ⟨[], .inl ⟨rfl, rfl, rfl, rfl⟩⟩
    · simp [Value.cells] at hcs
      obtain ⟨rfl, rfl, rfl⟩ := hcs
      exact ⟨zs, .inr ⟨_, rfl, hl, hm, by simpa using hz, hcell, hwz⟩⟩
  have y0 : len0 * 8 ≤ 140737488351232 := Go.Proofs.YtapoeleiicnlbaaW.PrintWords.sized_ints hsz (j := 0) (t := 22) rfl rfl Try.underlying22 Try.underlying3 (by kernel_rfl) (by kernel_rfl) h0
  obtain ⟨a1, rfl, rfl, rfl, w1⟩ := open_int Try.underlying3 (hval 1 3 v1 rfl rfl) h1
  have k2 := h2
  have lt2 : ∀ x ∈ p2, x.block < W.heap.size := by obtain ⟨m, hm⟩ := k2; exact DataW.trod_lt m _ _ _ hm
  have hz2 : ∀ n ∈ DataW.weights Try.prog 26 d2, n ≤ reachBytes := fun n hn => by
    have := List.all_eq_true.1 hsz n (DataW.weights_mem_each (j := 2) rfl rfl n hn)
    simpa using this
  obtain ⟨c2_0, c2_1, y2_0, y2_1, m2, rfl, rfl, rfl, g2_0, g2_1⟩ := Joins.open_agg2 Try.underlying26 (by kernel_rfl) (by kernel_rfl) (hval 2 26 v2 rfl rfl) h2
  have hs2 : (DataW.weightsEach Try.prog [22, 24] [y2_0.1, y2_1.1]).all (· ≤ reachBytes) = true := by
    rw [List.all_eq_true]
    intro n hn
    have := hz2 n (by simp only [DataW.weights, Try.underlying26]; exact hn)
    simpa using this
  obtain ⟨a2_0, len2_0, cap2_0, e2_0⟩ := Joins.slice_form Try.underlying22 g2_0
  obtain rfl : c2_0 = .slice a2_0 len2_0 cap2_0 := by simpa using e2_0
  obtain ⟨z2_0, w2_0⟩ : ∃ zs, IsRow .i64 W a2_0 len2_0 cap2_0 zs := by
    rcases open_ints Try.underlying22 Try.underlying3 (by kernel_rfl) g2_0 with ⟨hcs, _⟩ | ⟨x, l, c, zs, hcs, _, hl, hm, hz, _, hcell, hwz⟩
    · simp at hcs
      obtain ⟨rfl, rfl, rfl⟩ := hcs
      exact ⟨[], .inl ⟨rfl, rfl, rfl, rfl⟩⟩
    · simp at hcs
      obtain ⟨rfl, rfl, rfl⟩ := hcs
      exact ⟨zs, .inr ⟨_, rfl, hl, hm, by simpa using hz, hcell, hwz⟩⟩
  have yy2_0 : len2_0 * 8 ≤ 140737488351232 := Go.Proofs.YtapoeleiicnlbaaW.PrintWords.sized_ints hs2 (j := 0) (t := 22) rfl rfl Try.underlying22 Try.underlying3 (by kernel_rfl) (by kernel_rfl) ⟨m2, by simpa [Value.cells] using g2_0⟩
  obtain ⟨a2_1, len2_1, cap2_1, e2_1⟩ := Joins.slice_form Try.underlying24 g2_1
  obtain rfl : c2_1 = .slice a2_1 len2_1 cap2_1 := by simpa using e2_1
  obtain ⟨z2_1, w2_1⟩ : ∃ zs, IsRow .i64 W a2_1 len2_1 cap2_1 zs := by
    rcases open_ints Try.underlying24 Try.underlying2 (by kernel_rfl) g2_1 with ⟨hcs, _⟩ | ⟨x, l, c, zs, hcs, _, hl, hm, hz, _, hcell, hwz⟩
    · simp at hcs
      obtain ⟨rfl, rfl, rfl⟩ := hcs
      exact ⟨[], .inl ⟨rfl, rfl, rfl, rfl⟩⟩
    · simp at hcs
      obtain ⟨rfl, rfl, rfl⟩ := hcs
      exact ⟨zs, .inr ⟨_, rfl, hl, hm, by simpa using hz, hcell, hwz⟩⟩
  have yy2_1 : len2_1 * 8 ≤ 140737488351232 := Go.Proofs.YtapoeleiicnlbaaW.PrintWords.sized_ints hs2 (j := 1) (t := 24) rfl rfl Try.underlying24 Try.underlying2 (by kernel_rfl) (by kernel_rfl) ⟨m2, by simpa [Value.cells] using g2_1⟩
  have k3 := h3
  have lt3 : ∀ x ∈ p3, x.block < W.heap.size := by obtain ⟨m, hm⟩ := k3; exact DataW.trod_lt m _ _ _ hm
  have hz3 : ∀ n ∈ DataW.weights Try.prog 26 d3, n ≤ reachBytes := fun n hn => by
    have := List.all_eq_true.1 hsz n (DataW.weights_mem_each (j := 3) rfl rfl n hn)
    simpa using this
  obtain ⟨c3_0, c3_1, y3_0, y3_1, m3, rfl, rfl, rfl, g3_0, g3_1⟩ := Joins.open_agg2 Try.underlying26 (by kernel_rfl) (by kernel_rfl) (hval 3 26 v3 rfl rfl) h3
  have hs3 : (DataW.weightsEach Try.prog [22, 24] [y3_0.1, y3_1.1]).all (· ≤ reachBytes) = true := by
    rw [List.all_eq_true]
    intro n hn
    have := hz3 n (by simp only [DataW.weights, Try.underlying26]; exact hn)
    simpa using this
  obtain ⟨a3_0, len3_0, cap3_0, e3_0⟩ := Joins.slice_form Try.underlying22 g3_0
  obtain rfl : c3_0 = .slice a3_0 len3_0 cap3_0 := by simpa using e3_0
  obtain ⟨z3_0, w3_0⟩ : ∃ zs, IsRow .i64 W a3_0 len3_0 cap3_0 zs := by
    rcases open_ints Try.underlying22 Try.underlying3 (by kernel_rfl) g3_0 with ⟨hcs, _⟩ | ⟨x, l, c, zs, hcs, _, hl, hm, hz, _, hcell, hwz⟩
    · simp at hcs
      obtain ⟨rfl, rfl, rfl⟩ := hcs
      exact ⟨[], .inl ⟨rfl, rfl, rfl, rfl⟩⟩
    · simp at hcs
      obtain ⟨rfl, rfl, rfl⟩ := hcs
      exact ⟨zs, .inr ⟨_, rfl, hl, hm, by simpa using hz, hcell, hwz⟩⟩
  have yy3_0 : len3_0 * 8 ≤ 140737488351232 := Go.Proofs.YtapoeleiicnlbaaW.PrintWords.sized_ints hs3 (j := 0) (t := 22) rfl rfl Try.underlying22 Try.underlying3 (by kernel_rfl) (by kernel_rfl) ⟨m3, by simpa [Value.cells] using g3_0⟩
  obtain ⟨a3_1, len3_1, cap3_1, e3_1⟩ := Joins.slice_form Try.underlying24 g3_1
  obtain rfl : c3_1 = .slice a3_1 len3_1 cap3_1 := by simpa using e3_1
  obtain ⟨z3_1, w3_1⟩ : ∃ zs, IsRow .i64 W a3_1 len3_1 cap3_1 zs := by
    rcases open_ints Try.underlying24 Try.underlying2 (by kernel_rfl) g3_1 with ⟨hcs, _⟩ | ⟨x, l, c, zs, hcs, _, hl, hm, hz, _, hcell, hwz⟩
    · simp at hcs
      obtain ⟨rfl, rfl, rfl⟩ := hcs
      exact ⟨[], .inl ⟨rfl, rfl, rfl, rfl⟩⟩
    · simp at hcs
      obtain ⟨rfl, rfl, rfl⟩ := hcs
      exact ⟨zs, .inr ⟨_, rfl, hl, hm, by simpa using hz, hcell, hwz⟩⟩
  have yy3_1 : len3_1 * 8 ≤ 140737488351232 := Go.Proofs.YtapoeleiicnlbaaW.PrintWords.sized_ints hs3 (j := 1) (t := 24) rfl rfl Try.underlying24 Try.underlying2 (by kernel_rfl) (by kernel_rfl) ⟨m3, by simpa [Value.cells] using g3_1⟩
  clear hA0 hval0 hsz0 hsz
  refine (Q.parquetrylaw7_DotTells.walk Pure.DotTells a0 len0 cap0 z0 a1 a2_0 len2_0 cap2_0 z2_0 a2_1 len2_1 cap2_1 z2_1 a3_0 len3_0 cap3_0 z3_0 a3_1 len3_1 cap3_1 z3_1 W w0 y0 w1 w2_0 yy2_0 w2_1 yy2_1 w3_0 yy3_0 w3_1 yy3_1).mono fun e W' ⟨he, bel⟩ => ?_
  subst he
  exact ⟨_, rfl, _, _, _, [], _, [], hW', trodAll_mk1 (shut_bool Try.underlying4 _), (trodAll_cons_mk (Below.trod laidOut (by kernel_rfl) (of_decide_eq_true (by kernel_rfl)) k0 bel lt0) (trodAll_cons_mk (shut_int Try.underlying3 w1) (trodAll_cons_mk (Below.trod laidOut (by kernel_rfl) (of_decide_eq_true (by kernel_rfl)) k2 bel lt2) (trodAll_cons_mk (Below.trod laidOut (by kernel_rfl) (of_decide_eq_true (by kernel_rfl)) k3 bel lt3) trodAll_mk0)))), rfl, bel.frame _, fun h => by cases h⟩
theorem over : Rows.dotTellsRow.holds Try.pinned (OpenSpec.ofChange Rows.dotTellsSpec) :=
  OpenClaim.holds_of_wide 4 Try.f4 rfl rfl rfl rfl rfl rfl rfl ⟨rfl, rfl, rfl, rfl, rfl⟩ rfl rfl rfl rfl rfl (by kernel_rfl) Try.func4 (by kernel_rfl)
    (of_decide_eq_true (by kernel_rfl)) (by unfold Func.isWrapper; first | (rw [if_pos (by decide +kernel)]; kernel_rfl) | (rw [if_neg (by decide +kernel)]; exact ⟨rfl, rfl⟩))
    (fun os started H enc _ => lifted os started H enc)
theorem proved : Rows.DotTellsSaid := over
#print axioms proved
end Go.Proofs.Ytapoeleiicnlbaa.dotTells
namespace Go.Proofs.Ytapoeleiicnlbaa
/-- The row, under a short name, for the claim. -/
theorem dotTells_holds : Rows.DotTellsSaid := dotTells.proved
end Go.Proofs.Ytapoeleiicnlbaa
