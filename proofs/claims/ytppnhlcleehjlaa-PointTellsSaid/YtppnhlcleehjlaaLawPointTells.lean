-- Printed by a program (a variant of the kit print, with contracts of our own).
import Derived.Test.YtppnhlcleehjlaaRows
import Derived.Test.YtppnhlcleehjlaaQx21
import Derived.Test.YtppnhlcleehjlaaPurePointTells
import Derived.WalkKit
import Derived.ProofKit
import Derived.OpenShut
import Derived.ShutString
import Derived.ChangeOld
import Derived.Below
import Derived.SizedLaws
import Derived.Lib.SmallJoins
import Derived.Test.YtppnhlcleehjlaaWSized
namespace Go.Proofs.Ytppnhlcleehjlaa.pointTells
open Go.ChangeShapes Go.WideShapes Go.ChangeAt Go.RowKit
open Go.ChangeMaps (open_string shut_string)
set_option linter.unusedVariables false
theorem own : ownKnob Try.prog.godebug = none := by kernel_rfl
theorem laidOut : laidOutB Try.prog = true := by kernel_rfl
def IsRow (k : IntKind) (w : World) (a : Option Addr) (len cap : Nat) (zs : List Int) : Prop :=
  (a = none ∧ len = 0 ∧ cap = 0 ∧ zs = []) ∨
  ∃ x, a = some x ∧ len ≤ cap ∧ cap ≤ maxLen ∧ zs.length = cap ∧ (∀ i, i < zs.length → w.cell? (x.add i) = some (.int k (zs.getD i 0))) ∧ ∀ n ∈ zs, (Lit.int k n).wf = true
set_option maxRecDepth 100000 in
theorem lifted (os : Os) (started : os.Started) (H : Type) (enc : TypeId × Value → H) :
    ReturnsInHanded {} Try.checked os 4 .any (Rows.pointTellsSpec.pre6 enc Try.prog Try.f4 Rows.pointTellsRow.domain false) (Rows.pointTellsSpec.post enc Try.prog Try.f4 false true false false) := by
  refine returnsInHanded_of_change_sized (C := Try.checked) own started (by kernel_rfl) Try.func4
    (ChangeSpec.witness6 (enc := enc) (C := Try.checked) false ⟨#[], #[.int .i64 0, .slice none 0 0, .int .i64 0, .int .i64 0, .agg #[.slice none 0 0, .slice none 0 0], .agg #[.slice none 0 0, .slice none 0 0]], []⟩ 8 (by kernel_rfl) (by kernel_rfl) (by kernel_rfl) (by kernel_rfl)) ?_
  intro W base args ds gs before hval0 hW hcnd hsz0 _
  have hsz : (DataW.weightsEach Try.prog (Try.f4.params.toList ++ Rows.pointTellsSpec.plain.varTypes Try.prog) (ds ++ gs)).all (· ≤ reachBytes) = true := hsz0
  have hval : ∀ (j : Nat) t v, Try.f4.params[j]? = some t → args[j]? = some v → Value.okWide Try.prog W .any base t v := hval0
  have hW' := hW
  obtain ⟨p, q, hA0, hV, rfl, hfz, hnd⟩ := hW
  have hA : DataW.TrodAll enc Try.prog W 0 (fun _ => true) true Try.f4.params.toList args.toList ds p := hA0
  rw [Try.params4] at hA hval hsz
  obtain ⟨v0, vs0, d0, ds0, p0, q0, hargs, rfl, rfl, h0, r0⟩ := trodAll_cons hA
  obtain ⟨v1, vs1, d1, ds1, p1, q1, rfl, rfl, rfl, h1, r1⟩ := trodAll_cons r0
  obtain ⟨v2, vs2, d2, ds2, p2, q2, rfl, rfl, rfl, h2, r2⟩ := trodAll_cons r1
  obtain ⟨v3, vs3, d3, ds3, p3, q3, rfl, rfl, rfl, h3, r3⟩ := trodAll_cons r2
  obtain ⟨v4, vs4, d4, ds4, p4, q4, rfl, rfl, rfl, h4, r4⟩ := trodAll_cons r3
  obtain ⟨v5, vs5, d5, ds5, p5, q5, rfl, rfl, rfl, h5, r5⟩ := trodAll_cons r4
  obtain ⟨rfl, rfl, rfl⟩ := trodAll_nil r5
  obtain rfl : args = #[v0, v1, v2, v3, v4, v5] := by cases args; simp_all
  obtain ⟨rfl, rfl⟩ := trodVars_none hV
  obtain ⟨a0, rfl, rfl, rfl, w0⟩ := open_int Try.underlying3 (hval 0 3 v0 rfl rfl) h0
  obtain ⟨a1, len1, cap1, rfl⟩ := okWide_slice Try.underlying25 (hval 1 25 v1 rfl rfl)
  have k1 := h1
  have lt1 : ∀ x ∈ p1, x.block < W.heap.size := by obtain ⟨m, hm⟩ := k1; exact DataW.trod_lt m _ _ _ hm
  obtain ⟨z1, w1⟩ : ∃ zs, IsRow .i64 W a1 len1 cap1 zs := by
    obtain ⟨fuel, hf⟩ := h1
    rcases open_ints Try.underlying25 Try.underlying3 (by kernel_rfl) hf with ⟨hcs, _⟩ | ⟨x, l, c, zs, hcs, _, hl, hm, hz, _, hcell, hwz⟩
    · simp [Value.cells] at hcs
      obtain ⟨rfl, rfl, rfl⟩ := hcs
      exact ⟨[], .inl ⟨rfl, rfl, rfl, rfl⟩⟩
    · simp [Value.cells] at hcs
      obtain ⟨rfl, rfl, rfl⟩ := hcs
      exact ⟨zs, .inr ⟨_, rfl, hl, hm, by simpa using hz, hcell, hwz⟩⟩
  have y1 : len1 * 8 ≤ 140737488351232 := Go.Proofs.YtppnhlcleehjlaaW.PrintWords.sized_ints hsz (j := 1) (t := 25) rfl rfl Try.underlying25 Try.underlying3 (by kernel_rfl) (by kernel_rfl) h1
  obtain ⟨a2, rfl, rfl, rfl, w2⟩ := open_int Try.underlying2 (hval 2 2 v2 rfl rfl) h2
  obtain ⟨a3, rfl, rfl, rfl, w3⟩ := open_int Try.underlying2 (hval 3 2 v3 rfl rfl) h3
  have k4 := h4
  have lt4 : ∀ x ∈ p4, x.block < W.heap.size := by obtain ⟨m, hm⟩ := k4; exact DataW.trod_lt m _ _ _ hm
  have hz4 : ∀ n ∈ DataW.weights Try.prog 27 d4, n ≤ reachBytes := fun n hn => by
    have := List.all_eq_true.1 hsz n (DataW.weights_mem_each (j := 4) rfl rfl n hn)
    simpa using this
  obtain ⟨c4_0, c4_1, y4_0, y4_1, m4, rfl, rfl, rfl, g4_0, g4_1⟩ := Joins.open_agg2 Try.underlying27 (by kernel_rfl) (by kernel_rfl) (hval 4 27 v4 rfl rfl) h4
  have hs4 : (DataW.weightsEach Try.prog [25, 22] [y4_0.1, y4_1.1]).all (· ≤ reachBytes) = true := by
    rw [List.all_eq_true]
    intro n hn
    have := hz4 n (by simp only [DataW.weights, Try.underlying27]; exact hn)
    simpa using this
  obtain ⟨a4_0, len4_0, cap4_0, e4_0⟩ := Joins.slice_form Try.underlying25 g4_0
  obtain rfl : c4_0 = .slice a4_0 len4_0 cap4_0 := by simpa using e4_0
  obtain ⟨z4_0, w4_0⟩ : ∃ zs, IsRow .i64 W a4_0 len4_0 cap4_0 zs := by
    rcases open_ints Try.underlying25 Try.underlying3 (by kernel_rfl) g4_0 with ⟨hcs, _⟩ | ⟨x, l, c, zs, hcs, _, hl, hm, hz, _, hcell, hwz⟩
    · simp at hcs
      obtain ⟨rfl, rfl, rfl⟩ := hcs
      exact ⟨[], .inl ⟨rfl, rfl, rfl, rfl⟩⟩
    · simp at hcs
      obtain ⟨rfl, rfl, rfl⟩ := hcs
      exact ⟨zs, .inr ⟨_, rfl, hl, hm, by simpa using hz, hcell, hwz⟩⟩
  have yy4_0 : len4_0 * 8 ≤ 140737488351232 := Go.Proofs.YtppnhlcleehjlaaW.PrintWords.sized_ints hs4 (j := 0) (t := 25) rfl rfl Try.underlying25 Try.underlying3 (by kernel_rfl) (by kernel_rfl) ⟨m4, by simpa [Value.cells] using g4_0⟩
  obtain ⟨a4_1, len4_1, cap4_1, e4_1⟩ := Joins.slice_form Try.underlying22 g4_1
  obtain rfl : c4_1 = .slice a4_1 len4_1 cap4_1 := by simpa using e4_1
  obtain ⟨z4_1, w4_1⟩ : ∃ zs, IsRow .i64 W a4_1 len4_1 cap4_1 zs := by
    rcases open_ints Try.underlying22 Try.underlying2 (by kernel_rfl) g4_1 with ⟨hcs, _⟩ | ⟨x, l, c, zs, hcs, _, hl, hm, hz, _, hcell, hwz⟩
    · simp at hcs
      obtain ⟨rfl, rfl, rfl⟩ := hcs
      exact ⟨[], .inl ⟨rfl, rfl, rfl, rfl⟩⟩
    · simp at hcs
      obtain ⟨rfl, rfl, rfl⟩ := hcs
      exact ⟨zs, .inr ⟨_, rfl, hl, hm, by simpa using hz, hcell, hwz⟩⟩
  have yy4_1 : len4_1 * 8 ≤ 140737488351232 := Go.Proofs.YtppnhlcleehjlaaW.PrintWords.sized_ints hs4 (j := 1) (t := 22) rfl rfl Try.underlying22 Try.underlying2 (by kernel_rfl) (by kernel_rfl) ⟨m4, by simpa [Value.cells] using g4_1⟩
  have k5 := h5
  have lt5 : ∀ x ∈ p5, x.block < W.heap.size := by obtain ⟨m, hm⟩ := k5; exact DataW.trod_lt m _ _ _ hm
  have hz5 : ∀ n ∈ DataW.weights Try.prog 27 d5, n ≤ reachBytes := fun n hn => by
    have := List.all_eq_true.1 hsz n (DataW.weights_mem_each (j := 5) rfl rfl n hn)
    simpa using this
  obtain ⟨c5_0, c5_1, y5_0, y5_1, m5, rfl, rfl, rfl, g5_0, g5_1⟩ := Joins.open_agg2 Try.underlying27 (by kernel_rfl) (by kernel_rfl) (hval 5 27 v5 rfl rfl) h5
  have hs5 : (DataW.weightsEach Try.prog [25, 22] [y5_0.1, y5_1.1]).all (· ≤ reachBytes) = true := by
    rw [List.all_eq_true]
    intro n hn
    have := hz5 n (by simp only [DataW.weights, Try.underlying27]; exact hn)
    simpa using this
  obtain ⟨a5_0, len5_0, cap5_0, e5_0⟩ := Joins.slice_form Try.underlying25 g5_0
  obtain rfl : c5_0 = .slice a5_0 len5_0 cap5_0 := by simpa using e5_0
  obtain ⟨z5_0, w5_0⟩ : ∃ zs, IsRow .i64 W a5_0 len5_0 cap5_0 zs := by
    rcases open_ints Try.underlying25 Try.underlying3 (by kernel_rfl) g5_0 with ⟨hcs, _⟩ | ⟨x, l, c, zs, hcs, _, hl, hm, hz, _, hcell, hwz⟩
    · simp at hcs
      obtain ⟨rfl, rfl, rfl⟩ := hcs
      exact ⟨[], .inl ⟨rfl, rfl, rfl, rfl⟩⟩
    · simp at hcs
      obtain ⟨rfl, rfl, rfl⟩ := hcs
      exact ⟨zs, .inr ⟨_, rfl, hl, hm, by simpa using hz, hcell, hwz⟩⟩
  have yy5_0 : len5_0 * 8 ≤ 140737488351232 := Go.Proofs.YtppnhlcleehjlaaW.PrintWords.sized_ints hs5 (j := 0) (t := 25) rfl rfl Try.underlying25 Try.underlying3 (by kernel_rfl) (by kernel_rfl) ⟨m5, by simpa [Value.cells] using g5_0⟩
  obtain ⟨a5_1, len5_1, cap5_1, e5_1⟩ := Joins.slice_form Try.underlying22 g5_1
  obtain rfl : c5_1 = .slice a5_1 len5_1 cap5_1 := by simpa using e5_1
  obtain ⟨z5_1, w5_1⟩ : ∃ zs, IsRow .i64 W a5_1 len5_1 cap5_1 zs := by
    rcases open_ints Try.underlying22 Try.underlying2 (by kernel_rfl) g5_1 with ⟨hcs, _⟩ | ⟨x, l, c, zs, hcs, _, hl, hm, hz, _, hcell, hwz⟩
    · simp at hcs
      obtain ⟨rfl, rfl, rfl⟩ := hcs
      exact ⟨[], .inl ⟨rfl, rfl, rfl, rfl⟩⟩
    · simp at hcs
      obtain ⟨rfl, rfl, rfl⟩ := hcs
      exact ⟨zs, .inr ⟨_, rfl, hl, hm, by simpa using hz, hcell, hwz⟩⟩
  have yy5_1 : len5_1 * 8 ≤ 140737488351232 := Go.Proofs.YtppnhlcleehjlaaW.PrintWords.sized_ints hs5 (j := 1) (t := 22) rfl rfl Try.underlying22 Try.underlying2 (by kernel_rfl) (by kernel_rfl) ⟨m5, by simpa [Value.cells] using g5_1⟩
  clear hA0 hval0 hsz0 hsz
  refine (Q.parquetrylaw4_PointTells.walk Pure.PointTells a0 a1 len1 cap1 z1 a2 a3 a4_0 len4_0 cap4_0 z4_0 a4_1 len4_1 cap4_1 z4_1 a5_0 len5_0 cap5_0 z5_0 a5_1 len5_1 cap5_1 z5_1 W w0 w1 y1 w2 w3 w4_0 yy4_0 w4_1 yy4_1 w5_0 yy5_0 w5_1 yy5_1).mono fun e W' ⟨he, bel⟩ => ?_
  subst he
  exact ⟨_, rfl, _, _, _, [], _, [], hW', trodAll_mk1 (shut_bool Try.underlying4 _), (trodAll_cons_mk (shut_int Try.underlying3 w0) (trodAll_cons_mk (Below.trod laidOut (by kernel_rfl) (of_decide_eq_true (by kernel_rfl)) k1 bel lt1) (trodAll_cons_mk (shut_int Try.underlying2 w2) (trodAll_cons_mk (shut_int Try.underlying2 w3) (trodAll_cons_mk (Below.trod laidOut (by kernel_rfl) (of_decide_eq_true (by kernel_rfl)) k4 bel lt4) (trodAll_cons_mk (Below.trod laidOut (by kernel_rfl) (of_decide_eq_true (by kernel_rfl)) k5 bel lt5) trodAll_mk0)))))), rfl, bel.frame _, fun h => by cases h⟩
theorem over : Rows.pointTellsRow.holds Try.pinned (OpenSpec.ofChange Rows.pointTellsSpec) :=
  OpenClaim.holds_of_wide 4 Try.f4 rfl rfl rfl rfl rfl rfl rfl ⟨rfl, rfl, rfl, rfl, rfl⟩ rfl rfl rfl rfl rfl (by kernel_rfl) Try.func4 (by kernel_rfl)
    (of_decide_eq_true (by kernel_rfl)) (by unfold Func.isWrapper; first | (rw [if_pos (by decide +kernel)]; kernel_rfl) | (rw [if_neg (by decide +kernel)]; exact ⟨rfl, rfl⟩))
    (fun os started H enc _ => lifted os started H enc)
theorem proved : Rows.PointTellsSaid := over
#print axioms proved
end Go.Proofs.Ytppnhlcleehjlaa.pointTells
namespace Go.Proofs.Ytppnhlcleehjlaa
/-- The row, under a short name, for the claim. -/
theorem pointTells_holds : Rows.PointTellsSaid := pointTells.proved
end Go.Proofs.Ytppnhlcleehjlaa
