/-
  No cell of these rows narrows 'for every input' (looked for: loops, veiled, ifaces, maps, wideKeys, modest, calm, conditions, laid).
  DERIVED. THE GIVEN ROWS OF THIS SEAT. 16 by the template 'for every input the law returns true; each argument reads behind the call as it read before'; 0 by the template 'total and deterministic' (their statements: YtkeclgfnlpkjeaaTotals.lean).
  GIVEN WITH THE SEED: the statements are not yours to turn. If you find one false, say at which input.
  Laid BY PROGRAM, IN A SANDBOX (cutbox-rows.mjs): the forced cells as the released guide's own fill.sh prints them over the translation 2d657e4977361fef… (all of the seat's roots in one cut). By AI agents, Wed Nov 11 2026. No macro, syntax, notation, axiom, sorry.
-/
import Derived.Test.YtkeclgfnlpkjeaaChecked
import GoSem.Claim
import GoSem.ClaimJoined
import GoSem.ClaimMapViews
import Derived.JoinedTies
import Derived.KernelRfl
namespace Go.Proofs.Ytkeclgfnlpkjeaa
/- THE CELL 'sum', in the pinned program and in every row, IS THE sha256 OF THE DUMP (.gsa) THAT YtkeclgfnlpkjeaaProg.lean LOADS. Nothing in Lean hashes anything: it is a label: what it is worth is what the hold of that sum in a sandbox is worth. -/
noncomputable def Try.pinned : Pinned := { name := "ytkeclgfnlpkjeaa", sum := "2d657e4977361fef27d193bfaf39fe058b2184434409665881b47661856d6776", checked := Try.checked }
namespace Rows
def none {H : Type} : Left H := { results := [], args := [] }

/-- 'parquetrylaw4.PointNumbers': WHATEVER THE INPUT: true; the input reads as it did. -/
def pointNumbersSpec : ChangeSpec := { name := "pointNumbers", fn := fun _ => fun
  | [] => { results := [.lit (.bool true)], args := [] }
  | _ => none }
def pointNumbersRow : OpenClaim := { program := "ytkeclgfnlpkjeaa", sum := "2d657e4977361fef27d193bfaf39fe058b2184434409665881b47661856d6776", func := "parquetry/parquetrylaw4.PointNumbers", spec := "pointNumbers", unfollowed := true, recurses := true, apart := false }
def PointNumbersSaid : Prop := pointNumbersRow.holds Try.pinned (OpenSpec.ofChange pointNumbersSpec)

/-- ITS FALSE NEIGHBOUR: 'it returns false'. Refute it at one input. -/
def pointNumbersWrong : ChangeSpec := { name := "pointNumbers", fn := fun _ => fun
  | [] => { results := [.lit (.bool false)], args := [] }
  | _ => none }
def PointNumbersWrongFalsely : Prop := pointNumbersRow.holds Try.pinned (OpenSpec.ofChange pointNumbersWrong)

/-- 'parquetrylaw4.PointTells': WHATEVER THE INPUT: true; the input reads as it did. -/
def pointTellsSpec : ChangeSpec := { name := "pointTells", fn := fun _ => fun
  | [d1, d2, d3, d4, d5, d6] => { results := [.lit (.bool true)], args := [d1, d2, d3, d4, d5, d6] }
  | _ => none }
def pointTellsRow : OpenClaim := { program := "ytkeclgfnlpkjeaa", sum := "2d657e4977361fef27d193bfaf39fe058b2184434409665881b47661856d6776", func := "parquetry/parquetrylaw4.PointTells", spec := "pointTells", unfollowed := true, recurses := true, apart := false }
def PointTellsSaid : Prop := pointTellsRow.holds Try.pinned (OpenSpec.ofChange pointTellsSpec)

/-- ITS FALSE NEIGHBOUR: 'it returns false'. Refute it at one input. -/
def pointTellsWrong : ChangeSpec := { name := "pointTells", fn := fun _ => fun
  | [d1, d2, d3, d4, d5, d6] => { results := [.lit (.bool false)], args := [d1, d2, d3, d4, d5, d6] }
  | _ => none }
def PointTellsWrongFalsely : Prop := pointTellsRow.holds Try.pinned (OpenSpec.ofChange pointTellsWrong)

/-- 'parquetrylaw4.PointPairs': WHATEVER THE INPUT: true; the input reads as it did. -/
def pointPairsSpec : ChangeSpec := { name := "pointPairs", fn := fun _ => fun
  | [d] => { results := [.lit (.bool true)], args := [d] }
  | _ => none }
def pointPairsRow : OpenClaim := { program := "ytkeclgfnlpkjeaa", sum := "2d657e4977361fef27d193bfaf39fe058b2184434409665881b47661856d6776", func := "parquetry/parquetrylaw4.PointPairs", spec := "pointPairs", unfollowed := true, recurses := true, apart := false }
def PointPairsSaid : Prop := pointPairsRow.holds Try.pinned (OpenSpec.ofChange pointPairsSpec)

/-- ITS FALSE NEIGHBOUR: 'it returns false'. Refute it at one input. -/
def pointPairsWrong : ChangeSpec := { name := "pointPairs", fn := fun _ => fun
  | [d] => { results := [.lit (.bool false)], args := [d] }
  | _ => none }
def PointPairsWrongFalsely : Prop := pointPairsRow.holds Try.pinned (OpenSpec.ofChange pointPairsWrong)

/-- 'parquetrylaw4.PointTruths': WHATEVER THE INPUT: true; the input reads as it did. -/
def pointTruthsSpec : ChangeSpec := { name := "pointTruths", fn := fun _ => fun
  | [d] => { results := [.lit (.bool true)], args := [d] }
  | _ => none }
def pointTruthsRow : OpenClaim := { program := "ytkeclgfnlpkjeaa", sum := "2d657e4977361fef27d193bfaf39fe058b2184434409665881b47661856d6776", func := "parquetry/parquetrylaw4.PointTruths", spec := "pointTruths", unfollowed := true, recurses := true, apart := false }
def PointTruthsSaid : Prop := pointTruthsRow.holds Try.pinned (OpenSpec.ofChange pointTruthsSpec)

/-- ITS FALSE NEIGHBOUR: 'it returns false'. Refute it at one input. -/
def pointTruthsWrong : ChangeSpec := { name := "pointTruths", fn := fun _ => fun
  | [d] => { results := [.lit (.bool false)], args := [d] }
  | _ => none }
def PointTruthsWrongFalsely : Prop := pointTruthsRow.holds Try.pinned (OpenSpec.ofChange pointTruthsWrong)

/-- 'parquetrylaw8.WindowNumbers': WHATEVER THE INPUT: true; the input reads as it did. -/
def windowNumbersSpec : ChangeSpec := { name := "windowNumbers", fn := fun _ => fun
  | [] => { results := [.lit (.bool true)], args := [] }
  | _ => none }
def windowNumbersRow : OpenClaim := { program := "ytkeclgfnlpkjeaa", sum := "2d657e4977361fef27d193bfaf39fe058b2184434409665881b47661856d6776", func := "parquetry/parquetrylaw8.WindowNumbers", spec := "windowNumbers", unfollowed := true, recurses := true, apart := false }
def WindowNumbersSaid : Prop := windowNumbersRow.holds Try.pinned (OpenSpec.ofChange windowNumbersSpec)

/-- ITS FALSE NEIGHBOUR: 'it returns false'. Refute it at one input. -/
def windowNumbersWrong : ChangeSpec := { name := "windowNumbers", fn := fun _ => fun
  | [] => { results := [.lit (.bool false)], args := [] }
  | _ => none }
def WindowNumbersWrongFalsely : Prop := windowNumbersRow.holds Try.pinned (OpenSpec.ofChange windowNumbersWrong)

/-- 'parquetrylaw8.WindowTells': WHATEVER THE INPUT: true; the input reads as it did. -/
def windowTellsSpec : ChangeSpec := { name := "windowTells", fn := fun _ => fun
  | [d1, d2, d3, d4, d5, d6] => { results := [.lit (.bool true)], args := [d1, d2, d3, d4, d5, d6] }
  | _ => none }
def windowTellsRow : OpenClaim := { program := "ytkeclgfnlpkjeaa", sum := "2d657e4977361fef27d193bfaf39fe058b2184434409665881b47661856d6776", func := "parquetry/parquetrylaw8.WindowTells", spec := "windowTells", unfollowed := true, recurses := true, apart := false }
def WindowTellsSaid : Prop := windowTellsRow.holds Try.pinned (OpenSpec.ofChange windowTellsSpec)

/-- ITS FALSE NEIGHBOUR: 'it returns false'. Refute it at one input. -/
def windowTellsWrong : ChangeSpec := { name := "windowTells", fn := fun _ => fun
  | [d1, d2, d3, d4, d5, d6] => { results := [.lit (.bool false)], args := [d1, d2, d3, d4, d5, d6] }
  | _ => none }
def WindowTellsWrongFalsely : Prop := windowTellsRow.holds Try.pinned (OpenSpec.ofChange windowTellsWrong)

/-- 'parquetrylaw8.WindowOnes': WHATEVER THE INPUT: true; the input reads as it did. -/
def windowOnesSpec : ChangeSpec := { name := "windowOnes", fn := fun _ => fun
  | [d1, d2, d3] => { results := [.lit (.bool true)], args := [d1, d2, d3] }
  | _ => none }
def windowOnesRow : OpenClaim := { program := "ytkeclgfnlpkjeaa", sum := "2d657e4977361fef27d193bfaf39fe058b2184434409665881b47661856d6776", func := "parquetry/parquetrylaw8.WindowOnes", spec := "windowOnes", unfollowed := true, recurses := true, apart := false }
def WindowOnesSaid : Prop := windowOnesRow.holds Try.pinned (OpenSpec.ofChange windowOnesSpec)

/-- ITS FALSE NEIGHBOUR: 'it returns false'. Refute it at one input. -/
def windowOnesWrong : ChangeSpec := { name := "windowOnes", fn := fun _ => fun
  | [d1, d2, d3] => { results := [.lit (.bool false)], args := [d1, d2, d3] }
  | _ => none }
def WindowOnesWrongFalsely : Prop := windowOnesRow.holds Try.pinned (OpenSpec.ofChange windowOnesWrong)

/-- 'parquetrylaw8.WindowCounts': WHATEVER THE INPUT: true; the input reads as it did. -/
def windowCountsSpec : ChangeSpec := { name := "windowCounts", fn := fun _ => fun
  | [d1, d2, d3] => { results := [.lit (.bool true)], args := [d1, d2, d3] }
  | _ => none }
def windowCountsRow : OpenClaim := { program := "ytkeclgfnlpkjeaa", sum := "2d657e4977361fef27d193bfaf39fe058b2184434409665881b47661856d6776", func := "parquetry/parquetrylaw8.WindowCounts", spec := "windowCounts", unfollowed := true, recurses := true, apart := false }
def WindowCountsSaid : Prop := windowCountsRow.holds Try.pinned (OpenSpec.ofChange windowCountsSpec)

/-- ITS FALSE NEIGHBOUR: 'it returns false'. Refute it at one input. -/
def windowCountsWrong : ChangeSpec := { name := "windowCounts", fn := fun _ => fun
  | [d1, d2, d3] => { results := [.lit (.bool false)], args := [d1, d2, d3] }
  | _ => none }
def WindowCountsWrongFalsely : Prop := windowCountsRow.holds Try.pinned (OpenSpec.ofChange windowCountsWrong)

/-- 'parquetrylaw6.FoldNumbers': WHATEVER THE INPUT: true; the input reads as it did. -/
def foldNumbersSpec : ChangeSpec := { name := "foldNumbers", fn := fun _ => fun
  | [] => { results := [.lit (.bool true)], args := [] }
  | _ => none }
def foldNumbersRow : OpenClaim := { program := "ytkeclgfnlpkjeaa", sum := "2d657e4977361fef27d193bfaf39fe058b2184434409665881b47661856d6776", func := "parquetry/parquetrylaw6.FoldNumbers", spec := "foldNumbers", unfollowed := true, recurses := true, apart := false }
def FoldNumbersSaid : Prop := foldNumbersRow.holds Try.pinned (OpenSpec.ofChange foldNumbersSpec)

/-- ITS FALSE NEIGHBOUR: 'it returns false'. Refute it at one input. -/
def foldNumbersWrong : ChangeSpec := { name := "foldNumbers", fn := fun _ => fun
  | [] => { results := [.lit (.bool false)], args := [] }
  | _ => none }
def FoldNumbersWrongFalsely : Prop := foldNumbersRow.holds Try.pinned (OpenSpec.ofChange foldNumbersWrong)

/-- 'parquetrylaw6.FoldTells': WHATEVER THE INPUT: true; the input reads as it did. -/
def foldTellsSpec : ChangeSpec := { name := "foldTells", fn := fun _ => fun
  | [d1, d2, d3, d4, d5, d6] => { results := [.lit (.bool true)], args := [d1, d2, d3, d4, d5, d6] }
  | _ => none }
def foldTellsRow : OpenClaim := { program := "ytkeclgfnlpkjeaa", sum := "2d657e4977361fef27d193bfaf39fe058b2184434409665881b47661856d6776", func := "parquetry/parquetrylaw6.FoldTells", spec := "foldTells", unfollowed := true, recurses := true, apart := false }
def FoldTellsSaid : Prop := foldTellsRow.holds Try.pinned (OpenSpec.ofChange foldTellsSpec)

/-- ITS FALSE NEIGHBOUR: 'it returns false'. Refute it at one input. -/
def foldTellsWrong : ChangeSpec := { name := "foldTells", fn := fun _ => fun
  | [d1, d2, d3, d4, d5, d6] => { results := [.lit (.bool false)], args := [d1, d2, d3, d4, d5, d6] }
  | _ => none }
def FoldTellsWrongFalsely : Prop := foldTellsRow.holds Try.pinned (OpenSpec.ofChange foldTellsWrong)

/-- 'parquetrylaw6.FoldParts': WHATEVER THE INPUT: true; the input reads as it did. -/
def foldPartsSpec : ChangeSpec := { name := "foldParts", fn := fun _ => fun
  | [d1, d2] => { results := [.lit (.bool true)], args := [d1, d2] }
  | _ => none }
def foldPartsRow : OpenClaim := { program := "ytkeclgfnlpkjeaa", sum := "2d657e4977361fef27d193bfaf39fe058b2184434409665881b47661856d6776", func := "parquetry/parquetrylaw6.FoldParts", spec := "foldParts", unfollowed := true, recurses := true, apart := false }
def FoldPartsSaid : Prop := foldPartsRow.holds Try.pinned (OpenSpec.ofChange foldPartsSpec)

/-- ITS FALSE NEIGHBOUR: 'it returns false'. Refute it at one input. -/
def foldPartsWrong : ChangeSpec := { name := "foldParts", fn := fun _ => fun
  | [d1, d2] => { results := [.lit (.bool false)], args := [d1, d2] }
  | _ => none }
def FoldPartsWrongFalsely : Prop := foldPartsRow.holds Try.pinned (OpenSpec.ofChange foldPartsWrong)

/-- 'parquetrylaw6.FoldOrders': WHATEVER THE INPUT: true; the input reads as it did. -/
def foldOrdersSpec : ChangeSpec := { name := "foldOrders", fn := fun _ => fun
  | [d1, d2] => { results := [.lit (.bool true)], args := [d1, d2] }
  | _ => none }
def foldOrdersRow : OpenClaim := { program := "ytkeclgfnlpkjeaa", sum := "2d657e4977361fef27d193bfaf39fe058b2184434409665881b47661856d6776", func := "parquetry/parquetrylaw6.FoldOrders", spec := "foldOrders", unfollowed := true, recurses := true, apart := false }
def FoldOrdersSaid : Prop := foldOrdersRow.holds Try.pinned (OpenSpec.ofChange foldOrdersSpec)

/-- ITS FALSE NEIGHBOUR: 'it returns false'. Refute it at one input. -/
def foldOrdersWrong : ChangeSpec := { name := "foldOrders", fn := fun _ => fun
  | [d1, d2] => { results := [.lit (.bool false)], args := [d1, d2] }
  | _ => none }
def FoldOrdersWrongFalsely : Prop := foldOrdersRow.holds Try.pinned (OpenSpec.ofChange foldOrdersWrong)

/-- 'parquetrylaw7.DotNumbers': WHATEVER THE INPUT: true; the input reads as it did. -/
def dotNumbersSpec : ChangeSpec := { name := "dotNumbers", fn := fun _ => fun
  | [] => { results := [.lit (.bool true)], args := [] }
  | _ => none }
def dotNumbersRow : OpenClaim := { program := "ytkeclgfnlpkjeaa", sum := "2d657e4977361fef27d193bfaf39fe058b2184434409665881b47661856d6776", func := "parquetry/parquetrylaw7.DotNumbers", spec := "dotNumbers", unfollowed := true, recurses := true, apart := false }
def DotNumbersSaid : Prop := dotNumbersRow.holds Try.pinned (OpenSpec.ofChange dotNumbersSpec)

/-- ITS FALSE NEIGHBOUR: 'it returns false'. Refute it at one input. -/
def dotNumbersWrong : ChangeSpec := { name := "dotNumbers", fn := fun _ => fun
  | [] => { results := [.lit (.bool false)], args := [] }
  | _ => none }
def DotNumbersWrongFalsely : Prop := dotNumbersRow.holds Try.pinned (OpenSpec.ofChange dotNumbersWrong)

/-- 'parquetrylaw7.DotTells': WHATEVER THE INPUT: true; the input reads as it did. -/
def dotTellsSpec : ChangeSpec := { name := "dotTells", fn := fun _ => fun
  | [d1, d2, d3, d4] => { results := [.lit (.bool true)], args := [d1, d2, d3, d4] }
  | _ => none }
def dotTellsRow : OpenClaim := { program := "ytkeclgfnlpkjeaa", sum := "2d657e4977361fef27d193bfaf39fe058b2184434409665881b47661856d6776", func := "parquetry/parquetrylaw7.DotTells", spec := "dotTells", unfollowed := true, recurses := true, apart := false }
def DotTellsSaid : Prop := dotTellsRow.holds Try.pinned (OpenSpec.ofChange dotTellsSpec)

/-- ITS FALSE NEIGHBOUR: 'it returns false'. Refute it at one input. -/
def dotTellsWrong : ChangeSpec := { name := "dotTells", fn := fun _ => fun
  | [d1, d2, d3, d4] => { results := [.lit (.bool false)], args := [d1, d2, d3, d4] }
  | _ => none }
def DotTellsWrongFalsely : Prop := dotTellsRow.holds Try.pinned (OpenSpec.ofChange dotTellsWrong)

/-- 'parquetrylaw7.DotSums': WHATEVER THE INPUT: true; the input reads as it did. -/
def dotSumsSpec : ChangeSpec := { name := "dotSums", fn := fun _ => fun
  | [d1, d2, d3, d4] => { results := [.lit (.bool true)], args := [d1, d2, d3, d4] }
  | _ => none }
def dotSumsRow : OpenClaim := { program := "ytkeclgfnlpkjeaa", sum := "2d657e4977361fef27d193bfaf39fe058b2184434409665881b47661856d6776", func := "parquetry/parquetrylaw7.DotSums", spec := "dotSums", unfollowed := true, recurses := true, apart := false }
def DotSumsSaid : Prop := dotSumsRow.holds Try.pinned (OpenSpec.ofChange dotSumsSpec)

/-- ITS FALSE NEIGHBOUR: 'it returns false'. Refute it at one input. -/
def dotSumsWrong : ChangeSpec := { name := "dotSums", fn := fun _ => fun
  | [d1, d2, d3, d4] => { results := [.lit (.bool false)], args := [d1, d2, d3, d4] }
  | _ => none }
def DotSumsWrongFalsely : Prop := dotSumsRow.holds Try.pinned (OpenSpec.ofChange dotSumsWrong)

/-- 'parquetrylaw7.DotRows': WHATEVER THE INPUT: true; the input reads as it did. -/
def dotRowsSpec : ChangeSpec := { name := "dotRows", fn := fun _ => fun
  | [d1, d2, d3] => { results := [.lit (.bool true)], args := [d1, d2, d3] }
  | _ => none }
def dotRowsRow : OpenClaim := { program := "ytkeclgfnlpkjeaa", sum := "2d657e4977361fef27d193bfaf39fe058b2184434409665881b47661856d6776", func := "parquetry/parquetrylaw7.DotRows", spec := "dotRows", unfollowed := true, recurses := true, apart := false }
def DotRowsSaid : Prop := dotRowsRow.holds Try.pinned (OpenSpec.ofChange dotRowsSpec)

/-- ITS FALSE NEIGHBOUR: 'it returns false'. Refute it at one input. -/
def dotRowsWrong : ChangeSpec := { name := "dotRows", fn := fun _ => fun
  | [d1, d2, d3] => { results := [.lit (.bool false)], args := [d1, d2, d3] }
  | _ => none }
def DotRowsWrongFalsely : Prop := dotRowsRow.holds Try.pinned (OpenSpec.ofChange dotRowsWrong)

/- THE SECOND FORM. 'bulk': how many values and letters a reading holds, each counted each time it is reached (what is shared counts as often as it is met; a slice's spare places count too). A statement '..UptoSaid' is the law's where the arguments, and the package variables that the reading takes, are together of bulk at most 1048576: NARROWER than '..Said'. Prove '..Said' where nothing that the law and all that it calls make is longer than what came in: it says more and counts as full. Else prove '..UptoSaid'. A law counts once. -/
mutual
def uptoBulk {H : Type} : DataW H → Nat
  | .lit (.string bytes) => bytes.length + 1
  | .lit _ => 1
  | .nil => 1
  | .ptr d => uptoBulk d + 1
  | .slice elems spare => uptoBulkAll elems + uptoBulkAll spare + 1
  | .agg parts => uptoBulkAll parts + 1
  | .iface _ d => uptoBulk d + 1
  | .map entries => uptoBulkEntries entries + 1
  | .held _ => 1
def uptoBulkAll {H : Type} : List (DataW H) → Nat
  | [] => 0
  | d :: r => uptoBulk d + uptoBulkAll r
def uptoBulkEntries {H : Type} : List (Lit × DataW H) → Nat
  | [] => 0
  | x :: r => uptoBulkEntry x + uptoBulkEntries r
def uptoBulkEntry {H : Type} : Lit × DataW H → Nat
  | (.string bytes, d) => bytes.length + uptoBulk d + 1
  | (_, d) => uptoBulk d + 1
 end
def uptoSmall : (H : Type) → List (DataW H) → Bool := fun _ ds => decide (uptoBulkAll ds ≤ 1048576)
def OpenSpec.upto (s : _root_.Go.ChangeSpec) : _root_.Go.OpenSpec := { _root_.Go.OpenSpec.ofChange s with cond := some uptoSmall }

/-- 'parquetrylaw4.PointNumbers', WHERE WHAT IT READS IS OF BULK AT MOST 1048576: true; the input reads as it did. -/
def pointNumbersUptoRow : OpenClaim := { program := "ytkeclgfnlpkjeaa", sum := "2d657e4977361fef27d193bfaf39fe058b2184434409665881b47661856d6776", func := "parquetry/parquetrylaw4.PointNumbers", spec := "pointNumbers", unfollowed := true, recurses := true, apart := false, narrowed := true }
def PointNumbersUptoSaid : Prop := pointNumbersUptoRow.holds Try.pinned (OpenSpec.upto pointNumbersSpec)

/-- 'parquetrylaw4.PointTells', WHERE WHAT IT READS IS OF BULK AT MOST 1048576: true; the input reads as it did. -/
def pointTellsUptoRow : OpenClaim := { program := "ytkeclgfnlpkjeaa", sum := "2d657e4977361fef27d193bfaf39fe058b2184434409665881b47661856d6776", func := "parquetry/parquetrylaw4.PointTells", spec := "pointTells", unfollowed := true, recurses := true, apart := false, narrowed := true }
def PointTellsUptoSaid : Prop := pointTellsUptoRow.holds Try.pinned (OpenSpec.upto pointTellsSpec)

/-- 'parquetrylaw4.PointPairs', WHERE WHAT IT READS IS OF BULK AT MOST 1048576: true; the input reads as it did. -/
def pointPairsUptoRow : OpenClaim := { program := "ytkeclgfnlpkjeaa", sum := "2d657e4977361fef27d193bfaf39fe058b2184434409665881b47661856d6776", func := "parquetry/parquetrylaw4.PointPairs", spec := "pointPairs", unfollowed := true, recurses := true, apart := false, narrowed := true }
def PointPairsUptoSaid : Prop := pointPairsUptoRow.holds Try.pinned (OpenSpec.upto pointPairsSpec)

/-- 'parquetrylaw4.PointTruths', WHERE WHAT IT READS IS OF BULK AT MOST 1048576: true; the input reads as it did. -/
def pointTruthsUptoRow : OpenClaim := { program := "ytkeclgfnlpkjeaa", sum := "2d657e4977361fef27d193bfaf39fe058b2184434409665881b47661856d6776", func := "parquetry/parquetrylaw4.PointTruths", spec := "pointTruths", unfollowed := true, recurses := true, apart := false, narrowed := true }
def PointTruthsUptoSaid : Prop := pointTruthsUptoRow.holds Try.pinned (OpenSpec.upto pointTruthsSpec)

/-- 'parquetrylaw8.WindowNumbers', WHERE WHAT IT READS IS OF BULK AT MOST 1048576: true; the input reads as it did. -/
def windowNumbersUptoRow : OpenClaim := { program := "ytkeclgfnlpkjeaa", sum := "2d657e4977361fef27d193bfaf39fe058b2184434409665881b47661856d6776", func := "parquetry/parquetrylaw8.WindowNumbers", spec := "windowNumbers", unfollowed := true, recurses := true, apart := false, narrowed := true }
def WindowNumbersUptoSaid : Prop := windowNumbersUptoRow.holds Try.pinned (OpenSpec.upto windowNumbersSpec)

/-- 'parquetrylaw8.WindowTells', WHERE WHAT IT READS IS OF BULK AT MOST 1048576: true; the input reads as it did. -/
def windowTellsUptoRow : OpenClaim := { program := "ytkeclgfnlpkjeaa", sum := "2d657e4977361fef27d193bfaf39fe058b2184434409665881b47661856d6776", func := "parquetry/parquetrylaw8.WindowTells", spec := "windowTells", unfollowed := true, recurses := true, apart := false, narrowed := true }
def WindowTellsUptoSaid : Prop := windowTellsUptoRow.holds Try.pinned (OpenSpec.upto windowTellsSpec)

/-- 'parquetrylaw8.WindowOnes', WHERE WHAT IT READS IS OF BULK AT MOST 1048576: true; the input reads as it did. -/
def windowOnesUptoRow : OpenClaim := { program := "ytkeclgfnlpkjeaa", sum := "2d657e4977361fef27d193bfaf39fe058b2184434409665881b47661856d6776", func := "parquetry/parquetrylaw8.WindowOnes", spec := "windowOnes", unfollowed := true, recurses := true, apart := false, narrowed := true }
def WindowOnesUptoSaid : Prop := windowOnesUptoRow.holds Try.pinned (OpenSpec.upto windowOnesSpec)

/-- 'parquetrylaw8.WindowCounts', WHERE WHAT IT READS IS OF BULK AT MOST 1048576: true; the input reads as it did. -/
def windowCountsUptoRow : OpenClaim := { program := "ytkeclgfnlpkjeaa", sum := "2d657e4977361fef27d193bfaf39fe058b2184434409665881b47661856d6776", func := "parquetry/parquetrylaw8.WindowCounts", spec := "windowCounts", unfollowed := true, recurses := true, apart := false, narrowed := true }
def WindowCountsUptoSaid : Prop := windowCountsUptoRow.holds Try.pinned (OpenSpec.upto windowCountsSpec)

/-- 'parquetrylaw6.FoldNumbers', WHERE WHAT IT READS IS OF BULK AT MOST 1048576: true; the input reads as it did. -/
def foldNumbersUptoRow : OpenClaim := { program := "ytkeclgfnlpkjeaa", sum := "2d657e4977361fef27d193bfaf39fe058b2184434409665881b47661856d6776", func := "parquetry/parquetrylaw6.FoldNumbers", spec := "foldNumbers", unfollowed := true, recurses := true, apart := false, narrowed := true }
def FoldNumbersUptoSaid : Prop := foldNumbersUptoRow.holds Try.pinned (OpenSpec.upto foldNumbersSpec)

/-- 'parquetrylaw6.FoldTells', WHERE WHAT IT READS IS OF BULK AT MOST 1048576: true; the input reads as it did. -/
def foldTellsUptoRow : OpenClaim := { program := "ytkeclgfnlpkjeaa", sum := "2d657e4977361fef27d193bfaf39fe058b2184434409665881b47661856d6776", func := "parquetry/parquetrylaw6.FoldTells", spec := "foldTells", unfollowed := true, recurses := true, apart := false, narrowed := true }
def FoldTellsUptoSaid : Prop := foldTellsUptoRow.holds Try.pinned (OpenSpec.upto foldTellsSpec)

/-- 'parquetrylaw6.FoldParts', WHERE WHAT IT READS IS OF BULK AT MOST 1048576: true; the input reads as it did. -/
def foldPartsUptoRow : OpenClaim := { program := "ytkeclgfnlpkjeaa", sum := "2d657e4977361fef27d193bfaf39fe058b2184434409665881b47661856d6776", func := "parquetry/parquetrylaw6.FoldParts", spec := "foldParts", unfollowed := true, recurses := true, apart := false, narrowed := true }
def FoldPartsUptoSaid : Prop := foldPartsUptoRow.holds Try.pinned (OpenSpec.upto foldPartsSpec)

/-- 'parquetrylaw6.FoldOrders', WHERE WHAT IT READS IS OF BULK AT MOST 1048576: true; the input reads as it did. -/
def foldOrdersUptoRow : OpenClaim := { program := "ytkeclgfnlpkjeaa", sum := "2d657e4977361fef27d193bfaf39fe058b2184434409665881b47661856d6776", func := "parquetry/parquetrylaw6.FoldOrders", spec := "foldOrders", unfollowed := true, recurses := true, apart := false, narrowed := true }
def FoldOrdersUptoSaid : Prop := foldOrdersUptoRow.holds Try.pinned (OpenSpec.upto foldOrdersSpec)

/-- 'parquetrylaw7.DotNumbers', WHERE WHAT IT READS IS OF BULK AT MOST 1048576: true; the input reads as it did. -/
def dotNumbersUptoRow : OpenClaim := { program := "ytkeclgfnlpkjeaa", sum := "2d657e4977361fef27d193bfaf39fe058b2184434409665881b47661856d6776", func := "parquetry/parquetrylaw7.DotNumbers", spec := "dotNumbers", unfollowed := true, recurses := true, apart := false, narrowed := true }
def DotNumbersUptoSaid : Prop := dotNumbersUptoRow.holds Try.pinned (OpenSpec.upto dotNumbersSpec)

/-- 'parquetrylaw7.DotTells', WHERE WHAT IT READS IS OF BULK AT MOST 1048576: true; the input reads as it did. -/
def dotTellsUptoRow : OpenClaim := { program := "ytkeclgfnlpkjeaa", sum := "2d657e4977361fef27d193bfaf39fe058b2184434409665881b47661856d6776", func := "parquetry/parquetrylaw7.DotTells", spec := "dotTells", unfollowed := true, recurses := true, apart := false, narrowed := true }
def DotTellsUptoSaid : Prop := dotTellsUptoRow.holds Try.pinned (OpenSpec.upto dotTellsSpec)

/-- 'parquetrylaw7.DotSums', WHERE WHAT IT READS IS OF BULK AT MOST 1048576: true; the input reads as it did. -/
def dotSumsUptoRow : OpenClaim := { program := "ytkeclgfnlpkjeaa", sum := "2d657e4977361fef27d193bfaf39fe058b2184434409665881b47661856d6776", func := "parquetry/parquetrylaw7.DotSums", spec := "dotSums", unfollowed := true, recurses := true, apart := false, narrowed := true }
def DotSumsUptoSaid : Prop := dotSumsUptoRow.holds Try.pinned (OpenSpec.upto dotSumsSpec)

/-- 'parquetrylaw7.DotRows', WHERE WHAT IT READS IS OF BULK AT MOST 1048576: true; the input reads as it did. -/
def dotRowsUptoRow : OpenClaim := { program := "ytkeclgfnlpkjeaa", sum := "2d657e4977361fef27d193bfaf39fe058b2184434409665881b47661856d6776", func := "parquetry/parquetrylaw7.DotRows", spec := "dotRows", unfollowed := true, recurses := true, apart := false, narrowed := true }
def DotRowsUptoSaid : Prop := dotRowsUptoRow.holds Try.pinned (OpenSpec.upto dotRowsSpec)

end Rows
end Go.Proofs.Ytkeclgfnlpkjeaa
