/-
  No cell of these rows narrows 'for every input' (looked for: loops, veiled, ifaces, maps, wideKeys, modest, calm, conditions, laid).
  DERIVED. THE GIVEN ROWS OF THIS SEAT. 4 by the template 'for every input the law returns true; each argument reads behind the call as it read before'; 0 by the template 'total and deterministic' (their statements: YtppnhlcleehjlaaTotals.lean).
  GIVEN WITH THE SEED: the statements are not yours to turn. If you find one false, say at which input.
  Laid BY PROGRAM, IN A SANDBOX (cutbox-rows.mjs): the forced cells as the released guide's own fill.sh prints them over the translation 70f9d664a7db443a… (all of the seat's roots in one cut). By AI agents, Wed Nov 11 2026. No macro, syntax, notation, axiom, sorry.
-/
import Derived.Test.YtppnhlcleehjlaaChecked
import GoSem.Claim
import GoSem.ClaimJoined
import GoSem.ClaimMapViews
import Derived.JoinedTies
import Derived.KernelRfl
namespace Go.Proofs.Ytppnhlcleehjlaa
/- THE CELL 'sum', in the pinned program and in every row, IS THE sha256 OF THE DUMP (.gsa) THAT YtppnhlcleehjlaaProg.lean LOADS. Nothing in Lean hashes anything: it is a label: what it is worth is what the hold of that sum in a sandbox is worth. -/
noncomputable def Try.pinned : Pinned := { name := "ytppnhlcleehjlaa", sum := "70f9d664a7db443a0ed85f24bac9906741a1990ec52c8094aa7fe7527ccdb0f5", checked := Try.checked }
namespace Rows
def none {H : Type} : Left H := { results := [], args := [] }

/-- 'parquetrylaw4.PointNumbers': WHATEVER THE INPUT: true; the input reads as it did. -/
def pointNumbersSpec : ChangeSpec := { name := "pointNumbers", fn := fun _ => fun
  | [] => { results := [.lit (.bool true)], args := [] }
  | _ => none }
def pointNumbersRow : OpenClaim := { program := "ytppnhlcleehjlaa", sum := "70f9d664a7db443a0ed85f24bac9906741a1990ec52c8094aa7fe7527ccdb0f5", func := "parquetry/parquetrylaw4.PointNumbers", spec := "pointNumbers", unfollowed := true, recurses := true, apart := false }
def PointNumbersSaid : Prop := pointNumbersRow.holds Try.pinned (OpenSpec.ofChange pointNumbersSpec)

/-- ITS FALSE NEIGHBOUR: 'it returns false'. Refute it at one input. -/
def pointNumbersWrong : ChangeSpec := { name := "pointNumbers", fn := fun _ => fun
  | [] => { results := [.lit (.bool false)], args := [] }
  | _ => none }
def PointNumbersWrongFalsely : Prop := pointNumbersRow.holds Try.pinned (OpenSpec.ofChange pointNumbersWrong)

/-- 'parquetrylaw4.PointTells': WHATEVER THE INPUT: true; the input reads as it did. -/
def pointTellsSpec : ChangeSpec := { name := "pointTells", fn := fun _ => fun
  | [d1, d2, d3, d4, d5, d6] => { results := [.lit (.bool true)], args := [d1, d2, d3, d4, d5, d6] }
  | _ => none }
def pointTellsRow : OpenClaim := { program := "ytppnhlcleehjlaa", sum := "70f9d664a7db443a0ed85f24bac9906741a1990ec52c8094aa7fe7527ccdb0f5", func := "parquetry/parquetrylaw4.PointTells", spec := "pointTells", unfollowed := true, recurses := true, apart := false }
def PointTellsSaid : Prop := pointTellsRow.holds Try.pinned (OpenSpec.ofChange pointTellsSpec)

/-- ITS FALSE NEIGHBOUR: 'it returns false'. Refute it at one input. -/
def pointTellsWrong : ChangeSpec := { name := "pointTells", fn := fun _ => fun
  | [d1, d2, d3, d4, d5, d6] => { results := [.lit (.bool false)], args := [d1, d2, d3, d4, d5, d6] }
  | _ => none }
def PointTellsWrongFalsely : Prop := pointTellsRow.holds Try.pinned (OpenSpec.ofChange pointTellsWrong)

/-- 'parquetrylaw4.PointPairs': WHATEVER THE INPUT: true; the input reads as it did. -/
def pointPairsSpec : ChangeSpec := { name := "pointPairs", fn := fun _ => fun
  | [d] => { results := [.lit (.bool true)], args := [d] }
  | _ => none }
def pointPairsRow : OpenClaim := { program := "ytppnhlcleehjlaa", sum := "70f9d664a7db443a0ed85f24bac9906741a1990ec52c8094aa7fe7527ccdb0f5", func := "parquetry/parquetrylaw4.PointPairs", spec := "pointPairs", unfollowed := true, recurses := true, apart := false }
def PointPairsSaid : Prop := pointPairsRow.holds Try.pinned (OpenSpec.ofChange pointPairsSpec)

/-- ITS FALSE NEIGHBOUR: 'it returns false'. Refute it at one input. -/
def pointPairsWrong : ChangeSpec := { name := "pointPairs", fn := fun _ => fun
  | [d] => { results := [.lit (.bool false)], args := [d] }
  | _ => none }
def PointPairsWrongFalsely : Prop := pointPairsRow.holds Try.pinned (OpenSpec.ofChange pointPairsWrong)

/-- 'parquetrylaw4.PointTruths': WHATEVER THE INPUT: true; the input reads as it did. -/
def pointTruthsSpec : ChangeSpec := { name := "pointTruths", fn := fun _ => fun
  | [d] => { results := [.lit (.bool true)], args := [d] }
  | _ => none }
def pointTruthsRow : OpenClaim := { program := "ytppnhlcleehjlaa", sum := "70f9d664a7db443a0ed85f24bac9906741a1990ec52c8094aa7fe7527ccdb0f5", func := "parquetry/parquetrylaw4.PointTruths", spec := "pointTruths", unfollowed := true, recurses := true, apart := false }
def PointTruthsSaid : Prop := pointTruthsRow.holds Try.pinned (OpenSpec.ofChange pointTruthsSpec)

/-- ITS FALSE NEIGHBOUR: 'it returns false'. Refute it at one input. -/
def pointTruthsWrong : ChangeSpec := { name := "pointTruths", fn := fun _ => fun
  | [d] => { results := [.lit (.bool false)], args := [d] }
  | _ => none }
def PointTruthsWrongFalsely : Prop := pointTruthsRow.holds Try.pinned (OpenSpec.ofChange pointTruthsWrong)

/- THE SECOND FORM. 'bulk': how many values and letters a reading holds, each counted each time it is reached (what is shared counts as often as it is met; a slice's spare places count too). A statement '..UptoSaid' is the law's where the arguments, and the package variables that the reading takes, are together of bulk at most 1048576: NARROWER than '..Said'. Prove '..Said' where nothing that the law and all that it calls make is longer than what came in: it says more and counts as full. Else prove '..UptoSaid'. A law counts once. -/
mutual
def uptoBulk {H : Type} : DataW H → Nat
  | .lit (.string bytes) => bytes.length + 1
  | .lit _ => 1
  | .nil => 1
  | .ptr d => uptoBulk d + 1
  | .slice elems spare => uptoBulkAll elems + uptoBulkAll spare + 1
  | .agg parts => uptoBulkAll parts + 1
  | .iface _ d => uptoBulk d + 1
  | .map entries => uptoBulkEntries entries + 1
  | .held _ => 1
def uptoBulkAll {H : Type} : List (DataW H) → Nat
  | [] => 0
  | d :: r => uptoBulk d + uptoBulkAll r
def uptoBulkEntries {H : Type} : List (Lit × DataW H) → Nat
  | [] => 0
  | x :: r => uptoBulkEntry x + uptoBulkEntries r
def uptoBulkEntry {H : Type} : Lit × DataW H → Nat
  | (.string bytes, d) => bytes.length + uptoBulk d + 1
  | (_, d) => uptoBulk d + 1
 end
def uptoSmall : (H : Type) → List (DataW H) → Bool := fun _ ds => decide (uptoBulkAll ds ≤ 1048576)
def OpenSpec.upto (s : _root_.Go.ChangeSpec) : _root_.Go.OpenSpec := { _root_.Go.OpenSpec.ofChange s with cond := some uptoSmall }

/-- 'parquetrylaw4.PointNumbers', WHERE WHAT IT READS IS OF BULK AT MOST 1048576: true; the input reads as it did. -/
def pointNumbersUptoRow : OpenClaim := { program := "ytppnhlcleehjlaa", sum := "70f9d664a7db443a0ed85f24bac9906741a1990ec52c8094aa7fe7527ccdb0f5", func := "parquetry/parquetrylaw4.PointNumbers", spec := "pointNumbers", unfollowed := true, recurses := true, apart := false, narrowed := true }
def PointNumbersUptoSaid : Prop := pointNumbersUptoRow.holds Try.pinned (OpenSpec.upto pointNumbersSpec)

/-- 'parquetrylaw4.PointTells', WHERE WHAT IT READS IS OF BULK AT MOST 1048576: true; the input reads as it did. -/
def pointTellsUptoRow : OpenClaim := { program := "ytppnhlcleehjlaa", sum := "70f9d664a7db443a0ed85f24bac9906741a1990ec52c8094aa7fe7527ccdb0f5", func := "parquetry/parquetrylaw4.PointTells", spec := "pointTells", unfollowed := true, recurses := true, apart := false, narrowed := true }
def PointTellsUptoSaid : Prop := pointTellsUptoRow.holds Try.pinned (OpenSpec.upto pointTellsSpec)

/-- 'parquetrylaw4.PointPairs', WHERE WHAT IT READS IS OF BULK AT MOST 1048576: true; the input reads as it did. -/
def pointPairsUptoRow : OpenClaim := { program := "ytppnhlcleehjlaa", sum := "70f9d664a7db443a0ed85f24bac9906741a1990ec52c8094aa7fe7527ccdb0f5", func := "parquetry/parquetrylaw4.PointPairs", spec := "pointPairs", unfollowed := true, recurses := true, apart := false, narrowed := true }
def PointPairsUptoSaid : Prop := pointPairsUptoRow.holds Try.pinned (OpenSpec.upto pointPairsSpec)

/-- 'parquetrylaw4.PointTruths', WHERE WHAT IT READS IS OF BULK AT MOST 1048576: true; the input reads as it did. -/
def pointTruthsUptoRow : OpenClaim := { program := "ytppnhlcleehjlaa", sum := "70f9d664a7db443a0ed85f24bac9906741a1990ec52c8094aa7fe7527ccdb0f5", func := "parquetry/parquetrylaw4.PointTruths", spec := "pointTruths", unfollowed := true, recurses := true, apart := false, narrowed := true }
def PointTruthsUptoSaid : Prop := pointTruthsUptoRow.holds Try.pinned (OpenSpec.upto pointTruthsSpec)

end Rows
end Go.Proofs.Ytppnhlcleehjlaa
