/-
  No cell of these rows narrows 'for every input' (looked for: loops, veiled, ifaces, maps, wideKeys, modest, calm, conditions, laid).
  DERIVED. THE GIVEN ROWS OF THIS SEAT. 16 by the template 'for every input the law returns true; each argument reads behind the call as it read before'; 0 by the template 'total and deterministic' (their statements: YthkcceknccdmpaaTotals.lean).
  GIVEN WITH THE SEED: the statements are not yours to turn. If you find one false, say at which input.
  Laid BY PROGRAM, IN A SANDBOX (cutbox-rows.mjs): the forced cells as the released guide's own fill.sh prints them over the translation 5350a530c84483a3… (all of the seat's roots in one cut). By AI agents, Wed Nov 11 2026. No macro, syntax, notation, axiom, sorry.
-/
import Derived.Test.YthkcceknccdmpaaChecked
import GoSem.Claim
import GoSem.ClaimJoined
import GoSem.ClaimMapViews
import Derived.JoinedTies
import Derived.KernelRfl
namespace Go.Proofs.Ythkcceknccdmpaa
/- THE CELL 'sum', in the pinned program and in every row, IS THE sha256 OF THE DUMP (.gsa) THAT YthkcceknccdmpaaProg.lean LOADS. Nothing in Lean hashes anything: it is a label: what it is worth is what the hold of that sum in a sandbox is worth. -/
noncomputable def Try.pinned : Pinned := { name := "ythkcceknccdmpaa", sum := "5350a530c84483a3a63fc8e495f382c44fceb66477b7951e97450f1f2e5b3b51", checked := Try.checked }
namespace Rows
def none {H : Type} : Left H := { results := [], args := [] }

/-- 'parquetrylaw1.ShapeNumbers': WHATEVER THE INPUT: true; the input reads as it did. -/
def shapeNumbersSpec : ChangeSpec := { name := "shapeNumbers", fn := fun _ => fun
  | [] => { results := [.lit (.bool true)], args := [] }
  | _ => none }
def shapeNumbersRow : OpenClaim := { program := "ythkcceknccdmpaa", sum := "5350a530c84483a3a63fc8e495f382c44fceb66477b7951e97450f1f2e5b3b51", func := "parquetry/parquetrylaw1.ShapeNumbers", spec := "shapeNumbers", apart := false }
def ShapeNumbersSaid : Prop := shapeNumbersRow.holds Try.pinned (OpenSpec.ofChange shapeNumbersSpec)

/-- ITS FALSE NEIGHBOUR: 'it returns false'. Refute it at one input. -/
def shapeNumbersWrong : ChangeSpec := { name := "shapeNumbers", fn := fun _ => fun
  | [] => { results := [.lit (.bool false)], args := [] }
  | _ => none }
def ShapeNumbersWrongFalsely : Prop := shapeNumbersRow.holds Try.pinned (OpenSpec.ofChange shapeNumbersWrong)

/-- 'parquetrylaw1.ShapeTells': WHATEVER THE INPUT: true; the input reads as it did. -/
def shapeTellsSpec : ChangeSpec := { name := "shapeTells", fn := fun _ => fun
  | [d1, d2, d3, d4] => { results := [.lit (.bool true)], args := [d1, d2, d3, d4] }
  | _ => none }
def shapeTellsRow : OpenClaim := { program := "ythkcceknccdmpaa", sum := "5350a530c84483a3a63fc8e495f382c44fceb66477b7951e97450f1f2e5b3b51", func := "parquetry/parquetrylaw1.ShapeTells", spec := "shapeTells", apart := false }
def ShapeTellsSaid : Prop := shapeTellsRow.holds Try.pinned (OpenSpec.ofChange shapeTellsSpec)

/-- ITS FALSE NEIGHBOUR: 'it returns false'. Refute it at one input. -/
def shapeTellsWrong : ChangeSpec := { name := "shapeTells", fn := fun _ => fun
  | [d1, d2, d3, d4] => { results := [.lit (.bool false)], args := [d1, d2, d3, d4] }
  | _ => none }
def ShapeTellsWrongFalsely : Prop := shapeTellsRow.holds Try.pinned (OpenSpec.ofChange shapeTellsWrong)

/-- 'parquetrylaw1.ShapeBack': WHATEVER THE INPUT: true; the input reads as it did. -/
def shapeBackSpec : ChangeSpec := { name := "shapeBack", fn := fun _ => fun
  | [d] => { results := [.lit (.bool true)], args := [d] }
  | _ => none }
def shapeBackRow : OpenClaim := { program := "ythkcceknccdmpaa", sum := "5350a530c84483a3a63fc8e495f382c44fceb66477b7951e97450f1f2e5b3b51", func := "parquetry/parquetrylaw1.ShapeBack", spec := "shapeBack", apart := false }
def ShapeBackSaid : Prop := shapeBackRow.holds Try.pinned (OpenSpec.ofChange shapeBackSpec)

/-- ITS FALSE NEIGHBOUR: 'it returns false'. Refute it at one input. -/
def shapeBackWrong : ChangeSpec := { name := "shapeBack", fn := fun _ => fun
  | [d] => { results := [.lit (.bool false)], args := [d] }
  | _ => none }
def ShapeBackWrongFalsely : Prop := shapeBackRow.holds Try.pinned (OpenSpec.ofChange shapeBackWrong)

/-- 'parquetrylaw1.ShapeSteps': WHATEVER THE INPUT: true; the input reads as it did. -/
def shapeStepsSpec : ChangeSpec := { name := "shapeSteps", fn := fun _ => fun
  | [d1, d2] => { results := [.lit (.bool true)], args := [d1, d2] }
  | _ => none }
def shapeStepsRow : OpenClaim := { program := "ythkcceknccdmpaa", sum := "5350a530c84483a3a63fc8e495f382c44fceb66477b7951e97450f1f2e5b3b51", func := "parquetry/parquetrylaw1.ShapeSteps", spec := "shapeSteps", apart := false }
def ShapeStepsSaid : Prop := shapeStepsRow.holds Try.pinned (OpenSpec.ofChange shapeStepsSpec)

/-- ITS FALSE NEIGHBOUR: 'it returns false'. Refute it at one input. -/
def shapeStepsWrong : ChangeSpec := { name := "shapeSteps", fn := fun _ => fun
  | [d1, d2] => { results := [.lit (.bool false)], args := [d1, d2] }
  | _ => none }
def ShapeStepsWrongFalsely : Prop := shapeStepsRow.holds Try.pinned (OpenSpec.ofChange shapeStepsWrong)

/-- 'parquetrylaw9.NamesNumbers': WHATEVER THE INPUT: true; the input reads as it did. -/
def namesNumbersSpec : ChangeSpec := { name := "namesNumbers", fn := fun _ => fun
  | [] => { results := [.lit (.bool true)], args := [] }
  | _ => none }
def namesNumbersRow : OpenClaim := { program := "ythkcceknccdmpaa", sum := "5350a530c84483a3a63fc8e495f382c44fceb66477b7951e97450f1f2e5b3b51", func := "parquetry/parquetrylaw9.NamesNumbers", spec := "namesNumbers", apart := false }
def NamesNumbersSaid : Prop := namesNumbersRow.holds Try.pinned (OpenSpec.ofChange namesNumbersSpec)

/-- ITS FALSE NEIGHBOUR: 'it returns false'. Refute it at one input. -/
def namesNumbersWrong : ChangeSpec := { name := "namesNumbers", fn := fun _ => fun
  | [] => { results := [.lit (.bool false)], args := [] }
  | _ => none }
def NamesNumbersWrongFalsely : Prop := namesNumbersRow.holds Try.pinned (OpenSpec.ofChange namesNumbersWrong)

/-- 'parquetrylaw9.NamesTells': WHATEVER THE INPUT: true; the input reads as it did. -/
def namesTellsSpec : ChangeSpec := { name := "namesTells", fn := fun _ => fun
  | [d1, d2, d3, d4, d5] => { results := [.lit (.bool true)], args := [d1, d2, d3, d4, d5] }
  | _ => none }
def namesTellsRow : OpenClaim := { program := "ythkcceknccdmpaa", sum := "5350a530c84483a3a63fc8e495f382c44fceb66477b7951e97450f1f2e5b3b51", func := "parquetry/parquetrylaw9.NamesTells", spec := "namesTells", apart := false }
def NamesTellsSaid : Prop := namesTellsRow.holds Try.pinned (OpenSpec.ofChange namesTellsSpec)

/-- ITS FALSE NEIGHBOUR: 'it returns false'. Refute it at one input. -/
def namesTellsWrong : ChangeSpec := { name := "namesTells", fn := fun _ => fun
  | [d1, d2, d3, d4, d5] => { results := [.lit (.bool false)], args := [d1, d2, d3, d4, d5] }
  | _ => none }
def NamesTellsWrongFalsely : Prop := namesTellsRow.holds Try.pinned (OpenSpec.ofChange namesTellsWrong)

/-- 'parquetrylaw9.NamesBack': WHATEVER THE INPUT: true; the input reads as it did. -/
def namesBackSpec : ChangeSpec := { name := "namesBack", fn := fun _ => fun
  | [d1, d2, d3, d4, d5] => { results := [.lit (.bool true)], args := [d1, d2, d3, d4, d5] }
  | _ => none }
def namesBackRow : OpenClaim := { program := "ythkcceknccdmpaa", sum := "5350a530c84483a3a63fc8e495f382c44fceb66477b7951e97450f1f2e5b3b51", func := "parquetry/parquetrylaw9.NamesBack", spec := "namesBack", apart := false }
def NamesBackSaid : Prop := namesBackRow.holds Try.pinned (OpenSpec.ofChange namesBackSpec)

/-- ITS FALSE NEIGHBOUR: 'it returns false'. Refute it at one input. -/
def namesBackWrong : ChangeSpec := { name := "namesBack", fn := fun _ => fun
  | [d1, d2, d3, d4, d5] => { results := [.lit (.bool false)], args := [d1, d2, d3, d4, d5] }
  | _ => none }
def NamesBackWrongFalsely : Prop := namesBackRow.holds Try.pinned (OpenSpec.ofChange namesBackWrong)

/-- 'parquetrylaw9.NamesUnique': WHATEVER THE INPUT: true; the input reads as it did. -/
def namesUniqueSpec : ChangeSpec := { name := "namesUnique", fn := fun _ => fun
  | [d1, d2, d3] => { results := [.lit (.bool true)], args := [d1, d2, d3] }
  | _ => none }
def namesUniqueRow : OpenClaim := { program := "ythkcceknccdmpaa", sum := "5350a530c84483a3a63fc8e495f382c44fceb66477b7951e97450f1f2e5b3b51", func := "parquetry/parquetrylaw9.NamesUnique", spec := "namesUnique", apart := false }
def NamesUniqueSaid : Prop := namesUniqueRow.holds Try.pinned (OpenSpec.ofChange namesUniqueSpec)

/-- ITS FALSE NEIGHBOUR: 'it returns false'. Refute it at one input. -/
def namesUniqueWrong : ChangeSpec := { name := "namesUnique", fn := fun _ => fun
  | [d1, d2, d3] => { results := [.lit (.bool false)], args := [d1, d2, d3] }
  | _ => none }
def NamesUniqueWrongFalsely : Prop := namesUniqueRow.holds Try.pinned (OpenSpec.ofChange namesUniqueWrong)

/-- 'parquetrylaw2.TensorSets': WHATEVER THE INPUT: true; the input reads as it did. -/
def tensorSetsSpec : ChangeSpec := { name := "tensorSets", fn := fun _ => fun
  | [d1, d2, d3] => { results := [.lit (.bool true)], args := [d1, d2, d3] }
  | _ => none }
def tensorSetsRow : OpenClaim := { program := "ythkcceknccdmpaa", sum := "5350a530c84483a3a63fc8e495f382c44fceb66477b7951e97450f1f2e5b3b51", func := "parquetry/parquetrylaw2.TensorSets", spec := "tensorSets", unfollowed := true, recurses := true, apart := false }
def TensorSetsSaid : Prop := tensorSetsRow.holds Try.pinned (OpenSpec.ofChange tensorSetsSpec)

/-- ITS FALSE NEIGHBOUR: 'it returns false'. Refute it at one input. -/
def tensorSetsWrong : ChangeSpec := { name := "tensorSets", fn := fun _ => fun
  | [d1, d2, d3] => { results := [.lit (.bool false)], args := [d1, d2, d3] }
  | _ => none }
def TensorSetsWrongFalsely : Prop := tensorSetsRow.holds Try.pinned (OpenSpec.ofChange tensorSetsWrong)

/-- 'parquetrylaw3.DatumCopies': WHATEVER THE INPUT: true; the input reads as it did. -/
def datumCopiesSpec : ChangeSpec := { name := "datumCopies", fn := fun _ => fun
  | [d1, d2] => { results := [.lit (.bool true)], args := [d1, d2] }
  | _ => none }
def datumCopiesRow : OpenClaim := { program := "ythkcceknccdmpaa", sum := "5350a530c84483a3a63fc8e495f382c44fceb66477b7951e97450f1f2e5b3b51", func := "parquetry/parquetrylaw3.DatumCopies", spec := "datumCopies", unfollowed := true, recurses := true, apart := false }
def DatumCopiesSaid : Prop := datumCopiesRow.holds Try.pinned (OpenSpec.ofChange datumCopiesSpec)

/-- ITS FALSE NEIGHBOUR: 'it returns false'. Refute it at one input. -/
def datumCopiesWrong : ChangeSpec := { name := "datumCopies", fn := fun _ => fun
  | [d1, d2] => { results := [.lit (.bool false)], args := [d1, d2] }
  | _ => none }
def DatumCopiesWrongFalsely : Prop := datumCopiesRow.holds Try.pinned (OpenSpec.ofChange datumCopiesWrong)

/-- 'parquetrylaw2.TensorNumbers': WHATEVER THE INPUT: true; the input reads as it did. -/
def tensorNumbersSpec : ChangeSpec := { name := "tensorNumbers", fn := fun _ => fun
  | [] => { results := [.lit (.bool true)], args := [] }
  | _ => none }
def tensorNumbersRow : OpenClaim := { program := "ythkcceknccdmpaa", sum := "5350a530c84483a3a63fc8e495f382c44fceb66477b7951e97450f1f2e5b3b51", func := "parquetry/parquetrylaw2.TensorNumbers", spec := "tensorNumbers", unfollowed := true, recurses := true, apart := false }
def TensorNumbersSaid : Prop := tensorNumbersRow.holds Try.pinned (OpenSpec.ofChange tensorNumbersSpec)

/-- ITS FALSE NEIGHBOUR: 'it returns false'. Refute it at one input. -/
def tensorNumbersWrong : ChangeSpec := { name := "tensorNumbers", fn := fun _ => fun
  | [] => { results := [.lit (.bool false)], args := [] }
  | _ => none }
def TensorNumbersWrongFalsely : Prop := tensorNumbersRow.holds Try.pinned (OpenSpec.ofChange tensorNumbersWrong)

/-- 'parquetrylaw2.TensorTells': WHATEVER THE INPUT: true; the input reads as it did. -/
def tensorTellsSpec : ChangeSpec := { name := "tensorTells", fn := fun _ => fun
  | [d1, d2, d3, d4, d5, d6] => { results := [.lit (.bool true)], args := [d1, d2, d3, d4, d5, d6] }
  | _ => none }
def tensorTellsRow : OpenClaim := { program := "ythkcceknccdmpaa", sum := "5350a530c84483a3a63fc8e495f382c44fceb66477b7951e97450f1f2e5b3b51", func := "parquetry/parquetrylaw2.TensorTells", spec := "tensorTells", unfollowed := true, recurses := true, apart := false }
def TensorTellsSaid : Prop := tensorTellsRow.holds Try.pinned (OpenSpec.ofChange tensorTellsSpec)

/-- ITS FALSE NEIGHBOUR: 'it returns false'. Refute it at one input. -/
def tensorTellsWrong : ChangeSpec := { name := "tensorTells", fn := fun _ => fun
  | [d1, d2, d3, d4, d5, d6] => { results := [.lit (.bool false)], args := [d1, d2, d3, d4, d5, d6] }
  | _ => none }
def TensorTellsWrongFalsely : Prop := tensorTellsRow.holds Try.pinned (OpenSpec.ofChange tensorTellsWrong)

/-- 'parquetrylaw2.TensorMade': WHATEVER THE INPUT: true; the input reads as it did. -/
def tensorMadeSpec : ChangeSpec := { name := "tensorMade", fn := fun _ => fun
  | [d1, d2, d3] => { results := [.lit (.bool true)], args := [d1, d2, d3] }
  | _ => none }
def tensorMadeRow : OpenClaim := { program := "ythkcceknccdmpaa", sum := "5350a530c84483a3a63fc8e495f382c44fceb66477b7951e97450f1f2e5b3b51", func := "parquetry/parquetrylaw2.TensorMade", spec := "tensorMade", unfollowed := true, recurses := true, apart := false }
def TensorMadeSaid : Prop := tensorMadeRow.holds Try.pinned (OpenSpec.ofChange tensorMadeSpec)

/-- ITS FALSE NEIGHBOUR: 'it returns false'. Refute it at one input. -/
def tensorMadeWrong : ChangeSpec := { name := "tensorMade", fn := fun _ => fun
  | [d1, d2, d3] => { results := [.lit (.bool false)], args := [d1, d2, d3] }
  | _ => none }
def TensorMadeWrongFalsely : Prop := tensorMadeRow.holds Try.pinned (OpenSpec.ofChange tensorMadeWrong)

/-- 'parquetrylaw3.DatumNumbers': WHATEVER THE INPUT: true; the input reads as it did. -/
def datumNumbersSpec : ChangeSpec := { name := "datumNumbers", fn := fun _ => fun
  | [] => { results := [.lit (.bool true)], args := [] }
  | _ => none }
def datumNumbersRow : OpenClaim := { program := "ythkcceknccdmpaa", sum := "5350a530c84483a3a63fc8e495f382c44fceb66477b7951e97450f1f2e5b3b51", func := "parquetry/parquetrylaw3.DatumNumbers", spec := "datumNumbers", unfollowed := true, recurses := true, apart := false }
def DatumNumbersSaid : Prop := datumNumbersRow.holds Try.pinned (OpenSpec.ofChange datumNumbersSpec)

/-- ITS FALSE NEIGHBOUR: 'it returns false'. Refute it at one input. -/
def datumNumbersWrong : ChangeSpec := { name := "datumNumbers", fn := fun _ => fun
  | [] => { results := [.lit (.bool false)], args := [] }
  | _ => none }
def DatumNumbersWrongFalsely : Prop := datumNumbersRow.holds Try.pinned (OpenSpec.ofChange datumNumbersWrong)

/-- 'parquetrylaw3.DatumTells': WHATEVER THE INPUT: true; the input reads as it did. -/
def datumTellsSpec : ChangeSpec := { name := "datumTells", fn := fun _ => fun
  | [d1, d2, d3, d4, d5] => { results := [.lit (.bool true)], args := [d1, d2, d3, d4, d5] }
  | _ => none }
def datumTellsRow : OpenClaim := { program := "ythkcceknccdmpaa", sum := "5350a530c84483a3a63fc8e495f382c44fceb66477b7951e97450f1f2e5b3b51", func := "parquetry/parquetrylaw3.DatumTells", spec := "datumTells", unfollowed := true, recurses := true, apart := false }
def DatumTellsSaid : Prop := datumTellsRow.holds Try.pinned (OpenSpec.ofChange datumTellsSpec)

/-- ITS FALSE NEIGHBOUR: 'it returns false'. Refute it at one input. -/
def datumTellsWrong : ChangeSpec := { name := "datumTells", fn := fun _ => fun
  | [d1, d2, d3, d4, d5] => { results := [.lit (.bool false)], args := [d1, d2, d3, d4, d5] }
  | _ => none }
def DatumTellsWrongFalsely : Prop := datumTellsRow.holds Try.pinned (OpenSpec.ofChange datumTellsWrong)

/-- 'parquetrylaw3.DatumCounts': WHATEVER THE INPUT: true; the input reads as it did. -/
def datumCountsSpec : ChangeSpec := { name := "datumCounts", fn := fun _ => fun
  | [d1, d2, d3] => { results := [.lit (.bool true)], args := [d1, d2, d3] }
  | _ => none }
def datumCountsRow : OpenClaim := { program := "ythkcceknccdmpaa", sum := "5350a530c84483a3a63fc8e495f382c44fceb66477b7951e97450f1f2e5b3b51", func := "parquetry/parquetrylaw3.DatumCounts", spec := "datumCounts", unfollowed := true, recurses := true, apart := false }
def DatumCountsSaid : Prop := datumCountsRow.holds Try.pinned (OpenSpec.ofChange datumCountsSpec)

/-- ITS FALSE NEIGHBOUR: 'it returns false'. Refute it at one input. -/
def datumCountsWrong : ChangeSpec := { name := "datumCounts", fn := fun _ => fun
  | [d1, d2, d3] => { results := [.lit (.bool false)], args := [d1, d2, d3] }
  | _ => none }
def DatumCountsWrongFalsely : Prop := datumCountsRow.holds Try.pinned (OpenSpec.ofChange datumCountsWrong)

/- THE SECOND FORM. 'bulk': how many values and letters a reading holds, each counted each time it is reached (what is shared counts as often as it is met; a slice's spare places count too). A statement '..UptoSaid' is the law's where the arguments, and the package variables that the reading takes, are together of bulk at most 1048576: NARROWER than '..Said'. Prove '..Said' where nothing that the law and all that it calls make is longer than what came in: it says more and counts as full. Else prove '..UptoSaid'. A law counts once. -/
mutual
def uptoBulk {H : Type} : DataW H → Nat
  | .lit (.string bytes) => bytes.length + 1
  | .lit _ => 1
  | .nil => 1
  | .ptr d => uptoBulk d + 1
  | .slice elems spare => uptoBulkAll elems + uptoBulkAll spare + 1
  | .agg parts => uptoBulkAll parts + 1
  | .iface _ d => uptoBulk d + 1
  | .map entries => uptoBulkEntries entries + 1
  | .held _ => 1
def uptoBulkAll {H : Type} : List (DataW H) → Nat
  | [] => 0
  | d :: r => uptoBulk d + uptoBulkAll r
def uptoBulkEntries {H : Type} : List (Lit × DataW H) → Nat
  | [] => 0
  | x :: r => uptoBulkEntry x + uptoBulkEntries r
def uptoBulkEntry {H : Type} : Lit × DataW H → Nat
  | (.string bytes, d) => bytes.length + uptoBulk d + 1
  | (_, d) => uptoBulk d + 1
 end
def uptoSmall : (H : Type) → List (DataW H) → Bool := fun _ ds => decide (uptoBulkAll ds ≤ 1048576)
def OpenSpec.upto (s : _root_.Go.ChangeSpec) : _root_.Go.OpenSpec := { _root_.Go.OpenSpec.ofChange s with cond := some uptoSmall }

/-- 'parquetrylaw1.ShapeNumbers', WHERE WHAT IT READS IS OF BULK AT MOST 1048576: true; the input reads as it did. -/
def shapeNumbersUptoRow : OpenClaim := { program := "ythkcceknccdmpaa", sum := "5350a530c84483a3a63fc8e495f382c44fceb66477b7951e97450f1f2e5b3b51", func := "parquetry/parquetrylaw1.ShapeNumbers", spec := "shapeNumbers", apart := false, narrowed := true }
def ShapeNumbersUptoSaid : Prop := shapeNumbersUptoRow.holds Try.pinned (OpenSpec.upto shapeNumbersSpec)

/-- 'parquetrylaw1.ShapeTells', WHERE WHAT IT READS IS OF BULK AT MOST 1048576: true; the input reads as it did. -/
def shapeTellsUptoRow : OpenClaim := { program := "ythkcceknccdmpaa", sum := "5350a530c84483a3a63fc8e495f382c44fceb66477b7951e97450f1f2e5b3b51", func := "parquetry/parquetrylaw1.ShapeTells", spec := "shapeTells", apart := false, narrowed := true }
def ShapeTellsUptoSaid : Prop := shapeTellsUptoRow.holds Try.pinned (OpenSpec.upto shapeTellsSpec)

/-- 'parquetrylaw1.ShapeBack', WHERE WHAT IT READS IS OF BULK AT MOST 1048576: true; the input reads as it did. -/
def shapeBackUptoRow : OpenClaim := { program := "ythkcceknccdmpaa", sum := "5350a530c84483a3a63fc8e495f382c44fceb66477b7951e97450f1f2e5b3b51", func := "parquetry/parquetrylaw1.ShapeBack", spec := "shapeBack", apart := false, narrowed := true }
def ShapeBackUptoSaid : Prop := shapeBackUptoRow.holds Try.pinned (OpenSpec.upto shapeBackSpec)

/-- 'parquetrylaw1.ShapeSteps', WHERE WHAT IT READS IS OF BULK AT MOST 1048576: true; the input reads as it did. -/
def shapeStepsUptoRow : OpenClaim := { program := "ythkcceknccdmpaa", sum := "5350a530c84483a3a63fc8e495f382c44fceb66477b7951e97450f1f2e5b3b51", func := "parquetry/parquetrylaw1.ShapeSteps", spec := "shapeSteps", apart := false, narrowed := true }
def ShapeStepsUptoSaid : Prop := shapeStepsUptoRow.holds Try.pinned (OpenSpec.upto shapeStepsSpec)

/-- 'parquetrylaw9.NamesNumbers', WHERE WHAT IT READS IS OF BULK AT MOST 1048576: true; the input reads as it did. -/
def namesNumbersUptoRow : OpenClaim := { program := "ythkcceknccdmpaa", sum := "5350a530c84483a3a63fc8e495f382c44fceb66477b7951e97450f1f2e5b3b51", func := "parquetry/parquetrylaw9.NamesNumbers", spec := "namesNumbers", apart := false, narrowed := true }
def NamesNumbersUptoSaid : Prop := namesNumbersUptoRow.holds Try.pinned (OpenSpec.upto namesNumbersSpec)

/-- 'parquetrylaw9.NamesTells', WHERE WHAT IT READS IS OF BULK AT MOST 1048576: true; the input reads as it did. -/
def namesTellsUptoRow : OpenClaim := { program := "ythkcceknccdmpaa", sum := "5350a530c84483a3a63fc8e495f382c44fceb66477b7951e97450f1f2e5b3b51", func := "parquetry/parquetrylaw9.NamesTells", spec := "namesTells", apart := false, narrowed := true }
def NamesTellsUptoSaid : Prop := namesTellsUptoRow.holds Try.pinned (OpenSpec.upto namesTellsSpec)

/-- 'parquetrylaw9.NamesBack', WHERE WHAT IT READS IS OF BULK AT MOST 1048576: true; the input reads as it did. -/
def namesBackUptoRow : OpenClaim := { program := "ythkcceknccdmpaa", sum := "5350a530c84483a3a63fc8e495f382c44fceb66477b7951e97450f1f2e5b3b51", func := "parquetry/parquetrylaw9.NamesBack", spec := "namesBack", apart := false, narrowed := true }
def NamesBackUptoSaid : Prop := namesBackUptoRow.holds Try.pinned (OpenSpec.upto namesBackSpec)

/-- 'parquetrylaw9.NamesUnique', WHERE WHAT IT READS IS OF BULK AT MOST 1048576: true; the input reads as it did. -/
def namesUniqueUptoRow : OpenClaim := { program := "ythkcceknccdmpaa", sum := "5350a530c84483a3a63fc8e495f382c44fceb66477b7951e97450f1f2e5b3b51", func := "parquetry/parquetrylaw9.NamesUnique", spec := "namesUnique", apart := false, narrowed := true }
def NamesUniqueUptoSaid : Prop := namesUniqueUptoRow.holds Try.pinned (OpenSpec.upto namesUniqueSpec)

/-- 'parquetrylaw2.TensorSets', WHERE WHAT IT READS IS OF BULK AT MOST 1048576: true; the input reads as it did. -/
def tensorSetsUptoRow : OpenClaim := { program := "ythkcceknccdmpaa", sum := "5350a530c84483a3a63fc8e495f382c44fceb66477b7951e97450f1f2e5b3b51", func := "parquetry/parquetrylaw2.TensorSets", spec := "tensorSets", unfollowed := true, recurses := true, apart := false, narrowed := true }
def TensorSetsUptoSaid : Prop := tensorSetsUptoRow.holds Try.pinned (OpenSpec.upto tensorSetsSpec)

/-- 'parquetrylaw3.DatumCopies', WHERE WHAT IT READS IS OF BULK AT MOST 1048576: true; the input reads as it did. -/
def datumCopiesUptoRow : OpenClaim := { program := "ythkcceknccdmpaa", sum := "5350a530c84483a3a63fc8e495f382c44fceb66477b7951e97450f1f2e5b3b51", func := "parquetry/parquetrylaw3.DatumCopies", spec := "datumCopies", unfollowed := true, recurses := true, apart := false, narrowed := true }
def DatumCopiesUptoSaid : Prop := datumCopiesUptoRow.holds Try.pinned (OpenSpec.upto datumCopiesSpec)

/-- 'parquetrylaw2.TensorNumbers', WHERE WHAT IT READS IS OF BULK AT MOST 1048576: true; the input reads as it did. -/
def tensorNumbersUptoRow : OpenClaim := { program := "ythkcceknccdmpaa", sum := "5350a530c84483a3a63fc8e495f382c44fceb66477b7951e97450f1f2e5b3b51", func := "parquetry/parquetrylaw2.TensorNumbers", spec := "tensorNumbers", unfollowed := true, recurses := true, apart := false, narrowed := true }
def TensorNumbersUptoSaid : Prop := tensorNumbersUptoRow.holds Try.pinned (OpenSpec.upto tensorNumbersSpec)

/-- 'parquetrylaw2.TensorTells', WHERE WHAT IT READS IS OF BULK AT MOST 1048576: true; the input reads as it did. -/
def tensorTellsUptoRow : OpenClaim := { program := "ythkcceknccdmpaa", sum := "5350a530c84483a3a63fc8e495f382c44fceb66477b7951e97450f1f2e5b3b51", func := "parquetry/parquetrylaw2.TensorTells", spec := "tensorTells", unfollowed := true, recurses := true, apart := false, narrowed := true }
def TensorTellsUptoSaid : Prop := tensorTellsUptoRow.holds Try.pinned (OpenSpec.upto tensorTellsSpec)

/-- 'parquetrylaw2.TensorMade', WHERE WHAT IT READS IS OF BULK AT MOST 1048576: true; the input reads as it did. -/
def tensorMadeUptoRow : OpenClaim := { program := "ythkcceknccdmpaa", sum := "5350a530c84483a3a63fc8e495f382c44fceb66477b7951e97450f1f2e5b3b51", func := "parquetry/parquetrylaw2.TensorMade", spec := "tensorMade", unfollowed := true, recurses := true, apart := false, narrowed := true }
def TensorMadeUptoSaid : Prop := tensorMadeUptoRow.holds Try.pinned (OpenSpec.upto tensorMadeSpec)

/-- 'parquetrylaw3.DatumNumbers', WHERE WHAT IT READS IS OF BULK AT MOST 1048576: true; the input reads as it did. -/
def datumNumbersUptoRow : OpenClaim := { program := "ythkcceknccdmpaa", sum := "5350a530c84483a3a63fc8e495f382c44fceb66477b7951e97450f1f2e5b3b51", func := "parquetry/parquetrylaw3.DatumNumbers", spec := "datumNumbers", unfollowed := true, recurses := true, apart := false, narrowed := true }
def DatumNumbersUptoSaid : Prop := datumNumbersUptoRow.holds Try.pinned (OpenSpec.upto datumNumbersSpec)

/-- 'parquetrylaw3.DatumTells', WHERE WHAT IT READS IS OF BULK AT MOST 1048576: true; the input reads as it did. -/
def datumTellsUptoRow : OpenClaim := { program := "ythkcceknccdmpaa", sum := "5350a530c84483a3a63fc8e495f382c44fceb66477b7951e97450f1f2e5b3b51", func := "parquetry/parquetrylaw3.DatumTells", spec := "datumTells", unfollowed := true, recurses := true, apart := false, narrowed := true }
def DatumTellsUptoSaid : Prop := datumTellsUptoRow.holds Try.pinned (OpenSpec.upto datumTellsSpec)

/-- 'parquetrylaw3.DatumCounts', WHERE WHAT IT READS IS OF BULK AT MOST 1048576: true; the input reads as it did. -/
def datumCountsUptoRow : OpenClaim := { program := "ythkcceknccdmpaa", sum := "5350a530c84483a3a63fc8e495f382c44fceb66477b7951e97450f1f2e5b3b51", func := "parquetry/parquetrylaw3.DatumCounts", spec := "datumCounts", unfollowed := true, recurses := true, apart := false, narrowed := true }
def DatumCountsUptoSaid : Prop := datumCountsUptoRow.holds Try.pinned (OpenSpec.upto datumCountsSpec)

end Rows
end Go.Proofs.Ythkcceknccdmpaa
