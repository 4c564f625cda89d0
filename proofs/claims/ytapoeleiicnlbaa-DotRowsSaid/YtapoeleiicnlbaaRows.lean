/-
  No cell of these rows narrows 'for every input' (looked for: loops, veiled, ifaces, maps, wideKeys, modest, calm, conditions, laid).
  DERIVED. THE GIVEN ROWS OF THIS SEAT. 4 by the template 'for every input the law returns true; each argument reads behind the call as it read before'; 0 by the template 'total and deterministic' (their statements: YtapoeleiicnlbaaTotals.lean).
  GIVEN WITH THE SEED: the statements are not yours to turn. If you find one false, say at which input.
  Laid BY PROGRAM, IN A SANDBOX (cutbox-rows.mjs): the forced cells as the released guide's own fill.sh prints them over the translation a8c3b9442c3a203f… (all of the seat's roots in one cut). By AI agents, Wed Nov 11 2026. No macro, syntax, notation, axiom, sorry.
-/
import Derived.Test.YtapoeleiicnlbaaChecked
import GoSem.Claim
import GoSem.ClaimJoined
import GoSem.ClaimMapViews
import Derived.JoinedTies
import Derived.KernelRfl
namespace Go.Proofs.Ytapoeleiicnlbaa
/- THE CELL 'sum', in the pinned program and in every row, IS THE sha256 OF THE DUMP (.gsa) THAT YtapoeleiicnlbaaProg.lean LOADS. Nothing in Lean hashes anything: it is a label: what it is worth is what the hold of that sum in a sandbox is worth. -/
noncomputable def Try.pinned : Pinned := { name := "ytapoeleiicnlbaa", sum := "a8c3b9442c3a203f844ddffb60fa329ad48547de3397e6526020149fe1b17662", checked := Try.checked }
namespace Rows
def none {H : Type} : Left H := { results := [], args := [] }

/-- 'parquetrylaw7.DotNumbers': WHATEVER THE INPUT: true; the input reads as it did. -/
def dotNumbersSpec : ChangeSpec := { name := "dotNumbers", fn := fun _ => fun
  | [] => { results := [.lit (.bool true)], args := [] }
  | _ => none }
def dotNumbersRow : OpenClaim := { program := "ytapoeleiicnlbaa", sum := "a8c3b9442c3a203f844ddffb60fa329ad48547de3397e6526020149fe1b17662", func := "parquetry/parquetrylaw7.DotNumbers", spec := "dotNumbers", unfollowed := true, recurses := true, apart := false }
def DotNumbersSaid : Prop := dotNumbersRow.holds Try.pinned (OpenSpec.ofChange dotNumbersSpec)

/-- ITS FALSE NEIGHBOUR: 'it returns false'. Refute it at one input. -/
def dotNumbersWrong : ChangeSpec := { name := "dotNumbers", fn := fun _ => fun
  | [] => { results := [.lit (.bool false)], args := [] }
  | _ => none }
def DotNumbersWrongFalsely : Prop := dotNumbersRow.holds Try.pinned (OpenSpec.ofChange dotNumbersWrong)

/-- 'parquetrylaw7.DotTells': WHATEVER THE INPUT: true; the input reads as it did. -/
def dotTellsSpec : ChangeSpec := { name := "dotTells", fn := fun _ => fun
  | [d1, d2, d3, d4] => { results := [.lit (.bool true)], args := [d1, d2, d3, d4] }
  | _ => none }
def dotTellsRow : OpenClaim := { program := "ytapoeleiicnlbaa", sum := "a8c3b9442c3a203f844ddffb60fa329ad48547de3397e6526020149fe1b17662", func := "parquetry/parquetrylaw7.DotTells", spec := "dotTells", unfollowed := true, recurses := true, apart := false }
def DotTellsSaid : Prop := dotTellsRow.holds Try.pinned (OpenSpec.ofChange dotTellsSpec)

/-- ITS FALSE NEIGHBOUR: 'it returns false'. Refute it at one input. -/
def dotTellsWrong : ChangeSpec := { name := "dotTells", fn := fun _ => fun
  | [d1, d2, d3, d4] => { results := [.lit (.bool false)], args := [d1, d2, d3, d4] }
  | _ => none }
def DotTellsWrongFalsely : Prop := dotTellsRow.holds Try.pinned (OpenSpec.ofChange dotTellsWrong)

/-- 'parquetrylaw7.DotSums': WHATEVER THE INPUT: true; the input reads as it did. -/
def dotSumsSpec : ChangeSpec := { name := "dotSums", fn := fun _ => fun
  | [d1, d2, d3, d4] => { results := [.lit (.bool true)], args := [d1, d2, d3, d4] }
  | _ => none }
def dotSumsRow : OpenClaim := { program := "ytapoeleiicnlbaa", sum := "a8c3b9442c3a203f844ddffb60fa329ad48547de3397e6526020149fe1b17662", func := "parquetry/parquetrylaw7.DotSums", spec := "dotSums", unfollowed := true, recurses := true, apart := false }
def DotSumsSaid : Prop := dotSumsRow.holds Try.pinned (OpenSpec.ofChange dotSumsSpec)

/-- ITS FALSE NEIGHBOUR: 'it returns false'. Refute it at one input. -/
def dotSumsWrong : ChangeSpec := { name := "dotSums", fn := fun _ => fun
  | [d1, d2, d3, d4] => { results := [.lit (.bool false)], args := [d1, d2, d3, d4] }
  | _ => none }
def DotSumsWrongFalsely : Prop := dotSumsRow.holds Try.pinned (OpenSpec.ofChange dotSumsWrong)

/-- 'parquetrylaw7.DotRows': WHATEVER THE INPUT: true; the input reads as it did. -/
def dotRowsSpec : ChangeSpec := { name := "dotRows", fn := fun _ => fun
  | [d1, d2, d3] => { results := [.lit (.bool true)], args := [d1, d2, d3] }
  | _ => none }
def dotRowsRow : OpenClaim := { program := "ytapoeleiicnlbaa", sum := "a8c3b9442c3a203f844ddffb60fa329ad48547de3397e6526020149fe1b17662", func := "parquetry/parquetrylaw7.DotRows", spec := "dotRows", unfollowed := true, recurses := true, apart := false }
def DotRowsSaid : Prop := dotRowsRow.holds Try.pinned (OpenSpec.ofChange dotRowsSpec)

/-- ITS FALSE NEIGHBOUR: 'it returns false'. Refute it at one input. -/
def dotRowsWrong : ChangeSpec := { name := "dotRows", fn := fun _ => fun
  | [d1, d2, d3] => { results := [.lit (.bool false)], args := [d1, d2, d3] }
  | _ => none }
def DotRowsWrongFalsely : Prop := dotRowsRow.holds Try.pinned (OpenSpec.ofChange dotRowsWrong)

/- THE SECOND FORM. 'bulk': how many values and letters a reading holds, each counted each time it is reached (what is shared counts as often as it is met; a slice's spare places count too). A statement '..UptoSaid' is the law's where the arguments, and the package variables that the reading takes, are together of bulk at most 1048576: NARROWER than '..Said'. Prove '..Said' where nothing that the law and all that it calls make is longer than what came in: it says more and counts as full. Else prove '..UptoSaid'. A law counts once. -/
mutual
def uptoBulk {H : Type} : DataW H → Nat
  | .lit (.string bytes) => bytes.length + 1
  | .lit _ => 1
  | .nil => 1
  | .ptr d => uptoBulk d + 1
  | .slice elems spare => uptoBulkAll elems + uptoBulkAll spare + 1
  | .agg parts => uptoBulkAll parts + 1
  | .iface _ d => uptoBulk d + 1
  | .map entries => uptoBulkEntries entries + 1
  | .held _ => 1
def uptoBulkAll {H : Type} : List (DataW H) → Nat
  | [] => 0
  | d :: r => uptoBulk d + uptoBulkAll r
def uptoBulkEntries {H : Type} : List (Lit × DataW H) → Nat
  | [] => 0
  | x :: r => uptoBulkEntry x + uptoBulkEntries r
def uptoBulkEntry {H : Type} : Lit × DataW H → Nat
  | (.string bytes, d) => bytes.length + uptoBulk d + 1
  | (_, d) => uptoBulk d + 1
 end
def uptoSmall : (H : Type) → List (DataW H) → Bool := fun _ ds => decide (uptoBulkAll ds ≤ 1048576)
def OpenSpec.upto (s : _root_.Go.ChangeSpec) : _root_.Go.OpenSpec := { _root_.Go.OpenSpec.ofChange s with cond := some uptoSmall }

/-- 'parquetrylaw7.DotNumbers', WHERE WHAT IT READS IS OF BULK AT MOST 1048576: true; the input reads as it did. -/
def dotNumbersUptoRow : OpenClaim := { program := "ytapoeleiicnlbaa", sum := "a8c3b9442c3a203f844ddffb60fa329ad48547de3397e6526020149fe1b17662", func := "parquetry/parquetrylaw7.DotNumbers", spec := "dotNumbers", unfollowed := true, recurses := true, apart := false, narrowed := true }
def DotNumbersUptoSaid : Prop := dotNumbersUptoRow.holds Try.pinned (OpenSpec.upto dotNumbersSpec)

/-- 'parquetrylaw7.DotTells', WHERE WHAT IT READS IS OF BULK AT MOST 1048576: true; the input reads as it did. -/
def dotTellsUptoRow : OpenClaim := { program := "ytapoeleiicnlbaa", sum := "a8c3b9442c3a203f844ddffb60fa329ad48547de3397e6526020149fe1b17662", func := "parquetry/parquetrylaw7.DotTells", spec := "dotTells", unfollowed := true, recurses := true, apart := false, narrowed := true }
def DotTellsUptoSaid : Prop := dotTellsUptoRow.holds Try.pinned (OpenSpec.upto dotTellsSpec)

/-- 'parquetrylaw7.DotSums', WHERE WHAT IT READS IS OF BULK AT MOST 1048576: true; the input reads as it did. -/
def dotSumsUptoRow : OpenClaim := { program := "ytapoeleiicnlbaa", sum := "a8c3b9442c3a203f844ddffb60fa329ad48547de3397e6526020149fe1b17662", func := "parquetry/parquetrylaw7.DotSums", spec := "dotSums", unfollowed := true, recurses := true, apart := false, narrowed := true }
def DotSumsUptoSaid : Prop := dotSumsUptoRow.holds Try.pinned (OpenSpec.upto dotSumsSpec)

/-- 'parquetrylaw7.DotRows', WHERE WHAT IT READS IS OF BULK AT MOST 1048576: true; the input reads as it did. -/
def dotRowsUptoRow : OpenClaim := { program := "ytapoeleiicnlbaa", sum := "a8c3b9442c3a203f844ddffb60fa329ad48547de3397e6526020149fe1b17662", func := "parquetry/parquetrylaw7.DotRows", spec := "dotRows", unfollowed := true, recurses := true, apart := false, narrowed := true }
def DotRowsUptoSaid : Prop := dotRowsUptoRow.holds Try.pinned (OpenSpec.upto dotRowsSpec)

end Rows
end Go.Proofs.Ytapoeleiicnlbaa
