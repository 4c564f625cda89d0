/-
  No cell of these rows narrows 'for every input' (looked for: loops, veiled, ifaces, maps, wideKeys, modest, calm, conditions, laid).
  DERIVED. THE GIVEN ROWS OF THIS SEAT. 11 by the template 'for every input the law returns true; each argument reads behind the call as it read before'; 0 by the template 'total and deterministic' (their statements: YtfjbabacpnnjmaaTotals.lean).
  GIVEN WITH THE SEED: the statements are not yours to turn. If you find one false, say at which input.
  Laid BY PROGRAM, IN A SANDBOX (cutbox-rows.mjs): the forced cells as the released guide's own fill.sh prints them over the translation be3df247f7e85524… (all of the seat's roots in one cut). By AI agents, Wed Nov 11 2026. No macro, syntax, notation, axiom, sorry.
-/
import Derived.Test.YtfjbabacpnnjmaaChecked
import GoSem.Claim
import GoSem.ClaimJoined
import GoSem.ClaimMapViews
import Derived.JoinedTies
import Derived.KernelRfl
namespace Go.Proofs.Ytfjbabacpnnjmaa
/- THE CELL 'sum', in the pinned program and in every row, IS THE sha256 OF THE DUMP (.gsa) THAT YtfjbabacpnnjmaaProg.lean LOADS. Nothing in Lean hashes anything: it is a label: what it is worth is what the hold of that sum in a sandbox is worth. -/
noncomputable def Try.pinned : Pinned := { name := "ytfjbabacpnnjmaa", sum := "be3df247f7e85524696d2ec69690c4328dbe76be4467333b763ce90b116e27b4", checked := Try.checked }
namespace Rows
def none {H : Type} : Left H := { results := [], args := [] }

/-- 'parquetrylaw21.RingReduces': WHATEVER THE INPUT: true; the input reads as it did. -/
def ringReducesSpec : ChangeSpec := { name := "ringReduces", fn := fun _ => fun
  | [d1, d2] => { results := [.lit (.bool true)], args := [d1, d2] }
  | _ => none }
def ringReducesRow : OpenClaim := { program := "ytfjbabacpnnjmaa", sum := "be3df247f7e85524696d2ec69690c4328dbe76be4467333b763ce90b116e27b4", func := "parquetry/parquetrylaw21.RingReduces", spec := "ringReduces", unfollowed := true, recurses := true, plainKeys := false, apart := false }
def RingReducesSaid : Prop := ringReducesRow.holds Try.pinned (OpenSpec.ofChange ringReducesSpec)

/-- ITS FALSE NEIGHBOUR: 'it returns false'. Refute it at one input. -/
def ringReducesWrong : ChangeSpec := { name := "ringReduces", fn := fun _ => fun
  | [d1, d2] => { results := [.lit (.bool false)], args := [d1, d2] }
  | _ => none }
def RingReducesWrongFalsely : Prop := ringReducesRow.holds Try.pinned (OpenSpec.ofChange ringReducesWrong)

/-- 'parquetrylaw21.RingGathers': WHATEVER THE INPUT: true; the input reads as it did. -/
def ringGathersSpec : ChangeSpec := { name := "ringGathers", fn := fun _ => fun
  | [d1, d2] => { results := [.lit (.bool true)], args := [d1, d2] }
  | _ => none }
def ringGathersRow : OpenClaim := { program := "ytfjbabacpnnjmaa", sum := "be3df247f7e85524696d2ec69690c4328dbe76be4467333b763ce90b116e27b4", func := "parquetry/parquetrylaw21.RingGathers", spec := "ringGathers", unfollowed := true, recurses := true, plainKeys := false, apart := false }
def RingGathersSaid : Prop := ringGathersRow.holds Try.pinned (OpenSpec.ofChange ringGathersSpec)

/-- ITS FALSE NEIGHBOUR: 'it returns false'. Refute it at one input. -/
def ringGathersWrong : ChangeSpec := { name := "ringGathers", fn := fun _ => fun
  | [d1, d2] => { results := [.lit (.bool false)], args := [d1, d2] }
  | _ => none }
def RingGathersWrongFalsely : Prop := ringGathersRow.holds Try.pinned (OpenSpec.ofChange ringGathersWrong)

/-- 'parquetrylaw18.CodeNumbers': WHATEVER THE INPUT: true; the input reads as it did. -/
def codeNumbersSpec : ChangeSpec := { name := "codeNumbers", fn := fun _ => fun
  | [] => { results := [.lit (.bool true)], args := [] }
  | _ => none }
def codeNumbersRow : OpenClaim := { program := "ytfjbabacpnnjmaa", sum := "be3df247f7e85524696d2ec69690c4328dbe76be4467333b763ce90b116e27b4", func := "parquetry/parquetrylaw18.CodeNumbers", spec := "codeNumbers", unfollowed := true, recurses := true, plainKeys := false, apart := false }
def CodeNumbersSaid : Prop := codeNumbersRow.holds Try.pinned (OpenSpec.ofChange codeNumbersSpec)

/-- ITS FALSE NEIGHBOUR: 'it returns false'. Refute it at one input. -/
def codeNumbersWrong : ChangeSpec := { name := "codeNumbers", fn := fun _ => fun
  | [] => { results := [.lit (.bool false)], args := [] }
  | _ => none }
def CodeNumbersWrongFalsely : Prop := codeNumbersRow.holds Try.pinned (OpenSpec.ofChange codeNumbersWrong)

/-- 'parquetrylaw18.CodeTells': WHATEVER THE INPUT: true; the input reads as it did. -/
def codeTellsSpec : ChangeSpec := { name := "codeTells", fn := fun _ => fun
  | [d1, d2, d3] => { results := [.lit (.bool true)], args := [d1, d2, d3] }
  | _ => none }
def codeTellsRow : OpenClaim := { program := "ytfjbabacpnnjmaa", sum := "be3df247f7e85524696d2ec69690c4328dbe76be4467333b763ce90b116e27b4", func := "parquetry/parquetrylaw18.CodeTells", spec := "codeTells", unfollowed := true, recurses := true, plainKeys := false, apart := false }
def CodeTellsSaid : Prop := codeTellsRow.holds Try.pinned (OpenSpec.ofChange codeTellsSpec)

/-- ITS FALSE NEIGHBOUR: 'it returns false'. Refute it at one input. -/
def codeTellsWrong : ChangeSpec := { name := "codeTells", fn := fun _ => fun
  | [d1, d2, d3] => { results := [.lit (.bool false)], args := [d1, d2, d3] }
  | _ => none }
def CodeTellsWrongFalsely : Prop := codeTellsRow.holds Try.pinned (OpenSpec.ofChange codeTellsWrong)

/-- 'parquetrylaw18.CodeMakes': WHATEVER THE INPUT: true; the input reads as it did. -/
def codeMakesSpec : ChangeSpec := { name := "codeMakes", fn := fun _ => fun
  | [d1, d2] => { results := [.lit (.bool true)], args := [d1, d2] }
  | _ => none }
def codeMakesRow : OpenClaim := { program := "ytfjbabacpnnjmaa", sum := "be3df247f7e85524696d2ec69690c4328dbe76be4467333b763ce90b116e27b4", func := "parquetry/parquetrylaw18.CodeMakes", spec := "codeMakes", unfollowed := true, recurses := true, plainKeys := false, apart := false }
def CodeMakesSaid : Prop := codeMakesRow.holds Try.pinned (OpenSpec.ofChange codeMakesSpec)

/-- ITS FALSE NEIGHBOUR: 'it returns false'. Refute it at one input. -/
def codeMakesWrong : ChangeSpec := { name := "codeMakes", fn := fun _ => fun
  | [d1, d2] => { results := [.lit (.bool false)], args := [d1, d2] }
  | _ => none }
def CodeMakesWrongFalsely : Prop := codeMakesRow.holds Try.pinned (OpenSpec.ofChange codeMakesWrong)

/-- 'parquetrylaw18.CodePairs': WHATEVER THE INPUT: true; the input reads as it did. -/
def codePairsSpec : ChangeSpec := { name := "codePairs", fn := fun _ => fun
  | [d1, d2] => { results := [.lit (.bool true)], args := [d1, d2] }
  | _ => none }
def codePairsRow : OpenClaim := { program := "ytfjbabacpnnjmaa", sum := "be3df247f7e85524696d2ec69690c4328dbe76be4467333b763ce90b116e27b4", func := "parquetry/parquetrylaw18.CodePairs", spec := "codePairs", unfollowed := true, recurses := true, plainKeys := false, apart := false }
def CodePairsSaid : Prop := codePairsRow.holds Try.pinned (OpenSpec.ofChange codePairsSpec)

/-- ITS FALSE NEIGHBOUR: 'it returns false'. Refute it at one input. -/
def codePairsWrong : ChangeSpec := { name := "codePairs", fn := fun _ => fun
  | [d1, d2] => { results := [.lit (.bool false)], args := [d1, d2] }
  | _ => none }
def CodePairsWrongFalsely : Prop := codePairsRow.holds Try.pinned (OpenSpec.ofChange codePairsWrong)

/-- 'parquetrylaw21.RingSwaps': WHATEVER THE INPUT: true; the input reads as it did. -/
def ringSwapsSpec : ChangeSpec := { name := "ringSwaps", fn := fun _ => fun
  | [d] => { results := [.lit (.bool true)], args := [d] }
  | _ => none }
def ringSwapsRow : OpenClaim := { program := "ytfjbabacpnnjmaa", sum := "be3df247f7e85524696d2ec69690c4328dbe76be4467333b763ce90b116e27b4", func := "parquetry/parquetrylaw21.RingSwaps", spec := "ringSwaps", unfollowed := true, recurses := true, plainKeys := false, apart := false }
def RingSwapsSaid : Prop := ringSwapsRow.holds Try.pinned (OpenSpec.ofChange ringSwapsSpec)

/-- ITS FALSE NEIGHBOUR: 'it returns false'. Refute it at one input. -/
def ringSwapsWrong : ChangeSpec := { name := "ringSwaps", fn := fun _ => fun
  | [d] => { results := [.lit (.bool false)], args := [d] }
  | _ => none }
def RingSwapsWrongFalsely : Prop := ringSwapsRow.holds Try.pinned (OpenSpec.ofChange ringSwapsWrong)

/-- 'parquetrylaw21.RingCasts': WHATEVER THE INPUT: true; the input reads as it did. -/
def ringCastsSpec : ChangeSpec := { name := "ringCasts", fn := fun _ => fun
  | [d1, d2, d3] => { results := [.lit (.bool true)], args := [d1, d2, d3] }
  | _ => none }
def ringCastsRow : OpenClaim := { program := "ytfjbabacpnnjmaa", sum := "be3df247f7e85524696d2ec69690c4328dbe76be4467333b763ce90b116e27b4", func := "parquetry/parquetrylaw21.RingCasts", spec := "ringCasts", inPlace := ["slices.overlaps[int]"], unfollowed := true, recurses := true, plainKeys := false, apart := false }
def RingCastsSaid : Prop := ringCastsRow.holds Try.pinned (OpenSpec.ofChange ringCastsSpec)

/-- ITS FALSE NEIGHBOUR: 'it returns false'. Refute it at one input. -/
def ringCastsWrong : ChangeSpec := { name := "ringCasts", fn := fun _ => fun
  | [d1, d2, d3] => { results := [.lit (.bool false)], args := [d1, d2, d3] }
  | _ => none }
def RingCastsWrongFalsely : Prop := ringCastsRow.holds Try.pinned (OpenSpec.ofChange ringCastsWrong)

/-- 'parquetrylaw21.RingRefuses': WHATEVER THE INPUT: true; the input reads as it did. -/
def ringRefusesSpec : ChangeSpec := { name := "ringRefuses", fn := fun _ => fun
  | [d1, d2, d3, d4, d5, d6] => { results := [.lit (.bool true)], args := [d1, d2, d3, d4, d5, d6] }
  | _ => none }
def ringRefusesRow : OpenClaim := { program := "ytfjbabacpnnjmaa", sum := "be3df247f7e85524696d2ec69690c4328dbe76be4467333b763ce90b116e27b4", func := "parquetry/parquetrylaw21.RingRefuses", spec := "ringRefuses", inPlace := ["slices.overlaps[int]"], unfollowed := true, recurses := true, plainKeys := false, apart := false }
def RingRefusesSaid : Prop := ringRefusesRow.holds Try.pinned (OpenSpec.ofChange ringRefusesSpec)

/-- ITS FALSE NEIGHBOUR: 'it returns false'. Refute it at one input. -/
def ringRefusesWrong : ChangeSpec := { name := "ringRefuses", fn := fun _ => fun
  | [d1, d2, d3, d4, d5, d6] => { results := [.lit (.bool false)], args := [d1, d2, d3, d4, d5, d6] }
  | _ => none }
def RingRefusesWrongFalsely : Prop := ringRefusesRow.holds Try.pinned (OpenSpec.ofChange ringRefusesWrong)

/-- 'parquetrylaw21.RingRows': WHATEVER THE INPUT: true; the input reads as it did. -/
def ringRowsSpec : ChangeSpec := { name := "ringRows", fn := fun _ => fun
  | [d1, d2, d3] => { results := [.lit (.bool true)], args := [d1, d2, d3] }
  | _ => none }
def ringRowsRow : OpenClaim := { program := "ytfjbabacpnnjmaa", sum := "be3df247f7e85524696d2ec69690c4328dbe76be4467333b763ce90b116e27b4", func := "parquetry/parquetrylaw21.RingRows", spec := "ringRows", inPlace := ["slices.overlaps[int]"], unfollowed := true, recurses := true, plainKeys := false, apart := false }
def RingRowsSaid : Prop := ringRowsRow.holds Try.pinned (OpenSpec.ofChange ringRowsSpec)

/-- ITS FALSE NEIGHBOUR: 'it returns false'. Refute it at one input. -/
def ringRowsWrong : ChangeSpec := { name := "ringRows", fn := fun _ => fun
  | [d1, d2, d3] => { results := [.lit (.bool false)], args := [d1, d2, d3] }
  | _ => none }
def RingRowsWrongFalsely : Prop := ringRowsRow.holds Try.pinned (OpenSpec.ofChange ringRowsWrong)

/-- 'parquetrylaw23.MoveRefuses': WHATEVER THE INPUT: true; the input reads as it did. -/
def moveRefusesSpec : ChangeSpec := { name := "moveRefuses", fn := fun _ => fun
  | [d1, d2, d3, d4, d5, d6, d7] => { results := [.lit (.bool true)], args := [d1, d2, d3, d4, d5, d6, d7] }
  | _ => none }
def moveRefusesRow : OpenClaim := { program := "ytfjbabacpnnjmaa", sum := "be3df247f7e85524696d2ec69690c4328dbe76be4467333b763ce90b116e27b4", func := "parquetry/parquetrylaw23.MoveRefuses", spec := "moveRefuses", unfollowed := true, recurses := true, plainKeys := false, apart := false }
def MoveRefusesSaid : Prop := moveRefusesRow.holds Try.pinned (OpenSpec.ofChange moveRefusesSpec)

/-- ITS FALSE NEIGHBOUR: 'it returns false'. Refute it at one input. -/
def moveRefusesWrong : ChangeSpec := { name := "moveRefuses", fn := fun _ => fun
  | [d1, d2, d3, d4, d5, d6, d7] => { results := [.lit (.bool false)], args := [d1, d2, d3, d4, d5, d6, d7] }
  | _ => none }
def MoveRefusesWrongFalsely : Prop := moveRefusesRow.holds Try.pinned (OpenSpec.ofChange moveRefusesWrong)

/- THE SECOND FORM. 'bulk': how many values and letters a reading holds, each counted each time it is reached (what is shared counts as often as it is met; a slice's spare places count too). A statement '..UptoSaid' is the law's where the arguments, and the package variables that the reading takes, are together of bulk at most 1048576: NARROWER than '..Said'. Prove '..Said' where nothing that the law and all that it calls make is longer than what came in: it says more and counts as full. Else prove '..UptoSaid'. A law counts once. -/
mutual
def uptoBulk {H : Type} : DataW H → Nat
  | .lit (.string bytes) => bytes.length + 1
  | .lit _ => 1
  | .nil => 1
  | .ptr d => uptoBulk d + 1
  | .slice elems spare => uptoBulkAll elems + uptoBulkAll spare + 1
  | .agg parts => uptoBulkAll parts + 1
  | .iface _ d => uptoBulk d + 1
  | .map entries => uptoBulkEntries entries + 1
  | .held _ => 1
def uptoBulkAll {H : Type} : List (DataW H) → Nat
  | [] => 0
  | d :: r => uptoBulk d + uptoBulkAll r
def uptoBulkEntries {H : Type} : List (Lit × DataW H) → Nat
  | [] => 0
  | x :: r => uptoBulkEntry x + uptoBulkEntries r
def uptoBulkEntry {H : Type} : Lit × DataW H → Nat
  | (.string bytes, d) => bytes.length + uptoBulk d + 1
  | (_, d) => uptoBulk d + 1
 end
def uptoSmall : (H : Type) → List (DataW H) → Bool := fun _ ds => decide (uptoBulkAll ds ≤ 1048576)
def OpenSpec.upto (s : _root_.Go.ChangeSpec) : _root_.Go.OpenSpec := { _root_.Go.OpenSpec.ofChange s with cond := some uptoSmall }

/-- 'parquetrylaw21.RingReduces', WHERE WHAT IT READS IS OF BULK AT MOST 1048576: true; the input reads as it did. -/
def ringReducesUptoRow : OpenClaim := { program := "ytfjbabacpnnjmaa", sum := "be3df247f7e85524696d2ec69690c4328dbe76be4467333b763ce90b116e27b4", func := "parquetry/parquetrylaw21.RingReduces", spec := "ringReduces", unfollowed := true, recurses := true, plainKeys := false, apart := false, narrowed := true }
def RingReducesUptoSaid : Prop := ringReducesUptoRow.holds Try.pinned (OpenSpec.upto ringReducesSpec)

/-- 'parquetrylaw21.RingGathers', WHERE WHAT IT READS IS OF BULK AT MOST 1048576: true; the input reads as it did. -/
def ringGathersUptoRow : OpenClaim := { program := "ytfjbabacpnnjmaa", sum := "be3df247f7e85524696d2ec69690c4328dbe76be4467333b763ce90b116e27b4", func := "parquetry/parquetrylaw21.RingGathers", spec := "ringGathers", unfollowed := true, recurses := true, plainKeys := false, apart := false, narrowed := true }
def RingGathersUptoSaid : Prop := ringGathersUptoRow.holds Try.pinned (OpenSpec.upto ringGathersSpec)

/-- 'parquetrylaw18.CodeNumbers', WHERE WHAT IT READS IS OF BULK AT MOST 1048576: true; the input reads as it did. -/
def codeNumbersUptoRow : OpenClaim := { program := "ytfjbabacpnnjmaa", sum := "be3df247f7e85524696d2ec69690c4328dbe76be4467333b763ce90b116e27b4", func := "parquetry/parquetrylaw18.CodeNumbers", spec := "codeNumbers", unfollowed := true, recurses := true, plainKeys := false, apart := false, narrowed := true }
def CodeNumbersUptoSaid : Prop := codeNumbersUptoRow.holds Try.pinned (OpenSpec.upto codeNumbersSpec)

/-- 'parquetrylaw18.CodeTells', WHERE WHAT IT READS IS OF BULK AT MOST 1048576: true; the input reads as it did. -/
def codeTellsUptoRow : OpenClaim := { program := "ytfjbabacpnnjmaa", sum := "be3df247f7e85524696d2ec69690c4328dbe76be4467333b763ce90b116e27b4", func := "parquetry/parquetrylaw18.CodeTells", spec := "codeTells", unfollowed := true, recurses := true, plainKeys := false, apart := false, narrowed := true }
def CodeTellsUptoSaid : Prop := codeTellsUptoRow.holds Try.pinned (OpenSpec.upto codeTellsSpec)

/-- 'parquetrylaw18.CodeMakes', WHERE WHAT IT READS IS OF BULK AT MOST 1048576: true; the input reads as it did. -/
def codeMakesUptoRow : OpenClaim := { program := "ytfjbabacpnnjmaa", sum := "be3df247f7e85524696d2ec69690c4328dbe76be4467333b763ce90b116e27b4", func := "parquetry/parquetrylaw18.CodeMakes", spec := "codeMakes", unfollowed := true, recurses := true, plainKeys := false, apart := false, narrowed := true }
def CodeMakesUptoSaid : Prop := codeMakesUptoRow.holds Try.pinned (OpenSpec.upto codeMakesSpec)

/-- 'parquetrylaw18.CodePairs', WHERE WHAT IT READS IS OF BULK AT MOST 1048576: true; the input reads as it did. -/
def codePairsUptoRow : OpenClaim := { program := "ytfjbabacpnnjmaa", sum := "be3df247f7e85524696d2ec69690c4328dbe76be4467333b763ce90b116e27b4", func := "parquetry/parquetrylaw18.CodePairs", spec := "codePairs", unfollowed := true, recurses := true, plainKeys := false, apart := false, narrowed := true }
def CodePairsUptoSaid : Prop := codePairsUptoRow.holds Try.pinned (OpenSpec.upto codePairsSpec)

/-- 'parquetrylaw21.RingSwaps', WHERE WHAT IT READS IS OF BULK AT MOST 1048576: true; the input reads as it did. -/
def ringSwapsUptoRow : OpenClaim := { program := "ytfjbabacpnnjmaa", sum := "be3df247f7e85524696d2ec69690c4328dbe76be4467333b763ce90b116e27b4", func := "parquetry/parquetrylaw21.RingSwaps", spec := "ringSwaps", unfollowed := true, recurses := true, plainKeys := false, apart := false, narrowed := true }
def RingSwapsUptoSaid : Prop := ringSwapsUptoRow.holds Try.pinned (OpenSpec.upto ringSwapsSpec)

/-- 'parquetrylaw21.RingCasts', WHERE WHAT IT READS IS OF BULK AT MOST 1048576: true; the input reads as it did. -/
def ringCastsUptoRow : OpenClaim := { program := "ytfjbabacpnnjmaa", sum := "be3df247f7e85524696d2ec69690c4328dbe76be4467333b763ce90b116e27b4", func := "parquetry/parquetrylaw21.RingCasts", spec := "ringCasts", inPlace := ["slices.overlaps[int]"], unfollowed := true, recurses := true, plainKeys := false, apart := false, narrowed := true }
def RingCastsUptoSaid : Prop := ringCastsUptoRow.holds Try.pinned (OpenSpec.upto ringCastsSpec)

/-- 'parquetrylaw21.RingRefuses', WHERE WHAT IT READS IS OF BULK AT MOST 1048576: true; the input reads as it did. -/
def ringRefusesUptoRow : OpenClaim := { program := "ytfjbabacpnnjmaa", sum := "be3df247f7e85524696d2ec69690c4328dbe76be4467333b763ce90b116e27b4", func := "parquetry/parquetrylaw21.RingRefuses", spec := "ringRefuses", inPlace := ["slices.overlaps[int]"], unfollowed := true, recurses := true, plainKeys := false, apart := false, narrowed := true }
def RingRefusesUptoSaid : Prop := ringRefusesUptoRow.holds Try.pinned (OpenSpec.upto ringRefusesSpec)

/-- 'parquetrylaw21.RingRows', WHERE WHAT IT READS IS OF BULK AT MOST 1048576: true; the input reads as it did. -/
def ringRowsUptoRow : OpenClaim := { program := "ytfjbabacpnnjmaa", sum := "be3df247f7e85524696d2ec69690c4328dbe76be4467333b763ce90b116e27b4", func := "parquetry/parquetrylaw21.RingRows", spec := "ringRows", inPlace := ["slices.overlaps[int]"], unfollowed := true, recurses := true, plainKeys := false, apart := false, narrowed := true }
def RingRowsUptoSaid : Prop := ringRowsUptoRow.holds Try.pinned (OpenSpec.upto ringRowsSpec)

/-- 'parquetrylaw23.MoveRefuses', WHERE WHAT IT READS IS OF BULK AT MOST 1048576: true; the input reads as it did. -/
def moveRefusesUptoRow : OpenClaim := { program := "ytfjbabacpnnjmaa", sum := "be3df247f7e85524696d2ec69690c4328dbe76be4467333b763ce90b116e27b4", func := "parquetry/parquetrylaw23.MoveRefuses", spec := "moveRefuses", unfollowed := true, recurses := true, plainKeys := false, apart := false, narrowed := true }
def MoveRefusesUptoSaid : Prop := moveRefusesUptoRow.holds Try.pinned (OpenSpec.upto moveRefusesSpec)

end Rows
end Go.Proofs.Ytfjbabacpnnjmaa
