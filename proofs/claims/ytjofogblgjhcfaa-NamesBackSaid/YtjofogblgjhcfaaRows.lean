/-
  No cell of these rows narrows 'for every input' (looked for: loops, veiled, ifaces, maps, wideKeys, modest, calm, conditions, laid).
  DERIVED. THE GIVEN ROWS OF THIS SEAT. 4 by the template 'for every input the law returns true; each argument reads behind the call as it read before'; 0 by the template 'total and deterministic' (their statements: YtjofogblgjhcfaaTotals.lean).
  GIVEN WITH THE SEED: the statements are not yours to turn. If you find one false, say at which input.
  Laid BY PROGRAM, IN A SANDBOX (cutbox-rows.mjs): the forced cells as the released guide's own fill.sh prints them over the translation 196d40e1d1d8eefa… (all of the seat's roots in one cut). By AI agents, Wed Nov 11 2026. No macro, syntax, notation, axiom, sorry.
-/
import Derived.Test.YtjofogblgjhcfaaChecked
import GoSem.Claim
import GoSem.ClaimJoined
import GoSem.ClaimMapViews
import Derived.JoinedTies
import Derived.KernelRfl
namespace Go.Proofs.Ytjofogblgjhcfaa
/- THE CELL 'sum', in the pinned program and in every row, IS THE sha256 OF THE DUMP (.gsa) THAT YtjofogblgjhcfaaProg.lean LOADS. Nothing in Lean hashes anything: it is a label: what it is worth is what the hold of that sum in a sandbox is worth. -/
noncomputable def Try.pinned : Pinned := { name := "ytjofogblgjhcfaa", sum := "196d40e1d1d8eefa820385535da9ea209c7fe8498335fd3e86935c2a7316da73", checked := Try.checked }
namespace Rows
def none {H : Type} : Left H := { results := [], args := [] }

/-- 'parquetrylaw9.NamesNumbers': WHATEVER THE INPUT: true; the input reads as it did. -/
def namesNumbersSpec : ChangeSpec := { name := "namesNumbers", fn := fun _ => fun
  | [] => { results := [.lit (.bool true)], args := [] }
  | _ => none }
def namesNumbersRow : OpenClaim := { program := "ytjofogblgjhcfaa", sum := "196d40e1d1d8eefa820385535da9ea209c7fe8498335fd3e86935c2a7316da73", func := "parquetry/parquetrylaw9.NamesNumbers", spec := "namesNumbers", apart := false }
def NamesNumbersSaid : Prop := namesNumbersRow.holds Try.pinned (OpenSpec.ofChange namesNumbersSpec)

/-- ITS FALSE NEIGHBOUR: 'it returns false'. Refute it at one input. -/
def namesNumbersWrong : ChangeSpec := { name := "namesNumbers", fn := fun _ => fun
  | [] => { results := [.lit (.bool false)], args := [] }
  | _ => none }
def NamesNumbersWrongFalsely : Prop := namesNumbersRow.holds Try.pinned (OpenSpec.ofChange namesNumbersWrong)

/-- 'parquetrylaw9.NamesTells': WHATEVER THE INPUT: true; the input reads as it did. -/
def namesTellsSpec : ChangeSpec := { name := "namesTells", fn := fun _ => fun
  | [d1, d2, d3, d4, d5] => { results := [.lit (.bool true)], args := [d1, d2, d3, d4, d5] }
  | _ => none }
def namesTellsRow : OpenClaim := { program := "ytjofogblgjhcfaa", sum := "196d40e1d1d8eefa820385535da9ea209c7fe8498335fd3e86935c2a7316da73", func := "parquetry/parquetrylaw9.NamesTells", spec := "namesTells", apart := false }
def NamesTellsSaid : Prop := namesTellsRow.holds Try.pinned (OpenSpec.ofChange namesTellsSpec)

/-- ITS FALSE NEIGHBOUR: 'it returns false'. Refute it at one input. -/
def namesTellsWrong : ChangeSpec := { name := "namesTells", fn := fun _ => fun
  | [d1, d2, d3, d4, d5] => { results := [.lit (.bool false)], args := [d1, d2, d3, d4, d5] }
  | _ => none }
def NamesTellsWrongFalsely : Prop := namesTellsRow.holds Try.pinned (OpenSpec.ofChange namesTellsWrong)

/-- 'parquetrylaw9.NamesBack': WHATEVER THE INPUT: true; the input reads as it did. -/
def namesBackSpec : ChangeSpec := { name := "namesBack", fn := fun _ => fun
  | [d1, d2, d3, d4, d5] => { results := [.lit (.bool true)], args := [d1, d2, d3, d4, d5] }
  | _ => none }
def namesBackRow : OpenClaim := { program := "ytjofogblgjhcfaa", sum := "196d40e1d1d8eefa820385535da9ea209c7fe8498335fd3e86935c2a7316da73", func := "parquetry/parquetrylaw9.NamesBack", spec := "namesBack", apart := false }
def NamesBackSaid : Prop := namesBackRow.holds Try.pinned (OpenSpec.ofChange namesBackSpec)

/-- ITS FALSE NEIGHBOUR: 'it returns false'. Refute it at one input. -/
def namesBackWrong : ChangeSpec := { name := "namesBack", fn := fun _ => fun
  | [d1, d2, d3, d4, d5] => { results := [.lit (.bool false)], args := [d1, d2, d3, d4, d5] }
  | _ => none }
def NamesBackWrongFalsely : Prop := namesBackRow.holds Try.pinned (OpenSpec.ofChange namesBackWrong)

/-- 'parquetrylaw9.NamesUnique': WHATEVER THE INPUT: true; the input reads as it did. -/
def namesUniqueSpec : ChangeSpec := { name := "namesUnique", fn := fun _ => fun
  | [d1, d2, d3] => { results := [.lit (.bool true)], args := [d1, d2, d3] }
  | _ => none }
def namesUniqueRow : OpenClaim := { program := "ytjofogblgjhcfaa", sum := "196d40e1d1d8eefa820385535da9ea209c7fe8498335fd3e86935c2a7316da73", func := "parquetry/parquetrylaw9.NamesUnique", spec := "namesUnique", apart := false }
def NamesUniqueSaid : Prop := namesUniqueRow.holds Try.pinned (OpenSpec.ofChange namesUniqueSpec)

/-- ITS FALSE NEIGHBOUR: 'it returns false'. Refute it at one input. -/
def namesUniqueWrong : ChangeSpec := { name := "namesUnique", fn := fun _ => fun
  | [d1, d2, d3] => { results := [.lit (.bool false)], args := [d1, d2, d3] }
  | _ => none }
def NamesUniqueWrongFalsely : Prop := namesUniqueRow.holds Try.pinned (OpenSpec.ofChange namesUniqueWrong)

/- THE SECOND FORM. 'bulk': how many values and letters a reading holds, each counted each time it is reached (what is shared counts as often as it is met; a slice's spare places count too). A statement '..UptoSaid' is the law's where the arguments, and the package variables that the reading takes, are together of bulk at most 1048576: NARROWER than '..Said'. Prove '..Said' where nothing that the law and all that it calls make is longer than what came in: it says more and counts as full. Else prove '..UptoSaid'. A law counts once. -/
mutual
def uptoBulk {H : Type} : DataW H → Nat
  | .lit (.string bytes) => bytes.length + 1
  | .lit _ => 1
  | .nil => 1
  | .ptr d => uptoBulk d + 1
  | .slice elems spare => uptoBulkAll elems + uptoBulkAll spare + 1
  | .agg parts => uptoBulkAll parts + 1
  | .iface _ d => uptoBulk d + 1
  | .map entries => uptoBulkEntries entries + 1
  | .held _ => 1
def uptoBulkAll {H : Type} : List (DataW H) → Nat
  | [] => 0
  | d :: r => uptoBulk d + uptoBulkAll r
def uptoBulkEntries {H : Type} : List (Lit × DataW H) → Nat
  | [] => 0
  | x :: r => uptoBulkEntry x + uptoBulkEntries r
def uptoBulkEntry {H : Type} : Lit × DataW H → Nat
  | (.string bytes, d) => bytes.length + uptoBulk d + 1
  | (_, d) => uptoBulk d + 1
 end
def uptoSmall : (H : Type) → List (DataW H) → Bool := fun _ ds => decide (uptoBulkAll ds ≤ 1048576)
def OpenSpec.upto (s : _root_.Go.ChangeSpec) : _root_.Go.OpenSpec := { _root_.Go.OpenSpec.ofChange s with cond := some uptoSmall }

/-- 'parquetrylaw9.NamesNumbers', WHERE WHAT IT READS IS OF BULK AT MOST 1048576: true; the input reads as it did. -/
def namesNumbersUptoRow : OpenClaim := { program := "ytjofogblgjhcfaa", sum := "196d40e1d1d8eefa820385535da9ea209c7fe8498335fd3e86935c2a7316da73", func := "parquetry/parquetrylaw9.NamesNumbers", spec := "namesNumbers", apart := false, narrowed := true }
def NamesNumbersUptoSaid : Prop := namesNumbersUptoRow.holds Try.pinned (OpenSpec.upto namesNumbersSpec)

/-- 'parquetrylaw9.NamesTells', WHERE WHAT IT READS IS OF BULK AT MOST 1048576: true; the input reads as it did. -/
def namesTellsUptoRow : OpenClaim := { program := "ytjofogblgjhcfaa", sum := "196d40e1d1d8eefa820385535da9ea209c7fe8498335fd3e86935c2a7316da73", func := "parquetry/parquetrylaw9.NamesTells", spec := "namesTells", apart := false, narrowed := true }
def NamesTellsUptoSaid : Prop := namesTellsUptoRow.holds Try.pinned (OpenSpec.upto namesTellsSpec)

/-- 'parquetrylaw9.NamesBack', WHERE WHAT IT READS IS OF BULK AT MOST 1048576: true; the input reads as it did. -/
def namesBackUptoRow : OpenClaim := { program := "ytjofogblgjhcfaa", sum := "196d40e1d1d8eefa820385535da9ea209c7fe8498335fd3e86935c2a7316da73", func := "parquetry/parquetrylaw9.NamesBack", spec := "namesBack", apart := false, narrowed := true }
def NamesBackUptoSaid : Prop := namesBackUptoRow.holds Try.pinned (OpenSpec.upto namesBackSpec)

/-- 'parquetrylaw9.NamesUnique', WHERE WHAT IT READS IS OF BULK AT MOST 1048576: true; the input reads as it did. -/
def namesUniqueUptoRow : OpenClaim := { program := "ytjofogblgjhcfaa", sum := "196d40e1d1d8eefa820385535da9ea209c7fe8498335fd3e86935c2a7316da73", func := "parquetry/parquetrylaw9.NamesUnique", spec := "namesUnique", apart := false, narrowed := true }
def NamesUniqueUptoSaid : Prop := namesUniqueUptoRow.holds Try.pinned (OpenSpec.upto namesUniqueSpec)

end Rows
end Go.Proofs.Ytjofogblgjhcfaa
