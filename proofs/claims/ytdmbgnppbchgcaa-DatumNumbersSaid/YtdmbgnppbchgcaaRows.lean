/-
  No cell of these rows narrows 'for every input' (looked for: loops, veiled, ifaces, maps, wideKeys, modest, calm, conditions, laid).
  DERIVED. THE GIVEN ROWS OF THIS SEAT. 4 by the template 'for every input the law returns true; each argument reads behind the call as it read before'; 0 by the template 'total and deterministic' (their statements: YtdmbgnppbchgcaaTotals.lean).
  GIVEN WITH THE SEED: the statements are not yours to turn. If you find one false, say at which input.
  Laid BY PROGRAM, IN A SANDBOX (cutbox-rows.mjs): the forced cells as the released guide's own fill.sh prints them over the translation 663b5cb5bd2f69e1… (all of the seat's roots in one cut). By AI agents, Wed Nov 11 2026. No macro, syntax, notation, axiom, sorry.
-/
import Derived.Test.YtdmbgnppbchgcaaChecked
import GoSem.Claim
import GoSem.ClaimJoined
import GoSem.ClaimMapViews
import Derived.JoinedTies
import Derived.KernelRfl
namespace Go.Proofs.Ytdmbgnppbchgcaa
/- THE CELL 'sum', in the pinned program and in every row, IS THE sha256 OF THE DUMP (.gsa) THAT YtdmbgnppbchgcaaProg.lean LOADS. Nothing in Lean hashes anything: it is a label: what it is worth is what the hold of that sum in a sandbox is worth. -/
noncomputable def Try.pinned : Pinned := { name := "ytdmbgnppbchgcaa", sum := "663b5cb5bd2f69e1531c19810fe3dec7fe93ab2f221a45b7d0925173177ee046", checked := Try.checked }
namespace Rows
def none {H : Type} : Left H := { results := [], args := [] }

/-- 'parquetrylaw3.DatumCopies': WHATEVER THE INPUT: true; the input reads as it did. -/
def datumCopiesSpec : ChangeSpec := { name := "datumCopies", fn := fun _ => fun
  | [d1, d2] => { results := [.lit (.bool true)], args := [d1, d2] }
  | _ => none }
def datumCopiesRow : OpenClaim := { program := "ytdmbgnppbchgcaa", sum := "663b5cb5bd2f69e1531c19810fe3dec7fe93ab2f221a45b7d0925173177ee046", func := "parquetry/parquetrylaw3.DatumCopies", spec := "datumCopies", unfollowed := true, recurses := true, apart := false }
def DatumCopiesSaid : Prop := datumCopiesRow.holds Try.pinned (OpenSpec.ofChange datumCopiesSpec)

/-- ITS FALSE NEIGHBOUR: 'it returns false'. Refute it at one input. -/
def datumCopiesWrong : ChangeSpec := { name := "datumCopies", fn := fun _ => fun
  | [d1, d2] => { results := [.lit (.bool false)], args := [d1, d2] }
  | _ => none }
def DatumCopiesWrongFalsely : Prop := datumCopiesRow.holds Try.pinned (OpenSpec.ofChange datumCopiesWrong)

/-- 'parquetrylaw3.DatumNumbers': WHATEVER THE INPUT: true; the input reads as it did. -/
def datumNumbersSpec : ChangeSpec := { name := "datumNumbers", fn := fun _ => fun
  | [] => { results := [.lit (.bool true)], args := [] }
  | _ => none }
def datumNumbersRow : OpenClaim := { program := "ytdmbgnppbchgcaa", sum := "663b5cb5bd2f69e1531c19810fe3dec7fe93ab2f221a45b7d0925173177ee046", func := "parquetry/parquetrylaw3.DatumNumbers", spec := "datumNumbers", unfollowed := true, recurses := true, apart := false }
def DatumNumbersSaid : Prop := datumNumbersRow.holds Try.pinned (OpenSpec.ofChange datumNumbersSpec)

/-- ITS FALSE NEIGHBOUR: 'it returns false'. Refute it at one input. -/
def datumNumbersWrong : ChangeSpec := { name := "datumNumbers", fn := fun _ => fun
  | [] => { results := [.lit (.bool false)], args := [] }
  | _ => none }
def DatumNumbersWrongFalsely : Prop := datumNumbersRow.holds Try.pinned (OpenSpec.ofChange datumNumbersWrong)

/-- 'parquetrylaw3.DatumTells': WHATEVER THE INPUT: true; the input reads as it did. -/
def datumTellsSpec : ChangeSpec := { name := "datumTells", fn := fun _ => fun
  | [d1, d2, d3, d4, d5] => { results := [.lit (.bool true)], args := [d1, d2, d3, d4, d5] }
  | _ => none }
def datumTellsRow : OpenClaim := { program := "ytdmbgnppbchgcaa", sum := "663b5cb5bd2f69e1531c19810fe3dec7fe93ab2f221a45b7d0925173177ee046", func := "parquetry/parquetrylaw3.DatumTells", spec := "datumTells", unfollowed := true, recurses := true, apart := false }
def DatumTellsSaid : Prop := datumTellsRow.holds Try.pinned (OpenSpec.ofChange datumTellsSpec)

/-- ITS FALSE NEIGHBOUR: 'it returns false'. Refute it at one input. -/
def datumTellsWrong : ChangeSpec := { name := "datumTells", fn := fun _ => fun
  | [d1, d2, d3, d4, d5] => { results := [.lit (.bool false)], args := [d1, d2, d3, d4, d5] }
  | _ => none }
def DatumTellsWrongFalsely : Prop := datumTellsRow.holds Try.pinned (OpenSpec.ofChange datumTellsWrong)

/-- 'parquetrylaw3.DatumCounts': WHATEVER THE INPUT: true; the input reads as it did. -/
def datumCountsSpec : ChangeSpec := { name := "datumCounts", fn := fun _ => fun
  | [d1, d2, d3] => { results := [.lit (.bool true)], args := [d1, d2, d3] }
  | _ => none }
def datumCountsRow : OpenClaim := { program := "ytdmbgnppbchgcaa", sum := "663b5cb5bd2f69e1531c19810fe3dec7fe93ab2f221a45b7d0925173177ee046", func := "parquetry/parquetrylaw3.DatumCounts", spec := "datumCounts", unfollowed := true, recurses := true, apart := false }
def DatumCountsSaid : Prop := datumCountsRow.holds Try.pinned (OpenSpec.ofChange datumCountsSpec)

/-- ITS FALSE NEIGHBOUR: 'it returns false'. Refute it at one input. -/
def datumCountsWrong : ChangeSpec := { name := "datumCounts", fn := fun _ => fun
  | [d1, d2, d3] => { results := [.lit (.bool false)], args := [d1, d2, d3] }
  | _ => none }
def DatumCountsWrongFalsely : Prop := datumCountsRow.holds Try.pinned (OpenSpec.ofChange datumCountsWrong)

/- THE SECOND FORM. 'bulk': how many values and letters a reading holds, each counted each time it is reached (what is shared counts as often as it is met; a slice's spare places count too). A statement '..UptoSaid' is the law's where the arguments, and the package variables that the reading takes, are together of bulk at most 1048576: NARROWER than '..Said'. Prove '..Said' where nothing that the law and all that it calls make is longer than what came in: it says more and counts as full. Else prove '..UptoSaid'. A law counts once. -/
mutual
def uptoBulk {H : Type} : DataW H → Nat
  | .lit (.string bytes) => bytes.length + 1
  | .lit _ => 1
  | .nil => 1
  | .ptr d => uptoBulk d + 1
  | .slice elems spare => uptoBulkAll elems + uptoBulkAll spare + 1
  | .agg parts => uptoBulkAll parts + 1
  | .iface _ d => uptoBulk d + 1
  | .map entries => uptoBulkEntries entries + 1
  | .held _ => 1
def uptoBulkAll {H : Type} : List (DataW H) → Nat
  | [] => 0
  | d :: r => uptoBulk d + uptoBulkAll r
def uptoBulkEntries {H : Type} : List (Lit × DataW H) → Nat
  | [] => 0
  | x :: r => uptoBulkEntry x + uptoBulkEntries r
def uptoBulkEntry {H : Type} : Lit × DataW H → Nat
  | (.string bytes, d) => bytes.length + uptoBulk d + 1
  | (_, d) => uptoBulk d + 1
 end
def uptoSmall : (H : Type) → List (DataW H) → Bool := fun _ ds => decide (uptoBulkAll ds ≤ 1048576)
def OpenSpec.upto (s : _root_.Go.ChangeSpec) : _root_.Go.OpenSpec := { _root_.Go.OpenSpec.ofChange s with cond := some uptoSmall }

/-- 'parquetrylaw3.DatumCopies', WHERE WHAT IT READS IS OF BULK AT MOST 1048576: true; the input reads as it did. -/
def datumCopiesUptoRow : OpenClaim := { program := "ytdmbgnppbchgcaa", sum := "663b5cb5bd2f69e1531c19810fe3dec7fe93ab2f221a45b7d0925173177ee046", func := "parquetry/parquetrylaw3.DatumCopies", spec := "datumCopies", unfollowed := true, recurses := true, apart := false, narrowed := true }
def DatumCopiesUptoSaid : Prop := datumCopiesUptoRow.holds Try.pinned (OpenSpec.upto datumCopiesSpec)

/-- 'parquetrylaw3.DatumNumbers', WHERE WHAT IT READS IS OF BULK AT MOST 1048576: true; the input reads as it did. -/
def datumNumbersUptoRow : OpenClaim := { program := "ytdmbgnppbchgcaa", sum := "663b5cb5bd2f69e1531c19810fe3dec7fe93ab2f221a45b7d0925173177ee046", func := "parquetry/parquetrylaw3.DatumNumbers", spec := "datumNumbers", unfollowed := true, recurses := true, apart := false, narrowed := true }
def DatumNumbersUptoSaid : Prop := datumNumbersUptoRow.holds Try.pinned (OpenSpec.upto datumNumbersSpec)

/-- 'parquetrylaw3.DatumTells', WHERE WHAT IT READS IS OF BULK AT MOST 1048576: true; the input reads as it did. -/
def datumTellsUptoRow : OpenClaim := { program := "ytdmbgnppbchgcaa", sum := "663b5cb5bd2f69e1531c19810fe3dec7fe93ab2f221a45b7d0925173177ee046", func := "parquetry/parquetrylaw3.DatumTells", spec := "datumTells", unfollowed := true, recurses := true, apart := false, narrowed := true }
def DatumTellsUptoSaid : Prop := datumTellsUptoRow.holds Try.pinned (OpenSpec.upto datumTellsSpec)

/-- 'parquetrylaw3.DatumCounts', WHERE WHAT IT READS IS OF BULK AT MOST 1048576: true; the input reads as it did. -/
def datumCountsUptoRow : OpenClaim := { program := "ytdmbgnppbchgcaa", sum := "663b5cb5bd2f69e1531c19810fe3dec7fe93ab2f221a45b7d0925173177ee046", func := "parquetry/parquetrylaw3.DatumCounts", spec := "datumCounts", unfollowed := true, recurses := true, apart := false, narrowed := true }
def DatumCountsUptoSaid : Prop := datumCountsUptoRow.holds Try.pinned (OpenSpec.upto datumCountsSpec)

end Rows
end Go.Proofs.Ytdmbgnppbchgcaa
