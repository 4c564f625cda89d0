/- Places that lie within a shape, and their numbers; a shape with one axis shortened. -/
import Derived.Test.YtapoeleiicnlbaaTensor
import Derived.Test.YtapoeleiicnlbaaWithin
namespace Go.Proofs.Ytapoeleiicnlbaa.Plain
open Go.RowKit Go.Proofs.YtapoeleiicnlbaaW.PrintWords

theorem within_sIndex {s l : List Int} (hr : sRight s = true) (h : within s l) : 0 ≤ sIndex s l ∧ sIndex s l < sSize s := by
  have h1 : 0 ≤ sIndex s l := by
    unfold sIndex
    rw [if_pos ⟨hr, within_len h⟩]
    exact within_idx s l 0 h (by omega)
  have h2 := sIndex_range s l
  omega

end Go.Proofs.Ytapoeleiicnlbaa.Plain
