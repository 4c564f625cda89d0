/- One window: from a number on, so many numbers along an axis. -/
import Derived.Test.YtkeclgfnlpkjeaaFoldWays
namespace Go.Proofs.Ytkeclgfnlpkjeaa.Plain
open Go.RowKit Go.Proofs.YtkeclgfnlpkjeaaW.PrintWords

/-! ### One window -/
/-- From number k on, m numbers along the axis, behind first. -/
def winAt (how : Int) (s d p : List Int) (axis : Nat) (first : Int) : Nat → Nat → Int → Int
  | _, 0, v => v
  | k, m + 1, v => winAt how s d p axis first (k + 1) m (stepOf how v (rd d (sIndex s (p.set axis (first + (k : Int))))))

end Go.Proofs.Ytkeclgfnlpkjeaa.Plain
