/- What the reference beside package tensor comes to. -/
import Derived.Test.YtapoeleiicnlbaaTensor
import Derived.Test.YtapoeleiicnlbaaShape2
import Derived.Test.YtapoeleiicnlbaaQx1
import Derived.Test.YtapoeleiicnlbaaQx12
namespace Go.Proofs.Ytapoeleiicnlbaa.Plain
open Go.RowKit Go.Proofs.YtapoeleiicnlbaaW.PrintWords Go.Proofs.Ytapoeleiicnlbaa.Q

end Go.Proofs.Ytapoeleiicnlbaa.Plain
