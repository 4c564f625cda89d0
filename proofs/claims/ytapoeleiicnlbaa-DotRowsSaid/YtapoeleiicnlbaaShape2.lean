/- More of the reference beside package shape: its index, lists that are the same. -/
import Derived.Test.YtapoeleiicnlbaaShape
import Derived.Test.YtapoeleiicnlbaaQx1
import Derived.Test.YtapoeleiicnlbaaQx12
import Derived.Test.YtapoeleiicnlbaaQx14
namespace Go.Proofs.Ytapoeleiicnlbaa.Plain
open Go.RowKit Go.Proofs.YtapoeleiicnlbaaW.PrintWords Go.Proofs.Ytapoeleiicnlbaa.Q

end Go.Proofs.Ytapoeleiicnlbaa.Plain
