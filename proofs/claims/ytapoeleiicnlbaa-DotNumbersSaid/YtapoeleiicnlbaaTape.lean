/- What is read off a tape: numbers in their ranges, shapes of three axes at most, each way at most 7. -/
import Derived.Test.YtapoeleiicnlbaaPlain
import Derived.Test.YtapoeleiicnlbaaQx19
namespace Go.Proofs.Ytapoeleiicnlbaa.Plain
open Go.RowKit Go.Proofs.YtapoeleiicnlbaaW.PrintWords Go.Proofs.Ytapoeleiicnlbaa.Q

end Go.Proofs.Ytapoeleiicnlbaa.Plain
