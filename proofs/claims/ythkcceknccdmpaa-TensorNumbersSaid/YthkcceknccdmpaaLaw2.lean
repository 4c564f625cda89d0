/- What stays the same at each draw of the laws of package tensor. -/
import Derived.Test.YthkcceknccdmpaaTensor
import Derived.Test.YthkcceknccdmpaaQx7
namespace Go.Proofs.Ythkcceknccdmpaa.Plain
open Go.RowKit Go.Proofs.YthkcceknccdmpaaW.PrintWords Go.Proofs.Ythkcceknccdmpaa.Q

theorem law2_known : Ev (fun k => parquetrylaw2_known.f k) true := Ev.of (fun k => parquetrylaw2_known.mono k) (k := 30) (by decide +kernel)

theorem law2_end : Ev (fun k => (parquetrylaw2_known.f k).bind fun t => if t = true then some true else none) true :=
  Ev.bind law2_known (Ev.ret fun k => by rw [if_pos rfl])

end Go.Proofs.Ythkcceknccdmpaa.Plain
