/- Chapter 4's known runs. -/
import Derived.Test.YtppnhlcleehjlaaPoint
import Derived.Test.YtppnhlcleehjlaaQx17
namespace Go.Proofs.Ytppnhlcleehjlaa.Plain
open Go.RowKit Go.Proofs.YtppnhlcleehjlaaW.PrintWords Go.Proofs.Ytppnhlcleehjlaa.Q

theorem law4_known : Ev (fun k => parquetrylaw4_known.f k) true := Ev.of (fun k => parquetrylaw4_known.mono k) (k := 40) (by decide +kernel)
theorem law4_end : Ev (fun k => (parquetrylaw4_known.f k).bind fun t => if t = true then some true else none) true :=
  Ev.bind law4_known (Ev.ret fun k => by rw [if_pos rfl])

end Go.Proofs.Ytppnhlcleehjlaa.Plain
