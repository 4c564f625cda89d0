/- PointTells: numbers are reckoned one by one as the document says, at drawn tensors and at free ones. -/
import Derived.Test.YtppnhlcleehjlaaLaw4
import Derived.Test.YtppnhlcleehjlaaQx21
namespace Go.Proofs.Ytppnhlcleehjlaa.Pure
open Go.RowKit Go.Proofs.YtppnhlcleehjlaaW.PrintWords Go.Proofs.Ytppnhlcleehjlaa.Q Go.Proofs.Ytppnhlcleehjlaa.Plain

theorem PointTells : parquetrylaw4_PointTells.Pure := by
  intro a0 l1 a2 a3 fs fd gs gd
  intros
  refine Ev.rounds (g := fun k => parquetrylaw4_PointTells.f k a0 l1 a2 a3 fs fd gs gd) ?_
  unfold parquetrylaw4_PointTells.f
  generalize wrap64 (4 + Int.tmod (wrap64 (Go.bits .and .i64 a0 7 + 7)) 9) = q
  obtain ⟨s, b, hs, hb, hsm⟩ := tape_Shape_ev (tape_of (l := l1) (by assumption) (by assumption))
  have hs3 := (small_ok hsm).2
  have hz := size_range s
  refine Ev.bind hs ?_
  obtain ⟨d1, c1, hd1, hc1, hl1, _⟩ := tape_Tensor_ev hb s (by omega)
  refine Ev.bind hd1 ?_
  obtain ⟨d2, c2, hd2, hc2, hl2, _⟩ := tape_Tensor_ev hc1 s (by omega)
  refine Ev.bind hd2 ?_
  obtain ⟨d3, c3, hd3, hc3, hl3, _⟩ := tape_Tensor_ev hc2 s (by omega)
  refine Ev.bind hd3 ?_
  refine Ev.bind (law4_same q s d1 s d2 s d3 (by omega) (by omega) (by omega) (by omega) (by omega)) (Ev.congr (fun k => by rw [if_pos rfl]) ?_)
  refine Ev.bind (law4_same a0 s d1 s d2 s d3 (by omega) (by omega) (by omega) (by omega) (by omega)) (Ev.congr (fun k => by rw [if_pos rfl]) ?_)
  obtain ⟨s2, b2, hs2, hb2, hsm2⟩ := tape_Shape_ev hc3
  have hs23 := (small_ok hsm2).2
  have hz2 := size_range s2
  refine Ev.bind hs2 ?_
  obtain ⟨d4, c4, hd4, _, hl4, _⟩ := tape_Tensor_ev hb2 s2 (by omega)
  refine Ev.bind hd4 ?_
  refine Ev.bind (law4_same q s d1 s2 d4 s d3 (by omega) (by omega) (by omega) (by omega) (by omega)) (Ev.congr (fun k => by rw [if_pos rfl]) ?_)
  refine Ev.bind (law4_same q fs fd gs gd fs fd (by omega) (by omega) (by omega) (by omega) (by omega)) (Ev.congr (fun k => ?_) law4_end)
  rw [if_pos rfl, point_Step_is, ref_Step_is, point_Step_is, ref_Step_is]
  simp only [Option.bind_some, if_true]

end Go.Proofs.Ytppnhlcleehjlaa.Pure
