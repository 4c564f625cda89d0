/- WindowTells: what lies next to each other is folded as the document says, at a drawn tensor and at a free one. -/
import Derived.Test.YtkeclgfnlpkjeaaLaw8
import Derived.Test.YtkeclgfnlpkjeaaQx20
namespace Go.Proofs.Ytkeclgfnlpkjeaa.Pure
open Go.RowKit Go.Proofs.YtkeclgfnlpkjeaaW.PrintWords Go.Proofs.Ytkeclgfnlpkjeaa.Q Go.Proofs.Ytkeclgfnlpkjeaa.Plain

theorem WindowTells : parquetrylaw8_WindowTells.Pure := by
  intro a0 l1 a2 a3 a4 fs fd
  intros
  refine Ev.rounds (g := fun k => parquetrylaw8_WindowTells.f k a0 l1 a2 a3 a4 fs fd) ?_
  unfold parquetrylaw8_WindowTells.f
  obtain ⟨s, b, hs, hb, hsm⟩ := tape_Shape_ev (tape_of (l := l1) (by assumption) (by assumption))
  have hs3 := (small_ok hsm).2
  refine Ev.bind hs ?_
  obtain ⟨d, c, hd, _, _, _⟩ := tape_Tensor_ev hb s (by omega)
  refine Ev.bind hd ?_
  refine Ev.bind (law8_same _ s d _ _ _ (by omega)) (Ev.congr (fun k => by rw [if_pos rfl]) ?_)
  refine Ev.bind (law8_same _ s d _ _ _ (by omega)) (Ev.congr (fun k => by rw [if_pos rfl]) ?_)
  refine Ev.bind (law8_same _ fs fd _ _ _ (by omega)) (Ev.congr (fun k => ?_) law8_end)
  rw [if_pos rfl, window_Out_is, ref_Windows_is]
  simp only [Option.bind_some, if_true]

end Go.Proofs.Ytkeclgfnlpkjeaa.Pure
