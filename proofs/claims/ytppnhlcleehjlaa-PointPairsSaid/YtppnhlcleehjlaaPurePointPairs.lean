/- PointPairs: a sum less one is the other; the lesser and the greater one are the two; what is picked by nothing is the third. -/
import Derived.Test.YtppnhlcleehjlaaPointWays
import Derived.Test.YtppnhlcleehjlaaQx22
namespace Go.Proofs.Ytppnhlcleehjlaa.Pure
open Go.RowKit Go.Proofs.YtppnhlcleehjlaaW.PrintWords Go.Proofs.Ytppnhlcleehjlaa.Q Go.Proofs.Ytppnhlcleehjlaa.Plain

theorem PointPairs : parquetrylaw4_PointPairs.Pure := by
  intro l0
  intros
  refine Ev.rounds (g := fun k => parquetrylaw4_PointPairs.f k l0) ?_
  unfold parquetrylaw4_PointPairs.f
  obtain ⟨s, b, hs, hb, hsm⟩ := tape_Shape_ev (tape_of (l := l0) (by assumption) (by assumption))
  have hs3 := (small_ok hsm).2
  have hsr := small_right hsm
  have hz := size_range s
  refine Ev.bind hs ?_
  obtain ⟨d1, c1, hd1, hc1, hl1, hr1⟩ := tape_Tensor_ev hb s (by omega)
  refine Ev.bind hd1 ?_
  obtain ⟨d2, c2, hd2, _, hl2, hr2⟩ := tape_Tensor_ev hc1 s (by omega)
  refine Ev.bind hd2 ?_
  have t1 : tRight s d1 = true := tRight_iff.2 ⟨hsr, hl1⟩
  have t2 : tRight s d2 = true := tRight_iff.2 ⟨hsr, hl2⟩
  have n12 : d2.length = d1.length := by omega
  have ns : s.length < 17592186044416 := by omega
  have n1 : d1.length < 17592186044416 := by omega
  have n2 : d2.length < 17592186044416 := by omega
  have z6 : tRight s (zipP 6 d1 d2) = true := tRight_len t1 (zipP_length _ _ _)
  have z9 : tRight s (zipP 9 d1 d2) = true := tRight_len t1 (zipP_length _ _ _)
  have z10 : tRight s (zipP 10 d1 d2) = true := tRight_len t1 (zipP_length _ _ _)
  have z4 : tRight s (zipP 4 d1 d1) = true := tRight_len t1 (zipP_length _ _ _)
  have m6 : (zipP 6 d1 d2).length < 17592186044416 := by rw [zipP_length]; exact n1
  have m9 : (zipP 9 d1 d2).length < 17592186044416 := by rw [zipP_length]; exact n1
  have m4 : (zipP 4 d1 d1).length < 17592186044416 := by rw [zipP_length]; exact n1
  have e1 := point_Two_ev 6 s d1 s d2 ns n1
  rw [two_good (by decide) (by decide) t1 t2] at e1
  refine Ev.bind e1 ?_
  have e2 := point_Two_ev 7 s (zipP 6 d1 d2) s d2 ns m6
  rw [two_good (by decide) (by decide) z6 t2, back_is hr1] at e2
  refine Ev.bind e2 ?_
  have e3 := point_Two_ev 9 s d1 s d2 ns n1
  rw [two_good (by decide) (by decide) t1 t2] at e3
  refine Ev.bind e3 ?_
  have e4 := point_Two_ev 10 s d1 s d2 ns n1
  rw [two_good (by decide) (by decide) t1 t2] at e4
  refine Ev.bind e4 ?_
  have e5 := point_Two_ev 6 s (zipP 9 d1 d2) s (zipP 10 d1 d2) ns m9
  rw [two_good (by decide) (by decide) z9 z10, both_is] at e5
  refine Ev.bind e5 ?_
  have e6 := point_One_ev 4 s d1 ns n1
  rw [one_good (.inl rfl) t1] at e6
  refine Ev.bind e6 ?_
  have e7 := point_One_ev 4 s (zipP 4 d1 d1) ns m4
  rw [one_good (.inl rfl) z4, twice_is hr1] at e7
  refine Ev.bind e7 ?_
  refine Ev.bind (ref_Fill_ev s 0 ns) ?_
  have e8 := point_Pick_ev s (List.replicate (sSize s).toNat 0) s d1 s d2 ns n2
  rw [pick_good (tRight_rep 0 hsr) t1 t2, third_is _ d1 d2 (by omega)] at e8
  refine Ev.bind e8 ?_
  refine Ev.bind (ref_Fill_ev s (-5) ns) ?_
  have e9 := point_Pick_ev s (List.replicate (sSize s).toNat (-5)) s d1 s d2 ns n2
  rw [pick_good (tRight_rep (-5) hsr) t1 t2, second_is _ d1 d2 (by omega)] at e9
  refine Ev.bind e9 ?_
  have q := fun d : List Int => fun h : d.length < 17592186044416 => ref_Same_ev s d s d (by omega) (by omega)
  refine Ev.congr (fun k => by rw [if_pos rfl, if_pos rfl]) (Ev.bind (q d1 n1) ?_)
  refine Ev.congr (fun k => by rw [if_pos (tSame_self _ _)]) (Ev.bind (q _ m6) ?_)
  refine Ev.congr (fun k => by rw [if_pos (tSame_self _ _)]) (Ev.bind (q d1 n1) ?_)
  refine Ev.congr (fun k => by rw [if_pos (tSame_self _ _)]) (Ev.bind (q d2 n2) ?_)
  refine Ev.congr (fun k => by rw [if_pos (tSame_self _ _)]) (Ev.bind (q d1 n1) ?_)
  exact Ev.congr (fun k => by rw [if_pos (tSame_self _ _)]) law4_end

end Go.Proofs.Ytppnhlcleehjlaa.Pure
