/- PointTruths: of two numbers one is less, the other one is, or neither; not twice is whether it is not 0; the lesser one is picked by less. -/
import Derived.Test.YtppnhlcleehjlaaPointWays
import Derived.Test.YtppnhlcleehjlaaQx23
namespace Go.Proofs.Ytppnhlcleehjlaa.Pure
open Go.RowKit Go.Proofs.YtppnhlcleehjlaaW.PrintWords Go.Proofs.Ytppnhlcleehjlaa.Q Go.Proofs.Ytppnhlcleehjlaa.Plain

def lessOf (a b : Int) : Int := if a < b then 1 else 0
def notOf (a : Int) : Int := if a = 0 then 1 else 0

theorem truths_l0 (s a b lt gt no yes : List Int) (n : Nat) (hn : n ≤ 4096) (ha : a.length = n) (hb : b.length = n) (hlt : lt.length = n) (hgt : gt.length = n) (hno : no.length = n) (hyes : yes.length = n)
    (v1 : ∀ i : Nat, i < n → rd lt (i : Int) = lessOf (rd a (i : Int)) (rd b (i : Int))) (v2 : ∀ i : Nat, i < n → rd gt (i : Int) = lessOf (rd b (i : Int)) (rd a (i : Int))) (v3 : ∀ i : Nat, i < n → rd no (i : Int) = notOf (rd a (i : Int))) (v4 : ∀ i : Nat, i < n → rd yes (i : Int) = notOf (notOf (rd a (i : Int)))) (m : Nat) :
    ∀ i : Nat, i + m = n → Ev (fun k => parquetrylaw4_PointTruths.l0 k (a.length : Int) (i : Int) s a s b s lt s gt s no s yes) true := by
  induction m with
  | zero =>
    intro i hi
    refine Ev.step (f := fun k => (parquetrylaw4_known.f k).bind fun t => if t = true then some true else none) (fun k => ?_) law4_end
    simp only [parquetrylaw4_PointTruths.l0]
    rw [if_neg (by omega)]
  | succ m ih =>
    intro i hi
    have hin : i < n := by omega
    have next := ih (i + 1) (by omega)
    have u1 := v1 i hin
    have u2 := v2 i hin
    have u3 := v3 i hin
    have u4 := v4 i hin
    clear v1 v2 v3 v4 ih
    have a0 : (0 : Int) ≤ (i : Int) := Int.natCast_nonneg i
    have a1 : (i : Int) < (a.length : Int) := by omega
    have a2 : (i : Int) < (b.length : Int) := by omega
    have a3 : (i : Int) < (lt.length : Int) := by omega
    have a4 : (i : Int) < (gt.length : Int) := by omega
    have a5 : (i : Int) < (no.length : Int) := by omega
    have a6 : (i : Int) < (yes.length : Int) := by omega
    have hs : i < 9223372036854775807 := by omega
    refine Ev.step (fun k => ?_) next
    simp only [parquetrylaw4_PointTruths.l0]
    rw [if_pos a1, if_pos a0, if_pos a1, if_pos a2, u1, u2, u3, u4]
    have y1 : ¬ (((notOf (notOf (rd a (i : Int))) == 1) != (rd a (i : Int) != 0)) = true) := by
      by_cases h : rd a (i : Int) = 0
      · rw [h]; decide
      · have e1 : notOf (rd a (i : Int)) = 0 := if_neg h
        have e2 : (rd a (i : Int) != 0) = true := by simpa using h
        rw [e1, e2]; decide
    have y2 : wrap64 (notOf (rd a (i : Int)) + notOf (notOf (rd a (i : Int)))) = 1 := by
      by_cases h : rd a (i : Int) = 0
      · rw [h]; decide +kernel
      · have e1 : notOf (rd a (i : Int)) = 0 := if_neg h
        rw [e1]; decide +kernel
    by_cases h : rd a (i : Int) = rd b (i : Int)
    · have z1 : lessOf (rd a (i : Int)) (rd b (i : Int)) = 0 := if_neg (by omega)
      have z2 : lessOf (rd b (i : Int)) (rd a (i : Int)) = 0 := if_neg (by omega)
      rw [if_pos h, if_pos a3, if_pos a4, z1, z2, if_pos (by decide +kernel), if_pos a6, if_neg y1, if_pos a5, if_pos y2, wsucc i hs]
    · have z : wrap64 (wrap64 (lessOf (rd a (i : Int)) (rd b (i : Int)) + lessOf (rd b (i : Int)) (rd a (i : Int))) + 0) = 1 := by
        by_cases hl : rd a (i : Int) < rd b (i : Int)
        · have z1 : lessOf (rd a (i : Int)) (rd b (i : Int)) = 1 := if_pos hl
          have z2 : lessOf (rd b (i : Int)) (rd a (i : Int)) = 0 := if_neg (by omega)
          rw [z1, z2]; decide +kernel
        · have z1 : lessOf (rd a (i : Int)) (rd b (i : Int)) = 0 := if_neg hl
          have z2 : lessOf (rd b (i : Int)) (rd a (i : Int)) = 1 := if_pos (by omega)
          rw [z1, z2]; decide +kernel
      rw [if_neg h, if_pos a3, if_pos a4, if_pos z, if_pos a6, if_neg y1, if_pos a5, if_pos y2, wsucc i hs]

theorem PointTruths : parquetrylaw4_PointTruths.Pure := by
  intro l0
  intros
  refine Ev.rounds (g := fun k => parquetrylaw4_PointTruths.f k l0) ?_
  unfold parquetrylaw4_PointTruths.f
  obtain ⟨s, b, hs, hb, hsm⟩ := tape_Shape_ev (tape_of (l := l0) (by assumption) (by assumption))
  have hs3 := (small_ok hsm).2
  have hsr := small_right hsm
  have hz := size_range s
  refine Ev.bind hs ?_
  obtain ⟨d1, c1, hd1, hc1, hl1, hr1⟩ := tape_Tensor_ev hb s (by omega)
  refine Ev.bind hd1 ?_
  obtain ⟨d2, c2, hd2, _, hl2, hr2⟩ := tape_Tensor_ev hc1 s (by omega)
  refine Ev.bind hd2 ?_
  have t1 : tRight s d1 = true := tRight_iff.2 ⟨hsr, hl1⟩
  have t2 : tRight s d2 = true := tRight_iff.2 ⟨hsr, hl2⟩
  have n12 : d2.length = d1.length := by omega
  have n4096 : d1.length ≤ 4096 := by omega
  have ns : s.length < 17592186044416 := by omega
  have n1 : d1.length < 17592186044416 := by omega
  have n2 : d2.length < 17592186044416 := by omega
  have z11 : tRight s (zipP 11 d1 d2) = true := tRight_len t1 (zipP_length _ _ _)
  have z5 : tRight s (zipP 5 d1 d1) = true := tRight_len t1 (zipP_length _ _ _)
  have m9 : (zipP 9 d1 d2).length < 17592186044416 := by rw [zipP_length]; exact n1
  have m5 : (zipP 5 d1 d1).length < 17592186044416 := by rw [zipP_length]; exact n1
  have e1 := point_Two_ev 11 s d1 s d2 ns n1
  rw [two_good (by decide) (by decide) t1 t2] at e1
  refine Ev.bind e1 ?_
  have e2 := point_Two_ev 11 s d2 s d1 ns n2
  rw [two_good (by decide) (by decide) t2 t1] at e2
  refine Ev.bind e2 ?_
  have e3 := point_Pick_ev s (zipP 11 d1 d2) s d1 s d2 ns n2
  rw [pick_good z11 t1 t2, lesser_is] at e3
  refine Ev.bind e3 ?_
  have e4 := point_Two_ev 9 s d1 s d2 ns n1
  rw [two_good (by decide) (by decide) t1 t2] at e4
  refine Ev.bind e4 ?_
  have e5 := point_One_ev 5 s d1 ns n1
  rw [one_good (.inr rfl) t1] at e5
  refine Ev.bind e5 ?_
  have e6 := point_One_ev 5 s (zipP 5 d1 d1) ns m5
  rw [one_good (.inr rfl) z5] at e6
  refine Ev.bind e6 ?_
  refine Ev.congr (fun k => by rw [if_pos rfl, if_pos rfl]) (Ev.bind (ref_Same_ev s (zipP 9 d1 d2) s (zipP 9 d1 d2) (by omega) (by omega)) ?_)
  have q1 : (((zipP 11 d1 d2).length : Nat) : Int) = (d1.length : Int) := by rw [zipP_length]
  have q2 : (((zipP 11 d2 d1).length : Nat) : Int) = (d1.length : Int) := by rw [zipP_length, n12]
  have q3 : ((((zipP 5 (zipP 5 d1 d1) (zipP 5 d1 d1)).length : Nat) : Int) != (d1.length : Int)) = false := by rw [zipP_length, zipP_length]; simp
  refine Ev.congr (f := fun k => parquetrylaw4_PointTruths.j0 k false s d1 s d2 s (zipP 11 d1 d2) s (zipP 11 d2 d1) s (zipP 5 d1 d1) s (zipP 5 (zipP 5 d1 d1) (zipP 5 d1 d1))) (fun k => ?_) ?_
  · rw [if_pos (tSame_self _ _), if_pos q1, if_pos q2, q3]
  · refine Ev.step (fun k => ?_) (truths_l0 s d1 d2 (zipP 11 d1 d2) (zipP 11 d2 d1) (zipP 5 d1 d1) (zipP 5 (zipP 5 d1 d1) (zipP 5 d1 d1)) d1.length n4096 rfl n12 (zipP_length _ _ _) (by rw [zipP_length]; exact n12) (zipP_length _ _ _) (by rw [zipP_length, zipP_length]) (fun i hi => rd_zipP 11 d1 d2 i hi) (fun i hi => rd_zipP 11 d2 d1 i (by omega)) (fun i hi => rd_zipP 5 d1 d1 i hi) (fun i hi => ?_) d1.length 0 (Nat.zero_add _))
    · simp only [parquetrylaw4_PointTruths.j0]
      rw [if_neg (by decide)]
      rfl
    · rw [rd_zipP 5 (zipP 5 d1 d1) (zipP 5 d1 d1) i (by rw [zipP_length]; exact hi), rd_zipP 5 d1 d1 i hi]
      rfl

end Go.Proofs.Ytppnhlcleehjlaa.Pure
