/- What the statements of chapter 4 compare at each tensors: the two texts tell the same. -/
import Derived.Test.YtppnhlcleehjlaaPointRef
import Derived.Test.YtppnhlcleehjlaaLaw4Known
import Derived.Test.YtppnhlcleehjlaaQx16
namespace Go.Proofs.Ytppnhlcleehjlaa.Plain
open Go.RowKit Go.Proofs.YtppnhlcleehjlaaW.PrintWords Go.Proofs.Ytppnhlcleehjlaa.Q

theorem tEach_short (op : Int) (s d s2 d2 : List Int) : (tEach op s d s2 d2).1.length ≤ 4 ∧ (tEach op s d s2 d2).2.1.length ≤ 4096 := by
  unfold tEach
  by_cases h : fit2 s d s2 d2 = true
  · obtain ⟨_, _, h4, hr⟩ := fit2_len h
    rw [if_pos h]
    unfold tTwoAt
    exact ⟨right_len (tRight_iff.1 hr).1, by rw [rowOf_length]; omega⟩
  · rw [if_neg h]; simp
theorem tTwo_short (op : Int) (s d s2 d2 : List Int) : (tTwo op s d s2 d2).1.length ≤ 4 ∧ (tTwo op s d s2 d2).2.1.length ≤ 4096 := by
  unfold tTwo
  by_cases h : op < 6 ∨ 11 < op
  · rw [if_pos h]; simp
  · rw [if_neg h]; exact tEach_short op s d s2 d2
theorem tOne_short (op : Int) (s d : List Int) : (tOne op s d).1.length ≤ 4 ∧ (tOne op s d).2.1.length ≤ 4096 := by
  unfold tOne
  by_cases h : op = 4 ∨ op = 5
  · rw [if_pos h]; exact tEach_short op s d s d
  · rw [if_neg h]; simp
theorem tPick_short (s d s1 d1 s2 d2 : List Int) : (tPick s d s1 d1 s2 d2).1.length ≤ 4 ∧ (tPick s d s1 d1 s2 d2).2.1.length ≤ 4096 := by
  unfold tPick
  by_cases h : fit3 s d s1 d1 s2 d2 = true
  · obtain ⟨_, _, _, _, h4, hr⟩ := fit3_len h
    rw [if_pos h]
    exact ⟨right_len (tRight_iff.1 hr).1, by rw [rowOf_length]; omega⟩
  · rw [if_neg h]; simp

theorem law4_same (op : Int) (s d s2 d2 s3 d3 : List Int) (hs : s.length < 17592186044416) (hd : d.length < 17592186044416) (hs2 : s2.length < 17592186044416) (hd2 : d2.length < 17592186044416) (hs3 : s3.length < 17592186044416) :
    Ev (fun k => parquetrylaw4_same.f k op s d s2 d2 s3 d3) true := by
  unfold parquetrylaw4_same.f
  have h1 := tOne_short op s d
  have h2 := tTwo_short op s d s2 d2
  have h3 := tPick_short s3 d3 s d s2 d2
  refine Ev.bind (point_One_ev op s d hs hd) (Ev.bind (ref_One_ev op s d hs) ?_)
  refine Ev.bind (point_Two_ev op s d s2 d2 hs hd) (Ev.bind (ref_Two_ev op s d s2 d2 hs hs2) ?_)
  refine Ev.bind (point_Pick_ev s3 d3 s d s2 d2 hs2 hd2) (Ev.bind (ref_Pick_ev s3 d3 s d s2 d2 hs3 hs hs2) ?_)
  refine Ev.congr (fun k => by rw [if_pos rfl]) (Ev.bind (ref_Same_ev _ _ _ _ (by omega) (by omega)) ?_)
  refine Ev.congr (fun k => by rw [if_pos (tSame_self _ _), if_pos rfl]) (Ev.bind (ref_Same_ev _ _ _ _ (by omega) (by omega)) ?_)
  refine Ev.congr (fun k => by rw [if_pos (tSame_self _ _), if_pos rfl]) (Ev.bind (ref_Same_ev _ _ _ _ (by omega) (by omega)) (Ev.ret fun k => ?_))
  rw [if_pos (tSame_self _ _)]

end Go.Proofs.Ytppnhlcleehjlaa.Plain
