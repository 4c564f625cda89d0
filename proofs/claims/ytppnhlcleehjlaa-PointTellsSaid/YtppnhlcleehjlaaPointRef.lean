/- What the reckoning number by number comes to in the reference: the same. -/
import Derived.Test.YtppnhlcleehjlaaPoint
import Derived.Test.YtppnhlcleehjlaaQx1
import Derived.Test.YtppnhlcleehjlaaQx12
import Derived.Test.YtppnhlcleehjlaaQx13
import Derived.Test.YtppnhlcleehjlaaQx14
import Derived.Test.YtppnhlcleehjlaaQx15
namespace Go.Proofs.Ytppnhlcleehjlaa.Plain
open Go.RowKit Go.Proofs.YtppnhlcleehjlaaW.PrintWords Go.Proofs.Ytppnhlcleehjlaa.Q

theorem ref_Step_is (op a b : Int) : parquetryref4_Step.f op a b = some (stepP op a b) := point_Step_is op a b

theorem ref_all_l0 (l : List S27) (hs : ∀ t ∈ l, t.f0.length < 9223372036854775807) (post : List S27) : ∀ pre : List S27, l = pre ++ post → l.length < 1000 → Ev (fun k => parquetryref4_all.l0 k l (pre.length : Int)) (if post.all (goodT (rd_T27 l 0).f0) = true then 0 else 13) := by
  induction post with
  | nil =>
    intro pre hl hlen
    refine Ev.one fun k => ?_
    simp only [parquetryref4_all.l0]
    rw [if_neg (by rw [hl]; simp)]
    simp
  | cons t post ih =>
    intro pre hl hlen
    have e : rd_T27 l (pre.length : Int) = t := by rw [hl]; exact rd_T27_mid pre t post
    have hlt : (pre.length : Int) < (l.length : Int) := by rw [hl]; simp; omega
    have ht : t.f0.length < 9223372036854775807 := hs t (by rw [hl]; simp)
    have next := ih (pre ++ [t]) (by rw [hl]; simp) hlen
    have e2 : ((pre ++ [t]).length : Int) = ((pre.length + 1 : Nat) : Int) := by simp
    rw [e2] at next
    refine Ev.step (f := fun k => (parquetryref1_Tensor.f k t.f0 t.f1).bind fun u => if u = true then (parquetryref1_Ints.f k t.f0 (rd_T27 l 0).f0).bind fun v => (if v = true then parquetryref4_all.l0 k l ((pre.length + 1 : Nat) : Int) else some 13) else some 13) (fun k => ?_) ?_
    · simp only [parquetryref4_all.l0]
      rw [if_pos hlt, if_pos (by omega), e, wsucc _ (by omega), if_pos (by omega)]
    · refine Ev.bind (ref_Tensor_ev t.f0 t.f1 ht) ?_
      by_cases h : tRight t.f0 t.f1 = true
      · refine Ev.congr (fun k => by rw [if_pos h]) (Ev.bind (ref_Ints_ev t.f0 _ ht) ?_)
        by_cases h2 : t.f0 = (rd_T27 l 0).f0
        · have hg : goodT (rd_T27 l 0).f0 t = true := by unfold goodT; rw [h]; simpa using h2
          refine Ev.congr (fun k => by rw [if_pos (by simpa using h2)]) (Ev.cast next ?_)
          simp [hg]
        · have hg : goodT (rd_T27 l 0).f0 t = false := by unfold goodT; simp [h2]
          refine Ev.ret fun k => ?_
          rw [if_neg (by simpa using h2)]
          simp [hg]
      · have hf : tRight t.f0 t.f1 = false := by simpa using h
        have hg : goodT (rd_T27 l 0).f0 t = false := by unfold goodT; simp [hf]
        refine Ev.ret fun k => ?_
        rw [if_neg h]
        simp [hg]

theorem ref_all_ev (l : List S27) (hs : ∀ t ∈ l, t.f0.length < 9223372036854775807) (hl : l.length < 1000) : Ev (fun k => parquetryref4_all.f k l) (if l.all (goodT (rd_T27 l 0).f0) = true then 0 else 13) := by
  have := ref_all_l0 l hs l [] rfl hl
  unfold parquetryref4_all.f
  exact this

theorem ref_Two_ev (op : Int) (s d s2 d2 : List Int) (hs : s.length < 17592186044416) (hs2 : s2.length < 17592186044416) : Ev (fun k => parquetryref4_Two.f k op s d s2 d2) (tTwo op s d s2 d2) := by
  have bad : (op < 6 ∨ 11 < op) → Ev (fun k => parquetryref4_Two.j0 k op true s d s2 d2) (tTwo op s d s2 d2) := fun h => Ev.one fun k => by
    simp only [parquetryref4_Two.j0]
    unfold tTwo
    rw [if_pos trivial, if_pos h]
  unfold parquetryref4_Two.f
  by_cases h1 : op < 6
  · exact Ev.congr (fun k => by rw [if_pos h1]) (bad (.inl h1))
  · by_cases h2 : op > 11
    · refine Ev.congr (fun k => ?_) (bad (.inr h2))
      rw [if_neg h1]; simp [h2]
    · refine Ev.step (f := fun k => (parquetryref4_all.f k [(⟨s, d⟩ : S27), (⟨s2, d2⟩ : S27)]).bind fun t => if t = 0 then (parquetryref1_Fill.f k s 0).bind fun bt => parquetryref4_Two.l0 k op (bt.2.length : Int) 0 s d s2 d2 bt.1 bt.2 else some ([], [], t)) (fun k => ?_) ?_
      · rw [if_neg h1]
        simp only [parquetryref4_Two.j0]
        rw [if_neg (by simp; omega)]
      · refine Ev.bind (ref_all_ev _ (by intro t ht; simp only [List.mem_cons, List.not_mem_nil, or_false] at ht; rcases ht with rfl | rfl <;> simp only <;> omega) (by simp)) ?_
        unfold tTwo
        rw [if_neg (show ¬ (op < 6 ∨ 11 < op) by omega)]
        unfold tEach
        rw [fit2_is]
        by_cases h : fit2 s d s2 d2 = true
        · obtain ⟨rfl, hl, h4, hr⟩ := fit2_len h
          have hz := (tRight_iff.1 hr).2
          rw [if_pos h, if_pos h]
          refine Ev.congr (fun k => by rw [if_pos rfl]) (Ev.bind (ref_Fill_ev s2 0 hs) ?_)
          have hn : (sSize s2).toNat = d.length := by omega
          simp only [hn, List.length_replicate]
          unfold tTwoAt
          refine loop_fill (fun i => stepP op (rd d (i : Int)) (rd d2 (i : Int))) (fun _ => 0) d.length (fun i out k => parquetryref4_Two.l0 k op (d.length : Int) (i : Int) s2 d s2 d2 s2 out) _ (Ev.one fun k => ?_) (fun i out hi hlo _ k => ?_) d.length 0 _ (by omega) (by simp) (fun j hj => absurd hj (by omega)) (fun j _ hj => rd_rep _ _ j hj)
          · simp only [parquetryref4_Two.l0]
            rw [if_neg (by omega)]
          · simp only [parquetryref4_Two.l0]
            rw [if_pos (by omega), if_pos (by omega), if_pos (by omega), if_pos (by omega), ref_Step_is, Option.bind_some, if_pos (by omega), wsucc _ (by omega), Int.toNat_natCast]
        · rw [if_neg h, if_neg h]
          refine Ev.ret fun k => ?_
          rw [if_neg (by decide)]

theorem stepP_one {op : Int} (h : op = 4 ∨ op = 5) (a b c : Int) : stepP op a b = stepP op a c := by
  rcases h with rfl | rfl
  · rfl
  · rfl

theorem fit1_is (s d : List Int) : ([(⟨s, d⟩ : S27)].all (goodT (rd_T27 [(⟨s, d⟩ : S27)] 0).f0)) = fit2 s d s d := by
  simp [rd_T27, goodT, fit2]

theorem ref_One_ev (op : Int) (s d : List Int) (hs : s.length < 17592186044416) : Ev (fun k => parquetryref4_One.f k op s d) (tOne op s d) := by
  have good : (op = 4 ∨ op = 5) → Ev (fun k => parquetryref4_One.j0 k op false s d) (tOne op s d) := by
    intro ho
    refine Ev.step (f := fun k => (parquetryref4_all.f k [(⟨s, d⟩ : S27)]).bind fun t => if t = 0 then (parquetryref1_Fill.f k s 0).bind fun bt => parquetryref4_One.l0 k op (bt.2.length : Int) 0 s d bt.1 bt.2 else some ([], [], t)) (fun k => ?_) ?_
    · simp only [parquetryref4_One.j0]
      rw [if_neg (by decide)]
    · refine Ev.bind (ref_all_ev _ (by intro t ht; simp only [List.mem_cons, List.not_mem_nil, or_false] at ht; subst ht; simp only; omega) (by simp)) ?_
      unfold tOne
      rw [if_pos ho]
      unfold tEach
      rw [fit1_is]
      by_cases h : fit2 s d s d = true
      · obtain ⟨_, hl, h4, hr⟩ := fit2_len h
        have hz := (tRight_iff.1 hr).2
        rw [if_pos h, if_pos h]
        refine Ev.congr (fun k => by rw [if_pos rfl]) (Ev.bind (ref_Fill_ev s 0 hs) ?_)
        have hn : (sSize s).toNat = d.length := by omega
        simp only [hn, List.length_replicate]
        unfold tTwoAt
        refine loop_fill (fun i => stepP op (rd d (i : Int)) (rd d (i : Int))) (fun _ => 0) d.length (fun i out k => parquetryref4_One.l0 k op (d.length : Int) (i : Int) s d s out) _ (Ev.one fun k => ?_) (fun i out hi hlo _ k => ?_) d.length 0 _ (by omega) (by simp) (fun j hj => absurd hj (by omega)) (fun j _ hj => rd_rep _ _ j hj)
        · simp only [parquetryref4_One.l0]
          rw [if_neg (by omega)]
        · simp only [parquetryref4_One.l0]
          rw [if_pos (by omega), if_pos (by omega), if_pos (by omega), ref_Step_is, Option.bind_some, if_pos (by omega), wsucc _ (by omega), Int.toNat_natCast, stepP_one ho (rd d (i : Int)) (rd d (i : Int)) 0]
      · rw [if_neg h, if_neg h]
        refine Ev.ret fun k => ?_
        rw [if_neg (by decide)]
  unfold parquetryref4_One.f
  by_cases h1 : op = 4
  · exact Ev.congr (fun k => by rw [if_pos h1]) (good (.inl h1))
  · by_cases h2 : op = 5
    · refine Ev.congr (fun k => ?_) (good (.inr h2))
      rw [if_neg h1]; simp [h2]
    · refine Ev.one fun k => ?_
      rw [if_neg h1]
      simp only [parquetryref4_One.j0]
      rw [if_pos (by simpa using h2)]
      unfold tOne
      rw [if_neg (by omega)]

theorem ref_Pick_ev (s d s1 d1 s2 d2 : List Int) (hs : s.length < 17592186044416) (hs1 : s1.length < 17592186044416) (hs2 : s2.length < 17592186044416) : Ev (fun k => parquetryref4_Pick.f k s d s1 d1 s2 d2) (tPick s d s1 d1 s2 d2) := by
  unfold parquetryref4_Pick.f tPick
  refine Ev.bind (ref_all_ev _ (by intro t ht; simp only [List.mem_cons, List.not_mem_nil, or_false] at ht; rcases ht with rfl | rfl | rfl <;> simp only <;> omega) (by simp)) ?_
  rw [fit3_is]
  by_cases h : fit3 s d s1 d1 s2 d2 = true
  · obtain ⟨rfl, rfl, hl, hl2, h4, hr⟩ := fit3_len h
    have hz := (tRight_iff.1 hr).2
    rw [if_pos h, if_pos h]
    refine Ev.congr (fun k => by rw [if_pos rfl]) (Ev.bind (ref_Fill_ev s2 0 hs2) ?_)
    have hn : (sSize s2).toNat = d.length := by omega
    simp only [hn, List.length_replicate]
    refine loop_fill (fun i => if rd d (i : Int) = 0 then rd d2 (i : Int) else rd d1 (i : Int)) (fun _ => 0) d.length (fun i out k => parquetryref4_Pick.l0 k (d.length : Int) (i : Int) s2 d s2 d1 s2 d2 s2 out) _ (Ev.one fun k => ?_) (fun i out hi hlo _ k => ?_) d.length 0 _ (by omega) (by simp) (fun j hj => absurd hj (by omega)) (fun j _ hj => rd_rep _ _ j hj)
    · simp only [parquetryref4_Pick.l0]
      rw [if_neg (by omega)]
    · simp only [parquetryref4_Pick.l0]
      rw [if_pos (by omega), if_pos (by omega), if_pos (by omega), if_pos (by omega), Option.bind_some, if_pos (by omega)]
      by_cases h0 : rd d (i : Int) = 0
      · rw [if_pos h0, if_pos h0, wsucc _ (by omega), Int.toNat_natCast]
      · rw [if_neg h0, if_neg h0, if_pos (by omega), wsucc _ (by omega), Int.toNat_natCast, List.set_set]
  · rw [if_neg h, if_neg h]
    refine Ev.ret fun k => ?_
    rw [if_neg (by decide)]

end Go.Proofs.Ytppnhlcleehjlaa.Plain
