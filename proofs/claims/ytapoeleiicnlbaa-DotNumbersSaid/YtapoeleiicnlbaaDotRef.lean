/- Products in the reference: they come to what dot.Do's come to. -/
import Derived.Test.YtapoeleiicnlbaaDot
import Derived.Test.YtapoeleiicnlbaaQx12
import Derived.Test.YtapoeleiicnlbaaQx13
import Derived.Test.YtapoeleiicnlbaaQx14
import Derived.Test.YtapoeleiicnlbaaQx15
namespace Go.Proofs.Ytapoeleiicnlbaa.Plain
open Go.RowKit Go.Proofs.YtapoeleiicnlbaaW.PrintWords Go.Proofs.Ytapoeleiicnlbaa.Q

theorem ref_DotShape_j1 (a b : List Int) (n : Int) (h0 : 0 ≤ n) (h1 : n < (a.length : Int)) (h2 : n < (b.length : Int)) (g1 : sRight a = true) (g2 : sRight b = true) : Ev (fun k => parquetryref4_DotShape.j1 k a b n false) (if sRight (dRow a b n) = true then (dRow a b n, 0) else ([], 13)) := by
  have ha4 := right_len g1
  have hb4 := right_len g2
  have w1 : wrap64 ((a.length : Int) - 1) = (a.length : Int) - 1 := w64 (by omega) (by omega)
  have w2 : wrap64 (n + 1) = n + 1 := w64 (by omega) (by omega)
  have e1 : ((a.length : Int) - 1).toNat = a.length - 1 := by omega
  have e2 : (n + 1).toNat = n.toNat + 1 := by omega
  refine Ev.step (f := fun k => (parquetryref1_Right.f k (dRow a b n)).bind fun t => if t = true then some (dRow a b n, (0 : Int)) else some ([], 13)) (fun k => ?_) (Ev.bind (ref_Right_ev _ (by unfold dRow; simp; omega)) (Ev.ret fun k => ?_))
  · simp only [parquetryref4_DotShape.j1]
    rw [if_neg (by simp), Option.bind_some, w1, w2, if_pos (by omega), if_pos (by omega), if_pos (by simp; omega), Option.bind_some, if_pos (by omega), if_pos (by omega), if_pos (by simp; omega), Option.bind_some, e1, e2, List.nil_append]
    rfl
  · by_cases g5 : sRight (dRow a b n) = true
    · rw [if_pos g5, if_pos g5]
    · rw [if_neg g5, if_neg g5]
theorem ref_DotShape_j0 (a b : List Int) (n : Int) (h0 : 0 ≤ n) (h1 : n < (a.length : Int)) (h2 : n < (b.length : Int)) (hla : a.length < 9223372036854775807) (hlb : b.length < 9223372036854775807) : Ev (fun k => parquetryref4_DotShape.j0 k a b n false) (dShape a b n) := by
  unfold dShape
  rw [if_neg (by omega)]
  have bad : dFits a b n ≠ true → Ev (fun k => parquetryref4_DotShape.j1 k a b n true) (if dFits a b n = true then (if sRight (dRow a b n) = true then (dRow a b n, (0 : Int)) else ([], 13)) else ([], 13)) := fun h => by
    rw [if_neg h]
    refine Ev.one fun k => ?_
    simp only [parquetryref4_DotShape.j1]
    rw [if_pos trivial]
  refine Ev.step (f := fun k => (parquetryref1_Right.f k a).bind fun t219 => (if t219 = true then ((parquetryref1_Right.f k b).bind fun t220 => (if t220 = true then (if 0 ≤ n then (if n ≤ (a.length : Int) then (if n ≤ (b.length : Int) then ((parquetryref1_Ints.f k (a.take (n : Int).toNat) (b.take (n : Int).toNat)).bind fun t223 => (if t223 = true then (if 0 ≤ (wrap64 ((a.length : Int) - 1)) then (if (wrap64 ((a.length : Int) - 1)) < (a.length : Int) then (if n < (b.length : Int) then (parquetryref4_DotShape.j1 k a b n ((rd a (wrap64 ((a.length : Int) - 1))) != (rd b n))) else (none)) else (none)) else (none)) else (parquetryref4_DotShape.j1 k a b n true))) else (none)) else (none)) else (none)) else (parquetryref4_DotShape.j1 k a b n true))) else (parquetryref4_DotShape.j1 k a b n true))) (fun k => ?_) ?_
  · simp only [parquetryref4_DotShape.j0]
    rw [if_neg (by simp)]
  refine Ev.bind (ref_Right_ev a hla) ?_
  by_cases g1 : sRight a = true
  · refine Ev.congr (fun k => by rw [if_pos g1]) (Ev.bind (ref_Right_ev b hlb) ?_)
    have ha4 := right_len g1
    by_cases g2 : sRight b = true
    · have hb4 := right_len g2
      refine Ev.congr (fun k => by rw [if_pos g2, if_pos h0, if_pos (by omega), if_pos (by omega)]) (Ev.bind (ref_Ints_ev _ _ (by simp; omega)) ?_)
      by_cases g3 : a.take n.toNat = b.take n.toNat
      · have w1 : wrap64 ((a.length : Int) - 1) = (a.length : Int) - 1 := w64 (by omega) (by omega)
        refine Ev.congr (fun k => by rw [if_pos (by simpa using g3), w1, if_pos (by omega), if_pos (by omega), if_pos h2]) ?_
        by_cases g4 : rd a ((a.length : Int) - 1) = rd b n
        · have hf : dFits a b n = true := dFits_iff.2 ⟨g1, g2, g3, g4⟩
          rw [if_pos hf, g4]
          refine Ev.congr (fun k => ?_) (ref_DotShape_j1 a b n h0 h1 h2 g1 g2)
          simp
        · refine Ev.congr (fun k => ?_) (bad (fun h => g4 (dFits_iff.1 h).2.2.2))
          rw [show (rd a ((a.length : Int) - 1) != rd b n) = true by simpa using g4]
      · exact Ev.congr (fun k => by rw [if_neg (by simpa using g3)]) (bad (fun h => g3 (dFits_iff.1 h).2.2.1))
    · exact Ev.congr (fun k => by rw [if_neg g2]) (bad (fun h => g2 (dFits_iff.1 h).2.1))
  · exact Ev.congr (fun k => by rw [if_neg g1]) (bad (fun h => g1 (dFits_iff.1 h).1))
theorem ref_DotShape_ev (a b : List Int) (n : Int) (hla : a.length < 9223372036854775807) (hlb : b.length < 9223372036854775807) : Ev (fun k => parquetryref4_DotShape.f k a b n) (dShape a b n) := by
  have bad : n < 0 ∨ (a.length : Int) ≤ n ∨ (b.length : Int) ≤ n → Ev (fun k => parquetryref4_DotShape.j0 k a b n true) (dShape a b n) := by
    intro h
    refine Ev.one fun k => ?_
    simp only [parquetryref4_DotShape.j0]
    unfold dShape
    rw [if_pos trivial, if_pos h]
  unfold parquetryref4_DotShape.f
  by_cases h1 : n < 0
  · exact Ev.congr (fun k => by rw [if_pos h1]) (bad (.inl h1))
  · by_cases h2 : (a.length : Int) ≤ n
    · exact Ev.congr (fun k => by rw [if_neg h1, if_pos h2]) (bad (.inr (.inl h2)))
    · by_cases h3 : (b.length : Int) ≤ n
      · exact Ev.congr (fun k => by rw [if_neg h1, if_neg h2, decide_eq_true h3]) (bad (.inr (.inr h3)))
      · exact Ev.congr (fun k => by rw [if_neg h1, if_neg h2, decide_eq_false h3]) (ref_DotShape_j0 a b n (by omega) (by omega) (by omega) hla hlb)

theorem ref_number_in (s d q : List Int) (hs : s.length < 9223372036854775807) (hr : tRight s d = true) (hw : within s q) : Ev (fun k => parquetryref4_number.f k s d q) (rd d (sIndex s q)) := by
  have h := within_sIndex (tRight_iff.1 hr).1 hw
  have hd := (tRight_iff.1 hr).2
  unfold parquetryref4_number.f
  refine Ev.bind (ref_Index_ev s q hs) (Ev.ret fun k => ?_)
  rw [if_pos h.1, if_pos (by omega)]

theorem ref_Dot_l1 (s1 d1 s2 d2 t pa pb : List Int) (n : Nat) (m : Nat) (len : Int) (i : Nat) (r : List Int × List Int × Int) (hr1 : tRight s1 d1 = true) (hr2 : tRight s2 d2 = true) (hn : n ≤ pa.length) (hl : (pa ++ pb).length ≤ 4) (hm : m ≤ 32) (hi : i ≤ 4096) (hn2 : n < s2.length) (hmd : rd s2 (n : Int) = (m : Int))
    (h1 : ∀ j : Nat, j < m → within s1 (pa ++ [(j : Int)])) (h2 : ∀ j : Nat, j < m → within s2 (pa.take n ++ (j : Int) :: pb)) (c : Nat) : ∀ (j : Nat) (out : List Int), j + c = m → i < out.length →
    Ev (fun k => parquetryref4_Dot.l0 k (n : Int) t (pa.length : Int) len ((i + 1 : Nat) : Int) s1 d1 s2 d2 t (out.set i (dotSum s1 d1 s2 d2 pa (pa.take n) pb j c (rd out (i : Int))))) r →
    Ev (fun k => parquetryref4_Dot.l1 k (n : Int) t (pa.length : Int) (i : Int) (pa ++ pb) (j : Int) len (i : Int) s1 d1 s2 d2 t out) r := by
  have hs1 := right_len (tRight_iff.1 hr1).1
  have hs2 := right_len (tRight_iff.1 hr2).1
  have hpl : pa.length + pb.length ≤ 4 := by simpa using hl
  induction c with
  | zero =>
    intro j out hj ho hend
    refine Ev.step (fun k => ?_) hend
    simp only [parquetryref4_Dot.l1]
    rw [if_pos (by omega), if_pos (by omega), hmd, if_neg (by omega), wsucc _ (by omega)]
    simp only [dotSum]
    have : out.set i (rd out (i : Int)) = out := by rw [rd_nat out i ho]; simp
    rw [this]
  | succ c ih =>
    intro j out hj ho hend
    have e1 : rd (out.set i (wrap64 (rd out (i : Int) + wrap64 (rd d1 (sIndex s1 (pa ++ [(j : Int)])) * rd d2 (sIndex s2 (pa.take n ++ (j : Int) :: pb)))))) (i : Int) = wrap64 (rd out (i : Int) + wrap64 (rd d1 (sIndex s1 (pa ++ [(j : Int)])) * rd d2 (sIndex s2 (pa.take n ++ (j : Int) :: pb)))) := by
      rw [rd_set _ _ _ _ ho, if_pos rfl]
    have next := ih (j + 1) (out.set i (wrap64 (rd out (i : Int) + wrap64 (rd d1 (sIndex s1 (pa ++ [(j : Int)])) * rd d2 (sIndex s2 (pa.take n ++ (j : Int) :: pb)))))) (by omega) (by simpa using ho) (by
      rw [e1, List.set_set]
      exact hend)
    have ed : (pa ++ pb).drop pa.length = pb := List.drop_left
    have et : (pa ++ pb).take pa.length = pa := List.take_left
    have en : (pa ++ pb).take n = pa.take n := List.take_append_of_le_length hn
    refine Ev.step (f := fun k => (parquetryref4_number.f k s1 d1 (pa ++ [(j : Int)])).bind fun t314 => (parquetryref4_number.f k s2 d2 (pa.take n ++ (j : Int) :: pb)).bind fun t315 => parquetryref4_Dot.l1 k (n : Int) t (pa.length : Int) (i : Int) (pa ++ pb) ((j + 1 : Nat) : Int) len (i : Int) s1 d1 s2 d2 t (out.set i (wrap64 (rd out (i : Int) + wrap64 (t314 * t315))))) (fun k => ?_) ?_
    · simp only [parquetryref4_Dot.l1]
      rw [if_pos (by omega), if_pos (by omega), hmd, if_pos (by omega)]
      simp only [Option.bind_some, List.nil_append, Int.toNat_natCast, et, ed, en]
      rw [if_pos (by omega), if_pos (by simp only [List.length_append]; omega), if_pos (by simp only [List.length_nil]; omega), if_pos (by simp only [List.length_cons, List.length_nil]; omega), if_pos (by simp only [List.length_append]; omega), if_pos (by simp only [List.length_nil, List.length_take]; omega), if_pos (by simp only [List.length_cons, List.length_nil, List.length_take]; omega), if_pos (by simp only [List.length_append, List.length_cons, List.length_nil, List.length_take]; omega), if_pos (by omega), if_pos (by omega), wsucc _ (by omega)]
      simp only [List.append_assoc, List.cons_append, List.nil_append]
    · exact Ev.bind (ref_number_in s1 d1 _ (by omega) hr1 (h1 j (by omega))) (Ev.bind (ref_number_in s2 d2 _ (by omega) hr2 (h2 j (by omega))) next)

theorem ref_Dot_l0 (s1 d1 s2 d2 t : List Int) (q la m : Nat) (g : List Int → Int) (hr1 : tRight s1 d1 = true) (hr2 : tRight s2 d2 = true) (ht4 : t.length ≤ 4) (hm : m ≤ 32) (hq : q < s2.length) (hqa : q ≤ la) (hmd : rd s2 (q : Int) = (m : Int))
    (hpl : ∀ i : Nat, (i : Int) < sSize t → ∃ pa pb, plc t i = pa ++ pb ∧ pa.length = la ∧ (∀ j : Nat, j < m → within s1 (pa ++ [(j : Int)])) ∧ (∀ j : Nat, j < m → within s2 (pa.take q ++ (j : Int) :: pb)) ∧ g (plc t i) = dotSum s1 d1 s2 d2 pa (pa.take q) pb 0 m 0)
    (c : Nat) : ∀ i : Nat, i + c = (sSize t).toNat →
    Ev (fun k => parquetryref4_Dot.l0 k (q : Int) t (la : Int) (sSize t) (i : Int) s1 d1 s2 d2 t ((List.range i).map (fun i : Nat => g (plc t (i : Int))) ++ List.replicate ((sSize t).toNat - i) 0)) (t, madeOf t g, 0) := by
  have hz := size_range t
  induction c with
  | zero =>
    intro i hi
    refine Ev.one fun k => ?_
    simp only [parquetryref4_Dot.l0]
    rw [if_neg (by omega)]
    have : i = (sSize t).toNat := by omega
    subst this
    simp [madeOf]
  | succ c ih =>
    intro i hi
    have hlt : (i : Int) < sSize t := by omega
    obtain ⟨pa, pb, hp, hpa, w1, w2, hg⟩ := hpl i hlt
    have hlen : ((List.range i).map (fun i : Nat => g (plc t (i : Int))) ++ List.replicate ((sSize t).toNat - i) (0 : Int)).length = (sSize t).toNat := by simp; omega
    have hrd : rd ((List.range i).map (fun i : Nat => g (plc t (i : Int))) ++ List.replicate ((sSize t).toNat - i) (0 : Int)) (i : Int) = 0 := by
      rw [rd_nat _ _ (by rw [hlen]; omega), List.getElem_append_right (by simp)]
      simp
    have hpt : (pa ++ pb).length ≤ 4 := by rw [← hp, plc_length]; exact ht4
    refine Ev.step (f := fun k => (parquetryref1_Place.f k t (i : Int)).bind fun p => parquetryref4_Dot.l1 k (q : Int) t (la : Int) (i : Int) p 0 (sSize t) (i : Int) s1 d1 s2 d2 t ((List.range i).map (fun i : Nat => g (plc t (i : Int))) ++ List.replicate ((sSize t).toNat - i) 0)) (fun k => ?_) ?_
    · simp only [parquetryref4_Dot.l0]
      rw [if_pos hlt]
    · refine Ev.bind (ref_Place_ev t i (by omega)) ?_
      rw [sPlace_in (by omega) hlt, hp, ← hpa]
      refine ref_Dot_l1 s1 d1 s2 d2 t pa pb q m (sSize t) i _ hr1 hr2 (by omega) hpt hm (by omega) hq hmd w1 w2 m 0 _ (by omega) (by rw [hlen]; omega) ?_
      rw [hrd, ← hg, set_range (fun i : Nat => g (plc t (i : Int))) (sSize t).toNat i (by omega) 0, hpa]
      exact ih (i + 1) (by omega)

theorem ref_Dot_j0 (s1 d1 s2 d2 : List Int) (n : Int) (hr1 : tRight s1 d1 = true) (hr2 : tRight s2 d2 = true) : Ev (fun k => parquetryref4_Dot.j0 k n false s1 d1 s2 d2) (tDot s1 d1 s2 d2 n) := by
  have hs1 := right_len (tRight_iff.1 hr1).1
  have hs2 := right_len (tRight_iff.1 hr2).1
  have w1 : wrap64 ((s1.length : Int) - 1) = (s1.length : Int) - 1 := w64 (by omega) (by omega)
  unfold tDot
  rw [if_pos ⟨hr1, hr2⟩]
  refine Ev.step (f := fun k => (parquetryref4_DotShape.f k s1 s2 n).bind fun bt => if bt.2 = 0 then ((parquetryref1_Fill.f k bt.1 0).bind fun bf => parquetryref4_Dot.l0 k n bt.1 ((s1.length : Int) - 1) (bf.2.length : Int) 0 s1 d1 s2 d2 bf.1 bf.2) else some ([], [], bt.2)) (fun k => ?_) ?_
  · simp only [parquetryref4_Dot.j0]
    rw [if_neg (by simp), w1]
  · refine Ev.bind (ref_DotShape_ev s1 s2 n (by omega) (by omega)) ?_
    by_cases h : (dShape s1 s2 n).2 = 0
    · rw [if_pos h]
      refine Ev.congr (fun k => by rw [if_pos h]) ?_
      obtain ⟨A, B, m, q, rfl, rfl, rfl, hq, hd, hR, _, _, hm⟩ := dShape_ok h
      rw [hd]
      have hAB := right_len hR
      have hAB' : A.length + B.length ≤ 4 := by simpa using hAB
      have hz := size_range (A ++ B)
      have htl : (A.take q).length = q := by simp; omega
      have hm2 : rd (A.take q ++ m :: B) (q : Int) = m := by
        have := rd_mid (A.take q) m B
        rwa [htl] at this
      have hl1 : (A ++ [m]).length - 1 = A.length := by simp
      have hl2 : (((A ++ [m]).length : Int) - 1) = (A.length : Int) := by simp
      refine Ev.bind (ref_Fill_ev _ _ (by omega)) ?_
      have hl : (((List.replicate (sSize (A ++ B)).toNat (0 : Int)).length : Nat) : Int) = sSize (A ++ B) := by simp; omega
      simp only [hl, hl1, hl2, hm2, Int.toNat_natCast]
      have hpl : ∀ i : Nat, (i : Int) < sSize (A ++ B) → ∃ pa pb, plc (A ++ B) i = pa ++ pb ∧ pa.length = A.length ∧ (∀ j : Nat, j < m.toNat → within (A ++ [m]) (pa ++ [(j : Int)])) ∧ (∀ j : Nat, j < m.toNat → within (A.take q ++ m :: B) (pa.take q ++ (j : Int) :: pb)) ∧
          dotSum (A ++ [m]) d1 (A.take q ++ m :: B) d2 ((plc (A ++ B) i).take A.length) ((plc (A ++ B) i).take q) ((plc (A ++ B) i).drop A.length) 0 m.toNat 0 = dotSum (A ++ [m]) d1 (A.take q ++ m :: B) d2 pa (pa.take q) pb 0 m.toNat 0 := by
        intro i hi
        obtain ⟨pa, pb, hp, hpa, hpb, w1, w2⟩ := dot_place (q := q) hm i hi
        have et : (pa ++ pb).take A.length = pa := by rw [← hpa]; exact List.take_left
        have ed : (pa ++ pb).drop A.length = pb := by rw [← hpa]; exact List.drop_left
        have eq_ : (pa ++ pb).take q = pa.take q := List.take_append_of_le_length (by omega)
        refine ⟨pa, pb, hp, hpa, w1, w2, ?_⟩
        rw [hp, et, ed, eq_]
      have key := ref_Dot_l0 (A ++ [m]) d1 (A.take q ++ m :: B) d2 (A ++ B) q A.length m.toNat (fun p => dotSum (A ++ [m]) d1 (A.take q ++ m :: B) d2 (p.take A.length) (p.take q) (p.drop A.length) 0 m.toNat 0) hr1 hr2 hAB (by omega) (by simp; omega) hq (by rw [hm2]; omega) hpl (sSize (A ++ B)).toNat 0 (by omega)
      simpa using key
    · rw [if_neg h]
      exact Ev.ret fun k => by rw [if_neg h]
theorem ref_Dot_ev (s1 d1 s2 d2 : List Int) (n : Int) (hs1 : s1.length < 9223372036854775807) (hs2 : s2.length < 9223372036854775807) : Ev (fun k => parquetryref4_Dot.f k s1 d1 s2 d2 n) (tDot s1 d1 s2 d2 n) := by
  have bad : ¬ (tRight s1 d1 = true ∧ tRight s2 d2 = true) → Ev (fun k => parquetryref4_Dot.j0 k n true s1 d1 s2 d2) (tDot s1 d1 s2 d2 n) := by
    intro h
    refine Ev.one fun k => ?_
    simp only [parquetryref4_Dot.j0]
    unfold tDot
    rw [if_pos trivial, if_neg h]
  unfold parquetryref4_Dot.f
  refine Ev.bind (ref_Tensor_ev s1 d1 hs1) ?_
  by_cases h1 : tRight s1 d1 = true
  · refine Ev.congr (fun k => by rw [if_pos h1]) (Ev.bind (ref_Tensor_ev s2 d2 hs2) ?_)
    by_cases h2 : tRight s2 d2 = true
    · rw [h2]
      exact ref_Dot_j0 s1 d1 s2 d2 n h1 h2
    · rw [show tRight s2 d2 = false by simpa using h2]
      exact bad (fun h => h2 h.2)
  · exact Ev.congr (fun k => by rw [if_neg h1]) (bad (fun h => h1 h.1))

end Go.Proofs.Ytapoeleiicnlbaa.Plain
