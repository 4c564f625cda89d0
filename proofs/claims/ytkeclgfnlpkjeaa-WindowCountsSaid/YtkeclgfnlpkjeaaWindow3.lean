/- Windows in the reference: they come to what window.Do's come to. -/
import Derived.Test.YtkeclgfnlpkjeaaWindow2
import Derived.Test.YtkeclgfnlpkjeaaQx16
import Derived.Test.YtkeclgfnlpkjeaaQx17
namespace Go.Proofs.Ytkeclgfnlpkjeaa.Plain
open Go.RowKit Go.Proofs.YtkeclgfnlpkjeaaW.PrintWords Go.Proofs.Ytkeclgfnlpkjeaa.Q

theorem ref_number_ev (s d q : List Int) (hs : s.length < 9223372036854775807) (hr : tRight s d = true) (hw : within s q) : Ev (fun k => parquetryref4_number.f k s d q) (rd d (sIndex s q)) := by
  have h := within_sIndex (tRight_iff.1 hr).1 hw
  have hd := (tRight_iff.1 hr).2
  unfold parquetryref4_number.f
  refine Ev.bind (ref_Index_ev s q hs) (Ev.ret fun k => ?_)
  rw [if_pos h.1, if_pos (by omega)]

theorem ref_Window_l1 (how : Int) (s d t p : List Int) (a : Nat) (apart first : Int) (wide : Nat) (len : Int) (i : Nat) (r : List Int × List Int × Int) (hr : tRight s d = true) (hax : a < p.length) (hf0 : 0 ≤ first) (hf1 : first ≤ 4096) (hw : wide ≤ 32) (hi : i ≤ 4096)
    (hin : ∀ k : Nat, k < wide → within s (p.set a (first + (k : Int)))) (m : Nat) : ∀ (j : Nat) (q out : List Int), j + m = wide → q.length = p.length → (∀ y : Int, q.set a y = p.set a y) → i < out.length →
    Ev (fun k => parquetryref4_Window.l0 k how (a : Int) (wide : Int) apart t len ((i + 1 : Nat) : Int) s d t (out.set i (winAt how s d p a first j m (rd out (i : Int))))) r →
    Ev (fun k => parquetryref4_Window.l1 k how (a : Int) (wide : Int) apart t (i : Int) q first (j : Int) len (i : Int) s d t out) r := by
  have hs4 := right_len (tRight_iff.1 hr).1
  induction m with
  | zero =>
    intro j q out hj hl hq ho hend
    refine Ev.step (fun k => ?_) hend
    simp only [parquetryref4_Window.l1]
    rw [if_neg (by omega), wsucc _ (by omega)]
    simp only [winAt]
    have : out.set i (rd out (i : Int)) = out := by rw [rd_nat out i ho]; simp
    rw [this]
  | succ m ih =>
    intro j q out hj hl hq ho hend
    have hw2 := hin j (by omega)
    have e1 : rd (out.set i (stepOf how (rd out (i : Int)) (rd d (sIndex s (p.set a (first + (j : Int))))))) (i : Int) = stepOf how (rd out (i : Int)) (rd d (sIndex s (p.set a (first + (j : Int))))) := by
      rw [rd_set _ _ _ _ ho, if_pos rfl]
    have next := ih (j + 1) (p.set a (first + (j : Int))) (out.set i (stepOf how (rd out (i : Int)) (rd d (sIndex s (p.set a (first + (j : Int))))))) (by omega) (by simp) (fun y => by rw [List.set_set]) (by simpa using ho) (by
      rw [e1, List.set_set]
      exact hend)
    refine Ev.step (f := fun k => (parquetryref4_number.f k s d (p.set a (first + (j : Int)))).bind fun t2 => (parquetryref4_Put.f how (rd out (i : Int)) t2).bind fun v => parquetryref4_Window.l1 k how (a : Int) (wide : Int) apart t (i : Int) (p.set a (first + (j : Int))) first (((j + 1 : Nat) : Nat) : Int) len (i : Int) s d t (out.set i v)) (fun k => ?_) ?_
    · simp only [parquetryref4_Window.l1]
      rw [if_pos (by omega), if_pos (by omega), if_pos (by omega), w64 (n := first + (j : Int)) (by omega) (by omega), wsucc _ (by omega), Int.toNat_natCast, Int.toNat_natCast, hq]
      simp only [Option.bind_some]
      rw [if_pos (by omega), if_pos (by omega)]
    · refine Ev.bind (ref_number_ev s d _ (by omega) hr hw2) (Ev.congr (fun k => ?_) next)
      rw [ref_Put_is]
      rfl

theorem ref_Window_l0 (how : Int) (s d t : List Int) (a : Nat) (apart : Int) (wide : Nat) (hr : tRight s d = true) (ht4 : t.length ≤ 4) (hat : a < t.length) (hw : wide ≤ 32)
    (hpl : ∀ i : Nat, (i : Int) < sSize t → 0 ≤ rd (plc t i) (a : Int) * apart ∧ rd (plc t i) (a : Int) * apart ≤ 4096 ∧ ∀ k : Nat, (k : Int) < (wide : Int) → within s ((plc t i).set a (rd (plc t i) (a : Int) * apart + (k : Int))))
    (m : Nat) : ∀ i : Nat, i + m = (sSize t).toNat →
    Ev (fun k => parquetryref4_Window.l0 k how (a : Int) (wide : Int) apart t (sSize t) (i : Int) s d t ((List.range i).map (fun i : Nat => winAt how s d (plc t (i : Int)) a (rd (plc t (i : Int)) (a : Int) * apart) 0 wide (noneOf how)) ++ List.replicate ((sSize t).toNat - i) (noneOf how)))
      (t, madeOf t (fun p => winAt how s d p a (rd p (a : Int) * apart) 0 wide (noneOf how)), 0) := by
  have hz := size_range t
  induction m with
  | zero =>
    intro i hi
    refine Ev.one fun k => ?_
    simp only [parquetryref4_Window.l0]
    rw [if_neg (by omega)]
    have : i = (sSize t).toNat := by omega
    subst this
    simp [madeOf]
  | succ m ih =>
    intro i hi
    have hlt : (i : Int) < sSize t := by omega
    obtain ⟨q0, q1, q2⟩ := hpl i hlt
    have hlen : ((List.range i).map (fun i : Nat => winAt how s d (plc t (i : Int)) a (rd (plc t (i : Int)) (a : Int) * apart) 0 wide (noneOf how)) ++ List.replicate ((sSize t).toNat - i) (noneOf how)).length = (sSize t).toNat := by simp; omega
    have hrd : rd ((List.range i).map (fun i : Nat => winAt how s d (plc t (i : Int)) a (rd (plc t (i : Int)) (a : Int) * apart) 0 wide (noneOf how)) ++ List.replicate ((sSize t).toNat - i) (noneOf how)) (i : Int) = noneOf how := by
      rw [rd_nat _ _ (by rw [hlen]; omega), List.getElem_append_right (by simp)]
      simp
    refine Ev.step (f := fun k => (parquetryref1_Place.f k t (i : Int)).bind fun p => if 0 ≤ (a : Int) then (if (a : Int) < (p.length : Int) then parquetryref4_Window.l1 k how (a : Int) (wide : Int) apart t (i : Int) p (wrap64 ((rd p (a : Int)) * apart)) 0 (sSize t) (i : Int) s d t ((List.range i).map (fun i : Nat => winAt how s d (plc t (i : Int)) a (rd (plc t (i : Int)) (a : Int) * apart) 0 wide (noneOf how)) ++ List.replicate ((sSize t).toNat - i) (noneOf how)) else none) else none) (fun k => ?_) ?_
    · simp only [parquetryref4_Window.l0]
      rw [if_pos hlt]
    · refine Ev.bind (ref_Place_ev t i (by omega)) ?_
      rw [sPlace_in (by omega) hlt]
      refine Ev.congr (fun k => by rw [if_pos (by omega), if_pos (by rw [plc_length]; omega), w64 (n := rd (plc t (i : Int)) (a : Int) * apart) (by omega) (by omega)]) ?_
      refine ref_Window_l1 how s d t (plc t (i : Int)) a apart (rd (plc t (i : Int)) (a : Int) * apart) wide (sSize t) i _ hr (by rw [plc_length]; exact hat) q0 q1 hw (by omega) (fun k hk => q2 k (by omega)) wide 0 (plc t (i : Int)) _ (by omega) rfl (fun _ => rfl) (by rw [hlen]; omega) ?_
      rw [hrd, set_range (fun i : Nat => winAt how s d (plc t (i : Int)) a (rd (plc t (i : Int)) (a : Int) * apart) 0 wide (noneOf how)) (sSize t).toNat i (by omega) (noneOf how)]
      exact ih (i + 1) (by omega)

theorem ref_Window_ev (how : Int) (s d : List Int) (axis wide apart : Int) (hs : s.length < 9223372036854775807) : Ev (fun k => parquetryref4_Window.f k how s d axis wide apart) (tWindow how s d axis wide apart) := by
  have bad : (okHow how && (okW wide && okW apart)) ≠ true → Ev (fun k => parquetryref4_Window.j0 k how axis wide apart true s d) (tWindow how s d axis wide apart) := by
    intro h
    refine Ev.one fun k => ?_
    simp only [parquetryref4_Window.j0]
    unfold tWindow
    rw [if_pos trivial, if_neg h]
  have start : Ev (fun k => parquetryref4_Window.j0 k how axis wide apart (!(okHow how && (okW wide && okW apart))) s d) (tWindow how s d axis wide apart) := by
    by_cases h1 : (okHow how && (okW wide && okW apart)) = true
    · have h1' := h1
      simp only [Bool.and_eq_true] at h1'
      refine Ev.step (f := fun k => (parquetryref1_Tensor.f k s d).bind fun t => if t = true then parquetryref4_Window.j1 k how axis wide apart (decide (axis < 0 ∨ (s.length : Int) ≤ axis)) s d else some ([], [], 13)) (fun k => ?_) ?_
      · simp only [parquetryref4_Window.j0]
        rw [if_neg (by rw [h1]; decide)]
        congr 1
        funext t
        by_cases h0 : axis < 0
        · rw [if_pos h0]; simp [h0]
        · rw [if_neg h0]; simp [h0]
      · refine Ev.bind (ref_Tensor_ev s d hs) ?_
        by_cases h2 : tRight s d = true
        · have hs4 := right_len (tRight_iff.1 h2).1
          refine Ev.congr (fun k => by rw [if_pos h2]) ?_
          by_cases h3 : axis < 0 ∨ (s.length : Int) ≤ axis
          · refine Ev.one fun k => ?_
            simp only [parquetryref4_Window.j1]
            rw [if_pos (by simpa using h3)]
            unfold tWindow
            rw [if_pos h1, if_pos h2, if_pos h3]
          · obtain ⟨a, rfl⟩ := Int.eq_ofNat_of_zero_le (show 0 ≤ axis by omega)
            have ha : a < s.length := by omega
            obtain ⟨w, rfl⟩ := Int.eq_ofNat_of_zero_le (show 0 ≤ wide by have := okW_iff.1 h1'.2.1; omega)
            have hw32 := (okW_iff.1 h1'.2.1).2
            obtain ⟨htr, hpl⟩ := window_place h2 ha h1'.2.1 h1'.2.2
            have hz := size_range (s.set a (outW (rd s (a : Int)) (w : Int) apart))
            refine Ev.step (f := fun k => (parquetryref1_Fill.f k (s.set a (outW (rd s (a : Int)) (w : Int) apart)) (noneOf how)).bind fun bt => parquetryref4_Window.l0 k how (a : Int) (w : Int) apart (s.set a (outW (rd s (a : Int)) (w : Int) apart)) (bt.2.length : Int) 0 s d bt.1 bt.2) (fun k => ?_) ?_
            · simp only [parquetryref4_Window.j1]
              rw [if_neg (by simpa using h3)]
              simp only [Option.bind_some, List.nil_append]
              rw [if_pos (by simp only [List.length_nil]; omega), if_pos (by omega), if_pos (by omega), ref_Windows_is, ref_None_is]
              simp
            · refine Ev.bind (ref_Fill_ev _ _ (by simp; omega)) ?_
              have hl : (((List.replicate (sSize (s.set a (outW (rd s (a : Int)) (w : Int) apart))).toNat (noneOf how)).length : Nat) : Int) = sSize (s.set a (outW (rd s (a : Int)) (w : Int) apart)) := by simp; omega
              simp only [hl]
              refine Ev.cast (by simpa using ref_Window_l0 how s d (s.set a (outW (rd s (a : Int)) (w : Int) apart)) a apart w h2 (by simpa using hs4) (by simpa using ha) (by omega) hpl (sSize (s.set a (outW (rd s (a : Int)) (w : Int) apart))).toNat 0 (by omega)) ?_
              unfold tWindow
              rw [if_pos h1, if_pos h2, if_neg h3]
              simp
        · refine Ev.ret fun k => ?_
          rw [if_neg h2]
          unfold tWindow
          rw [if_pos h1, if_neg h2]
    · have hf : (okHow how && (okW wide && okW apart)) = false := by simpa using h1
      rw [hf]
      exact bad h1
  refine Ev.congr (fun k => ?_) start
  unfold parquetryref4_Window.f
  rw [ref_How_is]
  simp only [Option.bind_some, okW]
  by_cases h1 : okHow how = true
  · rw [if_pos h1, h1]
    by_cases h2 : wide < 1
    · rw [if_pos h2]
      have : ¬ 1 ≤ wide := by omega
      simp [this]
    · rw [if_neg h2]
      have h2' : 1 ≤ wide := by omega
      by_cases h3 : wide > 32
      · rw [if_pos h3]
        have : ¬ wide ≤ 32 := by omega
        simp [this]
      · rw [if_neg h3]
        have h3' : wide ≤ 32 := by omega
        by_cases h4 : apart < 1
        · rw [if_pos h4]
          have : ¬ 1 ≤ apart := by omega
          simp [this]
        · rw [if_neg h4]
          have h4' : 1 ≤ apart := by omega
          by_cases h5 : apart ≤ 32
          · have h6 : ¬ 32 < apart := by omega
            simp [h2', h3', h4', h5, h6]
          · have h6 : 32 < apart := by omega
            simp [h2', h3', h4', h5, h6]
  · have hf : okHow how = false := by simpa using h1
    rw [if_neg h1, hf]
    simp

end Go.Proofs.Ytkeclgfnlpkjeaa.Plain
