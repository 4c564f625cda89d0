/- Windows in both texts: they come to the same. -/
import Derived.Test.YtkeclgfnlpkjeaaWindow
import Derived.Test.YtkeclgfnlpkjeaaQx15
import Derived.Test.YtkeclgfnlpkjeaaQx17
namespace Go.Proofs.Ytkeclgfnlpkjeaa.Plain
open Go.RowKit Go.Proofs.YtkeclgfnlpkjeaaW.PrintWords Go.Proofs.Ytkeclgfnlpkjeaa.Q

theorem windowAt_ev (how : Int) (s d p : List Int) (axis : Nat) (apart : Int) (wide : Nat) (hr : tRight s d = true) (hax : axis < p.length) (hf0 : 0 ≤ rd p (axis : Int) * apart) (hf1 : rd p (axis : Int) * apart ≤ 4096) (hw : wide ≤ 32)
    (hin : ∀ k : Nat, k < wide → within s (p.set axis (rd p (axis : Int) * apart + (k : Int)))) :
    Ev (fun k => windowAt k how (axis : Int) apart (wide : Int) s d p) (winAt how s d p axis (rd p (axis : Int) * apart) 0 wide (noneOf how)) := by
  obtain ⟨q, N, h⟩ := window_Each_l0 how s d p axis (rd p (axis : Int) * apart) wide hr hax hf0 hf1 hw hin wide 0 p (noneOf how) (by omega) rfl (fun _ => rfl)
  refine ⟨N, fun k hk => ?_⟩
  have hk := h k hk
  have e : window_Each.f k p how (axis : Int) apart (wide : Int) s d = some (winAt how s d p axis (rd p (axis : Int) * apart) 0 wide (noneOf how), q) := by
    unfold window_Each.f
    rw [fold_None_is]
    simp only [Option.bind_some]
    rw [if_pos (by omega), if_pos (by omega), w64 (by omega) (by omega)]
    exact hk
  simp only [windowAt, e, Option.map_some]

/-- What windows of a tensor come to. -/
def tWindow (how : Int) (s d : List Int) (axis wide apart : Int) : List Int × List Int × Int :=
  if (okHow how && (okW wide && okW apart)) = true then (if tRight s d = true then (if axis < 0 ∨ (s.length : Int) ≤ axis then ([], [], 1)
    else (s.set axis.toNat (outW (rd s axis) wide apart), madeOf (s.set axis.toNat (outW (rd s axis) wide apart)) (fun p => winAt how s d p axis.toNat (rd p axis * apart) 0 wide.toNat (noneOf how)), 0)) else ([], [], 13)) else ([], [], 1)

/-- At a place of the answer: what is asked of it. -/
theorem window_place {s d : List Int} {a : Nat} {wide apart : Int} (hr : tRight s d = true) (ha : a < s.length) (hw : okW wide = true) (hap : okW apart = true) :
    sRight (s.set a (outW (rd s (a : Int)) wide apart)) = true ∧ ∀ i : Nat, (i : Int) < sSize (s.set a (outW (rd s (a : Int)) wide apart)) →
      0 ≤ rd (plc (s.set a (outW (rd s (a : Int)) wide apart)) i) (a : Int) * apart ∧ rd (plc (s.set a (outW (rd s (a : Int)) wide apart)) i) (a : Int) * apart ≤ 4096 ∧
      ∀ k : Nat, (k : Int) < wide → within s ((plc (s.set a (outW (rd s (a : Int)) wide apart)) i).set a (rd (plc (s.set a (outW (rd s (a : Int)) wide apart)) i) (a : Int) * apart + (k : Int))) := by
  have hsr := (tRight_iff.1 hr).1
  have hx : s[a]? = some s[a] := List.getElem?_eq_getElem ha
  have hrd : rd s (a : Int) = s[a] := rd_nat s a ha
  have hx32 := okDim_iff.1 (List.all_eq_true.1 (right_dims hsr) s[a] (List.getElem_mem ha))
  have hw' := okW_iff.1 hw
  have ha' := okW_iff.1 hap
  rw [hrd]
  obtain ⟨o0, o1, o2⟩ := outW_range hx32.1 hx32.2 hw'.1 ha'.1
  refine ⟨right_set hsr hx o0 o1, fun i hi => ?_⟩
  obtain ⟨_, hpos⟩ := size_dims (s := s.set a (outW s[a] wide apart)) (i := (i : Int)) (by omega) hi
  have hwi := within_plc _ hpos (i : Int)
  obtain ⟨r0, r1⟩ := within_rd s _ a _ hwi ha
  have h1 := o2 _ r0 r1
  have h0 : 0 ≤ rd (plc (s.set a (outW s[a] wide apart)) i) (a : Int) * apart := Int.mul_nonneg r0 (by omega)
  exact ⟨h0, by omega, fun k hk => within_set s _ a _ _ _ hwi hx (by omega) (by omega)⟩

theorem window_Do_ev (how : Int) (s d : List Int) (axis wide apart : Int) : Ev (fun k => window_Do.f k how s d axis wide apart) (tWindow how s d axis wide apart) := by
  unfold window_Do.f
  simp only [window_May_is, Option.bind_some]
  by_cases h1 : (okHow how && (okW wide && okW apart)) = true
  · have h1' := h1
    simp only [Bool.and_eq_true] at h1'
    refine Ev.congr (fun k => by rw [if_pos h1]) (Ev.bind (tensor_Right_ev s d) ?_)
    by_cases h2 : tRight s d = true
    · have hs4 := right_len (tRight_iff.1 h2).1
      refine Ev.congr (fun k => by rw [if_pos h2]) ?_
      by_cases h3 : axis < 0
      · refine Ev.ret fun k => ?_
        rw [if_pos h3]
        unfold tWindow
        rw [if_pos h1, if_pos h2, if_pos (.inl h3)]
      · by_cases h4 : axis ≥ (s.length : Int)
        · refine Ev.ret fun k => ?_
          rw [if_neg h3, if_pos h4]
          unfold tWindow
          rw [if_pos h1, if_pos h2, if_pos (.inr h4)]
        · obtain ⟨a, rfl⟩ := Int.eq_ofNat_of_zero_le (show 0 ≤ axis by omega)
          have ha : a < s.length := by omega
          obtain ⟨w, rfl⟩ := Int.eq_ofNat_of_zero_le (show 0 ≤ wide by have := okW_iff.1 h1'.2.1; omega)
          have hw32 := (okW_iff.1 h1'.2.1).2
          obtain ⟨htr, hpl⟩ := window_place h2 ha h1'.2.1 h1'.2.2
          refine Ev.congr (f := fun k => (window_Made.f k (s.set a (outW (rd s (a : Int)) (w : Int) apart)) how (a : Int) apart (w : Int) s d).bind fun bt => some (bt.1, bt.2, (0 : Int))) (fun k => ?_) ?_
          · rw [if_neg h3, if_neg h4, clone_int s (by omega)]
            simp only [Option.bind_some]
            rw [if_pos (by omega), if_pos (by omega), window_Out_is]
            simp
          · refine Ev.cast (Ev.bind (made_ev_k (fun k => windowAt k how (a : Int) apart (w : Int) s d) (s.set a (outW (rd s (a : Int)) (w : Int) apart)) (fun p => winAt how s d p a (rd p (a : Int) * apart) 0 w (noneOf how)) (fun k p => windowAt.mono k how (a : Int) apart (w : Int) s d p) (fun i hi => ?_) (by simp; omega)) (Ev.now _)) ?_
            · obtain ⟨q0, q1, q2⟩ := hpl i hi
              exact windowAt_ev how s d _ a apart w h2 (by rw [plc_length, List.length_set]; exact ha) q0 q1 (by omega) (fun k hk => q2 k (by omega))
            · unfold tWindow
              rw [if_pos h1, if_pos h2, if_neg (by omega)]
              simp
    · refine Ev.ret fun k => ?_
      rw [if_neg h2]
      unfold tWindow
      rw [if_pos h1, if_neg h2]
  · refine Ev.ret fun k => ?_
    rw [if_neg h1]
    unfold tWindow
    rw [if_neg h1]

end Go.Proofs.Ytkeclgfnlpkjeaa.Plain
