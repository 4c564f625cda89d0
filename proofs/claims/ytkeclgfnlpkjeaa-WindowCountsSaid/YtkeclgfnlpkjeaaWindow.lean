/- What windows come to, in both texts, over lists of whole numbers. -/
import Derived.Test.YtkeclgfnlpkjeaaTensorRef
import Derived.Test.YtkeclgfnlpkjeaaPlaces
import Derived.Test.YtkeclgfnlpkjeaaFoldWays
import Derived.Test.YtkeclgfnlpkjeaaQx10
import Derived.Test.YtkeclgfnlpkjeaaQx14
import Derived.Test.YtkeclgfnlpkjeaaQx15
import Derived.Test.YtkeclgfnlpkjeaaQx16
import Derived.Test.YtkeclgfnlpkjeaaQx17
namespace Go.Proofs.Ytkeclgfnlpkjeaa.Plain
open Go.RowKit Go.Proofs.YtkeclgfnlpkjeaaW.PrintWords Go.Proofs.Ytkeclgfnlpkjeaa.Q

/-! ### Made by an answer that grows with the rounds -/
theorem made_ev_k (φ : Nat → List Int → Option Int) (s : List Int) (g : List Int → Int) (hm : ∀ k p, LeO (φ k p) (φ (k + 1) p)) (hφ : ∀ i : Nat, (i : Int) < sSize s → Ev (fun k => φ k (plc s i)) (g (plc s i))) (hs : s.length < 17592186044416) :
    Ev (fun k => tensor_Made.f (φ k) k s) (s, madeOf s g) := by
  have hz := size_range s
  have all : ∀ n : Nat, ∃ K, ∀ i : Nat, i < n → (i : Int) < sSize s → ∀ k, K ≤ k → φ k (plc s i) = some (g (plc s i)) := by
    intro n
    induction n with
    | zero => exact ⟨0, fun i hi => absurd hi (by omega)⟩
    | succ n ih =>
      obtain ⟨K, hK⟩ := ih
      by_cases hn : (n : Int) < sSize s
      · obtain ⟨K2, hK2⟩ := hφ n hn
        refine ⟨max K K2, fun i hi hlt k hk => ?_⟩
        by_cases h : i = n
        · subst h; exact hK2 k (by omega)
        · exact hK i (by omega) hlt k (by omega)
      · exact ⟨K, fun i hi hlt k hk => hK i (by omega) hlt k hk⟩
  obtain ⟨K, hK⟩ := all (sSize s).toNat
  obtain ⟨K2, hK2⟩ := made_ev (φ K) s g (fun i hi => hK i (by omega) hi K (Nat.le_refl _)) hs
  have up : ∀ d p, LeO (φ K p) (φ (K + d) p) := by
    intro d p
    induction d with
    | zero => exact LeO.refl _
    | succ d ih => exact ih.trans (hm (K + d) p)
  refine ⟨max K K2, fun k hk => ?_⟩
  obtain ⟨d, rfl⟩ : ∃ d, k = K + d := ⟨k - K, by omega⟩
  exact window_Made.le (up d) (K + d) s _ (hK2 (K + d) (by omega))

/-! ### Numbers of windows -/
def okW (n : Int) : Bool := decide (1 ≤ n) && decide (n ≤ 32)
theorem okW_iff {n : Int} : okW n = true ↔ 1 ≤ n ∧ n ≤ 32 := by simp [okW]
theorem window_within_is (n : Int) : window_within.f n = some (okW n) := by
  unfold window_within.f okW
  by_cases h : n ≥ 1
  · have h1 : 1 ≤ n := h
    rw [if_pos h]; simp [h1]
  · have h1 : ¬ 1 ≤ n := h
    rw [if_neg h]; simp [h1]
theorem window_May_is (how wide apart : Int) : window_May.f how wide apart = some (okHow how && (okW wide && okW apart)) := by
  unfold window_May.f
  rw [fold_Right_is, window_within_is, window_within_is]
  cases okHow how <;> cases okW wide <;> cases okW apart <;> simp

def outW (n wide apart : Int) : Int := if n < 0 then 0 else (if wide < 1 then 0 else (if apart < 1 then 0 else (if wide > n then 0 else wrap64 (wrap64 (Int.tdiv (wrap64 (n - wide)) apart) + 1))))
theorem window_Out_is (n wide apart : Int) : window_Out.f n wide apart = some (outW n wide apart) := by
  unfold window_Out.f outW
  by_cases h1 : n < 0
  · rw [if_pos h1, if_pos h1]
  · rw [if_neg h1, if_neg h1]
    by_cases h2 : wide < 1
    · rw [if_pos h2, if_pos h2]
    · rw [if_neg h2, if_neg h2]
      by_cases h3 : apart < 1
      · rw [if_pos h3, if_pos h3]
      · rw [if_neg h3, if_neg h3]
        by_cases h4 : wide > n
        · rw [if_pos h4, if_pos h4]
        · rw [if_neg h4, if_neg h4, if_neg (by omega)]
theorem ref_Windows_is (n wide apart : Int) : parquetryref4_Windows.f n wide apart = some (outW n wide apart) := window_Out_is n wide apart

theorem outW_range {n wide apart : Int} (h0 : 0 ≤ n) (hn : n ≤ 32) (hw : 1 ≤ wide) (ha : 1 ≤ apart) : 0 ≤ outW n wide apart ∧ outW n wide apart ≤ n ∧ ∀ j, 0 ≤ j → j < outW n wide apart → j * apart + wide ≤ n := by
  unfold outW
  rw [if_neg (by omega), if_neg (by omega), if_neg (by omega)]
  by_cases h4 : wide > n
  · rw [if_pos h4]
    exact ⟨by omega, by omega, fun j _ _ => by omega⟩
  · rw [if_neg h4, w64 (n := n - wide) (by omega) (by omega), Int.tdiv_eq_ediv_of_nonneg (by omega)]
    have d0 : 0 ≤ (n - wide) / apart := Int.ediv_nonneg (by omega) (by omega)
    have d1 : (n - wide) / apart ≤ n - wide := Int.ediv_le_self _ (by omega)
    rw [w64 (n := (n - wide) / apart) (by omega) (by omega), w64 (by omega) (by omega)]
    refine ⟨by omega, by omega, fun j hj0 hj => ?_⟩
    have h1 : j * apart ≤ (n - wide) / apart * apart := Int.mul_le_mul_of_nonneg_right (by omega) (by omega)
    have h2 := Int.ediv_mul_le (n - wide) (show apart ≠ 0 by omega)
    omega

/-! ### One window -/
/-- From number k on, m numbers along the axis, behind first. -/
def winAt (how : Int) (s d p : List Int) (axis : Nat) (first : Int) : Nat → Nat → Int → Int
  | _, 0, v => v
  | k, m + 1, v => winAt how s d p axis first (k + 1) m (stepOf how v (rd d (sIndex s (p.set axis (first + (k : Int))))))

theorem window_Each_l0 (how : Int) (s d p : List Int) (axis : Nat) (first : Int) (wide : Nat) (hr : tRight s d = true) (hax : axis < p.length) (hf0 : 0 ≤ first) (hf1 : first ≤ 4096) (hw : wide ≤ 32)
    (hin : ∀ k : Nat, k < wide → within s (p.set axis (first + (k : Int)))) (m : Nat) : ∀ (k : Nat) (q : List Int) (v : Int), k + m = wide → q.length = p.length → (∀ y : Int, q.set axis y = p.set axis y) →
    ∃ q', Ev (fun n => window_Each.l0 n q v first (wide : Int) (k : Int) how (axis : Int) s d) (winAt how s d p axis first k m v, q') := by
  induction m with
  | zero =>
    intro k q v hk hl hq
    refine ⟨q, Ev.one fun n => ?_⟩
    simp only [window_Each.l0]
    rw [if_neg (by omega)]
    rfl
  | succ m ih =>
    intro k q v hk hl hq
    have hw2 := hin k (by omega)
    have hsr := (tRight_iff.1 hr).1
    have hI := within_sIndex hsr hw2
    obtain ⟨q', hq'⟩ := ih (k + 1) (p.set axis (first + (k : Int))) (stepOf how v (rd d (sIndex s (p.set axis (first + (k : Int)))))) (by omega) (by simp) (fun y => by rw [List.set_set])
    refine ⟨q', Ev.step (f := fun n => (tensor_Get.f n s d (p.set axis (first + (k : Int)))).bind fun bt => (fold_Step.f how v bt.1).bind fun t => window_Each.l0 n (p.set axis (first + (k : Int))) t first (wide : Int) (((k + 1 : Nat) : Nat) : Int) how (axis : Int) s d) (fun n => ?_) ?_⟩
    · simp only [window_Each.l0]
      rw [if_pos (by omega), if_pos (by omega), if_pos (by omega), w64 (n := first + (k : Int)) (by omega) (by omega), wsucc _ (by omega), Int.toNat_natCast, hq]
      simp only [Option.bind_some]
    · refine Ev.bind (tensor_Get_ev s d _) ?_
      have hg : tGet s d (p.set axis (first + (k : Int))) = (rd d (sIndex s (p.set axis (first + (k : Int)))), true) := by
        have hp : tPlace s d (p.set axis (first + (k : Int))) = sIndex s (p.set axis (first + (k : Int))) := by unfold tPlace; rw [if_pos hr]
        unfold tGet
        rw [hp, if_neg (by omega)]
      rw [hg]
      exact Ev.congr (fun n => by rw [fold_Step_is]; rfl) hq'

end Go.Proofs.Ytkeclgfnlpkjeaa.Plain
