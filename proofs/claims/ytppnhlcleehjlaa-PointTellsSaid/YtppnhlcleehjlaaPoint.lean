/- What the reckoning number by number comes to, in both texts. -/
import Derived.Test.YtppnhlcleehjlaaTensorRef
import Derived.Test.YtppnhlcleehjlaaShape2
import Derived.Test.YtppnhlcleehjlaaQx1
import Derived.Test.YtppnhlcleehjlaaQx2
import Derived.Test.YtppnhlcleehjlaaQx3
import Derived.Test.YtppnhlcleehjlaaQx7
import Derived.Test.YtppnhlcleehjlaaQx8
import Derived.Test.YtppnhlcleehjlaaQx9
namespace Go.Proofs.Ytppnhlcleehjlaa.Plain
open Go.RowKit Go.Proofs.YtppnhlcleehjlaaW.PrintWords Go.Proofs.Ytppnhlcleehjlaa.Q

theorem rd_ext {a b : List Int} (hl : a.length = b.length) (h : ∀ i : Nat, i < a.length → rd a (i : Int) = rd b (i : Int)) : a = b := by
  refine List.ext_getElem hl fun i h1 h2 => ?_
  rw [← rd_nat a i h1, ← rd_nat b i h2]
  exact h i h1

/-! ### One number -/
def stepP (op a b : Int) : Int := if op = 4 then wrap64 (-a) else (if op = 5 then (if a = 0 then 1 else 0) else (if op = 6 then wrap64 (a + b) else (if op = 7 then wrap64 (a - b) else (if op = 8 then wrap64 (a * b) else (if op = 9 then mn a b else (if op = 10 then mx a b else (if op = 11 then (if a < b then 1 else 0) else 0)))))))
theorem point_Step_is (op a b : Int) : point_Step.f op a b = some (stepP op a b) := by
  unfold point_Step.f stepP point_bit.f
  by_cases h4 : op = 4
  · rw [if_pos h4, if_pos h4]
  · rw [if_neg h4, if_neg h4]
    by_cases h5 : op = 5
    · rw [if_pos h5, if_pos h5]
      by_cases h : a = 0
      · simp [h]
      · simp [h]
    · rw [if_neg h5, if_neg h5]
      by_cases h6 : op = 6
      · rw [if_pos h6, if_pos h6]
      · rw [if_neg h6, if_neg h6]
        by_cases h7 : op = 7
        · rw [if_pos h7, if_pos h7]
        · rw [if_neg h7, if_neg h7]
          by_cases h8 : op = 8
          · rw [if_pos h8, if_pos h8]
          · rw [if_neg h8, if_neg h8]
            by_cases h9 : op = 9
            · rw [if_pos h9, if_pos h9]
            · rw [if_neg h9, if_neg h9]
              by_cases h10 : op = 10
              · rw [if_pos h10, if_pos h10]
              · rw [if_neg h10, if_neg h10]
                by_cases h11 : op = 11
                · rw [if_pos h11, if_pos h11]
                  by_cases h : a < b
                  · simp [h]
                  · simp [h]
                · rw [if_neg h11, if_neg h11]

/-! ### Tensors that fit -/
def goodT (s0 : List Int) (t : S27) : Bool := tRight t.f0 t.f1 && decide (t.f0 = s0)
theorem rd_T27_mid (pre : List S27) (x : S27) (post : List S27) : rd_T27 (pre ++ x :: post) (pre.length : Int) = x := by
  unfold rd_T27
  simp

theorem point_fits_ev (t : S27) (l : List S27) (hl : 0 < l.length) : Ev (fun k => point_fits.f k t.f0 t.f1 l) (!(goodT (rd_T27 l 0).f0 t)) := by
  unfold point_fits.f
  refine Ev.bind (tensor_Right_ev t.f0 t.f1) ?_
  by_cases h : tRight t.f0 t.f1 = true
  · have h4 := right_len (tRight_iff.1 h).1
    refine Ev.congr (fun k => by rw [if_pos h, if_pos (by omega)]) (Ev.bind (shape_Same_ev _ _ (by omega)) (Ev.ret fun k => ?_))
    unfold goodT
    rw [h]
    simp
  · refine Ev.ret fun k => ?_
    rw [if_neg h]
    unfold goodT
    have : tRight t.f0 t.f1 = false := by simpa using h
    rw [this]
    simp

theorem fit_Index_l0 (l : List S27) (hl : 0 < l.length) (post : List S27) : ∀ pre : List S27, (pre ++ post).length < 1000 → ∃ r, Ev (fun k => fit_Index.l0 k (pre ++ post) l ((pre ++ post).length : Int) (pre.length : Int)) r ∧ decide (r ≥ 0) = !(post.all (goodT (rd_T27 l 0).f0)) := by
  induction post with
  | nil =>
    intro pre hlen
    refine ⟨-1, Ev.one fun k => ?_, by simp⟩
    simp only [fit_Index.l0]
    rw [if_neg (by simp)]
  | cons t post ih =>
    intro pre hlen
    have e := rd_T27_mid pre t post
    have hlt : (pre.length : Int) < ((pre ++ t :: post).length : Int) := by simp; omega
    have hp : pre.length < 1000 := by simp at hlen; omega
    by_cases hg : goodT (rd_T27 l 0).f0 t = true
    · obtain ⟨r, hr, hd⟩ := ih (pre ++ [t]) (by simpa using hlen)
      refine ⟨r, ?_, by rw [hd]; simp [hg]⟩
      have e2 : ((pre ++ [t]).length : Int) = ((pre.length + 1 : Nat) : Int) := by simp
      rw [← app_snoc, e2] at hr
      refine Ev.step (f := fun k => (point_fits.f k t.f0 t.f1 l).bind fun u => if u = true then some (pre.length : Int) else fit_Index.l0 k (pre ++ t :: post) l ((pre ++ t :: post).length : Int) ((pre.length + 1 : Nat) : Int)) (fun k => ?_) ?_
      · simp only [fit_Index.l0]
        rw [if_pos hlt, if_pos (by omega), if_pos hlt, e, wsucc _ (by omega)]
      · refine Ev.bind (point_fits_ev t l hl) (Ev.congr (fun k => ?_) hr)
        rw [hg]
        rw [if_neg (by decide)]
    · refine ⟨(pre.length : Int), ?_, ?_⟩
      · refine Ev.step (f := fun k => (point_fits.f k t.f0 t.f1 l).bind fun u => if u = true then some (pre.length : Int) else fit_Index.l0 k (pre ++ t :: post) l ((pre ++ t :: post).length : Int) ((pre.length + 1 : Nat) : Int)) (fun k => ?_) ?_
        · simp only [fit_Index.l0]
          rw [if_pos hlt, if_pos (by omega), if_pos hlt, e, wsucc _ (by omega)]
        · have hf : goodT (rd_T27 l 0).f0 t = false := by simpa using hg
          refine Ev.bind (point_fits_ev t l hl) (Ev.ret fun k => ?_)
          rw [hf]
          rw [if_pos (by decide)]
      · have hf : goodT (rd_T27 l 0).f0 t = false := by simpa using hg
        simp [hf]

theorem point_fit_ev (l : List S27) (hl : 0 < l.length) (hl2 : l.length < 1000) : Ev (fun k => point_fit.f k l) (l.all (goodT (rd_T27 l 0).f0)) := by
  obtain ⟨r, hr, hd⟩ := fit_Index_l0 l hl l [] (by simpa using hl2)
  unfold point_fit.f fit_Contains.f fit_Index.f
  refine Ev.bind (a := decide (r ≥ 0)) (Ev.bind hr (Ev.ret fun k => rfl)) (Ev.ret fun k => ?_)
  rw [hd]
  simp

/-! ### Loops that fill a row -/
def rowOf (n : Nat) (f : Nat → Int) : List Int := (List.range n).map f
theorem rowOf_length (n : Nat) (f : Nat → Int) : (rowOf n f).length = n := by simp [rowOf]
theorem rd_row (n : Nat) (f : Nat → Int) (i : Nat) (h : i < n) : rd (rowOf n f) (i : Int) = f i := by
  rw [rd_nat _ i (by simpa [rowOf] using h)]
  simp [rowOf]
theorem loop_fill {α : Type} (f init : Nat → Int) (n : Nat) (g : Nat → List Int → Nat → Option α) (R : α) (hend : Ev (g n (rowOf n f)) R)
    (hstep : ∀ i out, i < n → out.length = n → (∀ j : Nat, i ≤ j → j < n → rd out (j : Int) = init j) → ∀ k, g i out (k + 1) = g (i + 1) (out.set i (f i)) k) (m : Nat) :
    ∀ i out, i + m = n → out.length = n → (∀ j : Nat, j < i → rd out (j : Int) = f j) → (∀ j : Nat, i ≤ j → j < n → rd out (j : Int) = init j) → Ev (g i out) R := by
  induction m with
  | zero =>
    intro i out hi hl h1 h2
    have e : out = rowOf n f := rd_ext (by rw [rowOf_length, hl]) fun j hj => by rw [h1 j (by omega), rd_row n f j (by omega)]
    rw [e, show i = n by omega]
    exact hend
  | succ m ih =>
    intro i out hi hl h1 h2
    refine Ev.step (f := g (i + 1) (out.set i (f i))) (fun k => hstep i out (by omega) hl h2 k) (ih (i + 1) _ (by omega) (by simpa using hl) (fun j hj => ?_) (fun j hj hn => ?_))
    · rw [rd_set _ _ _ _ (by omega)]
      by_cases h : i = j
      · rw [if_pos h, h]
      · rw [if_neg h]; exact h1 j (by omega)
    · rw [rd_set _ _ _ _ (by omega), if_neg (by omega)]
      exact h2 j (by omega) hn

/-! ### One, Two, Pick -/
def fit2 (s d s2 d2 : List Int) : Bool := tRight s d && (tRight s2 d2 && decide (s2 = s))
def tTwoAt (op : Int) (s d d2 : List Int) : List Int × List Int × Int := (s, rowOf d.length (fun i => stepP op (rd d (i : Int)) (rd d2 (i : Int))), 0)
def tEach (op : Int) (s d s2 d2 : List Int) : List Int × List Int × Int := if fit2 s d s2 d2 = true then tTwoAt op s d d2 else ([], [], 13)
theorem fit2_is (s d s2 d2 : List Int) : ([(⟨s, d⟩ : S27), (⟨s2, d2⟩ : S27)].all (goodT (rd_T27 [(⟨s, d⟩ : S27), (⟨s2, d2⟩ : S27)] 0).f0)) = fit2 s d s2 d2 := by
  simp [rd_T27, goodT, fit2]
theorem fit2_len {s d s2 d2 : List Int} (h : fit2 s d s2 d2 = true) : s2 = s ∧ d2.length = d.length ∧ d.length ≤ 4096 ∧ tRight s d = true := by
  simp only [fit2, Bool.and_eq_true, decide_eq_true_eq] at h
  obtain ⟨h1, h2, rfl⟩ := h
  have a := (tRight_iff.1 h1).2
  have b := (tRight_iff.1 h2).2
  have c := size_range s2
  exact ⟨rfl, by omega, by omega, h1⟩

theorem point_each_ev (op : Int) (s d s2 d2 : List Int) (hs : s.length < 17592186044416) (hd : d.length < 17592186044416) : Ev (fun k => point_each.f k op s d s2 d2) (tEach op s d s2 d2) := by
  unfold point_each.f tEach
  refine Ev.bind (point_fit_ev _ (by simp) (by simp)) ?_
  rw [fit2_is]
  by_cases h : fit2 s d s2 d2 = true
  · obtain ⟨rfl, hl, h4, _⟩ := fit2_len h
    rw [if_pos h]
    refine Ev.congr (f := fun k => point_each.l0 k op d2 (d2.length : Int) 0 s2 d s2 d) (fun k => ?_) ?_
    · rw [if_pos h, tensor_Copy_is s2 d hs hd]
      rfl
    · unfold tTwoAt
      refine loop_fill (fun i => stepP op (rd d (i : Int)) (rd d2 (i : Int))) (fun i => rd d (i : Int)) d.length (fun i out k => point_each.l0 k op d2 (d2.length : Int) (i : Int) s2 d s2 out) _ (Ev.one fun k => ?_) (fun i out hi hlo _ k => ?_) d.length 0 d (by omega) rfl (fun j hj => absurd hj (by omega)) (fun j _ _ => rfl)
      · simp only [point_each.l0]
        rw [if_neg (by omega)]
      · simp only [point_each.l0]
        rw [if_pos (by omega), if_pos (by omega), if_pos (by omega), if_pos (by omega), point_Step_is, Option.bind_some, if_pos (by omega), wsucc _ (by omega), Int.toNat_natCast]
  · rw [if_neg h]
    refine Ev.ret fun k => ?_
    rw [if_neg h]

def tTwo (op : Int) (s d s2 d2 : List Int) : List Int × List Int × Int := if op < 6 ∨ 11 < op then ([], [], 1) else tEach op s d s2 d2
def tOne (op : Int) (s d : List Int) : List Int × List Int × Int := if op = 4 ∨ op = 5 then tEach op s d s d else ([], [], 1)

theorem point_Two_ev (op : Int) (s d s2 d2 : List Int) (hs : s.length < 17592186044416) (hd : d.length < 17592186044416) : Ev (fun k => point_Two.f k op s d s2 d2) (tTwo op s d s2 d2) := by
  unfold point_Two.f tTwo
  by_cases h1 : op < 6
  · refine Ev.ret fun k => ?_
    rw [if_pos h1, if_pos (.inl h1)]
  · by_cases h2 : op > 11
    · refine Ev.ret fun k => ?_
      rw [if_neg h1, if_pos h2, if_pos (.inr h2)]
    · rw [if_neg (by omega)]
      refine Ev.congr (fun k => by rw [if_neg h1, if_neg h2]) (Ev.bind (point_each_ev op s d s2 d2 hs hd) (Ev.ret fun k => rfl))

theorem point_One_ev (op : Int) (s d : List Int) (hs : s.length < 17592186044416) (hd : d.length < 17592186044416) : Ev (fun k => point_One.f k op s d) (tOne op s d) := by
  unfold point_One.f tOne
  by_cases h1 : op = 4
  · rw [if_pos (.inl h1)]
    refine Ev.congr (fun k => by rw [if_pos h1]) (Ev.bind (point_each_ev op s d s d hs hd) (Ev.ret fun k => rfl))
  · by_cases h2 : op = 5
    · rw [if_pos (.inr h2)]
      refine Ev.congr (fun k => by rw [if_neg h1, if_pos h2]) (Ev.bind (point_each_ev op s d s d hs hd) (Ev.ret fun k => rfl))
    · refine Ev.ret fun k => ?_
      rw [if_neg h1, if_neg h2, if_neg (by omega)]

def fit3 (s d s1 d1 s2 d2 : List Int) : Bool := tRight s d && ((tRight s1 d1 && decide (s1 = s)) && (tRight s2 d2 && decide (s2 = s)))
def tPick (s d s1 d1 s2 d2 : List Int) : List Int × List Int × Int := if fit3 s d s1 d1 s2 d2 = true then (s, rowOf d.length (fun i => if rd d (i : Int) = 0 then rd d2 (i : Int) else rd d1 (i : Int)), 0) else ([], [], 13)
theorem fit3_is (s d s1 d1 s2 d2 : List Int) : ([(⟨s, d⟩ : S27), (⟨s1, d1⟩ : S27), (⟨s2, d2⟩ : S27)].all (goodT (rd_T27 [(⟨s, d⟩ : S27), (⟨s1, d1⟩ : S27), (⟨s2, d2⟩ : S27)] 0).f0)) = fit3 s d s1 d1 s2 d2 := by
  simp [rd_T27, goodT, fit3]
theorem fit3_len {s d s1 d1 s2 d2 : List Int} (h : fit3 s d s1 d1 s2 d2 = true) : s1 = s ∧ s2 = s ∧ d1.length = d.length ∧ d2.length = d.length ∧ d.length ≤ 4096 ∧ tRight s d = true := by
  simp only [fit3, Bool.and_eq_true, decide_eq_true_eq] at h
  obtain ⟨h1, ⟨h2, rfl⟩, ⟨h3, rfl⟩⟩ := h
  have a := (tRight_iff.1 h1).2
  have b := (tRight_iff.1 h2).2
  have c := (tRight_iff.1 h3).2
  have e := size_range s2
  exact ⟨rfl, rfl, by omega, by omega, by omega, h1⟩

theorem set_rd (d : List Int) (i : Nat) (h : i < d.length) (z : Int) (hz : rd d (i : Int) = z) : d.set i z = d := by
  rw [← hz, rd_nat d i h]; simp

theorem point_Pick_ev (s d s1 d1 s2 d2 : List Int) (hs : s2.length < 17592186044416) (hd : d2.length < 17592186044416) : Ev (fun k => point_Pick.f k s d s1 d1 s2 d2) (tPick s d s1 d1 s2 d2) := by
  unfold point_Pick.f tPick
  refine Ev.bind (point_fit_ev _ (by simp) (by simp)) ?_
  rw [fit3_is]
  by_cases h : fit3 s d s1 d1 s2 d2 = true
  · obtain ⟨rfl, rfl, hl, hl2, h4, _⟩ := fit3_len h
    rw [if_pos h]
    refine Ev.congr (f := fun k => point_Pick.l0 k d (d.length : Int) 0 s2 d1 s2 d2) (fun k => ?_) ?_
    · rw [if_pos h, tensor_Copy_is s2 d2 hs hd]
      rfl
    · refine loop_fill (fun i => if rd d (i : Int) = 0 then rd d2 (i : Int) else rd d1 (i : Int)) (fun i => rd d2 (i : Int)) d.length (fun i out k => point_Pick.l0 k d (d.length : Int) (i : Int) s2 d1 s2 out) _ (Ev.one fun k => ?_) (fun i out hi hlo hini k => ?_) d.length 0 d2 (by omega) hl2 (fun j hj => absurd hj (by omega)) (fun j _ _ => rfl)
      · simp only [point_Pick.l0]
        rw [if_neg (by omega)]
      · simp only [point_Pick.l0]
        rw [if_pos (by omega), if_pos (by omega), if_pos (by omega)]
        by_cases hz : rd d (i : Int) = 0
        · rw [if_pos hz, if_pos hz, set_rd out i (by omega) _ (hini i (by omega) hi), wsucc _ (by omega)]
        · rw [if_neg hz, if_neg hz, if_pos (by omega), if_pos (by omega), wsucc _ (by omega), Int.toNat_natCast]
  · rw [if_neg h]
    refine Ev.ret fun k => ?_
    rw [if_neg h]

end Go.Proofs.Ytppnhlcleehjlaa.Plain
