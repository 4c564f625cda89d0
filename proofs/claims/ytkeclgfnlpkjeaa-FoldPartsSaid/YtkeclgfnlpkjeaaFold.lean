/- What folding comes to, in both texts, over lists of whole numbers. -/
import Derived.Test.YtkeclgfnlpkjeaaTensorRef
import Derived.Test.YtkeclgfnlpkjeaaPlaces
import Derived.Test.YtkeclgfnlpkjeaaFoldWays
import Derived.Test.YtkeclgfnlpkjeaaQx4
import Derived.Test.YtkeclgfnlpkjeaaQx25
import Derived.Test.YtkeclgfnlpkjeaaQx26
import Derived.Test.YtkeclgfnlpkjeaaQx27
namespace Go.Proofs.Ytkeclgfnlpkjeaa.Plain
open Go.RowKit Go.Proofs.YtkeclgfnlpkjeaaW.PrintWords Go.Proofs.Ytkeclgfnlpkjeaa.Q

/-! ### Axes that rise -/
def risen (n : Int) : Int → List Int → Bool
  | _, [] => true
  | last, x :: xs => !decide (x ≤ last) && (!decide (n ≤ x) && risen n x xs)

theorem risen_cons {n last x : Int} {xs : List Int} (h : risen n last (x :: xs) = true) : last < x ∧ x < n ∧ risen n x xs = true := by
  simp only [risen, Bool.and_eq_true, Bool.not_eq_true', decide_eq_false_iff_not] at h
  exact ⟨by omega, by omega, h.2.2⟩

theorem risen_mem {n : Int} (xs : List Int) : ∀ {last : Int}, risen n last xs = true → ∀ x ∈ xs, last < x ∧ x < n := by
  induction xs with
  | nil => intro _ _ x hx; simp at hx
  | cons y ys ih =>
    intro last h x hx
    obtain ⟨h1, h2, h3⟩ := risen_cons h
    rcases List.mem_cons.1 hx with rfl | hx
    · exact ⟨h1, h2⟩
    · have := ih h3 x hx
      omega

theorem axes_Rising_l0 (n : Int) (post : List Int) : ∀ (pre : List Int) (last : Int), (pre ++ post).length < 9223372036854775807 →
    Ev (fun k => axes_Rising.l0 k n last (pre ++ post) ((pre ++ post).length : Int) (pre.length : Int)) (risen n last post) := by
  induction post with
  | nil =>
    intro pre last hl
    refine Ev.one fun k => ?_
    simp only [axes_Rising.l0]
    rw [if_neg (by simp)]
    rfl
  | cons x xs ih =>
    intro pre last hl
    have hlen := len_mid pre x xs
    by_cases h1 : x ≤ last
    · refine Ev.one fun k => ?_
      simp only [axes_Rising.l0]
      rw [if_pos (by omega), if_pos (by omega), if_pos (by omega), rd_mid, if_pos h1]
      simp [risen, h1]
    · by_cases h2 : x ≥ n
      · refine Ev.one fun k => ?_
        simp only [axes_Rising.l0]
        rw [if_pos (by omega), if_pos (by omega), if_pos (by omega), rd_mid, if_neg h1, if_pos h2]
        have h3 : n ≤ x := h2
        simp [risen, h3]
      · have h3 : ¬ n ≤ x := h2
        refine Ev.cast (Ev.step (f := fun k => axes_Rising.l0 k n x (pre ++ [x] ++ xs) ((pre ++ [x] ++ xs).length : Int) ((pre ++ [x]).length : Int)) (fun k => ?_) (ih (pre ++ [x]) x (by simpa using hl))) ?_
        · simp only [axes_Rising.l0]
          rw [if_pos (by omega), if_pos (by omega), if_pos (by omega), rd_mid, if_neg h1, if_neg h2, wsucc _ (by omega)]
          simp
        · simp [risen, h1, h3]

theorem axes_Rising_ev (a : List Int) (n : Int) (ha : a.length < 9223372036854775807) : Ev (fun k => axes_Rising.f k a n) (risen n (-1) a) := by
  unfold axes_Rising.f
  simpa using axes_Rising_l0 n a [] (-1) (by simpa using ha)

/-! ### What is left without some axes -/
def leftOf (a : List Int) : Int → List Int → List Int
  | _, [] => []
  | i, x :: xs => if i ∈ a then leftOf a (i + 1) xs else x :: leftOf a (i + 1) xs

theorem leftOf_tail (y : Int) (a xs : List Int) : ∀ i : Int, y < i → leftOf (y :: a) i xs = leftOf a i xs := by
  induction xs with
  | nil => intro i _; rfl
  | cons x xs ih =>
    intro i hi
    simp only [leftOf]
    rw [ih (i + 1) (by omega)]
    have : i ∈ y :: a ↔ i ∈ a := by
      rw [List.mem_cons]
      exact ⟨fun h => h.resolve_left (by omega), .inr⟩
    simp only [this]

theorem leftOf_length (a xs : List Int) : ∀ i : Int, (leftOf a i xs).length ≤ xs.length := by
  induction xs with
  | nil => intro i; simp [leftOf]
  | cons x xs ih =>
    intro i
    simp only [leftOf]
    have := ih (i + 1)
    by_cases h : i ∈ a
    · rw [if_pos h]; simp only [List.length_cons]; omega
    · rw [if_neg h]; simp only [List.length_cons]; omega

theorem fold_Left_l0 (n : Int) (post : List Int) : ∀ (pre a acc : List Int) (last : Int), risen n last a = true → (∀ x ∈ a, (pre.length : Int) ≤ x) → (pre ++ post).length ≤ 4 → acc.length ≤ pre.length →
    Ev (fun k => fold_Left.l0 k a acc (pre ++ post) ((pre ++ post).length : Int) (pre.length : Int)) (acc ++ leftOf a (pre.length : Int) post, 0) := by
  induction post with
  | nil =>
    intro pre a acc last hr ha hl hacc
    refine Ev.one fun k => ?_
    simp only [fold_Left.l0]
    rw [if_neg (by simp)]
    simp [leftOf]
  | cons x xs ih =>
    intro pre a acc last hr ha hl hacc
    have hlen := len_mid pre x xs
    have hl' : (pre ++ [x] ++ xs).length ≤ 4 := by simpa using hl
    have hpl : pre.length < 4 := by simp only [List.length_append, List.length_cons] at hl; omega
    have hnext : ((pre ++ [x]).length : Int) = (pre.length : Int) + 1 := by simp
    cases a with
    | nil =>
      have := ih (pre ++ [x]) [] (acc ++ [x]) last hr (by simp) hl' (by simp; omega)
      refine Ev.cast (Ev.step (f := fun k => fold_Left.l0 k [] (acc ++ [x]) (pre ++ [x] ++ xs) ((pre ++ [x] ++ xs).length : Int) ((pre ++ [x]).length : Int)) (fun k => ?_) this) ?_
      · simp only [fold_Left.l0]
        rw [if_pos (by omega), if_pos (by omega), if_pos (by omega), if_neg (by simp), if_pos (by omega), rd_mid, wsucc _ (by omega)]
        simp
      · rw [hnext]
        simp [leftOf]
    | cons y t =>
      obtain ⟨h1, h2, h3⟩ := risen_cons hr
      have hmem := risen_mem t h3
      have hy := ha y (by simp)
      by_cases he : y = (pre.length : Int)
      · have := ih (pre ++ [x]) t acc y h3 (fun z hz => by have := hmem z hz; omega) hl' (by simp; omega)
        refine Ev.cast (Ev.step (f := fun k => fold_Left.l0 k t acc (pre ++ [x] ++ xs) ((pre ++ [x] ++ xs).length : Int) ((pre ++ [x]).length : Int)) (fun k => ?_) this) ?_
        · simp only [fold_Left.l0]
          rw [if_pos (by omega), if_pos (by omega), if_pos (by omega), if_pos (by simp only [List.length_cons]; omega), if_pos (by simp only [List.length_cons]; omega), if_pos (show rd (y :: t) 0 = (pre.length : Int) from he), if_pos (by simp only [List.length_cons]; omega), wsucc _ (by omega)]
          simp
        · rw [hnext]
          simp only [leftOf]
          rw [if_pos (by rw [he]; simp), leftOf_tail y t xs _ (by omega)]
      · have hn : ¬ (pre.length : Int) ∈ y :: t := by
          intro hm
          rcases List.mem_cons.1 hm with h | h
          · exact he h.symm
          · have := hmem _ h; omega
        have := ih (pre ++ [x]) (y :: t) (acc ++ [x]) last hr (fun z hz => by
          rcases List.mem_cons.1 hz with rfl | hz
          · omega
          · have := hmem z hz; omega) hl' (by simp; omega)
        refine Ev.cast (Ev.step (f := fun k => fold_Left.l0 k (y :: t) (acc ++ [x]) (pre ++ [x] ++ xs) ((pre ++ [x] ++ xs).length : Int) ((pre ++ [x]).length : Int)) (fun k => ?_) this) ?_
        · simp only [fold_Left.l0]
          rw [if_pos (by omega), if_pos (by omega), if_pos (by omega), if_pos (by simp only [List.length_cons]; omega), if_pos (by simp only [List.length_cons]; omega), if_neg (show ¬ rd (y :: t) 0 = (pre.length : Int) from he), if_pos (by omega), rd_mid, wsucc _ (by omega)]
          simp
        · rw [hnext]
          simp only [leftOf]
          rw [if_neg hn]
          simp

def tLeft (s a : List Int) : List Int × Int := if risen (s.length : Int) (-1) a then (leftOf a 0 s, 0) else ([], 1)
theorem fold_Left_ev (s a : List Int) (hs : s.length ≤ 4) (ha : a.length < 9223372036854775807) : Ev (fun k => fold_Left.f k s a) (tLeft s a) := by
  unfold fold_Left.f
  refine Ev.bind (axes_Rising_ev a _ ha) ?_
  by_cases h : risen (s.length : Int) (-1) a = true
  · have := fold_Left_l0 (s.length : Int) s [] a [] (-1) h (fun x hx => by have := risen_mem a h x hx; simp; omega) (by simpa using hs) (by simp)
    refine Ev.congr (fun k => by rw [if_pos h]) (Ev.cast (by simpa using this) ?_)
    unfold tLeft
    rw [if_pos h]
  · refine Ev.ret fun k => ?_
    rw [if_neg h]
    unfold tLeft
    rw [if_neg h]

/-! ### Places that lie within -/
theorem within_left (a : List Int) (s : List Int) : ∀ (l : List Int) (j : Int), within s l → within (leftOf a j s) (leftOf a j l) := by
  induction s with
  | nil => intro l j h; cases l with
    | nil => trivial
    | cons _ _ => exact h.elim
  | cons x xs ih => intro l j h; cases l with
    | nil => exact h.elim
    | cons b bs =>
      simp only [leftOf]
      have := ih bs (j + 1) h.2.2
      by_cases hj : j ∈ a
      · rw [if_pos hj, if_pos hj]; exact this
      · rw [if_neg hj, if_neg hj]; exact ⟨h.1, h.2.1, this⟩

/-! ### Folding -/
/-- Where the number of a place goes. -/
def goesTo (s t a : List Int) (i : Int) : Int := sIndex t (leftOf a 0 (plc s i))
def foldRun (how : Int) (s t a : List Int) : Nat → List Int → List Int → List Int
  | _, [], out => out
  | i, x :: xs, out => foldRun how s t a (i + 1) xs (out.set (goesTo s t a (i : Int)).toNat (stepOf how (rd out (goesTo s t a (i : Int))) x))

def tFold (how : Int) (s d a : List Int) : List Int × List Int × Int :=
  if okHow how then (if tRight s d then (if risen (s.length : Int) (-1) a then (if sRight (leftOf a 0 s) then (leftOf a 0 s, foldRun how s (leftOf a 0 s) a 0 d (List.replicate (sSize (leftOf a 0 s)).toNat (noneOf how)), 0) else ([], [], 13)) else ([], [], 1)) else ([], [], 13)) else ([], [], 1)

theorem goesTo_in {s t a d : List Int} {i : Int} (hr : tRight s d = true) (ht : t = leftOf a 0 s) (htr : sRight t = true) (h0 : 0 ≤ i) (h1 : i < (d.length : Int)) : 0 ≤ goesTo s t a i ∧ goesTo s t a i < sSize t := by
  obtain ⟨_, hd⟩ := size_dims (s := s) h0 (by have := (tRight_iff.1 hr).2; omega)
  subst ht
  exact within_sIndex htr (within_left a s _ 0 (within_plc s hd i))

theorem fold_Do_l0 (how : Int) (s t a d : List Int) (hr : tRight s d = true) (ht : t = leftOf a 0 s) (htr : sRight t = true) (hris : risen (s.length : Int) (-1) a = true) (ha : a.length < 9223372036854775807)
    (post : List Int) : ∀ (pre out : List Int), pre ++ post = d → (out.length : Int) = sSize t →
    Ev (fun k => fold_Do.l0 k a t d (d.length : Int) (pre.length : Int) how s d t out) (t, foldRun how s t a pre.length post out, 0) := by
  have hs4 := right_len (tRight_iff.1 hr).1
  have hz := size_range s
  have hdl := (tRight_iff.1 hr).2
  induction post with
  | nil =>
    intro pre out hp hout
    refine Ev.one fun k => ?_
    simp only [fold_Do.l0]
    rw [if_neg (by have : d.length = pre.length := by rw [← hp]; simp
                   omega)]
    rfl
  | cons x xs ih =>
    intro pre out hp hout
    have hlen : d.length = pre.length + 1 + xs.length := by rw [← hp]; simp; omega
    have hrd : rd d (pre.length : Int) = x := by rw [← hp]; exact rd_mid pre x xs
    have hg := goesTo_in (i := (pre.length : Int)) hr ht htr (by omega) (by omega)
    have := ih (pre ++ [x]) (out.set (goesTo s t a (pre.length : Int)).toNat (stepOf how (rd out (goesTo s t a (pre.length : Int))) x)) (by simpa using hp) (by simpa using hout)
    refine Ev.cast (r := (t, foldRun how s t a (pre ++ [x]).length xs (out.set (goesTo s t a (pre.length : Int)).toNat (stepOf how (rd out (goesTo s t a (pre.length : Int))) x)), 0)) (Ev.step (f := fun k => (shape_Place.f k s (pre.length : Int)).bind fun p => (fold_Left.f k p a).bind fun bt => (shape_Index.f k t bt.1).bind fun j => if 0 ≤ j then (if j < (out.length : Int) then ((fold_Step.f how (rd out j) x).bind fun v => fold_Do.l0 k a t d (d.length : Int) (((pre ++ [x]).length : Nat) : Int) how s d t (out.set (j : Int).toNat v)) else none) else none) (fun k => ?_) ?_) (by simp [foldRun])
    · simp only [fold_Do.l0]
      rw [if_pos (by omega), if_pos (by omega), if_pos (by omega), hrd, wsucc _ (by omega)]
      simp
    · refine Ev.bind (shape_Place_ev s _) ?_
      rw [sPlace_in (by omega) (by omega)]
      refine Ev.bind (fold_Left_ev _ a (by rw [plc_length]; exact hs4) ha) ?_
      have hl : tLeft (plc s (pre.length : Int)) a = (leftOf a 0 (plc s (pre.length : Int)), 0) := by
        unfold tLeft
        rw [plc_length, if_pos hris]
      rw [hl]
      refine Ev.bind (shape_Index_ev t _) ?_
      refine Ev.congr (fun k => ?_) this
      show (if 0 ≤ goesTo s t a (pre.length : Int) then _ else _) = _
      rw [if_pos hg.1]
      show (if goesTo s t a (pre.length : Int) < _ then _ else _) = _
      rw [if_pos (by omega)]
      show (fold_Step.f how (rd out (goesTo s t a (pre.length : Int))) x).bind _ = _
      rw [fold_Step_is]
      rfl

theorem fold_Do_ev (how : Int) (s d a : List Int) (ha : a.length < 9223372036854775807) : Ev (fun k => fold_Do.f k how s d a) (tFold how s d a) := by
  unfold fold_Do.f
  simp only [fold_Right_is, Option.bind_some]
  by_cases h1 : okHow how = true
  · refine Ev.congr (fun k => by rw [if_pos h1]) (Ev.bind (tensor_Right_ev s d) ?_)
    by_cases h2 : tRight s d = true
    · have hs4 := right_len (tRight_iff.1 h2).1
      refine Ev.congr (fun k => by rw [if_pos h2]) (Ev.bind (fold_Left_ev s a hs4 ha) ?_)
      by_cases h3 : risen (s.length : Int) (-1) a = true
      · have hl : tLeft s a = (leftOf a 0 s, 0) := by unfold tLeft; rw [if_pos h3]
        rw [hl]
        refine Ev.congr (fun k => by rw [if_pos rfl]) (Ev.bind (shape_Right_ev _) ?_)
        have hll := leftOf_length a s 0
        by_cases h4 : sRight (leftOf a 0 s) = true
        · have hz := size_range (leftOf a 0 s)
          refine Ev.congr (fun k => by rw [if_pos h4]) ?_
          refine Ev.bind (g := fun k => fold_Made.f k (leftOf a 0 s) how) (made_ev (fun _ => fold_None.f how) (leftOf a 0 s) (fun _ => noneOf how) (fun _ _ => fold_None_is how) (by omega)) ?_
          rw [madeOf_const]
          refine Ev.cast (fold_Do_l0 how s (leftOf a 0 s) a d h2 rfl h4 h3 ha d [] _ rfl (by simp; omega)) ?_
          unfold tFold
          rw [if_pos h1, if_pos h2, if_pos h3, if_pos h4]
          rfl
        · refine Ev.ret fun k => ?_
          rw [if_neg h4]
          unfold tFold
          rw [if_pos h1, if_pos h2, if_pos h3, if_neg h4]
      · have hl : tLeft s a = ([], 1) := by unfold tLeft; rw [if_neg h3]
        rw [hl]
        refine Ev.ret fun k => ?_
        rw [if_neg (by decide)]
        unfold tFold
        rw [if_pos h1, if_pos h2, if_neg h3]
    · refine Ev.ret fun k => ?_
      rw [if_neg h2]
      unfold tFold
      rw [if_pos h1, if_neg h2]
  · refine Ev.ret fun k => ?_
    rw [if_neg h1]
    unfold tFold
    rw [if_neg h1]

end Go.Proofs.Ytkeclgfnlpkjeaa.Plain
