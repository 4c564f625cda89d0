/- What the functions of package shape, and of the reference beside it, come to: the plain words of shapes. -/
import Derived.Test.YtapoeleiicnlbaaPlain
import Derived.Test.YtapoeleiicnlbaaQx1
import Derived.Test.YtapoeleiicnlbaaQx5
import Derived.Test.YtapoeleiicnlbaaQx7
import Derived.Test.YtapoeleiicnlbaaQx9
import Derived.Test.YtapoeleiicnlbaaQx14
namespace Go.Proofs.Ytapoeleiicnlbaa.Plain
open Go.RowKit Go.Proofs.YtapoeleiicnlbaaW.PrintWords Go.Proofs.Ytapoeleiicnlbaa.Q

theorem wsucc (n : Nat) (h : n < 9223372036854775807) : wrap64 ((n : Int) + 1) = ((n + 1 : Nat) : Int) := by
  rw [w64 (by omega) (by omega)]; omega

/-- In a short list of dims no product goes round. -/
theorem acc_step {acc x : Int} {n : Nat} (hn : n + 1 ≤ 4) (h0 : 0 ≤ acc) (h1 : acc ≤ 32 ^ n) (hx : okDim x = true) :
    wrap64 (acc * x) = acc * x ∧ 0 ≤ acc * x ∧ acc * x ≤ 32 ^ (n + 1) := by
  have hx' := okDim_iff.1 hx
  have hm := mul_le32 h0 hx'.1 hx'.2
  have hp := pow_le n (by omega)
  refine ⟨w64 (by omega) (by omega), hm.1, ?_⟩
  rw [Int.pow_succ]
  omega

theorem shape_Right_l0 (post : List Int) : ∀ (pre : List Int) (acc : Int), pre.length + post.length ≤ 4 → 0 ≤ acc → acc ≤ 32 ^ pre.length →
    Ev (fun k => shape_Right.l0 k acc (pre ++ post) ((pre ++ post).length : Int) (pre.length : Int)) (post.all okDim && decide (acc * prod post ≤ 4096)) := by
  induction post with
  | nil =>
    intro pre acc hl h0 h1
    refine Ev.one fun k => ?_
    simp only [shape_Right.l0]
    rw [if_neg (by simp)]
    simp [prod]
  | cons x xs ih =>
    intro pre acc hl h0 h1
    simp only [List.length_cons] at hl
    have hlen := len_mid pre x xs
    by_cases hx : okDim x = true
    · have hx' := okDim_iff.1 hx
      obtain ⟨e, e0, e1⟩ := acc_step (n := pre.length) (by omega) h0 h1 hx
      have := ih (pre ++ [x]) (acc * x) (by simp; omega) e0 (by simpa using e1)
      refine Ev.cast (Ev.step (f := fun k => shape_Right.l0 k (acc * x) (pre ++ [x] ++ xs) ((pre ++ [x] ++ xs).length : Int) ((pre ++ [x]).length : Int)) (fun k => ?_) this) ?_
      · simp only [shape_Right.l0]
        rw [if_pos (by omega), if_pos (by omega), if_pos (by omega), rd_mid, if_neg (by omega), if_neg (by omega), e, wsucc _ (by omega), app_snoc]
        simp
      · rw [show acc * x * prod xs = acc * prod (x :: xs) from by simp [prod, Int.mul_assoc]]
        simp [hx]
    · have hx' : x < 0 ∨ 32 < x := by
        have := mt okDim_iff.2 hx; omega
      refine Ev.one fun k => ?_
      simp only [shape_Right.l0]
      rw [if_pos (by omega), if_pos (by omega), if_pos (by omega), rd_mid]
      have hf : okDim x = false := by simpa using hx
      simp only [List.all_cons, hf, Bool.false_and]
      by_cases hn : x < 0
      · rw [if_pos hn]
      · rw [if_neg hn, if_pos (by omega)]

theorem shape_Right_ev (s : List Int) : Ev (fun k => shape_Right.f k s) (sRight s) := by
  by_cases h : s.length ≤ 4
  · refine Ev.congr (f := fun k => shape_Right.l0 k 1 ([] ++ s) (([] ++ s).length : Int) (([] : List Int).length : Int)) (fun k => ?_) (Ev.cast (shape_Right_l0 s [] 1 (by simpa using h) (by decide) (by decide)) ?_)
    · unfold shape_Right.f
      rw [if_neg (by omega)]
      simp
    · simp [sRight, h]
  · refine Ev.ret fun k => ?_
    unfold shape_Right.f
    rw [if_pos (by omega)]
    simp [sRight, h]

theorem ref_Right_l0 (post : List Int) : ∀ (pre : List Int) (acc : Int), pre.length ≤ 4 → (pre ++ post).length < 9223372036854775807 → 0 ≤ acc → acc ≤ 32 ^ pre.length →
    Ev (fun k => parquetryref1_Right.l0 k (pre ++ post) acc (pre.length : Int)) (decide ((pre ++ post).length ≤ 4) && (post.all okDim && decide (acc * prod post ≤ 4096))) := by
  induction post with
  | nil =>
    intro pre acc hp hl h0 h1
    refine Ev.one fun k => ?_
    simp only [parquetryref1_Right.l0]
    rw [if_neg (by simp)]
    simp [prod, hp]
  | cons x xs ih =>
    intro pre acc hp hl h0 h1
    have hlen := len_mid pre x xs
    by_cases hx : okDim x = true
    · have hx' := okDim_iff.1 hx
      by_cases h4 : pre.length < 4
      · obtain ⟨e, e0, e1⟩ := acc_step (n := pre.length) (by omega) h0 h1 hx
        have := ih (pre ++ [x]) (acc * x) (by simp; omega) (by simpa using hl) e0 (by simpa using e1)
        refine Ev.cast (Ev.step (f := fun k => parquetryref1_Right.l0 k (pre ++ [x] ++ xs) (acc * x) ((pre ++ [x]).length : Int)) (fun k => ?_) this) ?_
        · simp only [parquetryref1_Right.l0]
          rw [if_pos (by omega), if_pos (by omega), rd_mid, if_neg (by omega), if_neg (by omega), if_neg (by omega), e, wsucc _ (by omega), app_snoc]
          simp
        · rw [show acc * x * prod xs = acc * prod (x :: xs) from by simp [prod, Int.mul_assoc]]
          simp [hx]
      · refine Ev.one fun k => ?_
        simp only [parquetryref1_Right.l0]
        rw [if_pos (by omega), if_pos (by omega), rd_mid, if_neg (by omega), if_neg (by omega), if_pos (by omega)]
        have : decide ((pre ++ x :: xs).length ≤ 4) = false := by simp; omega
        rw [this, Bool.false_and]
    · have hx' : x < 0 ∨ 32 < x := by
        have := mt okDim_iff.2 hx; omega
      refine Ev.one fun k => ?_
      simp only [parquetryref1_Right.l0]
      rw [if_pos (by omega), if_pos (by omega), rd_mid]
      have hf : okDim x = false := by simpa using hx
      simp only [List.all_cons, hf, Bool.false_and, Bool.and_false]
      by_cases hn : x < 0
      · rw [if_pos hn]
      · rw [if_neg hn, if_pos (by omega)]

theorem ref_Right_ev (s : List Int) (hs : s.length < 9223372036854775807) : Ev (fun k => parquetryref1_Right.f k s) (sRight s) := by
  refine Ev.congr (f := fun k => parquetryref1_Right.l0 k ([] ++ s) 1 (([] : List Int).length : Int)) (fun k => ?_) (Ev.cast (ref_Right_l0 s [] 1 (by decide) (by simpa using hs) (by decide) (by decide)) ?_)
  · unfold parquetryref1_Right.f
    simp
  · simp [sRight]

/-! ### Size -/
theorem shape_Size_l0 (post : List Int) : ∀ (pre : List Int) (acc : Int), pre.length + post.length ≤ 4 → 0 ≤ acc → acc ≤ 32 ^ pre.length → post.all okDim = true →
    Ev (fun k => shape_Size.l0 k acc (pre ++ post) ((pre ++ post).length : Int) (pre.length : Int)) (acc * prod post) := by
  induction post with
  | nil =>
    intro pre acc hl h0 h1 hd
    refine Ev.one fun k => ?_
    simp only [shape_Size.l0]
    rw [if_neg (by simp)]
    simp [prod]
  | cons x xs ih =>
    intro pre acc hl h0 h1 hd
    simp only [List.length_cons] at hl
    simp only [List.all_cons, Bool.and_eq_true] at hd
    have hlen := len_mid pre x xs
    obtain ⟨e, e0, e1⟩ := acc_step (n := pre.length) (by omega) h0 h1 hd.1
    have := ih (pre ++ [x]) (acc * x) (by simp; omega) e0 (by simpa using e1) hd.2
    refine Ev.cast (Ev.step (f := fun k => shape_Size.l0 k (acc * x) (pre ++ [x] ++ xs) ((pre ++ [x] ++ xs).length : Int) ((pre ++ [x]).length : Int)) (fun k => ?_) this) ?_
    · simp only [shape_Size.l0]
      rw [if_pos (by omega), if_pos (by omega), if_pos (by omega), rd_mid, e, wsucc _ (by omega), app_snoc]
      simp
    · simp [prod, Int.mul_assoc]

theorem shape_Size_ev (s : List Int) : Ev (fun k => shape_Size.f k s) (sSize s) := by
  unfold shape_Size.f
  refine Ev.bind (shape_Right_ev s) ?_
  by_cases h : sRight s = true
  · refine Ev.congr (f := fun k => shape_Size.l0 k 1 ([] ++ s) (([] ++ s).length : Int) (([] : List Int).length : Int)) (fun k => ?_) (Ev.cast (shape_Size_l0 s [] 1 (by simpa using right_len h) (by decide) (by decide) (right_dims h)) ?_)
    · simp [h]
    · simp [sSize, h]
  · refine Ev.ret fun k => ?_
    rw [if_neg h]
    simp [sSize, h]

theorem ref_Size_l0 (post : List Int) : ∀ (pre : List Int) (acc : Int), pre.length + post.length ≤ 4 → 0 ≤ acc → acc ≤ 32 ^ pre.length → post.all okDim = true →
    Ev (fun k => parquetryref1_Size.l0 k (pre ++ post) acc (pre.length : Int)) (acc * prod post) := by
  induction post with
  | nil =>
    intro pre acc hl h0 h1 hd
    refine Ev.one fun k => ?_
    simp only [parquetryref1_Size.l0]
    rw [if_neg (by simp)]
    simp [prod]
  | cons x xs ih =>
    intro pre acc hl h0 h1 hd
    simp only [List.length_cons] at hl
    simp only [List.all_cons, Bool.and_eq_true] at hd
    have hlen := len_mid pre x xs
    obtain ⟨e, e0, e1⟩ := acc_step (n := pre.length) (by omega) h0 h1 hd.1
    have := ih (pre ++ [x]) (acc * x) (by simp; omega) e0 (by simpa using e1) hd.2
    refine Ev.cast (Ev.step (f := fun k => parquetryref1_Size.l0 k (pre ++ [x] ++ xs) (acc * x) ((pre ++ [x]).length : Int)) (fun k => ?_) this) ?_
    · simp only [parquetryref1_Size.l0]
      rw [if_pos (by omega), if_pos (by omega), rd_mid, e, wsucc _ (by omega), app_snoc]
      simp
    · simp [prod, Int.mul_assoc]

theorem ref_Size_ev (s : List Int) (hs : s.length < 9223372036854775807) : Ev (fun k => parquetryref1_Size.f k s) (sSize s) := by
  unfold parquetryref1_Size.f
  refine Ev.bind (ref_Right_ev s hs) ?_
  by_cases h : sRight s = true
  · refine Ev.congr (f := fun k => parquetryref1_Size.l0 k ([] ++ s) 1 (([] : List Int).length : Int)) (fun k => ?_) (Ev.cast (ref_Size_l0 s [] 1 (by simpa using right_len h) (by decide) (by decide) (right_dims h)) ?_)
    · simp [h]
    · simp [sSize, h]
  · refine Ev.ret fun k => ?_
    rw [if_neg h]
    simp [sSize, h]

/-! ### Strides -/
theorem snoc_of {α : Type} (l : List α) (h : l ≠ []) : ∃ a b, l = a ++ [b] := by
  exact ⟨l.dropLast, l.getLast h, (List.dropLast_concat_getLast h).symm⟩

/-! ### Index -/
/-- A number of a place stays small: below the product of what lies ahead. -/
theorem idx_acc {acc x a : Int} {n : Nat} (hn : n + 1 ≤ 4) (h0 : 0 ≤ acc) (h1 : acc < 32 ^ n) (hx : okDim x = true) (ha0 : 0 ≤ a) (ha : a < x) :
    wrap64 (wrap64 (acc * x) + a) = acc * x + a ∧ 0 ≤ acc * x + a ∧ acc * x + a < 32 ^ (n + 1) := by
  have hx' := okDim_iff.1 hx
  have hm := mul_le32 h0 hx'.1 hx'.2
  have hp := pow_le n (by omega)
  have h2 : (acc + 1) * x ≤ 32 * (acc + 1) := (mul_le32 (by omega) hx'.1 hx'.2).2
  have h3 : (acc + 1) * x = acc * x + x := by rw [Int.add_mul]; omega
  refine ⟨?_, by omega, ?_⟩
  · rw [w64 (n := acc * x) (by omega) (by omega), w64 (by omega) (by omega)]
  · rw [Int.pow_succ]
    omega

theorem shape_Index_l0 (post : List Int) : ∀ (pre post2 pre2 : List Int) (acc : Int), pre.length = pre2.length → post.length = post2.length → pre.length + post.length ≤ 4 → 0 ≤ acc → acc < 32 ^ pre.length → post.all okDim = true →
    Ev (fun k => shape_Index.l0 k (pre ++ post) acc (pre2 ++ post2) ((pre2 ++ post2).length : Int) (pre2.length : Int)) (idx post post2 acc) := by
  induction post with
  | nil =>
    intro pre post2 pre2 acc hpre hpost hl h0 h1 hd
    obtain rfl : post2 = [] := List.length_eq_zero_iff.1 hpost.symm
    refine Ev.one fun k => ?_
    simp only [shape_Index.l0]
    rw [if_neg (by simp)]
    simp [idx]
  | cons x xs ih =>
    intro pre post2 pre2 acc hpre hpost hl h0 h1 hd
    cases post2 with
    | nil => simp at hpost
    | cons a bs =>
      simp only [List.length_cons] at hl hpost
      simp only [List.all_cons, Bool.and_eq_true] at hd
      have hlen := len_mid pre x xs
      have hlen2 := len_mid pre2 a bs
      have hrd : rd (pre ++ x :: xs) (pre2.length : Int) = x := by rw [← hpre]; exact rd_mid pre x xs
      by_cases hin : a < 0 ∨ x ≤ a
      · refine Ev.one fun k => ?_
        simp only [shape_Index.l0, idx]
        rw [if_pos (by omega), if_pos (by omega), if_pos (by omega), rd_mid, hrd, if_pos hin]
        by_cases ha : a < 0
        · rw [if_pos ha]
        · rw [if_neg ha, if_pos (by omega), if_pos (by omega)]
      · obtain ⟨e, e0, e1⟩ := idx_acc (n := pre.length) (by omega) h0 h1 hd.1 (a := a) (by omega) (by omega)
        have := ih (pre ++ [x]) bs (pre2 ++ [a]) (acc * x + a) (by simp; omega) (by omega) (by simp; omega) e0 (by simpa using e1) hd.2
        refine Ev.cast (Ev.step (f := fun k => shape_Index.l0 k (pre ++ [x] ++ xs) (acc * x + a) (pre2 ++ [a] ++ bs) ((pre2 ++ [a] ++ bs).length : Int) ((pre2 ++ [a]).length : Int)) (fun k => ?_) this) ?_
        · simp only [shape_Index.l0]
          rw [if_pos (by omega), if_pos (by omega), if_pos (by omega), rd_mid, hrd, if_neg (by omega), if_pos (by omega), if_neg (by omega), e, wsucc _ (by omega)]
          simp
        · simp only [idx]
          rw [if_neg hin]

theorem shape_Index_ev (s l : List Int) : Ev (fun k => shape_Index.f k s l) (sIndex s l) := by
  unfold shape_Index.f
  refine Ev.bind (shape_Right_ev s) ?_
  by_cases h : sRight s = true
  · by_cases hl : l.length = s.length
    · have := shape_Index_l0 s [] l [] 0 rfl hl.symm (by simpa using right_len h) (by decide) (by decide) (right_dims h)
      refine Ev.cast (Ev.step (f := fun k => shape_Index.l0 k ([] ++ s) 0 ([] ++ l) (([] ++ l).length : Int) (([] : List Int).length : Int)) (fun k => ?_) this) ?_
      · rw [if_pos h]
        simp only [shape_Index.j0]
        rw [if_neg (by simp [hl])]
        simp
      · simp [sIndex, h, hl]
    · refine Ev.one fun k => ?_
      rw [if_pos h]
      simp only [shape_Index.j0]
      rw [if_pos (by simp; omega)]
      simp [sIndex, hl]
  · refine Ev.one fun k => ?_
    rw [if_neg h]
    simp only [shape_Index.j0]
    simp [sIndex, h]

/-! ### Place -/
theorem prod_pos {s : List Int} (h : s.all okDim = true) (hp : prod s ≠ 0) : ∀ x ∈ s, 0 < x := by
  induction s with
  | nil => intro x hx; simp at hx
  | cons y ys ih =>
    simp only [List.all_cons, Bool.and_eq_true] at h
    have hy := okDim_iff.1 h.1
    simp only [prod] at hp
    have hy0 : y ≠ 0 := by intro e; subst e; simp at hp
    have hys : prod ys ≠ 0 := by intro e; rw [e] at hp; simp at hp
    intro x hx
    rcases List.mem_cons.1 hx with rfl | hx
    · omega
    · exact ih h.2 hys x hx

theorem prod_pos' {s : List Int} (h : ∀ x ∈ s, 0 < x) : 0 < prod s := by
  induction s with
  | nil => simp [prod]
  | cons y ys ih =>
    exact Int.mul_pos (h y (by simp)) (ih (fun x hx => h x (by simp [hx])))

/-- From the last axis on: what lies behind is told, what is left is the number of the whole steps. -/
theorem shape_Place_l0 (n : Nat) : ∀ (pre post : List Int) (i : Int), pre.length = n → pre.length + post.length ≤ 4 → (∀ x ∈ pre ++ post, 0 < x) → 0 ≤ i → i ≤ 1048576 →
    Ev (fun k => shape_Place.l0 k (pre ++ post) (i / prod post) (List.replicate n 0 ++ plc post i) ((n : Int) - 1)) (plc (pre ++ post) i) := by
  induction n with
  | zero =>
    intro pre post i hp hl hd h0 hi
    obtain rfl : pre = [] := List.length_eq_zero_iff.1 hp
    refine Ev.one fun k => ?_
    simp only [shape_Place.l0]
    rw [if_neg (by omega)]
    simp
  | succ n ih =>
    intro pre post i hp hl hd h0 hi
    obtain ⟨p, x, rfl⟩ := snoc_of pre (by intro e; subst e; simp at hp)
    simp only [List.length_append, List.length_cons, List.length_nil] at hp hl
    have hpn : p.length = n := by omega
    have hd2 := hd
    rw [show p ++ [x] ++ post = p ++ (x :: post) from by simp] at hd2
    have hx : 0 < x := hd2 x (by simp)
    have hpp : 0 < prod post := prod_pos' (fun y hy => hd2 y (by simp [hy]))
    have hlen := len_mid p x post
    have hl2 : ((List.replicate (n + 1) (0 : Int) ++ plc post i).length : Int) = (n : Int) + 1 + post.length := by simp [plc_length]
    have hq0 : 0 ≤ i / prod post := Int.ediv_nonneg h0 (by omega)
    have hq1 : i / prod post ≤ i := Int.ediv_le_self _ h0
    have := ih p (x :: post) i hpn (by simp only [List.length_cons]; omega) hd2 h0 hi
    refine Ev.cast (Ev.step (f := fun k => shape_Place.l0 k (p ++ x :: post) (i / prod (x :: post)) (List.replicate n 0 ++ plc (x :: post) i) ((n : Int) - 1)) (fun k => ?_) this) (by simp)
    simp only [shape_Place.l0]
    rw [show p ++ [x] ++ post = p ++ (x :: post) from by simp, show (((n + 1 : Nat) : Int) - 1) = ((n : Nat) : Int) from by omega]
    have hrd : rd (p ++ x :: post) (n : Int) = x := by rw [← hpn]; exact rd_mid p x post
    rw [if_pos (by omega), if_pos (by omega), if_pos (by omega), hrd, if_neg (by omega), if_pos (by omega)]
    have e1 : i / prod post / x = i / prod (x :: post) := by
      rw [prod, Int.mul_comm, Int.ediv_ediv_of_nonneg (by omega)]
    have hq2 : 0 ≤ i / prod post / x := Int.ediv_nonneg hq0 (by omega)
    have hq3 : i / prod post / x ≤ i / prod post := Int.ediv_le_self _ hq0
    rw [Int.tdiv_eq_ediv_of_nonneg hq0, Int.tmod_eq_emod_of_nonneg hq0, w64 (n := i / prod post / x) (by omega) (by omega), e1, w64 (by omega) (by omega)]
    congr 1
    rw [List.replicate_succ', List.append_assoc]
    simp [plc]

theorem size_dims {s : List Int} {i : Int} (h0 : 0 ≤ i) (h : i < sSize s) : sRight s = true ∧ (∀ x ∈ s, 0 < x) := by
  unfold sSize at h
  by_cases hr : sRight s = true
  · rw [if_pos hr] at h
    exact ⟨hr, prod_pos (right_dims hr) (by omega)⟩
  · rw [if_neg hr] at h
    omega

theorem shape_Place_ev (s : List Int) (i : Int) : Ev (fun k => shape_Place.f k s i) (sPlace s i) := by
  unfold shape_Place.f
  by_cases h0 : i < 0
  · refine Ev.one fun k => ?_
    rw [if_pos h0]
    simp [shape_Place.j0, sPlace, h0]
  · refine Ev.congr (f := fun k => (shape_Size.f k s).bind fun t => shape_Place.j0 k s i (decide (i ≥ t))) (fun k => by rw [if_neg h0]) ?_
    refine Ev.bind (shape_Size_ev s) ?_
    by_cases h1 : sSize s ≤ i
    · refine Ev.one fun k => ?_
      have : decide (i ≥ sSize s) = true := decide_eq_true h1
      rw [this]
      simp [shape_Place.j0, sPlace, h1]
    · obtain ⟨hr, hd⟩ := size_dims (s := s) (i := i) (by omega) (by omega)
      have hl := right_len hr
      have hsz := size_range s
      have hdec : decide (i ≥ sSize s) = false := decide_eq_false (by omega)
      refine Ev.cast (Ev.step (f := fun k => shape_Place.l0 k (s ++ []) (i / prod []) (List.replicate s.length 0 ++ plc [] i) ((s.length : Int) - 1)) (fun k => ?_) (shape_Place_l0 s.length s [] i rfl (by simpa using hl) (by simpa using hd) (by omega) (by omega))) ?_
      · rw [hdec]
        simp only [shape_Place.j0]
        rw [if_neg (by decide), if_pos (by omega), if_pos (by omega), w64 (by omega) (by omega)]
        simp [plc, prod]
      · simp [sPlace, h0, h1]

/-! ### Are two lists the same? -/
theorem eq_at_l0 (post : List Int) : ∀ (pre post2 pre2 : List Int), pre.length = pre2.length → post.length = post2.length → (pre ++ post).length < 9223372036854775807 →
    Ev (fun k => slices_Equal_int_int.l0 k (pre ++ post) (pre2 ++ post2) ((pre ++ post).length : Int) (pre.length : Int)) (decide (post = post2)) := by
  induction post with
  | nil =>
    intro pre post2 pre2 hpre hpost hl
    obtain rfl : post2 = [] := List.length_eq_zero_iff.1 hpost.symm
    refine Ev.one fun k => ?_
    simp only [slices_Equal_int_int.l0]
    rw [if_neg (by simp)]
    simp
  | cons x xs ih =>
    intro pre post2 pre2 hpre hpost hl
    cases post2 with
    | nil => simp at hpost
    | cons a bs =>
      simp only [List.length_cons] at hpost
      have hlen := len_mid pre x xs
      have hlen2 := len_mid pre2 a bs
      have hrd : rd (pre2 ++ a :: bs) (pre.length : Int) = a := by rw [hpre]; exact rd_mid pre2 a bs
      by_cases he : x = a
      · subst he
        have := ih (pre ++ [x]) bs (pre2 ++ [x]) (by simp; omega) (by omega) (by simpa using hl)
        refine Ev.cast (Ev.step (f := fun k => slices_Equal_int_int.l0 k (pre ++ [x] ++ xs) (pre2 ++ [x] ++ bs) ((pre ++ [x] ++ xs).length : Int) ((pre ++ [x]).length : Int)) (fun k => ?_) this) (by simp)
        simp only [slices_Equal_int_int.l0]
        rw [if_pos (by omega), if_pos (by omega), if_pos (by omega), if_pos (by omega), rd_mid, hrd, if_pos rfl, wsucc _ (by omega)]
        simp
      · refine Ev.one fun k => ?_
        simp only [slices_Equal_int_int.l0]
        rw [if_pos (by omega), if_pos (by omega), if_pos (by omega), if_pos (by omega), rd_mid, hrd, if_neg he]
        simp [he]

theorem slices_Equal_int_ev (a b : List Int) (ha : a.length < 9223372036854775807) : Ev (fun k => slices_Equal_int_int.f k a b) (decide (a = b)) := by
  unfold slices_Equal_int_int.f
  by_cases h : a.length = b.length
  · refine Ev.cast (Ev.congr (f := fun k => slices_Equal_int_int.l0 k ([] ++ a) ([] ++ b) (([] ++ a).length : Int) (([] : List Int).length : Int)) (fun k => ?_) (eq_at_l0 a [] b [] rfl h (by simpa using ha))) rfl
    rw [if_pos (by omega)]
    simp
  · refine Ev.ret fun k => ?_
    rw [if_neg (by omega)]
    have : a ≠ b := fun e => h (by rw [e])
    simp [this]

theorem shape_Same_ev (a b : List Int) (ha : a.length < 9223372036854775807) : Ev (fun k => shape_Same.f k a b) (decide (a = b)) := by
  unfold shape_Same.f
  exact Ev.bind (slices_Equal_int_ev a b ha) (Ev.now _)


end Go.Proofs.Ytapoeleiicnlbaa.Plain
