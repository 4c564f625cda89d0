/- What the functions of package tensor come to, over lists of whole numbers. -/
import Derived.Test.YtapoeleiicnlbaaShape
import Derived.Test.YtapoeleiicnlbaaTape
import Derived.Test.YtapoeleiicnlbaaQx1
import Derived.Test.YtapoeleiicnlbaaQx5
import Derived.Test.YtapoeleiicnlbaaQx6
import Derived.Test.YtapoeleiicnlbaaQx8
import Derived.Test.YtapoeleiicnlbaaQx19
import Derived.Test.YtapoeleiicnlbaaQx20
namespace Go.Proofs.Ytapoeleiicnlbaa.Plain
open Go.RowKit Go.Proofs.YtapoeleiicnlbaaW.PrintWords Go.Proofs.Ytapoeleiicnlbaa.Q

/-! ### Right -/
def tRight (s d : List Int) : Bool := sRight s && ((d.length : Int) == sSize s)
theorem tRight_iff {s d : List Int} : tRight s d = true ↔ sRight s = true ∧ (d.length : Int) = sSize s := by simp [tRight]

theorem tensor_Right_ev (s d : List Int) : Ev (fun k => tensor_Right.f k s d) (tRight s d) := by
  unfold tensor_Right.f
  refine Ev.bind (shape_Right_ev s) ?_
  by_cases h : sRight s = true
  · refine Ev.congr (fun k => by rw [if_pos h]) (Ev.cast (Ev.bind (shape_Size_ev s) (Ev.now _)) ?_)
    simp [tRight, h]
  · refine Ev.ret fun k => ?_
    rw [if_neg h]
    simp [tRight, h]

/-! ### Copies -/
theorem clone_int (l : List Int) (h : l.length < 17592186044416) : slices_Clone_int_int.f l = some l := by
  unfold slices_Clone_int_int.f
  simp [h]
/-! ### Fill -/
theorem ref_Fill_l0 (s : List Int) (n : Int) (hs : s.length < 9223372036854775807) (m : Nat) : ∀ (i : Nat), (i : Int) + m = sSize s →
    Ev (fun k => parquetryref1_Fill.l0 k s n (i : Int) s (List.replicate i n)) (s, List.replicate (sSize s).toNat n) := by
  have hz := size_range s
  induction m with
  | zero =>
    intro i hi
    refine Ev.step (f := fun k => (parquetryref1_Size.f k s).bind fun t => if (i : Int) < t then (if (List.replicate i n).length < 17592186044416 then (parquetryref1_Fill.l0 k s n (wrap64 ((i : Int) + 1)) s (List.replicate i n ++ [n])) else none) else some (s, List.replicate i n)) (fun k => ?_) ?_
    · simp only [parquetryref1_Fill.l0]
    · refine Ev.bind (ref_Size_ev s hs) (Ev.ret fun k => ?_)
      rw [if_neg (by omega)]
      rw [show (sSize s).toNat = i from by omega]
  | succ m ih =>
    intro i hi
    refine Ev.step (f := fun k => (parquetryref1_Size.f k s).bind fun t => if (i : Int) < t then (if (List.replicate i n).length < 17592186044416 then (parquetryref1_Fill.l0 k s n (wrap64 ((i : Int) + 1)) s (List.replicate i n ++ [n])) else none) else some (s, List.replicate i n)) (fun k => ?_) ?_
    · simp only [parquetryref1_Fill.l0]
    · refine Ev.bind (ref_Size_ev s hs) (Ev.congr (fun k => ?_) (ih (i + 1) (by omega)))
      rw [if_pos (by omega), if_pos (by simp; omega), wsucc _ (by omega), ← List.replicate_succ']

theorem ref_Fill_ev (s : List Int) (n : Int) (hs : s.length < 17592186044416) : Ev (fun k => parquetryref1_Fill.f k s n) (s, List.replicate (sSize s).toNat n) := by
  have hz := size_range s
  refine Ev.congr (fun k => ?_) (ref_Fill_l0 s n (by omega) (sSize s).toNat 0 (by omega))
  unfold parquetryref1_Fill.f
  simp [hs]

/-! ### Numbers off a tape -/
def I64 (x : Int) : Prop := -9223372036854775808 ≤ x ∧ x ≤ 9223372036854775807

theorem number_ev {l : List Int} {a : Int} (h : TapeOk l a) : ∃ r b, Ev (fun k => parquetrykeep_Tape_Number.f k l a) (r, b) ∧ TapeOk l b ∧ I64 r := by
  obtain ⟨n, b, hn, hb, n0, n1, _⟩ := next_ev h 9 (by omega)
  have n1 := n1 (by omega)
  by_cases h0 : n = 0
  · obtain ⟨m, c, hm, hc, m0, m1, _⟩ := next_ev hb 6 (by omega)
    have m1 := m1 (by omega)
    refine ⟨rd [9223372036854775807, -9223372036854775808, 4611686018427387904, -1099511627776, 8589934592, 3037000500] m, c, ?_, hc, ?_⟩
    · unfold parquetrykeep_Tape_Number.f
      refine Ev.bind hn (Ev.congr (fun k => by rw [if_pos h0]; simp only [Option.bind_some]; rfl) (Ev.bind hm (Ev.ret fun k => ?_)))
      rw [if_pos m0, if_pos (by simpa using m1)]
    · have : m = 0 ∨ m = 1 ∨ m = 2 ∨ m = 3 ∨ m = 4 ∨ m = 5 := by omega
      rcases this with rfl | rfl | rfl | rfl | rfl | rfl <;> exact ⟨by decide, by decide⟩
  · by_cases h1 : n = 1
    · refine ⟨0, b, ?_, hb, ⟨by omega, by omega⟩⟩
      unfold parquetrykeep_Tape_Number.f
      refine Ev.bind hn (Ev.ret fun k => ?_)
      rw [if_neg h0, if_pos h1]
    · obtain ⟨m, c, hm, hc, m0, m1, _⟩ := next_ev hb 19 (by omega)
      have m1 := m1 (by omega)
      refine ⟨m - 9, c, ?_, hc, ⟨by omega, by omega⟩⟩
      unfold parquetrykeep_Tape_Number.f
      refine Ev.bind hn (Ev.congr (fun k => by rw [if_neg h0, if_neg h1]) (Ev.bind hm (Ev.ret fun k => ?_)))
      rw [w64 (by omega) (by omega)]

theorem tape_Tensor_l0 (s : List Int) (n : Nat) (hn : n < 9223372036854775807) (m : Nat) : ∀ (i : Nat) (l : List Int) (a : Int) (d : List Int), TapeOk l a → d.length = n → i + m = n → (∀ x ∈ d, I64 x) →
    ∃ r b, Ev (fun k => parquetrykeep_Tape_Tensor.l0 k (n : Int) (i : Int) l a s d) (s, r, b) ∧ TapeOk l b ∧ r.length = n ∧ ∀ x ∈ r, I64 x := by
  induction m with
  | zero =>
    intro i l a d ht hd hi hw
    refine ⟨d, a, Ev.one fun k => ?_, ht, hd, hw⟩
    simp only [parquetrykeep_Tape_Tensor.l0]
    rw [if_neg (by omega)]
  | succ m ih =>
    intro i l a d ht hd hi hw
    obtain ⟨x, b, hx, hb, hxw⟩ := number_ev ht
    obtain ⟨r, c, hr, hc, hrl, hrw⟩ := ih (i + 1) l b (d.set i x) hb (by simpa using hd) (by omega) (by
      intro y hy
      rcases List.mem_or_eq_of_mem_set hy with hy | rfl
      · exact hw y hy
      · exact hxw)
    refine ⟨r, c, ?_, hc, hrl, hrw⟩
    refine Ev.step (f := fun k => (parquetrykeep_Tape_Number.f k l a).bind fun bt => if 0 ≤ (i : Int) then (if (i : Int) < (d.length : Int) then (parquetrykeep_Tape_Tensor.l0 k (n : Int) (wrap64 ((i : Int) + 1)) l bt.2 s (d.set ((i : Int) : Int).toNat bt.1)) else none) else none) (fun k => ?_) ?_
    · simp only [parquetrykeep_Tape_Tensor.l0]
      rw [if_pos (by omega)]
    · refine Ev.bind hx (Ev.congr (fun k => ?_) hr)
      simp only
      rw [if_pos (by omega), if_pos (by omega), wsucc _ (by omega)]
      simp

theorem tape_Tensor_ev {l : List Int} {a : Int} (h : TapeOk l a) (s : List Int) (hs : s.length < 17592186044416) :
    ∃ d b, Ev (fun k => parquetrykeep_Tape_Tensor.f k l a s) (s, d, b) ∧ TapeOk l b ∧ (d.length : Int) = sSize s ∧ ∀ x ∈ d, I64 x := by
  have hz := size_range s
  obtain ⟨d, b, hd, hb, hl, hw⟩ := tape_Tensor_l0 s (sSize s).toNat (by omega) (sSize s).toNat 0 l a (List.replicate (sSize s).toNat 0) h (by simp) (by omega) (by
    intro x hx
    obtain rfl := List.eq_of_mem_replicate hx
    exact ⟨by omega, by omega⟩)
  refine ⟨d, b, ?_, hb, by omega, hw⟩
  unfold parquetrykeep_Tape_Tensor.f
  refine Ev.bind (ref_Fill_ev s 0 hs) (Ev.congr (fun k => ?_) hd)
  simp

/-! ### An index lies in the data -/
theorem idx_range (s : List Int) (hd : s.all okDim = true) : ∀ (l : List Int) (acc : Int), 0 ≤ acc → l.length = s.length → idx s l acc = -1 ∨ (0 ≤ idx s l acc ∧ idx s l acc < (acc + 1) * prod s) := by
  induction s with
  | nil =>
    intro l acc h0 hl
    obtain rfl : l = [] := List.length_eq_zero_iff.1 hl
    right
    simp [idx, prod]
    omega
  | cons x xs ih =>
    intro l acc h0 hl
    cases l with
    | nil => simp at hl
    | cons a bs =>
      simp only [List.all_cons, Bool.and_eq_true] at hd
      simp only [idx]
      by_cases h : a < 0 ∨ x ≤ a
      · rw [if_pos h]; exact .inl rfl
      · rw [if_neg h]
        have hx := okDim_iff.1 hd.1
        have h1 : 0 ≤ acc * x := Int.mul_nonneg h0 hx.1
        rcases ih hd.2 bs (acc * x + a) (by omega) (by simpa using hl) with h2 | ⟨h2, h3⟩
        · exact .inl h2
        · refine .inr ⟨h2, ?_⟩
          simp only [prod]
          have hp := prod_nonneg xs hd.2
          have h4 : (acc * x + a + 1) * prod xs ≤ ((acc + 1) * x) * prod xs := Int.mul_le_mul_of_nonneg_right (by rw [Int.add_mul]; omega) hp
          rw [← Int.mul_assoc]
          omega

theorem sIndex_range (s l : List Int) : sIndex s l = -1 ∨ (0 ≤ sIndex s l ∧ sIndex s l < sSize s) := by
  unfold sIndex
  by_cases h : sRight s = true ∧ l.length = s.length
  · rw [if_pos h]
    have := idx_range s (right_dims h.1) l 0 (by omega) h.2
    simpa [sSize, h.1] using this
  · rw [if_neg h]; exact .inl rfl

/-! ### Get, Set -/
/-! ### Made: number by number, by the places -/
/-- The numbers of all places of a shape. -/
def madeOf (s : List Int) (g : List Int → Int) : List Int := (List.range (sSize s).toNat).map (fun i : Nat => g (plc s (i : Int)))
theorem madeOf_length (s : List Int) (g : List Int → Int) : (madeOf s g).length = (sSize s).toNat := by simp [madeOf]

theorem set_range (f : Nat → Int) (n i : Nat) (h : i < n) (z : Int) :
    ((List.range i).map f ++ List.replicate (n - i) z).set i (f i) = (List.range (i + 1)).map f ++ List.replicate (n - (i + 1)) z := by
  rw [show n - i = (n - (i + 1)) + 1 from by omega, List.replicate_succ]
  have := set_mid ((List.range i).map f) z (f i) (List.replicate (n - (i + 1)) z)
  simp only [List.length_map, List.length_range] at this
  rw [this, List.range_succ, List.map_append]
  simp

theorem made_l0 (φ : List Int → Option Int) (s : List Int) (g : List Int → Int) (hφ : ∀ i : Nat, (i : Int) < sSize s → φ (plc s i) = some (g (plc s i))) (m : Nat) : ∀ i : Nat, i + m = (sSize s).toNat →
    Ev (fun k => tensor_Made.l0 φ k s (sSize s) (i : Int) s ((List.range i).map (fun i : Nat => g (plc s (i : Int))) ++ List.replicate ((sSize s).toNat - i) 0)) (s, madeOf s g) := by
  have hz := size_range s
  induction m with
  | zero =>
    intro i hi
    refine Ev.one fun k => ?_
    simp only [tensor_Made.l0]
    rw [if_neg (by omega)]
    have : i = (sSize s).toNat := by omega
    subst this
    simp [madeOf]
  | succ m ih =>
    intro i hi
    have hlt : (i : Int) < sSize s := by omega
    have hp : sPlace s i = plc s i := by unfold sPlace; rw [if_neg (by omega)]
    refine Ev.step (f := fun k => (shape_Place.f k s (i : Int)).bind fun t => (φ t).bind fun x => if 0 ≤ (i : Int) then (if (i : Int) < (((List.range i).map (fun i : Nat => g (plc s (i : Int))) ++ List.replicate ((sSize s).toNat - i) 0).length : Int) then (tensor_Made.l0 φ k s (sSize s) (wrap64 ((i : Int) + 1)) s (((List.range i).map (fun i : Nat => g (plc s (i : Int))) ++ List.replicate ((sSize s).toNat - i) 0).set ((i : Int) : Int).toNat x)) else none) else none) (fun k => ?_) ?_
    · simp only [tensor_Made.l0]
      rw [if_pos hlt]
    · refine Ev.bind (shape_Place_ev s i) (Ev.congr (fun k => ?_) (ih (i + 1) (by omega)))
      rw [hp, hφ i hlt]
      simp only [Option.bind_some]
      rw [if_pos (by omega), if_pos (by simp; omega), wsucc _ (by omega), Int.toNat_natCast, set_range (fun i : Nat => g (plc s (i : Int))) (sSize s).toNat i (by omega) 0]

theorem made_ev (φ : List Int → Option Int) (s : List Int) (g : List Int → Int) (hφ : ∀ i : Nat, (i : Int) < sSize s → φ (plc s i) = some (g (plc s i))) (hs : s.length < 17592186044416) :
    Ev (fun k => tensor_Made.f φ k s) (s, madeOf s g) := by
  have hz := size_range s
  unfold tensor_Made.f
  refine Ev.congr (f := fun k => (shape_Size.f k s).bind fun t => if 0 ≤ t then (if (t : Int).toNat ≤ 35184372088832 then ((some (List.replicate (t : Int).toNat 0 : List Int)).bind fun y => (tensor_Made.l0 φ k s (y.length : Int) 0 s y)) else none) else none) (fun k => by rw [clone_int s hs]; rfl) ?_
  refine Ev.bind (shape_Size_ev s) (Ev.congr (fun k => ?_) (made_l0 φ s g hφ (sSize s).toNat 0 (by omega)))
  rw [if_pos hz.1, if_pos (by omega)]
  simp only [Option.bind_some, List.length_replicate, List.range_zero, List.map_nil, List.nil_append, Nat.sub_zero]
  rw [Int.toNat_of_nonneg hz.1]
  simp

/-! ### The place of a number, and back -/
theorem rd_made (s : List Int) (g : List Int → Int) (i : Nat) (h : (i : Int) < sSize s) : rd (madeOf s g) (i : Int) = g (plc s (i : Int)) := by
  have hz := size_range s
  rw [rd_nat _ _ (by rw [madeOf_length]; omega)]
  simp [madeOf]

end Go.Proofs.Ytapoeleiicnlbaa.Plain
