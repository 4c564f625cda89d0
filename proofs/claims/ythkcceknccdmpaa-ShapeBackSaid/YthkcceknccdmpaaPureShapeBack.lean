/- ShapeBack: for any tape, each number of its shape is the number of its own place, which is the sum of the place's steps; behind the last number there is no place. -/
import Derived.Test.YthkcceknccdmpaaLaw1
import Derived.Test.YthkcceknccdmpaaTape
import Derived.Test.YthkcceknccdmpaaQx8
namespace Go.Proofs.Ythkcceknccdmpaa.Pure
open Go.RowKit Go.Proofs.YthkcceknccdmpaaW.PrintWords Go.Proofs.Ythkcceknccdmpaa.Q Go.Proofs.Ythkcceknccdmpaa.Plain

theorem pos_or (t : List Int) : 0 < prod t ∨ ¬ ∀ x ∈ t, 0 < x := by
  by_cases h : ∀ x ∈ t, 0 < x
  · exact .inl (prod_pos' h)
  · exact .inr h

theorem dotp_nonneg (xs ys : List Int) (hx : ∀ a ∈ xs, 0 ≤ a) (hy : ∀ a ∈ ys, 0 ≤ a) : 0 ≤ dotp xs ys := by
  induction xs generalizing ys with
  | nil => cases ys <;> simp [dotp]
  | cons a xs ih =>
    cases ys with
    | nil => simp [dotp]
    | cons b ys =>
      have := Int.mul_nonneg (hx a (by simp)) (hy b (by simp))
      have := ih ys (fun z hz => hx z (by simp [hz])) (fun z hz => hy z (by simp [hz]))
      simp only [dotp]
      omega

theorem b_l1 (s : List Int) (n i : Int) (hi : i ≤ 4096) (hnext : Ev (fun k => parquetrylaw1_ShapeBack.l0 k s n (wrap64 (i + 1))) true) (post : List Int) :
    ∀ (pre post2 pre2 : List Int) (acc : Int), pre.length = pre2.length → post.length = post2.length → (pre ++ post).length ≤ 4 → 0 ≤ acc → (∀ a ∈ post, 0 ≤ a) → (∀ a ∈ post2, 0 ≤ a) → acc + dotp post post2 = i →
    Ev (fun k => parquetrylaw1_ShapeBack.l1 k s n i (pre ++ post) acc (pre2 ++ post2) ((pre ++ post).length : Int) (pre.length : Int)) true := by
  induction post with
  | nil =>
    intro pre post2 pre2 acc hpre hpost hl h0 hp hq he
    refine Ev.step (fun k => ?_) hnext
    simp only [parquetrylaw1_ShapeBack.l1]
    rw [if_neg (by simp), if_pos (by simpa [dotp] using he)]
  | cons x xs ih =>
    intro pre post2 pre2 acc hpre hpost hl h0 hp hq he
    cases post2 with
    | nil => simp at hpost
    | cons a bs =>
      simp only [List.length_cons] at hpost
      have hlen := len_mid pre x xs
      have hlen2 := len_mid pre2 a bs
      have hrd : rd (pre2 ++ a :: bs) (pre.length : Int) = a := by rw [hpre]; exact rd_mid pre2 a bs
      have hxa := Int.mul_nonneg (hp x (by simp)) (hq a (by simp))
      have hr := dotp_nonneg xs bs (fun z hz => hp z (by simp [hz])) (fun z hz => hq z (by simp [hz]))
      simp only [dotp] at he
      have := ih (pre ++ [x]) bs (pre2 ++ [a]) (acc + x * a) (by simp; omega) (by omega) (by simpa using hl) (by omega) (fun z hz => hp z (by simp [hz])) (fun z hz => hq z (by simp [hz])) (by omega)
      refine Ev.step (f := fun k => parquetrylaw1_ShapeBack.l1 k s n i (pre ++ [x] ++ xs) (acc + x * a) (pre2 ++ [a] ++ bs) ((pre ++ [x] ++ xs).length : Int) ((pre ++ [x]).length : Int)) (fun k => ?_) this
      simp only [parquetrylaw1_ShapeBack.l1]
      rw [if_pos (by omega), if_pos (by omega), if_pos (by omega), if_pos (by omega), rd_mid, hrd, w64 (n := x * a) (by omega) (by omega), w64 (n := acc + x * a) (by omega) (by omega), wsucc _ (by omega)]
      simp

theorem strs_nonneg (s : List Int) (hd : s.all okDim = true) : ∀ a ∈ strs s, 0 ≤ a := by
  induction s with
  | nil => intro a ha; simp [strs] at ha
  | cons x xs ih =>
    simp only [List.all_cons, Bool.and_eq_true] at hd
    intro a ha
    simp only [strs, List.mem_cons] at ha
    rcases ha with rfl | ha
    · exact prod_nonneg xs hd.2
    · exact ih hd.2 a ha

theorem b_l0 (s : List Int) (hr : sRight s = true) (d : Nat) : ∀ (i : Int), 0 ≤ i → i ≤ sSize s → (sSize s - i).toNat ≤ d → Ev (fun k => parquetrylaw1_ShapeBack.l0 k s (sSize s) i) true := by
  have hsz := size_range s
  have fin : ∀ i, i = sSize s → Ev (fun k => parquetrylaw1_ShapeBack.l0 k s (sSize s) i) true := by
    intro i hi
    refine Ev.step (f := fun k => (shape_Place.f k s (sSize s)).bind fun t => if (t.length : Int) = 0 then ((parquetrylaw1_known.f k).bind fun t2 => some t2) else some false) (fun k => ?_) ?_
    · simp only [parquetrylaw1_ShapeBack.l0]
      rw [if_neg (by omega)]
    · refine Ev.bind (shape_Place_ev s _) ?_
      refine Ev.congr (fun k => by rw [if_pos (by simp [sPlace])]) ?_
      exact Ev.bind law1_known (Ev.now _)
  induction d with
  | zero => intro i h0 h1 hd; exact fin i (by omega)
  | succ d ih =>
    intro i h0 h1 hd
    by_cases hlt : i < sSize s
    · obtain ⟨_, hpos⟩ := size_dims (s := s) (i := i) h0 hlt
      have hs : sSize s = prod s := by simp [sSize, hr]
      have hpl : sPlace s i = plc s i := by unfold sPlace; rw [if_neg (by omega)]
      have hmod : i % prod s = i := Int.emod_eq_of_lt h0 (by omega)
      have hix : sIndex s (plc s i) = i := by
        unfold sIndex
        rw [if_pos ⟨hr, plc_length s i⟩, idx_plc s hpos pos_or]
        omega
      have hl4 := right_len hr
      have hnext : Ev (fun k => parquetrylaw1_ShapeBack.l0 k s (sSize s) (wrap64 (i + 1))) true := by
        rw [w64 (by omega) (by omega)]
        exact ih (i + 1) (by omega) (by omega) (by omega)
      refine Ev.step (f := fun k => (shape_Place.f k s i).bind fun t => (shape_Index.f k s t).bind fun t2 => if t2 = i then parquetrylaw1_ShapeBack.j1 k s (sSize s) i t ((t.length : Int) != (s.length : Int)) else parquetrylaw1_ShapeBack.j1 k s (sSize s) i t true) (fun k => ?_) ?_
      · simp only [parquetrylaw1_ShapeBack.l0]
        rw [if_pos hlt]
      · refine Ev.bind (shape_Place_ev s i) (Ev.bind (shape_Index_ev s _) ?_)
        rw [hpl, hix]
        refine Ev.congr (f := fun k => parquetrylaw1_ShapeBack.j1 k s (sSize s) i (plc s i) false) (fun k => ?_) ?_
        · rw [if_pos rfl]
          congr 1
          simp [plc_length]
        · refine Ev.step (f := fun k => (shape_Strides.f k s).bind fun t => if (t.length : Int) = (s.length : Int) then parquetrylaw1_ShapeBack.l1 k s (sSize s) i (plc s i) 0 t ((plc s i).length : Int) 0 else some false) (fun k => ?_) ?_
          · simp only [parquetrylaw1_ShapeBack.j1]
            rw [if_neg (by decide)]
          · refine Ev.bind (shape_Strides_ev s) ?_
            have hst : sStrides s = strs s := by simp [sStrides, hr]
            rw [hst]
            refine Ev.congr (fun k => by rw [if_pos (by simp [strs_length])]) ?_
            have := b_l1 s (sSize s) i (by omega) hnext (plc s i) [] (strs s) [] 0 rfl (by simp [plc_length, strs_length]) (by simpa [plc_length] using hl4) (by omega) (plc_nonneg s hpos i) (strs_nonneg s (right_dims hr)) (by rw [dot_plc s hpos pos_or]; omega)
            simpa using this
    · exact fin i (by omega)

theorem ShapeBack : parquetrylaw1_ShapeBack.Pure := by
  intro l0 hm0 h0 hw0
  refine Ev.rounds (g := fun k => parquetrylaw1_ShapeBack.f k l0) ?_
  obtain ⟨s, b, hs, hb, hsm⟩ := tape_Shape_ev (tape_of h0 hw0)
  unfold parquetrylaw1_ShapeBack.f
  refine Ev.bind hs (Ev.bind (shape_Size_ev s) ?_)
  have hsz := size_range s
  exact b_l0 s (small_right hsm) _ 0 (by omega) (by omega) (Nat.le_refl _)

end Go.Proofs.Ythkcceknccdmpaa.Pure
