/- Parts of a tensor, cut out at a place. -/
import Derived.Test.YtkeclgfnlpkjeaaFoldSums
import Derived.Test.YtkeclgfnlpkjeaaQx32
namespace Go.Proofs.Ytkeclgfnlpkjeaa.Plain
open Go.RowKit Go.Proofs.YtkeclgfnlpkjeaaW.PrintWords Go.Proofs.Ytkeclgfnlpkjeaa.Q

def moved : List Int → List Int → List Int
  | x :: xs, y :: ys => (x + y) :: moved xs ys
  | _, _ => []
theorem moved_none (p : List Int) : moved p (List.replicate p.length 0) = p := by
  induction p with
  | nil => rfl
  | cons x xs ih => simp [moved, List.replicate_succ, ih]

theorem slice_l0 (f z s d : List Int) (r : List Int × List Int × Int) (hf : f.length = s.length) (hz : z.length = s.length) (hs : s.length ≤ 4)
    (H : ∀ j : Nat, j < s.length → 0 ≤ rd f (j : Int) ∧ 0 ≤ rd z (j : Int) ∧ rd z (j : Int) ≤ rd s (j : Int) - rd f (j : Int) ∧ rd s (j : Int) ≤ 32)
    (hend : Ev (fun k => (parquetryref1_Fill.f k z 0).bind fun bt => parquetryref4_Slice.l1 k f z (bt.2.length : Int) 0 s d bt.1 bt.2) r) (m : Nat) : ∀ i : Nat, i + m = s.length →
    Ev (fun k => parquetryref4_Slice.l0 k f z (f.length : Int) (i : Int) s d) r := by
  induction m with
  | zero =>
    intro i hi
    refine Ev.step (fun k => ?_) hend
    simp only [parquetryref4_Slice.l0]
    rw [if_neg (by omega)]
  | succ m ih =>
    intro i hi
    obtain ⟨h1, h2, h3, h4⟩ := H i (by omega)
    refine Ev.step (fun k => ?_) (ih (i + 1) (by omega))
    simp only [parquetryref4_Slice.l0]
    rw [if_pos (by omega), if_pos (by omega), if_pos (by omega), if_neg (by omega), if_pos (by omega), if_neg (by omega), if_pos (by omega), if_neg (by omega), w64 (n := rd s (i : Int) - rd f (i : Int)) (by omega) (by omega), if_neg (by omega), wsucc _ (by omega)]

theorem slice_l2 (f z s d out fin : List Int) (i len L : Int) (r : List Int × List Int × Int)
    (hend : Ev (fun k => (parquetryref4_number.f k s d fin).bind fun t => if 0 ≤ i then (if i < (out.length : Int) then parquetryref4_Slice.l1 k f z len (wrap64 (i + 1)) s d z (out.set (i : Int).toNat t) else none) else none) r)
    (post : List Int) : ∀ (pre fpre fpost : List Int), f = fpre ++ fpost → fpre.length = pre.length → fpost.length = post.length → pre ++ moved post fpost = fin → (∀ x ∈ post, 0 ≤ x ∧ x ≤ 32) → (∀ x ∈ fpost, 0 ≤ x ∧ x ≤ 32) → L = ((pre.length + post.length : Nat) : Int) → pre.length + post.length ≤ 4 →
    Ev (fun k => parquetryref4_Slice.l2 k f z i (pre ++ post) len i L (pre.length : Int) s d z out) r := by
  induction post with
  | nil =>
    intro pre fpre fpost h1 h2 h3 h4 _ _ hL _
    have e : pre = fin := by cases fpost with
      | nil => simpa [moved] using h4
      | cons _ _ => simp at h3
    subst e
    refine Ev.step (fun k => ?_) hend
    simp only [parquetryref4_Slice.l2]
    rw [if_neg (by simp at hL; omega), List.append_nil]
  | cons x xs ih =>
    intro pre fpre fpost h1 h2 h3 h4 hx hy hL hlen
    obtain ⟨y, ys, rfl⟩ : ∃ y ys, fpost = y :: ys := by cases fpost with
      | nil => simp at h3
      | cons y ys => exact ⟨y, ys, rfl⟩
    simp only [List.length_cons] at h3 hL hlen
    have := ih (pre ++ [x + y]) (fpre ++ [y]) ys (by rw [h1, app_snoc]) (by simp [h2]) (by omega) (by rw [← h4]; simp [moved]) (fun a ha => hx a (List.mem_cons_of_mem _ ha)) (fun a ha => hy a (List.mem_cons_of_mem _ ha)) (by simp only [List.length_append, List.length_cons, List.length_nil]; omega) (by simp only [List.length_append, List.length_cons, List.length_nil]; omega)
    have hrd : rd f (pre.length : Int) = y := by rw [h1, ← h2]; exact rd_mid fpre y ys
    have bx := hx x List.mem_cons_self
    have by_ := hy y List.mem_cons_self
    have hfl : pre.length < f.length := by rw [h1]; simp; omega
    refine Ev.step (fun k => ?_) this
    simp only [parquetryref4_Slice.l2]
    rw [if_pos (by omega), if_pos (by omega), if_pos (by rw [len_mid]; omega), if_pos (by omega), rd_mid, hrd, w64 (n := x + y) (by omega) (by omega), wsucc _ (by omega), Int.toNat_natCast, set_mid, app_snoc]
    simp only [List.length_append, List.length_cons, List.length_nil, Nat.zero_add]

theorem plc_small (s : List Int) (h : s.all okDim = true) (hd : ∀ x ∈ s, 0 < x) (i : Int) : ∀ x ∈ plc s i, 0 ≤ x ∧ x ≤ 32 := by
  induction s with
  | nil => intro x hx; simp [plc] at hx
  | cons y ys ih =>
    simp only [List.all_cons, Bool.and_eq_true] at h
    intro x hx
    simp only [plc, List.mem_cons] at hx
    rcases hx with rfl | hx
    · have hy := hd y List.mem_cons_self
      have h1 := okDim_iff.1 h.1
      have h2 := Int.emod_nonneg (i / prod ys) (show y ≠ 0 by omega)
      have h3 := Int.emod_lt_of_pos (i / prod ys) hy
      omega
    · exact ih h.2 (fun x hx => hd x (List.mem_cons_of_mem _ hx)) x hx

theorem slice_l1 (f z s d : List Int) (hr : tRight s d = true) (hs : s.length < 9223372036854775807) (hfz : f.length = z.length) (hf : ∀ x ∈ f, 0 ≤ x ∧ x ≤ 32)
    (hin : ∀ i : Nat, (i : Int) < sSize z → within s (moved (plc z (i : Int)) f)) (m : Nat) : ∀ i : Nat, i + m = (sSize z).toNat →
    Ev (fun k => parquetryref4_Slice.l1 k f z (((sSize z).toNat : Nat) : Int) (i : Int) s d z ((List.range i).map (fun i : Nat => rd d (sIndex s (moved (plc z (i : Int)) f))) ++ List.replicate ((sSize z).toNat - i) 0)) (z, (List.range (sSize z).toNat).map (fun i : Nat => rd d (sIndex s (moved (plc z (i : Int)) f))), 0) := by
  have hz := size_range z
  induction m with
  | zero =>
    intro i hi
    refine Ev.one fun k => ?_
    simp only [parquetryref4_Slice.l1]
    rw [if_neg (by omega)]
    have : i = (sSize z).toNat := by omega
    subst this
    simp
  | succ m ih =>
    intro i hi
    have hlt : (i : Int) < sSize z := by omega
    obtain ⟨zr, zd⟩ := size_dims (s := z) (i := (i : Int)) (by omega) hlt
    have hp : sPlace z i = plc z i := by unfold sPlace; rw [if_neg (by omega)]
    have hz4 := right_len zr
    refine Ev.step (f := fun k => (parquetryref1_Place.f k z (i : Int)).bind fun t => parquetryref4_Slice.l2 k f z (i : Int) t (((sSize z).toNat : Nat) : Int) (i : Int) (t.length : Int) 0 s d z ((List.range i).map (fun i : Nat => rd d (sIndex s (moved (plc z (i : Int)) f))) ++ List.replicate ((sSize z).toNat - i) 0)) (fun k => ?_) ?_
    · simp only [parquetryref4_Slice.l1]
      rw [if_pos (by omega)]
    · refine Ev.bind (ref_Place_ev z i (by omega)) ?_
      rw [hp]
      refine slice_l2 f z s d _ (moved (plc z (i : Int)) f) (i : Int) _ _ _ ?_ (plc z (i : Int)) [] [] f rfl rfl (by rw [plc_length]; omega) rfl (plc_small z (right_dims zr) zd _) hf (by simp) (by rw [plc_length]; simpa using hz4)
      refine Ev.bind (ref_number_at s d _ hs hr (hin i hlt)) (Ev.congr (fun k => ?_) (ih (i + 1) (by omega)))
      rw [if_pos (by omega), if_pos (by simp; omega), wsucc _ (by omega), Int.toNat_natCast, set_range (fun i : Nat => rd d (sIndex s (moved (plc z (i : Int)) f))) (sSize z).toNat i (by omega) 0]

theorem ref_Slice_ev (f z s d : List Int) (hr : tRight s d = true) (hfs : f.length = s.length) (hzs : z.length = s.length) (hf : ∀ x ∈ f, 0 ≤ x ∧ x ≤ 32)
    (H : ∀ j : Nat, j < s.length → 0 ≤ rd f (j : Int) ∧ 0 ≤ rd z (j : Int) ∧ rd z (j : Int) ≤ rd s (j : Int) - rd f (j : Int) ∧ rd s (j : Int) ≤ 32)
    (hin : ∀ i : Nat, (i : Int) < sSize z → within s (moved (plc z (i : Int)) f)) :
    Ev (fun k => parquetryref4_Slice.f k s d f z) (z, (List.range (sSize z).toNat).map (fun i : Nat => rd d (sIndex s (moved (plc z (i : Int)) f))), 0) := by
  have hs := right_len (tRight_iff.1 hr).1
  unfold parquetryref4_Slice.f
  refine Ev.bind (ref_Tensor_ev s d (by omega)) (Ev.congr (fun k => by rw [if_pos hr, if_pos (by omega)]) ?_)
  refine Ev.step (fun k => ?_) (slice_l0 f z s d _ hfs hzs hs H ?_ s.length 0 (Nat.zero_add _))
  · simp only [parquetryref4_Slice.j0]
    rw [if_neg (by rw [hzs]; simp)]
    rfl
  · refine Ev.bind (ref_Fill_ev z 0 (by omega)) (Ev.congr (fun k => ?_) (slice_l1 f z s d hr (by omega) (by omega) hf hin (sSize z).toNat 0 (by omega)))
    simp

/-! ### Of a tensor of shape 3, 4, ..: some of its first axis -/
theorem slice_front (x : Nat) (fo : Nat) (u d : List Int) (hx : 1 ≤ x) (hfx : fo + x ≤ 3) (hz : sRight ((x : Int) :: 4 :: u) = true) (hr : tRight (3 :: 4 :: u) d = true) :
    Ev (fun k => parquetryref4_Slice.f k (3 :: 4 :: u) d ((fo : Int) :: 0 :: List.replicate u.length 0) ((x : Int) :: 4 :: u)) ((x : Int) :: 4 :: u, (List.range (sSize ((x : Int) :: 4 :: u)).toNat).map (fun i : Nat => rd d ((fo : Int) * (4 * prod u) + (i : Int))), 0) := by
  have hsr := (tRight_iff.1 hr).1
  have hdims := right_dims hsr
  simp only [List.all_cons, Bool.and_eq_true] at hdims
  have hdu := hdims.2.2
  have hmv : ∀ i : Nat, moved (plc ((x : Int) :: 4 :: u) (i : Int)) ((fo : Int) :: 0 :: List.replicate u.length 0) = ((i : Int) / (4 * prod u) % (x : Int) + (fo : Int)) :: ((i : Int) / prod u % 4) :: plc u (i : Int) := by
    intro i
    have e : plc ((x : Int) :: 4 :: u) (i : Int) = ((i : Int) / (4 * prod u) % (x : Int)) :: ((i : Int) / prod u % 4) :: plc u (i : Int) := rfl
    have e2 := moved_none (plc u (i : Int))
    rw [plc_length] at e2
    rw [e]
    simp only [moved]
    rw [e2, Int.add_zero]
  have hwi : ∀ i : Nat, (i : Int) < sSize ((x : Int) :: 4 :: u) → within (3 :: 4 :: u) (((i : Int) / (4 * prod u) % (x : Int) + (fo : Int)) :: ((i : Int) / prod u % 4) :: plc u (i : Int)) := by
    intro i hi
    obtain ⟨_, hpos⟩ := size_dims (s := (x : Int) :: 4 :: u) (i := (i : Int)) (by omega) hi
    have h1 := Int.emod_nonneg ((i : Int) / (4 * prod u)) (show (x : Int) ≠ 0 by omega)
    have h2 := Int.emod_lt_of_pos ((i : Int) / (4 * prod u)) (show 0 < (x : Int) by omega)
    have h3 := Int.emod_nonneg ((i : Int) / prod u) (show (4 : Int) ≠ 0 by omega)
    have h4 := Int.emod_lt_of_pos ((i : Int) / prod u) (show 0 < (4 : Int) by omega)
    exact ⟨by omega, by omega, h3, h4, within_plc u (fun y hy => hpos y (by simp [hy])) _⟩
  have := ref_Slice_ev ((fo : Int) :: 0 :: List.replicate u.length 0) ((x : Int) :: 4 :: u) (3 :: 4 :: u) d hr (by simp) (by simp) (by
      intro y hy
      simp only [List.mem_cons] at hy
      rcases hy with rfl | rfl | hy
      · omega
      · omega
      · rw [List.eq_of_mem_replicate hy]; omega) (by
      intro j hj
      match j, hj with
      | 0, _ =>
        have a1 : rd ((fo : Int) :: 0 :: List.replicate u.length 0) ((0 : Nat) : Int) = (fo : Int) := rfl
        have a2 : rd ((x : Int) :: 4 :: u) ((0 : Nat) : Int) = (x : Int) := rfl
        have a3 : rd (3 :: 4 :: u) ((0 : Nat) : Int) = 3 := rfl
        rw [a1, a2, a3]; omega
      | 1, _ =>
        have a1 : rd ((fo : Int) :: 0 :: List.replicate u.length 0) ((1 : Nat) : Int) = 0 := rfl
        have a2 : rd ((x : Int) :: 4 :: u) ((1 : Nat) : Int) = 4 := rfl
        have a3 : rd (3 :: 4 :: u) ((1 : Nat) : Int) = 4 := rfl
        rw [a1, a2, a3]; omega
      | j + 2, hj =>
        have hju : j < u.length := by simpa using hj
        rw [rd_nat _ (j + 2) (by simp; omega), rd_nat _ (j + 2) (by simp; omega), rd_nat _ (j + 2) (by simp; omega)]
        simp only [List.getElem_cons_succ, List.getElem_replicate]
        have := okDim_iff.1 (List.all_eq_true.1 hdu _ (List.getElem_mem hju))
        omega) (fun i hi => by rw [hmv]; exact hwi i hi)
  refine Ev.cast this ?_
  congr 1
  congr 1
  refine List.map_congr_left fun i hi => ?_
  have hi' : (i : Int) < sSize ((x : Int) :: 4 :: u) := by
    have := List.mem_range.1 hi
    have := size_range ((x : Int) :: 4 :: u)
    omega
  obtain ⟨_, hpos⟩ := size_dims (s := (x : Int) :: 4 :: u) (i := (i : Int)) (by omega) hi'
  have hpu : ∀ y ∈ u, 0 < y := fun y hy => hpos y (by simp [hy])
  have hP := prod_pos' hpu
  rw [hmv]
  congr 1
  have hss : sSize ((x : Int) :: 4 :: u) = (x : Int) * (4 * prod u) := by unfold sSize; rw [if_pos hz]; rfl
  have d1 := digit (i : Int) 4 (prod u) hP (by omega)
  have d2 := digit (i : Int) (x : Int) (4 * prod u) (by omega) (by omega)
  rw [Int.emod_eq_of_lt (by omega) (show (i : Int) < (x : Int) * (4 * prod u) by omega)] at d2
  have h1 := Int.emod_nonneg ((i : Int) / (4 * prod u)) (show (x : Int) ≠ 0 by omega)
  have h2 := Int.emod_lt_of_pos ((i : Int) / (4 * prod u)) (show 0 < (x : Int) by omega)
  have h3 := Int.emod_nonneg ((i : Int) / prod u) (show (4 : Int) ≠ 0 by omega)
  have h4 := Int.emod_lt_of_pos ((i : Int) / prod u) (show 0 < (4 : Int) by omega)
  unfold sIndex
  rw [if_pos ⟨hsr, by simp [plc_length]⟩]
  rw [show idx (3 :: 4 :: u) (((i : Int) / (4 * prod u) % (x : Int) + (fo : Int)) :: ((i : Int) / prod u % 4) :: plc u (i : Int)) 0 = idx u (plc u (i : Int)) ((0 * 3 + ((i : Int) / (4 * prod u) % (x : Int) + (fo : Int))) * 4 + (i : Int) / prod u % 4) by rw [idx_in _ _ _ _ _ (by omega) (by omega), idx_in _ _ _ _ _ (by omega) (by omega)]]
  rw [idx_plc u hpu (fun t => posOr t) (i : Int)]
  generalize (i : Int) / (4 * prod u) % (x : Int) = A at *
  generalize (i : Int) / prod u % 4 = B at *
  have e1 : ((0 * 3 + (A + (fo : Int))) * 4 + B) * prod u = A * (4 * prod u) + (fo : Int) * (4 * prod u) + B * prod u := by
    rw [Int.zero_mul, Int.zero_add, Int.add_mul, Int.mul_assoc, Int.add_mul]
  rw [e1]
  omega

end Go.Proofs.Ytkeclgfnlpkjeaa.Plain
