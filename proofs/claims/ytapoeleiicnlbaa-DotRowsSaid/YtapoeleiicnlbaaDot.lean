/- Products of tensors in both texts, over lists of whole numbers: they come to the same. -/
import Derived.Test.YtapoeleiicnlbaaTensorRef
import Derived.Test.YtapoeleiicnlbaaPlaces
import Derived.Test.YtapoeleiicnlbaaQx2
import Derived.Test.YtapoeleiicnlbaaQx3
import Derived.Test.YtapoeleiicnlbaaQx4
import Derived.Test.YtapoeleiicnlbaaQx10
import Derived.Test.YtapoeleiicnlbaaQx11
namespace Go.Proofs.Ytapoeleiicnlbaa.Plain
open Go.RowKit Go.Proofs.YtapoeleiicnlbaaW.PrintWords Go.Proofs.Ytapoeleiicnlbaa.Q

/-! ### One row behind the other -/
theorem grow_is {n : Int} (h0 : 0 ≤ n) (h1 : n ≤ 1000) : slices_Grow_int_int.f [] n = some [] := by
  unfold slices_Grow_int_int.f
  by_cases h : 0 < n
  · rw [if_pos ⟨h, h1⟩]
  · rw [if_neg (by omega), if_pos (by omega)]
theorem concat_two (x y : List Int) (h : x.length + y.length ≤ 1000) : Ev (fun k => slices_Concat_int_int.f k [x, y]) (x ++ y) := by
  unfold slices_Concat_int_int.f
  have r0 : rd_L1 [x, y] 0 = x := rfl
  have r1 : rd_L1 [x, y] 1 = y := rfl
  have l2 : (([x, y] : List (List Int)).length : Int) = 2 := rfl
  rw [l2]
  refine Ev.step (f := fun k => slices_Concat_int_int.l0 k [x, y] (x.length : Int) [x, y] 2 1) (fun k => ?_) ?_
  · simp only [slices_Concat_int_int.l0]
    rw [if_pos (by omega), if_pos (by omega), l2, if_pos (by omega), r0, w64 (n := 0 + (x.length : Int)) (by omega) (by omega), if_neg (by omega), w64 (by omega) (by omega), Int.zero_add]
    rfl
  refine Ev.step (f := fun k => slices_Concat_int_int.l0 k [x, y] ((x.length : Int) + (y.length : Int)) [x, y] 2 2) (fun k => ?_) ?_
  · simp only [slices_Concat_int_int.l0]
    rw [if_pos (by omega), if_pos (by omega), l2, if_pos (by omega), r1, w64 (n := (x.length : Int) + (y.length : Int)) (by omega) (by omega), if_neg (by omega), w64 (by omega) (by omega)]
    rfl
  refine Ev.step (f := fun k => slices_Concat_int_int.l1 k [] [x, y] 2 0) (fun k => ?_) ?_
  · simp only [slices_Concat_int_int.l0]
    rw [if_neg (by omega), grow_is (by omega) (by omega), Option.bind_some, l2]
  refine Ev.step (f := fun k => slices_Concat_int_int.l1 k x [x, y] 2 1) (fun k => ?_) ?_
  · simp only [slices_Concat_int_int.l1]
    rw [if_pos (by omega), if_pos (by omega), l2, if_pos (by omega), r0, if_pos (by simp; omega), w64 (by omega) (by omega), List.nil_append]
    rfl
  refine Ev.step (f := fun k => slices_Concat_int_int.l1 k (x ++ y) [x, y] 2 2) (fun k => ?_) ?_
  · simp only [slices_Concat_int_int.l1]
    rw [if_pos (by omega), if_pos (by omega), l2, if_pos (by omega), r1, if_pos (by omega), w64 (by omega) (by omega)]
    rfl
  refine Ev.one fun k => ?_
  simp only [slices_Concat_int_int.l1]
  rw [if_neg (by omega)]

/-! ### Shapes of products -/
def dFits (a b : List Int) (n : Int) : Bool := sRight a && (sRight b && (decide (a.take n.toNat = b.take n.toNat) && decide (rd a ((a.length : Int) - 1) = rd b n)))
def dRow (a b : List Int) (n : Int) : List Int := a.take (a.length - 1) ++ b.drop (n.toNat + 1)
def dShape (a b : List Int) (n : Int) : List Int × Int :=
  if n < 0 ∨ (a.length : Int) ≤ n ∨ (b.length : Int) ≤ n then ([], 1) else (if dFits a b n = true then (if sRight (dRow a b n) = true then (dRow a b n, 0) else ([], 13)) else ([], 13))
theorem dFits_iff {a b : List Int} {n : Int} : dFits a b n = true ↔ sRight a = true ∧ sRight b = true ∧ a.take n.toNat = b.take n.toNat ∧ rd a ((a.length : Int) - 1) = rd b n := by simp [dFits]

theorem dot_Shape_j0 (a b : List Int) (n : Int) (h0 : 0 ≤ n) (h1 : n < (a.length : Int)) (h2 : n < (b.length : Int)) : Ev (fun k => dot_Shape.j0 k a b n false) (dShape a b n) := by
  unfold dShape
  rw [if_neg (by omega)]
  have bad : dFits a b n ≠ true → (if dFits a b n = true then (if sRight (dRow a b n) = true then (dRow a b n, (0 : Int)) else ([], 13)) else ([], 13)) = ([], 13) := fun h => by rw [if_neg h]
  refine Ev.step (f := fun k => (shape_Right.f k a).bind fun t130 => (if t130 = true then ((shape_Right.f k b).bind fun t131 => (if t131 = true then (if 0 ≤ n then (if n ≤ (a.length : Int) then (if n ≤ (b.length : Int) then ((shape_Same.f k (a.take (n : Int).toNat) (b.take (n : Int).toNat)).bind fun t142 => (if t142 = true then (if 0 ≤ (wrap64 ((a.length : Int) - 1)) then (if (wrap64 ((a.length : Int) - 1)) < (a.length : Int) then (if n < (b.length : Int) then (if (rd a (wrap64 ((a.length : Int) - 1))) = (rd b n) then (if (wrap64 ((a.length : Int) - 1)) ≤ (a.length : Int) then (if 0 ≤ (wrap64 (n + 1)) then (if (wrap64 (n + 1)) ≤ (b.length : Int) then ((slices_Concat_int_int.f k (([(a.take ((wrap64 ((a.length : Int) - 1)) : Int).toNat), (b.drop ((wrap64 (n + 1)) : Int).toNat)] : List (List Int)))).bind fun t158 => ((shape_Right.f k t158).bind fun t161 => (if t161 = true then (some (t158, 0)) else (some (([] : List Int), 13))))) else (none)) else (none)) else (none)) else (some (([] : List Int), 13))) else (none)) else (none)) else (none)) else (some (([] : List Int), 13)))) else (none)) else (none)) else (none)) else (some (([] : List Int), 13)))) else (some (([] : List Int), 13)))) (fun k => ?_) ?_
  · simp only [dot_Shape.j0]
    rw [if_neg (by simp)]
  refine Ev.bind (shape_Right_ev a) ?_
  by_cases g1 : sRight a = true
  · refine Ev.congr (fun k => by rw [if_pos g1]) (Ev.bind (shape_Right_ev b) ?_)
    have ha4 := right_len g1
    by_cases g2 : sRight b = true
    · have hb4 := right_len g2
      refine Ev.congr (fun k => by rw [if_pos g2, if_pos h0, if_pos (by omega), if_pos (by omega)]) (Ev.bind (shape_Same_ev _ _ (by simp; omega)) ?_)
      by_cases g3 : a.take n.toNat = b.take n.toNat
      · have w1 : wrap64 ((a.length : Int) - 1) = (a.length : Int) - 1 := w64 (by omega) (by omega)
        have w2 : wrap64 (n + 1) = n + 1 := w64 (by omega) (by omega)
        refine Ev.congr (fun k => by rw [if_pos (by simpa using g3), w1, w2, if_pos (by omega), if_pos (by omega), if_pos h2]) ?_
        by_cases g4 : rd a ((a.length : Int) - 1) = rd b n
        · have hf : dFits a b n = true := dFits_iff.2 ⟨g1, g2, g3, g4⟩
          have e1 : ((a.length : Int) - 1).toNat = a.length - 1 := by omega
          have e2 : (n + 1).toNat = n.toNat + 1 := by omega
          refine Ev.congr (fun k => by rw [if_pos g4, if_pos (by omega), if_pos (by omega), if_pos (by omega), e1, e2]) (Ev.bind (concat_two _ _ (by simp; omega)) ?_)
          rw [if_pos hf]
          refine Ev.bind (shape_Right_ev _) (Ev.ret fun k => ?_)
          unfold dRow
          by_cases g5 : sRight (a.take (a.length - 1) ++ b.drop (n.toNat + 1)) = true
          · rw [if_pos g5, if_pos g5]
          · rw [if_neg g5, if_neg g5]
        · rw [bad (fun h => g4 (dFits_iff.1 h).2.2.2)]
          exact Ev.ret fun k => by rw [if_neg g4]
      · rw [bad (fun h => g3 (dFits_iff.1 h).2.2.1)]
        exact Ev.ret fun k => by rw [if_neg (by simpa using g3)]
    · rw [bad (fun h => g2 (dFits_iff.1 h).2.1)]
      exact Ev.ret fun k => by rw [if_neg g2]
  · rw [bad (fun h => g1 (dFits_iff.1 h).1)]
    exact Ev.ret fun k => by rw [if_neg g1]
theorem dot_Shape_ev (a b : List Int) (n : Int) : Ev (fun k => dot_Shape.f k a b n) (dShape a b n) := by
  have bad : n < 0 ∨ (a.length : Int) ≤ n ∨ (b.length : Int) ≤ n → Ev (fun k => dot_Shape.j0 k a b n true) (dShape a b n) := by
    intro h
    refine Ev.one fun k => ?_
    simp only [dot_Shape.j0]
    unfold dShape
    rw [if_pos trivial, if_pos h]
  unfold dot_Shape.f
  by_cases h1 : n < 0
  · exact Ev.congr (fun k => by rw [if_pos h1]) (bad (.inl h1))
  · by_cases h2 : (a.length : Int) ≤ n
    · exact Ev.congr (fun k => by rw [if_neg h1, if_pos h2]) (bad (.inr (.inl h2)))
    · by_cases h3 : (b.length : Int) ≤ n
      · exact Ev.congr (fun k => by rw [if_neg h1, if_neg h2, decide_eq_true h3]) (bad (.inr (.inr h3)))
      · exact Ev.congr (fun k => by rw [if_neg h1, if_neg h2, decide_eq_false h3]) (dot_Shape_j0 a b n (by omega) (by omega) (by omega))

/-- What a shape of a product is made of. -/
theorem dShape_ok {a b : List Int} {n : Int} (h : (dShape a b n).2 = 0) : ∃ (A B : List Int) (m : Int) (q : Nat), n = (q : Int) ∧ a = A ++ [m] ∧ b = A.take q ++ m :: B ∧ q ≤ A.length ∧ (dShape a b n).1 = A ++ B ∧ sRight (A ++ B) = true ∧ sRight a = true ∧ sRight b = true ∧ 0 ≤ m ∧ m ≤ 32 := by
  unfold dShape at h ⊢
  by_cases h1 : n < 0 ∨ (a.length : Int) ≤ n ∨ (b.length : Int) ≤ n
  · rw [if_pos h1] at h; exact absurd h (by decide)
  · rw [if_neg h1] at h ⊢
    by_cases h2 : dFits a b n = true
    · rw [if_pos h2] at h ⊢
      by_cases h3 : sRight (dRow a b n) = true
      · rw [if_pos h3]
        obtain ⟨q, rfl⟩ := Int.eq_ofNat_of_zero_le (show 0 ≤ n by omega)
        obtain ⟨g1, g2, g3, g4⟩ := dFits_iff.1 h2
        obtain ⟨A, m, rfl⟩ := snoc_of a (fun e => by subst e; simp at h1)
        have hq : q ≤ A.length := by simp at h1; omega
        have hqb : q < b.length := by omega
        rw [Int.toNat_natCast] at g3
        have e1 : (A ++ [m]).take q = A.take q := List.take_append_of_le_length hq
        have e2 : rd (A ++ [m]) (((A ++ [m]).length : Int) - 1) = m := by
          have := rd_mid A m []
          rw [show (((A ++ [m]).length : Int) - 1) = (A.length : Int) by simp]
          exact this
        rw [e2] at g4
        have hb : b = A.take q ++ m :: b.drop (q + 1) := by
          have h5 : b.drop q = m :: b.drop (q + 1) := by
            rw [List.drop_eq_getElem_cons hqb, g4, rd_nat b q hqb]
          rw [← e1, g3]
          conv => lhs; rw [← List.take_append_drop q b, h5]
        have hm := okDim_iff.1 (List.all_eq_true.1 (right_dims g1) m (by simp))
        refine ⟨A, b.drop (q + 1), m, q, rfl, rfl, hb, hq, ?_, ?_, g1, g2, hm.1, hm.2⟩
        · simp [dRow]
        · have : dRow (A ++ [m]) b (q : Int) = A ++ b.drop (q + 1) := by simp [dRow]
          rw [← this]; exact h3
      · rw [if_neg h3] at h; exact absurd h (by decide)
    · rw [if_neg h2] at h; exact absurd h (by decide)

/-! ### Sums of products -/
def dotSum (s1 d1 s2 d2 pa pn pb : List Int) (j : Nat) : Nat → Int → Int
  | 0, acc => acc
  | m + 1, acc => dotSum s1 d1 s2 d2 pa pn pb (j + 1) m (wrap64 (acc + wrap64 (rd d1 (sIndex s1 (pa ++ [(j : Int)])) * rd d2 (sIndex s2 (pn ++ (j : Int) :: pb)))))
theorem within_app {s p t q : List Int} (h : within s p) (h2 : within t q) : within (s ++ t) (p ++ q) := by
  induction s generalizing p with
  | nil => cases p with
    | nil => exact h2
    | cons _ _ => exact h.elim
  | cons x xs ih => cases p with
    | nil => exact h.elim
    | cons a bs => exact ⟨h.1, h.2.1, ih h.2.2⟩
theorem within_take {s p : List Int} (n : Nat) (h : within s p) : within (s.take n) (p.take n) := by
  induction s generalizing p n with
  | nil => cases p with
    | nil => simp [within]
    | cons _ _ => exact h.elim
  | cons x xs ih => cases p with
    | nil => exact h.elim
    | cons a bs => cases n with
      | zero => trivial
      | succ n => exact ⟨h.1, h.2.1, ih n h.2.2⟩

theorem dot_Each_l0 (s1 d1 s2 d2 pa pn pb : List Int) (m : Nat) (hr1 : tRight s1 d1 = true) (hr2 : tRight s2 d2 = true) (hm : m ≤ 32) (hla : pa.length ≤ 4) (hln : pn.length ≤ 4)
    (h1 : ∀ j : Nat, j < m → within s1 (pa ++ [(j : Int)])) (h2 : ∀ j : Nat, j < m → within s2 (pn ++ (j : Int) :: pb)) (c : Nat) : ∀ (j : Nat) (acc z z' : Int), j + c = m →
    Ev (fun k => dot_Each.l0 k acc (m : Int) (j : Int) (pa ++ [z]) (pa.length : Int) (pn ++ z' :: pb) (pn.length : Int) s1 d1 s2 d2) (dotSum s1 d1 s2 d2 pa pn pb j c acc) := by
  induction c with
  | zero =>
    intro j acc z z' hj
    refine Ev.one fun k => ?_
    simp only [dot_Each.l0]
    rw [if_neg (by omega)]
    rfl
  | succ c ih =>
    intro j acc z z' hj
    have i1 := within_sIndex (tRight_iff.1 hr1).1 (h1 j (by omega))
    have i2 := within_sIndex (tRight_iff.1 hr2).1 (h2 j (by omega))
    have z1 := (tRight_iff.1 hr1).2
    have z2 := (tRight_iff.1 hr2).2
    refine Ev.step (f := fun k => (shape_Index.f k s1 (pa ++ [(j : Int)])).bind fun t375 => (if 0 ≤ t375 then (if t375 < (d1.length : Int) then ((shape_Index.f k s2 (pn ++ (j : Int) :: pb)).bind fun t377 => (if 0 ≤ t377 then (if t377 < (d2.length : Int) then (dot_Each.l0 k (wrap64 (acc + (wrap64 ((rd d1 t375) * (rd d2 t377))))) (m : Int) ((j + 1 : Nat) : Int) (pa ++ [(j : Int)]) (pa.length : Int) (pn ++ (j : Int) :: pb) (pn.length : Int) s1 d1 s2 d2) else (none)) else (none))) else (none)) else (none))) (fun k => ?_) ?_
    · simp only [dot_Each.l0]
      rw [if_pos (by omega), if_pos (by omega), if_pos (by simp; omega), Option.bind_some, if_pos (by omega), if_pos (by simp; omega), Option.bind_some, Int.toNat_natCast, Int.toNat_natCast, set_mid, set_mid, wsucc _ (by omega)]
    · refine Ev.bind (shape_Index_ev s1 _) (Ev.congr (fun k => by rw [if_pos i1.1, if_pos (by omega)]) (Ev.bind (shape_Index_ev s2 _) (Ev.congr (fun k => by rw [if_pos i2.1, if_pos (by omega)]) ?_)))
      exact ih (j + 1) _ _ _ (by omega)

def tDot (s1 d1 s2 d2 : List Int) (n : Int) : List Int × List Int × Int :=
  if tRight s1 d1 = true ∧ tRight s2 d2 = true then (if (dShape s1 s2 n).2 = 0 then ((dShape s1 s2 n).1, madeOf (dShape s1 s2 n).1 (fun p => dotSum s1 d1 s2 d2 (p.take (s1.length - 1)) (p.take n.toNat) (p.drop (s1.length - 1)) 0 (rd s2 n).toNat 0), 0)
    else ([], [], (dShape s1 s2 n).2)) else ([], [], 13)

/-! ### Made by an answer that grows with the rounds -/
theorem made_ev_d (φ : Nat → List Int → Option Int) (s : List Int) (g : List Int → Int) (hm : ∀ k p, LeO (φ k p) (φ (k + 1) p)) (hφ : ∀ i : Nat, (i : Int) < sSize s → Ev (fun k => φ k (plc s i)) (g (plc s i))) (hs : s.length < 17592186044416) :
    Ev (fun k => tensor_Made.f (φ k) k s) (s, madeOf s g) := by
  have hz := size_range s
  have all : ∀ n : Nat, ∃ K, ∀ i : Nat, i < n → (i : Int) < sSize s → ∀ k, K ≤ k → φ k (plc s i) = some (g (plc s i)) := by
    intro n
    induction n with
    | zero => exact ⟨0, fun i hi => absurd hi (by omega)⟩
    | succ n ih =>
      obtain ⟨K, hK⟩ := ih
      by_cases hn : (n : Int) < sSize s
      · obtain ⟨K2, hK2⟩ := hφ n hn
        refine ⟨max K K2, fun i hi hlt k hk => ?_⟩
        by_cases h : i = n
        · subst h; exact hK2 k (by omega)
        · exact hK i (by omega) hlt k (by omega)
      · exact ⟨K, fun i hi hlt k hk => hK i (by omega) hlt k hk⟩
  obtain ⟨K, hK⟩ := all (sSize s).toNat
  obtain ⟨K2, hK2⟩ := made_ev (φ K) s g (fun i hi => hK i (by omega) hi K (Nat.le_refl _)) hs
  have up : ∀ d p, LeO (φ K p) (φ (K + d) p) := by
    intro d p
    induction d with
    | zero => exact LeO.refl _
    | succ d ih => exact ih.trans (hm (K + d) p)
  refine ⟨max K K2, fun k hk => ?_⟩
  obtain ⟨d, rfl⟩ : ∃ d, k = K + d := ⟨k - K, by omega⟩
  exact dot_Made.le (up d) (K + d) s _ (hK2 (K + d) (by omega))

/-- At a place of a product: what is asked of it. -/
theorem dot_place {A B : List Int} {m : Int} {q : Nat} (hm : 0 ≤ m ∧ m ≤ 32) (i : Nat) (hi : (i : Int) < sSize (A ++ B)) :
    ∃ pa pb, plc (A ++ B) i = pa ++ pb ∧ pa.length = A.length ∧ pb.length = B.length ∧ (∀ j : Nat, j < m.toNat → within (A ++ [m]) (pa ++ [(j : Int)])) ∧ (∀ j : Nat, j < m.toNat → within (A.take q ++ m :: B) (pa.take q ++ (j : Int) :: pb)) := by
  obtain ⟨_, hpos⟩ := size_dims (s := A ++ B) (i := (i : Int)) (by omega) hi
  obtain ⟨pa, pb, hp, ha, hb⟩ := within_split A B (within_plc _ hpos (i : Int))
  refine ⟨pa, pb, hp, within_len ha, within_len hb, fun j hj => within_app ha ⟨by omega, by omega, trivial⟩, fun j hj => within_app (within_take q ha) ⟨by omega, by omega, hb⟩⟩

theorem dot_Do_j0 (s1 d1 s2 d2 : List Int) (n : Int) (hr1 : tRight s1 d1 = true) (hr2 : tRight s2 d2 = true) : Ev (fun k => dot_Do.j0 k n false s1 d1 s2 d2 n) (tDot s1 d1 s2 d2 n) := by
  have hs1 := right_len (tRight_iff.1 hr1).1
  have hs2 := right_len (tRight_iff.1 hr2).1
  unfold tDot
  rw [if_pos ⟨hr1, hr2⟩]
  refine Ev.step (f := fun k => (dot_Shape.f k s1 s2 n).bind fun bt => if bt.2 = 0 then ((dot_Made.f k bt.1 n s1 d1 s2 d2).bind fun bm => some (bm.1, bm.2, (0 : Int))) else some ([], [], bt.2)) (fun k => ?_) ?_
  · simp only [dot_Do.j0]
    rw [if_neg (by simp)]
    simp only [if_pos (show (0 : Int) ≤ (s1.length : Int) by omega), if_pos (show ((s1.length : Int)).toNat ≤ 35184372088832 by omega), if_pos (show (0 : Int) ≤ (s2.length : Int) by omega), if_pos (show ((s2.length : Int)).toNat ≤ 35184372088832 by omega)]
  · refine Ev.bind (dot_Shape_ev s1 s2 n) ?_
    by_cases h : (dShape s1 s2 n).2 = 0
    · rw [if_pos h]
      refine Ev.congr (fun k => by rw [if_pos h]) ?_
      obtain ⟨A, B, m, q, rfl, rfl, rfl, hq, hd, hR, _, _, hm⟩ := dShape_ok h
      rw [hd]
      have hAB := right_len hR
      simp only [List.length_append, List.length_cons, List.length_nil] at hAB hs1 hs2
      refine Ev.bind (made_ev_d (fun k => dotAt k (q : Int) (A ++ [m]) d1 (A.take q ++ m :: B) d2) (A ++ B) (fun p => dotSum (A ++ [m]) d1 (A.take q ++ m :: B) d2 (p.take ((A ++ [m]).length - 1)) (p.take (q : Int).toNat) (p.drop ((A ++ [m]).length - 1)) 0 (rd (A.take q ++ m :: B) (q : Int)).toNat 0) (fun k p => dotAt.mono k _ _ _ _ _ p) (fun i hi => ?_) (by simp; omega)) (Ev.now _)
      obtain ⟨pa, pb, hp, hpa, hpb, w1, w2⟩ := dot_place (q := q) hm i hi
      have htl : (A.take q).length = q := by simp; omega
      have hm2 : rd (A.take q ++ m :: B) (q : Int) = m := by
        have := rd_mid (A.take q) m B
        rwa [htl] at this
      have hm1 : rd (A ++ [m]) (((A ++ [m]).length : Int) - 1) = m := by
        have := rd_mid A m []
        rw [show (((A ++ [m]).length : Int) - 1) = (A.length : Int) by simp]
        exact this
      have hl1 : (A ++ [m]).length - 1 = A.length := by simp
      have et : (pa ++ pb).take A.length = pa := by rw [← hpa]; exact List.take_left
      have ed : (pa ++ pb).drop A.length = pb := by rw [← hpa]; exact List.drop_left
      have eq_ : (pa ++ pb).take q = pa.take q := List.take_append_of_le_length (by omega)
      rw [hp, hm2]
      simp only [hl1, Int.toNat_natCast]
      rw [et, ed, eq_]
      have key := dot_Each_l0 (A ++ [m]) d1 (A.take q ++ m :: B) d2 pa (pa.take q) pb m.toNat hr1 hr2 (by omega) (by omega) (by simp; omega) w1 w2 m.toNat 0 0 0 0 (by omega)
      refine Ev.congr (fun k => ?_) key
      unfold dotAt
      rw [if_pos]
      · rw [hm1, hl1, et, ed, Int.toNat_natCast, eq_, show (((A ++ [m]).length : Int) - 1) = (pa.length : Int) by simp; omega, show ((q : Nat) : Int) = ((pa.take q).length : Int) by simp; omega, Int.toNat_of_nonneg hm.1]
        rfl
      · unfold dotFits
        simp only [List.length_append, List.length_cons, List.length_nil, List.length_take]
        omega
    · rw [if_neg h]
      exact Ev.ret fun k => by rw [if_neg h]
theorem dot_Do_ev (s1 d1 s2 d2 : List Int) (n : Int) : Ev (fun k => dot_Do.f k s1 d1 s2 d2 n) (tDot s1 d1 s2 d2 n) := by
  have bad : ¬ (tRight s1 d1 = true ∧ tRight s2 d2 = true) → Ev (fun k => dot_Do.j0 k n true s1 d1 s2 d2 n) (tDot s1 d1 s2 d2 n) := by
    intro h
    refine Ev.one fun k => ?_
    simp only [dot_Do.j0]
    unfold tDot
    rw [if_pos trivial, if_neg h]
  unfold dot_Do.f
  refine Ev.bind (tensor_Right_ev s1 d1) ?_
  by_cases h1 : tRight s1 d1 = true
  · refine Ev.congr (fun k => by rw [if_pos h1]) (Ev.bind (tensor_Right_ev s2 d2) ?_)
    by_cases h2 : tRight s2 d2 = true
    · rw [h2]
      exact dot_Do_j0 s1 d1 s2 d2 n h1 h2
    · rw [show tRight s2 d2 = false by simpa using h2]
      exact bad (fun h => h2 h.2)
  · exact Ev.congr (fun k => by rw [if_neg h1]) (bad (fun h => h1 h.1))

end Go.Proofs.Ytapoeleiicnlbaa.Plain
