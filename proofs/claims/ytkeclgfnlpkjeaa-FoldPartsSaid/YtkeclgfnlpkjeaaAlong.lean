/- A fold along one axis is, number by number, a window as wide as all. -/
import Derived.Test.YtkeclgfnlpkjeaaFold
import Derived.Test.YtkeclgfnlpkjeaaWinAt
namespace Go.Proofs.Ytkeclgfnlpkjeaa.Plain
open Go.RowKit Go.Proofs.YtkeclgfnlpkjeaaW.PrintWords

theorem leftOf_none (c : Int) (xs : List Int) : ∀ j : Int, c < j → leftOf [c] j xs = xs := by
  induction xs with
  | nil => intro j _; rfl
  | cons x xs ih =>
    intro j hj
    simp only [leftOf]
    rw [if_neg (by simp; omega), ih (j + 1) (by omega)]

theorem leftOf_one (c x : Int) (s2 : List Int) : ∀ (s1 : List Int) (j : Int), j + (s1.length : Int) = c → leftOf [c] j (s1 ++ x :: s2) = s1 ++ s2 := by
  intro s1
  induction s1 with
  | nil =>
    intro j hj
    simp only [List.length_nil] at hj
    simp only [List.nil_append, leftOf]
    rw [if_pos (by simp; omega), leftOf_none c s2 (j + 1) (by omega)]
  | cons y s1 ih =>
    intro j hj
    simp only [List.length_cons] at hj
    simp only [List.cons_append, leftOf]
    rw [if_neg (by simp; omega), ih (j + 1) (by omega)]

theorem split_at (s : List Int) (a : Nat) (ha : a < s.length) : ∃ s1 x s2, s = s1 ++ x :: s2 ∧ s1.length = a ∧ s[a] = x := by
  refine ⟨s.take a, s[a], s.drop (a + 1), ?_, by simp; omega, rfl⟩
  rw [← List.drop_eq_getElem_cons ha, List.take_append_drop]

theorem digits_same {v w a b P : Int} (hv : 0 ≤ v) (hv1 : v < P) (hw : 0 ≤ w) (hw1 : w < P) (h : v + a * P = w + b * P) : v = w ∧ a = b := by
  have hP : P ≠ 0 := by omega
  have e1 : (v + a * P) % P = v := by rw [Int.add_mul_emod_self_right]; exact Int.emod_eq_of_lt hv hv1
  have e2 : (w + b * P) % P = w := by rw [Int.add_mul_emod_self_right]; exact Int.emod_eq_of_lt hw hw1
  have e : v = w := by rw [← e1, h, e2]
  refine ⟨e, ?_⟩
  subst e
  exact Int.eq_of_mul_eq_mul_right hP (by omega)

theorem within_idx_lt {s l : List Int} (hd : s.all okDim = true) (h : within s l) : 0 ≤ idx s l 0 ∧ idx s l 0 < prod s := by
  have h0 := within_idx s l 0 h (by omega)
  rcases idx_range s hd l 0 (by omega) (within_len h) with h1 | h1
  · omega
  · exact ⟨h0, by simpa using h1.2⟩

theorem idx_in (x a : Int) (xs bs : List Int) (acc : Int) (h0 : 0 ≤ a) (h1 : a < x) : idx (x :: xs) (a :: bs) acc = idx xs bs (acc * x + a) := by
  simp only [idx]
  rw [if_neg (by omega)]

/-- The numbers along an axis: from number c on, m of them. -/
def runAt (how : Int) (D : List Int) (at_ : Nat → Int) : Nat → Nat → Int → Int
  | _, 0, v => v
  | c, m + 1, v => runAt how D at_ (c + 1) m (stepOf how v (rd D (at_ c)))

theorem foldRun_at (how : Int) (s t a D : List Int) (j : Nat) (at_ : Nat → Int) (n : Nat) (hat : ∀ i : Nat, i < D.length → (goesTo s t a (i : Int) = (j : Int) ↔ ∃ x, x < n ∧ (i : Int) = at_ x))
    (mono : ∀ x y, x < y → at_ x < at_ y) (hlt : ∀ x, x < n → at_ x < (D.length : Int)) (hg : ∀ i : Nat, i < D.length → 0 ≤ goesTo s t a (i : Int)) (ds : List Int) :
    ∀ (pre : List Int) (c : Nat) (out : List Int), D = pre ++ ds → j < out.length → c ≤ n → (c < n → (pre.length : Int) ≤ at_ c) → (∀ x, x < c → at_ x < (pre.length : Int)) →
    rd (foldRun how s t a pre.length ds out) (j : Int) = runAt how D at_ c (n - c) (rd out (j : Int)) := by
  induction ds with
  | nil =>
    intro pre c out hD hj hc h1 h2
    have hn : c = n := by
      by_cases h : c < n
      · have a1 := h1 h
        have a2 := hlt c h
        rw [hD] at a2
        simp at a2
        omega
      · omega
    subst hn
    simp only [foldRun, Nat.sub_self, runAt]
  | cons x ds ih =>
    intro pre c out hD hj hc h1 h2
    have hi : pre.length < D.length := by rw [hD]; simp
    have hx : rd D (pre.length : Int) = x := by rw [hD]; exact rd_mid pre x ds
    have hg0 := hg _ hi
    simp only [foldRun]
    have hlen : pre.length + 1 = (pre ++ [x]).length := by simp
    rw [hlen]
    by_cases hgo : goesTo s t a (pre.length : Int) = (j : Int)
    · obtain ⟨y, hy, hy2⟩ := (hat _ hi).1 hgo
      have hyc : y = c := by
        rcases Nat.lt_trichotomy y c with h | h | h
        · have := h2 y h; omega
        · exact h
        · have := mono c y h
          have := h1 (by omega)
          omega
      subst hyc
      rw [ih (pre ++ [x]) (y + 1) _ (by rw [hD]; simp) (by simpa using hj) (by omega) (fun h => by have := mono y (y + 1) (by omega); simp; omega) (fun z hz => by
        by_cases h : z < y
        · have := h2 z h; simp; omega
        · have : z = y := by omega
          subst this
          simp; omega)]
      rw [hgo, Int.toNat_natCast, rd_set _ _ _ _ hj, if_pos rfl]
      have : n - y = (n - (y + 1)) + 1 := by omega
      rw [this]
      simp only [runAt]
      rw [← hy2, hx]
    · rw [ih (pre ++ [x]) c _ (by rw [hD]; simp) (by simpa using hj) hc (fun h => by
        have h3 := h1 h
        have : (pre.length : Int) ≠ at_ c := fun e => hgo ((hat _ hi).2 ⟨c, h, e⟩)
        simp; omega) (fun z hz => by have := h2 z hz; simp; omega)]
      rw [rd_set _ _ _ _ hj, if_neg (by omega)]

theorem winAt_run (how : Int) (s d q : List Int) (a : Nat) (at_ : Nat → Int) (n : Nat) (h : ∀ k, k < n → sIndex s (q.set a (0 + (k : Int))) = at_ k) (m : Nat) : ∀ (c : Nat) (v : Int), c + m = n → winAt how s d q a 0 c m v = runAt how d at_ c m v := by
  induction m with
  | zero => intro c v _; rfl
  | succ m ih =>
    intro c v hc
    simp only [winAt, runAt]
    rw [h c (by omega), ih (c + 1) _ (by omega)]

/-- Number j of a fold along axis a. -/
theorem fold_along (how : Int) (s d : List Int) (a : Nat) (hr : tRight s d = true) (ha : a < s.length) (hn : 0 < s[a]) (j : Nat) (hj : (j : Int) < sSize (s.set a 1)) :
    sSize (leftOf [(a : Int)] 0 s) = sSize (s.set a 1) ∧ sRight (leftOf [(a : Int)] 0 s) = true ∧
    rd (foldRun how s (leftOf [(a : Int)] 0 s) [(a : Int)] 0 d (List.replicate (sSize (leftOf [(a : Int)] 0 s)).toNat (noneOf how))) (j : Int) = winAt how s d (plc (s.set a 1) (j : Int)) a 0 0 s[a].toNat (noneOf how) := by
  obtain ⟨s1, n, s2, hs, hl, hx⟩ := split_at s a ha
  rw [hx] at hn ⊢
  obtain ⟨n, rfl⟩ := Int.eq_ofNat_of_zero_le (show 0 ≤ n by omega)
  rw [Int.toNat_natCast]
  have hsr := (tRight_iff.1 hr).1
  have hdl := (tRight_iff.1 hr).2
  have hdims := right_dims hsr
  have hset : s.set a 1 = s1 ++ 1 :: s2 := by rw [hs, ← hl]; exact set_mid s1 _ 1 s2
  have hleft : leftOf [(a : Int)] 0 s = s1 ++ s2 := by rw [hs]; exact leftOf_one (a : Int) _ s2 s1 0 (by omega)
  have hxs : s[a]? = some (n : Int) := by rw [List.getElem?_eq_getElem ha, hx]
  have hsetr : sRight (s.set a 1) = true := right_set hsr hxs (by omega) (by omega)
  have d1 : s1.all okDim = true := by rw [hs] at hdims; exact (all_split hdims).1
  have d2 : s2.all okDim = true := by
    rw [hs] at hdims
    have := (all_split hdims).2
    simp only [List.all_cons, Bool.and_eq_true] at this
    exact this.2
  have hprod : prod (s1 ++ s2) = prod (s.set a 1) := by rw [hset, prod_append, prod_append]; simp [prod]
  have hleftr : sRight (s1 ++ s2) = true := by
    have := sRight_iff.1 hsetr
    rw [sRight_iff]
    rw [hset] at this
    refine ⟨by have := this.1; simp at this ⊢; omega, by rw [List.all_append, d1, d2]; rfl, ?_⟩
    rw [hprod, hset]; exact this.2.2
  have hsz : sSize (s1 ++ s2) = sSize (s.set a 1) := by unfold sSize; rw [if_pos hleftr, if_pos hsetr, hprod]
  rw [hleft]
  refine ⟨hsz, hleftr, ?_⟩
  -- the place of j
  obtain ⟨_, hpos⟩ := size_dims (s := s.set a 1) (i := (j : Int)) (by omega) hj
  have hq := within_plc _ hpos (j : Int)
  have hqi := sIndex_plc (s := s.set a 1) (i := (j : Int)) (by omega) hj
  generalize hqd : plc (s.set a 1) (j : Int) = q at hq hqi ⊢
  rw [hset] at hq
  obtain ⟨q1, qr, rfl, hq1, hqr⟩ := within_split s1 (1 :: s2) hq
  obtain ⟨y, q2, rfl⟩ : ∃ y q2, qr = y :: q2 := by
    cases qr with
    | nil => exact hqr.elim
    | cons y q2 => exact ⟨y, q2, rfl⟩
  have hy : y = 0 := by have := hqr.1; have := hqr.2.1; omega
  subst hy
  have hq2 := hqr.2.2
  have hlq : q1.length = a := by rw [within_len hq1, hl]
  -- numbers
  have hI : ∀ x : Int, 0 ≤ x → x < (n : Int) → sIndex s ((q1 ++ (0 : Int) :: q2).set a x) = idx s2 q2 0 + (idx s1 q1 0 * (n : Int) + x) * prod s2 := by
    intro x hx0 hx1
    have e : (q1 ++ (0 : Int) :: q2).set a x = q1 ++ x :: q2 := by rw [← hlq]; exact set_mid q1 0 x q2
    rw [e]
    unfold sIndex
    rw [if_pos ⟨hsr, by rw [hs]; simp [within_len hq1, within_len hq2]⟩, hs, idx_split s1 _ q1 _ 0 hq1, idx_in _ _ _ _ _ hx0 hx1]
    have := idx_add s2 q2 0 (idx s1 q1 0 * (n : Int) + x) hq2
    rw [Int.zero_add] at this
    exact this
  have hv := within_idx_lt d2 hq2
  have hu := within_idx s1 q1 0 hq1 (by omega)
  have hjv : (j : Int) = idx s2 q2 0 + idx s1 q1 0 * prod s2 := by
    rw [← hqi]
    unfold sIndex
    rw [if_pos ⟨hsetr, by rw [hset]; simp [within_len hq1, within_len hq2]⟩, hset, idx_split s1 _ q1 _ 0 hq1]
    have := idx_add s2 q2 0 (idx s1 q1 0 * 1 + 0) hq2
    rw [Int.zero_add] at this
    have e : idx ((1 : Int) :: s2) ((0 : Int) :: q2) (idx s1 q1 0) = idx s2 q2 (idx s1 q1 0 * 1 + 0) := idx_in _ _ _ _ _ (by omega) (by omega)
    rw [e, this]
    simp
  have hnn : (0 : Int) < n := hn
  generalize idx s2 q2 0 = v at hI hv hjv
  generalize idx s1 q1 0 = u at hI hu hjv
  have hP : 0 < prod s2 := by omega
  -- where each number goes
  have key : ∀ i : Nat, i < d.length → ∃ v' u' y', 0 ≤ v' ∧ v' < prod s2 ∧ 0 ≤ y' ∧ y' < (n : Int) ∧ (i : Int) = v' + (u' * (n : Int) + y') * prod s2 ∧ goesTo s (s1 ++ s2) [(a : Int)] (i : Int) = v' + u' * prod s2 ∧ 0 ≤ u' := by
    intro i hi
    have hi' : (i : Int) < sSize s := by omega
    obtain ⟨_, hps⟩ := size_dims (s := s) (i := (i : Int)) (by omega) hi'
    have hp := within_plc _ hps (i : Int)
    have hpi := sIndex_plc (s := s) (i := (i : Int)) (by omega) hi'
    unfold goesTo
    generalize plc s (i : Int) = p at hp hpi ⊢
    rw [hs] at hp
    obtain ⟨p1, pr, rfl, hp1, hpr⟩ := within_split s1 _ hp
    cases pr with
    | nil => exact hpr.elim
    | cons z p2 =>
      have hp2 := hpr.2.2
      have hz0 := hpr.1
      have hz1 := hpr.2.1
      have b2 := within_idx_lt d2 hp2
      have b1 := within_idx s1 p1 0 hp1 (by omega)
      refine ⟨idx s2 p2 0, idx s1 p1 0, z, b2.1, b2.2, hz0, hz1, ?_, ?_, b1⟩
      · rw [← hpi]
        unfold sIndex
        rw [if_pos ⟨hsr, by rw [hs]; simp [within_len hp1, within_len hp2]⟩, hs, idx_split s1 _ p1 _ 0 hp1, idx_in _ _ _ _ _ hz0 hz1]
        have := idx_add s2 p2 0 (idx s1 p1 0 * (n : Int) + z) hp2
        rw [Int.zero_add] at this
        exact this
      · rw [leftOf_one (a : Int) z p2 p1 0 (by rw [within_len hp1]; omega)]
        unfold sIndex
        rw [if_pos ⟨hleftr, by simp [within_len hp1, within_len hp2]⟩, idx_split s1 _ p1 _ 0 hp1]
        have := idx_add s2 p2 0 (idx s1 p1 0) hp2
        rw [Int.zero_add] at this
        exact this
  have hat : ∀ i : Nat, i < d.length → (goesTo s (s1 ++ s2) [(a : Int)] (i : Int) = (j : Int) ↔ ∃ x : Nat, x < n ∧ (i : Int) = v + (u * (n : Int) + (x : Int)) * prod s2) := by
    intro i hi
    obtain ⟨v', u', y', a1, a2, a3, a4, a5, a6, a7⟩ := key i hi
    rw [a6]
    constructor
    · intro h
      obtain ⟨rfl, rfl⟩ := digits_same a1 a2 hv.1 hv.2 (h.trans hjv)
      obtain ⟨y', rfl⟩ := Int.eq_ofNat_of_zero_le a3
      exact ⟨y', by omega, a5⟩
    · rintro ⟨x, hx, h⟩
      obtain ⟨rfl, h2⟩ := digits_same a1 a2 hv.1 hv.2 (a5.symm.trans h)
      have h3 : y' + u' * (n : Int) = (x : Int) + u * (n : Int) := by omega
      obtain ⟨_, rfl⟩ := digits_same a3 a4 (by omega) (by omega) h3
      exact hjv.symm
  have mono : ∀ x y : Nat, x < y → v + (u * (n : Int) + (x : Int)) * prod s2 < v + (u * (n : Int) + (y : Int)) * prod s2 := by
    intro x y h
    have := Int.mul_lt_mul_of_pos_right (show u * (n : Int) + (x : Int) < u * (n : Int) + (y : Int) by omega) hP
    omega
  have hlt : ∀ x : Nat, x < n → v + (u * (n : Int) + (x : Int)) * prod s2 < (d.length : Int) := by
    intro x hx
    have hw : within s ((q1 ++ (0 : Int) :: q2).set a (x : Int)) := by
      refine within_set s _ a 1 (x : Int) (n : Int) (by rw [hset]; exact hq) hxs (by omega) (by omega)
    have := within_sIndex hsr hw
    rw [hI _ (by omega) (by omega)] at this
    omega
  have hout : j < (List.replicate (sSize (s1 ++ s2)).toNat (noneOf how)).length := by simp; omega
  have := foldRun_at how s (s1 ++ s2) [(a : Int)] d j (fun x => v + (u * (n : Int) + (x : Int)) * prod s2) n hat mono hlt (fun i hi => by
    obtain ⟨v', u', y', a1, a2, a3, a4, a5, a6, a7⟩ := key i hi
    rw [a6]
    have := Int.mul_nonneg a7 (show 0 ≤ prod s2 by omega)
    omega) d [] 0 (List.replicate (sSize (s1 ++ s2)).toNat (noneOf how)) rfl hout (by omega) (fun _ => by
    have := Int.mul_nonneg (show 0 ≤ u * (n : Int) + ((0 : Nat) : Int) by have := Int.mul_nonneg hu (show (0 : Int) ≤ (n : Int) by omega); omega) (show 0 ≤ prod s2 by omega)
    simp only [List.length_nil]; omega) (fun x hx => absurd hx (by omega))
  simp only [List.length_nil, Nat.sub_zero] at this
  rw [this, rd_rep _ _ _ (by omega)]
  rw [winAt_run how s d (q1 ++ (0 : Int) :: q2) a (fun x => v + (u * (n : Int) + (x : Int)) * prod s2) n (fun k hk => by rw [Int.zero_add]; exact hI (k : Int) (by omega) (by omega)) n 0 _ (by omega)]

/-- The same, with its places as numbers. -/
theorem fold_along_run (how : Int) (s d s1 s2 : List Int) (a n : Nat) (hs : s = s1 ++ (n : Int) :: s2) (hl : s1.length = a) (hr : tRight s d = true) (hn : 0 < n) (j : Nat) (hj : (j : Int) < sSize (s.set a 1)) :
    leftOf [(a : Int)] 0 s = s1 ++ s2 ∧ sSize (s1 ++ s2) = sSize (s.set a 1) ∧ sRight (s1 ++ s2) = true ∧ ∃ v u : Int, 0 ≤ v ∧ v < prod s2 ∧ (j : Int) = v + u * prod s2 ∧
    rd (foldRun how s (s1 ++ s2) [(a : Int)] 0 d (List.replicate (sSize (s1 ++ s2)).toNat (noneOf how))) (j : Int) = runAt how d (fun x => v + (u * (n : Int) + (x : Int)) * prod s2) 0 n (noneOf how) := by
  have ha : a < s.length := by rw [hs]; simp; omega
  have hsr := (tRight_iff.1 hr).1
  have hdl := (tRight_iff.1 hr).2
  have hdims := right_dims hsr
  have hset : s.set a 1 = s1 ++ 1 :: s2 := by rw [hs, ← hl]; exact set_mid s1 _ 1 s2
  have hleft : leftOf [(a : Int)] 0 s = s1 ++ s2 := by rw [hs]; exact leftOf_one (a : Int) _ s2 s1 0 (by omega)
  have hxs : s[a]? = some (n : Int) := by rw [hs, ← hl]; simp
  have hsetr : sRight (s.set a 1) = true := right_set hsr hxs (by omega) (by omega)
  have d1 : s1.all okDim = true := by rw [hs] at hdims; exact (all_split hdims).1
  have d2 : s2.all okDim = true := by
    rw [hs] at hdims
    have := (all_split hdims).2
    simp only [List.all_cons, Bool.and_eq_true] at this
    exact this.2
  have hprod : prod (s1 ++ s2) = prod (s.set a 1) := by rw [hset, prod_append, prod_append]; simp [prod]
  have hleftr : sRight (s1 ++ s2) = true := by
    have := sRight_iff.1 hsetr
    rw [sRight_iff]
    rw [hset] at this
    refine ⟨by have := this.1; simp at this ⊢; omega, by rw [List.all_append, d1, d2]; rfl, ?_⟩
    rw [hprod, hset]; exact this.2.2
  have hsz : sSize (s1 ++ s2) = sSize (s.set a 1) := by unfold sSize; rw [if_pos hleftr, if_pos hsetr, hprod]
  refine ⟨hleft, hsz, hleftr, ?_⟩
  -- the place of j
  obtain ⟨_, hpos⟩ := size_dims (s := s.set a 1) (i := (j : Int)) (by omega) hj
  have hq := within_plc _ hpos (j : Int)
  have hqi := sIndex_plc (s := s.set a 1) (i := (j : Int)) (by omega) hj
  generalize hqd : plc (s.set a 1) (j : Int) = q at hq hqi ⊢
  rw [hset] at hq
  obtain ⟨q1, qr, rfl, hq1, hqr⟩ := within_split s1 (1 :: s2) hq
  obtain ⟨y, q2, rfl⟩ : ∃ y q2, qr = y :: q2 := by
    cases qr with
    | nil => exact hqr.elim
    | cons y q2 => exact ⟨y, q2, rfl⟩
  have hy : y = 0 := by have := hqr.1; have := hqr.2.1; omega
  subst hy
  have hq2 := hqr.2.2
  have hlq : q1.length = a := by rw [within_len hq1, hl]
  -- numbers
  have hI : ∀ x : Int, 0 ≤ x → x < (n : Int) → sIndex s ((q1 ++ (0 : Int) :: q2).set a x) = idx s2 q2 0 + (idx s1 q1 0 * (n : Int) + x) * prod s2 := by
    intro x hx0 hx1
    have e : (q1 ++ (0 : Int) :: q2).set a x = q1 ++ x :: q2 := by rw [← hlq]; exact set_mid q1 0 x q2
    rw [e]
    unfold sIndex
    rw [if_pos ⟨hsr, by rw [hs]; simp [within_len hq1, within_len hq2]⟩, hs, idx_split s1 _ q1 _ 0 hq1, idx_in _ _ _ _ _ hx0 hx1]
    have := idx_add s2 q2 0 (idx s1 q1 0 * (n : Int) + x) hq2
    rw [Int.zero_add] at this
    exact this
  have hv := within_idx_lt d2 hq2
  have hu := within_idx s1 q1 0 hq1 (by omega)
  have hjv : (j : Int) = idx s2 q2 0 + idx s1 q1 0 * prod s2 := by
    rw [← hqi]
    unfold sIndex
    rw [if_pos ⟨hsetr, by rw [hset]; simp [within_len hq1, within_len hq2]⟩, hset, idx_split s1 _ q1 _ 0 hq1]
    have := idx_add s2 q2 0 (idx s1 q1 0 * 1 + 0) hq2
    rw [Int.zero_add] at this
    have e : idx ((1 : Int) :: s2) ((0 : Int) :: q2) (idx s1 q1 0) = idx s2 q2 (idx s1 q1 0 * 1 + 0) := idx_in _ _ _ _ _ (by omega) (by omega)
    rw [e, this]
    simp
  have hnn : (0 : Int) < (n : Int) := by omega
  generalize idx s2 q2 0 = v at hI hv hjv
  generalize idx s1 q1 0 = u at hI hu hjv
  have hP : 0 < prod s2 := by omega
  -- where each number goes
  have key : ∀ i : Nat, i < d.length → ∃ v' u' y', 0 ≤ v' ∧ v' < prod s2 ∧ 0 ≤ y' ∧ y' < (n : Int) ∧ (i : Int) = v' + (u' * (n : Int) + y') * prod s2 ∧ goesTo s (s1 ++ s2) [(a : Int)] (i : Int) = v' + u' * prod s2 ∧ 0 ≤ u' := by
    intro i hi
    have hi' : (i : Int) < sSize s := by omega
    obtain ⟨_, hps⟩ := size_dims (s := s) (i := (i : Int)) (by omega) hi'
    have hp := within_plc _ hps (i : Int)
    have hpi := sIndex_plc (s := s) (i := (i : Int)) (by omega) hi'
    unfold goesTo
    generalize plc s (i : Int) = p at hp hpi ⊢
    rw [hs] at hp
    obtain ⟨p1, pr, rfl, hp1, hpr⟩ := within_split s1 _ hp
    cases pr with
    | nil => exact hpr.elim
    | cons z p2 =>
      have hp2 := hpr.2.2
      have hz0 := hpr.1
      have hz1 := hpr.2.1
      have b2 := within_idx_lt d2 hp2
      have b1 := within_idx s1 p1 0 hp1 (by omega)
      refine ⟨idx s2 p2 0, idx s1 p1 0, z, b2.1, b2.2, hz0, hz1, ?_, ?_, b1⟩
      · rw [← hpi]
        unfold sIndex
        rw [if_pos ⟨hsr, by rw [hs]; simp [within_len hp1, within_len hp2]⟩, hs, idx_split s1 _ p1 _ 0 hp1, idx_in _ _ _ _ _ hz0 hz1]
        have := idx_add s2 p2 0 (idx s1 p1 0 * (n : Int) + z) hp2
        rw [Int.zero_add] at this
        exact this
      · rw [leftOf_one (a : Int) z p2 p1 0 (by rw [within_len hp1]; omega)]
        unfold sIndex
        rw [if_pos ⟨hleftr, by simp [within_len hp1, within_len hp2]⟩, idx_split s1 _ p1 _ 0 hp1]
        have := idx_add s2 p2 0 (idx s1 p1 0) hp2
        rw [Int.zero_add] at this
        exact this
  have hat : ∀ i : Nat, i < d.length → (goesTo s (s1 ++ s2) [(a : Int)] (i : Int) = (j : Int) ↔ ∃ x : Nat, x < n ∧ (i : Int) = v + (u * (n : Int) + (x : Int)) * prod s2) := by
    intro i hi
    obtain ⟨v', u', y', a1, a2, a3, a4, a5, a6, a7⟩ := key i hi
    rw [a6]
    constructor
    · intro h
      obtain ⟨rfl, rfl⟩ := digits_same a1 a2 hv.1 hv.2 (h.trans hjv)
      obtain ⟨y', rfl⟩ := Int.eq_ofNat_of_zero_le a3
      exact ⟨y', by omega, a5⟩
    · rintro ⟨x, hx, h⟩
      obtain ⟨rfl, h2⟩ := digits_same a1 a2 hv.1 hv.2 (a5.symm.trans h)
      have h3 : y' + u' * (n : Int) = (x : Int) + u * (n : Int) := by omega
      obtain ⟨_, rfl⟩ := digits_same a3 a4 (by omega) (by omega) h3
      exact hjv.symm
  have mono : ∀ x y : Nat, x < y → v + (u * (n : Int) + (x : Int)) * prod s2 < v + (u * (n : Int) + (y : Int)) * prod s2 := by
    intro x y h
    have := Int.mul_lt_mul_of_pos_right (show u * (n : Int) + (x : Int) < u * (n : Int) + (y : Int) by omega) hP
    omega
  have hlt : ∀ x : Nat, x < n → v + (u * (n : Int) + (x : Int)) * prod s2 < (d.length : Int) := by
    intro x hx
    have hw : within s ((q1 ++ (0 : Int) :: q2).set a (x : Int)) := by
      refine within_set s _ a 1 (x : Int) (n : Int) (by rw [hset]; exact hq) hxs (by omega) (by omega)
    have := within_sIndex hsr hw
    rw [hI _ (by omega) (by omega)] at this
    omega
  have hout : j < (List.replicate (sSize (s1 ++ s2)).toNat (noneOf how)).length := by simp; omega
  have := foldRun_at how s (s1 ++ s2) [(a : Int)] d j (fun x => v + (u * (n : Int) + (x : Int)) * prod s2) n hat mono hlt (fun i hi => by
    obtain ⟨v', u', y', a1, a2, a3, a4, a5, a6, a7⟩ := key i hi
    rw [a6]
    have := Int.mul_nonneg a7 (show 0 ≤ prod s2 by omega)
    omega) d [] 0 (List.replicate (sSize (s1 ++ s2)).toNat (noneOf how)) rfl hout (by omega) (fun _ => by
    have := Int.mul_nonneg (show 0 ≤ u * (n : Int) + ((0 : Nat) : Int) by have := Int.mul_nonneg hu (show (0 : Int) ≤ (n : Int) by omega); omega) (show 0 ≤ prod s2 by omega)
    simp only [List.length_nil]; omega) (fun x hx => absurd hx (by omega))
  simp only [List.length_nil, Nat.sub_zero] at this
  rw [rd_rep _ _ _ (by omega)] at this
  exact ⟨v, u, hv.1, hv.2, hjv, this⟩

end Go.Proofs.Ytkeclgfnlpkjeaa.Plain
