/- WindowOnes: windows of one number, next to each other, are the numbers; as wide as all is long they are the fold. -/
import Derived.Test.YtkeclgfnlpkjeaaLaw8
import Derived.Test.YtkeclgfnlpkjeaaAlong
import Derived.Test.YtkeclgfnlpkjeaaQx23
namespace Go.Proofs.Ytkeclgfnlpkjeaa.Pure
open Go.RowKit Go.Proofs.YtkeclgfnlpkjeaaW.PrintWords Go.Proofs.Ytkeclgfnlpkjeaa.Q Go.Proofs.Ytkeclgfnlpkjeaa.Plain

theorem and3 (x : Int) : 0 ≤ Go.bits .and .i64 x 3 ∧ Go.bits .and .i64 x 3 ≤ 3 := by
  have e : Go.bits .and .i64 x 3 = IntKind.i64.wrap (((BitVec.ofInt IntKind.i64.bits x &&& BitVec.ofInt IntKind.i64.bits 3).toNat : Nat) : Int) := rfl
  have h : (BitVec.ofInt IntKind.i64.bits x &&& BitVec.ofInt IntKind.i64.bits 3).toNat ≤ 3 := by
    rw [BitVec.toNat_and]
    exact Nat.le_trans Nat.and_le_right (by decide)
  rw [e, IntKind.wrap_i64]
  omega

theorem how14 (x : Int) : wrap64 (1 + Go.bits .and .i64 x 3) = 1 + Go.bits .and .i64 x 3 ∧ okHow (1 + Go.bits .and .i64 x 3) = true := by
  have h := and3 x
  refine ⟨w64 (by omega) (by omega), ?_⟩
  simp only [okHow, Bool.and_eq_true, decide_eq_true_eq]
  omega

theorem step_none {how v : Int} (hh : okHow how = true) (hv : I64 v) : stepOf how (noneOf how) v = v := by
  simp only [okHow, Bool.and_eq_true, decide_eq_true_eq] at hh
  unfold I64 at hv
  have : how = 1 ∨ how = 2 ∨ how = 3 ∨ how = 4 := by omega
  rcases this with rfl | rfl | rfl | rfl
  · simp only [stepOf, noneOf, if_true]
    rw [if_neg (by decide), if_neg (by decide), if_neg (by decide), Int.zero_add, w64 hv.1 hv.2]
  · simp only [stepOf, noneOf, if_true]
    rw [if_neg (by decide), Int.one_mul, w64 hv.1 hv.2]
  · show mn 9223372036854775807 v = v
    unfold mn
    by_cases h : v < 9223372036854775807
    · rw [if_pos h]
    · rw [if_neg h]; omega
  · show mx (-9223372036854775808) v = v
    unfold mx
    by_cases h : -9223372036854775808 < v
    · rw [if_pos h]
    · rw [if_neg h]; omega

theorem rd_ext {a b : List Int} (hl : a.length = b.length) (h : ∀ i : Nat, i < a.length → rd a (i : Int) = rd b (i : Int)) : a = b := by
  refine List.ext_getElem hl fun i h1 h2 => ?_
  rw [← rd_nat a i h1, ← rd_nat b i h2]
  exact h i h1

theorem outW_one {n : Int} (h0 : 0 ≤ n) (h1 : n ≤ 32) : outW n 1 1 = n := by
  unfold outW
  rw [if_neg (by omega), if_neg (by omega), if_neg (by omega)]
  by_cases h : 1 > n
  · rw [if_pos h]; omega
  · rw [if_neg h, w64 (n := n - 1) (by omega) (by omega), Int.tdiv_one, w64 (n := n - 1) (by omega) (by omega), w64 (by omega) (by omega)]
    omega

theorem outW_all {n : Int} (h0 : 1 ≤ n) (h1 : n ≤ 32) : outW n n 1 = 1 := by
  unfold outW
  rw [if_neg (by omega), if_neg (by omega), if_neg (by omega), if_neg (by omega), w64 (n := n - n) (by omega) (by omega), Int.tdiv_one, w64 (n := n - n) (by omega) (by omega), w64 (by omega) (by omega)]
  omega

theorem tWindow_one {how : Int} (hh : okHow how = true) {s d : List Int} {a : Nat} (hr : tRight s d = true) (ha : a < s.length) (hd : ∀ x ∈ d, I64 x) : tWindow how s d (a : Int) 1 1 = (s, d, 0) := by
  have hsr := (tRight_iff.1 hr).1
  have hdl := (tRight_iff.1 hr).2
  have hx32 := okDim_iff.1 (List.all_eq_true.1 (right_dims hsr) s[a] (List.getElem_mem ha))
  unfold tWindow
  have h1 : (okHow how && (okW 1 && okW 1)) = true := by rw [hh]; rfl
  have hset : s.set a s[a] = s := by simp
  rw [if_pos h1, if_pos hr, if_neg (by omega), rd_nat s a ha, outW_one hx32.1 hx32.2, Int.toNat_natCast, hset]
  congr 1
  congr 1
  refine rd_ext (by rw [madeOf_length]; omega) fun i hi => ?_
  rw [madeOf_length] at hi
  have hi' : (i : Int) < sSize s := by omega
  rw [rd_made s _ i hi']
  have hpl : a < (plc s (i : Int)).length := by rw [plc_length]; exact ha
  have hsame : (plc s (i : Int)).set a (rd (plc s (i : Int)) (a : Int) * 1 + ((0 : Nat) : Int)) = plc s (i : Int) := by
    rw [rd_nat _ a hpl]
    simp
  show winAt how s d (plc s (i : Int)) a (rd (plc s (i : Int)) (a : Int) * 1) 0 1 (noneOf how) = rd d (i : Int)
  simp only [winAt]
  rw [hsame, sIndex_plc (by omega) hi']
  have hil : i < d.length := by omega
  rw [rd_nat d i hil]
  exact step_none hh (hd _ (List.getElem_mem hil))

theorem foldRun_len (how : Int) (s t a d : List Int) : ∀ (i : Nat) (out : List Int), (foldRun how s t a i d out).length = out.length := by
  induction d with
  | nil => intro i out; rfl
  | cons x xs ih => intro i out; simp only [foldRun]; rw [ih]; simp

/-- A window as wide as all is long, and the fold: number by number the same. -/
theorem tWindow_all {how : Int} (hh : okHow how = true) {s d : List Int} {a : Nat} (hr : tRight s d = true) (ha : a < s.length) (hn : s[a] ≠ 0) :
    (tWindow how s d (a : Int) s[a] 1).2.2 = 0 ∧ (tWindow how s d (a : Int) s[a] 1).2.1 = (tFold how s d [(a : Int)]).2.1 := by
  have hsr := (tRight_iff.1 hr).1
  have hx32 := okDim_iff.1 (List.all_eq_true.1 (right_dims hsr) s[a] (List.getElem_mem ha))
  have hw : okW s[a] = true := by rw [okW_iff]; omega
  have h1 : (okHow how && (okW s[a] && okW 1)) = true := by rw [hh, hw]; rfl
  have hxs : s[a]? = some s[a] := List.getElem?_eq_getElem ha
  have hsetr : sRight (s.set a 1) = true := right_set hsr hxs (by omega) (by omega)
  have hz := size_range (s.set a 1)
  have e : tWindow how s d (a : Int) s[a] 1 = (s.set a 1, madeOf (s.set a 1) (fun p => winAt how s d p a (rd p (a : Int) * 1) 0 s[a].toNat (noneOf how)), 0) := by
    unfold tWindow
    rw [if_pos h1, if_pos hr, if_neg (by omega), rd_nat s a ha, outW_all (by omega) hx32.2, Int.toNat_natCast]
  have hris : risen (s.length : Int) (-1) [(a : Int)] = true := by
    simp [risen]
    omega
  rw [e]
  refine ⟨rfl, ?_⟩
  by_cases hz0 : sSize (s.set a 1) = 0
  · -- no numbers at all: by their count
    have hl := split_at s a ha
    obtain ⟨s1, x, s2, hs, hla, hx⟩ := hl
    have hset : s.set a 1 = s1 ++ 1 :: s2 := by rw [hs, ← hla]; exact set_mid s1 _ 1 s2
    have hleft : Plain.leftOf [(a : Int)] 0 s = s1 ++ s2 := by rw [hs]; exact leftOf_one (a : Int) _ s2 s1 0 (by omega)
    have hprod : prod (s1 ++ s2) = prod (s.set a 1) := by rw [hset, prod_append, prod_append]; simp [prod]
    have hdims := right_dims hsr
    have d1 : (s1 ++ s2).all okDim = true := by
      rw [hs] at hdims
      have h2 := all_split hdims
      simp only [List.all_cons, Bool.and_eq_true] at h2
      rw [List.all_append, h2.1, h2.2.2]; rfl
    have hleftr : sRight (s1 ++ s2) = true := by
      have h2 := sRight_iff.1 hsetr
      rw [sRight_iff]
      refine ⟨?_, d1, by rw [hprod]; exact h2.2.2⟩
      have h3 := h2.1
      rw [hset] at h3
      simp at h3 ⊢; omega
    have hsz : sSize (s1 ++ s2) = sSize (s.set a 1) := by unfold sSize; rw [if_pos hleftr, if_pos hsetr, hprod]
    unfold tFold
    rw [if_pos hh, if_pos hr, if_pos hris, hleft, if_pos hleftr]
    refine rd_ext (by rw [madeOf_length, foldRun_len]; simp; omega) fun i hi => absurd hi ?_
    rw [madeOf_length]; omega
  · have hz1 : 0 < sSize (s.set a 1) := by omega
    obtain ⟨hsz, hleftr, _⟩ := fold_along how s d a hr ha (by omega) 0 (by omega)
    unfold tFold
    rw [if_pos hh, if_pos hr, if_pos hris, if_pos hleftr]
    refine rd_ext (by rw [madeOf_length, foldRun_len]; simp; omega) fun i hi => ?_
    rw [madeOf_length] at hi
    have hi' : (i : Int) < sSize (s.set a 1) := by omega
    rw [rd_made _ _ i hi', (fold_along how s d a hr ha (by omega) i hi').2.2]
    obtain ⟨_, hpos⟩ := size_dims (s := s.set a 1) (i := (i : Int)) (by omega) hi'
    have hq := within_rd s _ a 1 (within_plc _ hpos (i : Int)) ha
    have : rd (plc (s.set a 1) (i : Int)) (a : Int) * 1 = 0 := by omega
    rw [this]

theorem ones_l0 (A B xs ys : List Int) (hx : xs.length < 9223372036854775807) (hl : xs = ys) (m : Nat) : ∀ i : Nat, i + m = xs.length → Ev (fun k => parquetrylaw8_WindowOnes.l0 k (xs.length : Int) (i : Int) A xs B ys) true := by
  subst hl
  induction m with
  | zero =>
    intro i hi
    refine Ev.step (f := fun k => (parquetrylaw8_known.f k).bind fun t => if t = true then some true else none) (fun k => ?_) law8_end
    simp only [parquetrylaw8_WindowOnes.l0]
    rw [if_neg (by omega)]
  | succ m ih =>
    intro i hi
    refine Ev.step (fun k => ?_) (ih (i + 1) (by omega))
    simp only [parquetrylaw8_WindowOnes.l0]
    rw [if_pos (by omega), if_pos (by omega), if_pos (by omega), if_pos (by omega), if_pos trivial, wsucc _ (by omega)]

theorem ones_j0 (how axis : Int) (s l : List Int) (p : Int) (hsm : SmallShape s) (hne : 0 < s.length) (hp : TapeOk l p) : Ev (fun k => parquetrylaw8_WindowOnes.j0 k how axis s l p) true := by
  obtain ⟨d, c, hd, _, hdl, hdr⟩ := tape_Tensor_ev hp s (by have := hsm.1; omega)
  have hs3 := hsm.1
  have hr : tRight s d = true := tRight_iff.2 ⟨small_right hsm, hdl⟩
  have hm := tmod_twice (a := axis) (n := (s.length : Int)) (by omega) (by omega)
  obtain ⟨hw, hh⟩ := how14 how
  refine Ev.step (f := ?f) ?h ?e
  case h => intro k; simp only [parquetrylaw8_WindowOnes.j0, hw]; exact rfl
  case e =>
    generalize Int.tmod (wrap64 (Int.tmod axis (s.length : Int) + (s.length : Int))) (s.length : Int) = a at hm ⊢
    generalize 1 + Go.bits .and .i64 how 3 = h at hh ⊢
    obtain ⟨a, rfl⟩ := Int.eq_ofNat_of_zero_le hm.1
    have ha : a < s.length := by omega
    refine Ev.bind hd ?_
    refine Ev.congr (fun k => by rw [if_neg (by omega)]) (Ev.bind (window_Do_ev h s d (a : Int) 1 1) ?_)
    rw [tWindow_one hh hr ha hdr]
    refine Ev.congr (fun k => by rw [if_pos rfl]) (Ev.bind (ref_Same_ev s d s d (by omega) (by have := size_range s; omega)) ?_)
    rw [tSame_self]
    have hx32 := okDim_iff.1 (List.all_eq_true.1 (right_dims (small_right hsm)) s[a] (List.getElem_mem ha))
    by_cases hn : s[a] = 0
    · refine Ev.step (f := fun k => (parquetrylaw8_known.f k).bind fun t => if t = true then some true else none) (fun k => ?_) law8_end
      simp only [parquetrylaw8_WindowOnes.j1]
      rw [if_neg (by decide), if_pos (by omega), if_pos (by omega), if_pos (by rw [rd_nat s a ha]; exact hn)]
    · refine Ev.step (f := fun k => (window_Do.f k h s d (a : Int) s[a] 1).bind fun bt => (parquetryref4_Fold.f k h s d [(a : Int)]).bind fun bu => if bt.2.2 = 0 then parquetrylaw8_WindowOnes.j2 k ((bt.2.1.length : Int) != (bu.2.1.length : Int)) bt.1 bt.2.1 bu.1 bu.2.1 else none) (fun k => ?_) ?_
      · simp only [parquetrylaw8_WindowOnes.j1]
        rw [if_neg (by decide), if_pos (by omega), if_pos (by omega), if_neg (by rw [rd_nat s a ha]; exact hn), rd_nat s a ha]
      · refine Ev.bind (window_Do_ev h s d (a : Int) s[a] 1) (Ev.bind (ref_Fold_ev h s d [(a : Int)] (by omega) (by simp)) ?_)
        obtain ⟨e1, e2⟩ := tWindow_all hh hr ha hn
        have hsh := tWindow_short h s d (a : Int) s[a] 1
        refine Ev.congr (fun k => by rw [if_pos e1]) ?_
        rw [e2]
        rw [e2] at hsh
        refine Ev.step (fun k => ?_) (ones_l0 (tWindow h s d (a : Int) s[a] 1).1 (tFold h s d [(a : Int)]).1 (tFold h s d [(a : Int)]).2.1 (tFold h s d [(a : Int)]).2.1 (by omega) rfl (tFold h s d [(a : Int)]).2.1.length 0 (by omega))
        simp only [parquetrylaw8_WindowOnes.j2]
        rw [if_neg (by simp)]
        rfl

theorem WindowOnes : parquetrylaw8_WindowOnes.Pure := by
  intro a0 l1 a2
  intros
  refine Ev.rounds (g := fun k => parquetrylaw8_WindowOnes.f k a0 l1 a2) ?_
  unfold parquetrylaw8_WindowOnes.f
  obtain ⟨r, b, hn, hb, r0, r1, _⟩ := next_ev (tape_of (l := l1) (by assumption) (by assumption)) 5 (by decide)
  have r5 := r1 (by decide)
  refine Ev.bind hn ?_
  simp only [Option.bind_some]
  rw [w64 (n := 1 + r) (by omega) (by omega)]
  obtain ⟨s, c, hs, hc, hsm⟩ := tape_Shape_ev hb
  refine Ev.bind hs ?_
  have hs3 := hsm.1
  refine Ev.congr (fun k => by rw [if_pos (by simp; omega)]) ?_
  dsimp only
  have hall : ∀ x ∈ (1 + r) :: s, 0 ≤ x ∧ x ≤ 7 := by
    intro x hx
    rcases List.mem_cons.1 hx with rfl | hx
    · omega
    · exact hsm.2 x hx
  by_cases h : (([1 + r] ++ s).length : Int) > 3
  · refine Ev.congr (fun k => by rw [if_pos h, if_pos (by omega)]; rfl) (ones_j0 a0 a2 (((1 + r) :: s).take 3) l1 c ⟨by simp; omega, fun x hx => hall x (List.mem_of_mem_take hx)⟩ (by simp) hc)
  · refine Ev.congr (fun k => by rw [if_neg h]; rfl) (ones_j0 a0 a2 ((1 + r) :: s) l1 c ⟨by simp at h ⊢; omega, hall⟩ (by simp) hc)

end Go.Proofs.Ytkeclgfnlpkjeaa.Pure
