/- Folds in whatever order, folds along no axis and along an axis of one; a tensor of three axes turned round. -/
import Derived.Test.YtkeclgfnlpkjeaaAlong
import Derived.Test.YtkeclgfnlpkjeaaQx16
import Derived.Test.YtkeclgfnlpkjeaaQx27
import Derived.Test.YtkeclgfnlpkjeaaQx34
namespace Go.Proofs.Ytkeclgfnlpkjeaa.Plain
open Go.RowKit Go.Proofs.YtkeclgfnlpkjeaaW.PrintWords Go.Proofs.Ytkeclgfnlpkjeaa.Q

theorem rd_same {a b : List Int} (hl : a.length = b.length) (h : ∀ i : Nat, i < a.length → rd a (i : Int) = rd b (i : Int)) : a = b := by
  refine List.ext_getElem hl fun i h1 h2 => ?_
  rw [← rd_nat a i h1, ← rd_nat b i h2]
  exact h i h1

/-! ### The order makes no difference -/
theorem wrap_add (z m : Int) : wrap64 (z + 18446744073709551616 * m) = wrap64 z := by
  unfold wrap64
  omega
theorem wrap_is (a : Int) : ∃ k : Int, wrap64 a = a + 18446744073709551616 * k := ⟨-((a + 9223372036854775808) / 18446744073709551616), by unfold wrap64; omega⟩
theorem wrap_mul (a y : Int) : wrap64 (wrap64 a * y) = wrap64 (a * y) := by
  obtain ⟨k, hk⟩ := wrap_is a
  rw [hk, Int.add_mul, Int.mul_assoc, wrap_add]
theorem mn_comm3 (v x y : Int) : mn (mn v x) y = mn (mn v y) x := by
  unfold mn
  by_cases h1 : x < v
  · by_cases h2 : y < v
    · rw [if_pos h1, if_pos h2]
      by_cases h3 : y < x
      · rw [if_pos h3, if_neg (by omega)]
      · rw [if_neg h3]
        by_cases h4 : x < y
        · rw [if_pos h4]
        · rw [if_neg h4]; omega
    · rw [if_pos h1, if_neg h2, if_pos h1, if_neg (by omega)]
  · by_cases h2 : y < v
    · rw [if_neg h1, if_pos h2, if_neg (by omega)]
    · rw [if_neg h1, if_neg h2, if_neg h1]
theorem mx_comm3 (v x y : Int) : mx (mx v x) y = mx (mx v y) x := by
  unfold mx
  by_cases h1 : v < x
  · by_cases h2 : v < y
    · rw [if_pos h1, if_pos h2]
      by_cases h3 : x < y
      · rw [if_pos h3, if_neg (by omega)]
      · rw [if_neg h3]
        by_cases h4 : y < x
        · rw [if_pos h4]
        · rw [if_neg h4]; omega
    · rw [if_pos h1, if_neg h2, if_pos h1, if_neg (by omega)]
  · by_cases h2 : v < y
    · rw [if_neg h1, if_pos h2, if_neg (by omega)]
    · rw [if_neg h1, if_neg h2, if_neg h1]
theorem step_comm (how v x y : Int) : stepOf how (stepOf how v x) y = stepOf how (stepOf how v y) x := by
  unfold stepOf
  by_cases h1 : how = 1
  · rw [if_pos h1, if_pos h1, if_pos h1, if_pos h1]
    unfold wrap64
    omega
  · rw [if_neg h1, if_neg h1, if_neg h1, if_neg h1]
    by_cases h2 : how = 2
    · rw [if_pos h2, if_pos h2, if_pos h2, if_pos h2, wrap_mul, wrap_mul, Int.mul_right_comm]
    · rw [if_neg h2, if_neg h2, if_neg h2, if_neg h2]
      by_cases h3 : how = 3
      · rw [if_pos h3, if_pos h3, if_pos h3, if_pos h3, mn_comm3]
      · rw [if_neg h3, if_neg h3, if_neg h3, if_neg h3]
        by_cases h4 : how = 4
        · rw [if_pos h4, if_pos h4, if_pos h4, if_pos h4, mx_comm3]
        · rw [if_neg h4, if_neg h4]
theorem perm_foldl {f : Int → Int → Int} (hf : ∀ v x y, f (f v x) y = f (f v y) x) {l l' : List Int} (h : l.Perm l') : ∀ v, l.foldl f v = l'.foldl f v := by
  induction h with
  | nil => intro v; rfl
  | cons x _ ih => intro v; exact ih _
  | swap x y l => intro v; simp only [List.foldl_cons]; rw [hf]
  | trans _ _ ih1 ih2 => intro v; rw [ih1, ih2]

theorem step_nothing {how v : Int} (hh : okHow how = true) (hv : I64 v) : stepOf how (noneOf how) v = v := by
  simp only [okHow, Bool.and_eq_true, decide_eq_true_eq] at hh
  unfold I64 at hv
  have : how = 1 ∨ how = 2 ∨ how = 3 ∨ how = 4 := by omega
  rcases this with rfl | rfl | rfl | rfl
  · simp only [stepOf, noneOf, if_true]
    rw [if_neg (by decide), if_neg (by decide), if_neg (by decide), Int.zero_add, w64 hv.1 hv.2]
  · simp only [stepOf, noneOf, if_true]
    rw [if_neg (by decide), Int.one_mul, w64 hv.1 hv.2]
  · show mn 9223372036854775807 v = v
    unfold mn
    by_cases h : v < 9223372036854775807
    · rw [if_pos h]
    · rw [if_neg h]; omega
  · show mx (-9223372036854775808) v = v
    unfold mx
    by_cases h : -9223372036854775808 < v
    · rw [if_pos h]
    · rw [if_neg h]; omega

/-! ### Folds of tensors of three axes -/
theorem fold_all_run (how x y z : Int) (ds : List Int) : ∀ (i : Nat) (v : Int), foldRun how [x, y, z] [] [0, 1, 2] i ds [v] = [ds.foldl (stepOf how) v] := by
  induction ds with
  | nil => intro i v; rfl
  | cons d ds ih =>
    intro i v
    have hg : goesTo [x, y, z] [] [0, 1, 2] (i : Int) = 0 := by
      unfold goesTo
      have : leftOf [0, 1, 2] 0 (plc [x, y, z] (i : Int)) = [] := by simp [plc, leftOf]
      rw [this]
      decide
    simp only [foldRun]
    rw [hg]
    have e : ([v] : List Int).set (0 : Int).toNat (stepOf how (rd [v] 0) d) = [stepOf how v d] := by
      have : rd [v] 0 = v := by have := rd_nat [v] 0 (by simp); simpa using this
      rw [this]; rfl
    rw [e, ih]
    rfl
theorem fold_all {how x y z : Int} {d : List Int} (hh : okHow how = true) (hr : tRight [x, y, z] d = true) : tFold how [x, y, z] d [0, 1, 2] = ([], [d.foldl (stepOf how) (noneOf how)], 0) := by
  unfold tFold
  have hris : risen (([x, y, z] : List Int).length : Int) (-1) [0, 1, 2] = true := by
    show risen ((3 : Nat) : Int) (-1) [0, 1, 2] = true
    decide
  have hl : leftOf [0, 1, 2] 0 [x, y, z] = [] := by simp [leftOf]
  rw [if_pos hh, if_pos hr, if_pos hris, hl, if_pos (by decide)]
  have e : List.replicate (sSize ([] : List Int)).toNat (noneOf how) = [noneOf how] := by
    have : (sSize ([] : List Int)).toNat = 1 := by decide
    rw [this]; rfl
  rw [e, fold_all_run]

theorem leftOf_no (xs : List Int) : ∀ j : Int, leftOf [] j xs = xs := by
  induction xs with
  | nil => intro j; rfl
  | cons x xs ih => intro j; simp [leftOf, ih]
theorem foldRun_length2 (how : Int) (s t a d : List Int) : ∀ (i : Nat) (out : List Int), (foldRun how s t a i d out).length = out.length := by
  induction d with
  | nil => intro i out; rfl
  | cons x xs ih => intro i out; simp only [foldRun]; rw [ih]; simp
theorem fold_none {how : Int} {s d : List Int} (hh : okHow how = true) (hr : tRight s d = true) (hd : ∀ x ∈ d, I64 x) : tFold how s d [] = (s, d, 0) := by
  have hsr := (tRight_iff.1 hr).1
  have hdl := (tRight_iff.1 hr).2
  unfold tFold
  have hris : risen (s.length : Int) (-1) [] = true := rfl
  rw [if_pos hh, if_pos hr, if_pos hris, leftOf_no, if_pos hsr]
  congr 1
  congr 1
  refine rd_same (by rw [foldRun_length2]; simp; omega) fun j hj => ?_
  rw [foldRun_length2, List.length_replicate] at hj
  have hjd : j < d.length := by omega
  have hgo : ∀ i : Nat, i < d.length → goesTo s s [] (i : Int) = (i : Int) := by
    intro i hi
    unfold goesTo
    rw [leftOf_no, sIndex_plc (by omega) (by omega)]
  have := foldRun_at how s s [] d j (fun x => (j : Int) + (x : Int)) 1 (fun i hi => by
      rw [hgo i hi]
      exact ⟨fun h => ⟨0, by omega, by omega⟩, fun ⟨x, hx, h⟩ => by omega⟩) (fun x y h => by omega) (fun x hx => by omega) (fun i hi => by rw [hgo i hi]; omega) d [] 0 (List.replicate (sSize s).toNat (noneOf how)) rfl (by simpa using hj) (by omega) (fun _ => by simp) (fun x hx => absurd hx (by omega))
  simp only [List.length_nil, Nat.sub_zero] at this
  rw [this, rd_rep _ _ _ hj]
  simp only [runAt]
  have e : (j : Int) + ((0 : Nat) : Int) = (j : Int) := by omega
  rw [e, rd_nat d j hjd]
  exact step_nothing hh (hd _ (List.getElem_mem hjd))

theorem fold_mid {how x z : Int} {d : List Int} (hh : okHow how = true) (hr : tRight [x, 1, z] d = true) (hd : ∀ e ∈ d, I64 e) : (tFold how [x, 1, z] d [1]).2.2 = 0 ∧ (tFold how [x, 1, z] d [1]).2.1 = d := by
  have hsr := (tRight_iff.1 hr).1
  have hdl := (tRight_iff.1 hr).2
  have hset : ([x, 1, z] : List Int).set 1 1 = [x, 1, z] := rfl
  have hris : risen (([x, 1, z] : List Int).length : Int) (-1) [1] = true := by
    show risen ((3 : Nat) : Int) (-1) [1] = true
    decide
  have hl : leftOf [((1 : Nat) : Int)] 0 [x, 1, z] = [x, z] := by simp [leftOf]
  have hl' : leftOf [1] 0 [x, 1, z] = [x, z] := hl
  have hprod : prod [x, z] = prod [x, 1, z] := by simp [prod]
  have hright : sRight [x, z] = true := by
    have h := sRight_iff.1 hsr
    rw [sRight_iff]
    refine ⟨by simp, ?_, by rw [hprod]; exact h.2.2⟩
    have h2 := h.2.1
    simp only [List.all_cons, List.all_nil, Bool.and_eq_true] at h2 ⊢
    exact ⟨h2.1, h2.2.2⟩
  have hsz : sSize [x, z] = sSize [x, 1, z] := by unfold sSize; rw [if_pos hright, if_pos hsr, hprod]
  have hz := size_range [x, 1, z]
  unfold tFold
  rw [if_pos hh, if_pos hr, if_pos hris, hl', if_pos hright]
  refine ⟨rfl, ?_⟩
  refine rd_same (by rw [foldRun_length2]; simp; omega) fun j hj => ?_
  rw [foldRun_length2, List.length_replicate] at hj
  have hjs : (j : Int) < sSize [x, 1, z] := by omega
  have hjd : j < d.length := by omega
  have := (fold_along how [x, 1, z] d 1 hr (by simp) (by simp) j (by rw [hset]; exact hjs)).2.2
  rw [hset, hl] at this
  have e1 : ([x, 1, z] : List Int)[1].toNat = 1 := rfl
  rw [e1] at this
  have h1 : [((1 : Nat) : Int)] = ([1] : List Int) := rfl
  rw [h1] at this
  show rd (foldRun how [x, 1, z] [x, z] [1] 0 d (List.replicate (sSize [x, z]).toNat (noneOf how))) (j : Int) = rd d (j : Int)
  rw [this]
  simp only [winAt]
  have e2 : (plc [x, 1, z] (j : Int)).set 1 (0 + ((0 : Nat) : Int)) = plc [x, 1, z] (j : Int) := by
    have : (j : Int) / prod [z] % 1 = 0 := by omega
    simp [plc, this]
  rw [e2, sIndex_plc (by omega) hjs, rd_nat d j hjd]
  exact step_nothing hh (hd _ (List.getElem_mem hjd))

/-! ### Turning round -/
def turned (p : List Int) : List Int := [rd p 2, rd p 1, rd p 0]
def turnOf (x z : Int) (d : List Int) : List Int := (List.range (sSize [z, 1, x]).toNat).map (fun i : Nat => rd d (sIndex [x, 1, z] (turned (plc [z, 1, x] (i : Int)))))
theorem turnOf_length (x z : Int) (d : List Int) : (turnOf x z d).length = (sSize [z, 1, x]).toNat := by simp [turnOf]
theorem rd3_0 (a b c : Int) : rd [a, b, c] 0 = a := by have := rd_nat [a, b, c] 0 (by simp); simpa using this
theorem rd3_1 (a b c : Int) : rd [a, b, c] 1 = b := by have := rd_nat [a, b, c] 1 (by simp); simpa using this
theorem rd3_2 (a b c : Int) : rd [a, b, c] 2 = c := by have := rd_nat [a, b, c] 2 (by simp); simpa using this

theorem ref_number_at (s d q : List Int) (hs : s.length < 9223372036854775807) (hr : tRight s d = true) (hw : within s q) : Ev (fun k => parquetryref4_number.f k s d q) (rd d (sIndex s q)) := by
  have h := within_sIndex (tRight_iff.1 hr).1 hw
  have hd := (tRight_iff.1 hr).2
  unfold parquetryref4_number.f
  refine Ev.bind (ref_Index_ev s q hs) (Ev.ret fun k => ?_)
  rw [if_pos h.1, if_pos (by omega)]

theorem turn_l1 (x z : Int) (d : List Int) (hr : tRight [x, 1, z] d = true) (m : Nat) : ∀ (i : Nat) (out : List Int), i + m = (sSize [z, 1, x]).toNat → out.length = (sSize [z, 1, x]).toNat → (∀ j : Nat, j < i → rd out (j : Int) = rd d (sIndex [x, 1, z] (turned (plc [z, 1, x] (j : Int))))) →
    Ev (fun k => parquetryref4_Turn.l1 k [2, 1, 0] [z, 1, x] (sSize [z, 1, x]) (i : Int) [x, 1, z] d [z, 1, x] out) ([z, 1, x], turnOf x z d, 0) := by
  have hz := size_range [z, 1, x]
  induction m with
  | zero =>
    intro i out hi hl h
    refine Ev.one fun k => ?_
    simp only [parquetryref4_Turn.l1]
    rw [if_neg (by omega)]
    congr 2
    congr 1
    refine rd_same (by rw [turnOf_length, hl]) fun j hj => ?_
    rw [h j (by omega)]
    have : j < (turnOf x z d).length := by rw [turnOf_length]; omega
    rw [rd_nat _ j this]
    simp [turnOf]
  | succ m ih =>
    intro i out hi hl h
    have his : (i : Int) < sSize [z, 1, x] := by omega
    obtain ⟨_, hpos⟩ := size_dims (s := [z, 1, x]) (i := (i : Int)) (by omega) his
    have hp := within_plc _ hpos (i : Int)
    obtain ⟨a, b, c, hpl⟩ : ∃ a b c, plc [z, 1, x] (i : Int) = [a, b, c] := ⟨_, _, _, rfl⟩
    have ht : turned (plc [z, 1, x] (i : Int)) = [c, b, a] := by unfold turned; rw [hpl, rd3_0, rd3_1, rd3_2]
    rw [hpl] at hp
    obtain ⟨a0, a1, b0, b1, c0, c1, _⟩ := hp
    have hw : within [x, 1, z] [c, b, a] := ⟨c0, c1, b0, b1, a0, a1, trivial⟩
    have next := ih (i + 1) (out.set i (rd d (sIndex [x, 1, z] [c, b, a]))) (by omega) (by simpa using hl) (fun j hj => by
      rw [rd_set _ _ _ _ (by omega)]
      by_cases hij : i = j
      · subst hij; rw [if_pos rfl, ht]
      · rw [if_neg hij]; exact h j (by omega))
    refine Ev.step (f := fun k => (parquetryref1_Place.f k [z, 1, x] (i : Int)).bind fun t => if 0 ≤ (t.length : Int) then (if ((t.length : Int) : Int).toNat ≤ 35184372088832 then parquetryref4_Turn.l2 k [2, 1, 0] [z, 1, x] (i : Int) t (List.replicate ((t.length : Int) : Int).toNat 0) (sSize [z, 1, x]) (i : Int) (t.length : Int) 0 [x, 1, z] d [z, 1, x] out else none) else none) (fun k => ?_) ?_
    · simp only [parquetryref4_Turn.l1]
      rw [if_pos his]
    · refine Ev.bind (ref_Place_ev [z, 1, x] (i : Int) (by simp)) ?_
      rw [sPlace_in (by omega) his, hpl]
      refine Ev.congr (f := fun k => parquetryref4_Turn.l2 k [2, 1, 0] [z, 1, x] (i : Int) [a, b, c] [0, 0, 0] (sSize [z, 1, x]) (i : Int) 3 0 [x, 1, z] d [z, 1, x] out) (fun k => rfl) ?_
      refine Ev.step (f := fun k => parquetryref4_Turn.l2 k [2, 1, 0] [z, 1, x] (i : Int) [a, b, c] [0, 0, a] (sSize [z, 1, x]) (i : Int) 3 1 [x, 1, z] d [z, 1, x] out) (fun k => ?_) ?_
      · simp only [parquetryref4_Turn.l2]
        rw [if_pos (by decide), if_pos (by decide), if_pos (by decide), if_pos (by simp), rd3_0, if_pos (by decide), if_pos (by decide), rd3_0, w64 (n := 0 + 1) (by decide) (by decide)]
        rfl
      refine Ev.step (f := fun k => parquetryref4_Turn.l2 k [2, 1, 0] [z, 1, x] (i : Int) [a, b, c] [0, b, a] (sSize [z, 1, x]) (i : Int) 3 2 [x, 1, z] d [z, 1, x] out) (fun k => ?_) ?_
      · simp only [parquetryref4_Turn.l2]
        rw [if_pos (by decide), if_pos (by decide), if_pos (by decide), if_pos (by simp), rd3_1, if_pos (by decide), if_pos (by simp), rd3_1, w64 (n := 1 + 1) (by decide) (by decide)]
        rfl
      refine Ev.step (f := fun k => parquetryref4_Turn.l2 k [2, 1, 0] [z, 1, x] (i : Int) [a, b, c] [c, b, a] (sSize [z, 1, x]) (i : Int) 3 3 [x, 1, z] d [z, 1, x] out) (fun k => ?_) ?_
      · simp only [parquetryref4_Turn.l2]
        rw [if_pos (by decide), if_pos (by decide), if_pos (by decide), if_pos (by simp), rd3_2, if_pos (by decide), if_pos (by simp), rd3_2, w64 (n := 2 + 1) (by decide) (by decide)]
        rfl
      refine Ev.step (f := fun k => (parquetryref4_number.f k [x, 1, z] d [c, b, a]).bind fun t => if 0 ≤ (i : Int) then (if (i : Int) < (out.length : Int) then parquetryref4_Turn.l1 k [2, 1, 0] [z, 1, x] (sSize [z, 1, x]) ((i + 1 : Nat) : Int) [x, 1, z] d [z, 1, x] (out.set i t) else none) else none) (fun k => ?_) ?_
      · simp only [parquetryref4_Turn.l2]
        rw [if_neg (by decide), wsucc _ (by omega), Int.toNat_natCast]
      · refine Ev.bind (ref_number_at [x, 1, z] d [c, b, a] (by simp) hr hw) (Ev.congr (fun k => ?_) next)
        rw [if_pos (by omega), if_pos (by omega)]

theorem turn_ev (x z : Int) (d : List Int) (hr : tRight [x, 1, z] d = true) : Ev (fun k => parquetryref4_Turn.f k [x, 1, z] d [2, 1, 0]) ([z, 1, x], turnOf x z d, 0) := by
  have hz := size_range [z, 1, x]
  unfold parquetryref4_Turn.f
  refine Ev.bind (ref_Tensor_ev [x, 1, z] d (by simp)) ?_
  refine Ev.congr (f := fun k => parquetryref4_Turn.l0 k [2, 1, 0] [0, 0, 0] [] 3 0 [x, 1, z] d) (fun k => ?_) ?_
  · rw [if_pos hr]; rfl
  refine Ev.step (f := fun k => parquetryref4_Turn.l0 k [2, 1, 0] [0, 0, 1] [z] 3 1 [x, 1, z] d) (fun k => ?_) ?_
  · simp only [parquetryref4_Turn.l0]
    rw [if_pos (by decide), if_pos (by decide), if_pos (by decide), rd3_0, if_neg (by decide), if_neg (by decide), if_pos (by decide), if_pos (by decide), rd3_2, if_neg (by decide), if_pos (by simp), if_pos (by simp), rd3_2, w64 (n := 0 + 1) (by decide) (by decide)]
    rfl
  refine Ev.step (f := fun k => parquetryref4_Turn.l0 k [2, 1, 0] [0, 1, 1] [z, 1] 3 2 [x, 1, z] d) (fun k => ?_) ?_
  · simp only [parquetryref4_Turn.l0]
    rw [if_pos (by decide), if_pos (by decide), if_pos (by decide), rd3_1, if_neg (by decide), if_neg (by decide), if_pos (by decide), if_pos (by decide), rd3_1, if_neg (by decide), if_pos (by simp), if_pos (by simp), rd3_1, w64 (n := 0 + 1) (by decide) (by decide), w64 (n := 1 + 1) (by decide) (by decide)]
    rfl
  refine Ev.step (f := fun k => parquetryref4_Turn.l0 k [2, 1, 0] [1, 1, 1] [z, 1, x] 3 3 [x, 1, z] d) (fun k => ?_) ?_
  · simp only [parquetryref4_Turn.l0]
    rw [if_pos (by decide), if_pos (by decide), if_pos (by decide), rd3_2, if_neg (by decide), if_neg (by decide), if_pos (by decide), if_pos (by decide), rd3_0, if_neg (by decide), if_pos (by simp), if_pos (by simp), rd3_0, w64 (n := 0 + 1) (by decide) (by decide), w64 (n := 2 + 1) (by decide) (by decide)]
    rfl
  refine Ev.step (f := fun k => (parquetryref1_Fill.f k [z, 1, x] 0).bind fun bt => parquetryref4_Turn.l1 k [2, 1, 0] [z, 1, x] (bt.2.length : Int) 0 [x, 1, z] d bt.1 bt.2) (fun k => ?_) ?_
  · simp only [parquetryref4_Turn.l0]
    rw [if_neg (by decide)]
  · refine Ev.bind (ref_Fill_ev [z, 1, x] 0 (by simp)) ?_
    have hl : (((List.replicate (sSize [z, 1, x]).toNat (0 : Int)).length : Nat) : Int) = sSize [z, 1, x] := by simp; omega
    simp only [hl]
    exact turn_l1 x z d hr (sSize [z, 1, x]).toNat 0 _ (by omega) (by simp) (fun j hj => absurd hj (by omega))

theorem turn_perm : ∀ x ∈ ([1, 2, 3, 4] : List Int), ∀ z ∈ ([1, 2, 3, 4, 5] : List Int), ((List.range (sSize [z, 1, x]).toNat).map (fun i : Nat => sIndex [x, 1, z] (turned (plc [z, 1, x] (i : Int))))).isPerm ((List.range (sSize [x, 1, z]).toNat).map (fun i : Nat => (i : Int))) = true := by decide +kernel

theorem turn_same {x z : Int} {d : List Int} (hx0 : 1 ≤ x) (hx : x ≤ 4) (hz0 : 1 ≤ z) (hz : z ≤ 5) (hd : (d.length : Int) = sSize [x, 1, z]) : (turnOf x z d).Perm d := by
  have hxm : x ∈ ([1, 2, 3, 4] : List Int) := by
    have : x = 1 ∨ x = 2 ∨ x = 3 ∨ x = 4 := by omega
    rcases this with rfl | rfl | rfl | rfl <;> simp
  have hzm : z ∈ ([1, 2, 3, 4, 5] : List Int) := by
    have : z = 1 ∨ z = 2 ∨ z = 3 ∨ z = 4 ∨ z = 5 := by omega
    rcases this with rfl | rfl | rfl | rfl | rfl <;> simp
  have hp := (List.isPerm_iff.1 (turn_perm x hxm z hzm)).map (rd d)
  have e1 : ((List.range (sSize [z, 1, x]).toNat).map (fun i : Nat => sIndex [x, 1, z] (turned (plc [z, 1, x] (i : Int))))).map (rd d) = turnOf x z d := by rw [List.map_map]; rfl
  have e2 : ((List.range (sSize [x, 1, z]).toNat).map (fun i : Nat => (i : Int))).map (rd d) = d := by
    rw [List.map_map]
    refine rd_same (by simp; omega) fun i hi => ?_
    rw [rd_nat _ i hi]
    simp
  rw [e1, e2] at hp
  exact hp

end Go.Proofs.Ytkeclgfnlpkjeaa.Plain
