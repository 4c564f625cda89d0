/- Tables of whole numbers: their products, sums, turned; what dot.Do, the reference's Two and Turn tell of them. -/
import Derived.Test.YtapoeleiicnlbaaDot
import Derived.Test.YtapoeleiicnlbaaQx12
import Derived.Test.YtapoeleiicnlbaaQx14
import Derived.Test.YtapoeleiicnlbaaQx22
import Derived.Test.YtapoeleiicnlbaaQx23
import Derived.Test.YtapoeleiicnlbaaQx24
namespace Go.Proofs.Ytapoeleiicnlbaa.Plain
set_option linter.unusedVariables false
open Go.RowKit Go.Proofs.YtapoeleiicnlbaaW.PrintWords Go.Proofs.Ytapoeleiicnlbaa.Q

/-! ### Wrapped sums -/
theorem wr_is (a : Int) : ∃ k : Int, wrap64 a = a + 18446744073709551616 * k := ⟨-((a + 9223372036854775808) / 18446744073709551616), by unfold wrap64; omega⟩
theorem wr_add (z m : Int) : wrap64 (z + 18446744073709551616 * m) = wrap64 z := by
  unfold wrap64
  omega
theorem wr_l (a b : Int) : wrap64 (wrap64 a + b) = wrap64 (a + b) := by unfold wrap64; omega
theorem wr_r (a b : Int) : wrap64 (a + wrap64 b) = wrap64 (a + b) := by unfold wrap64; omega
theorem wr_wr (a : Int) : wrap64 (wrap64 a) = wrap64 a := by unfold wrap64; omega
theorem wr_mul (a y : Int) : wrap64 (y * wrap64 a) = wrap64 (y * a) := by
  obtain ⟨k, hk⟩ := wr_is a
  rw [hk, Int.mul_add, show y * (18446744073709551616 * k) = 18446744073709551616 * (y * k) by rw [Int.mul_left_comm], wr_add]
theorem wr_cong {a b : Int} (h : wrap64 a = wrap64 b) (c : Int) : wrap64 (a + c) = wrap64 (b + c) := by rw [← wr_l, h, wr_l]

def sumTo (f : Nat → Int) (j : Nat) : Nat → Int
  | 0 => 0
  | c + 1 => f j + sumTo f (j + 1) c
theorem sum_congr (f g : Nat → Int) (c : Nat) : ∀ j, (∀ t, j ≤ t → t < j + c → wrap64 (f t) = wrap64 (g t)) → wrap64 (sumTo f j c) = wrap64 (sumTo g j c) := by
  induction c with
  | zero => intro j _; rfl
  | succ c ih =>
    intro j h
    have h1 := h j (by omega) (by omega)
    have h2 := ih (j + 1) (fun t h0 h3 => h t (by omega) (by omega))
    simp only [sumTo]
    rw [← wr_r, h2, wr_r, wr_cong h1]
theorem sum_add (f g : Nat → Int) (c : Nat) : ∀ j, sumTo (fun t => f t + g t) j c = sumTo f j c + sumTo g j c := by
  induction c with
  | zero => intro j; rfl
  | succ c ih => intro j; simp only [sumTo]; rw [ih (j + 1)]; omega
theorem sum_one (f : Nat → Int) (y : Nat) (c : Nat) : ∀ j, sumTo (fun t => f t * (if t = y then 1 else 0)) j c = if j ≤ y ∧ y < j + c then f y else 0 := by
  induction c with
  | zero => intro j; simp only [sumTo]; rw [if_neg (by omega)]
  | succ c ih =>
    intro j
    simp only [sumTo]
    rw [ih (j + 1)]
    by_cases h : j = y
    · subst h
      rw [if_pos rfl, if_neg (by omega), if_pos (by omega), Int.mul_one, Int.add_zero]
    · rw [if_neg h, Int.mul_zero, Int.zero_add]
      by_cases h2 : j + 1 ≤ y ∧ y < j + 1 + c
      · rw [if_pos h2, if_pos (by omega)]
      · rw [if_neg h2, if_neg (by omega)]
theorem dotSum_is (s1 d1 s2 d2 pa pn pb : List Int) (c : Nat) : ∀ (j : Nat) (acc : Int), wrap64 acc = acc → dotSum s1 d1 s2 d2 pa pn pb j c acc = wrap64 (acc + sumTo (fun t => rd d1 (sIndex s1 (pa ++ [(t : Int)])) * rd d2 (sIndex s2 (pn ++ (t : Int) :: pb))) j c) := by
  induction c with
  | zero => intro j acc h; simp only [dotSum, sumTo]; rw [Int.add_zero, h]
  | succ c ih =>
    intro j acc h
    simp only [dotSum, sumTo]
    rw [ih (j + 1) _ (wr_wr _), wr_l, wr_r_mid]
where wr_r_mid {a b c : Int} : wrap64 (a + wrap64 b + c) = wrap64 (a + (b + c)) := by unfold wrap64; omega

/-! ### Tables -/
theorem in4 {x : Int} (h0 : 1 ≤ x) (h1 : x ≤ 4) : x = 1 ∨ x = 2 ∨ x = 3 ∨ x = 4 := by omega
theorem table_right {x y : Int} (x0 : 1 ≤ x) (x1 : x ≤ 4) (y0 : 1 ≤ y) (y1 : y ≤ 4) : sRight [x, y] = true ∧ sSize [x, y] = x * y ∧ 1 ≤ x * y ∧ x * y ≤ 16 := by
  have hr : sRight [x, y] = true := by
    refine sRight_iff.2 ⟨by simp, by simp only [List.all_cons, List.all_nil, Bool.and_true, Bool.and_eq_true]; exact ⟨okDim_iff.2 (by omega), okDim_iff.2 (by omega)⟩, ?_⟩
    simp only [prod, Int.mul_one]
    rcases in4 x0 x1 with rfl | rfl | rfl | rfl <;> omega
  refine ⟨hr, ?_, ?_, ?_⟩
  · unfold sSize; rw [if_pos hr]; simp [prod]
  · rcases in4 x0 x1 with rfl | rfl | rfl | rfl <;> omega
  · rcases in4 x0 x1 with rfl | rfl | rfl | rfl <;> omega
theorem table_index {x y a b : Int} (x0 : 1 ≤ x) (x1 : x ≤ 4) (y0 : 1 ≤ y) (y1 : y ≤ 4) (a0 : 0 ≤ a) (a1 : a < x) (b0 : 0 ≤ b) (b1 : b < y) : sIndex [x, y] [a, b] = a * y + b := by
  unfold sIndex
  rw [if_pos ⟨(table_right x0 x1 y0 y1).1, rfl⟩]
  simp only [idx]
  rw [if_neg (by omega), if_neg (by omega)]
  simp
theorem table_lt {x y a b : Int} (x0 : 1 ≤ x) (x1 : x ≤ 4) (y0 : 1 ≤ y) (y1 : y ≤ 4) (a0 : 0 ≤ a) (a1 : a < x) (b0 : 0 ≤ b) (b1 : b < y) : 0 ≤ a * y + b ∧ a * y + b < x * y := by
  rcases in4 y0 y1 with rfl | rfl | rfl | rfl <;> omega
theorem table_plc {x y : Int} (x0 : 1 ≤ x) (x1 : x ≤ 4) (y0 : 1 ≤ y) (y1 : y ≤ 4) {a b : Int} (a0 : 0 ≤ a) (a1 : a < x) (b0 : 0 ≤ b) (b1 : b < y) : plc [x, y] (a * y + b) = [a, b] := by
  have h1 : (a * y + b) / y = a := by
    rw [Int.add_comm, Int.add_mul_ediv_right _ _ (by omega), Int.ediv_eq_zero_of_lt b0 b1, Int.zero_add]
  have h2 : (a * y + b) % y = b := by
    rw [Int.add_comm, Int.add_mul_emod_self_right, Int.emod_eq_of_lt b0 b1]
  simp only [plc, prod, Int.mul_one, Int.ediv_one]
  rw [h1, h2, Int.emod_eq_of_lt a0 a1]
/-- A number's place in a table. -/
theorem table_at {x y : Int} (x0 : 1 ≤ x) (x1 : x ≤ 4) (y0 : 1 ≤ y) (y1 : y ≤ 4) (q : Nat) (hq : (q : Int) < x * y) : ∃ a b : Nat, (a : Int) < x ∧ (b : Int) < y ∧ (q : Int) = (a : Int) * y + (b : Int) := by
  have e : (q : Int) = (q : Int) / y * y + (q : Int) % y := by
    have := Int.emod_add_mul_ediv (q : Int) y
    rw [Int.mul_comm] at this
    omega
  have h1 : 0 ≤ (q : Int) % y := Int.emod_nonneg _ (by omega)
  have h2 : (q : Int) % y < y := Int.emod_lt_of_pos _ (by omega)
  have h3 : 0 ≤ (q : Int) / y := Int.ediv_nonneg (by omega) (by omega)
  have h4 : (q : Int) / y < x := Int.ediv_lt_of_lt_mul (by omega) hq
  obtain ⟨a, ha⟩ := Int.eq_ofNat_of_zero_le h3
  obtain ⟨b, hb⟩ := Int.eq_ofNat_of_zero_le h1
  exact ⟨a, b, by omega, by omega, by rw [← ha, ← hb]; exact e⟩
/-- Tables are the same where their numbers are. -/
theorem table_ext {x y : Int} (x0 : 1 ≤ x) (x1 : x ≤ 4) (y0 : 1 ≤ y) (y1 : y ≤ 4) {d e : List Int} (hd : (d.length : Int) = x * y) (he : (e.length : Int) = x * y)
    (h : ∀ a b : Nat, (a : Int) < x → (b : Int) < y → rd d ((a : Int) * y + (b : Int)) = rd e ((a : Int) * y + (b : Int))) : d = e := by
  refine List.ext_getElem (by omega) fun q h1 h2 => ?_
  rw [← rd_nat d q h1, ← rd_nat e q h2]
  obtain ⟨a, b, ha, hb, hq⟩ := table_at x0 x1 y0 y1 q (by omega)
  rw [hq]
  exact h a b ha hb
theorem rd_table_made {x y : Int} (x0 : 1 ≤ x) (x1 : x ≤ 4) (y0 : 1 ≤ y) (y1 : y ≤ 4) (g : List Int → Int) (a b : Nat) (ha : (a : Int) < x) (hb : (b : Int) < y) : rd (madeOf [x, y] g) ((a : Int) * y + (b : Int)) = g [(a : Int), (b : Int)] := by
  have hs := (table_right x0 x1 y0 y1).2.1
  have hl := table_lt x0 x1 y0 y1 (a := (a : Int)) (b := (b : Int)) (by omega) ha (by omega) hb
  obtain ⟨q, hq⟩ := Int.eq_ofNat_of_zero_le hl.1
  have := rd_made [x, y] g q (by rw [hs]; omega)
  rw [hq, this, ← hq, table_plc x0 x1 y0 y1 (by omega) ha (by omega) hb]

/-! ### A product of tables -/
theorem table_shape {i j l : Int} (i0 : 1 ≤ i) (i1 : i ≤ 4) (j0 : 1 ≤ j) (j1 : j ≤ 4) (l0 : 1 ≤ l) (l1 : l ≤ 4) : dShape [i, j] [j, l] 0 = ([i, l], 0) := by
  unfold dShape
  have hf : dFits [i, j] [j, l] 0 = true := dFits_iff.2 ⟨(table_right i0 i1 j0 j1).1, (table_right j0 j1 l0 l1).1, rfl, rfl⟩
  have hd : dRow [i, j] [j, l] 0 = [i, l] := rfl
  rw [if_neg (by simp), if_pos hf, hd, if_pos (table_right i0 i1 l0 l1).1]
def tmul (i j l : Int) (d e : List Int) : List Int := madeOf [i, l] (fun p => dotSum [i, j] d [j, l] e (p.take 1) [] (p.drop 1) 0 j.toNat 0)
theorem tmul_length {i j l : Int} (i0 : 1 ≤ i) (i1 : i ≤ 4) (l0 : 1 ≤ l) (l1 : l ≤ 4) (d e : List Int) : ((tmul i j l d e).length : Int) = i * l := by
  have h := table_right i0 i1 l0 l1
  unfold tmul
  rw [madeOf_length, h.2.1]
  omega
theorem tmul_at {i j l : Int} (i0 : 1 ≤ i) (i1 : i ≤ 4) (j0 : 1 ≤ j) (j1 : j ≤ 4) (l0 : 1 ≤ l) (l1 : l ≤ 4) (d e : List Int) (a b : Nat) (ha : (a : Int) < i) (hb : (b : Int) < l) :
    rd (tmul i j l d e) ((a : Int) * l + (b : Int)) = wrap64 (sumTo (fun t => rd d ((a : Int) * j + (t : Int)) * rd e ((t : Int) * l + (b : Int))) 0 j.toNat) := by
  unfold tmul
  rw [rd_table_made i0 i1 l0 l1 _ a b ha hb, dotSum_is _ _ _ _ _ _ _ _ _ _ (w64 (n := 0) (by decide) (by decide)), Int.zero_add]
  refine sum_congr _ _ _ _ fun t _ ht => ?_
  have e1 : ([(a : Int), (b : Int)].take 1 ++ [(t : Int)]) = [(a : Int), (t : Int)] := rfl
  have e2 : (([] : List Int) ++ (t : Int) :: [(a : Int), (b : Int)].drop 1) = [(t : Int), (b : Int)] := rfl
  rw [e1, e2, table_index i0 i1 j0 j1 (by omega) ha (by omega) (by omega), table_index j0 j1 l0 l1 (by omega) (by omega) (by omega) hb]
theorem table_tright {x y : Int} (x0 : 1 ≤ x) (x1 : x ≤ 4) (y0 : 1 ≤ y) (y1 : y ≤ 4) {d : List Int} (h : (d.length : Int) = x * y) : tRight [x, y] d = true :=
  tRight_iff.2 ⟨(table_right x0 x1 y0 y1).1, by rw [(table_right x0 x1 y0 y1).2.1]; exact h⟩
theorem table_dot {i j l : Int} (i0 : 1 ≤ i) (i1 : i ≤ 4) (j0 : 1 ≤ j) (j1 : j ≤ 4) (l0 : 1 ≤ l) (l1 : l ≤ 4) {d e : List Int} (hd : (d.length : Int) = i * j) (he : (e.length : Int) = j * l) : Ev (fun k => dot_Do.f k [i, j] d [j, l] e 0) ([i, l], tmul i j l d e, 0) := by
  refine Ev.cast (dot_Do_ev [i, j] d [j, l] e 0) ?_
  unfold tDot
  rw [if_pos ⟨table_tright i0 i1 j0 j1 hd, table_tright j0 j1 l0 l1 he⟩, table_shape i0 i1 j0 j1 l0 l1, if_pos rfl]
  rfl

/-! ### Sums of tables -/
def addOf (d e : List Int) : List Int := (List.range d.length).map (fun q : Nat => wrap64 (rd d (q : Int) + rd e (q : Int)))
theorem addOf_length (d e : List Int) : (addOf d e).length = d.length := by simp [addOf]
theorem rd_addOf (d e : List Int) (z : Int) (h0 : 0 ≤ z) (h : z < (d.length : Int)) : rd (addOf d e) z = wrap64 (rd d z + rd e z) := by
  obtain ⟨q, rfl⟩ := Int.eq_ofNat_of_zero_le h0
  rw [rd_nat _ q (by rw [addOf_length]; omega)]
  simp [addOf]
theorem all_two {s d e : List Int} (h1 : tRight s d = true) (h2 : tRight s e = true) : Ev (fun k => parquetryref4_all.f k [(⟨s, d⟩ : S26), (⟨s, e⟩ : S26)]) 0 := by
  have hs := right_len (tRight_iff.1 h1).1
  have l2 : (([(⟨s, d⟩ : S26), (⟨s, e⟩ : S26)] : List S26).length : Int) = 2 := rfl
  have a0 : rd_T26 [(⟨s, d⟩ : S26), (⟨s, e⟩ : S26)] 0 = ⟨s, d⟩ := rfl
  have a1 : rd_T26 [(⟨s, d⟩ : S26), (⟨s, e⟩ : S26)] 1 = ⟨s, e⟩ := rfl
  have hI := ref_Ints_ev s s (by omega)
  rw [decide_eq_true rfl] at hI
  unfold parquetryref4_all.f
  refine Ev.step (f := fun k => (parquetryref1_Tensor.f k s d).bind fun t => if t = true then ((parquetryref1_Ints.f k s s).bind fun u => if u = true then parquetryref4_all.l0 k [(⟨s, d⟩ : S26), (⟨s, e⟩ : S26)] 1 else some 13) else some 13) (fun k => ?_) ?_
  · simp only [parquetryref4_all.l0]
    rw [l2, if_pos (by omega), if_pos (by omega), a0]
    congr 1
    funext t
    rw [if_pos (show (0 : Int) < 2 by omega), w64 (n := 0 + 1) (by decide) (by decide)]
    rfl
  refine Ev.bind (ref_Tensor_ev s d (by omega)) (Ev.congr (fun k => by rw [if_pos h1]) (Ev.bind hI (Ev.congr (fun k => by rw [if_pos rfl]) ?_)))
  refine Ev.step (f := fun k => (parquetryref1_Tensor.f k s e).bind fun t => if t = true then ((parquetryref1_Ints.f k s s).bind fun u => if u = true then parquetryref4_all.l0 k [(⟨s, d⟩ : S26), (⟨s, e⟩ : S26)] 2 else some 13) else some 13) (fun k => ?_) ?_
  · simp only [parquetryref4_all.l0]
    rw [l2, if_pos (by omega), if_pos (by omega), a0, a1]
    congr 1
    funext t
    rw [if_pos (show (0 : Int) < 2 by omega), w64 (n := 1 + 1) (by decide) (by decide)]
    rfl
  refine Ev.bind (ref_Tensor_ev s e (by omega)) (Ev.congr (fun k => by rw [if_pos h2]) (Ev.bind hI (Ev.congr (fun k => by rw [if_pos rfl]) ?_)))
  refine Ev.one fun k => ?_
  simp only [parquetryref4_all.l0]
  rw [l2, if_neg (by omega)]
theorem two_l0 (s d e : List Int) (hl : d.length = e.length) (hn : d.length ≤ 4096) (m : Nat) : ∀ i : Nat, i + m = d.length →
    Ev (fun k => parquetryref4_Two.l0 k 6 (d.length : Int) (i : Int) s d s e s ((List.range i).map (fun q : Nat => wrap64 (rd d (q : Int) + rd e (q : Int))) ++ List.replicate (d.length - i) 0)) (s, addOf d e, 0) := by
  induction m with
  | zero =>
    intro i hi
    refine Ev.one fun k => ?_
    simp only [parquetryref4_Two.l0]
    rw [if_neg (by omega)]
    have : i = d.length := by omega
    subst this
    simp [addOf]
  | succ m ih =>
    intro i hi
    refine Ev.step (fun k => ?_) (ih (i + 1) (by omega))
    simp only [parquetryref4_Two.l0]
    rw [if_pos (by omega), if_pos (by omega), if_pos (by omega), if_pos (by omega), show parquetryref4_Step.f 6 (rd d (i : Int)) (rd e (i : Int)) = some (wrap64 (rd d (i : Int) + rd e (i : Int))) from rfl, Option.bind_some, if_pos (by simp; omega), wsucc _ (by omega), Int.toNat_natCast, set_range (fun q : Nat => wrap64 (rd d (q : Int) + rd e (q : Int))) d.length i (by omega) 0]
theorem two_ev {s d e : List Int} (h1 : tRight s d = true) (h2 : tRight s e = true) : Ev (fun k => parquetryref4_Two.f k 6 s d s e) (s, addOf d e, 0) := by
  have hs := right_len (tRight_iff.1 h1).1
  have hd := (tRight_iff.1 h1).2
  have he := (tRight_iff.1 h2).2
  have hz := size_range s
  unfold parquetryref4_Two.f
  refine Ev.step (f := fun k => (parquetryref4_all.f k [(⟨s, d⟩ : S26), (⟨s, e⟩ : S26)]).bind fun t => if t = 0 then (parquetryref1_Fill.f k s 0).bind fun bt => parquetryref4_Two.l0 k 6 (bt.2.length : Int) 0 s d s e bt.1 bt.2 else some ([], [], t)) (fun k => ?_) ?_
  · rw [if_neg (by omega)]
    simp only [parquetryref4_Two.j0]
    rw [if_neg (by simp)]
  · refine Ev.bind (all_two h1 h2) (Ev.congr (fun k => by rw [if_pos rfl]) (Ev.bind (ref_Fill_ev s 0 (by omega)) ?_))
    have hn : (sSize s).toNat = d.length := by omega
    have key := two_l0 s d e (by omega) (by omega) d.length 0 (by omega)
    simpa [hn] using key

/-! ### Tables turned -/
def turn2 (x z : Int) (d : List Int) : List Int := madeOf [z, x] (fun p => rd d (sIndex [x, z] [rd p 1, rd p 0]))
theorem rd2_0 (a b : Int) : rd [a, b] 0 = a := rfl
theorem rd2_1 (a b : Int) : rd [a, b] 1 = b := rfl
theorem turn2_at {x z : Int} (x0 : 1 ≤ x) (x1 : x ≤ 4) (z0 : 1 ≤ z) (z1 : z ≤ 4) (d : List Int) (a b : Nat) (ha : (a : Int) < z) (hb : (b : Int) < x) : rd (turn2 x z d) ((a : Int) * x + (b : Int)) = rd d ((b : Int) * z + (a : Int)) := by
  unfold turn2
  rw [rd_table_made z0 z1 x0 x1 _ a b ha hb, rd2_0, rd2_1, table_index x0 x1 z0 z1 (by omega) hb (by omega) ha]
theorem turn2_length {x z : Int} (x0 : 1 ≤ x) (x1 : x ≤ 4) (z0 : 1 ≤ z) (z1 : z ≤ 4) (d : List Int) : ((turn2 x z d).length : Int) = z * x := by
  have h := table_right z0 z1 x0 x1
  unfold turn2
  rw [madeOf_length, h.2.1]
  omega
theorem number_in (s d q : List Int) (hs : s.length < 9223372036854775807) (hr : tRight s d = true) (hw : within s q) : Ev (fun k => parquetryref4_number.f k s d q) (rd d (sIndex s q)) := by
  have h := within_sIndex (tRight_iff.1 hr).1 hw
  have hd := (tRight_iff.1 hr).2
  unfold parquetryref4_number.f
  refine Ev.bind (ref_Index_ev s q hs) (Ev.ret fun k => ?_)
  rw [if_pos h.1, if_pos (by omega)]
theorem rd_same2 {a b : List Int} (hl : a.length = b.length) (h : ∀ i : Nat, i < a.length → rd a (i : Int) = rd b (i : Int)) : a = b := by
  refine List.ext_getElem hl fun q h1 h2 => ?_
  rw [← rd_nat a q h1, ← rd_nat b q h2]
  exact h q h1
theorem turn2_l1 (x z : Int) (d : List Int) (hr : tRight [x, z] d = true) (m : Nat) : ∀ (i : Nat) (out : List Int), i + m = (sSize [z, x]).toNat → out.length = (sSize [z, x]).toNat → (∀ j : Nat, j < i → rd out (j : Int) = rd d (sIndex [x, z] [rd (plc [z, x] (j : Int)) 1, rd (plc [z, x] (j : Int)) 0])) →
    Ev (fun k => parquetryref4_Turn.l1 k [1, 0] [z, x] (sSize [z, x]) (i : Int) [x, z] d [z, x] out) ([z, x], turn2 x z d, 0) := by
  have hz := size_range [z, x]
  induction m with
  | zero =>
    intro i out hi hl h
    refine Ev.one fun k => ?_
    simp only [parquetryref4_Turn.l1]
    rw [if_neg (by omega)]
    congr 2
    congr 1
    refine rd_same2 (by unfold turn2; rw [madeOf_length, hl]) fun j hj => ?_
    rw [h j (by omega)]
    unfold turn2
    rw [rd_made _ _ j (by omega)]
  | succ m ih =>
    intro i out hi hl h
    have his : (i : Int) < sSize [z, x] := by omega
    obtain ⟨_, hpos⟩ := size_dims (s := [z, x]) (i := (i : Int)) (by omega) his
    have hp := within_plc _ hpos (i : Int)
    obtain ⟨a, b, hpl⟩ : ∃ a b, plc [z, x] (i : Int) = [a, b] := ⟨_, _, rfl⟩
    rw [hpl] at hp
    obtain ⟨a0, a1, b0, b1, _⟩ := hp
    have hw : within [x, z] [b, a] := ⟨b0, b1, a0, a1, trivial⟩
    have next := ih (i + 1) (out.set i (rd d (sIndex [x, z] [b, a]))) (by omega) (by simpa using hl) (fun j hj => by
      rw [rd_set _ _ _ _ (by omega)]
      by_cases hij : i = j
      · subst hij; rw [if_pos rfl, hpl, rd2_0, rd2_1]
      · rw [if_neg hij]; exact h j (by omega))
    refine Ev.step (f := fun k => (parquetryref1_Place.f k [z, x] (i : Int)).bind fun t => if 0 ≤ (t.length : Int) then (if ((t.length : Int) : Int).toNat ≤ 35184372088832 then parquetryref4_Turn.l2 k [1, 0] [z, x] (i : Int) t (List.replicate ((t.length : Int) : Int).toNat 0) (sSize [z, x]) (i : Int) (t.length : Int) 0 [x, z] d [z, x] out else none) else none) (fun k => ?_) ?_
    · simp only [parquetryref4_Turn.l1]
      rw [if_pos his]
    · refine Ev.bind (ref_Place_ev [z, x] (i : Int) (by simp)) ?_
      rw [sPlace_in (by omega) his, hpl]
      refine Ev.congr (f := fun k => parquetryref4_Turn.l2 k [1, 0] [z, x] (i : Int) [a, b] [0, 0] (sSize [z, x]) (i : Int) 2 0 [x, z] d [z, x] out) (fun k => rfl) ?_
      refine Ev.step (f := fun k => parquetryref4_Turn.l2 k [1, 0] [z, x] (i : Int) [a, b] [0, a] (sSize [z, x]) (i : Int) 2 1 [x, z] d [z, x] out) (fun k => ?_) ?_
      · simp only [parquetryref4_Turn.l2]
        rw [if_pos (by decide), if_pos (by decide), if_pos (by decide), if_pos (by simp), rd2_0, if_pos (by decide), if_pos (by decide), rd2_0, w64 (n := 0 + 1) (by decide) (by decide)]
        rfl
      refine Ev.step (f := fun k => parquetryref4_Turn.l2 k [1, 0] [z, x] (i : Int) [a, b] [b, a] (sSize [z, x]) (i : Int) 2 2 [x, z] d [z, x] out) (fun k => ?_) ?_
      · simp only [parquetryref4_Turn.l2]
        rw [if_pos (by decide), if_pos (by decide), if_pos (by decide), if_pos (by simp), rd2_1, if_pos (by decide), if_pos (by simp), rd2_1, w64 (n := 1 + 1) (by decide) (by decide)]
        rfl
      refine Ev.step (f := fun k => (parquetryref4_number.f k [x, z] d [b, a]).bind fun t => if 0 ≤ (i : Int) then (if (i : Int) < (out.length : Int) then parquetryref4_Turn.l1 k [1, 0] [z, x] (sSize [z, x]) ((i + 1 : Nat) : Int) [x, z] d [z, x] (out.set i t) else none) else none) (fun k => ?_) ?_
      · simp only [parquetryref4_Turn.l2]
        rw [if_neg (by decide), wsucc _ (by omega), Int.toNat_natCast]
      · refine Ev.bind (number_in [x, z] d [b, a] (by simp) hr hw) (Ev.congr (fun k => ?_) next)
        rw [if_pos (by omega), if_pos (by omega)]
theorem turn2_ev (x z : Int) (d : List Int) (hr : tRight [x, z] d = true) : Ev (fun k => parquetryref4_Turn.f k [x, z] d [1, 0]) ([z, x], turn2 x z d, 0) := by
  have hz := size_range [z, x]
  unfold parquetryref4_Turn.f
  refine Ev.bind (ref_Tensor_ev [x, z] d (by simp)) ?_
  refine Ev.congr (f := fun k => parquetryref4_Turn.l0 k [1, 0] [0, 0] [] 2 0 [x, z] d) (fun k => ?_) ?_
  · rw [if_pos hr]; rfl
  refine Ev.step (f := fun k => parquetryref4_Turn.l0 k [1, 0] [0, 1] [z] 2 1 [x, z] d) (fun k => ?_) ?_
  · simp only [parquetryref4_Turn.l0]
    rw [if_pos (by decide), if_pos (by decide), if_pos (by decide), rd2_0, if_neg (by decide), if_neg (by decide), if_pos (by decide), if_pos (by decide), rd2_1, if_neg (by decide), if_pos (by simp), if_pos (by simp), rd2_1, w64 (n := 0 + 1) (by decide) (by decide)]
    rfl
  refine Ev.step (f := fun k => parquetryref4_Turn.l0 k [1, 0] [1, 1] [z, x] 2 2 [x, z] d) (fun k => ?_) ?_
  · simp only [parquetryref4_Turn.l0]
    rw [if_pos (by decide), if_pos (by decide), if_pos (by decide), rd2_1, if_neg (by decide), if_neg (by decide), if_pos (by decide), if_pos (by decide), rd2_0, if_neg (by decide), if_pos (by simp), if_pos (by simp), rd2_0, w64 (n := 0 + 1) (by decide) (by decide), w64 (n := 1 + 1) (by decide) (by decide)]
    rfl
  refine Ev.step (f := fun k => (parquetryref1_Fill.f k [z, x] 0).bind fun bt => parquetryref4_Turn.l1 k [1, 0] [z, x] (bt.2.length : Int) 0 [x, z] d bt.1 bt.2) (fun k => ?_) ?_
  · simp only [parquetryref4_Turn.l0]
    rw [if_neg (by decide)]
  · refine Ev.bind (ref_Fill_ev [z, x] 0 (by simp)) ?_
    have hl : (((List.replicate (sSize [z, x]).toNat (0 : Int)).length : Nat) : Int) = sSize [z, x] := by simp; omega
    simp only [hl]
    exact turn2_l1 x z d hr (sSize [z, x]).toNat 0 _ (by omega) (by simp) (fun j hj => absurd hj (by omega))

/-! ### The laws of sums, the unit, and turning -/
theorem tmul_addOf {i j l : Int} (i0 : 1 ≤ i) (i1 : i ≤ 4) (j0 : 1 ≤ j) (j1 : j ≤ 4) (l0 : 1 ≤ l) (l1 : l ≤ 4) (d : List Int) {e f : List Int} (he : (e.length : Int) = j * l) :
    tmul i j l d (addOf e f) = addOf (tmul i j l d e) (tmul i j l d f) := by
  have hla := tmul_length (j := j) i0 i1 l0 l1 d e
  refine table_ext i0 i1 l0 l1 (tmul_length i0 i1 l0 l1 _ _) (by rw [addOf_length]; exact hla) fun a b ha hb => ?_
  have hp := table_lt (a := (a : Int)) (b := (b : Int)) i0 i1 l0 l1 (by omega) ha (by omega) hb
  rw [rd_addOf _ _ _ hp.1 (by omega), tmul_at i0 i1 j0 j1 l0 l1 _ _ a b ha hb, tmul_at i0 i1 j0 j1 l0 l1 _ _ a b ha hb, tmul_at i0 i1 j0 j1 l0 l1 _ _ a b ha hb, wr_l, wr_r, ← sum_add]
  refine sum_congr _ _ _ _ fun t _ ht => ?_
  have ht2 : (t : Int) < j := by omega
  have hq := table_lt (a := (t : Int)) (b := (b : Int)) j0 j1 l0 l1 (by omega) ht2 (by omega) hb
  show wrap64 (rd d _ * rd (addOf e f) ((t : Int) * l + (b : Int))) = _
  rw [rd_addOf _ _ _ hq.1 (by omega), wr_mul, Int.mul_add]
theorem tmul_unit {i j : Int} (i0 : 1 ≤ i) (i1 : i ≤ 4) (j0 : 1 ≤ j) (j1 : j ≤ 4) {d u : List Int} (hd : (d.length : Int) = i * j) (hdw : ∀ x ∈ d, I64 x)
    (hu : ∀ a b : Nat, (a : Int) < j → (b : Int) < j → rd u ((a : Int) * j + (b : Int)) = if a = b then 1 else 0) : tmul i j j d u = d := by
  refine table_ext i0 i1 j0 j1 (tmul_length i0 i1 j0 j1 _ _) hd fun a b ha hb => ?_
  rw [tmul_at i0 i1 j0 j1 j0 j1 _ _ a b ha hb]
  have hp := table_lt (a := (a : Int)) (b := (b : Int)) i0 i1 j0 j1 (by omega) ha (by omega) hb
  rw [sum_congr _ (fun t => rd d ((a : Int) * j + (t : Int)) * (if t = b then 1 else 0)) _ _ (fun t _ ht => by rw [hu t b (by omega) hb]), sum_one (fun t => rd d ((a : Int) * j + (t : Int))), if_pos (by omega)]
  obtain ⟨q, hq⟩ := Int.eq_ofNat_of_zero_le hp.1
  rw [hq, rd_nat d q (by omega)]
  have := hdw _ (List.getElem_mem (l := d) (n := q) (by omega))
  exact w64 this.1 this.2
theorem tmul_turn {i j l : Int} (i0 : 1 ≤ i) (i1 : i ≤ 4) (j0 : 1 ≤ j) (j1 : j ≤ 4) (l0 : 1 ≤ l) (l1 : l ≤ 4) (d e : List Int) :
    tmul l j i (turn2 j l e) (turn2 i j d) = turn2 i l (tmul i j l d e) := by
  refine table_ext l0 l1 i0 i1 (tmul_length l0 l1 i0 i1 _ _) (turn2_length i0 i1 l0 l1 _) fun a b ha hb => ?_
  rw [tmul_at l0 l1 j0 j1 i0 i1 _ _ a b ha hb, turn2_at i0 i1 l0 l1 _ a b ha hb, tmul_at i0 i1 j0 j1 l0 l1 _ _ b a hb ha]
  refine sum_congr _ _ _ _ fun t _ ht => ?_
  rw [turn2_at j0 j1 l0 l1 e a t ha (by omega), turn2_at i0 i1 j0 j1 d t b (by omega) hb, Int.mul_comm]

end Go.Proofs.Ytapoeleiicnlbaa.Plain
