/- WindowCounts: windows of ones are as wide as they are; further apart ones are some of those next to each other. -/
import Derived.Test.YtkeclgfnlpkjeaaLaw8
import Derived.Test.YtkeclgfnlpkjeaaQx24
namespace Go.Proofs.Ytkeclgfnlpkjeaa.Pure
open Go.RowKit Go.Proofs.YtkeclgfnlpkjeaaW.PrintWords Go.Proofs.Ytkeclgfnlpkjeaa.Q Go.Proofs.Ytkeclgfnlpkjeaa.Plain

theorem and3w (x : Int) : 0 ≤ Go.bits .and .i64 x 3 ∧ Go.bits .and .i64 x 3 ≤ 3 := by
  have e : Go.bits .and .i64 x 3 = IntKind.i64.wrap (((BitVec.ofInt IntKind.i64.bits x &&& BitVec.ofInt IntKind.i64.bits 3).toNat : Nat) : Int) := rfl
  have h : (BitVec.ofInt IntKind.i64.bits x &&& BitVec.ofInt IntKind.i64.bits 3).toNat ≤ 3 := by
    rw [BitVec.toNat_and]
    exact Nat.le_trans Nat.and_le_right (by decide)
  rw [e, IntKind.wrap_i64]
  omega

theorem winAt_set (how : Int) (s d p q : List Int) (a : Nat) (first : Int) (h : ∀ y : Int, p.set a y = q.set a y) (m : Nat) : ∀ (k : Nat) (v : Int), winAt how s d p a first k m v = winAt how s d q a first k m v := by
  induction m with
  | zero => intro k v; rfl
  | succ m ih =>
    intro k v
    simp only [winAt]
    rw [h, ih]

theorem winAt_ones (s p : List Int) (a M N : Nat) (first : Int) (hin : ∀ x : Nat, x < N → 0 ≤ sIndex s (p.set a (first + (x : Int))) ∧ sIndex s (p.set a (first + (x : Int))) < (M : Int)) (m : Nat) :
    ∀ (k : Nat) (v : Int), k + m ≤ N → 0 ≤ v → v + (m : Int) ≤ 1000 → winAt 1 s (List.replicate M 1) p a first k m v = v + (m : Int) := by
  induction m with
  | zero => intro k v _ _ _; simp [winAt]
  | succ m ih =>
    intro k v hk h0 h1
    obtain ⟨i0, i1⟩ := hin k (by omega)
    simp only [winAt]
    generalize sIndex s (p.set a (first + (k : Int))) = z at i0 i1 ⊢
    obtain ⟨z, rfl⟩ := Int.eq_ofNat_of_zero_le i0
    have e : stepOf 1 v (rd (List.replicate M 1) (z : Int)) = v + 1 := by
      rw [rd_rep M 1 z (by omega)]
      show wrap64 (v + 1) = v + 1
      exact w64 (by omega) (by omega)
    rw [e, ih (k + 1) (v + 1) (by omega) (by omega) (by omega)]
    omega

theorem two_right {k : Int} (h0 : 0 ≤ k) (h1 : k ≤ 32) : sRight [k, 2] = true ∧ sSize [k, 2] = 2 * k := by
  have hp : prod [k, 2] = 2 * k := by simp only [prod]; omega
  have hr : sRight [k, 2] = true := by
    rw [sRight_iff]
    refine ⟨by simp, ?_, by rw [hp]; omega⟩
    simp only [List.all_cons, List.all_nil, Bool.and_eq_true, okDim_iff]
    exact ⟨⟨h0, h1⟩, ⟨by omega, by omega⟩, trivial⟩
  refine ⟨hr, ?_⟩
  unfold sSize
  rw [if_pos hr, hp]

theorem two_plc {k i c : Int} (hi0 : 0 ≤ i) (hi : i < k) (hc0 : 0 ≤ c) (hc : c < 2) : plc [k, 2] (2 * i + c) = [i, c] := by
  have e1 : (2 * i + c) / prod [2] % k = i := by
    have : (2 * i + c) / prod [2] = i := by simp only [prod]; omega
    rw [this, Int.emod_eq_of_lt hi0 hi]
  have e2 : (2 * i + c) / prod [] % 2 = c := by simp only [prod]; omega
  show [(2 * i + c) / prod [2] % k, (2 * i + c) / prod [] % 2] = [i, c]
  rw [e1, e2]

/-- Windows of sums along the first axis of a table of two columns. -/
theorem two_window {n w sp : Int} {d : List Int} (hn1 : n ≤ 20) (hn : 1 ≤ n) (hw : 1 ≤ w) (hw4 : w ≤ 4) (hs : 1 ≤ sp) (hs4 : sp ≤ 4) (hr : tRight [n, 2] d = true) :
    ∃ D, tWindow 1 [n, 2] d 0 w sp = ([outW n w sp, 2], D, 0) ∧ (D.length : Int) = 2 * outW n w sp ∧
      ∀ i c : Int, 0 ≤ i → i < outW n w sp → 0 ≤ c → c < 2 → rd D (2 * i + c) = winAt 1 [n, 2] d [i, c] 0 (i * sp) 0 w.toNat 0 := by
  obtain ⟨o0, o1, o2⟩ := outW_range (n := n) (wide := w) (apart := sp) (by omega) (by omega) hw hs
  obtain ⟨k1, k2⟩ := two_right o0 (by omega)
  refine ⟨madeOf [outW n w sp, 2] (fun p => winAt 1 [n, 2] d p 0 (rd p 0 * sp) 0 w.toNat (noneOf 1)), ?_, by rw [madeOf_length]; omega, ?_⟩
  · unfold tWindow
    have hww : okW w = true := okW_iff.2 (by omega)
    have hss : okW sp = true := okW_iff.2 (by omega)
    have h0 : okHow 1 = true := by decide
    have e0 : rd [n, 2] 0 = n := by have := rd_nat [n, 2] 0 (by simp); simpa using this
    have e1 : (0 : Int).toNat = 0 := rfl
    rw [if_pos (show (okHow 1 && (okW w && okW sp)) = true by rw [hww, hss, h0]; rfl), if_pos hr, if_neg (by simp), e0, e1, List.set_cons_zero]
  · intro i c hi0 hi hc0 hc
    obtain ⟨j, hj⟩ := Int.eq_ofNat_of_zero_le (show 0 ≤ 2 * i + c by omega)
    rw [hj, rd_made _ _ j (by omega), ← hj, two_plc hi0 hi hc0 hc]
    have e0 : rd [i, c] 0 = i := by have := rd_nat [i, c] 0 (by simp); simpa using this
    have e2 : noneOf 1 = 0 := by decide
    rw [e0, e2]

theorem counts_l1 (w sp z : Int) (k : Nat) (i : Nat) (A B C sa sb sc : List Int) (hk : k ≤ 32) (hik : i < k) (hz : wrap64 (wrap64 (2 * (i : Int)) * sp) = 2 * z) (hb0 : 0 ≤ z) (hb1 : z ≤ 100) (hA : (A.length : Int) = 2 * (k : Int)) (hC : (C.length : Int) = 2 * (k : Int))
    (h1 : ∀ c : Int, 0 ≤ c → c < 2 → 2 * z + c < (B.length : Int)) (h2 : ∀ c : Int, 0 ≤ c → c < 2 → rd A (2 * (i : Int) + c) = w) (h3 : ∀ c : Int, 0 ≤ c → c < 2 → rd C (2 * (i : Int) + c) = rd B (2 * z + c))
    (hend : Ev (fun r => parquetrylaw8_WindowCounts.l0 r w sp (k : Int) (((i + 1 : Nat) : Nat) : Int) sa A sb B sc C) true) (m : Nat) : ∀ c : Nat, c + m = 2 → Ev (fun r => parquetrylaw8_WindowCounts.l1 r w sp (k : Int) (i : Int) (c : Int) sa A sb B sc C) true := by
  induction m with
  | zero =>
    intro c hc
    clear hz h1 h2 h3
    refine Ev.step (fun r => ?_) hend
    simp only [parquetrylaw8_WindowCounts.l1]
    rw [if_neg (by omega), wsucc _ (by omega)]
  | succ m ih =>
    intro c hc
    have c2 : (c : Int) < 2 := by omega
    have q1 := h1 (c : Int) (by omega) c2
    have hn := ih (c + 1) (by omega)
    have c0 : (0 : Int) ≤ (c : Int) := Int.natCast_nonneg c
    have d6 : rd A (2 * (i : Int) + (c : Int)) = w := h2 (c : Int) c0 c2
    have d7 : rd C (2 * (i : Int) + (c : Int)) = rd B (2 * z + (c : Int)) := h3 (c : Int) c0 c2
    revert d6 d7
    clear ih h1 h2 h3 hend
    revert hz
    have g1 : -9223372036854775808 ≤ 2 * z + (c : Int) := by omega
    have g2 : 2 * z + (c : Int) ≤ 9223372036854775807 := by omega
    have g3 : -9223372036854775808 ≤ 2 * (i : Int) + (c : Int) := by omega
    have g4 : 2 * (i : Int) + (c : Int) ≤ 9223372036854775807 := by omega
    have g5 : -9223372036854775808 ≤ 2 * (i : Int) := by omega
    have g6 : 2 * (i : Int) ≤ 9223372036854775807 := by omega
    have d1 : ¬ (2 * z + (c : Int) ≥ (B.length : Int)) := by omega
    have d2 : 0 ≤ 2 * (i : Int) + (c : Int) := by omega
    have d3 : 2 * (i : Int) + (c : Int) < (A.length : Int) := by omega
    have d4 : 2 * (i : Int) + (c : Int) < (C.length : Int) := by omega
    have d5 : 0 ≤ 2 * z + (c : Int) := by omega
    have g7 : c < 9223372036854775807 := by omega
    intro hz d6 d7
    have d8 : wrap64 ((c : Int) + 1) = ((c + 1 : Nat) : Int) := wsucc _ g7
    have e1 : wrap64 (wrap64 (wrap64 (2 * (i : Int)) * sp) + (c : Int)) = 2 * z + (c : Int) := by
      rw [hz, w64 g1 g2]
    have e2 : wrap64 (wrap64 (2 * (i : Int)) + (c : Int)) = 2 * (i : Int) + (c : Int) := by
      rw [w64 (n := 2 * (i : Int)) g5 g6, w64 g3 g4]
    refine Ev.step (fun r => ?_) hn
    simp only [parquetrylaw8_WindowCounts.l1]
    rw [e1, e2, d6, d7, d8, if_pos c2, if_neg d1, if_pos d2, if_pos d3, if_pos rfl, if_pos d4, if_pos d5, if_pos q1, if_pos rfl]

theorem counts_l0 (w sp : Int) (k : Nat) (A B C sa sb sc : List Int) (hk : k ≤ 32) (hA : (A.length : Int) = 2 * (k : Int)) (hC : (C.length : Int) = 2 * (k : Int))
    (H : ∀ i : Nat, i < k → ∃ z : Int, wrap64 (wrap64 (2 * (i : Int)) * sp) = 2 * z ∧ 0 ≤ z ∧ z ≤ 100 ∧ (∀ c : Int, 0 ≤ c → c < 2 → 2 * z + c < (B.length : Int)) ∧ (∀ c : Int, 0 ≤ c → c < 2 → rd A (2 * (i : Int) + c) = w) ∧ (∀ c : Int, 0 ≤ c → c < 2 → rd C (2 * (i : Int) + c) = rd B (2 * z + c))) (m : Nat) :
    ∀ i : Nat, i + m = k → Ev (fun r => parquetrylaw8_WindowCounts.l0 r w sp (k : Int) (i : Int) sa A sb B sc C) true := by
  induction m with
  | zero =>
    intro i hi
    refine Ev.step (f := fun k => (parquetrylaw8_known.f k).bind fun t => if t = true then some true else none) (fun r => ?_) law8_end
    simp only [parquetrylaw8_WindowCounts.l0]
    rw [if_neg (by omega)]
  | succ m ih =>
    intro i hi
    have hik : i < k := by omega
    obtain ⟨z, z1, z2, z3, z4, z5, z6⟩ := H i hik
    refine Ev.step (fun r => ?_) (counts_l1 w sp z k i A B C sa sb sc hk hik z1 z2 z3 hA hC z4 z5 z6 (ih (i + 1) (by omega)) 2 0 (by omega))
    simp only [parquetrylaw8_WindowCounts.l0]
    rw [if_pos (by omega)]
    rfl

theorem counts_in {n : Int} (s1 : sRight [n, 2] = true) (i c : Int) (x : Nat) (h0 : 0 ≤ i) (h1 : i + (x : Int) < n) (h2 : 0 ≤ c) (h3 : c < 2) (y : Int) : 0 ≤ sIndex [n, 2] ([y, c].set 0 (i + (x : Int))) ∧ sIndex [n, 2] ([y, c].set 0 (i + (x : Int))) < ((sSize [n, 2]).toNat : Int) := by
  have := within_sIndex (s := [n, 2]) (l := [i + (x : Int), c]) s1 ⟨by omega, by omega, h2, h3, trivial⟩
  rw [List.set_cons_zero]
  refine ⟨this.1, ?_⟩
  have h4 := Int.self_le_toNat (sSize [n, 2])
  exact Int.lt_of_lt_of_le this.2 h4

theorem counts_one {n w : Int} (hn : n ≤ 20) (hw : 1 ≤ w) (x : Int) (x0 : 0 ≤ x) (x1 : x + w ≤ n) : x < outW n w 1 := by
  unfold outW
  rw [if_neg (by omega), if_neg (by omega), if_neg (by omega), if_neg (by omega), w64 (n := n - w) (by omega) (by omega), Int.tdiv_one, w64 (n := n - w) (by omega) (by omega), w64 (by omega) (by omega)]
  omega

theorem counts_facts {n w sp : Int} {d : List Int} (hn1 : n ≤ 20) (hn : 1 ≤ n) (hw : 1 ≤ w) (hw4 : w ≤ 4) (hs : 1 ≤ sp) (hs4 : sp ≤ 4) (hr : tRight [n, 2] d = true) :
    ∃ A B C : List Int, ∃ k : Nat, outW n w sp = (k : Int) ∧ k ≤ 32 ∧ tWindow 1 [n, 2] (List.replicate (sSize [n, 2]).toNat 1) 0 w sp = ([(k : Int), 2], A, 0) ∧ tWindow 1 [n, 2] d 0 w 1 = ([outW n w 1, 2], B, 0) ∧ tWindow 1 [n, 2] d 0 w sp = ([(k : Int), 2], C, 0) ∧
      (A.length : Int) = 2 * (k : Int) ∧ (B.length : Int) = 2 * outW n w 1 ∧ (C.length : Int) = 2 * (k : Int) ∧ (0 ≤ outW n w 1 ∧ outW n w 1 ≤ 32) ∧
      ∀ i : Nat, i < k → ∃ z : Int, wrap64 (wrap64 (2 * (i : Int)) * sp) = 2 * z ∧ 0 ≤ z ∧ z ≤ 100 ∧ (∀ c : Int, 0 ≤ c → c < 2 → 2 * z + c < (B.length : Int)) ∧ (∀ c : Int, 0 ≤ c → c < 2 → rd A (2 * (i : Int) + c) = w) ∧ (∀ c : Int, 0 ≤ c → c < 2 → rd C (2 * (i : Int) + c) = rd B (2 * z + c)) := by
  obtain ⟨s1, s2⟩ := two_right (k := n) (by omega) (by omega)
  have hro : tRight [n, 2] (List.replicate (sSize [n, 2]).toNat 1) = true := tRight_rep 1 s1
  obtain ⟨A, a1', a2', a3'⟩ := two_window (n := n) (w := w) (sp := sp) hn1 hn hw hw4 hs hs4 hro
  obtain ⟨B, b1', b2', b3'⟩ := two_window (n := n) (w := w) (sp := 1) hn1 hn hw hw4 (by omega) (by omega) hr
  obtain ⟨C, c1', c2', c3'⟩ := two_window (n := n) (w := w) (sp := sp) hn1 hn hw hw4 hs hs4 hr
  obtain ⟨o0, o1, o2⟩ := outW_range (n := n) (wide := w) (apart := sp) (by omega) (by omega) hw hs
  obtain ⟨p0, p1, _⟩ := outW_range (n := n) (wide := w) (apart := 1) (by omega) (by omega) hw (by omega)
  obtain ⟨k, hk⟩ := Int.eq_ofNat_of_zero_le o0
  rw [hk] at a1' a2' a3' c1' c2' c3' o1 o2
  refine ⟨A, B, C, k, hk, by omega, a1', b1', c1', a2', b2', c2', ⟨p0, by omega⟩, fun i hi => ?_⟩
  have hi0 : (0 : Int) ≤ (i : Int) := Int.natCast_nonneg i
  have hi1 : (i : Int) < (k : Int) := Int.ofNat_lt.2 hi
  have z0 : 0 ≤ (i : Int) * sp := Int.mul_nonneg hi0 (by omega)
  have z1 := o2 (i : Int) hi0 hi1
  have ha := a3' (i : Int)
  have hc := c3' (i : Int)
  have i1 : 2 * (i : Int) ≤ 9223372036854775807 := by omega
  rw [w64 (n := 2 * (i : Int)) (by omega) i1, show (2 * (i : Int)) * sp = 2 * ((i : Int) * sp) from Int.mul_assoc ..]
  clear a3' c3' o2 a1' b1' c1'
  generalize (i : Int) * sp = z at z0 z1 ha hc ⊢
  have h1 := counts_one hn1 hw z z0 z1
  refine ⟨z, w64 (by omega) (by omega), z0, by omega, fun c c0 c1 => by omega, fun c c0 c1 => ?_, fun c c0 c1 => ?_⟩
  · rw [ha c hi0 hi1 c0 c1, winAt_ones [n, 2] [(i : Int), c] 0 (sSize [n, 2]).toNat w.toNat z (fun x hx => counts_in s1 z c x z0 (by omega) c0 c1 (i : Int)) w.toNat 0 0 (by omega) (by omega) (by omega)]
    omega
  · rw [hc c hi0 hi1 c0 c1, b3' z c z0 h1 c0 c1, Int.mul_one]
    exact winAt_set 1 [n, 2] d [(i : Int), c] [z, c] 0 z (fun y => by rw [List.set_cons_zero, List.set_cons_zero]) w.toNat 0 0

theorem WindowCounts : parquetrylaw8_WindowCounts.Pure := by
  intro l0 a1 a2
  intros
  refine Ev.rounds (g := fun k => parquetrylaw8_WindowCounts.f k l0 a1 a2) ?_
  unfold parquetrylaw8_WindowCounts.f
  obtain ⟨r, b, hn, hb, r0, r1, _⟩ := next_ev (tape_of (l := l0) (by assumption) (by assumption)) 20 (by decide)
  have r20 := r1 (by decide)
  refine Ev.bind hn ?_
  have w1 := and3w a1
  have w2 := and3w a2
  simp only
  rw [w64 (n := 1 + r) (by omega) (by omega), w64 (n := 1 + Go.bits .and .i64 a1 3) (by omega) (by omega), w64 (n := 1 + Go.bits .and .i64 a2 3) (by omega) (by omega)]
  generalize Go.bits .and .i64 a1 3 = u1 at w1 ⊢
  generalize Go.bits .and .i64 a2 3 = u2 at w2 ⊢
  have hn1 : 1 + r ≤ 20 := by omega
  have hn0 : 1 ≤ 1 + r := by omega
  have hw0 : 1 ≤ 1 + u1 := by omega
  have hw4 : 1 + u1 ≤ 4 := by omega
  have hs0 : 1 ≤ 1 + u2 := by omega
  have hs4 : 1 + u2 ≤ 4 := by omega
  generalize 1 + r = n at hn1 hn0 ⊢
  generalize 1 + u1 = w at hw0 hw4 ⊢
  generalize 1 + u2 = sp at hs0 hs4 ⊢
  obtain ⟨d, c, hd, _, hdl, _⟩ := tape_Tensor_ev hb [n, 2] (by simp)
  refine Ev.bind hd (Ev.bind (ref_Fill_ev [n, 2] 1 (by simp)) ?_)
  obtain ⟨s1, _⟩ := two_right (k := n) (by omega) (by omega)
  have hr : tRight [n, 2] d = true := tRight_iff.2 ⟨s1, hdl⟩
  obtain ⟨A, B, C, k, hk, k32, a1', b1', c1', a2', b2', c2', hp, HH⟩ := counts_facts hn1 hn0 hw0 hw4 hs0 hs4 hr
  refine Ev.bind (window_Do_ev 1 [n, 2] (List.replicate (sSize [n, 2]).toNat 1) 0 w sp) ?_
  refine Ev.bind (window_Do_ev 1 [n, 2] d 0 w 1) ?_
  refine Ev.bind (window_Do_ev 1 [n, 2] d 0 w sp) ?_
  rw [a1', b1', c1', window_Out_is, hk]
  have g1 : -9223372036854775808 ≤ 2 * (k : Int) := by omega
  have g2 : 2 * (k : Int) ≤ 9223372036854775807 := by omega
  have g3 : -9223372036854775808 ≤ 2 * outW n w 1 := by omega
  have g4 : 2 * outW n w 1 ≤ 9223372036854775807 := by omega
  have e2 : wrap64 (2 * (k : Int)) = 2 * (k : Int) := w64 g1 g2
  have e3 : wrap64 (2 * outW n w 1) = 2 * outW n w 1 := w64 g3 g4
  refine Ev.congr (f := fun r => parquetrylaw8_WindowCounts.j0 r w sp (k : Int) ((B.length : Int) != 2 * outW n w 1) [(k : Int), 2] A [outW n w 1, 2] B [(k : Int), 2] C) (fun r => ?_) ?_
  · rw [Option.bind_some, if_pos rfl, if_pos rfl, if_pos rfl, e2, if_pos a2', if_pos c2', window_Out_is, Option.bind_some, e3]
  · rw [b2']
    refine Ev.step (fun r => ?_) (counts_l0 w sp k A B C [(k : Int), 2] [outW n w 1, 2] [(k : Int), 2] k32 a2' c2' HH k 0 (Nat.zero_add k))
    simp only [parquetrylaw8_WindowCounts.j0]
    rw [if_neg (by simp)]
    rfl

end Go.Proofs.Ytkeclgfnlpkjeaa.Pure
