/- FoldOrders: the axes' order makes no difference to what all of it comes to; folded along an axis of one, or along none, all is as it was. -/
import Derived.Test.YtkeclgfnlpkjeaaFoldTurn
import Derived.Test.YtkeclgfnlpkjeaaQx29
import Derived.Test.YtkeclgfnlpkjeaaQx35
namespace Go.Proofs.Ytkeclgfnlpkjeaa.Pure
open Go.RowKit Go.Proofs.YtkeclgfnlpkjeaaW.PrintWords Go.Proofs.Ytkeclgfnlpkjeaa.Q Go.Proofs.Ytkeclgfnlpkjeaa.Plain

theorem fo_known : Ev (fun k => parquetrylaw6_known.f k) true := Ev.of (fun k => parquetrylaw6_known.mono k) (k := 40) (by decide +kernel)
theorem fo_end : Ev (fun k => (parquetrylaw6_known.f k).bind fun t => if t = true then some true else none) true :=
  Ev.bind fo_known (Ev.ret fun k => by rw [if_pos rfl])

theorem fo_how (x : Int) : wrap64 (1 + Go.bits .and .i64 x 3) = 1 + Go.bits .and .i64 x 3 ∧ okHow (1 + Go.bits .and .i64 x 3) = true := by
  have e : Go.bits .and .i64 x 3 = IntKind.i64.wrap (((BitVec.ofInt IntKind.i64.bits x &&& BitVec.ofInt IntKind.i64.bits 3).toNat : Nat) : Int) := rfl
  have h : (BitVec.ofInt IntKind.i64.bits x &&& BitVec.ofInt IntKind.i64.bits 3).toNat ≤ 3 := by
    rw [BitVec.toNat_and]
    exact Nat.le_trans Nat.and_le_right (by decide)
  have h2 : 0 ≤ Go.bits .and .i64 x 3 ∧ Go.bits .and .i64 x 3 ≤ 3 := by
    rw [e, IntKind.wrap_i64]
    omega
  refine ⟨w64 (by omega) (by omega), ?_⟩
  simp only [okHow, Bool.and_eq_true, decide_eq_true_eq]
  omega

theorem fo_loop (how : Int) (s d s2 : List Int) (hd : d.length ≤ 4096) (hs : s.length ≤ 4) (hfold : tFold how s d [] = (s, d, 0)) (m : Nat) : ∀ i : Nat, i + m = d.length → Ev (fun k => parquetrylaw6_FoldOrders.l0 k how (d.length : Int) (i : Int) s d s2 d) true := by
  induction m with
  | zero =>
    intro i hi
    refine Ev.step (f := fun k => (fold_Do.f k how s d []).bind fun bt => if bt.2.2 = 0 then (parquetryref1_Same.f k bt.1 bt.2.1 s d).bind fun t => (if t = true then (parquetrylaw6_known.f k).bind fun t => if t = true then some true else none else none) else none) (fun k => ?_) ?_
    · simp only [parquetrylaw6_FoldOrders.l0]
      rw [if_neg (by omega)]
    · have e := fold_Do_ev how s d [] (by simp)
      rw [hfold] at e
      refine Ev.bind e (Ev.congr (fun k => by rw [if_pos rfl]) (Ev.bind (ref_Same_ev s d s d (by omega) (by omega)) ?_))
      exact Ev.congr (fun k => by rw [if_pos (tSame_self _ _)]) fo_end
  | succ m ih =>
    intro i hi
    have a1 : (i : Int) < (d.length : Int) := by omega
    refine Ev.step (fun k => ?_) (ih (i + 1) (by omega))
    simp only [parquetrylaw6_FoldOrders.l0]
    rw [if_pos a1, if_pos (Int.natCast_nonneg i), if_pos a1, if_pos a1, if_pos trivial, wsucc i (by omega)]

theorem three_right {x z : Int} (hx0 : 1 ≤ x) (hx : x ≤ 4) (hz0 : 1 ≤ z) (hz : z ≤ 5) : sRight [x, 1, z] = true ∧ sRight [z, 1, x] = true ∧ sSize [x, 1, z] = sSize [z, 1, x] := by
  have hxm : x = 1 ∨ x = 2 ∨ x = 3 ∨ x = 4 := by omega
  have hzm : z = 1 ∨ z = 2 ∨ z = 3 ∨ z = 4 ∨ z = 5 := by omega
  rcases hxm with rfl | rfl | rfl | rfl <;> rcases hzm with rfl | rfl | rfl | rfl | rfl <;> decide

theorem FoldOrders : parquetrylaw6_FoldOrders.Pure := by
  intro l0 a1
  intros
  refine Ev.rounds (g := fun k => parquetrylaw6_FoldOrders.f k l0 a1) ?_
  unfold parquetrylaw6_FoldOrders.f
  obtain ⟨r, b, hn, hb, r0, r1, _⟩ := next_ev (tape_of (l := l0) (by assumption) (by assumption)) 4 (by decide)
  have r4 := r1 (by decide)
  refine Ev.bind hn ?_
  obtain ⟨q, c, hq, hc, q0, q1, _⟩ := next_ev hb 5 (by decide)
  have q5 := q1 (by decide)
  refine Ev.bind hq ?_
  obtain ⟨hw, hh⟩ := fo_how a1
  have w1 : wrap64 (1 + r) = 1 + r := w64 (by omega) (by omega)
  have w2 : wrap64 (1 + q) = 1 + q := w64 (by omega) (by omega)
  dsimp only
  rw [w1, w2, hw]
  clear w1 w2 hw
  generalize 1 + Go.bits .and .i64 a1 3 = how at hh ⊢
  have x0 : 1 ≤ 1 + r := by omega
  have x4 : 1 + r ≤ 4 := by omega
  have z0 : 1 ≤ 1 + q := by omega
  have z5 : 1 + q ≤ 5 := by omega
  generalize 1 + r = x at x0 x4 ⊢
  generalize 1 + q = z at z0 z5 ⊢
  obtain ⟨t1, t2, t3⟩ := three_right x0 x4 z0 z5
  obtain ⟨d, e, hd, _, hdl, hdr⟩ := tape_Tensor_ev hc [x, 1, z] (by simp)
  refine Ev.bind hd ?_
  have hsz := size_range [x, 1, z]
  have hr : tRight [x, 1, z] d = true := tRight_iff.2 ⟨t1, hdl⟩
  have hd4 : d.length ≤ 4096 := by omega
  have htl : ((turnOf x z d).length : Int) = sSize [z, 1, x] := by rw [turnOf_length]; omega
  have hrt : tRight [z, 1, x] (turnOf x z d) = true := tRight_iff.2 ⟨t2, htl⟩
  refine Ev.bind (turn_ev x z d hr) ?_
  have e1 := fold_Do_ev how [x, 1, z] d [0, 1, 2] (by simp)
  rw [fold_all hh hr] at e1
  refine Ev.bind e1 ?_
  have e2 := fold_Do_ev how [z, 1, x] (turnOf x z d) [0, 1, 2] (by simp)
  rw [fold_all hh hrt, perm_foldl (step_comm how) (turn_same x0 x4 z0 z5 hdl)] at e2
  refine Ev.bind e2 ?_
  obtain ⟨m1, m2⟩ := fold_mid hh hr hdr
  refine Ev.bind (fold_Do_ev how [x, 1, z] d [1] (by simp)) ?_
  refine Ev.congr (fun k => by rw [if_pos rfl, if_pos rfl, if_pos m1]) (Ev.bind (ref_Same_ev [] _ [] _ (by simp) (by simp)) ?_)
  refine Ev.congr (fun k => by rw [if_pos (tSame_self _ _)]) ?_
  rw [m2]
  have hne : (((d.length : Int)) != (d.length : Int)) = false := by simp
  refine Ev.step (fun k => ?_) (fo_loop how [x, 1, z] d (tFold how [x, 1, z] d [1]).1 hd4 (by simp) (fold_none hh hr hdr) d.length 0 (Nat.zero_add _))
  simp only [parquetrylaw6_FoldOrders.j0]
  rw [if_neg (by simp)]
  rfl

end Go.Proofs.Ytkeclgfnlpkjeaa.Pure
