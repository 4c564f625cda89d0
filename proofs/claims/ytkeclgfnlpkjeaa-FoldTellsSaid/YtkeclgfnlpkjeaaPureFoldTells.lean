/- FoldTells: numbers are folded as the document says, at a drawn tensor and at a free one. -/
import Derived.Test.YtkeclgfnlpkjeaaLaw6
import Derived.Test.YtkeclgfnlpkjeaaQx23
namespace Go.Proofs.Ytkeclgfnlpkjeaa.Pure
open Go.RowKit Go.Proofs.YtkeclgfnlpkjeaaW.PrintWords Go.Proofs.Ytkeclgfnlpkjeaa.Q Go.Proofs.Ytkeclgfnlpkjeaa.Plain

theorem f_l0 (how : Int) (l2 : List Int) (a b : Int) (s fs fd l : List Int) (hsm : SmallShape s) (h2 : l2.length < 9223372036854775807) (hfs : fs.length < 9223372036854775807) (n : Nat) : ∀ (i : Nat) (acc : List Int) (p : Int), i + n = s.length → acc.length ≤ i → TapeOk l p →
    Ev (fun k => parquetrylaw6_FoldTells.l0 k how l2 a b s acc (s.length : Int) (i : Int) fs fd l p) true := by
  have hs3 := (small_ok hsm).2
  induction n with
  | zero =>
    intro i acc p hi hacc ht
    obtain ⟨d, c, hd, _, hdl, _⟩ := tape_Tensor_ev ht s (by omega)
    refine Ev.step (f := fun k => (parquetrykeep_Tape_Tensor.f k l p s).bind fun bt => (parquetrylaw6_same.f k (wrap64 (1 + (Go.bits .and .i64 how 3))) bt.1 bt.2.1 acc).bind fun t1 => if t1 = true then ((parquetrylaw6_same.f k how bt.1 bt.2.1 acc).bind fun t2 => if t2 = true then ((parquetrylaw6_same.f k (wrap64 (1 + (Go.bits .and .i64 how 3))) bt.1 bt.2.1 l2).bind fun t3 => if t3 = true then ((parquetrylaw6_same.f k (wrap64 (1 + (Go.bits .and .i64 how 3))) fs fd l2).bind fun t4 => if t4 = true then ((parquetrylaw6_known.f k).bind fun t => if t = true then some true else none) else none) else none) else none) else none) (fun k => ?_) ?_
    · simp only [parquetrylaw6_FoldTells.l0]
      rw [if_neg (by omega)]
      simp only [fold_Step_is, ref_Put_is, Option.bind_some, if_true]
    · refine Ev.bind hd ?_
      refine Ev.bind (law6_same _ s d acc (by omega) (by omega)) (Ev.congr (fun k => by rw [if_pos rfl]) ?_)
      refine Ev.bind (law6_same _ s d acc (by omega) (by omega)) (Ev.congr (fun k => by rw [if_pos rfl]) ?_)
      refine Ev.bind (law6_same _ s d l2 (by omega) h2) (Ev.congr (fun k => by rw [if_pos rfl]) ?_)
      exact Ev.bind (law6_same _ fs fd l2 hfs h2) (Ev.congr (fun k => by rw [if_pos rfl]) law6_end)
  | succ n ih =>
    intro i acc p hi hacc ht
    obtain ⟨r, q, hr, hq, _, _, _⟩ := next_ev ht 2 (by omega)
    refine Ev.step (f := fun k => (parquetrykeep_Tape_Next.f k l p 2).bind fun bt => if bt.1 = 0 then (if acc.length < 17592186044416 then parquetrylaw6_FoldTells.l0 k how l2 a b s (acc ++ [(i : Int)]) (s.length : Int) ((i + 1 : Nat) : Int) fs fd l bt.2 else none) else parquetrylaw6_FoldTells.l0 k how l2 a b s acc (s.length : Int) ((i + 1 : Nat) : Int) fs fd l bt.2) (fun k => ?_) ?_
    · simp only [parquetrylaw6_FoldTells.l0]
      rw [if_pos (by omega), wsucc _ (by omega)]
    · refine Ev.bind hr ?_
      by_cases h : r = 0
      · exact Ev.congr (fun k => by rw [if_pos h, if_pos (by omega)]) (ih (i + 1) (acc ++ [(i : Int)]) q (by omega) (by simp; omega) hq)
      · exact Ev.congr (fun k => by rw [if_neg h]) (ih (i + 1) acc q (by omega) (by omega) hq)

theorem FoldTells : parquetrylaw6_FoldTells.Pure := by
  intro a0 l1 l2 a3 a4 fs fd
  intros
  refine Ev.rounds (g := fun k => parquetrylaw6_FoldTells.f k a0 l1 l2 a3 a4 fs fd) ?_
  unfold parquetrylaw6_FoldTells.f
  obtain ⟨s, b, hs, hb, hsm⟩ := tape_Shape_ev (tape_of (l := l1) (by assumption) (by assumption))
  refine Ev.bind hs ?_
  exact f_l0 a0 l2 a3 a4 s fs fd l1 hsm (by omega) (by omega) s.length 0 [] b (by omega) (by simp) hb

end Go.Proofs.Ytkeclgfnlpkjeaa.Pure
