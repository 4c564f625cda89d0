/- DotTells: rows are multiplied by columns as the document says, at drawn tensors and at free ones. -/
import Derived.Test.YtapoeleiicnlbaaLaw7
import Derived.Test.YtapoeleiicnlbaaQx21
namespace Go.Proofs.Ytapoeleiicnlbaa.Pure
open Go.RowKit Go.Proofs.YtapoeleiicnlbaaW.PrintWords Go.Proofs.Ytapoeleiicnlbaa.Q Go.Proofs.Ytapoeleiicnlbaa.Plain

theorem d_j1 (n k0 : Int) (s o fs fd gs gd l : List Int) (p : Int) (hs : s.length ≤ 4) (ho : o.length ≤ 4) (hfs : fs.length < 9223372036854775807) (hgs : gs.length < 9223372036854775807) (ht : TapeOk l p) :
    Ev (fun k => parquetrylaw7_DotTells.j1 k n s o k0 fs fd gs gd l p) true := by
  obtain ⟨d1, p1, e1, t1, _, _⟩ := tape_Tensor_ev ht s (by omega)
  obtain ⟨d2, p2, e2, t2, _, _⟩ := tape_Tensor_ev t1 o (by omega)
  obtain ⟨d3, p3, e3, t3, _, _⟩ := tape_Tensor_ev t2 s (by omega)
  obtain ⟨d4, p4, e4, t4, _, _⟩ := tape_Tensor_ev t3 o (by omega)
  obtain ⟨d5, p5, e5, t5, _, _⟩ := tape_Tensor_ev t4 s (by omega)
  refine Ev.step (f := fun k => (parquetrykeep_Tape_Tensor.f k l p s).bind fun bt511 => ((parquetrykeep_Tape_Tensor.f k l bt511.2.2 o).bind fun bt518 => ((parquetrylaw7_same.f k bt511.1 bt511.2.1 bt518.1 bt518.2.1 k0).bind fun t525 => (if t525 = true then ((parquetrykeep_Tape_Tensor.f k l bt518.2.2 s).bind fun bt526 => ((parquetrykeep_Tape_Tensor.f k l bt526.2.2 o).bind fun bt533 => ((parquetrylaw7_same.f k bt526.1 bt526.2.1 bt533.1 bt533.2.1 (Go.bits .and .i64 n 3)).bind fun t540 => (if t540 = true then ((parquetrylaw7_same.f k fs fd gs gd n).bind fun t541 => (if t541 = true then ((parquetrykeep_Tape_Tensor.f k l bt533.2.2 s).bind fun bt542 => ((parquetrylaw7_same.f k bt542.1 bt542.2.1 fs fd n).bind fun t549 => (if t549 = true then ((parquetrylaw7_known.f k).bind fun t550 => (if t550 = true then (some true) else (none))) else (none)))) else (none))) else (none))))) else (none))))) (fun k => ?_) ?_
  · simp only [parquetrylaw7_DotTells.j1]
  · refine Ev.bind e1 (Ev.bind e2 ?_)
    refine Ev.bind (law7_same s d1 o d2 _ (by omega) (by omega)) (Ev.congr (fun k => by rw [if_pos rfl]) ?_)
    refine Ev.bind e3 (Ev.bind e4 ?_)
    refine Ev.bind (law7_same s d3 o d4 _ (by omega) (by omega)) (Ev.congr (fun k => by rw [if_pos rfl]) ?_)
    refine Ev.bind (law7_same fs fd gs gd _ hfs hgs) (Ev.congr (fun k => by rw [if_pos rfl]) ?_)
    refine Ev.bind e5 ?_
    exact Ev.bind (law7_same s d5 fs fd _ (by omega) hfs) (Ev.congr (fun k => by rw [if_pos rfl]) law7_end)

theorem DotTells : parquetrylaw7_DotTells.Pure := by
  intro l a1 fs fd gs gd
  intros
  refine Ev.rounds (g := fun k => parquetrylaw7_DotTells.f k l a1 fs fd gs gd) ?_
  unfold parquetrylaw7_DotTells.f
  obtain ⟨s, b, hs, hb, hsm⟩ := tape_Shape_ev (tape_of (l := l) (by assumption) (by assumption))
  have hs3 := (small_ok hsm).2
  refine Ev.bind hs ?_
  obtain ⟨o, c, ho, hc, hom⟩ := tape_Shape_ev hb
  have ho3 := (small_ok hom).2
  refine Ev.bind ho ?_
  obtain ⟨r, e, hr, he, r0, _, _⟩ := next_ev hc 3 (by omega)
  refine Ev.bind hr ?_
  have plain : Ev (fun k => parquetrylaw7_DotTells.j0 k a1 s o r false fs fd gs gd l e) true := by
    refine Ev.step (fun k => ?_) (d_j1 a1 r s o fs fd gs gd l e (by omega) (by omega) (by omega) (by omega) he)
    simp only [parquetrylaw7_DotTells.j0]
    rw [if_neg (by simp)]
  by_cases h1 : (s.length : Int) > r
  · refine Ev.congr (fun k => by rw [if_pos h1]) ?_
    by_cases h2 : (o.length : Int) > r
    · have hw : wrap64 ((s.length : Int) - 1) = (s.length : Int) - 1 := w64 (by omega) (by omega)
      refine Ev.congr (f := fun k => parquetrylaw7_DotTells.j0 k a1 s o r true fs fd gs gd l e) (fun k => by simp only; rw [decide_eq_true h2]) ?_
      refine Ev.step (fun k => ?_) (d_j1 a1 r s ((copyAt o 0 (o.take r.toNat).length (s.take r.toNat)).set r.toNat (rd s ((s.length : Int) - 1))) fs fd gs gd l e (by omega) (by rw [List.length_set, copyAt_length _ _ _ _ (by simp; omega)]; omega) (by omega) (by omega) he)
      simp only [parquetrylaw7_DotTells.j0]
      rw [if_pos trivial, if_pos r0, if_pos (by omega), if_pos (by omega), hw, if_pos (by omega), if_pos (by omega), if_pos (by omega)]
    · exact Ev.congr (fun k => by simp only; rw [decide_eq_false h2]) plain
  · exact Ev.congr (fun k => by rw [if_neg h1]) plain

end Go.Proofs.Ytapoeleiicnlbaa.Pure
