/- TensorTells: at a drawn tensor, and at a free one, the two texts tell the same. -/
import Derived.Test.YthkcceknccdmpaaLaw2Same
import Derived.Test.YthkcceknccdmpaaQx12
namespace Go.Proofs.Ythkcceknccdmpaa.Pure
open Go.RowKit Go.Proofs.YthkcceknccdmpaaW.PrintWords Go.Proofs.Ythkcceknccdmpaa.Q Go.Proofs.Ythkcceknccdmpaa.Plain

theorem t_l0 (x1 x2 : List Int) (a b : Int) (u : List Int) (l : List Int) (fs fd s d : List Int) (h1 : Fits x1) (hs : Fits s) (hd : Fits d) (hfs : Fits fs) (hfd : Fits fd) (hu : SmallShape u)
    (post : List Int) : ∀ (pre acc : List Int) (p : Int), pre ++ post = u → acc.length = pre.length → TapeOk l p →
    Ev (fun k => parquetrylaw2_TensorTells.l0 k x1 x2 a b u acc u (u.length : Int) (pre.length : Int) fs fd l p s d) true := by
  have hu3 := (small_ok hu).2
  induction post with
  | nil =>
    intro pre acc p hp hacc ht
    refine Ev.step (f := fun k => (parquetrylaw2_same.f k s d u a (Go.bits .and .i64 b 3) acc).bind fun t => if t = true then ((parquetrylaw2_same.f k s d x1 a b x2).bind fun t2 => if t2 = true then ((parquetrylaw2_same.f k fs fd x1 a b x2).bind fun t3 => if t3 = true then ((parquetrylaw2_known.f k).bind fun t => if t = true then some true else none) else none) else none) else none) (fun k => ?_) ?_
    · simp only [parquetrylaw2_TensorTells.l0]
      have : u.length = pre.length := by rw [← hp]; simp
      rw [if_neg (by omega)]
    · have hfu : Fits u := by unfold Fits; omega
      refine Ev.bind (law2_f s d u a _ acc hs hd hfu) (Ev.congr (fun k => by rw [if_pos rfl]) (Ev.bind (law2_f s d x1 a b x2 hs hd h1) (Ev.congr (fun k => by rw [if_pos rfl]) (Ev.bind (law2_f fs fd x1 a b x2 hfs hfd h1) (Ev.congr (fun k => by rw [if_pos rfl]) law2_end)))))
  | cons x xs ih =>
    intro pre acc p hp hacc ht
    have hlen : u.length = pre.length + 1 + xs.length := by rw [← hp]; simp; omega
    have hx : 0 ≤ x ∧ x ≤ 7 := hu.2 x (by rw [← hp]; simp)
    have hrd : rd u (pre.length : Int) = x := by rw [← hp]; exact rd_mid pre x xs
    obtain ⟨r, q, hr, hq, _, _, _⟩ := next_ev ht (x + 1) (by omega)
    have := ih (pre ++ [x]) (acc ++ [r]) q (by simpa using hp) (by simp [hacc]) hq
    refine Ev.step (f := fun k => (parquetrykeep_Tape_Next.f k l p (x + 1)).bind fun bt => if acc.length < 17592186044416 then (parquetrylaw2_TensorTells.l0 k x1 x2 a b u (acc ++ [bt.1]) u (u.length : Int) (((pre ++ [x]).length : Nat) : Int) fs fd l bt.2 s d) else none) (fun k => ?_) ?_
    · simp only [parquetrylaw2_TensorTells.l0]
      rw [if_pos (by omega), if_pos (by omega), if_pos (by omega), hrd, w64 (by omega) (by omega), wsucc _ (by omega)]
      simp
    · refine Ev.bind hr (Ev.congr (fun k => ?_) this)
      rw [if_pos (by omega)]

theorem TensorTells : parquetrylaw2_TensorTells.Pure := by
  intro l0 l1 l2 a3 a4 fs fd _ hl hw _ hl1 _ _ _ _ _ _ _ hfs _ _ hfd _
  refine Ev.rounds (g := fun k => parquetrylaw2_TensorTells.f k l0 l1 l2 a3 a4 fs fd) ?_
  unfold parquetrylaw2_TensorTells.f
  obtain ⟨s, b, hs, hb, hsm⟩ := tape_Shape_ev (tape_of hl hw)
  have hs3 := (small_ok hsm).2
  have hz := size_range s
  refine Ev.bind hs ?_
  obtain ⟨d, c, hd, hc, hdl, _⟩ := tape_Tensor_ev hb s (by omega)
  refine Ev.bind hd ?_
  exact t_l0 l1 l2 a3 a4 s l0 fs fd s d (by unfold Fits; omega) (by unfold Fits; omega) (by unfold Fits; omega) (by unfold Fits; omega) (by unfold Fits; omega) hsm s [] [] c rfl rfl hc

end Go.Proofs.Ythkcceknccdmpaa.Pure
