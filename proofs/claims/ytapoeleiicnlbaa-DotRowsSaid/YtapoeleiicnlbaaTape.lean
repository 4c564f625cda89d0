/- What is read off a tape: numbers in their ranges, shapes of three axes at most, each way at most 7. -/
import Derived.Test.YtapoeleiicnlbaaPlain
import Derived.Test.YtapoeleiicnlbaaQx19
namespace Go.Proofs.Ytapoeleiicnlbaa.Plain
open Go.RowKit Go.Proofs.YtapoeleiicnlbaaW.PrintWords Go.Proofs.Ytapoeleiicnlbaa.Q

theorem within_ev (n : Int) (hn : -9223372036854775808 ≤ n ∧ n ≤ 9223372036854775807) : ∃ r, Ev (fun k => parquetrybook_Within.f k n 0 1073741824) r ∧ 0 ≤ r ∧ r ≤ 1073741824 := by
  by_cases h : 0 ≤ n ∧ n ≤ 1073741824
  · refine ⟨n, Ev.one fun k => ?_, h⟩
    unfold parquetrybook_Within.f
    rw [if_pos h.1, decide_eq_true h.2]
    simp [parquetrybook_Within.j0]
  · have hw : wrap64 (wrap64 (1073741824 - 0) + 1) = 1073741825 := by decide +kernel
    have hb : ∀ k, parquetrybook_Within.f (k + 1) n 0 1073741824 = parquetrybook_Within.j0 (k + 1) n 0 1073741824 false := by
      intro k
      unfold parquetrybook_Within.f
      by_cases h0 : n ≥ 0
      · rw [if_pos h0, decide_eq_false (by omega)]
      · rw [if_neg h0]
    have hm1 := Int.tmod_lt_of_pos n (show (0 : Int) < 1073741825 by decide)
    have hm2 := Int.lt_tmod_of_pos n (show (0 : Int) < 1073741825 by decide)
    by_cases h2 : Int.tmod n 1073741825 < 0
    · refine ⟨Int.tmod n 1073741825 + 1073741825, Ev.one fun k => ?_, by omega, by omega⟩
      rw [hb]
      simp only [parquetrybook_Within.j0]
      rw [if_neg (by decide), hw, if_neg (by decide), if_pos h2, w64 (n := Int.tmod n 1073741825 + 1073741824) (by omega) (by omega), w64 (n := Int.tmod n 1073741825 + 1073741824 - 0) (by omega) (by omega), w64 (n := Int.tmod n 1073741825 + 1073741824 - 0 + 1) (by omega) (by omega), w64 (by omega) (by omega)]
      congr 1
      omega
    · refine ⟨Int.tmod n 1073741825, Ev.one fun k => ?_, by omega, by omega⟩
      rw [hb]
      simp only [parquetrybook_Within.j0]
      rw [if_neg (by decide), hw, if_neg (by decide), if_neg h2, w64 (by omega) (by omega)]
      congr 1
      omega

/-- A tape: its numbers are ints, and where it is lies in it. -/
def TapeOk (l : List Int) (at_ : Int) : Prop := (∀ x ∈ l, -9223372036854775808 ≤ x ∧ x ≤ 9223372036854775807) ∧ l.length < 9223372036854775807 ∧ 0 ≤ at_ ∧ at_ ≤ (l.length : Int)

theorem next_ev {l : List Int} {a : Int} (h : TapeOk l a) (n : Int) (hn : n ≤ 9223372036854775807) : ∃ r b, Ev (fun k => parquetrykeep_Tape_Next.f k l a n) (r, b) ∧ TapeOk l b ∧ 0 ≤ r ∧ (1 ≤ n → r < n) ∧ (n < 1 → r = 0) := by
  obtain ⟨hw, hl, h0, h1⟩ := h
  by_cases ha : a ≥ (l.length : Int)
  · refine ⟨0, a, Ev.ret fun k => ?_, ⟨hw, hl, h0, h1⟩, by omega, fun _ => by omega, fun _ => rfl⟩
    unfold parquetrykeep_Tape_Next.f
    rw [if_pos ha]
  · by_cases hn1 : n < 1
    · refine ⟨0, a, Ev.ret fun k => ?_, ⟨hw, hl, h0, h1⟩, by omega, fun _ => by omega, fun _ => rfl⟩
      unfold parquetrykeep_Tape_Next.f
      rw [if_neg ha, if_pos hn1]
    · have e1 : wrap64 (a + 1) = a + 1 := w64 (by omega) (by omega)
      have e2 : wrap64 (a + 1 - 1) = a := by rw [w64 (by omega) (by omega)]; omega
      have hx : rd l a ∈ l := by
        obtain ⟨m, rfl⟩ := Int.eq_ofNat_of_zero_le h0
        rw [rd_nat l m (by omega)]
        exact List.getElem_mem _
      obtain ⟨r, hr, r0, r1⟩ := within_ev (rd l a) (hw _ hx)
      have hm : Int.tmod r n = r % n := Int.tmod_eq_emod_of_nonneg r0
      refine ⟨Int.tmod r n, a + 1, ?_, ⟨hw, hl, by omega, by omega⟩, ?_, fun _ => ?_, fun h => absurd h hn1⟩
      · refine Ev.congr (f := fun k => (parquetrybook_Within.f k (rd l a) 0 1073741824).bind fun t => some (Int.tmod t n, a + 1)) (fun k => ?_) (Ev.bind hr (Ev.now _))
        unfold parquetrykeep_Tape_Next.f
        rw [if_neg ha, if_neg hn1, e1, e2, if_pos h0, if_pos (by omega)]
        congr 1
        funext t
        rw [if_neg (by omega)]
      · rw [hm]; exact Int.emod_nonneg _ (by omega)
      · rw [hm]; exact Int.emod_lt_of_pos _ (by omega)

theorem tape_of {l : List Int} (hl : l.length * 8 ≤ 140737488351232) (hw : ∀ x ∈ l, (Lit.int .i64 x).wf = true) : TapeOk l 0 := by
  refine ⟨fun x hx => ?_, by omega, by omega, by omega⟩
  have := hw x hx
  simp [Lit.wf, IntKind.min, IntKind.max, IntKind.signed, IntKind.bits] at this
  omega

end Go.Proofs.Ytapoeleiicnlbaa.Plain
