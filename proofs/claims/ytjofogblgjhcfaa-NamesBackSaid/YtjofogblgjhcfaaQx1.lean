-- Printed by a program (a variant of the kit print, with contracts of our own).
import Derived.Test.YtjofogblgjhcfaaQx0
namespace Go.Proofs.Ytjofogblgjhcfaa.Q
open Go.RowKit Go.Proofs.YtjofogblgjhcfaaW.PrintWords Go.Proofs.YtjofogblgjhcfaaW.PrintLast Go.Proofs.YtjofogblgjhcfaaW.PrintMore
attribute [local go_sem] max2_int min2_int max_two min_two max_three min_three max_four min_four   -- for this text's walks alone
set_option linter.unusedVariables false
set_option linter.unusedSimpArgs false

-- OWN PART
/-! ### names_Runes: function 20 -/
def names_Runes.f (a0 : ByteArray) : Option (List Int) := if a0.size < 4398046511104 then some (runesOf_ a0) else none
set_option maxHeartbeats 8000000 in
set_option maxRecDepth 100000 in
theorem names_Runes.calls (a0 : ByteArray) (r : List Int) (w : World) (h : names_Runes.f a0 = some r) :
    Calls Try.prog 20 #[.string a0] w fun e w' => ∃ v0_ : Value, e = .returned (v0_) ∧ Kd.R (Kd.int .i32) 21 w' w.heap.size (fun _ => True) v0_ r ∧ Below w.heap.size w w' := by
  have HB := Aside0.mk (Below.refl w.heap.size w)
  unfold names_Runes.f at h
  by_cases hsz : a0.size < 4398046511104
  · rw [if_pos hsz] at h
    have HR := Aside0.mk (Option.some.inj h)
    clear h
    have HS := Aside0.mk hsz
    clear hsz
    have hu9 := Try.underlying9
    go_enter Try.func20, Try.ntmps20
    go_wp2
    have BK := Aside0.mk (World.iter_heap w a0 0)
    have HB1 := Aside0.mk (show Below w.heap.size w (w.iter a0 0) from below_alloc HB.out _)
    go_loopg [3] (a0.size + 1) (fun kq v3 w' => ∃ (x3 : List Int) (pos kk : Nat), Aside0 (kq = a0.size - pos + 1) ∧ Aside0 (a0.size ≤ pos + kk ∧ x3 ++ runesGo a0 kk pos = r ∧ x3.length ≤ pos) ∧ Aside0 (Kd.R (Kd.int .i32) 21 w' w.heap.size (fun _ => True) v3 x3) ∧ Aside0 (w'.heap[w.heap.size]? = some (.stringIter a0 pos)) ∧ Aside0 (Below w.heap.size w w'))
    case atStart => exact ⟨[], 0, a0.size, ⟨by omega⟩, ⟨by omega, HR.out, Nat.le_refl _⟩, ⟨Kd.R_nil _ _ _ _ _⟩, BK, HB1⟩
    case round =>
      clear BK HB1
      obtain ⟨x3, pos, kk, HK, HA, HO_3, BK, HB1⟩ := hrel
      by_cases hp : pos < a0.size
      · obtain ⟨kk', hk1, hk2⟩ := runesGo_on a0 kk pos hp HA.out.1
        have hwd := decode_wide a0 pos hp
        have hnx := fun ty => run_next_at (P := Try.prog) BK.out ty hp
        have HG := Aside0.mk (nextW_at BK.out (pos + (Utf8.decode a0 pos).2))
        have HO1 := Aside0.mk (Kd.R_iter HO_3.out BK.out (pos + (Utf8.decode a0 pos).2))
        have HB2 := Aside0.mk (nextW_below HB1.out (Nat.le_refl _) a0 (pos + (Utf8.decode a0 pos).2))
        have HC := Aside0.mk (show x3 ++ [((Utf8.decode a0 pos).1 : Int)] ++ runesGo a0 kk' (pos + (Utf8.decode a0 pos).2) = r by rw [List.append_assoc]; have := HA.out.2.1; rw [hk2] at this; exact this)
        have HL := Aside0.mk (And.intro HA.out.2.2 (And.intro hp (And.intro hk1 hwd)))
        clear hk2 hk1 hwd hp HA HO_3 HB1
        go_wp2_with (first | ((with_reducible refine gate_builtin (b := .append) (xs := #[.tmp 11, .tmp 13]) rfl ?_); at_builtin; refine Kd.R_append (Kd.int .i32) (w0 := w) w.heap.size rfl (.tmp 11) (.tmp 13) 33 21 (.int .i32 0) 4 rfl Try.underlying33 info21 rfl (by decide) (by omega) u3 x3 ((Utf8.decode a0 pos).1 : Int) [.int .i32 ((Utf8.decode a0 pos).1 : Int)] (fun _ => True) (fun _ => False) rfl (by first | (go_simp; done) | (go_simp; rfl)) ?aP (fun _ hk => hk.elim) ?aF ?aO ?aB ?aS ?aL ?_; (case aP => exact rfl); (case aB => exact HB2.out); (case aF => exact (fun _ _ => trivial)); (case aO => exact HO1.out); (case aS => exact (below_size HB2.out)); (case aL => have := HL.out; have := HS.out; omega); intro v103 w6 ho hb hg hat; have n0_ := Aside0.mk (blk_grown HG.out hg (Kd.R_not_iter HO1.out HG.out)); have n1_ := Aside0.mk hb; have n2_ := Aside0.mk ho; clear ho hb hg hat))
        go_roundg (a0.size - (pos + (Utf8.decode a0 pos).2) + 1)
        case measure => have := HL.out; have := HK.out; omega
        case rel => exact ⟨_, pos + (Utf8.decode a0 pos).2, kk', ⟨rfl⟩, ⟨HL.out.2.2.1, HC.out, by have := HL.out; simp only [List.length_append, List.length_cons, List.length_nil]; omega⟩, n2_, n0_, n1_⟩
      · have hnx := fun ty => run_next_over (P := Try.prog) BK.out ty hp
        have he : x3 = r := by have := HA.out.2.1; rwa [runesGo_end a0 kk pos hp, List.append_nil] at this
        subst he
        go_wp2
        go_ret
        exact ⟨_, rfl, HO_3.out, HB1.out⟩
  · rw [if_neg hsz] at h
    cases h

end Go.Proofs.Ytjofogblgjhcfaa.Q
