/- Loops that count up: what holds at the end, and at each step if at the next one, holds at the begin. -/
import Derived.Test.YtapoeleiicnlbaaPlain
import Derived.Test.YtapoeleiicnlbaaQx0
namespace Go.Proofs.Ytapoeleiicnlbaa.Plain
open Go.RowKit Go.Proofs.YtapoeleiicnlbaaW.PrintWords Go.Proofs.Ytapoeleiicnlbaa.Q

theorem Ev.upto {g : Int → Nat → Option Bool} (lo hi : Int) (fin : ∀ i, hi ≤ i → Ev (g i) true) (step : ∀ i, lo ≤ i → i < hi → Ev (g (i + 1)) true → Ev (g i) true) : ∀ i, lo ≤ i → Ev (g i) true := by
  have key : ∀ (d : Nat) (i : Int), lo ≤ i → (hi - i).toNat ≤ d → Ev (g i) true := by
    intro d
    induction d with
    | zero => intro i _ hd; exact fin i (by omega)
    | succ d ih =>
      intro i h0 hd
      by_cases h : i < hi
      · exact step i h0 h (ih (i + 1) (by omega) (by omega))
      · exact fin i (by omega)
  intro i h0
  exact key _ i h0 (Nat.le_refl _)

theorem rd_short (zs : List (List Int)) (n : Nat) (hz : ∀ z ∈ zs, z.length ≤ n) (i : Int) : (rd_L1 zs i).length ≤ n := by
  unfold rd_L1
  by_cases h : i.toNat < zs.length
  · have := hz (zs[i.toNat]) (List.getElem_mem h)
    simp only [List.getD_eq_getElem?_getD, List.getElem?_eq_getElem h, Option.getD_some]
    omega
  · simp only [List.getD_eq_getElem?_getD, List.getElem?_eq_none (by omega : zs.length ≤ i.toNat), Option.getD_none]
    simp

end Go.Proofs.Ytapoeleiicnlbaa.Plain
