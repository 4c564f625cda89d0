/- NamesNumbers: chapter 9's runs. -/
import Derived.Test.YtjofogblgjhcfaaNamesRef
import Derived.Test.YtjofogblgjhcfaaQx9
namespace Go.Proofs.Ytjofogblgjhcfaa.Pure
open Go.RowKit Go.Proofs.YtjofogblgjhcfaaW.PrintWords Go.Proofs.Ytjofogblgjhcfaa.Q Go.Proofs.Ytjofogblgjhcfaa.Plain

theorem nn_next {x : Int} (h0 : -1 ≤ x) (h : x < 18) : x < wrap64 ((wrap64 (x + 1)) + (wrap64 ((wrap64 (Int.tdiv x 4)) * 5))) ∧ wrap64 ((wrap64 (x + 1)) + (wrap64 ((wrap64 (Int.tdiv x 4)) * 5))) < 100 := by
  have : x = -1 ∨ x = 0 ∨ x = 1 ∨ x = 2 ∨ x = 3 ∨ x = 4 ∨ x = 5 ∨ x = 6 ∨ x = 7 ∨ x = 8 ∨ x = 9 ∨ x = 10 ∨ x = 11 ∨ x = 12 ∨ x = 13 ∨ x = 14 ∨ x = 15 ∨ x = 16 ∨ x = 17 := by omega
  rcases this with rfl | rfl | rfl | rfl | rfl | rfl | rfl | rfl | rfl | rfl | rfl | rfl | rfl | rfl | rfl | rfl | rfl | rfl | rfl <;> decide +kernel

theorem nn_l2 (W : List ByteArray) (a b : ByteArray) (ha : Small a) (hb : Small b) (i j : Int) (next : Ev (fun k => parquetrylaw9_NamesNumbers.l1 k W a W (W.length : Int) i W (W.length : Int) (wrap64 (j + 1))) true) (m : Nat) : ∀ x : Int, -1 ≤ x → (18 - x).toNat ≤ m →
    Ev (fun k => parquetrylaw9_NamesNumbers.l2 k W a b x W (W.length : Int) i W (W.length : Int) j) true := by
  induction m with
  | zero =>
    intro x h0 hm
    refine Ev.step (fun k => ?_) next
    simp only [parquetrylaw9_NamesNumbers.l2]
    rw [if_neg (by omega)]
  | succ m ih =>
    intro x h0 hm
    by_cases hx : x < 18
    · have hn := nn_next h0 hx
      refine Ev.step (f := fun k => ((parquetrylaw9_same.f k a b x (([x, 0, (-1), 2] : List Int)) 120).bind fun t238 => (if t238 = true then ((parquetrylaw9_same.f k a b x (([1099511627776, 1] : List Int)) 65533).bind fun t242 => (if t242 = true then (parquetrylaw9_NamesNumbers.l2 k W a b (wrap64 ((wrap64 (x + 1)) + (wrap64 ((wrap64 (Int.tdiv x 4)) * 5)))) W (W.length : Int) i W (W.length : Int) j) else (none))) else (none)))) (fun k => ?_) ?_
      · simp only [parquetrylaw9_NamesNumbers.l2]
        rw [if_pos hx]
      · refine Ev.bind (law9_same ha hb x _ _ (by simp)) (Ev.congr (fun k => by rw [if_pos rfl]) ?_)
        exact Ev.bind (law9_same ha hb x _ _ (by simp)) (Ev.congr (fun k => by rw [if_pos rfl]) (ih _ (by omega) (by omega)))
    · refine Ev.step (fun k => ?_) next
      simp only [parquetrylaw9_NamesNumbers.l2]
      rw [if_neg hx]

theorem rd_small (W : List ByteArray) (hW : ∀ w ∈ W, Small w) (i : Int) : Small (rdOf ByteArray.empty W i) := by
  unfold rdOf
  by_cases h : i.toNat < W.length
  · have e : W.getD i.toNat ByteArray.empty = W[i.toNat] := by simp [List.getD_eq_getElem?_getD, h]
    rw [e]
    exact hW _ (List.getElem_mem h)
  · have e : W.getD i.toNat ByteArray.empty = ByteArray.empty := by
      rw [List.getD_eq_getElem?_getD, List.getElem?_eq_none (by omega)]; rfl
    rw [e]
    unfold Small
    decide

theorem nn_l1 (W : List ByteArray) (hl : W.length < 100) (hW : ∀ w ∈ W, Small w) (a : ByteArray) (ha : Small a) (i : Int) (next : Ev (fun k => parquetrylaw9_NamesNumbers.l0 k W W (W.length : Int) (wrap64 (i + 1))) true) (m : Nat) : ∀ j : Nat, j + m = W.length →
    Ev (fun k => parquetrylaw9_NamesNumbers.l1 k W a W (W.length : Int) i W (W.length : Int) (j : Int)) true := by
  induction m with
  | zero =>
    intro j hj
    refine Ev.step (fun k => ?_) next
    simp only [parquetrylaw9_NamesNumbers.l1]
    rw [if_neg (by omega)]
  | succ m ih =>
    intro j hj
    refine Ev.step (fun k => ?_) (nn_l2 W a (rdOf ByteArray.empty W (j : Int)) ha (rd_small W hW _) i (j : Int) (by rw [nsucc _ (by omega)]; exact ih (j + 1) (by omega)) 19 (-1) (by omega) (by omega))
    simp only [parquetrylaw9_NamesNumbers.l1]
    rw [if_pos (by omega), if_pos (by omega), if_pos (by omega)]

theorem nn_l0 (W : List ByteArray) (hl : W.length < 100) (hW : ∀ w ∈ W, Small w) (m : Nat) : ∀ i : Nat, i + m = W.length →
    Ev (fun k => parquetrylaw9_NamesNumbers.l0 k W W (W.length : Int) (i : Int)) true := by
  induction m with
  | zero =>
    intro i hi
    refine Ev.step (fun k => ?_) law9_end
    simp only [parquetrylaw9_NamesNumbers.l0]
    rw [if_neg (by omega)]
  | succ m ih =>
    intro i hi
    refine Ev.step (fun k => ?_) (nn_l1 W hl hW (rdOf ByteArray.empty W (i : Int)) (rd_small W hW _) (i : Int) (by rw [nsucc _ (by omega)]; exact ih (i + 1) (by omega)) W.length 0 (Nat.zero_add _))
    simp only [parquetrylaw9_NamesNumbers.l0]
    rw [if_pos (by omega), if_pos (by omega), if_pos (by omega)]
    rfl

theorem small_iff (s : ByteArray) : Small s ↔ s.size < 4398046511104 := Iff.rfl
instance (s : ByteArray) : Decidable (Small s) := decidable_of_iff _ (small_iff s).symm

theorem NamesNumbers : parquetrylaw9_NamesNumbers.Pure := by
  refine Ev.rounds (g := fun k => parquetrylaw9_NamesNumbers.f k) ?_
  unfold parquetrylaw9_NamesNumbers.f
  simp only [Option.bind_some]
  exact nn_l0 _ (by decide) (by decide) _ 0 (Nat.zero_add _)

end Go.Proofs.Ytjofogblgjhcfaa.Pure
