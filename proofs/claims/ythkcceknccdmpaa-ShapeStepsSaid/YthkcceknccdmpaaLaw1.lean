/- The statements of chapter 1 about shapes: what the two texts come to is the same. -/
import Derived.Test.YthkcceknccdmpaaShape2
import Derived.Test.YthkcceknccdmpaaShape3
import Derived.Test.YthkcceknccdmpaaQx14
namespace Go.Proofs.Ythkcceknccdmpaa.Plain
open Go.RowKit Go.Proofs.YthkcceknccdmpaaW.PrintWords Go.Proofs.Ythkcceknccdmpaa.Q

theorem law1_known : Ev (fun k => parquetrylaw1_known.f k) true := Ev.of (fun k => parquetrylaw1_known.mono k) (k := 20) (by decide +kernel)

theorem sStrides_len (s : List Int) : (sStrides s).length ≤ 4 := by
  unfold sStrides
  split
  · rename_i h; rw [strs_length]; exact right_len h
  · simp
theorem sPlace_len (s : List Int) (i : Int) : (sPlace s i).length ≤ 4 := by
  unfold sPlace
  split
  · simp
  · rename_i h
    rw [plc_length]
    exact right_len (size_dims (s := s) (i := i) (by omega) (by omega)).1

theorem law1_same (s l : List Int) (i : Int) (hs : s.length < 9223372036854775807) : Ev (fun k => parquetrylaw1_same.f k s l i) true := by
  unfold parquetrylaw1_same.f
  refine Ev.bind (shape_Right_ev s) (Ev.bind (ref_Right_ev s hs) ?_)
  refine Ev.congr (fun k => by rw [if_pos (by simp)]) ?_
  refine Ev.bind (shape_Size_ev s) (Ev.bind (ref_Size_ev s hs) ?_)
  refine Ev.congr (fun k => by rw [if_pos rfl]) ?_
  have h1 := sStrides_len s
  have h2 := sPlace_len s i
  refine Ev.bind (shape_Strides_ev s) (Ev.bind (ref_Strides_ev s hs) (Ev.bind (book_Same_int_ev _ _ (by omega)) ?_))
  refine Ev.congr (fun k => by rw [if_pos (by simp)]) ?_
  refine Ev.bind (shape_Index_ev s l) (Ev.bind (ref_Index_ev s l hs) ?_)
  refine Ev.congr (fun k => by rw [if_pos rfl]) ?_
  refine Ev.bind (shape_Place_ev s i) (Ev.bind (ref_Place_ev s i hs) (Ev.bind (book_Same_int_ev _ _ (by omega)) ?_))
  refine Ev.congr (fun k => by rw [if_pos (by simp)]) ?_
  refine Ev.bind (shape_Same_ev s l hs) (Ev.bind (ref_Ints_ev s l hs) ?_)
  exact Ev.ret fun k => by simp

/-- Where each round holds if the next one does, and the end holds, all holds. -/
theorem Ev.up {g : Int → Nat → Option Bool} (hi : Int) (step : ∀ i, i < hi → Ev (g (i + 1)) true → Ev (g i) true) (fin : ∀ i, hi ≤ i → Ev (g i) true) (i : Int) : Ev (g i) true := by
  have key : ∀ (n : Nat) (i : Int), (hi - i).toNat ≤ n → Ev (g i) true := by
    intro n
    induction n with
    | zero => intro i h; exact fin i (by omega)
    | succ n ih =>
      intro i h
      by_cases hlt : i < hi
      · exact step i hlt (ih (i + 1) (by omega))
      · exact fin i (by omega)
  exact key _ i (Nat.le_refl _)

end Go.Proofs.Ythkcceknccdmpaa.Plain
