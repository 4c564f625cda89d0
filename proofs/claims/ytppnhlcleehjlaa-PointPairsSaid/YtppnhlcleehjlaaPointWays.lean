/- Tensors of one shape, number by number: what chapter 4's statements without the document's answer come to. -/
import Derived.Test.YtppnhlcleehjlaaLaw4Known
namespace Go.Proofs.Ytppnhlcleehjlaa.Plain
open Go.RowKit Go.Proofs.YtppnhlcleehjlaaW.PrintWords Go.Proofs.Ytppnhlcleehjlaa.Q

def zipP (op : Int) (d d2 : List Int) : List Int := rowOf d.length (fun i => stepP op (rd d (i : Int)) (rd d2 (i : Int)))
theorem zipP_length (op : Int) (d d2 : List Int) : (zipP op d d2).length = d.length := rowOf_length _ _
theorem rd_zipP (op : Int) (d d2 : List Int) (i : Nat) (h : i < d.length) : rd (zipP op d d2) (i : Int) = stepP op (rd d (i : Int)) (rd d2 (i : Int)) := rd_row _ _ i h
theorem tRight_len {s d d2 : List Int} (h : tRight s d = true) (hl : d2.length = d.length) : tRight s d2 = true := by
  rw [tRight_iff] at h ⊢
  exact ⟨h.1, by rw [hl]; exact h.2⟩
theorem fit2_good {s d d2 : List Int} (h : tRight s d = true) (h2 : tRight s d2 = true) : fit2 s d s d2 = true := by simp [fit2, h, h2]
theorem two_good {op : Int} {s d d2 : List Int} (h6 : 6 ≤ op) (h11 : op ≤ 11) (h : tRight s d = true) (h2 : tRight s d2 = true) : tTwo op s d s d2 = (s, zipP op d d2, 0) := by
  unfold tTwo tEach
  rw [if_neg (show ¬ (op < 6 ∨ 11 < op) by omega), if_pos (fit2_good h h2)]
  rfl
theorem one_good {op : Int} {s d : List Int} (ho : op = 4 ∨ op = 5) (h : tRight s d = true) : tOne op s d = (s, zipP op d d, 0) := by
  unfold tOne tEach
  rw [if_pos ho, if_pos (fit2_good h h)]
  rfl
def pickP (c d d2 : List Int) : List Int := rowOf c.length (fun i => if rd c (i : Int) = 0 then rd d2 (i : Int) else rd d (i : Int))
theorem pick_good {s c d d2 : List Int} (hc : tRight s c = true) (h : tRight s d = true) (h2 : tRight s d2 = true) : tPick s c s d s d2 = (s, pickP c d d2, 0) := by
  unfold tPick
  rw [if_pos (by simp [fit3, hc, h, h2])]
  rfl
theorem pickP_length (c d d2 : List Int) : (pickP c d d2).length = c.length := rowOf_length _ _
theorem rd_pickP (c d d2 : List Int) (i : Nat) (h : i < c.length) : rd (pickP c d d2) (i : Int) = if rd c (i : Int) = 0 then rd d2 (i : Int) else rd d (i : Int) := rd_row _ _ i h
theorem rd_I64 {d : List Int} (h : ∀ x ∈ d, I64 x) (i : Nat) (hi : i < d.length) : I64 (rd d (i : Int)) := by
  rw [rd_nat d i hi]
  exact h _ (List.getElem_mem hi)

/-! ### Numbers -/
theorem sum_back {a b : Int} (ha : I64 a) : wrap64 (wrap64 (a + b) - b) = a := by
  unfold I64 at ha
  unfold wrap64
  omega
theorem neg_neg {a : Int} (ha : I64 a) : wrap64 (-(wrap64 (-a))) = a := by
  unfold I64 at ha
  unfold wrap64
  omega
theorem mn_mx (a b : Int) : mn a b + mx a b = a + b := by
  unfold mn mx
  by_cases h : b < a
  · rw [if_pos h, if_neg (by omega)]; omega
  · rw [if_neg h]
    by_cases h2 : a < b
    · rw [if_pos h2]
    · rw [if_neg h2]; omega

/-! ### Rows -/
theorem back_is {a b : List Int} (ha : ∀ x ∈ a, I64 x) : zipP 7 (zipP 6 a b) b = a := by
  refine rd_ext (by rw [zipP_length, zipP_length]) fun i hi => ?_
  rw [zipP_length, zipP_length] at hi
  rw [rd_zipP _ _ _ i (by rw [zipP_length]; exact hi), rd_zipP _ _ _ i hi]
  exact sum_back (rd_I64 ha i hi)
theorem both_is (a b : List Int) : zipP 6 (zipP 9 a b) (zipP 10 a b) = zipP 6 a b := by
  refine rd_ext (by rw [zipP_length, zipP_length, zipP_length]) fun i hi => ?_
  rw [zipP_length, zipP_length] at hi
  rw [rd_zipP _ _ _ i (by rw [zipP_length]; exact hi), rd_zipP _ _ _ i hi, rd_zipP _ _ _ i hi, rd_zipP _ _ _ i hi]
  show wrap64 (mn _ _ + mx _ _) = wrap64 _
  rw [mn_mx]
theorem twice_is {a : List Int} (ha : ∀ x ∈ a, I64 x) : zipP 4 (zipP 4 a a) (zipP 4 a a) = a := by
  refine rd_ext (by rw [zipP_length, zipP_length]) fun i hi => ?_
  rw [zipP_length, zipP_length] at hi
  rw [rd_zipP _ _ _ i (by rw [zipP_length]; exact hi), rd_zipP _ _ _ i hi]
  exact neg_neg (rd_I64 ha i hi)
theorem third_is (n : Nat) (a b : List Int) (hb : b.length = n) : pickP (List.replicate n 0) a b = b := by
  refine rd_ext (by rw [pickP_length, List.length_replicate, hb]) fun i hi => ?_
  rw [pickP_length, List.length_replicate] at hi
  rw [rd_pickP _ _ _ i (by rw [List.length_replicate]; exact hi), rd_rep n 0 i hi, if_pos rfl]
theorem second_is (n : Nat) (a b : List Int) (ha : a.length = n) : pickP (List.replicate n (-5)) a b = a := by
  refine rd_ext (by rw [pickP_length, List.length_replicate, ha]) fun i hi => ?_
  rw [pickP_length, List.length_replicate] at hi
  rw [rd_pickP _ _ _ i (by rw [List.length_replicate]; exact hi), rd_rep n (-5) i hi, if_neg (by decide)]
theorem lesser_is {a b : List Int} : pickP (zipP 11 a b) a b = zipP 9 a b := by
  refine rd_ext (by rw [pickP_length, zipP_length, zipP_length]) fun i hi => ?_
  rw [pickP_length, zipP_length] at hi
  rw [rd_pickP _ _ _ i (by rw [zipP_length]; exact hi), rd_zipP _ _ _ i hi, rd_zipP _ _ _ i hi]
  show (if (if _ < _ then (1 : Int) else 0) = 0 then _ else _) = mn _ _
  unfold mn
  by_cases h : rd a (i : Int) < rd b (i : Int)
  · rw [if_pos h, if_neg (by decide), if_neg (by omega)]
  · rw [if_neg h, if_pos rfl]
    by_cases h2 : rd b (i : Int) < rd a (i : Int)
    · rw [if_pos h2]
    · rw [if_neg h2]; omega

end Go.Proofs.Ytppnhlcleehjlaa.Plain
