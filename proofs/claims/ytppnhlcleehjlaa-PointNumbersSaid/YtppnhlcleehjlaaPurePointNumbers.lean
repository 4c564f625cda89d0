/- PointNumbers: each op of numbers at bounds, tensors that do not fit, are not right: the two texts tell the same. -/
import Derived.Test.YtppnhlcleehjlaaLaw4
import Derived.Test.YtppnhlcleehjlaaQx18
namespace Go.Proofs.Ytppnhlcleehjlaa.Pure
open Go.RowKit Go.Proofs.YtppnhlcleehjlaaW.PrintWords Go.Proofs.Ytppnhlcleehjlaa.Q Go.Proofs.Ytppnhlcleehjlaa.Plain

theorem p_l2 (l : List Int) (op a b n : Int) (hl : l.length ≤ 1000) (h1 : Ev (fun k => parquetrylaw4_PointNumbers.l1 k l op l n (wrap64 (b + 1))) true) (m : Nat) : ∀ i : Nat, i + m = l.length → Ev (fun k => parquetrylaw4_PointNumbers.l2 k l op a l n b l (l.length : Int) (i : Int)) true := by
  induction m with
  | zero =>
    intro i hi
    refine Ev.step (fun k => ?_) h1
    simp only [parquetrylaw4_PointNumbers.l2]
    rw [if_neg (by omega)]
  | succ m ih =>
    intro i hi
    refine Ev.step (fun k => ?_) (ih (i + 1) (by omega))
    simp only [parquetrylaw4_PointNumbers.l2]
    rw [if_pos (by omega), if_pos (by omega), if_pos (by omega), point_Step_is, ref_Step_is, wsucc _ (by omega)]
    simp only [Option.bind_some, if_true]

theorem p_l1 (l : List Int) (op : Int) (hl : l.length ≤ 1000) (h0 : Ev (fun k => parquetrylaw4_PointNumbers.l0 k l (wrap64 (op + 1))) true) (m : Nat) : ∀ i : Nat, i + m = l.length → Ev (fun k => parquetrylaw4_PointNumbers.l1 k l op l (l.length : Int) (i : Int)) true := by
  induction m with
  | zero =>
    intro i hi
    refine Ev.step (f := fun k => (parquetrylaw4_same.f k op [(l.length : Int)] l [(l.length : Int)] l [(l.length : Int)] l).bind fun t1 => if t1 = true then (parquetrylaw4_same.f k op [(l.length : Int)] l [(l.length : Int), 1] l [(l.length : Int)] l).bind fun t2 => (if t2 = true then (parquetrylaw4_same.f k op [(l.length : Int)] l [(l.length : Int)] l [(l.length : Int), 1] l).bind fun t3 => (if t3 = true then (parquetrylaw4_same.f k op [2] [] [(l.length : Int)] l [(l.length : Int)] l).bind fun t4 => (if t4 = true then (parquetrylaw4_same.f k op [(l.length : Int)] l [11] [] [(l.length : Int)] l).bind fun t5 => (if t5 = true then parquetrylaw4_PointNumbers.l0 k l (wrap64 (op + 1)) else none) else none) else none) else none) else none) (fun k => ?_) ?_
    · simp only [parquetrylaw4_PointNumbers.l1]
      rw [if_neg (by omega)]
      simp only [Option.bind_some]
    · refine Ev.bind (law4_same op [(l.length : Int)] l [(l.length : Int)] l [(l.length : Int)] l (by simp) (by omega) (by simp) (by omega) (by simp)) (Ev.congr (fun k => by rw [if_pos rfl]) ?_)
      refine Ev.bind (law4_same op [(l.length : Int)] l [(l.length : Int), 1] l [(l.length : Int)] l (by simp) (by omega) (by simp) (by omega) (by simp)) (Ev.congr (fun k => by rw [if_pos rfl]) ?_)
      refine Ev.bind (law4_same op [(l.length : Int)] l [(l.length : Int)] l [(l.length : Int), 1] l (by simp) (by omega) (by simp) (by omega) (by simp)) (Ev.congr (fun k => by rw [if_pos rfl]) ?_)
      refine Ev.bind (law4_same op [2] [] [(l.length : Int)] l [(l.length : Int)] l (by simp) (by simp) (by simp) (by omega) (by simp)) (Ev.congr (fun k => by rw [if_pos rfl]) ?_)
      exact Ev.bind (law4_same op [(l.length : Int)] l [11] [] [(l.length : Int)] l (by simp) (by omega) (by simp) (by simp) (by simp)) (Ev.congr (fun k => by rw [if_pos rfl]) h0)
  | succ m ih =>
    intro i hi
    have next := ih (i + 1) (by omega)
    refine Ev.step (fun k => ?_) (p_l2 l op (rd l (i : Int)) (i : Int) (l.length : Int) hl (by rw [wsucc _ (by omega)]; exact next) l.length 0 (by omega))
    simp only [parquetrylaw4_PointNumbers.l1]
    rw [if_pos (by omega), if_pos (by omega), if_pos (by omega)]
    rfl

theorem p_l0 (l : List Int) (hl : l.length ≤ 1000) (m : Nat) : ∀ op : Int, -1 ≤ op → op + (m : Int) = 23 → Ev (fun k => parquetrylaw4_PointNumbers.l0 k l op) true := by
  induction m with
  | zero =>
    intro op h0 h1
    refine Ev.step (f := fun k => (parquetrylaw4_known.f k).bind fun t => if t = true then some true else none) (fun k => ?_) law4_end
    simp only [parquetrylaw4_PointNumbers.l0]
    rw [if_neg (by omega)]
  | succ m ih =>
    intro op h0 h1
    have next := ih (op + 1) (by omega) (by omega)
    refine Ev.step (fun k => ?_) (p_l1 l op hl (by rw [w64 (n := op + 1) (by omega) (by omega)]; exact next) l.length 0 (by omega))
    simp only [parquetrylaw4_PointNumbers.l0]
    rw [if_pos (by omega)]
    rfl

theorem PointNumbers : parquetrylaw4_PointNumbers.Pure := by
  refine Ev.rounds (g := fun k => parquetrylaw4_PointNumbers.f k) ?_
  unfold parquetrylaw4_PointNumbers.f parquetrylaw4_edges.f
  simp only [Option.bind_some]
  exact p_l0 _ (by simp) 24 (-1) (by omega) (by omega)

end Go.Proofs.Ytppnhlcleehjlaa.Pure
