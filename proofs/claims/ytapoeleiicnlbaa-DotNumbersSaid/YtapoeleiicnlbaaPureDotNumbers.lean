/- DotNumbers: shapes that fit and do not, shared axes, products of numbers at bounds: the two texts tell the same. -/
import Derived.Test.YtapoeleiicnlbaaLaw7
import Derived.Test.YtapoeleiicnlbaaLoops
import Derived.Test.YtapoeleiicnlbaaQx18
namespace Go.Proofs.Ytapoeleiicnlbaa.Pure
open Go.RowKit Go.Proofs.YtapoeleiicnlbaaW.PrintWords Go.Proofs.Ytapoeleiicnlbaa.Q Go.Proofs.Ytapoeleiicnlbaa.Plain

theorem d_l4 (zs : List (List Int)) (x y v N i M j : Int) (s : List Int) (d : List Int) (o : List Int) (n : Nat) (hn : n ≤ 4096) (hs : s.length ≤ 100) (ho : o.length ≤ 100) (h2 : Ev (fun k => parquetrylaw7_DotNumbers.l2 k zs x y (wrap64 (v + 1)) N i M j) true) (m : Nat) :
    ∀ (q : Nat) (e : List Int), e.length = n → q + m = n → Ev (fun k => parquetrylaw7_DotNumbers.l4 k zs x y v N i M j (n : Int) (q : Int) s d o e) true := by
  induction m with
  | zero =>
    intro q e he hq
    refine Ev.step (f := fun k => (parquetrylaw7_same.f k s d o e v).bind fun t => if t = true then parquetrylaw7_DotNumbers.l2 k zs x y (wrap64 (v + 1)) N i M j else none) (fun k => ?_) (Ev.bind (law7_same s d o e v (by omega) (by omega)) (Ev.congr (fun k => by rw [if_pos rfl]) h2))
    simp only [parquetrylaw7_DotNumbers.l4]
    rw [if_neg (by omega)]
  | succ m ih =>
    intro q e he hq
    refine Ev.step (fun k => ?_) (ih (q + 1) (e.set q (wrap64 ((wrap64 ((q : Int) * 1099511627776)) - 3))) (by simpa using he) (by omega))
    simp only [parquetrylaw7_DotNumbers.l4]
    rw [if_pos (by omega), if_pos (by omega), if_pos (by omega), wsucc _ (by omega), Int.toNat_natCast]

theorem d_l3 (zs : List (List Int)) (x y v N i M j : Int) (s : List Int) (o e : List Int) (n : Nat) (hn : n ≤ 4096) (he : e.length ≤ 4096) (hs : s.length ≤ 100) (ho : o.length ≤ 100) (h2 : Ev (fun k => parquetrylaw7_DotNumbers.l2 k zs x y (wrap64 (v + 1)) N i M j) true) (m : Nat) :
    ∀ (q : Nat) (d : List Int), d.length = n → q + m = n → Ev (fun k => parquetrylaw7_DotNumbers.l3 k zs x y v N i M j (n : Int) (q : Int) s d o e) true := by
  induction m with
  | zero =>
    intro q d hd hq
    refine Ev.step (fun k => ?_) (d_l4 zs x y v N i M j s d o e.length he hs ho h2 e.length 0 e rfl (by omega))
    simp only [parquetrylaw7_DotNumbers.l3]
    rw [if_neg (by omega)]
    rfl
  | succ m ih =>
    intro q d hd hq
    refine Ev.step (fun k => ?_) (ih (q + 1) (d.set q (wrap64 ((wrap64 ((q : Int) * (q : Int))) - 7))) (by simpa using hd) (by omega))
    simp only [parquetrylaw7_DotNumbers.l3]
    rw [if_pos (by omega), if_pos (by omega), if_pos (by omega), wsucc _ (by omega), Int.toNat_natCast]

theorem d_l2 (zs : List (List Int)) (hz : ∀ z ∈ zs, z.length ≤ 5) (x y : Int) (hx0 : 0 ≤ x) (hx : x < (zs.length : Int)) (hy0 : 0 ≤ y) (hy : y < (zs.length : Int)) (N i M j : Int) (h1 : Ev (fun k => parquetrylaw7_DotNumbers.l1 k zs x N i M (wrap64 (j + 1))) true) :
    ∀ v : Int, -1 ≤ v → Ev (fun k => parquetrylaw7_DotNumbers.l2 k zs x y v N i M j) true := by
  refine Ev.upto (g := fun v k => parquetrylaw7_DotNumbers.l2 k zs x y v N i M j) (-1) 4 (fun v hv => Ev.step (fun k => ?_) h1) (fun v h0 hv h => Ev.step (f := fun k => (parquetryref1_Fill.f k (rd_L1 zs x) 0).bind fun bt => (parquetryref1_Fill.f k (rd_L1 zs y) 0).bind fun bu => parquetrylaw7_DotNumbers.l3 k zs x y v N i M j (bt.2.length : Int) 0 bt.1 bt.2 bu.1 bu.2) (fun k => ?_) ?_)
  · simp only [parquetrylaw7_DotNumbers.l2]
    rw [if_neg (by omega)]
  · simp only [parquetrylaw7_DotNumbers.l2]
    rw [if_pos hv, if_pos hx0, if_pos hx]
    congr 1
    funext bt
    rw [if_pos hy0, if_pos hy]
  · have hs := rd_short zs 5 hz x
    have ho := rd_short zs 5 hz y
    have z1 := size_range (rd_L1 zs x)
    have z2 := size_range (rd_L1 zs y)
    refine Ev.bind (ref_Fill_ev _ 0 (by omega)) (Ev.bind (ref_Fill_ev _ 0 (by omega)) ?_)
    exact d_l3 zs x y v N i M j (rd_L1 zs x) (rd_L1 zs y) _ (List.replicate (sSize (rd_L1 zs x)).toNat (0 : Int)).length (by simp; omega) (by simp; omega) (by omega) (by omega) (by rw [w64 (n := v + 1) (by omega) (by omega)]; exact h) _ 0 _ rfl (by simp; rfl)

theorem d_l1 (zs : List (List Int)) (hz : ∀ z ∈ zs, z.length ≤ 5) (hl : zs.length ≤ 100) (x : Int) (hx0 : 0 ≤ x) (hx : x < (zs.length : Int)) (N i : Int) (h0' : Ev (fun k => parquetrylaw7_DotNumbers.l0 k zs N (wrap64 (i + 1))) true) :
    ∀ j : Int, 0 ≤ j → Ev (fun k => parquetrylaw7_DotNumbers.l1 k zs x N i (zs.length : Int) j) true := by
  refine Ev.upto (g := fun j k => parquetrylaw7_DotNumbers.l1 k zs x N i (zs.length : Int) j) 0 (zs.length : Int) (fun j hj => Ev.step (fun k => ?_) h0') (fun j h0 hj h => Ev.step (fun k => ?_) (d_l2 zs hz x j hx0 hx h0 hj N i (zs.length : Int) j (by rw [w64 (n := j + 1) (by omega) (by omega)]; exact h) (-1) (by omega)))
  · simp only [parquetrylaw7_DotNumbers.l1]
    rw [if_neg (by omega)]
  · simp only [parquetrylaw7_DotNumbers.l1]
    rw [if_pos hj]

theorem d_l0 (zs : List (List Int)) (hz : ∀ z ∈ zs, z.length ≤ 5) (hl : zs.length ≤ 100) : ∀ i : Int, 0 ≤ i → Ev (fun k => parquetrylaw7_DotNumbers.l0 k zs (zs.length : Int) i) true := by
  refine Ev.upto (g := fun i k => parquetrylaw7_DotNumbers.l0 k zs (zs.length : Int) i) 0 (zs.length : Int) (fun i hi => Ev.step (f := fun k => (parquetryref1_Fill.f k (([2] : List Int)) 1).bind fun bt426 => ((parquetrylaw7_same.f k (([2] : List Int)) ([] : List Int) bt426.1 bt426.2 0).bind fun t432 => (if t432 = true then ((parquetrylaw7_known.f k).bind fun t433 => (if t433 = true then (some true) else (none))) else (none)))) (fun k => ?_) ?_) (fun i h0 hi h => Ev.step (fun k => ?_) (d_l1 zs hz hl i h0 hi (zs.length : Int) i (by rw [w64 (n := i + 1) (by omega) (by omega)]; exact h) 0 (by omega)))
  · simp only [parquetrylaw7_DotNumbers.l0]
    rw [if_neg (by omega)]
  · refine Ev.bind (ref_Fill_ev _ 1 (by decide)) ?_
    exact Ev.bind (law7_same _ _ _ _ _ (by decide) (by decide)) (Ev.congr (fun k => by rw [if_pos rfl]) law7_end)
  · simp only [parquetrylaw7_DotNumbers.l0]
    rw [if_pos hi]

theorem DotNumbers : parquetrylaw7_DotNumbers.Pure := by
  refine Ev.rounds (g := fun k => parquetrylaw7_DotNumbers.f k) ?_
  unfold parquetrylaw7_DotNumbers.f
  exact d_l0 [[], [2], [3], [2, 3], [3, 2], [2, 3, 2], [2, 2, 3], [2, 0], [0, 2], [2, 3, 4, 2], [32, 32], [32, 32, 4], [33]] (by simp) (by simp) 0 (by omega)

end Go.Proofs.Ytapoeleiicnlbaa.Pure
