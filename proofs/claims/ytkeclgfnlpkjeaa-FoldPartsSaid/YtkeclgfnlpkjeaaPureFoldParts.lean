/- FoldParts: what is folded along one axis and then along another is what is folded along both; a fold of two parts is the fold of their folds. -/
import Derived.Test.YtkeclgfnlpkjeaaFoldParts
import Derived.Test.YtkeclgfnlpkjeaaSlice
import Derived.Test.YtkeclgfnlpkjeaaQx29
import Derived.Test.YtkeclgfnlpkjeaaQx40
namespace Go.Proofs.Ytkeclgfnlpkjeaa.Pure
open Go.RowKit Go.Proofs.YtkeclgfnlpkjeaaW.PrintWords Go.Proofs.Ytkeclgfnlpkjeaa.Q Go.Proofs.Ytkeclgfnlpkjeaa.Plain

theorem fp_known : Ev (fun k => parquetrylaw6_known.f k) true := Ev.of (fun k => parquetrylaw6_known.mono k) (k := 40) (by decide +kernel)
theorem fp_end : Ev (fun k => (parquetrylaw6_known.f k).bind fun t => if t = true then some true else none) true :=
  Ev.bind fp_known (Ev.ret fun k => by rw [if_pos rfl])

theorem fp_how (x : Int) : wrap64 (1 + Go.bits .and .i64 x 3) = 1 + Go.bits .and .i64 x 3 ∧ okHow (1 + Go.bits .and .i64 x 3) = true := by
  have e : Go.bits .and .i64 x 3 = IntKind.i64.wrap (((BitVec.ofInt IntKind.i64.bits x &&& BitVec.ofInt IntKind.i64.bits 3).toNat : Nat) : Int) := rfl
  have h : (BitVec.ofInt IntKind.i64.bits x &&& BitVec.ofInt IntKind.i64.bits 3).toNat ≤ 3 := by
    rw [BitVec.toNat_and]
    exact Nat.le_trans Nat.and_le_right (by decide)
  have h2 : 0 ≤ Go.bits .and .i64 x 3 ∧ Go.bits .and .i64 x 3 ≤ 3 := by
    rw [e, IntKind.wrap_i64]
    omega
  refine ⟨w64 (by omega) (by omega), ?_⟩
  simp only [okHow, Bool.and_eq_true, decide_eq_true_eq]
  omega

theorem fp_loop (how : Int) (u C P Q : List Int) (hC : C.length ≤ 4096) (hP : P.length = C.length) (hQ : Q.length = C.length)
    (H : ∀ i : Nat, i < C.length → stepOf how (rd P (i : Int)) (rd Q (i : Int)) = rd C (i : Int) ∧ stepOf how (noneOf how) (rd C (i : Int)) = rd C (i : Int)) (m : Nat) : ∀ i : Nat, i + m = C.length →
    Ev (fun k => parquetrylaw6_FoldParts.l0 k how (C.length : Int) (i : Int) u C u P u Q) true := by
  induction m with
  | zero =>
    intro i hi
    refine Ev.step (fun k => ?_) fp_end
    simp only [parquetrylaw6_FoldParts.l0]
    rw [if_neg (by omega)]
  | succ m ih =>
    intro i hi
    obtain ⟨h1, h2⟩ := H i (by omega)
    refine Ev.step (fun k => ?_) (ih (i + 1) (by omega))
    simp only [parquetrylaw6_FoldParts.l0]
    rw [if_pos (by omega), if_pos (by omega), if_pos (by omega), if_pos (by omega), fold_Step_is, fold_None_is, h1]
    simp only [Option.bind_some]
    rw [if_pos (by omega), if_pos trivial, fold_Step_is, h2]
    simp only [Option.bind_some]
    rw [if_pos trivial, wsucc _ (by omega)]

theorem fp_rest (how : Int) (u l : List Int) (b : Int) (hh : okHow how = true) (hf : Few u) (ht : TapeOk l b) :
    Ev (fun k => parquetrylaw6_FoldParts.j0 k how (3 :: 4 :: u) l b) true := by
  obtain ⟨hu, hu3, hr1, hr2, hs⟩ := few_right hf
  have hul := few_len hf
  obtain ⟨d, c, hd, _, hdl, hdr⟩ := tape_Tensor_ev ht (3 :: 4 :: u) (by simp; omega)
  have hr : tRight (3 :: 4 :: u) d = true := tRight_iff.2 ⟨hs, hdl⟩
  obtain ⟨A, a1, a2⟩ := fold_again hh hf hr hdr
  have a3 := both_is hh hr hu
  have f1 := fold_Do_ev how (3 :: 4 :: u) d [1] (by simp)
  have f2 := fold_Do_ev how (3 :: u) A [0] (by simp)
  have f3 := fold_Do_ev how (3 :: 4 :: u) d [0, 1] (by simp)
  rw [a1] at f1
  rw [a2] at f2
  rw [a3] at f3
  have hz := size_range u
  have hCl := bothOf_length how 3 u d
  -- the parts
  have s1 := slice_front 1 0 u d (by omega) (by omega) hr1 hr
  have s2 := slice_front 2 1 u d (by omega) (by omega) hr2 hr
  have r1 : tRight (1 :: 4 :: u) ((List.range (sSize (1 :: 4 :: u)).toNat).map (fun i : Nat => rd d (((0 : Nat) : Int) * (4 * prod u) + (i : Int)))) = true := by
    rw [tRight_iff]
    have := size_range (1 :: 4 :: u)
    exact ⟨hr1, by rw [List.length_map, List.length_range]; omega⟩
  have r2 : tRight (2 :: 4 :: u) ((List.range (sSize (2 :: 4 :: u)).toNat).map (fun i : Nat => rd d (((1 : Nat) : Int) * (4 * prod u) + (i : Int)))) = true := by
    rw [tRight_iff]
    have := size_range (2 :: 4 :: u)
    exact ⟨hr2, by rw [List.length_map, List.length_range]; omega⟩
  have f4 := fold_Do_ev how (1 :: 4 :: u) ((List.range (sSize (1 :: 4 :: u)).toNat).map (fun i : Nat => rd d (((0 : Nat) : Int) * (4 * prod u) + (i : Int)))) [0, 1] (by simp)
  rw [both_is hh r1 hu] at f4
  have f5 := fold_Do_ev how (2 :: 4 :: u) ((List.range (sSize (2 :: 4 :: u)).toNat).map (fun i : Nat => rd d (((1 : Nat) : Int) * (4 * prod u) + (i : Int)))) [0, 1] (by simp)
  rw [both_is hh r2 hu] at f5
  have H := fun (v : Nat) hv => fold_parts hh hf hr hdr v hv
  have l1 := bothOf_length how 1 u ((List.range (sSize (1 :: 4 :: u)).toNat).map (fun i : Nat => rd d (((0 : Nat) : Int) * (4 * prod u) + (i : Int))))
  have l2 := bothOf_length how 2 u ((List.range (sSize (2 :: 4 :: u)).toNat).map (fun i : Nat => rd d (((1 : Nat) : Int) * (4 * prod u) + (i : Int))))
  generalize bothOf how 1 u ((List.range (sSize (1 :: 4 :: u)).toNat).map (fun i : Nat => rd d (((0 : Nat) : Int) * (4 * prod u) + (i : Int)))) = P at f4 H l1
  generalize bothOf how 2 u ((List.range (sSize (2 :: 4 :: u)).toNat).map (fun i : Nat => rd d (((1 : Nat) : Int) * (4 * prod u) + (i : Int)))) = Q at f5 H l2
  generalize bothOf how 3 u d = C at f2 f3 H hCl
  refine Ev.step (f := fun k => (parquetrykeep_Tape_Tensor.f k l b (3 :: 4 :: u)).bind fun bt330 => ((fold_Do.f k how bt330.1 bt330.2.1 (([1] : List Int))).bind fun bt341 => ((fold_Do.f k how bt341.1 bt341.2.1 (([0] : List Int))).bind fun bt352 => ((fold_Do.f k how bt330.1 bt330.2.1 (([0, 1] : List Int))).bind fun bt363 => (if bt352.2.2 = 0 then (if bt363.2.2 = 0 then ((parquetryref1_Same.f k bt352.1 bt352.2.1 bt363.1 bt363.2.1).bind fun t371 => (parquetrylaw6_FoldParts.j1 k how (3 :: 4 :: u) (!t371) bt330.1 bt330.2.1 bt363.1 bt363.2.1)) else (none)) else (none)))))) (fun k => by simp only [parquetrylaw6_FoldParts.j0]) ?_
  refine Ev.bind hd (Ev.bind f1 (Ev.bind f2 (Ev.bind f3 (Ev.congr (fun k => by rw [if_pos rfl, if_pos rfl]) (Ev.bind (ref_Same_ev u C u C (by omega) (by omega)) ?_)))))
  rw [tSame_self]
  have hlen : (3 :: 4 :: u : List Int).length = u.length + 2 := by simp
  have hrep : List.replicate ((((3 :: 4 :: u : List Int).length : Int)) : Int).toNat (0 : Int) = 0 :: 0 :: List.replicate u.length 0 := by
    rw [Int.toNat_natCast, hlen, List.replicate_succ, List.replicate_succ]
  have e1 : ([] ++ (3 :: 4 :: u) : List Int).set (0 : Int).toNat 1 = ((1 : Nat) : Int) :: 4 :: u := rfl
  have e2 : ([] ++ (3 :: 4 :: u) : List Int).set (0 : Int).toNat 2 = ((2 : Nat) : Int) :: 4 :: u := rfl
  have e3 : (0 :: 0 :: List.replicate u.length 0 : List Int).set (0 : Int).toNat 1 = ((1 : Nat) : Int) :: 0 :: List.replicate u.length 0 := rfl
  refine Ev.step (f := fun k => (parquetryref4_Slice.f k (3 :: 4 :: u) d (((0 : Nat) : Int) :: 0 :: List.replicate u.length 0) (((1 : Nat) : Int) :: 4 :: u)).bind fun bt393 => ((parquetryref4_Slice.f k (3 :: 4 :: u) d (((1 : Nat) : Int) :: 0 :: List.replicate u.length 0) (((2 : Nat) : Int) :: 4 :: u)).bind fun bt401 => ((fold_Do.f k how bt393.1 bt393.2.1 (([0, 1] : List Int))).bind fun bt412 => ((fold_Do.f k how bt401.1 bt401.2.1 (([0, 1] : List Int))).bind fun bt423 => (if bt423.2.2 = 0 then (if (bt412.2.1.length : Int) = (C.length : Int) then (parquetrylaw6_FoldParts.j2 k how ((bt423.2.1.length : Int) != (C.length : Int)) u C bt412.1 bt412.2.1 bt423.1 bt423.2.1) else (none)) else (none)))))) (fun k => ?_) ?_
  · simp only [parquetrylaw6_FoldParts.j1, Option.bind_some]
    rw [if_neg (by simp), if_pos (by omega), if_pos (by rw [Int.toNat_natCast, hlen]; omega), if_pos (by rw [hlen]; simp; omega), if_pos (by simp; omega), if_pos (by simp; omega), hrep, e1, e2, e3, if_pos (by simp; omega), if_pos (by simp; omega)]
    rfl
  refine Ev.bind s1 (Ev.bind s2 (Ev.bind f4 (Ev.bind f5 (Ev.congr (fun k => by rw [if_pos rfl, if_pos (show ((P.length : Int)) = (C.length : Int) by omega)]) ?_))))
  refine Ev.step (fun k => ?_) (fp_loop how u C P Q (by omega) (by omega) (by omega) (fun i hi => H i (by omega)) C.length 0 (Nat.zero_add _))
  simp only [parquetrylaw6_FoldParts.j2]
  rw [if_neg (by simp; omega)]
  rfl

theorem FoldParts : parquetrylaw6_FoldParts.Pure := by
  intro l0 a1
  intros
  refine Ev.rounds (g := fun k => parquetrylaw6_FoldParts.f k l0 a1) ?_
  unfold parquetrylaw6_FoldParts.f
  obtain ⟨r, b, hr, hb, hr3, hr7⟩ := tape_Shape_ev (tape_of (l := l0) (by assumption) (by assumption))
  obtain ⟨hw, hh⟩ := fp_how a1
  refine Ev.congr (f := fun k => (parquetrykeep_Tape_Shape.f k l0 0).bind fun bt320 => (if ([3, 4] : List Int).length + bt320.1.length < 17592186044416 then ((some ([3, 4] ++ bt320.1 : List Int)).bind fun y324 => (if (y324.length : Int) > 3 then (if 3 ≤ (y324.length : Int) then (parquetrylaw6_FoldParts.j0 k (wrap64 (1 + (Go.bits .and .i64 a1 3))) (y324.take (3 : Int).toNat) l0 bt320.2) else (none)) else (parquetrylaw6_FoldParts.j0 k (wrap64 (1 + (Go.bits .and .i64 a1 3))) y324 l0 bt320.2))) else (none))) (fun k => by rfl) ?_
  refine Ev.bind hr ?_
  dsimp only
  rw [hw]
  generalize 1 + Go.bits .and .i64 a1 3 = how at hh ⊢
  have small : ([3, 4] : List Int).length + r.length < 17592186044416 := by simp; omega
  cases r with
  | nil =>
    refine Ev.congr (fun k => ?_) (fp_rest how [] l0 b hh (Or.inl rfl) hb)
    rw [if_pos small, Option.bind_some, if_neg (by simp)]
    rfl
  | cons m rest =>
    have hm := hr7 m List.mem_cons_self
    have hf : Few [m] := Or.inr ⟨m, rfl, hm.1, hm.2⟩
    refine Ev.congr (fun k => ?_) (fp_rest how [m] l0 b hh hf hb)
    rw [if_pos small, Option.bind_some]
    cases rest with
    | nil => rw [if_neg (by simp)]; rfl
    | cons m2 rest2 =>
      rw [if_pos (by simp; omega), if_pos (by simp; omega)]
      rfl

end Go.Proofs.Ytkeclgfnlpkjeaa.Pure
