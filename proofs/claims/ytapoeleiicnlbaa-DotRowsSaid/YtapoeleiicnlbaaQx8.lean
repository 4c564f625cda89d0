-- Printed by a program (a variant of the kit print, with contracts of our own).
import Derived.Test.YtapoeleiicnlbaaQx0
import Derived.Test.YtapoeleiicnlbaaQx5
import Derived.Test.YtapoeleiicnlbaaQx6
import Derived.Test.YtapoeleiicnlbaaQx7
namespace Go.Proofs.Ytapoeleiicnlbaa.Q
open Go.RowKit Go.Proofs.YtapoeleiicnlbaaW.PrintWords Go.Proofs.YtapoeleiicnlbaaW.PrintLast Go.Proofs.YtapoeleiicnlbaaW.PrintMore
attribute [local go_sem] max2_int min2_int max_two min_two max_three min_three max_four min_four   -- for this text's walks alone
set_option linter.unusedVariables false
set_option linter.unusedSimpArgs false

-- OWN PART
/-! ### tensor_Made: function 30 -/
theorem goesv_ {P : Program} {ops : Array Oper} {Q : Exit → Act → World → Prop} {oi : Oper} {N : Option Tmp} {a : Act} {w : World} {K : Act → World → Prop} {f : FuncId} {x : Operand} {xs : Array Operand} {ts : Array TypeId}
    (hent : ∀ (args : Array Value) (W : World), (callFunc f args).run P W = .ok (.enter f args) W) (caps args : Array Value)
    (hw : Region.wanted oi (yielded ops a.tmps) = true) (hN : oi.dst = N) (hop : oi.op = .call { callee := .value x, args := xs, argTypes := ts }) (hx : a.eval x = .func (.func f) #[] caps) (hargs : xs.map a.eval = args)
    (h : Calls P f (args ++ caps) w fun e w' => ∃ v, e = .returned v ∧ K (a.put N v) w') : if Region.wanted oi (yielded ops a.tmps) = true then Oper.wp P oi a w K Q else K (a.put N undef) w := by
  refine call_ f (args ++ caps) hw hN ?_ h
  have he := hent (args ++ caps) w
  unfold execOp
  simp [hop, resolve, Deferred.ofValue, invoke, hx, hargs, he]
def tensor_Made.l0 (φ : List Int → Option Int) : Nat → List Int → Int → Int → List Int → List Int → Option (List Int × List Int)
  | 0, _, _, _, _, _ => none
  | k + 1, x0, x15, x16, x131000, x131001 => if x16 < x15 then ((shape_Place.f k x0 x16).bind fun t131 => ((φ t131).bind fun t134 => (if 0 ≤ x16 then (if x16 < (x131001.length : Int) then (tensor_Made.l0 φ k x0 x15 (wrap64 (x16 + 1)) x131000 (x131001.set (x16 : Int).toNat t134)) else (none)) else (none)))) else (some (x131000, x131001))
def tensor_Made.f (φ : List Int → Option Int) (k : Nat) (l0 : List Int) : Option (List Int × List Int) := (slices_Clone_int_int.f l0).bind fun t123 => ((shape_Size.f k l0).bind fun t126 => (if 0 ≤ t126 then (if (t126 : Int).toNat ≤ 35184372088832 then ((some (List.replicate (t126 : Int).toNat 0 : List Int)).bind fun y127 => (tensor_Made.l0 φ k l0 (y127.length : Int) 0 t123 y127)) else (none)) else (none)))

def tensor_Made.T5 : Bool × List (List Nat × List Nat) := (true, [([], []), ([0], [0]), ([], []), ([], []), ([], []), ([], []), ([4, 5], [4, 5]), ([3, 6, 6], [3, 6]), ([1, 2, 0, 1, 2, 3, 4, 5, 6, 7], [1, 2]), ([8, 7, 7, 0, 1, 2, 3, 4, 5, 6, 7], [7, 8])])
def tensor_Made.B5 : List Nat := [0, 1, 0, 0, 0, 0, 48, 120, 255, 511]
theorem tensor_Made.tab5 : rtab .any (opsOf Try.f30 5) = tensor_Made.T5 := by kernel_rfl
theorem tensor_Made.bits5 : waitsOk tensor_Made.T5.2 tensor_Made.B5 = true := by kernel_rfl
set_option maxHeartbeats 8000000 in
set_option maxRecDepth 100000 in
theorem tensor_Made.calls (I : World → Prop) (cf : FuncId) (caps : Array Value) (φ : List Int → Option Int) (w : World)
    (iA : ∀ W o, I W → I (W.alloc o)) (iD : ∀ W n, I W → I (W.drewN n)) (iD1 : ∀ W, I W → I W.drew) (iS : ∀ W (b o : Nat) (u : Value), I W → w.heap.size ≤ b → I (W.setCell ⟨b, o, none⟩ u))
    (i1 : ∀ W W', I W → Below W.heap.size W W' → I W') (i5 : ∀ W, I W → w.heap.size ≤ W.heap.size) (hI0 : I w)
    (A0 : Option Addr) (c0 : Nat) (l0 : List Int) (i4 : ∀ W, I W → Kd.C (Kd.int .i64) W A0 l0.length l0) (hc0 : l0.length ≤ c0)
    (hent : ∀ (args : Array Value) (W : World), (callFunc cf args).run Try.prog W = .ok (.enter cf args) W)
    (hφ : ∀ (W : World) (v : Value) (p : List Int) (r : Int), I W → Kd.R (Kd.int .i64) 3 W w.heap.size (fun _ => True) v p → φ p = some r →
      Calls Try.prog cf (#[v] ++ caps) W fun e W' => e = .returned (.int .i64 r) ∧ I W' ∧ Kept W W' (fun k_ => k_ < w.heap.size))
    (k : Nat) (r1 : List Int) (r2 : List Int) (h : tensor_Made.f φ k l0 = some (r1, r2)) :
    Calls Try.prog 30 #[.slice A0 l0.length c0, .func (.func cf) #[] caps] w fun e w' => ∃ v0_ v1_ : Value, e = .returned (.agg #[v0_, v1_]) ∧ Kd.R (Kd.int .i64) 3 w' w.heap.size (fun _ => True) v0_ r1 ∧ Kd.R (Kd.int .i64) 2 w' w.heap.size (fun _ => True) v1_ r2 ∧ I w' := by
  have hu26 := Try.underlying26
  have HC0 := am_ hc0
  have IA := am_ iA
  have ID := am_ iD
  have ID1 := am_ iD1
  have IS := am_ iS
  have I1 := am_ i1
  have I5 := am_ i5
  have I4 := am_ i4
  have HEN := am_ hent
  have HPH := am_ hφ
  clear hc0 iA iD iD1 iS i1 i5 i4 hent hφ
  have HB := am_ hI0
  clear hI0
  have H : ((slices_Clone_int_int.f l0).bind fun t123 => ((shape_Size.f k l0).bind fun t126 => (if 0 ≤ t126 then (if (t126 : Int).toNat ≤ 35184372088832 then ((some (List.replicate (t126 : Int).toNat 0 : List Int)).bind fun y127 => (tensor_Made.l0 φ k l0 (y127.length : Int) 0 t123 y127)) else (none)) else (none)))) = some (r1, r2) := h
  clear h
  replace H := Option.bind_eq_some_iff.mp H
  obtain ⟨t123, A30, H⟩ := H
  replace H : ((shape_Size.f k l0).bind fun t126 => (if 0 ≤ t126 then (if (t126 : Int).toNat ≤ 35184372088832 then ((some (List.replicate (t126 : Int).toNat 0 : List Int)).bind fun y127 => (tensor_Made.l0 φ k l0 (y127.length : Int) 0 t123 y127)) else (none)) else (none))) = some (r1, r2) := H
  have A3 := am_ A30
  clear A30
  replace H := Option.bind_eq_some_iff.mp H
  obtain ⟨t126, A40, H⟩ := H
  replace H : (if 0 ≤ t126 then (if (t126 : Int).toNat ≤ 35184372088832 then ((some (List.replicate (t126 : Int).toNat 0 : List Int)).bind fun y127 => (tensor_Made.l0 φ k l0 (y127.length : Int) 0 t123 y127)) else (none)) else (none)) = some (r1, r2) := H
  have A4 := am_ A40
  clear A40
  by_cases c5 : 0 ≤ t126
  · rw [if_pos c5] at H
    have c5b0 := eq_true c5
    have c5b1 : decide (0 ≤ t126) = true := decide_eq_true c5
    clear c5
    by_cases c6 : (t126 : Int).toNat ≤ 35184372088832
    · rw [if_pos c6] at H
      have c6b0 := eq_true c6
      have c6b1 : decide ((t126 : Int).toNat ≤ 35184372088832) = true := decide_eq_true c6
      clear c6
      obtain ⟨y127, hy127⟩ : ∃ y_ : List Int, y_ = (List.replicate (t126 : Int).toNat 0) := ⟨_, rfl⟩
      replace H : (tensor_Made.l0 φ k l0 (y127.length : Int) 0 t123 y127) = some (r1, r2) := by first | exact bq_ hy127 H | (rw [hy127]; exact H) | exact H
      have Ny127 := am_ hy127
      clear hy127
      have H' := am_ H
      clear H
      go_enter Try.func30, Try.ntmps30
      go_wp2_with (first | ((with_reducible refine gate_dst (N := 4) rfl ?_); refine box_event ?hg (N := 4) ?hd (cs := #[.slice none 0 0, .slice none 0 0]) (t := 26) ?hr ?_; (case hd => rfl); (case hg => rfl); (case hr => first | (go_simp; done) | (go_simp; rfl)); intro gb122 hg w7 hbox hb; have n0_ := am_ (I1.out _ _ (by repeat (first | (with_reducible first | exact HB.out | refine IA.out _ _ ?_ | refine ID.out _ _ ?_ | refine ID1.out _ ?_) | exact HB.out)) hb); have n1_ := am_ (hbox); have n2_ := am_ ((by rw [hg]; exact (I5.out _ (by repeat (first | (with_reducible first | exact HB.out | refine IA.out _ _ ?_ | refine ID.out _ _ ?_ | refine ID1.out _ ?_) | exact HB.out))) : w.heap.size ≤ gb122)); have n3_ := am_ ((by rw [hg]; exact (I5.out _ (by repeat (first | (with_reducible first | exact HB.out | refine IA.out _ _ ?_ | refine ID.out _ _ ?_ | refine ID1.out _ ?_) | exact HB.out))) : w.heap.size ≤ gb122)); clear HB; have HB := n0_; have BK122 := n1_; have GW122 := n2_; have GE122 := n3_; clear n0_ n1_ n2_ n3_; clear hb hbox hg) | ((with_reducible refine gate_callee (f := 41) rfl ?_); refine goesL_ (some 8) rfl rfl Try.func41 kr_ rfl #[.slice A0 l0.length c0] rfl ar_ ?_; (with_reducible refine (slices_Clone_int_int.calls _ _ l0 t123 _ ?side1 ?side2 A3.out).mono ?_); (case side1 => repeat (first | exact (I4.out _ HB.out) | (with_reducible refine Kd.C_alloc ?_ _) | (with_reducible refine Kd.C_drewN ?_ _) | (with_reducible refine Kd.C_drew ?_))); (case side2 => exact HC0.out); rintro e w8 ⟨v124, rfl, ho0, hb⟩; refine ⟨_, rfl, ?_⟩; have n0_ := am_ (Kd.R_lower ho0 (I5.out _ (by repeat (first | (with_reducible first | exact HB.out | refine IA.out _ _ ?_ | refine ID.out _ _ ?_ | refine ID1.out _ ?_ | refine IS.out _ _ _ _ ?_ GE122.out) | exact HB.out)))); have n1_ := am_ (blk_below (g := gb122) (o := .cells #[.slice none 0 0, .slice none 0 0] 26 (0, 0)) (by (with_reducible repeat (first | refine blk_drewN ?_ _ | refine blk_drew ?_ | refine blk_alloc ?_ _)); exact BK122.out) hb); have n2_ := am_ (I1.out _ _ (by repeat (first | (with_reducible first | exact HB.out | refine IA.out _ _ ?_ | refine ID.out _ _ ?_ | refine ID1.out _ ?_ | refine IS.out _ _ _ _ ?_ GE122.out) | exact HB.out)) hb); clear BK122; clear HB; have HO125 := n0_; have BK122 := n1_; have HB := n2_; clear n0_ n1_ n2_; (try clear hb); (try clear hb2); (try clear hk); (try clear hi); (try clear ho0)) | ((with_reducible refine gate_callee (f := 40) rfl ?_); refine goesL_ (some 10) rfl rfl Try.func40 kr_ rfl #[.slice A0 l0.length c0] rfl ar_ ?_; (with_reducible refine (shape_Size.calls k _ _ l0 t126 _ ?side1 ?side2 A4.out).mono ?_); (case side1 => repeat (first | exact (I4.out _ HB.out) | (with_reducible refine Kd.C_alloc ?_ _) | (with_reducible refine Kd.C_drewN ?_ _) | (with_reducible refine Kd.C_drew ?_))); (case side2 => exact HC0.out); rintro e w' ⟨rfl, ⟨nd, rfl⟩⟩; refine ⟨_, rfl, ?_⟩; (try (rw [drewN_self w8]; generalize hq_ : World.drewN w8 _ = w8; have n0_ : Aside0 (Kd.R (Kd.int .i64) 3 w8 w.heap.size (fun _ => True) v124 t123) := ⟨by rw [← hq_]; exact (by (with_reducible repeat (first | apply Kd.R_alloc | apply Kd.R_drewN | apply Kd.R_drew)); exact HO125.out)⟩; have n1_ : Aside0 (w8.heap[gb122]? = some (.cells #[.slice none 0 0, .slice none 0 0] 26 (0, 0))) := ⟨by rw [← hq_]; exact (by (with_reducible repeat (first | refine blk_drewN ?_ _ | refine blk_drew ?_ | refine blk_alloc ?_ _)); exact BK122.out)⟩; have n2_ : Aside0 (I w8) := ⟨by rw [← hq_]; exact (by repeat (first | (with_reducible first | exact HB.out | refine IA.out _ _ ?_ | refine ID.out _ _ ?_ | refine ID1.out _ ?_ | refine IS.out _ _ _ _ ?_ GE122.out) | exact HB.out))⟩; clear HO125 BK122 HB hq_; have HO125 := n0_; have BK122 := n1_; have HB := n2_; clear n0_ n1_ n2_))) | ((with_reducible refine gate_dst (N := 11) rfl ?_); refine Kd.R_make (Kd.int .i64) _ 2 rfl (N := 11) rfl 24 _ _ rfl t126 rfl rfl Try.underlying24 (.int .i64 0) 8 info2 rfl (by decide) (by omega) 0 (ok := fun _ => True) (okp := fun _ => True) rfl (fun _ hk => hk) trivial od_ (Nat.le_trans (Nat.mul_le_mul_right _ (od_ : t126.toNat ≤ 35184372088832)) (by omega)) (Below.refl _ _) (Nat.le_refl _) ?_; intro v128 w9 ho10 hb hg_ hnew_; clear hg_ hnew_; (first | rw [← Ny127.out] at ho10 | (simp only [Int.reduceToNat] at ho10; rw [← Ny127.out] at ho10)); have n0_ := am_ (Kd.R_below (by (with_reducible repeat (first | apply Kd.R_alloc | apply Kd.R_drewN | apply Kd.R_drew)); exact HO125.out) hb); have n1_ := am_ (Kd.R_lower ho10 (I5.out _ (by repeat (first | (with_reducible first | exact HB.out | refine IA.out _ _ ?_ | refine ID.out _ _ ?_ | refine ID1.out _ ?_ | refine IS.out _ _ _ _ ?_ GE122.out) | exact HB.out)))); have n2_ := am_ (blk_below (g := gb122) (o := .cells #[.slice none 0 0, .slice none 0 0] 26 (0, 0)) (by (with_reducible repeat (first | refine blk_drewN ?_ _ | refine blk_drew ?_ | refine blk_alloc ?_ _)); exact BK122.out) hb); have n3_ := am_ (I1.out _ _ (by repeat (first | (with_reducible first | exact HB.out | refine IA.out _ _ ?_ | refine ID.out _ _ ?_ | refine ID1.out _ ?_ | refine IS.out _ _ _ _ ?_ GE122.out) | exact HB.out)) hb); clear HO125; clear BK122; clear HB; have HO125 := n0_; have HO129 := n1_; have BK122 := n2_; have HB := n3_; clear n0_ n1_ n2_ n3_; clear hb ho10; obtain ⟨Ao11, co11, eo11⟩ := Kd.R_slice HO129.out; subst eo11; obtain ⟨Ao12, co12, eo12⟩ := Kd.R_slice HO125.out; subst eo12) | ((with_reducible refine gate_dst (N := 5) rfl ?_); refine box_event ?hg (N := 5) ?hd (cs := #[.slice none 0 0, .slice none 0 0]) (t := 26) ?hr ?_; (case hd => rfl); (case hg => rfl); (case hr => first | (go_simp; done) | (go_simp; rfl)); intro gb130 hg w13 hbox hb; have n0_ := am_ (Kd.R_below (by (with_reducible repeat (first | apply Kd.R_alloc | apply Kd.R_drewN | apply Kd.R_drew)); exact HO125.out) hb); have n1_ := am_ (Kd.R_below (by (with_reducible repeat (first | apply Kd.R_alloc | apply Kd.R_drewN | apply Kd.R_drew)); exact HO129.out) hb); have n2_ := am_ (blk_below (g := gb122) (o := .cells #[.slice none 0 0, .slice none 0 0] 26 (0, 0)) (by (with_reducible repeat (first | refine blk_drewN ?_ _ | refine blk_drew ?_ | refine blk_alloc ?_ _)); exact BK122.out) hb); have n3_ := am_ (I1.out _ _ (by repeat (first | (with_reducible first | exact HB.out | refine IA.out _ _ ?_ | refine ID.out _ _ ?_ | refine ID1.out _ ?_ | refine IS.out _ _ _ _ ?_ GE122.out) | exact HB.out)) hb); have n4_ := am_ (hbox); have n5_ := am_ ((by rw [hg]; exact (I5.out _ (by repeat (first | (with_reducible first | exact HB.out | refine IA.out _ _ ?_ | refine ID.out _ _ ?_ | refine ID1.out _ ?_ | refine IS.out _ _ _ _ ?_ GE122.out) | exact HB.out))) : w.heap.size ≤ gb130)); have n6_ := am_ ((by rw [hg]; exact (I5.out _ (by repeat (first | (with_reducible first | exact HB.out | refine IA.out _ _ ?_ | refine ID.out _ _ ?_ | refine ID1.out _ ?_ | refine IS.out _ _ _ _ ?_ GE122.out) | exact HB.out))) : w.heap.size ≤ gb130)); have n7_ := am_ ((by rw [hg]; exact Nat.ne_of_lt (blk_lt (g := gb122) (o := .cells #[.slice none 0 0, .slice none 0 0] 26 (0, 0)) (by (with_reducible repeat (first | refine blk_drewN ?_ _ | refine blk_drew ?_ | refine blk_alloc ?_ _)); exact BK122.out)) : gb122 ≠ gb130)); have n8_ := am_ ((by rw [hg]; exact Nat.ne_of_gt (blk_lt (g := gb122) (o := .cells #[.slice none 0 0, .slice none 0 0] 26 (0, 0)) (by (with_reducible repeat (first | refine blk_drewN ?_ _ | refine blk_drew ?_ | refine blk_alloc ?_ _)); exact BK122.out)) : gb130 ≠ gb122)); clear HO125; clear HO129; clear BK122; clear HB; have HO125 := n0_; have HO129 := n1_; have BK122 := n2_; have HB := n3_; have BK130 := n4_; have GW130 := n5_; have GE130 := n6_; have NB122_130 := n7_; have NB130_122 := n8_; clear n0_ n1_ n2_ n3_ n4_ n5_ n6_ n7_ n8_; clear hb hbox hg; have hnb14 := NB130_122.out; have hnc14 := NB122_130.out; have hcz15_0 := cz0_ BK130; have hcz15_1 := cz1_ BK130; have hfz15_0 := blk_frozen BK130.out 0; have hfz15_1 := blk_frozen BK130.out 1))
      go_loopg [16] k (fun kq v16 w' => ∃ (x16_1 : Int) (x131001_1 : List Int) (u131001 : Value), v16 = .int .i64 x16_1 ∧ Aside0 (tensor_Made.l0 φ kq l0 (y127.length : Int) x16_1 t123 x131001_1 = some (r1, r2)) ∧ Aside0 (kq ≤ k) ∧ Aside0 (Kd.R (Kd.int .i64) 3 w' w.heap.size (fun _ => True) (.slice Ao12 t123.length co12) t123) ∧ Aside0 (Kd.R (Kd.int .i64) 2 w' w.heap.size (fun _ => True) u131001 x131001_1) ∧ Aside0 (w'.heap[gb122]? = some (.cells #[(.slice none 0 0), (.slice none 0 0)] 26 (0, 0))) ∧ Aside0 (w'.heap[gb130]? = some (.cells #[(.slice Ao12 t123.length co12), u131001] 26 (0, 0))) ∧ Aside0 (I w'))
      case atStart => exact ⟨(0), (y127), (.slice Ao11 y127.length co11), rs_, H', ⟨Nat.le_refl _⟩, ⟨by (with_reducible repeat (first | apply Kd.R_alloc | apply Kd.R_drewN | apply Kd.R_drew)); exact Kd.R_mono (Kd.R_far (p := ⟨gb130, 1, none⟩) (Kd.R_far (p := ⟨gb130, 0, none⟩) (Kd.R_types HO125.out BK130.out (by decide)) (fun _ hk => hk.2) (.slice Ao12 t123.length co12)) (fun _ hk => hk.2) (.slice Ao11 y127.length co11)) (fun _ hk => trivial)⟩, ⟨by (with_reducible repeat (first | apply Kd.R_alloc | apply Kd.R_drewN | apply Kd.R_drew)); exact Kd.R_mono (Kd.R_far (p := ⟨gb130, 1, none⟩) (Kd.R_far (p := ⟨gb130, 0, none⟩) (Kd.R_types HO129.out BK130.out (by decide)) (fun _ hk => hk.2) (.slice Ao12 t123.length co12)) (fun _ hk => hk.2) (.slice Ao11 y127.length co11)) (fun _ hk => trivial)⟩, ⟨nF1_ BK122.out NB122_130.out⟩, ⟨by (with_reducible repeat (first | refine blk_drewN ?_ _ | refine blk_drew ?_ | refine blk_alloc ?_ _)); refine blk_put (cs := #[.slice Ao12 t123.length co12, .slice none 0 0]) ?_ 1 _ rfl; (with_reducible repeat (first | refine blk_drewN ?_ _ | refine blk_drew ?_ | refine blk_alloc ?_ _)); refine blk_put (cs := #[.slice none 0 0, .slice none 0 0]) ?_ 0 _ rfl; (with_reducible repeat (first | refine blk_drewN ?_ _ | refine blk_drew ?_ | refine blk_alloc ?_ _)); exact BK130.out⟩, ⟨by repeat (first | (with_reducible first | exact HB.out | refine IA.out _ _ ?_ | refine ID.out _ _ ?_ | refine ID1.out _ ?_ | refine IS.out _ _ _ _ ?_ GE122.out | refine IS.out _ _ _ _ ?_ GE130.out) | exact HB.out)⟩⟩
      case round =>
        clear H'
        try clear c1
        try clear p2
        try clear c3
        try clear c4
        try clear c5
        try clear c5b0
        try clear c5b1
        try clear c6
        try clear c6b0
        try clear c6b1
        try clear c14
        try clear hcz15_0
        try clear hcz15_1
        try clear hfz15_0
        try clear hfz15_1
        obtain ⟨x16_1, x131001_1, u131001, rfl, HA, HK1, HO_131000, HO_131001, BK122, BK130, HB⟩ := hrel
        cases gk with
        | zero => exact absurd HA.out (by simp [tensor_Made.l0])
        | succ k1 =>
          have H := HA.out
          clear HA
          simp only [tensor_Made.l0] at H
          by_cases c16 : x16_1 < (y127.length : Int)
          · rw [if_pos c16] at H
            have c16b0 : decide (x16_1 < (y127.length : Int)) = true := decide_eq_true c16
            clear c16
            replace H := Option.bind_eq_some_iff.mp H
            obtain ⟨t131, A170, H⟩ := H
            replace H : ((φ t131).bind fun t134 => (if 0 ≤ x16_1 then (if x16_1 < (x131001_1.length : Int) then (tensor_Made.l0 φ k1 l0 (y127.length : Int) (wrap64 (x16_1 + 1)) t123 (x131001_1.set (x16_1 : Int).toNat t134)) else (none)) else (none))) = some (r1, r2) := H
            have A17 := am_ A170
            clear A170
            replace H := Option.bind_eq_some_iff.mp H
            obtain ⟨t134, A180, H⟩ := H
            replace H : (if 0 ≤ x16_1 then (if x16_1 < (x131001_1.length : Int) then (tensor_Made.l0 φ k1 l0 (y127.length : Int) (wrap64 (x16_1 + 1)) t123 (x131001_1.set (x16_1 : Int).toNat t134)) else (none)) else (none)) = some (r1, r2) := H
            have A18 := am_ A180
            clear A180
            by_cases c19 : 0 ≤ x16_1
            · rw [if_pos c19] at H
              have c19b0 : decide (0 ≤ x16_1) = true := decide_eq_true c19
              clear c19
              by_cases c20 : x16_1 < (x131001_1.length : Int)
              · rw [if_pos c20] at H
                have c20b0 : decide (x16_1 < (x131001_1.length : Int)) = true := decide_eq_true c20
                clear c20
                obtain ⟨y135, hy135⟩ : ∃ y_ : List Int, y_ = (x131001_1.set (x16_1 : Int).toNat t134) := ⟨_, rfl⟩
                replace H : (tensor_Made.l0 φ k1 l0 (y127.length : Int) (wrap64 (x16_1 + 1)) t123 y135) = some (r1, r2) := by first | exact bq_ hy135 H | (rw [hy135]; exact H) | exact H
                have Ny135 := am_ hy135
                clear hy135
                have H' := am_ H
                clear H
                try go_wp2
                have n0_ := am_ (Kd.R_drew HO_131000.out)
                have n1_ := am_ (Kd.R_drew HO_131001.out)
                have n2_ := am_ (blk_drew BK122.out)
                have n3_ := am_ (blk_drew BK130.out)
                have n4_ := am_ (ID1.out _ HB.out)
                clear HO_131000
                clear HO_131001
                clear BK122
                clear BK130
                clear HB
                have HO_131000 := n0_
                have HO_131001 := n1_
                have BK122 := n2_
                have BK130 := n3_
                have HB := n4_
                clear n0_ n1_ n2_ n3_ n4_
                refine start_ (n := 10) (S := fun w' => w'.cell? ⟨gb130, 0, none⟩ = some (.slice Ao12 t123.length co12) ∧ w'.cell? ⟨gb130, 1, none⟩ = some (u131001)) (ds := [9]) #[false, false, false, false, false, false, false, false, false, false] (by kernel_rfl) rfl rfl ⟨cz0_ BK130, cz1_ BK130⟩ (fun hHeld => ?_); refine with_tabW tensor_Made.tab5 tensor_Made.bits5 (fun HT_ HW_ => ?_)
                generalize wr.drew = w22 at HO_131000 HO_131001 BK122 BK130 HB hHeld ⊢
                refine pure_ (i := 0) (N := some 19) (v := ?_) (a' := ?_) #[true, false, false, false, false, false, false, false, false, false] rfl rfl (ay_ HT_.out) (fun _ _ _ h => h) (Or.inl ⟨by rfl, ?_⟩) ?_ ?_
                rotate_left
                · intro w'
                  go_simp
                  with_reducible rfl
                rotate_left
                · simp only [Act.put, List.setIfInBounds_toArray, List.set_cons_zero, List.set_cons_succ, i64_w, i32_w]
                  rfl
                refine pure_ (i := 2) (N := some 21) (v := ?_) (a' := ?_) #[true, false, true, false, false, false, false, false, false, false] rfl rfl (ay_ HT_.out) (fun _ _ _ h => h) (Or.inl ⟨by rfl, ?_⟩) ?_ ?_
                rotate_left
                · intro w'
                  go_simp
                  with_reducible rfl
                rotate_left
                · simp only [Act.put, List.setIfInBounds_toArray, List.set_cons_zero, List.set_cons_succ, i64_w, i32_w]
                  rfl
                refine pure_ (i := 3) (N := some 22) (v := ?_) (a' := ?_) #[true, false, true, true, false, false, false, false, false, false] rfl rfl (ay_ HT_.out) (fun _ _ _ h => h) (Or.inl ⟨by rfl, ?_⟩) ?_ ?_
                rotate_left
                · intro w'
                  go_simp
                  with_reducible rfl
                rotate_left
                · simp only [Act.put, List.setIfInBounds_toArray, List.set_cons_zero, List.set_cons_succ, i64_w, i32_w]
                  rfl
                refine pure_ (i := 4) (N := some 23) (v := ?_) (a' := ?_) #[true, false, true, true, true, false, false, false, false, false] rfl rfl (ay_ HT_.out) (fun _ _ _ h => h) (Or.inl ⟨by rfl, ?_⟩) ?_ ?_
                rotate_left
                · intro w'
                  go_simp
                  with_reducible rfl
                rotate_left
                · simp only [Act.put, List.setIfInBounds_toArray, List.set_cons_zero, List.set_cons_succ, i64_w, i32_w]
                  rfl
                refine pure_ (i := 5) (N := some 24) (v := ?_) (a' := ?_) #[true, false, true, true, true, true, false, false, false, false] rfl rfl (ay_ HT_.out) (fun _ _ _ h => h) (Or.inl ⟨by rfl, ?_⟩) ?_ ?_
                rotate_left
                · intro w'
                  go_simp
                  with_reducible rfl
                rotate_left
                · simp only [Act.put, List.setIfInBounds_toArray, List.set_cons_zero, List.set_cons_succ, i64_w, i32_w]
                  rfl
                refine take_ (i := 1) (N := some 20) (v := ?_) (a' := ?_) #[true, true, true, true, true, true, false, false, false, false] rfl rfl (tw_ HT_.out HW_.out) (fun _ _ _ h => h) (Or.inl ⟨by rfl, ?_⟩) hHeld ?_ ?_
                rotate_left
                · rintro w' ⟨s0, s1⟩
                  go_simp
                  with_reducible rfl
                rotate_left
                · simp only [Act.put, List.setIfInBounds_toArray, List.set_cons_zero, List.set_cons_succ, i64_w, i32_w]
                  rfl
                refine one_ (i := 6) (N := some 25) #[true, true, true, true, true, true, true, false, false, false] rfl rfl (on_ HT_.out) (by decide) (fun K hK => ?_)
                refine goes_ Try.func42 kr_ rfl #[.slice A0 l0.length c0, .int .i64 x16_1] (by rfl) rfl rfl ar_ ?_
                with_reducible refine (shape_Place.calls k1 _ _ l0 x16_1 t131 _ ?side1 ?side2 A17.out).mono ?_
                (case side1 => repeat (first | exact (I4.out _ HB.out) | (with_reducible refine Kd.C_alloc ?_ _) | (with_reducible refine Kd.C_drewN ?_ _) | (with_reducible refine Kd.C_drew ?_)))
                (case side2 => exact HC0.out)
                rintro e w23 ⟨v132, rfl, ho0, hb⟩
                refine ⟨_, rfl, ?_⟩
                have n0_ := am_ (Kd.R_elder' (by (with_reducible repeat (first | apply Kd.R_alloc | apply Kd.R_drewN | apply Kd.R_drew)); exact HO_131000.out) (Kd.R_base ho0) hb)
                have n1_ := am_ (Kd.R_below (by (with_reducible repeat (first | apply Kd.R_alloc | apply Kd.R_drewN | apply Kd.R_drew)); exact HO_131001.out) hb)
                have n2_ := am_ (Kd.R_lower (Kd.R_new' ho0 (Kd.R_lt (by (with_reducible repeat (first | apply Kd.R_alloc | apply Kd.R_drewN | apply Kd.R_drew)); exact HO_131000.out))) (I5.out _ (by repeat (first | (with_reducible first | exact HB.out | refine IA.out _ _ ?_ | refine ID.out _ _ ?_ | refine ID1.out _ ?_ | refine IS.out _ _ _ _ ?_ GE122.out | refine IS.out _ _ _ _ ?_ GE130.out) | exact HB.out))))
                have n3_ := am_ (blk_below (g := gb122) (o := .cells #[.slice none 0 0, .slice none 0 0] 26 (0, 0)) (by (with_reducible repeat (first | refine blk_drewN ?_ _ | refine blk_drew ?_ | refine blk_alloc ?_ _)); exact BK122.out) hb)
                have n4_ := am_ (blk_below (g := gb130) (o := .cells #[.slice Ao12 t123.length co12, u131001] 26 (0, 0)) (by (with_reducible repeat (first | refine blk_drewN ?_ _ | refine blk_drew ?_ | refine blk_alloc ?_ _)); exact BK130.out) hb)
                have n5_ := am_ (I1.out _ _ (by repeat (first | (with_reducible first | exact HB.out | refine IA.out _ _ ?_ | refine ID.out _ _ ?_ | refine ID1.out _ ?_ | refine IS.out _ _ _ _ ?_ GE122.out | refine IS.out _ _ _ _ ?_ GE130.out) | exact HB.out)) hb)
                clear HO_131000
                clear HO_131001
                clear BK122
                clear BK130
                clear HB
                have HO_131000 := n0_
                have HO_131001 := n1_
                have HO133 := n2_
                have BK122 := n3_
                have BK130 := n4_
                have HB := n5_
                clear n0_ n1_ n2_ n3_ n4_ n5_
                (try clear hb)
                (try clear hb2)
                (try clear hk)
                (try clear hi)
                (try clear ho0)
                obtain ⟨Ao24, co24, eo24⟩ := Kd.R_slice HO133.out
                (first | subst eo24 | (injection eo24 with f1_ f2_ f3_; have f4_ := f1_.symm; have f5_ := f3_.symm; clear f1_ f2_ f3_; subst f4_; subst f5_))
                refine hK.out _ _ ⟨cz0_ BK130, cz1_ BK130⟩ (fun hHeld => ?_)
                clear hK K
                refine norm_ (a' := ?_) ?_ ?_
                rotate_left
                · show Act.put _ (some 25) _ = _
                  simp only [Act.put, List.setIfInBounds_toArray, List.set_cons_zero, List.set_cons_succ, i64_w, i32_w]
                  rfl
                refine one_ (i := 7) (N := some 26) #[true, true, true, true, true, true, true, true, false, false] rfl rfl (on_ HT_.out) (by decide) (fun K hK => ?_)
                refine goesv_ HEN.out caps #[.slice Ao24 t131.length co24] (by rfl) rfl rfl rfl (by (try simp only [List.map_toArray, List.map_cons, List.map_nil]); first | done | rfl) ?_
                refine (HPH.out _ (.slice Ao24 t131.length co24) t131 t134 HB.out (Kd.R_mono HO133.out (fun _ _ => trivial)) A18.out).mono ?_
                rintro e w24_ ⟨rfl, hi_, hg_⟩
                refine ⟨_, rfl, ?_⟩
                have n0_ := am_ (Kd.R_mono (Kd.R_kept (Kd.R_bound HO_131000.out) hg_ (fun _ hk => Nat.not_lt.2 hk.2.1)) (fun _ hk => hk.1))
                have n1_ := am_ (Kd.R_mono (Kd.R_kept (Kd.R_bound HO_131001.out) hg_ (fun _ hk => Nat.not_lt.2 hk.2.1)) (fun _ hk => hk.1))
                have n2_ := am_ (blk_kept BK122.out hg_ (Nat.not_lt.2 GE122.out))
                have n3_ := am_ (blk_kept BK130.out hg_ (Nat.not_lt.2 GE130.out))
                clear HO_131000 HO_131001 HO133 BK122 BK130 HB
                have HO_131000 := n0_
                have HO_131001 := n1_
                have BK122 := n2_
                have BK130 := n3_
                have HB := am_ hi_
                clear hi_ hg_ n0_ n1_ n2_ n3_
                have p21 : 0 ≤ (x16_1 : Int) := od_
                have q21 : (x16_1 : Int) < ((x131001_1.length : Int) : Int) := od_
                obtain ⟨go21, co21, eo21, gb21, gl21, cl21, HG21⟩ := Kd.R_form HO_131001.out (by omega)
                (first | cases eo21 | (injection eo21 with ea_ en_ ec_; (first | subst ea_ | (injection ea_ with ea_; subst ea_)); subst ec_; clear en_))
                have GB21 := am_ gb21
                have GG21 := am_ HG21
                clear gb21 gl21 HG21
                obtain ⟨hx21_0, hf21_0⟩ := Kd.R_celln 0 HO_131001.out (x16_1 : Int) p21 q21
                replace p21 := eq_true p21
                replace q21 := eq_true q21
                have HP25 := Kd.R_putn HO_131001.out (x16_1 : Int) t134
                rw [← Ny135.out] at HP25
                have HQ25 := am_ HP25
                clear HP25
                refine hK.out _ _ ⟨cz0_ BK130, cz1_ BK130⟩ (fun hHeld => ?_)
                clear hK K
                refine norm_ (a' := ?_) ?_ ?_
                rotate_left
                · show Act.put _ (some 26) _ = _
                  simp only [Act.put, List.setIfInBounds_toArray, List.set_cons_zero, List.set_cons_succ, i64_w, i32_w]
                  rfl
                refine pure_ (i := 8) (N := some 27) (v := ?_) (a' := ?_) #[true, true, true, true, true, true, true, true, true, false] rfl rfl (ay_ HT_.out) (fun _ _ _ h => h) (Or.inl ⟨by rfl, ?_⟩) ?_ ?_
                rotate_left
                · intro w'
                  go_simp
                  with_reducible rfl
                rotate_left
                · simp only [Act.put, List.setIfInBounds_toArray, List.set_cons_zero, List.set_cons_succ, i64_w, i32_w]
                  rfl
                refine last_ (i := 9) (N := none) #[true, true, true, true, true, true, true, true, true, true] rfl rfl (on_ HT_.out) (by decide) (fun K hK => ?_)
                refine skip_ (w1 := ?_) (by rfl) rfl ?_ ?_
                rotate_left
                · go_simp
                  rfl
                refine hK.out _ _ ?_
                clear hK K
                refine done_ (done_of HT_.out (by kernel_rfl)) ?_
                try go_wp2
                go_roundg k1
                case measure => have := HK1.out; omega
                case rel => exact ⟨(wrap64 (x16_1 + 1)), (y135), (.slice (some ⟨go21, 0, none⟩) x131001_1.length co21), rs_, H', ⟨by have := HK1.out; omega⟩, ⟨by (with_reducible repeat (first | apply Kd.R_alloc | apply Kd.R_drewN | apply Kd.R_drew)); exact Kd.R_mono (Kd.R_far (p := ⟨go21, (x16_1 : Int).toNat, none⟩) (Kd.R_types HO_131000.out GG21.out (by decide)) (fun _ hk => hk.2) (.int .i64 t134)) (fun _ hk => trivial)⟩, ⟨by (with_reducible repeat (first | apply Kd.R_alloc | apply Kd.R_drewN | apply Kd.R_drew)); exact HQ25.out⟩, ⟨by (with_reducible repeat (first | refine blk_drewN ?_ _ | refine blk_drew ?_ | refine blk_alloc ?_ _)); refine blk_far ?_ (by have h_ := Kd.R_ne HO_131001.out BK122.out (by decide); intro e_; exact h_ (by rw [e_]; rfl)) _; (with_reducible repeat (first | refine blk_drewN ?_ _ | refine blk_drew ?_ | refine blk_alloc ?_ _)); exact BK122.out⟩, ⟨by (with_reducible repeat (first | refine blk_drewN ?_ _ | refine blk_drew ?_ | refine blk_alloc ?_ _)); refine blk_far ?_ (by have h_ := Kd.R_ne HO_131001.out BK130.out (by decide); intro e_; exact h_ (by rw [e_]; rfl)) _; (with_reducible repeat (first | refine blk_drewN ?_ _ | refine blk_drew ?_ | refine blk_alloc ?_ _)); exact BK130.out⟩, ⟨by repeat (first | (with_reducible first | exact HB.out | refine IA.out _ _ ?_ | refine ID.out _ _ ?_ | refine ID1.out _ ?_ | refine IS.out _ _ _ _ ?_ GB21.out | refine IS.out _ _ _ _ ?_ GE122.out | refine IS.out _ _ _ _ ?_ GE130.out) | exact HB.out)⟩⟩
              · rw [if_neg c20] at H
                exact absurd H (by simp)
            · rw [if_neg c19] at H
              exact absurd H (by simp)
          · rw [if_neg c16] at H
            have c16b0 : decide (x16_1 < (y127.length : Int)) = false := decide_eq_false c16
            clear c16
            simp only [Option.some.injEq, Prod.mk.injEq] at H
            obtain ⟨rfl, rfl⟩ := H
            have hnb26 := NB130_122.out
            have hnc26 := NB122_130.out
            have hcz27_0 := cz0_ BK130
            have hcz27_1 := cz1_ BK130
            have hfz27_0 := blk_frozen BK130.out 0
            have hfz27_1 := blk_frozen BK130.out 1
            have hcz28_0 := cz0_ BK122
            have hcz28_1 := cz1_ BK122
            have hfz28_0 := blk_frozen BK122.out 0
            have hfz28_1 := blk_frozen BK122.out 1
            obtain ⟨Ao29, co29, eo29⟩ := Kd.R_slice HO_131001.out
            subst eo29
            go_wp2
            refine bodyPost_ret (results_cell_row rfl _ _ gb122 26 #[.slice Ao12 t123.length co12, .slice Ao29 x131001_1.length co29] (0, 0) _ rfl (by (with_reducible repeat (first | refine blk_drewN ?_ _ | refine blk_drew ?_ | refine blk_alloc ?_ _)); refine blk_put (cs := #[.slice Ao12 t123.length co12, .slice none 0 0]) ?_ 1 _ rfl; (with_reducible repeat (first | refine blk_drewN ?_ _ | refine blk_drew ?_ | refine blk_alloc ?_ _)); refine blk_put (cs := #[.slice none 0 0, .slice none 0 0]) ?_ 0 _ rfl; (with_reducible repeat (first | refine blk_drewN ?_ _ | refine blk_drew ?_ | refine blk_alloc ?_ _)); exact BK122.out) Try.underlying26 rfl (by kernel_rfl)) rfl ?_
            exact ⟨_, _, er_, by (with_reducible repeat (first | apply Kd.R_alloc | apply Kd.R_drewN | apply Kd.R_drew)); exact Kd.R_mono (Kd.R_far (p := ⟨gb122, 1, none⟩) (Kd.R_far (p := ⟨gb122, 0, none⟩) (Kd.R_types HO_131000.out BK122.out (by decide)) (fun _ hk => hk.2) (.slice Ao12 t123.length co12)) (fun _ hk => hk.2) (.slice Ao29 x131001_1.length co29)) (fun _ hk => trivial), by (with_reducible repeat (first | apply Kd.R_alloc | apply Kd.R_drewN | apply Kd.R_drew)); exact Kd.R_mono (Kd.R_far (p := ⟨gb122, 1, none⟩) (Kd.R_far (p := ⟨gb122, 0, none⟩) (Kd.R_types HO_131001.out BK122.out (by decide)) (fun _ hk => hk.2) (.slice Ao12 t123.length co12)) (fun _ hk => hk.2) (.slice Ao29 x131001_1.length co29)) (fun _ hk => trivial), by repeat (first | (with_reducible first | exact HB.out | refine IA.out _ _ ?_ | refine ID.out _ _ ?_ | refine ID1.out _ ?_ | refine IS.out _ _ _ _ ?_ GE122.out | refine IS.out _ _ _ _ ?_ GE130.out) | exact HB.out)⟩
    · rw [if_neg c6] at H
      exact absurd H (by simp)
  · rw [if_neg c5] at H
    exact absurd H (by simp)


theorem tensor_Made.mono_l (φ : List Int → Option Int) : ∀ k y0 y1 y2 y3 y4, LeO (tensor_Made.l0 φ k y0 y1 y2 y3 y4) (tensor_Made.l0 φ (k + 1) y0 y1 y2 y3 y4)
  | 0 => fun _ _ _ _ _ r h => by simp [tensor_Made.l0] at h
  | k + 1 => fun y0 y1 y2 y3 y4 => by
    rw [tensor_Made.l0, tensor_Made.l0]
    exact LeO.ite (LeO.bind (shape_Place.mono _ _ _) (fun _ => LeO.bind (LeO.refl _) (fun _ => LeO.ite (LeO.ite (tensor_Made.mono_l φ k _ _ _ _ _) (LeO.refl _)) (LeO.refl _)))) (LeO.refl _)
theorem tensor_Made.mono (φ : List Int → Option Int) (a0 : List Int) (k : Nat) : LeO (tensor_Made.f φ k a0) (tensor_Made.f φ (k + 1) a0) := by
  unfold tensor_Made.f
  exact LeO.bind (LeO.refl _) (fun _ => LeO.bind (shape_Size.mono _ _) (fun _ => LeO.ite (LeO.ite (LeO.bind (LeO.refl _) (fun _ => tensor_Made.mono_l φ k _ _ _ _ _)) (LeO.refl _)) (LeO.refl _)))

end Go.Proofs.Ytapoeleiicnlbaa.Q
