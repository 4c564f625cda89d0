-- Printed by a program (a variant of the kit print, with contracts of our own).
import Derived.Test.YthkcceknccdmpaaQx0
import Derived.Test.YthkcceknccdmpaaQx4
import Derived.Test.YthkcceknccdmpaaQx5
namespace Go.Proofs.Ythkcceknccdmpaa.Q
open Go.RowKit Go.Proofs.YthkcceknccdmpaaW.PrintWords Go.Proofs.YthkcceknccdmpaaW.PrintLast Go.Proofs.YthkcceknccdmpaaW.PrintMore
attribute [local go_sem] max2_int min2_int max_two min_two max_three min_three max_four min_four   -- for this text's walks alone
set_option linter.unusedVariables false
set_option linter.unusedSimpArgs false

-- OWN PART
/-! ### tensor_Iota: function 48 -/
theorem tensor_Iota.enters (args : Array Value) (W : World) : (callFunc 86 args).run Try.prog W = .ok (.enter 86 args) W := enters_ Try.func86 (by kernel_rfl) rfl args W
/-- The number of a place along an axis. -/
def iotaAt (a : Int) (p : List Int) : Option Int := if 0 ≤ a then (if a < (p.length : Int) then some (rd p a) else none) else none
set_option maxRecDepth 100000 in
theorem tensor_Iota.clo (W : World) (v : Value) (p : List Int) (g : Nat) (n r : Int) (base : Nat) (hc : W.cell? ⟨g, 0, none⟩ = some (.int .i64 n)) (hv : Kd.R (Kd.int .i64) 3 W base (fun _ => True) v p) (hr : iotaAt n p = some r) :
    Calls Try.prog 86 #[v, .pointer (some ⟨g, 0, none⟩)] W fun e W' => e = .returned (.int .i64 r) ∧ W.grownBy W' v.ownBlock := by
  unfold iotaAt at hr
  by_cases h0 : 0 ≤ n
  · rw [if_pos h0] at hr
    by_cases h1 : n < (p.length : Int)
    · rw [if_pos h1] at hr
      obtain rfl := Option.some.inj hr
      obtain ⟨A, c, rfl, hlc, hC⟩ := Kd.R_reads hv
      obtain ⟨ad, rfl, hcell⟩ := (readsInt_of.2 (Kd.reads_of_C hC)).at_ n h0 h1
      clear hv hC hr hlc
      go_enter Try.func86, Try.ntmps86
      go_wp2
      go_ret
      exact ⟨rfl, grown_of_below (Below.refl _ _) _⟩
    · rw [if_neg h1] at hr
      exact absurd hr (by simp)
  · rw [if_neg h0] at hr
    exact absurd hr (by simp)
def tensor_Iota.f (k : Nat) (l0 : List Int) (a1 : Int) : Option (List Int × List Int × Int) := (shape_Right.f k l0).bind fun t140 => (if t140 = true then (if a1 < 0 then (some (([] : List Int), ([] : List Int), 1)) else (if a1 ≥ (l0.length : Int) then (some (([] : List Int), ([] : List Int), 1)) else ((tensor_Made.f (iotaAt a1) k l0).bind fun bt141 => (some (bt141.1, bt141.2, 0))))) else (some (([] : List Int), ([] : List Int), 13)))
theorem tensor_Iota.mono : ∀ a0 a1 k, LeO (tensor_Iota.f k a0 a1) (tensor_Iota.f (k + 1) a0 a1) := by
  intro a0 a1 k
  unfold tensor_Iota.f
  exact LeO.bind (shape_Right.mono _ _) (fun _ => LeO.ite (LeO.ite (LeO.refl _) (LeO.ite (LeO.refl _) (LeO.bind (tensor_Made.mono _ _ _) (fun _ => LeO.refl _)))) (LeO.refl _))
set_option maxHeartbeats 8000000 in
set_option maxRecDepth 100000 in
theorem tensor_Iota.calls (k : Nat) (A0 : Option Addr) (c0 : Nat) (l0 : List Int) (a1 : Int) (r1 : List Int) (r2 : List Int) (r3 : Int) (w : World) (hr0 : Kd.C (Kd.int .i64) w A0 l0.length l0) (hc0 : l0.length ≤ c0) (h : tensor_Iota.f k l0 a1 = some (r1, r2, r3)) :
    Calls Try.prog 48 #[.slice A0 l0.length c0, .int .i64 a1] w fun e w' => ∃ v0_ v1_ : Value, e = .returned (.tuple #[.agg #[v0_, v1_], .int .i64 r3]) ∧ Kd.R (Kd.int .i64) 3 w' w.heap.size (fun _ => True) v0_ r1 ∧ Kd.R (Kd.int .i64) 2 w' w.heap.size (fun _ => True) v1_ r2 ∧ Below w.heap.size w w' := by
  have hu53 := Try.underlying53
  have HR0 := Aside0.mk hr0
  have HC0 := Aside0.mk hc0
  clear hr0 hc0
  have HB := Aside0.mk (Below.refl w.heap.size w)
  unfold tensor_Iota.f at h
  obtain ⟨t120, A30, H⟩ := Option.bind_eq_some_iff.mp h
  clear h
  have A3 := Aside0.mk A30
  clear A30
  by_cases c4 : t120 = true
  · subst c4
    rw [if_pos rfl] at H
    by_cases c5 : a1 < 0
    · rw [if_pos c5] at H
      have c5b0 : decide (a1 < 0) = true := decide_eq_true c5
      clear c5
      simp only [Option.some.injEq, Prod.mk.injEq] at H
      obtain ⟨rfl, rfl, rfl⟩ := H
      go_enter Try.func48, Try.ntmps48
      go_wp2_with (first | ((with_reducible refine gate_dst (N := 3) rfl ?_); (try (refine gate_guard (by rfl) ?_; dsimp only)); refine box_event ?hg (N := 3) ?hd (cs := #[.int .i64 a1]) (t := 3) ?hr ?_; (case hd => rfl); (case hg => rfl); (case hr => first | (go_simp; done) | (go_simp; rfl)); intro gbc hg w5 hbox hb; have BKC := Aside0.mk hbox; have HB2 := Aside0.mk (below_step HB.out hb); clear HB; have HB := HB2; clear HB2 hb hbox hg) | ((with_reducible refine gate_dst (N := 4) rfl ?_); (try (refine gate_guard (by rfl) ?_; dsimp only)); refine box_event ?hg (N := 4) ?hd (cs := #[.slice none 0 0, .slice none 0 0]) (t := 53) ?hr ?_; (case hd => rfl); (case hg => rfl); (case hr => first | (go_simp; done) | (go_simp; rfl)); intro gb119 hg w6 hbox hb; have n1_ := Aside0.mk hbox; have n2_ := Aside0.mk ((by rw [hg]; exact below_size HB.out) : w.heap.size ≤ gb119); have n3_ := Aside0.mk (blk_below BKC.out hb); have n0_ := Aside0.mk (below_step HB.out hb); clear HB BKC; have HB := n0_; have BK119 := n1_; have GE119 := n2_; have BKC := n3_; clear n0_ n1_ n2_ n3_ hb hbox hg) | ((with_reducible refine gate_callee (f := 55) rfl ?_); refine goesL_ (some 8) rfl rfl Try.func55 (by kernel_rfl) rfl #[.slice A0 l0.length c0] rfl (by (try simp only [List.map_toArray, List.map_cons, List.map_nil]); first | done | rfl) ?_; (with_reducible refine (shape_Right.calls k _ _ l0 true _ ?side1 ?side2 A3.out).mono ?_); (case side1 => exact Kd.C_below HR0.out HB.out); (case side2 => exact HC0.out); rintro e w' ⟨rfl, ⟨nd, rfl⟩⟩; refine ⟨_, rfl, ?_⟩; rw [drewN_self w6]; generalize hq_ : World.drewN w6 _ = w6; have n0_ : Aside0 (w6.heap[gb119]? = some (.cells #[.slice none 0 0, .slice none 0 0] 53 (0, 0))) := ⟨by rw [← hq_]; exact blk_drewN BK119.out _⟩; have n1_ : Aside0 (Below w.heap.size w w6) := ⟨by rw [← hq_]; exact pw_below_drewN HB.out _⟩; have n2_ : Aside0 (w6.heap[gbc]? = some (.cells #[.int .i64 a1] 3 (0, 0))) := ⟨by rw [← hq_]; exact blk_drewN BKC.out _⟩; clear BK119 HB BKC hq_; have BK119 := n0_; have HB := n1_; have BKC := n2_; clear n0_ n1_ n2_; have hcc : w6.cell? ⟨gbc, 0, none⟩ = some (.int .i64 a1) := (blk_cell BKC.out 0).trans rfl; have hcz12_0 : w6.cell? ⟨gb119, 0, none⟩ = some (.slice none 0 0) := (blk_cell BK119.out 0).trans rfl; have hcz12_1 : w6.cell? ⟨gb119, 1, none⟩ = some (.slice none 0 0) := (blk_cell BK119.out 1).trans rfl; have hfz12_0 := blk_frozen BK119.out 0; have hfz12_1 := blk_frozen BK119.out 1))
      refine bodyPost_ret (results_ct rfl _ _ gb119 53 #[.slice none 0 0, .slice none 0 0] (0, 0) _ rfl (by refine blk_put (cs := #[.slice none 0 0, .slice none 0 0]) ?_ 1 _ rfl; refine blk_put (cs := #[.slice none 0 0, .slice none 0 0]) ?_ 0 _ rfl; exact BK119.out) Try.underlying53 rfl (by kernel_rfl)) rfl ?_
      exact ⟨_, _, rfl, Kd.R_nil _ _ _ _ _, Kd.R_nil _ _ _ _ _, by repeat (first | exact HB.out | refine below_set ?_ GE119.out)⟩
    · rw [if_neg c5] at H
      have c5b0 : decide (a1 < 0) = false := decide_eq_false c5
      clear c5
      by_cases c8 : a1 ≥ (l0.length : Int)
      · rw [if_pos c8] at H
        have c8b0 : decide ((l0.length : Int) ≤ a1) = true := decide_eq_true c8
        clear c8
        simp only [Option.some.injEq, Prod.mk.injEq] at H
        obtain ⟨rfl, rfl, rfl⟩ := H
        go_enter Try.func48, Try.ntmps48
        go_wp2_with (first | ((with_reducible refine gate_dst (N := 3) rfl ?_); (try (refine gate_guard (by rfl) ?_; dsimp only)); refine box_event ?hg (N := 3) ?hd (cs := #[.int .i64 a1]) (t := 3) ?hr ?_; (case hd => rfl); (case hg => rfl); (case hr => first | (go_simp; done) | (go_simp; rfl)); intro gbc hg w5 hbox hb; have BKC := Aside0.mk hbox; have HB2 := Aside0.mk (below_step HB.out hb); clear HB; have HB := HB2; clear HB2 hb hbox hg) | ((with_reducible refine gate_dst (N := 4) rfl ?_); (try (refine gate_guard (by rfl) ?_; dsimp only)); refine box_event ?hg (N := 4) ?hd (cs := #[.slice none 0 0, .slice none 0 0]) (t := 53) ?hr ?_; (case hd => rfl); (case hg => rfl); (case hr => first | (go_simp; done) | (go_simp; rfl)); intro gb119 hg w6 hbox hb; have n1_ := Aside0.mk hbox; have n2_ := Aside0.mk ((by rw [hg]; exact below_size HB.out) : w.heap.size ≤ gb119); have n3_ := Aside0.mk (blk_below BKC.out hb); have n0_ := Aside0.mk (below_step HB.out hb); clear HB BKC; have HB := n0_; have BK119 := n1_; have GE119 := n2_; have BKC := n3_; clear n0_ n1_ n2_ n3_ hb hbox hg) | ((with_reducible refine gate_callee (f := 55) rfl ?_); refine goesL_ (some 8) rfl rfl Try.func55 (by kernel_rfl) rfl #[.slice A0 l0.length c0] rfl (by (try simp only [List.map_toArray, List.map_cons, List.map_nil]); first | done | rfl) ?_; (with_reducible refine (shape_Right.calls k _ _ l0 true _ ?side1 ?side2 A3.out).mono ?_); (case side1 => exact Kd.C_below HR0.out HB.out); (case side2 => exact HC0.out); rintro e w' ⟨rfl, ⟨nd, rfl⟩⟩; refine ⟨_, rfl, ?_⟩; rw [drewN_self w6]; generalize hq_ : World.drewN w6 _ = w6; have n0_ : Aside0 (w6.heap[gb119]? = some (.cells #[.slice none 0 0, .slice none 0 0] 53 (0, 0))) := ⟨by rw [← hq_]; exact blk_drewN BK119.out _⟩; have n1_ : Aside0 (Below w.heap.size w w6) := ⟨by rw [← hq_]; exact pw_below_drewN HB.out _⟩; have n2_ : Aside0 (w6.heap[gbc]? = some (.cells #[.int .i64 a1] 3 (0, 0))) := ⟨by rw [← hq_]; exact blk_drewN BKC.out _⟩; clear BK119 HB BKC hq_; have BK119 := n0_; have HB := n1_; have BKC := n2_; clear n0_ n1_ n2_; have hcc : w6.cell? ⟨gbc, 0, none⟩ = some (.int .i64 a1) := (blk_cell BKC.out 0).trans rfl; have hcz12_0 : w6.cell? ⟨gb119, 0, none⟩ = some (.slice none 0 0) := (blk_cell BK119.out 0).trans rfl; have hcz12_1 : w6.cell? ⟨gb119, 1, none⟩ = some (.slice none 0 0) := (blk_cell BK119.out 1).trans rfl; have hfz12_0 := blk_frozen BK119.out 0; have hfz12_1 := blk_frozen BK119.out 1))
        refine bodyPost_ret (results_ct rfl _ _ gb119 53 #[.slice none 0 0, .slice none 0 0] (0, 0) _ rfl (by refine blk_put (cs := #[.slice none 0 0, .slice none 0 0]) ?_ 1 _ rfl; refine blk_put (cs := #[.slice none 0 0, .slice none 0 0]) ?_ 0 _ rfl; exact BK119.out) Try.underlying53 rfl (by kernel_rfl)) rfl ?_
        exact ⟨_, _, rfl, Kd.R_nil _ _ _ _ _, Kd.R_nil _ _ _ _ _, by repeat (first | exact HB.out | refine below_set ?_ GE119.out)⟩
      · rw [if_neg c8] at H
        have c8b0 : decide ((l0.length : Int) ≤ a1) = false := decide_eq_false c8
        clear c8
        obtain ⟨⟨t121, t124⟩, A50, H⟩ := Option.bind_eq_some_iff.mp H
        have A5 := Aside0.mk A50
        clear A50
        simp only [Option.some.injEq, Prod.mk.injEq] at H
        obtain ⟨rfl, rfl, rfl⟩ := H
        go_enter Try.func48, Try.ntmps48
        go_wp2_with (first | ((with_reducible refine gate_dst (N := 3) rfl ?_); (try (refine gate_guard (by rfl) ?_; dsimp only)); refine box_event ?hg (N := 3) ?hd (cs := #[.int .i64 a1]) (t := 3) ?hr ?_; (case hd => rfl); (case hg => rfl); (case hr => first | (go_simp; done) | (go_simp; rfl)); intro gbc hg w5 hbox hb; have BKC := Aside0.mk hbox; have HB2 := Aside0.mk (below_step HB.out hb); clear HB; have HB := HB2; clear HB2 hb hbox hg) | ((with_reducible refine gate_dst (N := 4) rfl ?_); (try (refine gate_guard (by rfl) ?_; dsimp only)); refine box_event ?hg (N := 4) ?hd (cs := #[.slice none 0 0, .slice none 0 0]) (t := 53) ?hr ?_; (case hd => rfl); (case hg => rfl); (case hr => first | (go_simp; done) | (go_simp; rfl)); intro gb119 hg w6 hbox hb; have n1_ := Aside0.mk hbox; have n2_ := Aside0.mk ((by rw [hg]; exact below_size HB.out) : w.heap.size ≤ gb119); have n3_ := Aside0.mk (blk_below BKC.out hb); have n0_ := Aside0.mk (below_step HB.out hb); clear HB BKC; have HB := n0_; have BK119 := n1_; have GE119 := n2_; have BKC := n3_; clear n0_ n1_ n2_ n3_ hb hbox hg) | ((with_reducible refine gate_callee (f := 55) rfl ?_); refine goesL_ (some 8) rfl rfl Try.func55 (by kernel_rfl) rfl #[.slice A0 l0.length c0] rfl (by (try simp only [List.map_toArray, List.map_cons, List.map_nil]); first | done | rfl) ?_; (with_reducible refine (shape_Right.calls k _ _ l0 true _ ?side1 ?side2 A3.out).mono ?_); (case side1 => exact Kd.C_below HR0.out HB.out); (case side2 => exact HC0.out); rintro e w' ⟨rfl, ⟨nd, rfl⟩⟩; refine ⟨_, rfl, ?_⟩; rw [drewN_self w6]; generalize hq_ : World.drewN w6 _ = w6; have n0_ : Aside0 (w6.heap[gb119]? = some (.cells #[.slice none 0 0, .slice none 0 0] 53 (0, 0))) := ⟨by rw [← hq_]; exact blk_drewN BK119.out _⟩; have n1_ : Aside0 (Below w.heap.size w w6) := ⟨by rw [← hq_]; exact pw_below_drewN HB.out _⟩; have n2_ : Aside0 (w6.heap[gbc]? = some (.cells #[.int .i64 a1] 3 (0, 0))) := ⟨by rw [← hq_]; exact blk_drewN BKC.out _⟩; clear BK119 HB BKC hq_; have BK119 := n0_; have HB := n1_; have BKC := n2_; clear n0_ n1_ n2_; have hcc : w6.cell? ⟨gbc, 0, none⟩ = some (.int .i64 a1) := (blk_cell BKC.out 0).trans rfl) | ((with_reducible refine gate_callee (f := 84) rfl ?_); refine goesL_ (some 23) rfl rfl Try.func84 (by kernel_rfl) rfl #[.slice A0 l0.length c0, .func (.func 86) #[] #[.pointer (some ⟨gbc, 0, none⟩)]] rfl (by (try simp only [List.map_toArray, List.map_cons, List.map_nil]); first | done | rfl) ?_; (refine (tensor_Made.calls2 86 #[.pointer (some ⟨gbc, 0, none⟩)] (iotaAt a1) _ A0 c0 l0 ?side1 ?side2 tensor_Iota.enters ?side3 k t121 t124 A5.out).mono ?_); (case side1 => exact Kd.C_below HR0.out HB.out); (case side2 => exact HC0.out); (case side3 => intro W v p r hI hv hr; exact tensor_Iota.clo W v p gbc a1 r _ ((blk_cell (blk_below BKC.out hI) 0).trans rfl) hv hr); rintro e w7 ⟨v122, v125, rfl, ho0, ho1, hb⟩; refine ⟨_, rfl, ?_⟩; have n0_ := Aside0.mk (Kd.R_lower ho0 (below_size HB.out)); have n1_ := Aside0.mk (Kd.R_lower ho1 (below_size HB.out)); have n2_ := Aside0.mk (blk_below BK119.out hb); have n3_ := Aside0.mk (below_step HB.out hb); clear BK119 BKC; clear HB; have HO123 := n0_; have HO126 := n1_; have BK119 := n2_; have HB := n3_; clear n0_ n1_ n2_ n3_; clear hb ho0 ho1; obtain ⟨Ao8, co8, eo8⟩ := Kd.R_slice HO123.out; subst eo8; have hcz9_0 : w7.cell? ⟨gb119, 0, none⟩ = some (.slice none 0 0) := (blk_cell BK119.out 0).trans rfl; have hcz9_1 : w7.cell? ⟨gb119, 1, none⟩ = some (.slice none 0 0) := (blk_cell BK119.out 1).trans rfl; have hfz9_0 := blk_frozen BK119.out 0; have hfz9_1 := blk_frozen BK119.out 1; obtain ⟨Ao10, co10, eo10⟩ := Kd.R_slice HO126.out; subst eo10))
        refine bodyPost_ret (results_ct rfl _ _ gb119 53 #[.slice Ao8 t121.length co8, .slice Ao10 t124.length co10] (0, 0) _ rfl (by refine blk_put (cs := #[.slice Ao8 t121.length co8, .slice none 0 0]) ?_ 1 _ rfl; refine blk_put (cs := #[.slice none 0 0, .slice none 0 0]) ?_ 0 _ rfl; exact BK119.out) Try.underlying53 rfl (by kernel_rfl)) rfl ?_
        exact ⟨_, _, rfl, Kd.R_mono (Kd.R_far (p := ⟨gb119, 1, none⟩) (Kd.R_far (p := ⟨gb119, 0, none⟩) (Kd.R_types HO123.out BK119.out (by decide)) (fun _ hk => hk.2) (.slice Ao8 t121.length co8)) (fun _ hk => hk.2) (.slice Ao10 t124.length co10)) (fun _ hk => trivial), Kd.R_mono (Kd.R_far (p := ⟨gb119, 1, none⟩) (Kd.R_far (p := ⟨gb119, 0, none⟩) (Kd.R_types HO126.out BK119.out (by decide)) (fun _ hk => hk.2) (.slice Ao8 t121.length co8)) (fun _ hk => hk.2) (.slice Ao10 t124.length co10)) (fun _ hk => trivial), by repeat (first | exact HB.out | refine below_set ?_ GE119.out)⟩
  · replace c4 := Bool.eq_false_iff.mpr c4
    subst c4
    rw [if_neg (by decide)] at H
    simp only [Option.some.injEq, Prod.mk.injEq] at H
    obtain ⟨rfl, rfl, rfl⟩ := H
    go_enter Try.func48, Try.ntmps48
    go_wp2_with (first | ((with_reducible refine gate_dst (N := 3) rfl ?_); (try (refine gate_guard (by rfl) ?_; dsimp only)); refine box_event ?hg (N := 3) ?hd (cs := #[.int .i64 a1]) (t := 3) ?hr ?_; (case hd => rfl); (case hg => rfl); (case hr => first | (go_simp; done) | (go_simp; rfl)); intro gbc hg w5 hbox hb; have BKC := Aside0.mk hbox; have HB2 := Aside0.mk (below_step HB.out hb); clear HB; have HB := HB2; clear HB2 hb hbox hg) | ((with_reducible refine gate_dst (N := 4) rfl ?_); (try (refine gate_guard (by rfl) ?_; dsimp only)); refine box_event ?hg (N := 4) ?hd (cs := #[.slice none 0 0, .slice none 0 0]) (t := 53) ?hr ?_; (case hd => rfl); (case hg => rfl); (case hr => first | (go_simp; done) | (go_simp; rfl)); intro gb119 hg w6 hbox hb; have n1_ := Aside0.mk hbox; have n2_ := Aside0.mk ((by rw [hg]; exact below_size HB.out) : w.heap.size ≤ gb119); have n3_ := Aside0.mk (blk_below BKC.out hb); have n0_ := Aside0.mk (below_step HB.out hb); clear HB BKC; have HB := n0_; have BK119 := n1_; have GE119 := n2_; have BKC := n3_; clear n0_ n1_ n2_ n3_ hb hbox hg) | ((with_reducible refine gate_callee (f := 55) rfl ?_); refine goesL_ (some 8) rfl rfl Try.func55 (by kernel_rfl) rfl #[.slice A0 l0.length c0] rfl (by (try simp only [List.map_toArray, List.map_cons, List.map_nil]); first | done | rfl) ?_; (with_reducible refine (shape_Right.calls k _ _ l0 false _ ?side1 ?side2 A3.out).mono ?_); (case side1 => exact Kd.C_below HR0.out HB.out); (case side2 => exact HC0.out); rintro e w' ⟨rfl, ⟨nd, rfl⟩⟩; refine ⟨_, rfl, ?_⟩; rw [drewN_self w6]; generalize hq_ : World.drewN w6 _ = w6; have n0_ : Aside0 (w6.heap[gb119]? = some (.cells #[.slice none 0 0, .slice none 0 0] 53 (0, 0))) := ⟨by rw [← hq_]; exact blk_drewN BK119.out _⟩; have n1_ : Aside0 (Below w.heap.size w w6) := ⟨by rw [← hq_]; exact pw_below_drewN HB.out _⟩; have n2_ : Aside0 (w6.heap[gbc]? = some (.cells #[.int .i64 a1] 3 (0, 0))) := ⟨by rw [← hq_]; exact blk_drewN BKC.out _⟩; clear BK119 HB BKC hq_; have BK119 := n0_; have HB := n1_; have BKC := n2_; clear n0_ n1_ n2_; have hcc : w6.cell? ⟨gbc, 0, none⟩ = some (.int .i64 a1) := (blk_cell BKC.out 0).trans rfl; have hcz12_0 : w6.cell? ⟨gb119, 0, none⟩ = some (.slice none 0 0) := (blk_cell BK119.out 0).trans rfl; have hcz12_1 : w6.cell? ⟨gb119, 1, none⟩ = some (.slice none 0 0) := (blk_cell BK119.out 1).trans rfl; have hfz12_0 := blk_frozen BK119.out 0; have hfz12_1 := blk_frozen BK119.out 1))
    refine bodyPost_ret (results_ct rfl _ _ gb119 53 #[.slice none 0 0, .slice none 0 0] (0, 0) _ rfl (by refine blk_put (cs := #[.slice none 0 0, .slice none 0 0]) ?_ 1 _ rfl; refine blk_put (cs := #[.slice none 0 0, .slice none 0 0]) ?_ 0 _ rfl; exact BK119.out) Try.underlying53 rfl (by kernel_rfl)) rfl ?_
    exact ⟨_, _, rfl, Kd.R_nil _ _ _ _ _, Kd.R_nil _ _ _ _ _, by repeat (first | exact HB.out | refine below_set ?_ GE119.out)⟩

end Go.Proofs.Ythkcceknccdmpaa.Q
