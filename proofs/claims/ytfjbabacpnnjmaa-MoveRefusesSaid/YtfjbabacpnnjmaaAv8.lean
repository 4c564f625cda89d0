/- A logic of small values, and walks in it: The Maker: there, Room, Devices, Fresh, Tag, Put. The Maker's Put. The Maker's Programs: a copy. law18.known. Within, at; the tape. -/
import Derived.Test.YtfjbabacpnnjmaaAv7
set_option linter.unusedVariables false
set_option linter.unusedSimpArgs false
set_option linter.deprecated false
namespace Go.Proofs.Ytfjbabacpnnjmaa.Av
open Go Go.Av
set_option maxRecDepth 20000
set_option maxHeartbeats 4000000

attribute [local go_sem] step_apply stepD_apply stepE_apply
attribute [local go_sem] aopq_mv aopq_pk aopq_al aopq_bx aopq_bd aopq_bs aopq_ld aopq_st aopq_nc aopq_bin aopq_un aopq_cv aopq_mi aopq_mf aopq_mm aopq_ms aopq_sc aopq_fa aopq_fl aopq_ia aopq_lk aopq_mu aopq_lm aopq_rg aopq_en aopq_ta aopq_ex aopq_ln aopq_ap aopq_mx aopq.eq_3 aop.eq_1 aop.eq_2 aop.eq_3 aop.eq_4 aop.eq_5 aop.eq_6 aop.eq_7 aop.eq_8 aop.eq_9 aop_bin atS_apply aop_un_not aop_un_neg aop.eq_14 aop.eq_15 aop.eq_16 aop.eq_17 aop.eq_18 aop_sc cutS_apply cutN_apply cutL_apply cutO_apply aop.eq_20 aop.eq_21 aop.eq_22 aop.eq_23 aop.eq_24 aop.eq_25 aop.eq_26 aop.eq_27 aop.eq_28 aop.eq_29 aop.eq_30 aop.eq_31 aop.eq_32 blk_push next_push blk_set next_set blk_kill next_kill frL_nil frL_cons Fits_nil Fits_cons Int.reduceBEq Int.reduceBNe Nat.sub_zero Option.map_some Option.map_none List.set_cons_succ true_or or_true false_or or_false Int.le_refl Int.cast_ofNat_Int decide_true decide_false List.cons_append fillA fillR rowsOf List.replicate_succ List.replicate_zero Nat.zero_mul getD_drop List.length_drop splice List.nil_append List.append_nil cond_true cond_false List.set_cons_zero List.length_set ev put_some put_none upd_apply abin asNat bounds row1 mk List.length_cons List.length_nil List.length_map List.drop_zero List.drop_succ_cons List.drop_nil List.getD_cons_zero List.getD_cons_succ Option.getD_none Option.getD_some List.take_succ_cons List.take_zero List.take_nil true_and and_true Int.toNat_natCast if_true if_false Nat.zero_add Nat.add_zero List.map_cons List.map_nil Nat.reduceEqDiff Nat.left_eq_add Nat.add_eq_left Nat.add_left_cancel_iff Nat.add_assoc Nat.reduceSub Nat.reduceAdd Nat.reduceLeDiff Nat.le_refl Nat.zero_le Nat.zero_lt_one Nat.lt_add_one Int.reduceLT Int.reduceLE Int.reduceToNat Nat.reduceLT Nat.reduceBEq Bool.false_eq_true Nat.reduceBNe ne_eq not_false_eq_true not_true_eq_false false_and and_false reduceIte Int.natCast_nonneg reduceCtorEq parts_agg parts_bool parts_int parts_str parts_lit parts_nils parts_sl parts_ptr Int.natCast_nonneg Int.natCast_nonneg beq_self_eq_true bne_self_eq_false Bool.true_and Bool.false_and Bool.and_true Bool.and_false Bool.true_or Bool.false_or Bool.or_true Bool.or_false Bool.not_true Bool.not_false
attribute [local go_sem] instr0 instr1 instr2 instr10 instr11 instr12 instrN instrA instr_len node0 node1 node2 node3 node4 node5 node6 nodeA node_len I ints progA progsA

/-- A slice of the walk's own, or nil. -/
def Row1 (o : Nat → Option Nat) (l : Nat) (s : St) (sz : Nat) (v : AV) (rows : List (List AV)) : Prop :=
  (v = .nils ∧ rows = []) ∨ ∃ c, v = .sl c 0 rows.length ∧ o c = some l ∧ s.blk c = some (.cells sz rows)

/-- A Maker in memory. 'o': which blocks are its own, and what for. -/
structure Mk (o : Nat → Option Nat) (s : St) (b bL bR : Nat) (vs : List AV) (ps : List (List Instr)) (rs : List Int) (tg : Int) : Prop where
  own0 : o b = some 0
  ownR : o bR = some 1
  ownL : o bL = some 2
  lt : ∀ c, o c ≠ none → c < s.next
  hb : s.blk b = some (.cells 3 [[.sl bL 0 ps.length, .sl bR 0 rs.length, I tg]])
  hL : s.blk bL = some (.cells 1 (vs.map fun v => [v]))
  hR : s.blk bR = some (.cells 1 (rs.map fun r => [I r]))
  hv : vs.length = ps.length
  hr : rs.length = ps.length
  hd : ∀ d, d < ps.length → Row1 o (3 + d) s 13 (vs.getD d .undef) ((ps.getD d []).map instrL)

/-- What is not its own stays; its own grows by new blocks. -/
def Grow (o : Nat → Option Nat) (σ : St) (o' : Nat → Option Nat) (s : St) : Prop :=
  σ.next ≤ s.next ∧ (∀ c, c < σ.next → o' c = o c) ∧ ∀ c, c < σ.next → o c = none → s.blk c = σ.blk c

theorem Grow.refl (o : Nat → Option Nat) (σ : St) : Grow o σ o σ := ⟨Nat.le_refl _, fun _ _ => rfl, fun _ _ _ => rfl⟩
theorem Grow.trans {o o' o'' : Nat → Option Nat} {σ s t : St} (h : Grow o σ o' s) (h' : Grow o' s o'' t) : Grow o σ o'' t :=
  ⟨Nat.le_trans h.1 h'.1, fun c hc => by rw [h'.2.1 c (Nat.lt_of_lt_of_le hc h.1), h.2.1 c hc], fun c hc ho => by
    rw [h'.2.2 c (Nat.lt_of_lt_of_le hc h.1) (by rw [h.2.1 c hc]; exact ho), h.2.2 c hc ho]⟩

section mk
variable {o : Nat → Option Nat} {σ : St} {b bL bR : Nat} {vs : List AV} {ps : List (List Instr)} {rs : List Int} {tg : Int}
theorem Mk.frame (h : Mk o σ b bL bR vs ps rs tg) {s : St} (hn : σ.next ≤ s.next) (hs : ∀ c, o c ≠ none → s.blk c = σ.blk c) : Mk o s b bL bR vs ps rs tg := by
  refine ⟨h.own0, h.ownR, h.ownL, fun c hc => Nat.lt_of_lt_of_le (h.lt c hc) hn, ?_, ?_, ?_, h.hv, h.hr, fun d hd => ?_⟩
  · rw [hs b (by rw [h.own0]; simp)]; exact h.hb
  · rw [hs bL (by rw [h.ownL]; simp)]; exact h.hL
  · rw [hs bR (by rw [h.ownR]; simp)]; exact h.hR
  · rcases h.hd d hd with hh | ⟨c, h1, h2, h3⟩
    · exact .inl hh
    · exact .inr ⟨c, h1, h2, by rw [hs c (by rw [h2]; simp)]; exact h3⟩

theorem ne_lab {c c' : Nat} {x y : Nat} (h : o c = some x) (h' : o c' = some y) (hne : x ≠ y) : ¬ c = c' := by
  rintro rfl; rw [h] at h'; cases h'; exact hne rfl

/-- code.Maker.there -/
theorem there_spec (hb : σ.blk b = some (.cells 3 [[.sl bL 0 ps.length, .sl bR 0 rs.length, I tg]])) (d : Int) : T Try.prog 60 [.ptr b 0 0, I d] σ (.bool (decide (d ≥ 0) && decide (d < ps.length))) σ := by
  refine in60 (by simp) fun wf hab => ?_
  clear hab
  unfold c60
  repeat' (first | (refine hK _ _ ?_; clear hK K hA A) | (refine hA.cut (by simp (maxSteps := 1000000) only [go_sem, *, hb]; with_reducible rfl) (fun hs => ?_) (fun hs => ?_) <;> simp (maxSteps := 1000000) only [go_sem, hA.nil, hA.go, hA.yes, hA.noT, hA.noF, hA.skp, *, hb]) | (refine .seq (.rg fun A hA K hK => ?_); simp (maxSteps := 1000000) only [go_sem, hA.nil, hA.go, hA.yes, hA.noT, hA.noF, hA.skp, *, hb]) | (refine .seq (.seq (.rg fun A hA K hK => ?_)); simp (maxSteps := 1000000) only [go_sem, hA.nil, hA.go, hA.yes, hA.noT, hA.noF, hA.skp, *, hb]) | (refine .rg fun A hA K hK => ?_; simp (maxSteps := 1000000) only [go_sem, hA.nil, hA.go, hA.yes, hA.noT, hA.noF, hA.skp, *, hb]) | (refine .seq (.rd fun A hA K hK => ?_); simp (maxSteps := 1000000) only [go_sem, hA.nil, hA.go, hA.yes, hA.noT, hA.noF, hA.skp, *, hb]) | (refine .seq (.seq (.rd fun A hA K hK => ?_)); simp (maxSteps := 1000000) only [go_sem, hA.nil, hA.go, hA.yes, hA.noT, hA.noF, hA.skp, *, hb]) | (refine .rd fun A hA K hK => ?_; simp (maxSteps := 1000000) only [go_sem, hA.nil, hA.go, hA.yes, hA.noT, hA.noF, hA.skp, *, hb]) | (refine .cond (t := _) (by simp (maxSteps := 1000000) only [go_sem, *, hb]; with_reducible rfl) (fun hs => ?_) (fun hs => ?_) <;> (first | (cases hs; done) | skip)) | (refine .seq (.cond (t := _) (by simp (maxSteps := 1000000) only [go_sem, *, hb]; with_reducible rfl) (fun hs => ?_) (fun hs => ?_)) <;> (first | (cases hs; done) | skip)) | refine .skip ?_ | refine .seq (.block ?_) | refine .block ?_ | refine .exit ?_ | ((exact .ret (ret1 (by simp (maxSteps := 1000000) only [go_sem, *]) rfl)); done))

/-- code.Maker.Room -/
theorem room_spec (h : Mk o σ b bL bR vs ps rs tg) (d : Int) : T Try.prog 61 [.ptr b 0 0, I d] σ (I (if 0 ≤ d ∧ d < ps.length then IntKind.i64.wrap (65536 - ((ps.getD d.toNat []).length : Nat)) else 0)) σ := by
  refine in61 (by simp) fun wf hab => ?_
  clear hab
  have hb := h.hb
  unfold c61
  first | refine .seq (.rg fun A hA K hK => ?_) | refine .seq (.seq (.rg fun A hA K hK => ?_)) | refine .rg fun A hA K hK => ?_ | refine .seq (.rd fun A hA K hK => ?_) | refine .seq (.seq (.rd fun A hA K hK => ?_)) | refine .rd fun A hA K hK => ?_
  simp (maxSteps := 1000000) only [go_sem, hA.nil, hA.go, hA.yes, hA.noT, hA.noF, hA.skp]
  refine hK _ _ ?_; clear hK K hA A
  first | refine .seq (.rg fun A hA K hK => ?_) | refine .seq (.seq (.rg fun A hA K hK => ?_)) | refine .rg fun A hA K hK => ?_ | refine .seq (.rd fun A hA K hK => ?_) | refine .seq (.seq (.rd fun A hA K hK => ?_)) | refine .rd fun A hA K hK => ?_
  simp (maxSteps := 1000000) only [go_sem, hA.nil, hA.go, hA.yes, hA.noT, hA.noF, hA.skp]
  first | refine aopq_call (there_spec (ps := ps) hb d) (by simp (maxSteps := 1000000) only [go_sem]) ?_ | refine aop_call (there_spec (ps := ps) hb d) (by simp (maxSteps := 1000000) only [go_sem]) ?_
  try simp (maxSteps := 1000000) only [go_sem, hA.nil, hA.go, hA.yes, hA.noT, hA.noF, hA.skp]
  refine hK _ _ ?_; clear hK K hA A
  by_cases hd : 0 ≤ d ∧ d < ps.length
  · refine .cond (t := false) (by simp [go_sem, hd.1, hd.2]) (fun h => by cases h) (fun _ => .skip ?_)
    have hv := h.hv
    have hL := h.hL
    obtain ⟨k, rfl⟩ := Int.eq_ofNat_of_zero_le hd.1
    have hk : k < ps.length := by omega
    have hkv : k < vs.length := by omega
    have hg : ((vs.map fun v => [v]).getD k []) = [vs.getD k .undef] := by simp [List.getD_eq_getElem?_getD, hkv]
    have e1 : (k : Int) < ps.length := by omega
    rw [if_pos hd]
    rcases h.hd k hk with ⟨h1, h2⟩ | ⟨c, h1, h2, h3⟩
    · rw [h1] at hg
      have e3 : ps.getD k [] = [] := by simpa using h2
      first | refine .seq (.rg fun A hA K hK => ?_) | refine .seq (.seq (.rg fun A hA K hK => ?_)) | refine .rg fun A hA K hK => ?_ | refine .seq (.rd fun A hA K hK => ?_) | refine .seq (.seq (.rd fun A hA K hK => ?_)) | refine .rd fun A hA K hK => ?_
      simp (maxSteps := 1000000) only [go_sem, hA.nil, hA.go, hA.yes, hA.noT, hA.noF, hA.skp, hb, hL, hg, e1, hkv]
      refine hK _ _ ?_; clear hK K hA A
      exact .ret (ret1 (by simp (maxSteps := 1000000) only [go_sem, e3]) rfl)
    · rw [h1] at hg
      first | refine .seq (.rg fun A hA K hK => ?_) | refine .seq (.seq (.rg fun A hA K hK => ?_)) | refine .rg fun A hA K hK => ?_ | refine .seq (.rd fun A hA K hK => ?_) | refine .seq (.seq (.rd fun A hA K hK => ?_)) | refine .rd fun A hA K hK => ?_
      simp (maxSteps := 1000000) only [go_sem, hA.nil, hA.go, hA.yes, hA.noT, hA.noF, hA.skp, hb, hL, hg, e1, hkv]
      refine hK _ _ ?_; clear hK K hA A
      exact .ret (ret1 (by simp (maxSteps := 1000000) only [go_sem]) rfl)
  · refine .cond (t := true) (by simp only [go_sem]; simp; omega) (fun _ => ?_) (fun h => by cases h)
    first | refine .seq (.rg fun A hA K hK => ?_) | refine .seq (.seq (.rg fun A hA K hK => ?_)) | refine .rg fun A hA K hK => ?_ | refine .seq (.rd fun A hA K hK => ?_) | refine .seq (.seq (.rd fun A hA K hK => ?_)) | refine .rd fun A hA K hK => ?_
    simp (maxSteps := 1000000) only [go_sem, hA.nil, hA.go, hA.yes, hA.noT, hA.noF, hA.skp]
    refine hK _ _ ?_; clear hK K hA A
    exact .ret (ret1 (by rw [if_neg hd]; simp (maxSteps := 1000000) only [go_sem]) rfl)

/-- code.Maker.Devices -/
theorem devices_spec (hb : σ.blk b = some (.cells 3 [[.sl bL 0 ps.length, .sl bR 0 rs.length, I tg]])) : T Try.prog 28 [.ptr b 0 0] σ (I ps.length) σ := by
  refine in28 (by simp) fun wf hab => ?_
  clear hab
  unfold c28
  first | refine .seq (.rg fun A hA K hK => ?_) | refine .seq (.seq (.rg fun A hA K hK => ?_)) | refine .rg fun A hA K hK => ?_ | refine .seq (.rd fun A hA K hK => ?_) | refine .seq (.seq (.rd fun A hA K hK => ?_)) | refine .rd fun A hA K hK => ?_
  simp (maxSteps := 1000000) only [go_sem, hA.nil, hA.go, hA.yes, hA.noT, hA.noF, hA.skp]
  refine hK _ _ ?_; clear hK K hA A
  first | refine .seq (.rg fun A hA K hK => ?_) | refine .seq (.seq (.rg fun A hA K hK => ?_)) | refine .rg fun A hA K hK => ?_ | refine .seq (.rd fun A hA K hK => ?_) | refine .seq (.seq (.rd fun A hA K hK => ?_)) | refine .rd fun A hA K hK => ?_
  simp (maxSteps := 1000000) only [go_sem, hA.nil, hA.go, hA.yes, hA.noT, hA.noF, hA.skp, hb]
  refine hK _ _ ?_; clear hK K hA A
  exact .ret (ret1 (by simp (maxSteps := 1000000) only [go_sem]) rfl)

/-- code.Maker.Tag -/
theorem tag_spec (h : Mk o σ b bL bR vs ps rs tg) (ht : 0 ≤ tg ∧ tg < 2 ^ 62) : TQ Try.prog 25 [.ptr b 0 0] σ fun v s => v = I tg ∧ Mk o s b bL bR vs ps rs (tg + 1) ∧ Grow o σ o s := by
  refine in25 (by simp) fun wf hab => ?_
  clear hab
  have hb := h.hb
  have e1 : IntKind.i64.wrap (tg + 1) = tg + 1 := IntWalk.i64_in _ (by omega)
  have e2 : IntKind.i64.wrap (tg + 1 - 1) = tg := by rw [IntWalk.i64_in _ (by omega)]; omega
  unfold c25
  first | refine .seq (.rg fun A hA K hK => ?_) | refine .seq (.seq (.rg fun A hA K hK => ?_)) | refine .rg fun A hA K hK => ?_ | refine .seq (.rd fun A hA K hK => ?_) | refine .seq (.seq (.rd fun A hA K hK => ?_)) | refine .rd fun A hA K hK => ?_
  simp (maxSteps := 1000000) only [go_sem, hA.nil, hA.go, hA.yes, hA.noT, hA.noF, hA.skp]
  refine hK _ _ ?_; clear hK K hA A
  first | refine .seq (.rg fun A hA K hK => ?_) | refine .seq (.seq (.rg fun A hA K hK => ?_)) | refine .rg fun A hA K hK => ?_ | refine .seq (.rd fun A hA K hK => ?_) | refine .seq (.seq (.rd fun A hA K hK => ?_)) | refine .rd fun A hA K hK => ?_
  simp (maxSteps := 1000000) only [go_sem, hA.nil, hA.go, hA.yes, hA.noT, hA.noF, hA.skp, hb, e1]
  refine hK _ _ ?_; clear hK K hA A
  first | refine .seq (.rg fun A hA K hK => ?_) | refine .seq (.seq (.rg fun A hA K hK => ?_)) | refine .rg fun A hA K hK => ?_ | refine .seq (.rd fun A hA K hK => ?_) | refine .seq (.seq (.rd fun A hA K hK => ?_)) | refine .rd fun A hA K hK => ?_
  simp (maxSteps := 1000000) only [go_sem, hA.nil, hA.go, hA.yes, hA.noT, hA.noF, hA.skp, hb, e2]
  refine hK _ _ ?_; clear hK K hA A
  refine .ret (retS (by simp (maxSteps := 1000000) only [go_sem]) ⟨rfl, ?_, ?_⟩)
  · have nbL := ne_lab h.ownL h.own0 (by decide)
    have nbR := ne_lab h.ownR h.own0 (by decide)
    refine ⟨h.own0, h.ownR, h.ownL, h.lt, by simp (maxSteps := 1000000) only [go_sem], by simp (maxSteps := 1000000) only [go_sem, nbL]; exact h.hL, by simp (maxSteps := 1000000) only [go_sem, nbR]; exact h.hR, h.hv, h.hr, fun d hd => ?_⟩
    rcases h.hd d hd with hh | ⟨c, h1, h2, h3⟩
    · exact .inl hh
    · have := ne_lab h2 h.own0 (by omega)
      exact .inr ⟨c, h1, h2, by simp (maxSteps := 1000000) only [go_sem, this]; exact h3⟩
  · refine ⟨Nat.le_refl _, fun _ _ => rfl, fun c hc ho => ?_⟩
    have : ¬ c = b := by rintro rfl; rw [h.own0] at ho; cases ho
    simp (maxSteps := 1000000) only [go_sem, this]

theorem regs_get {rs : List Int} {d : Nat} (h : d < rs.length) : (rs.map fun r => [I r]).getD d [] = [I (rs.getD d 0)] := by simp [List.getD_eq_getElem?_getD, h]

/-- code.Maker.Fresh -/
theorem fresh_spec (h : Mk o σ b bL bR vs ps rs tg) (d : Nat) (hd : d < ps.length) (ht : 0 ≤ rs.getD d 0 ∧ rs.getD d 0 < 2 ^ 62) :
    TQ Try.prog 23 [.ptr b 0 0, I d] σ fun v s => v = I (rs.getD d 0) ∧ Mk o s b bL bR vs ps (rs.set d (rs.getD d 0 + 1)) tg ∧ Grow o σ o s := by
  refine in23 (by simp) fun wf hab => ?_
  clear hab
  have hb := h.hb
  have hR := h.hR
  have hr := h.hr
  have hdr : d < rs.length := by omega
  have e0 : (d : Int) < ps.length := by omega
  have e0' : (d : Int) < rs.length := by omega
  have e1 : IntKind.i64.wrap (rs.getD d 0 + 1) = rs.getD d 0 + 1 := IntWalk.i64_in _ (by omega)
  have e2 : IntKind.i64.wrap (rs.getD d 0 + 1 - 1) = rs.getD d 0 := by rw [IntWalk.i64_in _ (by omega)]; omega
  have hg := regs_get hdr
  have hset : ((rs.map fun r => [I r]).set d [I (rs.getD d 0 + 1)]) = (rs.set d (rs.getD d 0 + 1)).map fun r => [I r] := by rw [List.map_set]
  have nb := ne_lab h.ownR h.own0 (by decide)
  have nb' := ne_lab h.own0 h.ownR (by decide)
  unfold c23
  first | refine .seq (.rg fun A hA K hK => ?_) | refine .seq (.seq (.rg fun A hA K hK => ?_)) | refine .rg fun A hA K hK => ?_ | refine .seq (.rd fun A hA K hK => ?_) | refine .seq (.seq (.rd fun A hA K hK => ?_)) | refine .rd fun A hA K hK => ?_
  simp (maxSteps := 1000000) only [go_sem, hA.nil, hA.go, hA.yes, hA.noT, hA.noF, hA.skp]
  refine hK _ _ ?_; clear hK K hA A
  first | refine .seq (.rg fun A hA K hK => ?_) | refine .seq (.seq (.rg fun A hA K hK => ?_)) | refine .rg fun A hA K hK => ?_ | refine .seq (.rd fun A hA K hK => ?_) | refine .seq (.seq (.rd fun A hA K hK => ?_)) | refine .rd fun A hA K hK => ?_
  simp (maxSteps := 1000000) only [go_sem, hA.nil, hA.go, hA.yes, hA.noT, hA.noF, hA.skp]
  first | refine aopq_call (there_spec (ps := ps) hb d) (by simp (maxSteps := 1000000) only [go_sem]) ?_ | refine aop_call (there_spec (ps := ps) hb d) (by simp (maxSteps := 1000000) only [go_sem]) ?_
  try simp (maxSteps := 1000000) only [go_sem, hA.nil, hA.go, hA.yes, hA.noT, hA.noF, hA.skp]
  refine hK _ _ ?_; clear hK K hA A
  refine .cond (t := false) (by simp [go_sem, e0]) (fun h => by cases h) (fun _ => .skip ?_)
  first | refine .seq (.rg fun A hA K hK => ?_) | refine .seq (.seq (.rg fun A hA K hK => ?_)) | refine .rg fun A hA K hK => ?_ | refine .seq (.rd fun A hA K hK => ?_) | refine .seq (.seq (.rd fun A hA K hK => ?_)) | refine .rd fun A hA K hK => ?_
  simp (maxSteps := 1000000) only [go_sem, hA.nil, hA.go, hA.yes, hA.noT, hA.noF, hA.skp, hb, hR, hg, e0', hdr, e1]
  refine hK _ _ ?_; clear hK K hA A
  have hg2 : ((rs.map fun r => [I r]).set d [I (rs.getD d 0 + 1)]).getD d [] = [I (rs.getD d 0 + 1)] := by simp [List.getD_eq_getElem?_getD, hdr]
  first | refine .seq (.rg fun A hA K hK => ?_) | refine .seq (.seq (.rg fun A hA K hK => ?_)) | refine .rg fun A hA K hK => ?_ | refine .seq (.rd fun A hA K hK => ?_) | refine .seq (.seq (.rd fun A hA K hK => ?_)) | refine .rd fun A hA K hK => ?_
  simp (maxSteps := 1000000) only [go_sem, hA.nil, hA.go, hA.yes, hA.noT, hA.noF, hA.skp, hb, nb, nb', e0', hdr, hg2, e2]
  refine hK _ _ ?_; clear hK K hA A
  refine .ret (retS (by simp (maxSteps := 1000000) only [go_sem]) ⟨rfl, ?_, ?_⟩)
  · have nbL := ne_lab h.ownL h.ownR (by decide)
    refine ⟨h.own0, h.ownR, h.ownL, h.lt, by simp (maxSteps := 1000000) only [go_sem, nb']; exact hb, by simp (maxSteps := 1000000) only [go_sem, nbL]; exact h.hL, by simp (maxSteps := 1000000) only [go_sem]; exact congrArg _ (congrArg _ hset), h.hv, by simp [hr], fun k hk => ?_⟩
    rcases h.hd k hk with hh | ⟨c, h1, h2, h3⟩
    · exact .inl hh
    · have := ne_lab h2 h.ownR (by omega)
      exact .inr ⟨c, h1, h2, by simp (maxSteps := 1000000) only [go_sem, this]; exact h3⟩
  · refine ⟨Nat.le_refl _, fun _ _ => rfl, fun c hc ho => ?_⟩
    have : ¬ c = bR := by rintro rfl; rw [h.ownR] at ho; cases ho
    simp (maxSteps := 1000000) only [go_sem, this]

/-- There is no such device. -/
theorem fresh_bad (hb : σ.blk b = some (.cells 3 [[.sl bL 0 ps.length, .sl bR 0 rs.length, I tg]])) (d : Int) (hd : ¬ (0 ≤ d ∧ d < ps.length)) : T Try.prog 23 [.ptr b 0 0, I d] σ (I (-1)) σ := by
  refine in23 (by simp) fun wf hab => ?_
  clear hab
  unfold c23
  first | refine .seq (.rg fun A hA K hK => ?_) | refine .seq (.seq (.rg fun A hA K hK => ?_)) | refine .rg fun A hA K hK => ?_ | refine .seq (.rd fun A hA K hK => ?_) | refine .seq (.seq (.rd fun A hA K hK => ?_)) | refine .rd fun A hA K hK => ?_
  simp (maxSteps := 1000000) only [go_sem, hA.nil, hA.go, hA.yes, hA.noT, hA.noF, hA.skp]
  refine hK _ _ ?_; clear hK K hA A
  first | refine .seq (.rg fun A hA K hK => ?_) | refine .seq (.seq (.rg fun A hA K hK => ?_)) | refine .rg fun A hA K hK => ?_ | refine .seq (.rd fun A hA K hK => ?_) | refine .seq (.seq (.rd fun A hA K hK => ?_)) | refine .rd fun A hA K hK => ?_
  simp (maxSteps := 1000000) only [go_sem, hA.nil, hA.go, hA.yes, hA.noT, hA.noF, hA.skp]
  first | refine aopq_call (there_spec (ps := ps) hb d) (by simp (maxSteps := 1000000) only [go_sem]) ?_ | refine aop_call (there_spec (ps := ps) hb d) (by simp (maxSteps := 1000000) only [go_sem]) ?_
  try simp (maxSteps := 1000000) only [go_sem, hA.nil, hA.go, hA.yes, hA.noT, hA.noF, hA.skp]
  refine hK _ _ ?_; clear hK K hA A
  refine .cond (t := true) (by simp only [go_sem]; simp; omega) (fun _ => ?_) (fun h => by cases h)
  first | refine .seq (.rg fun A hA K hK => ?_) | refine .seq (.seq (.rg fun A hA K hK => ?_)) | refine .rg fun A hA K hK => ?_ | refine .seq (.rd fun A hA K hK => ?_) | refine .seq (.seq (.rd fun A hA K hK => ?_)) | refine .rd fun A hA K hK => ?_
  simp (maxSteps := 1000000) only [go_sem, hA.nil, hA.go, hA.yes, hA.noT, hA.noF, hA.skp]
  refine hK _ _ ?_; clear hK K hA A
  exact .ret (ret1 (by simp (maxSteps := 1000000) only [go_sem]) rfl)

/-- code.New -/
theorem new_spec (n : Int) (h1 : 1 ≤ n) (h8 : n ≤ 8) (σ : St) : TQ Try.prog 22 [I n] σ fun v s => ∃ o bb bL bR vs, v = .ptr bb 0 0 ∧ Mk o s bb bL bR vs (List.replicate n.toNat []) (List.replicate n.toNat 0) 0 ∧ σ.next ≤ s.next ∧ (∀ c, o c ≠ none → σ.next ≤ c) ∧ ∀ c, c < σ.next → s.blk c = σ.blk c := by
  refine in22 (by simp) fun wf hab => ?_
  clear hab
  obtain ⟨k, rfl⟩ := Int.eq_ofNat_of_zero_le (show 0 ≤ n by omega)
  have e1 : ¬ ((k : Int) < 1) := by omega
  have e2 : ¬ (8 < (k : Int)) := by omega
  have hm : (k : Int) ≤ most := by simp only [most]; omega
  have hm1 : (k : Int) * 24 ≤ most := by simp only [most]; omega
  have hm2 : (k : Int) * 8 ≤ most := by simp only [most]; omega
  have key : ∀ (s : St) (bL bR bb : Nat), σ.next ≤ bL → σ.next ≤ bR → σ.next ≤ bb → bL ≠ bR → bL ≠ bb → bR ≠ bb → bL < s.next → bR < s.next → bb < s.next → s.blk bb = some (.cells 3 [[.sl bL 0 k, .sl bR 0 k, I 0]]) →
      s.blk bL = some (.cells 1 (List.replicate k [.nils])) → s.blk bR = some (.cells 1 (List.replicate k [I 0])) →
      ∃ o vs, Mk o s bb bL bR vs (List.replicate k []) (List.replicate k 0) 0 ∧ ∀ c, o c ≠ none → σ.next ≤ c := by
    intro s bL bR bb q1 q2 q3 n1 n2 n3 l1 l2 l3 x1 x2 x3
    refine ⟨fun c => if c = bb then some 0 else if c = bR then some 1 else if c = bL then some 2 else none, List.replicate k .nils, ⟨by simp, by simp [n3], by simp [n1, n2], fun c hc => ?_, by simpa using x1, by simpa using x2, by simpa using x3, by simp, by simp, fun d hd => ?_⟩, fun c hc => ?_⟩
    · by_cases w1 : c = bb; · omega
      by_cases w2 : c = bR; · omega
      by_cases w3 : c = bL; · omega
      simp [w1, w2, w3] at hc
    · exact .inl ⟨by simp at hd; simp [List.getD_eq_getElem?_getD, hd], by simp at hd; simp [List.getD_eq_getElem?_getD, hd]⟩
    · by_cases w1 : c = bb; · omega
      by_cases w2 : c = bR; · omega
      by_cases w3 : c = bL; · omega
      simp [w1, w2, w3] at hc
  unfold c22
  first | refine .seq (.rg fun A hA K hK => ?_) | refine .seq (.seq (.rg fun A hA K hK => ?_)) | refine .rg fun A hA K hK => ?_ | refine .seq (.rd fun A hA K hK => ?_) | refine .seq (.seq (.rd fun A hA K hK => ?_)) | refine .rd fun A hA K hK => ?_
  simp (maxSteps := 1000000) only [go_sem, hA.nil, hA.go, hA.yes, hA.noT, hA.noF, hA.skp]
  refine hK _ _ ?_; clear hK K hA A
  first | refine .seq (.rg fun A hA K hK => ?_) | refine .seq (.seq (.rg fun A hA K hK => ?_)) | refine .rg fun A hA K hK => ?_ | refine .seq (.rd fun A hA K hK => ?_) | refine .seq (.seq (.rd fun A hA K hK => ?_)) | refine .rd fun A hA K hK => ?_
  simp (maxSteps := 1000000) only [go_sem, hA.nil, hA.go, hA.yes, hA.noT, hA.noF, hA.skp, e1, e2]
  refine hK _ _ ?_; clear hK K hA A
  refine .cond (t := false) (by simp (maxSteps := 1000000) only [go_sem, e1, e2]) (fun h => by cases h) (fun _ => .skip ?_)
  refine .seq (.rdx2 (fun A hA K hK => ?_) (fun A hA K hK => ?_))
  · simp (maxSteps := 200000) only [go_sem, hA.nil, hA.pur, hA.go, hA.yes, hA.noT, hA.noF, hA.skp, pure_mv, eff_mv, pure_pk, eff_pk, pure_al, eff_al, pure_bx, eff_bx, pure_bd, eff_bd, pure_bs, eff_bs, pure_ld, eff_ld, pure_st, eff_st, pure_nc, eff_nc, pure_bin, eff_bin, pure_un, eff_un, pure_cv, eff_cv, pure_mi, eff_mi, pure_mf, eff_mf, pure_mm, eff_mm, pure_ms, eff_ms, pure_sc, eff_sc, pure_fa, eff_fa, pure_fl, eff_fl, pure_ia, eff_ia, pure_lk, eff_lk, pure_mu, eff_mu, pure_lm, eff_lm, pure_rg, eff_rg, pure_nx, eff_nx, pure_en, eff_en, pure_ta, eff_ta, pure_ex, eff_ex, pure_ln, eff_ln, pure_ap, eff_ap, pure_mx, eff_mx, pure_call, eff_call, pure_callv, eff_callv, chk_nil, chk_cons, again, List.contains_cons, List.contains_nil, hm, hm1, hm2]
    refine hK _ _ ?_; clear hK K hA A
    obtain ⟨o, vs, hk, ho⟩ := key (((σ.push (Blk.cells 1 (List.replicate k [.nils]))).push (Blk.cells 1 (List.replicate k [I 0]))).push (Blk.cells 3 [[.sl σ.next 0 k, .sl (σ.next + 1) 0 k, I 0]])) σ.next (σ.next + 1) (σ.next + 2)
      (by omega) (by omega) (by omega) (by omega) (by omega) (by omega) (by simp (maxSteps := 1000000) only [go_sem]; try omega) (by simp (maxSteps := 1000000) only [go_sem]; try omega) (by simp (maxSteps := 1000000) only [go_sem]; try omega) (by simp (maxSteps := 1000000) only [go_sem]) (by simp (maxSteps := 1000000) only [go_sem]) (by simp (maxSteps := 1000000) only [go_sem])
    refine .ret (retS (by simp (maxSteps := 1000000) only [go_sem]) ⟨o, _, _, _, vs, rfl, hk, by simp (maxSteps := 1000000) only [go_sem]; try omega, ho, fun c hc => ?_⟩)
    simp (disch := omega) only [go_sem, if_neg]
  · simp (maxSteps := 200000) only [go_sem, hA.nil, hA.pur, hA.go, hA.yes, hA.noT, hA.noF, hA.skp, pure_mv, eff_mv, pure_pk, eff_pk, pure_al, eff_al, pure_bx, eff_bx, pure_bd, eff_bd, pure_bs, eff_bs, pure_ld, eff_ld, pure_st, eff_st, pure_nc, eff_nc, pure_bin, eff_bin, pure_un, eff_un, pure_cv, eff_cv, pure_mi, eff_mi, pure_mf, eff_mf, pure_mm, eff_mm, pure_ms, eff_ms, pure_sc, eff_sc, pure_fa, eff_fa, pure_fl, eff_fl, pure_ia, eff_ia, pure_lk, eff_lk, pure_mu, eff_mu, pure_lm, eff_lm, pure_rg, eff_rg, pure_nx, eff_nx, pure_en, eff_en, pure_ta, eff_ta, pure_ex, eff_ex, pure_ln, eff_ln, pure_ap, eff_ap, pure_mx, eff_mx, pure_call, eff_call, pure_callv, eff_callv, chk_nil, chk_cons, again, List.contains_cons, List.contains_nil, hm, hm1, hm2]
    refine hK _ _ ?_; clear hK K hA A
    obtain ⟨o, vs, hk, ho⟩ := key (((σ.push (Blk.cells 1 (List.replicate k [I 0]))).push (Blk.cells 1 (List.replicate k [.nils]))).push (Blk.cells 3 [[.sl (σ.next + 1) 0 k, .sl σ.next 0 k, I 0]])) (σ.next + 1) σ.next (σ.next + 2)
      (by omega) (by omega) (by omega) (by omega) (by omega) (by omega) (by simp (maxSteps := 1000000) only [go_sem]; try omega) (by simp (maxSteps := 1000000) only [go_sem]; try omega) (by simp (maxSteps := 1000000) only [go_sem]; try omega) (by simp (maxSteps := 1000000) only [go_sem]) (by simp (maxSteps := 1000000) only [go_sem]) (by simp (maxSteps := 1000000) only [go_sem])
    refine .ret (retS (by simp (maxSteps := 1000000) only [go_sem]) ⟨o, _, _, _, vs, rfl, hk, by simp (maxSteps := 1000000) only [go_sem]; try omega, ho, fun c hc => ?_⟩)
    simp (disch := omega) only [go_sem, if_neg]

end mk
end Go.Proofs.Ytfjbabacpnnjmaa.Av

namespace Go.Proofs.Ytfjbabacpnnjmaa.Av
open Go Go.Av
set_option maxRecDepth 20000
set_option maxHeartbeats 4000000

attribute [local go_sem] step_apply stepD_apply stepE_apply
attribute [local go_sem] aopq_mv aopq_pk aopq_al aopq_bx aopq_bd aopq_bs aopq_ld aopq_st aopq_nc aopq_bin aopq_un aopq_cv aopq_mi aopq_mf aopq_mm aopq_ms aopq_sc aopq_fa aopq_fl aopq_ia aopq_lk aopq_mu aopq_lm aopq_rg aopq_en aopq_ta aopq_ex aopq_ln aopq_ap aopq_mx aopq.eq_3 aop.eq_1 aop.eq_2 aop.eq_3 aop.eq_4 aop.eq_5 aop.eq_6 aop.eq_7 aop.eq_8 aop.eq_9 aop_bin atS_apply aop_un_not aop_un_neg aop.eq_14 aop.eq_15 aop.eq_16 aop.eq_17 aop.eq_18 aop_sc cutS_apply cutN_apply cutL_apply cutO_apply aop.eq_20 aop.eq_21 aop.eq_22 aop.eq_23 aop.eq_24 aop.eq_25 aop.eq_26 aop.eq_27 aop.eq_28 aop.eq_29 aop.eq_30 aop.eq_31 aop.eq_32 blk_push next_push blk_set next_set blk_kill next_kill frL_nil frL_cons Fits_nil Fits_cons Int.reduceBEq Int.reduceBNe Nat.sub_zero Option.map_some Option.map_none List.set_cons_succ true_or or_true false_or or_false Int.le_refl Int.cast_ofNat_Int decide_true decide_false List.cons_append fillA fillR rowsOf List.replicate_succ List.replicate_zero Nat.zero_mul getD_drop List.length_drop splice List.nil_append List.append_nil cond_true cond_false List.set_cons_zero List.length_set ev put_some put_none upd_apply abin asNat bounds row1 mk List.length_cons List.length_nil List.length_map List.drop_zero List.drop_succ_cons List.drop_nil List.getD_cons_zero List.getD_cons_succ Option.getD_none Option.getD_some List.take_succ_cons List.take_zero List.take_nil true_and and_true Int.toNat_natCast if_true if_false Nat.zero_add Nat.add_zero List.map_cons List.map_nil Nat.reduceEqDiff Nat.left_eq_add Nat.add_eq_left Nat.add_left_cancel_iff Nat.add_assoc Nat.reduceSub Nat.reduceAdd Nat.reduceLeDiff Nat.le_refl Nat.zero_le Nat.zero_lt_one Nat.lt_add_one Int.reduceLT Int.reduceLE Int.reduceToNat Nat.reduceLT Nat.reduceBEq Bool.false_eq_true Nat.reduceBNe ne_eq not_false_eq_true not_true_eq_false false_and and_false reduceIte Int.natCast_nonneg reduceCtorEq parts_agg parts_bool parts_int parts_str parts_lit parts_nils parts_sl parts_ptr Int.natCast_nonneg Int.natCast_nonneg beq_self_eq_true bne_self_eq_false Bool.true_and Bool.false_and Bool.and_true Bool.and_false Bool.true_or Bool.false_or Bool.or_true Bool.or_false Bool.not_true Bool.not_false
attribute [local go_sem] instr0 instr1 instr2 instr10 instr11 instr12 instrN instrA instr_len node0 node1 node2 node3 node4 node5 node6 nodeA node_len I ints progA progsA

section mk
variable {o : Nat → Option Nat} {σ : St} {b bL bR : Nat} {vs : List AV} {ps : List (List Instr)} {rs : List Int} {tg : Int}

theorem vs_get {vs : List AV} {d : Nat} (h : d < vs.length) : (vs.map fun v => [v]).getD d [] = [vs.getD d .undef] := by simp [List.getD_eq_getElem?_getD, h]

/-- A program has grown: its block is a new one. -/
theorem Mk.grow (h : Mk o σ b bL bR vs ps rs tg) {d c' : Nat} (hd : d < ps.length) (p' : List Instr) {s : St} (hc : σ.next ≤ c') (hcs : c' < s.next) (hn : σ.next ≤ s.next)
    (hs : ∀ c, c < σ.next → o c ≠ some (3 + d) → c ≠ bL → s.blk c = σ.blk c) (hL : s.blk bL = some (.cells 1 ((vs.map fun v => [v]).set d [.sl c' 0 p'.length]))) (hc' : s.blk c' = some (.cells 13 (p'.map instrL))) :
    ∃ o' vs', Mk o' s b bL bR vs' (ps.set d p') rs tg ∧ Grow o σ o' s := by
  have lt : ∀ {c x}, o c = some x → c < σ.next := fun hx => h.lt _ (by rw [hx]; simp)
  have nc : ∀ c, c < σ.next → ¬ c = c' := fun c hc2 => by omega
  refine ⟨fun c => if c = c' then some (3 + d) else o c, vs.set d (.sl c' 0 p'.length), ⟨?_, ?_, ?_, fun c hcc => ?_, ?_, ?_, ?_, by simp [h.hv], by simp [h.hr], fun k hk => ?_⟩, hn, fun c hc2 => if_neg (nc c hc2), fun c hc2 ho => ?_⟩
  · rw [if_neg (nc _ (lt h.own0))]; exact h.own0
  · rw [if_neg (nc _ (lt h.ownR))]; exact h.ownR
  · rw [if_neg (nc _ (lt h.ownL))]; exact h.ownL
  · have hcc : (if c = c' then some (3 + d) else o c) ≠ none := hcc
    by_cases hx : c = c'
    · omega
    · rw [if_neg hx] at hcc; exact Nat.lt_of_lt_of_le (h.lt c hcc) hn
  · rw [hs b (lt h.own0) (by rw [h.own0]; simp; omega) (ne_lab h.own0 h.ownL (by decide)), List.length_set]; exact h.hb
  · rw [hL, List.map_set]
  · rw [hs bR (lt h.ownR) (by rw [h.ownR]; simp; omega) (ne_lab h.ownR h.ownL (by decide))]; exact h.hR
  · have hk' : k < ps.length := by simpa using hk
    by_cases hkd : k = d
    · subst hkd
      refine .inr ⟨c', ?_, if_pos rfl, ?_⟩
      · have : k < vs.length := by rw [h.hv]; exact hd
        simp [List.getD_eq_getElem?_getD, this, hd]
      · simpa [List.getD_eq_getElem?_getD, hd] using hc'
    · have e1 : (vs.set d (.sl c' 0 p'.length)).getD k .undef = vs.getD k .undef := by
        rw [List.getD_eq_getElem?_getD, List.getElem?_set, if_neg (by omega), ← List.getD_eq_getElem?_getD]
      have e2 : (ps.set d p').getD k [] = ps.getD k [] := by
        rw [List.getD_eq_getElem?_getD, List.getElem?_set, if_neg (by omega), ← List.getD_eq_getElem?_getD]
      rw [e1, e2]
      rcases h.hd k hk' with hh | ⟨c, h1, h2, h3⟩
      · exact .inl hh
      · refine .inr ⟨c, h1, (if_neg (nc _ (lt h2))).trans h2, ?_⟩
        rw [hs c (lt h2) (by rw [h2]; simp; omega) (ne_lab h2 h.ownL (by omega))]; exact h3
  · exact hs c hc2 (by rw [ho]; simp) (by rintro rfl; rw [h.ownL] at ho; cases ho)

/-- code.Maker.Put, where there is room -/
theorem put_spec (h : Mk o σ b bL bR vs ps rs tg) (d : Nat) (hd : d < ps.length) (hlen : (ps.getD d []).length < 65536) (i : Instr) (hi : i.Sm) :
    TQ Try.prog 24 [.ptr b 0 0, I d, .agg (instrL i)] σ fun v s => v = I 0 ∧ ∃ o' vs', Mk o' s b bL bR vs' (ps.set d (ps.getD d [] ++ [i])) rs tg ∧ Grow o σ o' s := by
  refine in24 (by simp) fun wf hab => ?_
  clear hab
  have hlt := h.lt
  have e0 : (d : Int) < ps.length := by omega
  have hdv : d < vs.length := by rw [h.hv]; exact hd
  have nx : ∀ c, c < σ.next → ¬ c = σ.next := fun c hc => by omega
  unfold c24
  first | refine .seq (.rg fun A hA K hK => ?_) | refine .seq (.seq (.rg fun A hA K hK => ?_)) | refine .rg fun A hA K hK => ?_ | refine .seq (.rd fun A hA K hK => ?_) | refine .seq (.seq (.rd fun A hA K hK => ?_)) | refine .rd fun A hA K hK => ?_
  simp (maxSteps := 1000000) only [go_sem, hA.nil, hA.go, hA.yes, hA.noT, hA.noF, hA.skp]
  refine hK _ _ ?_; clear hK K hA A
  have h1 : Mk o (σ.push (.cells 13 [instrL i])) b bL bR vs ps rs tg := h.frame (by simp (maxSteps := 1000000) only [go_sem]; omega) fun c hc => by
    have := nx c (hlt c hc); simp only [blk_push, if_neg this]
  generalize hS : σ.push (.cells 13 [instrL i]) = s1 at *
  have hbx : s1.blk σ.next = some (.cells 13 [instrL i]) := by subst hS; simp (maxSteps := 1000000) only [go_sem]
  have hns : s1.next = σ.next + 1 := by subst hS; simp (maxSteps := 1000000) only [go_sem]
  have hfr : ∀ c, c < σ.next → s1.blk c = σ.blk c := fun c hc => by subst hS; have := nx c hc; simp only [blk_push, if_neg this]
  clear hS h
  have hb := h1.hb
  have hL := h1.hL
  have hg := vs_get hdv
  refine .midK (fun L s => L = [(0, .ptr b 0 0), (1, I d), (5, .ptr σ.next 0 0)] ∧ s = s1) (.block ?_) ?_
  · first | refine .seq (.rg fun A hA K hK => ?_) | refine .seq (.seq (.rg fun A hA K hK => ?_)) | refine .rg fun A hA K hK => ?_ | refine .seq (.rd fun A hA K hK => ?_) | refine .seq (.seq (.rd fun A hA K hK => ?_)) | refine .rd fun A hA K hK => ?_
    simp (maxSteps := 1000000) only [go_sem, hA.nil, hA.go, hA.yes, hA.noT, hA.noF, hA.skp]
    first | refine aopq_call (there_spec (ps := ps) hb d) (by simp (maxSteps := 1000000) only [go_sem]) ?_ | refine aop_call (there_spec (ps := ps) hb d) (by simp (maxSteps := 1000000) only [go_sem]) ?_
    try simp (maxSteps := 1000000) only [go_sem, hA.nil, hA.go, hA.yes, hA.noT, hA.noF, hA.skp]
    refine hK _ _ ?_; clear hK K hA A
    refine .cond (t := false) (by simp [go_sem, e0]) (fun h => by cases h) (fun _ => ?_)
    first | refine .seq (.rg fun A hA K hK => ?_) | refine .seq (.seq (.rg fun A hA K hK => ?_)) | refine .rg fun A hA K hK => ?_ | refine .seq (.rd fun A hA K hK => ?_) | refine .seq (.seq (.rd fun A hA K hK => ?_)) | refine .rd fun A hA K hK => ?_
    simp (maxSteps := 1000000) only [go_sem, hA.nil, hA.go, hA.yes, hA.noT, hA.noF, hA.skp]
    have e5 : (ps.getD d []).length < 65536 := hlen
    have e3 : (if 0 ≤ (d : Int) ∧ (d : Int) < ps.length then IntKind.i64.wrap (65536 - ((ps.getD (d : Int).toNat []).length : Nat)) else 0) = (65536 - ((ps.getD d []).length : Nat) : Int) := by
      rw [if_pos ⟨by omega, e0⟩, Int.toNat_natCast, IntWalk.i64_in _ (by omega)]
    have e4 : ¬ ((65536 - ((ps.getD d []).length : Nat) : Int) < 1) := by omega
    refine aopq_call ((room_spec h1 d).to (congrArg I e3) rfl) (by simp (maxSteps := 1000000) only [go_sem]) ?_
    try simp (maxSteps := 1000000) only [go_sem, hA.nil, hA.go, hA.yes, hA.noT, hA.noF, hA.skp]
    refine hK _ _ ?_; clear hK K hA A
    refine .cond (t := false) (by simp (maxSteps := 1000000) only [go_sem, e4]) (fun h => by cases h) (fun _ => .skip ?_)
    exact ⟨_, ⟨rfl, rfl⟩, by simp (maxSteps := 1000000) only [go_sem]⟩
  rintro L s ⟨rfl, rfl⟩
  have nLb := ne_lab h1.ownL h1.own0 (by decide)
  have nbL := ne_lab h1.own0 h1.ownL (by decide)
  have lts : ∀ {c x}, o c = some x → c < s.next := fun hx => h1.lt _ (by rw [hx]; simp)
  have ltb := lts h1.own0
  have ltL := lts h1.ownL
  have nsb : ¬ b = s.next := by omega
  have nsL : ¬ bL = s.next := by omega
  have n5 : ¬ σ.next = s.next := by omega
  have fin : ∀ (s2 : St) (c' : Nat), s.next ≤ c' → c' < s2.next → s.next ≤ s2.next → (∀ c, c < s.next → o c ≠ some (3 + d) → c ≠ bL → s2.blk c = s.blk c) →
      s2.blk bL = some (.cells 1 ((vs.map fun v => [v]).set d [.sl c' 0 (ps.getD d [] ++ [i]).length])) → s2.blk c' = some (.cells 13 ((ps.getD d [] ++ [i]).map instrL)) →
      ∃ o' vs', Mk o' s2 b bL bR vs' (ps.set d (ps.getD d [] ++ [i])) rs tg ∧ Grow o σ o' s2 := by
    intro s2 c' q1 q2 q3 q4 q5 q6
    obtain ⟨o', vs', g1, g2⟩ := h1.grow hd _ q1 q2 q3 q4 q5 q6
    refine ⟨o', vs', g1, ?_⟩
    refine Grow.trans (o' := o) (s := s) ⟨by omega, fun _ _ => rfl, fun c hc _ => hfr c hc⟩ g2
  rcases h1.hd d hd with ⟨q1, q2⟩ | ⟨c, q1, q2, q3⟩
  · rw [q1] at hg
    have e3 : ps.getD d [] = [] := by simpa using q2
    refine .seq (.rdx fun A hA K hK => ?_)
    simp (maxSteps := 200000) only [go_sem, hA.nil, hA.pur, hA.go, hA.yes, hA.noT, hA.noF, hA.skp, pure_mv, eff_mv, pure_pk, eff_pk, pure_al, eff_al, pure_bx, eff_bx, pure_bd, eff_bd, pure_bs, eff_bs, pure_ld, eff_ld, pure_st, eff_st, pure_nc, eff_nc, pure_bin, eff_bin, pure_un, eff_un, pure_cv, eff_cv, pure_mi, eff_mi, pure_mf, eff_mf, pure_mm, eff_mm, pure_ms, eff_ms, pure_sc, eff_sc, pure_fa, eff_fa, pure_fl, eff_fl, pure_ia, eff_ia, pure_lk, eff_lk, pure_mu, eff_mu, pure_lm, eff_lm, pure_rg, eff_rg, pure_nx, eff_nx, pure_en, eff_en, pure_ta, eff_ta, pure_ex, eff_ex, pure_ln, eff_ln, pure_ap, eff_ap, pure_mx, eff_mx, pure_call, eff_call, pure_callv, eff_callv, chk_nil, chk_cons, again, List.contains_cons, List.contains_nil, hb, hL, hg, hbx, e0, hdv, nsb, nsL, n5]
    refine aop_call (own_spec i hi _) (by simp (maxSteps := 1000000) only [go_sem]) ?_
    simp (maxSteps := 200000) only [go_sem, hA.nil, hA.pur, hA.go, hA.yes, hA.noT, hA.noF, hA.skp, pure_mv, eff_mv, pure_pk, eff_pk, pure_al, eff_al, pure_bx, eff_bx, pure_bd, eff_bd, pure_bs, eff_bs, pure_ld, eff_ld, pure_st, eff_st, pure_nc, eff_nc, pure_bin, eff_bin, pure_un, eff_un, pure_cv, eff_cv, pure_mi, eff_mi, pure_mf, eff_mf, pure_mm, eff_mm, pure_ms, eff_ms, pure_sc, eff_sc, pure_fa, eff_fa, pure_fl, eff_fl, pure_ia, eff_ia, pure_lk, eff_lk, pure_mu, eff_mu, pure_lm, eff_lm, pure_rg, eff_rg, pure_nx, eff_nx, pure_en, eff_en, pure_ta, eff_ta, pure_ex, eff_ex, pure_ln, eff_ln, pure_ap, eff_ap, pure_mx, eff_mx, pure_call, eff_call, pure_callv, eff_callv, chk_nil, chk_cons, again, List.contains_cons, List.contains_nil, hb, hL, hg, hbx, e0, hdv, nsb, nsL, n5]
    refine ⟨by decide, by decide, ?_⟩
    refine hK _ _ ?_; clear hK K hA A
    first | refine .seq (.rg fun A hA K hK => ?_) | refine .seq (.seq (.rg fun A hA K hK => ?_)) | refine .rg fun A hA K hK => ?_ | refine .seq (.rd fun A hA K hK => ?_) | refine .seq (.seq (.rd fun A hA K hK => ?_)) | refine .rd fun A hA K hK => ?_
    simp (maxSteps := 1000000) only [go_sem, hA.nil, hA.go, hA.yes, hA.noT, hA.noF, hA.skp]
    refine hK _ _ ?_; clear hK K hA A
    refine .ret (retS (by simp (maxSteps := 1000000) only [go_sem]) ⟨rfl, fin _ s.next (Nat.le_refl _) (by simp (maxSteps := 1000000) only [go_sem]) (by simp (maxSteps := 1000000) only [go_sem]; try omega) (fun c hc ho hcL => ?_) ?_ ?_⟩)
    · simp (disch := omega) only [go_sem, if_neg]
    · simp (maxSteps := 1000000) only [go_sem, e3]
    · have nsL2 : ¬ s.next = bL := fun e => nsL e.symm
      simp (maxSteps := 1000000) only [go_sem, e3, nsL2]
  · rw [q1] at hg
    have hlen' : (ps.getD d []).length < 65536 := hlen
    have ltc := lts q2
    have ncb := ne_lab q2 h1.own0 (by omega)
    have ncL := ne_lab q2 h1.ownL (by omega)
    have ncs : ¬ c = s.next := by omega
    have nLc : ¬ bL = c := fun e => ncL e.symm
    have nbc : ¬ b = c := fun e => ncb e.symm
    have nsL2 : ¬ s.next = bL := fun e => nsL e.symm
    have nsc2 : ¬ s.next = c := fun e => ncs e.symm
    have m1 : (ps.getD d []).length + 1 ≤ most := by simp only [most]; omega
    have m2 : ((ps.getD d []).length + 1) * 176 ≤ most := by simp only [most]; omega
    have ht : List.take (ps.getD d []).length (List.map instrL (ps.getD d [])) = List.map instrL (ps.getD d []) := List.take_of_length_le (by simp)
    refine .seq (.rdx fun A hA K hK => ?_)
    simp (maxSteps := 200000) only [go_sem, hA.nil, hA.pur, hA.go, hA.yes, hA.noT, hA.noF, hA.skp, pure_mv, eff_mv, pure_pk, eff_pk, pure_al, eff_al, pure_bx, eff_bx, pure_bd, eff_bd, pure_bs, eff_bs, pure_ld, eff_ld, pure_st, eff_st, pure_nc, eff_nc, pure_bin, eff_bin, pure_un, eff_un, pure_cv, eff_cv, pure_mi, eff_mi, pure_mf, eff_mf, pure_mm, eff_mm, pure_ms, eff_ms, pure_sc, eff_sc, pure_fa, eff_fa, pure_fl, eff_fl, pure_ia, eff_ia, pure_lk, eff_lk, pure_mu, eff_mu, pure_lm, eff_lm, pure_rg, eff_rg, pure_nx, eff_nx, pure_en, eff_en, pure_ta, eff_ta, pure_ex, eff_ex, pure_ln, eff_ln, pure_ap, eff_ap, pure_mx, eff_mx, pure_call, eff_call, pure_callv, eff_callv, chk_nil, chk_cons, again, List.contains_cons, List.contains_nil, hb, hL, hg, hbx, e0, hdv, nsb, nsL, n5, q3, m1, m2, ht, nLc, nbc]
    refine aop_call (own_spec i hi _) (by simp (maxSteps := 1000000) only [go_sem]) ?_
    simp (maxSteps := 200000) only [go_sem, hA.nil, hA.pur, hA.go, hA.yes, hA.noT, hA.noF, hA.skp, pure_mv, eff_mv, pure_pk, eff_pk, pure_al, eff_al, pure_bx, eff_bx, pure_bd, eff_bd, pure_bs, eff_bs, pure_ld, eff_ld, pure_st, eff_st, pure_nc, eff_nc, pure_bin, eff_bin, pure_un, eff_un, pure_cv, eff_cv, pure_mi, eff_mi, pure_mf, eff_mf, pure_mm, eff_mm, pure_ms, eff_ms, pure_sc, eff_sc, pure_fa, eff_fa, pure_fl, eff_fl, pure_ia, eff_ia, pure_lk, eff_lk, pure_mu, eff_mu, pure_lm, eff_lm, pure_rg, eff_rg, pure_nx, eff_nx, pure_en, eff_en, pure_ta, eff_ta, pure_ex, eff_ex, pure_ln, eff_ln, pure_ap, eff_ap, pure_mx, eff_mx, pure_call, eff_call, pure_callv, eff_callv, chk_nil, chk_cons, again, List.contains_cons, List.contains_nil, hb, hL, hg, hbx, e0, hdv, nsb, nsL, n5, q3, m1, m2, ht, nLc, nbc]
    refine hK _ _ ?_; clear hK K hA A
    first | refine .seq (.rg fun A hA K hK => ?_) | refine .seq (.seq (.rg fun A hA K hK => ?_)) | refine .rg fun A hA K hK => ?_ | refine .seq (.rd fun A hA K hK => ?_) | refine .seq (.seq (.rd fun A hA K hK => ?_)) | refine .rd fun A hA K hK => ?_
    simp (maxSteps := 1000000) only [go_sem, hA.nil, hA.go, hA.yes, hA.noT, hA.noF, hA.skp]
    refine hK _ _ ?_; clear hK K hA A
    refine .ret (retS (by simp (maxSteps := 1000000) only [go_sem]) ⟨rfl, fin _ s.next (Nat.le_refl _) (by simp (maxSteps := 1000000) only [go_sem]) (by simp (maxSteps := 1000000) only [go_sem]; try omega) (fun c2 hc ho hcL => ?_) ?_ ?_⟩)
    · have : ¬ c2 = c := by rintro rfl; exact ho q2
      simp (disch := omega) only [go_sem, if_neg, this]
    · simp (maxSteps := 1000000) only [go_sem, List.length_append]
    · simp (maxSteps := 1000000) only [go_sem, nsL2, nsc2, List.map_append]

end mk
end Go.Proofs.Ytfjbabacpnnjmaa.Av

namespace Go.Proofs.Ytfjbabacpnnjmaa.Av
open Go Go.Av
set_option maxRecDepth 20000
set_option maxHeartbeats 4000000

attribute [local go_sem] step_apply stepD_apply stepE_apply
attribute [local go_sem] aopq_mv aopq_pk aopq_al aopq_bx aopq_bd aopq_bs aopq_ld aopq_st aopq_nc aopq_bin aopq_un aopq_cv aopq_mi aopq_mf aopq_mm aopq_ms aopq_sc aopq_fa aopq_fl aopq_ia aopq_lk aopq_mu aopq_lm aopq_rg aopq_en aopq_ta aopq_ex aopq_ln aopq_ap aopq_mx aopq.eq_3 aop.eq_1 aop.eq_2 aop.eq_3 aop.eq_4 aop.eq_5 aop.eq_6 aop.eq_7 aop.eq_8 aop.eq_9 aop_bin atS_apply aop_un_not aop_un_neg aop.eq_14 aop.eq_15 aop.eq_16 aop.eq_17 aop.eq_18 aop_sc cutS_apply cutN_apply cutL_apply cutO_apply aop.eq_20 aop.eq_21 aop.eq_22 aop.eq_23 aop.eq_24 aop.eq_25 aop.eq_26 aop.eq_27 aop.eq_28 aop.eq_29 aop.eq_30 aop.eq_31 aop.eq_32 blk_push next_push blk_set next_set blk_kill next_kill frL_nil frL_cons Fits_nil Fits_cons Int.reduceBEq Int.reduceBNe Nat.sub_zero Option.map_some Option.map_none List.set_cons_succ true_or or_true false_or or_false Int.le_refl Int.cast_ofNat_Int decide_true decide_false List.cons_append fillA fillR rowsOf List.replicate_succ List.replicate_zero Nat.zero_mul getD_drop List.length_drop splice List.nil_append List.append_nil cond_true cond_false List.set_cons_zero List.length_set ev put_some put_none upd_apply abin asNat bounds row1 mk List.length_cons List.length_nil List.length_map List.drop_zero List.drop_succ_cons List.drop_nil List.getD_cons_zero List.getD_cons_succ Option.getD_none Option.getD_some List.take_succ_cons List.take_zero List.take_nil true_and and_true Int.toNat_natCast if_true if_false Nat.zero_add Nat.add_zero List.map_cons List.map_nil Nat.reduceEqDiff Nat.left_eq_add Nat.add_eq_left Nat.add_left_cancel_iff Nat.add_assoc Nat.reduceSub Nat.reduceAdd Nat.reduceLeDiff Nat.le_refl Nat.zero_le Nat.zero_lt_one Nat.lt_add_one Int.reduceLT Int.reduceLE Int.reduceToNat Nat.reduceLT Nat.reduceBEq Bool.false_eq_true Nat.reduceBNe ne_eq not_false_eq_true not_true_eq_false false_and and_false reduceIte Int.natCast_nonneg reduceCtorEq parts_agg parts_bool parts_int parts_str parts_lit parts_nils parts_sl parts_ptr Int.natCast_nonneg Int.natCast_nonneg beq_self_eq_true bne_self_eq_false Bool.true_and Bool.false_and Bool.and_true Bool.and_false Bool.true_or Bool.false_or Bool.or_true Bool.or_false Bool.not_true Bool.not_false
attribute [local go_sem] instr0 instr1 instr2 instr10 instr11 instr12 instrN instrA instr_len node0 node1 node2 node3 node4 node5 node6 nodeA node_len I ints progA progsA

section copy
/-- What is copied so far: the first ones plain, no others yet. -/
def cpRows (ps : List (List Instr)) (i : Nat) : List (List AV) := ((ps.take i).map fun p => [progA p]) ++ List.replicate (ps.length - i) [.nils]
theorem cpRows_len {ps : List (List Instr)} {i : Nat} (h : i ≤ ps.length) : (cpRows ps i).length = ps.length := by simp [cpRows]; omega
theorem cpRows_at (ps : List (List Instr)) (i k : Nat) : (cpRows ps i)[k]? = if k < i then (ps[k]?).map (fun p => [progA p]) else if k < ps.length then some [.nils] else none := by
  simp only [cpRows, List.getElem?_append, List.length_map, List.length_take, List.getElem?_map, List.getElem?_take, List.getElem?_replicate]
  by_cases h1 : k < i
  · rw [if_pos h1, if_pos h1]
    by_cases h2 : k < ps.length
    · rw [if_pos (by omega)]
    · rw [if_neg (by omega), if_neg (by omega), List.getElem?_eq_none (by omega)]; rfl
  · rw [if_neg (by omega), if_neg h1]
    by_cases h2 : k < ps.length
    · rw [if_pos (by omega), if_pos h2]
    · rw [if_neg (by omega), if_neg h2]
theorem cpRows_get {ps : List (List Instr)} {i : Nat} (h : i < ps.length) : (cpRows ps i).getD i [] = [.nils] := by
  rw [List.getD_eq_getElem?_getD, cpRows_at, if_neg (by omega), if_pos h]; rfl
theorem cpRows_set {ps : List (List Instr)} {i : Nat} (h : i < ps.length) : (cpRows ps i).set i [progA ps[i]] = cpRows ps (i + 1) := by
  refine List.ext_getElem? fun k => ?_
  rw [List.getElem?_set, cpRows_at, cpRows_at, cpRows_len (by omega)]
  by_cases hk : i = k
  · subst hk; rw [if_pos rfl, if_pos h, if_pos (by omega), List.getElem?_eq_getElem h]; rfl
  · rw [if_neg hk]
    by_cases h1 : k < i
    · rw [if_pos h1, if_pos (by omega)]
    · rw [if_neg h1, if_neg (show ¬ k < i + 1 by omega)]
theorem cpRows_all (ps : List (List Instr)) : cpRows ps ps.length = ps.map fun p => [progA p] := by simp [cpRows]
theorem set_get {l : List (List AV)} {i : Nat} (h : i < l.length) (x : List AV) : (l.set i x).getD i [] = x := by simp [List.getD_eq_getElem?_getD, h]

abbrev zeroI : List AV := [.int .i64 0, .int .i64 0, .lit 1 [], .int .i64 0, .lit 1 [], .lit 1 [], .lit 1 [], .int .i64 0, .int .i64 0, .str ⟨#[]⟩, .int .i64 0, .int .i64 0, .int .i64 0]

variable {o : Nat → Option Nat} {σ : St} {b bL bR : Nat} {vs : List AV} {ps : List (List Instr)} {rs : List Int} {tg : Int}
/-- code.Copy -/
theorem copy_spec (h : Mk o σ b bL bR vs ps rs tg) (hsm : ∀ p ∈ ps, p.length ≤ 2 ^ 20 ∧ ∀ i ∈ p, i.Sm) (hn : ps.length ≤ 2 ^ 20) : T Try.prog 64 [.sl bL 0 ps.length] σ (progsA ps) σ := by
  refine in64 (by simp) fun wf hab => ?_
  clear hab
  have ltL : bL < σ.next := h.lt _ (by rw [h.ownL]; simp)
  have hL := h.hL
  have hv := h.hv
  have m0 : (ps.length : Int) ≤ most := by simp only [most]; omega
  have m1 : (ps.length : Int) * 24 ≤ most := by simp only [most]; omega
  unfold c64
  first | refine .seq (.rg fun A hA K hK => ?_) | refine .seq (.seq (.rg fun A hA K hK => ?_)) | refine .rg fun A hA K hK => ?_ | refine .seq (.rd fun A hA K hK => ?_) | refine .seq (.seq (.rd fun A hA K hK => ?_)) | refine .rd fun A hA K hK => ?_
  simp (maxSteps := 1000000) only [go_sem, hA.nil, hA.go, hA.yes, hA.noT, hA.noF, hA.skp]
  refine hK _ _ ?_; clear hK K hA A
  first | refine .seq (.rg fun A hA K hK => ?_) | refine .seq (.seq (.rg fun A hA K hK => ?_)) | refine .rg fun A hA K hK => ?_ | refine .seq (.rd fun A hA K hK => ?_) | refine .seq (.seq (.rd fun A hA K hK => ?_)) | refine .rd fun A hA K hK => ?_
  simp (maxSteps := 1000000) only [go_sem, hA.nil, hA.go, hA.yes, hA.noT, hA.noF, hA.skp, m0, m1]
  refine hK _ _ ?_; clear hK K hA A
  first | refine .seq (.rg fun A hA K hK => ?_) | refine .seq (.seq (.rg fun A hA K hK => ?_)) | refine .rg fun A hA K hK => ?_ | refine .seq (.rd fun A hA K hK => ?_) | refine .seq (.seq (.rd fun A hA K hK => ?_)) | refine .rd fun A hA K hK => ?_
  simp (maxSteps := 1000000) only [go_sem, hA.nil, hA.go, hA.yes, hA.noT, hA.noF, hA.skp]
  refine hK _ _ ?_; clear hK K hA A
  refine .rangeK (N := ps.length) (fun i L s => L = [(3, .sl σ.next 0 ps.length), (11, .sl bL 0 ps.length), (12, I ps.length), (13, I i)] ∧ s.blk σ.next = some (.cells 1 (cpRows ps i)) ∧ σ.next < s.next ∧ ∀ c, c < σ.next → s.blk c = σ.blk c) (by simp only [most]; omega)
    ⟨_, ⟨rfl, by simp (maxSteps := 1000000) only [go_sem, cpRows, Nat.sub_zero], by simp (maxSteps := 1000000) only [go_sem], fun c hc => ?_⟩, by simp (maxSteps := 1000000) only [go_sem]; try rfl⟩ ?_ ?_ ?_
  · simp (disch := omega) only [go_sem, if_neg]
  · rintro i L s ⟨rfl, _⟩
    exact ⟨by simp (maxSteps := 1000000) only [go_sem], by simp (maxSteps := 1000000) only [go_sem], rfl⟩
  · rintro i L s hi ⟨rfl, hb3, hnx, hx⟩
    have hiv : i < vs.length := by omega
    have e0 : (i : Int) < ps.length := by omega
    have hg := vs_get hiv
    have hL' : s.blk bL = some (.cells 1 (vs.map fun v => [v])) := by rw [hx bL ltL]; exact hL
    have hp := hsm ps[i] (List.getElem_mem hi)
    have hgd : ps.getD i [] = ps[i] := by simp [List.getD_eq_getElem?_getD, hi]
    have hrl : (cpRows ps i).length = ps.length := cpRows_len (by omega)
    -- the round's end: what was put together is plain
    have fin : ∀ (s2 : St) (p : List Instr) (F : Fr), p = ps[i] → Fits F [(3, .sl σ.next 0 ps.length), (11, .sl bL 0 ps.length), (12, I ps.length), (13, I i)] → σ.next < s2.next → (∀ c, c < σ.next → s2.blk c = σ.blk c) →
        s2.blk σ.next = some (.cells 1 ((cpRows ps i).set i [progA p])) → ∃ L, (L = [(3, .sl σ.next 0 ps.length), (11, .sl bL 0 ps.length), (12, I ps.length), (13, I (i + 1 : Nat))] ∧ s2.blk σ.next = some (.cells 1 (cpRows ps (i + 1))) ∧ σ.next < s2.next ∧ ∀ c, c < σ.next → s2.blk c = σ.blk c) ∧ Fits (upd (upd F 36 (I (i + 1 : Nat))) 13 (I (i + 1 : Nat))) L := by
      rintro s2 p F rfl hf h1 h2 h3
      refine ⟨_, ⟨rfl, by rw [h3, cpRows_set hi], h1, h2⟩, ?_⟩
      have hf := hf
      simp (maxSteps := 1000000) only [go_sem] at hf
      simp (maxSteps := 1000000) only [go_sem, hf]
    rcases h.hd i hi with ⟨q1, q2⟩ | ⟨c, q1, q2, q3⟩
    · rw [q1] at hg
      have e3 : ps[i] = [] := by rw [hgd] at q2; simpa using q2
      first | refine .seq (.rg fun A hA K hK => ?_) | refine .seq (.seq (.rg fun A hA K hK => ?_)) | refine .rg fun A hA K hK => ?_ | refine .seq (.rd fun A hA K hK => ?_) | refine .seq (.seq (.rd fun A hA K hK => ?_)) | refine .rd fun A hA K hK => ?_
      simp (maxSteps := 1000000) only [go_sem, hA.nil, hA.go, hA.yes, hA.noT, hA.noF, hA.skp, hL', hg, hiv, e0]
      refine hK _ _ ?_; clear hK K hA A
      first | refine .seq (.rg fun A hA K hK => ?_) | refine .seq (.seq (.rg fun A hA K hK => ?_)) | refine .rg fun A hA K hK => ?_ | refine .seq (.rd fun A hA K hK => ?_) | refine .seq (.seq (.rd fun A hA K hK => ?_)) | refine .rd fun A hA K hK => ?_
      simp (maxSteps := 1000000) only [go_sem, hA.nil, hA.go, hA.yes, hA.noT, hA.noF, hA.skp]
      refine hK _ _ ?_; clear hK K hA A
      refine .entQ (.rangeK (N := 0) (fun n L s2 => L = [(3, .sl σ.next 0 ps.length), (11, .sl bL 0 ps.length), (12, I ps.length), (13, I i), (19, I 0), (20, I n)] ∧ s2 = s) (by decide) ⟨_, ⟨rfl, rfl⟩, by simp (maxSteps := 1000000) only [go_sem]; try rfl⟩ ?_ ?_ ?_)
      · rintro n L s2 ⟨rfl, _⟩
        exact ⟨by simp (maxSteps := 1000000) only [go_sem], by simp (maxSteps := 1000000) only [go_sem], rfl⟩
      · intro n L s2 hlt; omega
      · rintro L s2 F ⟨rfl, rfl⟩ hf
        simp (maxSteps := 1000000) only [go_sem] at hf
        refine ⟨_, _, .litAt σ.next i 13 hb3 (by omega) (cpRows_get hi), by simp (maxSteps := 1000000) only [go_sem, hf], fin _ [] F e3.symm (by simp (maxSteps := 1000000) only [go_sem, hf]) (by first | exact hnx | (simp (maxSteps := 1000000) only [go_sem]; exact hnx)) (fun c hc => ?_) ?_⟩
        · simp (disch := omega) only [go_sem, if_neg, hx c hc]
        · simp (maxSteps := 1000000) only [go_sem]
          try rfl
    · rw [q1] at hg
      rw [hgd] at q3 hg
      have ltc : c < σ.next := h.lt _ (by rw [q2]; simp)
      have hpl : ps[i].length ≤ most := by have := hp.1; simp only [most]; omega
      first | refine .seq (.rg fun A hA K hK => ?_) | refine .seq (.seq (.rg fun A hA K hK => ?_)) | refine .rg fun A hA K hK => ?_ | refine .seq (.rd fun A hA K hK => ?_) | refine .seq (.seq (.rd fun A hA K hK => ?_)) | refine .rd fun A hA K hK => ?_
      simp (maxSteps := 1000000) only [go_sem, hA.nil, hA.go, hA.yes, hA.noT, hA.noF, hA.skp, hL', hg, hiv, e0]
      refine hK _ _ ?_; clear hK K hA A
      first | refine .seq (.rg fun A hA K hK => ?_) | refine .seq (.seq (.rg fun A hA K hK => ?_)) | refine .rg fun A hA K hK => ?_ | refine .seq (.rd fun A hA K hK => ?_) | refine .seq (.seq (.rd fun A hA K hK => ?_)) | refine .rd fun A hA K hK => ?_
      simp (maxSteps := 1000000) only [go_sem, hA.nil, hA.go, hA.yes, hA.noT, hA.noF, hA.skp]
      refine hK _ _ ?_; clear hK K hA A
      refine .entQ (.rangeK (N := ps[i].length) (fun n L s2 => L = [(3, .sl σ.next 0 ps.length), (4, I i), (11, .sl bL 0 ps.length), (12, I ps.length), (13, I i), (18, .sl c 0 ps[i].length), (19, I ps[i].length), (20, I n)] ∧
        (∃ w, s2.blk σ.next = some (.cells 1 ((cpRows ps i).set i [w])) ∧ (n = 0 ∧ w = .nils ∨ ∃ c', w = .sl c' 0 n ∧ σ.next < c' ∧ c' < s2.next ∧ s2.blk c' = some (.cells 13 ((ps[i].take n).map instrL)))) ∧ σ.next < s2.next ∧ ∀ c, c < σ.next → s2.blk c = σ.blk c) hpl
        ⟨_, ⟨rfl, ⟨.nils, ?_, .inl ⟨rfl, rfl⟩⟩, hnx, hx⟩, by simp (maxSteps := 1000000) only [go_sem, List.length_map]; try rfl⟩ ?_ ?_ ?_)
      · rw [hb3]
        have : (cpRows ps i).set i [.nils] = cpRows ps i := by
          refine List.ext_getElem? fun k => ?_
          rw [List.getElem?_set]
          split
          · rename_i hk; subst hk; rw [if_pos (by omega), cpRows_at, if_neg (by omega), if_pos hi]
          · rfl
        rw [this]
      · rintro n L s2 ⟨rfl, _⟩
        exact ⟨by simp (maxSteps := 1000000) only [go_sem], by simp (maxSteps := 1000000) only [go_sem], rfl⟩
      · rintro n L s2 hlt ⟨rfl, ⟨w, hw, hcase⟩, hn2, hx2⟩
        have hc2 : s2.blk c = some (.cells 13 (ps[i].map instrL)) := by rw [hx2 c ltc]; exact q3
        have e4 : (n : Int) < ps[i].length := by omega
        have hgn := prog_get hlt
        have e5 : ¬ σ.next = s2.next := by omega
        have e50 : ¬ σ.next = s2.next + 1 := by omega
        have hrl' : i < ((cpRows ps i).set i [w]).length := by simp; omega
        have hgw := set_get (l := cpRows ps i) (i := i) (by omega) [w]
        first | refine .seq (.rg fun A hA K hK => ?_) | refine .seq (.seq (.rg fun A hA K hK => ?_)) | refine .rg fun A hA K hK => ?_ | refine .seq (.rd fun A hA K hK => ?_) | refine .seq (.seq (.rd fun A hA K hK => ?_)) | refine .rd fun A hA K hK => ?_
        simp (maxSteps := 1000000) only [go_sem, hA.nil, hA.go, hA.yes, hA.noT, hA.noF, hA.skp, hc2, e4, hgn, hlt]
        refine hK _ _ ?_; clear hK K hA A
        have hsm' := hp.2 _ (List.getElem_mem hlt)
        have htk : List.map instrL (ps[i].take (n + 1)) = List.map instrL (ps[i].take n) ++ [instrL ps[i][n]] := by
          rw [List.take_add_one, List.getElem?_eq_getElem hlt, List.map_append]; rfl
        rcases hcase with ⟨rfl, rfl⟩ | ⟨c', rfl, g1, g2, g3⟩
        · first | refine .seq (.rg fun A hA K hK => ?_) | refine .seq (.seq (.rg fun A hA K hK => ?_)) | refine .rg fun A hA K hK => ?_ | refine .seq (.rd fun A hA K hK => ?_) | refine .seq (.seq (.rd fun A hA K hK => ?_)) | refine .rd fun A hA K hK => ?_
          simp (maxSteps := 1000000) only [go_sem, hA.nil, hA.go, hA.yes, hA.noT, hA.noF, hA.skp, e0, e5, e50, hw, hgw, hrl, hi]
          first | refine aopq_call (own_spec _ hsm' _) (by simp (maxSteps := 1000000) only [go_sem, e0, e5, e50, hw, hgw, hrl, hi]) ?_ | refine aop_call (own_spec _ hsm' _) (by simp (maxSteps := 1000000) only [go_sem, e0, e5, e50, hw, hgw, hrl, hi]) ?_
          try simp (maxSteps := 1000000) only [go_sem, hA.nil, hA.go, hA.yes, hA.noT, hA.noF, hA.skp, e0, e5, e50, hw, hgw, hrl, hi]
          refine ⟨by decide, by decide, ?_⟩
          refine hK _ _ ?_; clear hK K hA A
          refine ⟨by simp (maxSteps := 1000000) only [go_sem], _, ⟨rfl, ⟨.sl (s2.next + 1) 0 1, ?_, .inr ⟨_, rfl, by omega, by simp (maxSteps := 1000000) only [go_sem]; try omega, ?_⟩⟩, by simp (maxSteps := 1000000) only [go_sem]; try omega, fun c2 hc => ?_⟩, by simp (maxSteps := 1000000) only [go_sem]⟩
          · simp (maxSteps := 1000000) only [go_sem, List.set_set]
          · have e7 : ¬ s2.next + 1 = σ.next := by omega
            simp (maxSteps := 1000000) only [go_sem, e7, htk]
          · simp (disch := omega) only [go_sem, if_neg, hx2 c2 hc]
        · have e7 : ¬ σ.next = c' := by omega
          have e8 : ¬ c' = s2.next := by omega
          have e9 : min n ps[i].length = n := by omega
          have m2 : n + 1 ≤ most := by have := hp.1; simp only [most]; omega
          have m3 : (n + 1) * 176 ≤ most := by have := hp.1; simp only [most]; omega
          have ht : List.take n (List.map instrL (ps[i].take n)) = List.map instrL (ps[i].take n) := List.take_of_length_le (by simp; omega)
          first | refine .seq (.rg fun A hA K hK => ?_) | refine .seq (.seq (.rg fun A hA K hK => ?_)) | refine .rg fun A hA K hK => ?_ | refine .seq (.rd fun A hA K hK => ?_) | refine .seq (.seq (.rd fun A hA K hK => ?_)) | refine .rd fun A hA K hK => ?_
          simp (maxSteps := 1000000) only [go_sem, hA.nil, hA.go, hA.yes, hA.noT, hA.noF, hA.skp, e0, e5, e7, e8, hw, hgw, hrl, hi, g3]
          first | refine aopq_call (own_spec _ hsm' _) (by simp (maxSteps := 1000000) only [go_sem, e0, e5, e50, e7, e8, e9, hw, hgw, hrl, hi, g3, m2, m3, ht, List.length_take]) ?_ | refine aop_call (own_spec _ hsm' _) (by simp (maxSteps := 1000000) only [go_sem, e0, e5, e50, e7, e8, e9, hw, hgw, hrl, hi, g3, m2, m3, ht, List.length_take]) ?_
          try simp (maxSteps := 1000000) only [go_sem, hA.nil, hA.go, hA.yes, hA.noT, hA.noF, hA.skp, e0, e5, e50, e7, e8, e9, hw, hgw, hrl, hi, g3, m2, m3, ht, List.length_take]
          refine hK _ _ ?_; clear hK K hA A
          have e10 : ¬ s2.next + 1 = σ.next := by omega
          have e11 : ¬ s2.next + 1 = c' := by omega
          refine ⟨by simp (maxSteps := 1000000) only [go_sem], _, ⟨rfl, ⟨.sl (s2.next + 1) 0 (n + 1), ?_, .inr ⟨_, rfl, by omega, by simp (maxSteps := 1000000) only [go_sem]; try omega, ?_⟩⟩, by simp (maxSteps := 1000000) only [go_sem]; try omega, fun c2 hc => ?_⟩, by simp (maxSteps := 1000000) only [go_sem]⟩
          · simp (maxSteps := 1000000) only [go_sem, List.set_set]
          · simp (maxSteps := 1000000) only [go_sem, e10, e11, htk]
          · simp (disch := omega) only [go_sem, if_neg, hx2 c2 hc]
      · rintro L s2 F ⟨rfl, ⟨w, hw, hcase⟩, hn2, hx2⟩ hf
        simp (maxSteps := 1000000) only [go_sem] at hf
        rcases hcase with ⟨e3, rfl⟩ | ⟨c', rfl, g1, g2, g3⟩
        · have e4 : ps[i] = [] := List.length_eq_zero_iff.1 e3
          refine ⟨_, _, .litAt σ.next i 13 hw (by simp; omega) (set_get (by omega) _), by simp (maxSteps := 1000000) only [go_sem, hf], fin _ [] F e4.symm (by simp (maxSteps := 1000000) only [go_sem, hf]) (by first | exact hn2 | (simp (maxSteps := 1000000) only [go_sem]; exact hn2)) (fun c hc => ?_) ?_⟩
          · simp (disch := omega) only [go_sem, if_neg, hx2 c hc]
          · simp (maxSteps := 1000000) only [go_sem, List.set_set]
            try rfl
        · rw [List.take_length] at g3
          refine ⟨_, _, .frzAt σ.next i hw (by simp; omega) (set_get (by omega) _) g3 (by omega) (by simp), by simp (maxSteps := 1000000) only [go_sem, hf], fin _ ps[i] F rfl (by simp (maxSteps := 1000000) only [go_sem, hf]) (by first | exact hn2 | (simp (maxSteps := 1000000) only [go_sem]; exact hn2)) (fun c hc => ?_) ?_⟩
          · simp (disch := omega) only [go_sem, if_neg, hx2 c hc]
          · simp (maxSteps := 1000000) only [go_sem, List.set_set]
            try rfl
  · rintro L s F ⟨rfl, hb3, hnx, hx⟩ hf
    simp (maxSteps := 1000000) only [go_sem] at hf
    rw [cpRows_all] at hb3
    first | refine .seq (.rg fun A hA K hK => ?_) | refine .seq (.seq (.rg fun A hA K hK => ?_)) | refine .rg fun A hA K hK => ?_ | refine .seq (.rd fun A hA K hK => ?_) | refine .seq (.seq (.rd fun A hA K hK => ?_)) | refine .rd fun A hA K hK => ?_
    simp (maxSteps := 1000000) only [go_sem, hA.nil, hA.go, hA.yes, hA.noT, hA.noF, hA.skp, hf]
    refine hK _ _ ?_; clear hK K hA A
    refine .frz 2 (b := σ.next) (n := ps.length) (by simp (maxSteps := 1000000) only [go_sem, hf]) hb3 (by simp) (.ret (retB (by simp (maxSteps := 1000000) only [go_sem]; try rfl) wf (fun c hc => ?_) (progsA_lt ps) ⟨rfl, rfl⟩))
    simp (disch := omega) only [go_sem, if_neg, hx c hc]
end copy
end Go.Proofs.Ytfjbabacpnnjmaa.Av

namespace Go.Proofs.Ytfjbabacpnnjmaa.Av
open Go Go.Av
set_option maxRecDepth 20000
set_option maxHeartbeats 4000000

attribute [local go_sem] step_apply stepD_apply stepE_apply
attribute [local go_sem] aopq_mv aopq_pk aopq_al aopq_bx aopq_bd aopq_bs aopq_ld aopq_st aopq_nc aopq_bin aopq_un aopq_cv aopq_mi aopq_mf aopq_mm aopq_ms aopq_sc aopq_fa aopq_fl aopq_ia aopq_lk aopq_mu aopq_lm aopq_rg aopq_en aopq_ta aopq_ex aopq_ln aopq_ap aopq_mx aopq.eq_3 aop.eq_1 aop.eq_2 aop.eq_3 aop.eq_4 aop.eq_5 aop.eq_6 aop.eq_7 aop.eq_8 aop.eq_9 aop_bin atS_apply aop_un_not aop_un_neg aop.eq_14 aop.eq_15 aop.eq_16 aop.eq_17 aop.eq_18 aop_sc cutS_apply cutN_apply cutL_apply cutO_apply aop.eq_20 aop.eq_21 aop.eq_22 aop.eq_23 aop.eq_24 aop.eq_25 aop.eq_26 aop.eq_27 aop.eq_28 aop.eq_29 aop.eq_30 aop.eq_31 aop.eq_32 blk_push next_push blk_set next_set blk_kill next_kill frL_nil frL_cons Fits_nil Fits_cons Int.reduceBEq Int.reduceBNe Nat.sub_zero Option.map_some Option.map_none List.set_cons_succ true_or or_true false_or or_false Int.le_refl Int.cast_ofNat_Int decide_true decide_false List.cons_append fillA fillR rowsOf List.replicate_succ List.replicate_zero Nat.zero_mul getD_drop List.length_drop splice List.nil_append List.append_nil cond_true cond_false List.set_cons_zero List.length_set ev put_some put_none upd_apply abin asNat bounds row1 mk List.length_cons List.length_nil List.length_map List.drop_zero List.drop_succ_cons List.drop_nil List.getD_cons_zero List.getD_cons_succ Option.getD_none Option.getD_some List.take_succ_cons List.take_zero List.take_nil true_and and_true Int.toNat_natCast if_true if_false Nat.zero_add Nat.add_zero List.map_cons List.map_nil Nat.reduceEqDiff Nat.left_eq_add Nat.add_eq_left Nat.add_left_cancel_iff Nat.add_assoc Nat.reduceSub Nat.reduceAdd Nat.reduceLeDiff Nat.le_refl Nat.zero_le Nat.zero_lt_one Nat.lt_add_one Int.reduceLT Int.reduceLE Int.reduceToNat Nat.reduceLT Nat.reduceBEq Bool.false_eq_true Nat.reduceBNe ne_eq not_false_eq_true not_true_eq_false false_and and_false reduceIte Int.natCast_nonneg reduceCtorEq parts_agg parts_bool parts_int parts_str parts_lit parts_nils parts_sl parts_ptr Int.natCast_nonneg Int.natCast_nonneg beq_self_eq_true bne_self_eq_false Bool.true_and Bool.false_and Bool.and_true Bool.and_false Bool.true_or Bool.false_or Bool.or_true Bool.or_false Bool.not_true Bool.not_false
attribute [local go_sem] instr0 instr1 instr2 instr10 instr11 instr12 instrN instrA instr_len node0 node1 node2 node3 node4 node5 node6 nodeA node_len I ints progA progsA

section mk
variable {o : Nat → Option Nat} {σ : St} {b bL bR : Nat} {vs : List AV} {ps : List (List Instr)} {rs : List Int} {tg : Int}
/-- code.Maker.Programs -/
theorem programs_spec (h : Mk o σ b bL bR vs ps rs tg) (hsm : ∀ p ∈ ps, p.length ≤ 2 ^ 20 ∧ ∀ i ∈ p, i.Sm) (hn : ps.length ≤ 2 ^ 20) : T Try.prog 27 [.ptr b 0 0] σ (progsA ps) σ := by
  refine in27 (by simp) fun wf hab => ?_
  clear hab
  have hb := h.hb
  unfold c27
  first | refine .seq (.rg fun A hA K hK => ?_) | refine .seq (.seq (.rg fun A hA K hK => ?_)) | refine .rg fun A hA K hK => ?_ | refine .seq (.rd fun A hA K hK => ?_) | refine .seq (.seq (.rd fun A hA K hK => ?_)) | refine .rd fun A hA K hK => ?_
  simp (maxSteps := 1000000) only [go_sem, hA.nil, hA.go, hA.yes, hA.noT, hA.noF, hA.skp]
  refine hK _ _ ?_; clear hK K hA A
  first | refine .seq (.rg fun A hA K hK => ?_) | refine .seq (.seq (.rg fun A hA K hK => ?_)) | refine .rg fun A hA K hK => ?_ | refine .seq (.rd fun A hA K hK => ?_) | refine .seq (.seq (.rd fun A hA K hK => ?_)) | refine .rd fun A hA K hK => ?_
  simp (maxSteps := 1000000) only [go_sem, hA.nil, hA.go, hA.yes, hA.noT, hA.noF, hA.skp, hb]
  first | refine aopq_call (copy_spec h hsm hn) (by simp (maxSteps := 1000000) only [go_sem, hb]) ?_ | refine aop_call (copy_spec h hsm hn) (by simp (maxSteps := 1000000) only [go_sem, hb]) ?_
  try simp (maxSteps := 1000000) only [go_sem, hA.nil, hA.go, hA.yes, hA.noT, hA.noF, hA.skp, hb]
  refine hK _ _ ?_; clear hK K hA A
  exact .ret (ret1 (by simp (maxSteps := 1000000) only [go_sem]) rfl)

/-- code.New, where there may not be so many -/
theorem new_bad (n : Int) (h : n < 1 ∨ 8 < n) (σ : St) : T Try.prog 22 [I n] σ .nilp σ := by
  refine in22 (by simp) fun wf hab => ?_
  clear hab
  unfold c22
  first | refine .seq (.rg fun A hA K hK => ?_) | refine .seq (.seq (.rg fun A hA K hK => ?_)) | refine .rg fun A hA K hK => ?_ | refine .seq (.rd fun A hA K hK => ?_) | refine .seq (.seq (.rd fun A hA K hK => ?_)) | refine .rd fun A hA K hK => ?_
  simp (maxSteps := 1000000) only [go_sem, hA.nil, hA.go, hA.yes, hA.noT, hA.noF, hA.skp]
  refine hK _ _ ?_; clear hK K hA A
  by_cases h1 : n < 1
  · first | refine .seq (.rg fun A hA K hK => ?_) | refine .seq (.seq (.rg fun A hA K hK => ?_)) | refine .rg fun A hA K hK => ?_ | refine .seq (.rd fun A hA K hK => ?_) | refine .seq (.seq (.rd fun A hA K hK => ?_)) | refine .rd fun A hA K hK => ?_
    simp (maxSteps := 1000000) only [go_sem, hA.nil, hA.go, hA.yes, hA.noT, hA.noF, hA.skp, h1]
    refine hK _ _ ?_; clear hK K hA A
    refine .cond (t := true) (by simp (maxSteps := 1000000) only [go_sem]) (fun _ => ?_) (fun h => by cases h)
    first | refine .seq (.rg fun A hA K hK => ?_) | refine .seq (.seq (.rg fun A hA K hK => ?_)) | refine .rg fun A hA K hK => ?_ | refine .seq (.rd fun A hA K hK => ?_) | refine .seq (.seq (.rd fun A hA K hK => ?_)) | refine .rd fun A hA K hK => ?_
    simp (maxSteps := 1000000) only [go_sem, hA.nil, hA.go, hA.yes, hA.noT, hA.noF, hA.skp]
    refine hK _ _ ?_; clear hK K hA A
    exact .ret (ret1 (by simp (maxSteps := 1000000) only [go_sem]) rfl)
  · have h8 : n > 8 := by omega
    first | refine .seq (.rg fun A hA K hK => ?_) | refine .seq (.seq (.rg fun A hA K hK => ?_)) | refine .rg fun A hA K hK => ?_ | refine .seq (.rd fun A hA K hK => ?_) | refine .seq (.seq (.rd fun A hA K hK => ?_)) | refine .rd fun A hA K hK => ?_
    simp (maxSteps := 1000000) only [go_sem, hA.nil, hA.go, hA.yes, hA.noT, hA.noF, hA.skp, h1, h8]
    refine hK _ _ ?_; clear hK K hA A
    refine .cond (t := true) (by simp (maxSteps := 1000000) only [go_sem]) (fun _ => ?_) (fun h => by cases h)
    first | refine .seq (.rg fun A hA K hK => ?_) | refine .seq (.seq (.rg fun A hA K hK => ?_)) | refine .rg fun A hA K hK => ?_ | refine .seq (.rd fun A hA K hK => ?_) | refine .seq (.seq (.rd fun A hA K hK => ?_)) | refine .rd fun A hA K hK => ?_
    simp (maxSteps := 1000000) only [go_sem, hA.nil, hA.go, hA.yes, hA.noT, hA.noF, hA.skp]
    refine hK _ _ ?_; clear hK K hA A
    exact .ret (ret1 (by simp (maxSteps := 1000000) only [go_sem]) rfl)

/-- code.Maker.Put, where there is no such device -/
theorem put_bad (hb : σ.blk b = some (.cells 3 [[.sl bL 0 ps.length, .sl bR 0 rs.length, I tg]])) (d : Int) (hd : ¬ (0 ≤ d ∧ d < ps.length)) (i : Instr) : T Try.prog 24 [.ptr b 0 0, I d, .agg (instrL i)] σ (I 23) σ := by
  refine in24 (by simp) fun wf hab => ?_
  clear hab
  unfold c24
  have hlt : b < σ.next := by
    rcases Nat.lt_or_ge b σ.next with h | h
    · exact h
    · rw [wf.1 b h] at hb; cases hb
  have hb' : (σ.push (.cells 13 [instrL i])).blk b = some (.cells 3 [[.sl bL 0 ps.length, .sl bR 0 rs.length, I tg]]) := by
    rw [blk_push, if_neg (by omega)]; exact hb
  first | refine .seq (.rg fun A hA K hK => ?_) | refine .seq (.seq (.rg fun A hA K hK => ?_)) | refine .rg fun A hA K hK => ?_ | refine .seq (.rd fun A hA K hK => ?_) | refine .seq (.seq (.rd fun A hA K hK => ?_)) | refine .rd fun A hA K hK => ?_
  simp (maxSteps := 1000000) only [go_sem, hA.nil, hA.go, hA.yes, hA.noT, hA.noF, hA.skp]
  refine hK _ _ ?_; clear hK K hA A
  refine .seq (.block ?_)
  first | refine .seq (.rg fun A hA K hK => ?_) | refine .seq (.seq (.rg fun A hA K hK => ?_)) | refine .rg fun A hA K hK => ?_ | refine .seq (.rd fun A hA K hK => ?_) | refine .seq (.seq (.rd fun A hA K hK => ?_)) | refine .rd fun A hA K hK => ?_
  simp (maxSteps := 1000000) only [go_sem, hA.nil, hA.go, hA.yes, hA.noT, hA.noF, hA.skp]
  first | refine aopq_call (there_spec hb' d) (by simp (maxSteps := 1000000) only [go_sem]) ?_ | refine aop_call (there_spec hb' d) (by simp (maxSteps := 1000000) only [go_sem]) ?_
  try simp (maxSteps := 1000000) only [go_sem, hA.nil, hA.go, hA.yes, hA.noT, hA.noF, hA.skp]
  refine hK _ _ ?_; clear hK K hA A
  refine .cond (t := true) (by simp only [go_sem]; simp; omega) (fun _ => ?_) (fun h => by cases h)
  first | refine .seq (.rg fun A hA K hK => ?_) | refine .seq (.seq (.rg fun A hA K hK => ?_)) | refine .rg fun A hA K hK => ?_ | refine .seq (.rd fun A hA K hK => ?_) | refine .seq (.seq (.rd fun A hA K hK => ?_)) | refine .rd fun A hA K hK => ?_
  simp (maxSteps := 1000000) only [go_sem, hA.nil, hA.go, hA.yes, hA.noT, hA.noF, hA.skp]
  refine hK _ _ ?_; clear hK K hA A
  exact .ret (ret1b (by simp (maxSteps := 1000000) only [go_sem]) wf (fun c hc => by simp (disch := omega) only [go_sem, if_neg]) (.int _ _))

end mk

def takeI (r n : Int) : Instr := ⟨1, r, [], emptyN, n, 0, 0⟩
def sendI (r d t : Int) : Instr := ⟨3, 0, [r], emptyN, 0, d, t⟩
def zeroInstr : Instr := ⟨0, 0, [], emptyN, 0, 0, 0⟩

/-- law18.known -/
theorem known_spec (σ : St) : T Try.prog 21 [] σ (.bool true) σ := by
  refine in21 (by simp) fun wf hab => ?_
  clear hab
  unfold c21
  first | refine .seq (.rg fun A hA K hK => ?_) | refine .seq (.seq (.rg fun A hA K hK => ?_)) | refine .rg fun A hA K hK => ?_ | refine .seq (.rd fun A hA K hK => ?_) | refine .seq (.seq (.rd fun A hA K hK => ?_)) | refine .rd fun A hA K hK => ?_
  simp (maxSteps := 1000000) only [go_sem, hA.nil, hA.go, hA.yes, hA.noT, hA.noF, hA.skp]
  refine hK _ _ ?_; clear hK K hA A
  first | refine .seq (.rg fun A hA K hK => ?_) | refine .seq (.seq (.rg fun A hA K hK => ?_)) | refine .rg fun A hA K hK => ?_ | refine .seq (.rd fun A hA K hK => ?_) | refine .seq (.seq (.rd fun A hA K hK => ?_)) | refine .rd fun A hA K hK => ?_
  simp (maxSteps := 1000000) only [go_sem, hA.nil, hA.go, hA.yes, hA.noT, hA.noF, hA.skp]
  refine aopq_callQ (new_spec 2 (by decide) (by decide) σ) (by simp (maxSteps := 1000000) only [go_sem]) ?_
  rintro v s1 ⟨o, bb, bL, bR, vs, rfl, hm, hn1, ho, hx⟩
  try simp (maxSteps := 1000000) only [go_sem, hA.nil, hA.go, hA.yes, hA.noT, hA.noF, hA.skp]
  refine hK _ _ ?_; clear hK K hA A
  first | refine .seq (.rg fun A hA K hK => ?_) | refine .seq (.seq (.rg fun A hA K hK => ?_)) | refine .rg fun A hA K hK => ?_ | refine .seq (.rd fun A hA K hK => ?_) | refine .seq (.seq (.rd fun A hA K hK => ?_)) | refine .rd fun A hA K hK => ?_
  simp (maxSteps := 1000000) only [go_sem, hA.nil, hA.go, hA.yes, hA.noT, hA.noF, hA.skp]
  refine aopq_callT (new_bad 0 (.inl (by decide)) s1) (by simp (maxSteps := 1000000) only [go_sem]) ?_
  try simp (maxSteps := 1000000) only [go_sem, hA.nil, hA.go, hA.yes, hA.noT, hA.noF, hA.skp]
  refine hK _ _ ?_; clear hK K hA A
  refine .cond (t := false) (by simp (maxSteps := 1000000) only [go_sem]) (fun h => by cases h) (fun _ => .skip ?_)
  -- Fresh
  first | refine .seq (.rg fun A hA K hK => ?_) | refine .seq (.seq (.rg fun A hA K hK => ?_)) | refine .rg fun A hA K hK => ?_ | refine .seq (.rd fun A hA K hK => ?_) | refine .seq (.seq (.rd fun A hA K hK => ?_)) | refine .rd fun A hA K hK => ?_
  simp (maxSteps := 1000000) only [go_sem, hA.nil, hA.go, hA.yes, hA.noT, hA.noF, hA.skp]
  refine aopq_callQ (fresh_spec hm 0 (by decide) (by decide)) (by simp (maxSteps := 1000000) only [go_sem]) ?_
  rintro v s2 ⟨rfl, hm2, hg2⟩
  try simp (maxSteps := 1000000) only [go_sem, hA.nil, hA.go, hA.yes, hA.noT, hA.noF, hA.skp]
  refine hK _ _ ?_; clear hK K hA A
  first | refine .seq (.rg fun A hA K hK => ?_) | refine .seq (.seq (.rg fun A hA K hK => ?_)) | refine .rg fun A hA K hK => ?_ | refine .seq (.rd fun A hA K hK => ?_) | refine .seq (.seq (.rd fun A hA K hK => ?_)) | refine .rd fun A hA K hK => ?_
  simp (maxSteps := 1000000) only [go_sem, hA.nil, hA.go, hA.yes, hA.noT, hA.noF, hA.skp]
  refine aopq_callQ (put_spec hm2 0 (by decide) (by decide) (takeI 0 0) (by decide)) (by simp (maxSteps := 1000000) only [go_sem, takeI, instrL, emptyN]) ?_
  rintro v s3 ⟨rfl, o3, vs3, hm3, hg3⟩
  try simp (maxSteps := 1000000) only [go_sem, hA.nil, hA.go, hA.yes, hA.noT, hA.noF, hA.skp]
  refine hK _ _ ?_; clear hK K hA A
  -- Tag, and the Send
  have hb3 := hm3.hb
  first | refine .seq (.rg fun A hA K hK => ?_) | refine .seq (.seq (.rg fun A hA K hK => ?_)) | refine .rg fun A hA K hK => ?_ | refine .seq (.rd fun A hA K hK => ?_) | refine .seq (.seq (.rd fun A hA K hK => ?_)) | refine .rd fun A hA K hK => ?_
  simp (maxSteps := 1000000) only [go_sem, hA.nil, hA.go, hA.yes, hA.noT, hA.noF, hA.skp]
  refine aopq_callQ (tag_spec hm3 (by decide)) (by simp (maxSteps := 1000000) only [go_sem]) ?_
  rintro v s4 ⟨rfl, hm4, hg4⟩
  try simp (maxSteps := 1000000) only [go_sem, hA.nil, hA.go, hA.yes, hA.noT, hA.noF, hA.skp]
  refine aopq_callQ (put_spec hm4 0 (by decide) (by decide) (sendI 0 1 0) (by decide)) (by simp (maxSteps := 1000000) only [go_sem, sendI, instrL, emptyN]) ?_
  rintro v s5 ⟨rfl, o5, vs5, hm5, hg5⟩
  try simp (maxSteps := 1000000) only [go_sem, hA.nil, hA.go, hA.yes, hA.noT, hA.noF, hA.skp]
  refine hK _ _ ?_; clear hK K hA A
  have hx5 : ∀ c, c < σ.next → s5.blk c = σ.blk c := by
    intro c hc
    have hoc : o c = none := by
      cases h : o c with
      | none => rfl
      | some x => have := ho c (by rw [h]; simp); omega
    have hg : Grow o σ o σ := .refl _ _
    rw [(Grow.trans (Grow.trans (Grow.trans hg2 hg3) hg4) hg5).2.2 c (by omega) hoc, hx c hc]
  have hsm : ∀ p ∈ ([[takeI 0 0, sendI 0 1 0], []] : List (List Instr)), p.length ≤ 2 ^ 20 ∧ ∀ i ∈ p, i.Sm := by decide
  have hm5' : Mk o5 s5 bb bL bR vs5 [[takeI 0 0, sendI 0 1 0], []] [1, 0] 1 := hm5
  clear hm hm2 hm3 hm4 hm5 hg2 hg3 hg4 hg5 hb3
  have hgen : ∃ p, p = ([[takeI 0 0, sendI 0 1 0], []] : List (List Instr)) := ⟨_, rfl⟩
  obtain ⟨p, hp⟩ := hgen
  rw [← hp] at hm5' hsm
  have l2 : p.length = 2 := by subst hp; rfl
  have g0 : (p.map fun q => [AV.lit 13 (q.map instrL)]).getD 0 [] = [AV.lit 13 [instrL (takeI 0 0), instrL (sendI 0 1 0)]] := by subst hp; rfl
  have r1 : rightE p = 0 := by subst hp; decide +kernel
  have r2 : pairsC p = 22 := by subst hp; decide +kernel
  have r3 : cntE p = 2 := by subst hp; decide +kernel
  have r4 : sndE p = 1 := by subst hp; decide +kernel
  have r5 : rightE [[]] = 0 := by decide +kernel
  clear hp
  first | refine .seq (.rg fun A hA K hK => ?_) | refine .seq (.seq (.rg fun A hA K hK => ?_)) | refine .rg fun A hA K hK => ?_ | refine .seq (.rd fun A hA K hK => ?_) | refine .seq (.seq (.rd fun A hA K hK => ?_)) | refine .rd fun A hA K hK => ?_
  simp (maxSteps := 1000000) only [go_sem, hA.nil, hA.go, hA.yes, hA.noT, hA.noF, hA.skp]
  first | refine aopq_call (programs_spec hm5' hsm (by omega)) (by simp (maxSteps := 1000000) only [go_sem]) ?_ | refine aop_call (programs_spec hm5' hsm (by omega)) (by simp (maxSteps := 1000000) only [go_sem]) ?_
  try simp (maxSteps := 1000000) only [go_sem, hA.nil, hA.go, hA.yes, hA.noT, hA.noF, hA.skp]
  refine hK _ _ ?_; clear hK K hA A
  have hb5 := hm5'.hb
  refine .keep [(1, .ptr bb 0 0), (2, I 0), (3, I 0), (4, I 0), (5, progsA p)] (by simp (maxSteps := 1000000) only [go_sem]) ?_
  first | refine .seq (.rg fun A hA K hK => ?_) | refine .seq (.seq (.rg fun A hA K hK => ?_)) | refine .rg fun A hA K hK => ?_ | refine .seq (.rd fun A hA K hK => ?_) | refine .seq (.seq (.rd fun A hA K hK => ?_)) | refine .rd fun A hA K hK => ?_
  simp (maxSteps := 1000000) only [go_sem, hA.nil, hA.go, hA.yes, hA.noT, hA.noF, hA.skp, l2, g0]
  first | refine aopq_call (right_spec p _) (by simp (maxSteps := 1000000) only [go_sem, l2, g0, r1]) ?_ | refine aop_call (right_spec p _) (by simp (maxSteps := 1000000) only [go_sem, l2, g0, r1]) ?_
  try simp (maxSteps := 1000000) only [go_sem, hA.nil, hA.go, hA.yes, hA.noT, hA.noF, hA.skp, l2, g0, r1]
  first | refine aopq_call (pairs_spec p _) (by simp (maxSteps := 1000000) only [go_sem, l2, g0, r1, r2]) ?_ | refine aop_call (pairs_spec p _) (by simp (maxSteps := 1000000) only [go_sem, l2, g0, r1, r2]) ?_
  try simp (maxSteps := 1000000) only [go_sem, hA.nil, hA.go, hA.yes, hA.noT, hA.noF, hA.skp, l2, g0, r1, r2]
  first | refine aopq_call (codeCount_spec p _) (by simp (maxSteps := 1000000) only [go_sem, l2, g0, r3]) ?_ | refine aop_call (codeCount_spec p _) (by simp (maxSteps := 1000000) only [go_sem, l2, g0, r3]) ?_
  try simp (maxSteps := 1000000) only [go_sem, hA.nil, hA.go, hA.yes, hA.noT, hA.noF, hA.skp, l2, g0, r3]
  first | refine aopq_call (codeSends_spec p _) (by simp (maxSteps := 1000000) only [go_sem, l2, g0, r4]) ?_ | refine aop_call (codeSends_spec p _) (by simp (maxSteps := 1000000) only [go_sem, l2, g0, r4]) ?_
  try simp (maxSteps := 1000000) only [go_sem, hA.nil, hA.go, hA.yes, hA.noT, hA.noF, hA.skp, l2, g0, r4]
  first | refine aopq_call (devices_spec hb5) (by simp (maxSteps := 1000000) only [go_sem, l2, g0]) ?_ | refine aop_call (devices_spec hb5) (by simp (maxSteps := 1000000) only [go_sem, l2, g0]) ?_
  try simp (maxSteps := 1000000) only [go_sem, hA.nil, hA.go, hA.yes, hA.noT, hA.noF, hA.skp, l2, g0]
  refine aopq_callT (put_bad hb5 2 (by rw [l2]; decide) zeroInstr) (by simp (maxSteps := 1000000) only [go_sem, zeroInstr, instrL, emptyN]) ?_
  try simp (maxSteps := 1000000) only [go_sem, hA.nil, hA.go, hA.yes, hA.noT, hA.noF, hA.skp]
  refine aopq_callT (fresh_bad hb5 9 (by rw [l2]; decide)) (by simp (maxSteps := 1000000) only [go_sem]) ?_
  try simp (maxSteps := 1000000) only [go_sem, hA.nil, hA.go, hA.yes, hA.noT, hA.noF, hA.skp]
  have hsub : T Try.prog 30 [.lit 1 [[.nils]]] s5 (I (rightE [[]])) s5 := by
    refine TQ.sub (args' := [progsA [[]]]) rfl (fun i hi => ?_) (right_spec [[]] s5)
    obtain rfl : i = 0 := by simpa using hi
    refine .lit rfl (fun i hi => ?_) (fun i j hi hj => ?_)
    · obtain rfl : i = 0 := by simpa using hi
      rfl
    · obtain rfl : i = 0 := by simpa using hi
      obtain rfl : j = 0 := by simpa using hj
      exact .nils 13
  first | refine aopq_call (hsub) (by simp (maxSteps := 1000000) only [go_sem, r5]) ?_ | refine aop_call (hsub) (by simp (maxSteps := 1000000) only [go_sem, r5]) ?_
  try simp (maxSteps := 1000000) only [go_sem, hA.nil, hA.go, hA.yes, hA.noT, hA.noF, hA.skp, r5]
  refine hK _ _ ?_; clear hK K hA A
  exact .ret (retB (by simp (maxSteps := 1000000) only [go_sem]) wf (fun c hc => by rw [hx5 c hc]) (.bool _) ⟨rfl, rfl⟩)
end Go.Proofs.Ytfjbabacpnnjmaa.Av

namespace Go.Proofs.Ytfjbabacpnnjmaa.Av
open Go Go.Av
set_option maxRecDepth 20000
set_option maxHeartbeats 4000000

attribute [local go_sem] step_apply stepD_apply stepE_apply
attribute [local go_sem] aopq_mv aopq_pk aopq_al aopq_bx aopq_bd aopq_bs aopq_ld aopq_st aopq_nc aopq_bin aopq_un aopq_cv aopq_mi aopq_mf aopq_mm aopq_ms aopq_sc aopq_fa aopq_fl aopq_ia aopq_lk aopq_mu aopq_lm aopq_rg aopq_en aopq_ta aopq_ex aopq_ln aopq_ap aopq_mx aopq.eq_3 aop.eq_1 aop.eq_2 aop.eq_3 aop.eq_4 aop.eq_5 aop.eq_6 aop.eq_7 aop.eq_8 aop.eq_9 aop_bin atS_apply aop_un_not aop_un_neg aop.eq_14 aop.eq_15 aop.eq_16 aop.eq_17 aop.eq_18 aop_sc cutS_apply cutN_apply cutL_apply cutO_apply aop.eq_20 aop.eq_21 aop.eq_22 aop.eq_23 aop.eq_24 aop.eq_25 aop.eq_26 aop.eq_27 aop.eq_28 aop.eq_29 aop.eq_30 aop.eq_31 aop.eq_32 blk_push next_push blk_set next_set blk_kill next_kill frL_nil frL_cons Fits_nil Fits_cons Int.reduceBEq Int.reduceBNe Nat.sub_zero Option.map_some Option.map_none List.set_cons_succ true_or or_true false_or or_false Int.le_refl Int.cast_ofNat_Int decide_true decide_false List.cons_append fillA fillR rowsOf List.replicate_succ List.replicate_zero Nat.zero_mul getD_drop List.length_drop splice List.nil_append List.append_nil cond_true cond_false List.set_cons_zero List.length_set ev put_some put_none upd_apply abin asNat bounds row1 mk List.length_cons List.length_nil List.length_map List.drop_zero List.drop_succ_cons List.drop_nil List.getD_cons_zero List.getD_cons_succ Option.getD_none Option.getD_some List.take_succ_cons List.take_zero List.take_nil true_and and_true Int.toNat_natCast if_true if_false Nat.zero_add Nat.add_zero List.map_cons List.map_nil Nat.reduceEqDiff Nat.left_eq_add Nat.add_eq_left Nat.add_left_cancel_iff Nat.add_assoc Nat.reduceSub Nat.reduceAdd Nat.reduceLeDiff Nat.le_refl Nat.zero_le Nat.zero_lt_one Nat.lt_add_one Int.reduceLT Int.reduceLE Int.reduceToNat Nat.reduceLT Nat.reduceBEq Bool.false_eq_true Nat.reduceBNe ne_eq not_false_eq_true not_true_eq_false false_and and_false reduceIte Int.natCast_nonneg reduceCtorEq parts_agg parts_bool parts_int parts_str parts_lit parts_nils parts_sl parts_ptr Int.natCast_nonneg Int.natCast_nonneg beq_self_eq_true bne_self_eq_false Bool.true_and Bool.false_and Bool.and_true Bool.and_false Bool.true_or Bool.false_or Bool.or_true Bool.or_false Bool.not_true Bool.not_false
attribute [local go_sem] instr0 instr1 instr2 instr10 instr11 instr12 instrN instrA instr_len node0 node1 node2 node3 node4 node5 node6 nodeA node_len I ints progA progsA

def withinE (n lo hi : Int) : Int :=
  if n ≥ lo ∧ n ≤ hi then n else lo + (if n.tmod (hi - lo + 1) < 0 then n.tmod (hi - lo + 1) + (hi - lo + 1) else n.tmod (hi - lo + 1))
theorem tmod_small (n k : Int) (h : 0 < k) : -k < n.tmod k ∧ n.tmod k < k := by
  have h1 := Int.tmod_lt_of_pos n h
  have h2 := Int.tmod_lt_of_pos (-n) h
  rw [Int.neg_tmod] at h2
  exact ⟨by omega, h1⟩
theorem withinE_in (n lo hi : Int) (h : lo ≤ hi) : lo ≤ withinE n lo hi ∧ withinE n lo hi ≤ hi := by
  unfold withinE
  have := tmod_small n (hi - lo + 1) (by omega)
  split
  · omega
  · split <;> omega

/-- parquetrybook.Within -/
theorem within_spec (n lo hi : Int) (h : lo ≤ hi) (hl : -2 ^ 60 ≤ lo) (hh : hi ≤ 2 ^ 60) (σ : St) : T Try.prog 36 [I n, I lo, I hi] σ (I (withinE n lo hi)) σ := by
  refine in36 (by simp) fun wf hab => ?_
  clear hab
  have w1 : IntKind.i64.wrap (hi - lo) = hi - lo := IntWalk.i64_in _ (by omega)
  have w2 : IntKind.i64.wrap (hi - lo + 1) = hi - lo + 1 := IntWalk.i64_in _ (by omega)
  have w0 : ¬ (hi - lo + 1 = 0) := by omega
  have hm := tmod_small n (hi - lo + 1) (by omega)
  have rest : ∀ F s, F 0 = I n → F 1 = I lo → F 2 = I hi → s = σ → ¬ (n ≥ lo ∧ n ≤ hi) → SWP Try.prog σ.next (.seq (.reg [⟨some 16, none, .mv (.t 0)⟩, ⟨some 17, none, .mv (.t 2)⟩, ⟨some 18, none, .mv (.t 1)⟩, ⟨some 19, none, .bin .sub 0 (.t 17) (.t 18)⟩, ⟨some 20, none, .bin .add 0 (.t 19) (.k (.int .i64 1))⟩, ⟨some 21, none, .bin .rem 0 (.t 16) (.t 20)⟩, ⟨some 0, none, .mv (.t 21)⟩])
      (.seq (.seq (.reg [⟨some 22, none, .mv (.t 0)⟩, ⟨some 23, none, .bin .lss 0 (.t 22) (.k (.int .i64 0))⟩])
      (.cond (.t 23)
        (.reg [⟨some 24, none, .mv (.t 0)⟩, ⟨some 25, none, .mv (.t 2)⟩, ⟨some 26, none, .bin .add 0 (.t 24) (.t 25)⟩, ⟨some 27, none, .mv (.t 1)⟩, ⟨some 28, none, .bin .sub 0 (.t 26) (.t 27)⟩, ⟨some 29, none, .bin .add 0 (.t 28) (.k (.int .i64 1))⟩, ⟨some 0, none, .mv (.t 29)⟩])
        .skip))
      (.seq (.reg [⟨some 30, none, .mv (.t 1)⟩, ⟨some 31, none, .mv (.t 0)⟩, ⟨some 32, none, .bin .add 0 (.t 30) (.t 31)⟩, ⟨some 6, none, .mv (.t 32)⟩])
      .ret))) (retQ σ.next [.t 6] fun v' s' => v' = I (withinE n lo hi) ∧ s' = σ) F s := by
    rintro F s h0 h1 h2 rfl hno
    first | refine .seq (.rg fun A hA K hK => ?_) | refine .seq (.seq (.rg fun A hA K hK => ?_)) | refine .rg fun A hA K hK => ?_ | refine .seq (.rd fun A hA K hK => ?_) | refine .seq (.seq (.rd fun A hA K hK => ?_)) | refine .rd fun A hA K hK => ?_
    simp (maxSteps := 1000000) only [go_sem, hA.nil, hA.go, hA.yes, hA.noT, hA.noF, hA.skp, h0, h1, h2, w1, w2, w0]
    refine hK _ _ ?_; clear hK K hA A
    first | refine .seq (.rg fun A hA K hK => ?_) | refine .seq (.seq (.rg fun A hA K hK => ?_)) | refine .rg fun A hA K hK => ?_ | refine .seq (.rd fun A hA K hK => ?_) | refine .seq (.seq (.rd fun A hA K hK => ?_)) | refine .rd fun A hA K hK => ?_
    simp (maxSteps := 1000000) only [go_sem, hA.nil, hA.go, hA.yes, hA.noT, hA.noF, hA.skp]
    refine hK _ _ ?_; clear hK K hA A
    by_cases hneg : n.tmod (hi - lo + 1) < 0
    · have w3 : IntKind.i64.wrap (n.tmod (hi - lo + 1) + hi) = n.tmod (hi - lo + 1) + hi := IntWalk.i64_in _ (by omega)
      have w4 : IntKind.i64.wrap (n.tmod (hi - lo + 1) + hi - lo) = n.tmod (hi - lo + 1) + hi - lo := IntWalk.i64_in _ (by omega)
      have w5 : IntKind.i64.wrap (n.tmod (hi - lo + 1) + hi - lo + 1) = n.tmod (hi - lo + 1) + hi - lo + 1 := IntWalk.i64_in _ (by omega)
      have w6 : IntKind.i64.wrap (lo + (n.tmod (hi - lo + 1) + hi - lo + 1)) = withinE n lo hi := by
        rw [withinE, if_neg hno, if_pos hneg, IntWalk.i64_in _ (by omega)]; omega
      refine .cond (t := true) (by simp (maxSteps := 1000000) only [go_sem, hneg]) (fun _ => ?_) (fun h => by cases h)
      first | refine .seq (.rg fun A hA K hK => ?_) | refine .seq (.seq (.rg fun A hA K hK => ?_)) | refine .rg fun A hA K hK => ?_ | refine .seq (.rd fun A hA K hK => ?_) | refine .seq (.seq (.rd fun A hA K hK => ?_)) | refine .rd fun A hA K hK => ?_
      simp (maxSteps := 1000000) only [go_sem, hA.nil, hA.go, hA.yes, hA.noT, hA.noF, hA.skp, h1, h2, w3, w4, w5]
      refine hK _ _ ?_; clear hK K hA A
      first | refine .seq (.rg fun A hA K hK => ?_) | refine .seq (.seq (.rg fun A hA K hK => ?_)) | refine .rg fun A hA K hK => ?_ | refine .seq (.rd fun A hA K hK => ?_) | refine .seq (.seq (.rd fun A hA K hK => ?_)) | refine .rd fun A hA K hK => ?_
      simp (maxSteps := 1000000) only [go_sem, hA.nil, hA.go, hA.yes, hA.noT, hA.noF, hA.skp, h1, w6]
      refine hK _ _ ?_; clear hK K hA A
      exact .ret (ret1 (by simp (maxSteps := 1000000) only [go_sem]) rfl)
    · have w6 : IntKind.i64.wrap (lo + n.tmod (hi - lo + 1)) = withinE n lo hi := by
        rw [withinE, if_neg hno, if_neg hneg, IntWalk.i64_in _ (by omega)]
      refine .cond (t := false) (by simp (maxSteps := 1000000) only [go_sem, hneg]) (fun h => by cases h) (fun _ => .skip ?_)
      first | refine .seq (.rg fun A hA K hK => ?_) | refine .seq (.seq (.rg fun A hA K hK => ?_)) | refine .rg fun A hA K hK => ?_ | refine .seq (.rd fun A hA K hK => ?_) | refine .seq (.seq (.rd fun A hA K hK => ?_)) | refine .rd fun A hA K hK => ?_
      simp (maxSteps := 1000000) only [go_sem, hA.nil, hA.go, hA.yes, hA.noT, hA.noF, hA.skp, h1, w6]
      refine hK _ _ ?_; clear hK K hA A
      exact .ret (ret1 (by simp (maxSteps := 1000000) only [go_sem]) rfl)
  unfold c36
  first | refine .seq (.rg fun A hA K hK => ?_) | refine .seq (.seq (.rg fun A hA K hK => ?_)) | refine .rg fun A hA K hK => ?_ | refine .seq (.rd fun A hA K hK => ?_) | refine .seq (.seq (.rd fun A hA K hK => ?_)) | refine .rd fun A hA K hK => ?_
  simp (maxSteps := 1000000) only [go_sem, hA.nil, hA.go, hA.yes, hA.noT, hA.noF, hA.skp]
  refine hK _ _ ?_; clear hK K hA A
  by_cases h1 : n ≥ lo
  · by_cases h2 : n ≤ hi
    · first | refine .seq (.rg fun A hA K hK => ?_) | refine .seq (.seq (.rg fun A hA K hK => ?_)) | refine .rg fun A hA K hK => ?_ | refine .seq (.rd fun A hA K hK => ?_) | refine .seq (.seq (.rd fun A hA K hK => ?_)) | refine .rd fun A hA K hK => ?_
      simp (maxSteps := 1000000) only [go_sem, hA.nil, hA.go, hA.yes, hA.noT, hA.noF, hA.skp, h1, h2]
      refine hK _ _ ?_; clear hK K hA A
      refine .cond (t := true) (by simp (maxSteps := 1000000) only [go_sem, h1, h2]) (fun _ => ?_) (fun h => by cases h)
      first | refine .seq (.rg fun A hA K hK => ?_) | refine .seq (.seq (.rg fun A hA K hK => ?_)) | refine .rg fun A hA K hK => ?_ | refine .seq (.rd fun A hA K hK => ?_) | refine .seq (.seq (.rd fun A hA K hK => ?_)) | refine .rd fun A hA K hK => ?_
      simp (maxSteps := 1000000) only [go_sem, hA.nil, hA.go, hA.yes, hA.noT, hA.noF, hA.skp]
      refine hK _ _ ?_; clear hK K hA A
      exact .ret (ret1 (by rw [withinE, if_pos ⟨h1, h2⟩]; simp (maxSteps := 1000000) only [go_sem]) rfl)
    · first | refine .seq (.rg fun A hA K hK => ?_) | refine .seq (.seq (.rg fun A hA K hK => ?_)) | refine .rg fun A hA K hK => ?_ | refine .seq (.rd fun A hA K hK => ?_) | refine .seq (.seq (.rd fun A hA K hK => ?_)) | refine .rd fun A hA K hK => ?_
      simp (maxSteps := 1000000) only [go_sem, hA.nil, hA.go, hA.yes, hA.noT, hA.noF, hA.skp, h1, h2]
      refine hK _ _ ?_; clear hK K hA A
      refine .cond (t := false) (by simp (maxSteps := 1000000) only [go_sem, h1, h2]) (fun h => by cases h) (fun _ => .skip ?_)
      exact rest _ _ (by simp (maxSteps := 1000000) only [go_sem]) (by simp (maxSteps := 1000000) only [go_sem]) (by simp (maxSteps := 1000000) only [go_sem]) rfl (fun h => h2 h.2)
  · first | refine .seq (.rg fun A hA K hK => ?_) | refine .seq (.seq (.rg fun A hA K hK => ?_)) | refine .rg fun A hA K hK => ?_ | refine .seq (.rd fun A hA K hK => ?_) | refine .seq (.seq (.rd fun A hA K hK => ?_)) | refine .rd fun A hA K hK => ?_
    simp (maxSteps := 1000000) only [go_sem, hA.nil, hA.go, hA.yes, hA.noT, hA.noF, hA.skp, h1]
    refine hK _ _ ?_; clear hK K hA A
    refine .cond (t := false) (by simp (maxSteps := 1000000) only [go_sem, h1]) (fun h => by cases h) (fun _ => .skip ?_)
    exact rest _ _ (by simp (maxSteps := 1000000) only [go_sem]) (by simp (maxSteps := 1000000) only [go_sem]) (by simp (maxSteps := 1000000) only [go_sem]) rfl (fun h => h1 h.1)

def atE (n k : Int) : Int := (withinE n 0 1048576).tmod (max k 1)
theorem atE_in (n k : Int) (hk : 1 ≤ k) : 0 ≤ atE n k ∧ atE n k < k := by
  have h1 := withinE_in n 0 1048576 (by decide)
  unfold atE
  rw [Int.max_eq_left (by omega)]
  exact ⟨Int.tmod_nonneg _ h1.1, Int.tmod_lt_of_pos _ (by omega)⟩
/-- parquetrykeep.at -/
theorem at_spec (n k : Int) (σ : St) : T Try.prog 101 [I n, I k] σ (I (atE n k)) σ := by
  refine in101 (by simp) fun wf hab => ?_
  clear hab
  have h0 : ¬ (max k 1 = 0) := by omega
  unfold c101
  first | refine .seq (.rg fun A hA K hK => ?_) | refine .seq (.seq (.rg fun A hA K hK => ?_)) | refine .rg fun A hA K hK => ?_ | refine .seq (.rd fun A hA K hK => ?_) | refine .seq (.seq (.rd fun A hA K hK => ?_)) | refine .rd fun A hA K hK => ?_
  simp (maxSteps := 1000000) only [go_sem, hA.nil, hA.go, hA.yes, hA.noT, hA.noF, hA.skp]
  refine hK _ _ ?_; clear hK K hA A
  first | refine .seq (.rg fun A hA K hK => ?_) | refine .seq (.seq (.rg fun A hA K hK => ?_)) | refine .rg fun A hA K hK => ?_ | refine .seq (.rd fun A hA K hK => ?_) | refine .seq (.seq (.rd fun A hA K hK => ?_)) | refine .rd fun A hA K hK => ?_
  simp (maxSteps := 1000000) only [go_sem, hA.nil, hA.go, hA.yes, hA.noT, hA.noF, hA.skp]
  first | refine aopq_call (within_spec n 0 1048576 (by decide) (by decide) (by decide) σ) (by simp (maxSteps := 1000000) only [go_sem, h0]) ?_ | refine aop_call (within_spec n 0 1048576 (by decide) (by decide) (by decide) σ) (by simp (maxSteps := 1000000) only [go_sem, h0]) ?_
  try simp (maxSteps := 1000000) only [go_sem, hA.nil, hA.go, hA.yes, hA.noT, hA.noF, hA.skp, h0]
  refine hK _ _ ?_; clear hK K hA A
  exact .ret (ret1 (by simp (maxSteps := 1000000) only [go_sem, atE]) rfl)

/-! The tape: what is read, and where one is then. -/
def nxE (l : List Int) (p : Nat) (n : Int) : Int := if l.length ≤ p ∨ n < 1 then 0 else (withinE (l.getD p 0) 0 1073741824).tmod n
def nxP (l : List Int) (p : Nat) (n : Int) : Nat := if l.length ≤ p ∨ n < 1 then p else p + 1
theorem nxE_in (l : List Int) (p : Nat) (n : Int) : 0 ≤ nxE l p n ∧ (1 ≤ n → nxE l p n < n) ∧ nxE l p n ≤ 1073741824 := by
  have h1 := withinE_in (l.getD p 0) 0 1073741824 (by decide)
  unfold nxE
  split
  · omega
  · refine ⟨Int.tmod_nonneg _ h1.1, fun h => Int.tmod_lt_of_pos _ (by omega), ?_⟩
    have h2 : (withinE (l.getD p 0) 0 1073741824).tmod n ≤ withinE (l.getD p 0) 0 1073741824 := by
      rcases Int.lt_or_le (withinE (l.getD p 0) 0 1073741824) n with h | h
      · rw [Int.tmod_eq_of_lt h1.1 h]; omega
      · have := Int.tmod_lt_of_pos (withinE (l.getD p 0) 0 1073741824) (show 0 < n by omega)
        omega
    omega
abbrev tapeB (l : List Int) (p : Nat) : Blk := .cells 2 [[ints l, I p]]

theorem set_same {σ : St} {b : Nat} {B : Blk} (h : σ.blk b = some B) : σ.set b B = σ := by
  cases σ with
  | mk nx bl =>
    simp only [St.set, St.mk.injEq, true_and]
    funext c
    by_cases hc : c = b
    · subst hc; rw [if_pos rfl]; exact h.symm
    · rw [if_neg hc]


/-- Tape.Next -/
theorem next_spec {σ : St} {l : List Int} {p bT : Nat} (hb : σ.blk bT = some (tapeB l p)) (n : Int) (hp : p ≤ 2 ^ 50) : T Try.prog 53 [.ptr bT 0 0, I n] σ (I (nxE l p n)) (σ.set bT (tapeB l (nxP l p n))) := by
  refine in53 (by simp) fun wf hab => ?_
  clear hab
  simp only [tapeB] at hb
  unfold c53
  first | refine .seq (.rg fun A hA K hK => ?_) | refine .seq (.seq (.rg fun A hA K hK => ?_)) | refine .rg fun A hA K hK => ?_ | refine .seq (.rd fun A hA K hK => ?_) | refine .seq (.seq (.rd fun A hA K hK => ?_)) | refine .rd fun A hA K hK => ?_
  simp (maxSteps := 1000000) only [go_sem, hA.nil, hA.go, hA.yes, hA.noT, hA.noF, hA.skp]
  refine hK _ _ ?_; clear hK K hA A
  by_cases h1 : (p : Int) ≥ l.length
  · have e1 : nxE l p n = 0 := if_pos (.inl (by omega))
    have e2 : nxP l p n = p := if_pos (.inl (by omega))
    first | refine .seq (.rg fun A hA K hK => ?_) | refine .seq (.seq (.rg fun A hA K hK => ?_)) | refine .rg fun A hA K hK => ?_ | refine .seq (.rd fun A hA K hK => ?_) | refine .seq (.seq (.rd fun A hA K hK => ?_)) | refine .rd fun A hA K hK => ?_
    simp (maxSteps := 1000000) only [go_sem, hA.nil, hA.go, hA.yes, hA.noT, hA.noF, hA.skp, hb, h1]
    refine hK _ _ ?_; clear hK K hA A
    refine .cond (t := true) (by simp (maxSteps := 1000000) only [go_sem]) (fun _ => ?_) (fun h => by cases h)
    first | refine .seq (.rg fun A hA K hK => ?_) | refine .seq (.seq (.rg fun A hA K hK => ?_)) | refine .rg fun A hA K hK => ?_ | refine .seq (.rd fun A hA K hK => ?_) | refine .seq (.seq (.rd fun A hA K hK => ?_)) | refine .rd fun A hA K hK => ?_
    simp (maxSteps := 1000000) only [go_sem, hA.nil, hA.go, hA.yes, hA.noT, hA.noF, hA.skp]
    refine hK _ _ ?_; clear hK K hA A
    exact .ret (retS (by simp (maxSteps := 1000000) only [go_sem]; try rfl) ⟨by rw [e1], by rw [e2, set_same hb]⟩)
  · by_cases h2 : n < 1
    · have e1 : nxE l p n = 0 := if_pos (.inr h2)
      have e2 : nxP l p n = p := if_pos (.inr h2)
      first | refine .seq (.rg fun A hA K hK => ?_) | refine .seq (.seq (.rg fun A hA K hK => ?_)) | refine .rg fun A hA K hK => ?_ | refine .seq (.rd fun A hA K hK => ?_) | refine .seq (.seq (.rd fun A hA K hK => ?_)) | refine .rd fun A hA K hK => ?_
      simp (maxSteps := 1000000) only [go_sem, hA.nil, hA.go, hA.yes, hA.noT, hA.noF, hA.skp, hb, h1, h2]
      refine hK _ _ ?_; clear hK K hA A
      refine .cond (t := true) (by simp (maxSteps := 1000000) only [go_sem]) (fun _ => ?_) (fun h => by cases h)
      first | refine .seq (.rg fun A hA K hK => ?_) | refine .seq (.seq (.rg fun A hA K hK => ?_)) | refine .rg fun A hA K hK => ?_ | refine .seq (.rd fun A hA K hK => ?_) | refine .seq (.seq (.rd fun A hA K hK => ?_)) | refine .rd fun A hA K hK => ?_
      simp (maxSteps := 1000000) only [go_sem, hA.nil, hA.go, hA.yes, hA.noT, hA.noF, hA.skp]
      refine hK _ _ ?_; clear hK K hA A
      exact .ret (retS (by simp (maxSteps := 1000000) only [go_sem]; try rfl) ⟨by rw [e1], by rw [e2, set_same hb]⟩)
    · have hp' : p < l.length := by omega
      have e1 : nxE l p n = (withinE (l.getD p 0) 0 1073741824).tmod n := if_neg (by omega)
      have e2 : nxP l p n = p + 1 := if_neg (by omega)
      have w1 : IntKind.i64.wrap ((p : Int) + 1) = ((p + 1 : Nat) : Int) := IntWalk.i64_in _ (by omega)
      have w2 : IntKind.i64.wrap (((p + 1 : Nat) : Int) - 1) = p := by rw [IntWalk.i64_in _ (by omega)]; omega
      have e0 : (p : Int) < l.length := by omega
      have n0 : ¬ n = 0 := by omega
      have hg : (l.map fun n => [I n]).getD p [] = [I (l.getD p 0)] := by rw [ints_get hp']; simp [List.getD_eq_getElem?_getD, hp']
      first | refine .seq (.rg fun A hA K hK => ?_) | refine .seq (.seq (.rg fun A hA K hK => ?_)) | refine .rg fun A hA K hK => ?_ | refine .seq (.rd fun A hA K hK => ?_) | refine .seq (.seq (.rd fun A hA K hK => ?_)) | refine .rd fun A hA K hK => ?_
      simp (maxSteps := 1000000) only [go_sem, hA.nil, hA.go, hA.yes, hA.noT, hA.noF, hA.skp, hb, h1, h2]
      refine hK _ _ ?_; clear hK K hA A
      refine .cond (t := false) (by simp (maxSteps := 1000000) only [go_sem]) (fun h => by cases h) (fun _ => .skip ?_)
      first | refine .seq (.rg fun A hA K hK => ?_) | refine .seq (.seq (.rg fun A hA K hK => ?_)) | refine .rg fun A hA K hK => ?_ | refine .seq (.rd fun A hA K hK => ?_) | refine .seq (.seq (.rd fun A hA K hK => ?_)) | refine .rd fun A hA K hK => ?_
      simp (maxSteps := 1000000) only [go_sem, hA.nil, hA.go, hA.yes, hA.noT, hA.noF, hA.skp, hb, w1]
      refine hK _ _ ?_; clear hK K hA A
      first | refine .seq (.rg fun A hA K hK => ?_) | refine .seq (.seq (.rg fun A hA K hK => ?_)) | refine .rg fun A hA K hK => ?_ | refine .seq (.rd fun A hA K hK => ?_) | refine .seq (.seq (.rd fun A hA K hK => ?_)) | refine .rd fun A hA K hK => ?_
      simp (maxSteps := 1000000) only [go_sem, hA.nil, hA.go, hA.yes, hA.noT, hA.noF, hA.skp, w2, e0, hg]
      first | refine aopq_call (within_spec (l.getD p 0) 0 1073741824 (by decide) (by decide) (by decide) _) (by simp (maxSteps := 1000000) only [go_sem, n0]) ?_ | refine aop_call (within_spec (l.getD p 0) 0 1073741824 (by decide) (by decide) (by decide) _) (by simp (maxSteps := 1000000) only [go_sem, n0]) ?_
      try simp (maxSteps := 1000000) only [go_sem, hA.nil, hA.go, hA.yes, hA.noT, hA.noF, hA.skp, n0]
      refine hK _ _ ?_; clear hK K hA A
      exact .ret (retS (by simp (maxSteps := 1000000) only [go_sem]; try rfl) ⟨by rw [e1], by rw [e2]; simp only [tapeB, ints]⟩)

end Go.Proofs.Ytfjbabacpnnjmaa.Av
