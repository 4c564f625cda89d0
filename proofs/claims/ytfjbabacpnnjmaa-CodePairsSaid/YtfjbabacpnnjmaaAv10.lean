/- A logic of small values, and walks in it: keep's maker: step. keep.Programs: what is reached; rows of rows made plain. keep.Programs. -/
import Derived.Test.YtfjbabacpnnjmaaAv9
set_option linter.unusedVariables false
set_option linter.unusedSimpArgs false
set_option linter.deprecated false
namespace Go.Proofs.Ytfjbabacpnnjmaa.Av
open Go Go.Av
set_option maxRecDepth 20000
set_option maxHeartbeats 4000000

attribute [local go_sem] step_apply stepD_apply stepE_apply
attribute [local go_sem] aopq_mv aopq_pk aopq_al aopq_bx aopq_bd aopq_bs aopq_ld aopq_st aopq_nc aopq_bin aopq_un aopq_cv aopq_mi aopq_mf aopq_mm aopq_ms aopq_sc aopq_fa aopq_fl aopq_ia aopq_lk aopq_mu aopq_lm aopq_rg aopq_en aopq_ta aopq_ex aopq_ln aopq_ap aopq_mx aopq.eq_3 aop.eq_1 aop.eq_2 aop.eq_3 aop.eq_4 aop.eq_5 aop.eq_6 aop.eq_7 aop.eq_8 aop.eq_9 aop_bin atS_apply aop_un_not aop_un_neg aop.eq_14 aop.eq_15 aop.eq_16 aop.eq_17 aop.eq_18 aop_sc cutS_apply cutN_apply cutL_apply cutO_apply aop.eq_20 aop.eq_21 aop.eq_22 aop.eq_23 aop.eq_24 aop.eq_25 aop.eq_26 aop.eq_27 aop.eq_28 aop.eq_29 aop.eq_30 aop.eq_31 aop.eq_32 blk_push next_push blk_set next_set blk_kill next_kill frL_nil frL_cons Fits_nil Fits_cons Int.reduceBEq Int.reduceBNe Nat.sub_zero Option.map_some Option.map_none List.set_cons_succ true_or or_true false_or or_false Int.le_refl Int.cast_ofNat_Int decide_true decide_false List.cons_append fillA fillR rowsOf List.replicate_succ List.replicate_zero Nat.zero_mul getD_drop List.length_drop splice List.nil_append List.append_nil cond_true cond_false List.set_cons_zero List.length_set ev put_some put_none upd_apply abin asNat bounds row1 mk List.length_cons List.length_nil List.length_map List.drop_zero List.drop_succ_cons List.drop_nil List.getD_cons_zero List.getD_cons_succ Option.getD_none Option.getD_some List.take_succ_cons List.take_zero List.take_nil true_and and_true Int.toNat_natCast if_true if_false Nat.zero_add Nat.add_zero List.map_cons List.map_nil Nat.reduceEqDiff Nat.left_eq_add Nat.add_eq_left Nat.add_left_cancel_iff Nat.add_assoc Nat.reduceSub Nat.reduceAdd Nat.reduceLeDiff Nat.le_refl Nat.zero_le Nat.zero_lt_one Nat.lt_add_one Int.reduceLT Int.reduceLE Int.reduceToNat Nat.reduceLT Nat.reduceBEq Bool.false_eq_true Nat.reduceBNe ne_eq not_false_eq_true not_true_eq_false false_and and_false reduceIte Int.natCast_nonneg reduceCtorEq parts_agg parts_bool parts_int parts_str parts_lit parts_nils parts_sl parts_ptr Int.natCast_nonneg Int.natCast_nonneg beq_self_eq_true bne_self_eq_false Bool.true_and Bool.false_and Bool.and_true Bool.and_false Bool.true_or Bool.false_or Bool.or_true Bool.or_false Bool.not_true Bool.not_false
attribute [local go_sem] instr0 instr1 instr2 instr10 instr11 instr12 instrN instrA instr_len node0 node1 node2 node3 node4 node5 node6 nodeA node_len I ints progA progsA

section pk
variable {o : Nat → Option Nat} {σ : St} {b bL bR bT bG : Nat} {vl vr : List AV} {vw : AV} {vg : List AV} {m : MS} {gs : List (List (List AV))} {l : List Int} {p : Nat}

theorem getD_at' {α : Type} {l : List α} {i : Nat} (h : i < l.length) (x : α) : l.getD i x = l[i] := by simp [List.getD_eq_getElem?_getD, h]
/-- What a step leaves. -/
def StepQ (o : Nat → Option Nat) (σ : St) (b bL bR bT bG : Nat) (m : MS) (gs : List (List (List AV))) (l : List Int) (d : Nat) (t : St) : Prop :=
  ∃ o' vl' vr' vw' vg' m' gs' p', PK o' t b bL bR bT bG vl' vr' vw' vg' m' gs' l p' ∧ MStep d m m' ∧ Grow o σ o' t ∧ ∀ e, (gs'.getD e []).length ≤ (gs.getD e []).length + 1

theorem Grow.frame0 {o : Nat → Option Nat} {σ s : St} (hn : σ.next ≤ s.next) (hs : ∀ c, c < σ.next → o c = none → s.blk c = σ.blk c) : Grow o σ o s := ⟨hn, fun _ _ => rfl, hs⟩
theorem PK.none_new (h : PK o σ b bL bR bT bG vl vr vw vg m gs l p) {c : Nat} (hc : σ.next ≤ c) : o c = none := by
  cases hh : o c with
  | none => rfl
  | some x => have := h.lt hh; omega
theorem Grow.tape (h : PK o σ b bL bR bT bG vl vr vw vg m gs l p) (p' : Nat) : Grow o σ o (σ.set bT (tapeB l p')) :=
  .frame0 (Nat.le_refl _) fun c _ ho => by
    rw [blk_set, if_neg]; rintro rfl; rw [h.oT] at ho; cases ho

theorem KM.setTag {ps : List (List Instr)} {rs : List (List (List Int))} {w : List Msg} {tg : Int} (h : KM o σ b bL bR vl vr vw ps rs w tg) (tg' : Int) :
    KM o (σ.set b (.cells 4 [[.sl bL 0 ps.length, .sl bR 0 rs.length, vw, I tg']])) b bL bR vl vr vw ps rs w tg' ∧ GrowF o σ o (σ.set b (.cells 4 [[.sl bL 0 ps.length, .sl bR 0 rs.length, vw, I tg']])) := by
  have ne : ∀ {c x}, o c = some x → x ≠ 0 → (σ.set b (.cells 4 [[.sl bL 0 ps.length, .sl bR 0 rs.length, vw, I tg']])).blk c = σ.blk c := fun hc hx => by rw [blk_set, if_neg (ne_lab hc h.own0 hx)]
  refine ⟨⟨h.own0, h.ownL, h.ownR, h.lt, by rw [blk_set, if_pos rfl], by rw [ne h.ownL (by decide)]; exact h.hL, by rw [ne h.ownR (by decide)]; exact h.hR, h.hvl, h.hvr, h.hlr, fun d hd => (h.hd d hd).frame fun c hc => ne hc (by omega),
    fun d hd => (h.hs d hd).frame fun c hc => ne hc (by omega), h.hw.frame fun c hc => ne hc (by omega)⟩, Nat.le_refl _, fun _ _ => rfl, fun c hc ho => ?_⟩
  rw [blk_set, if_neg]; rintro rfl; have := ho _ h.own0; omega

/-- maker.step -/
theorem step_spec (h : PK o σ b bL bR bT bG vl vr vw vg m gs l p) (hm : MSOk m) (hl : l.length ≤ most) (d : Nat) (hd : d < m.ps.length) (hq : ∀ d, (gs.getD d []).length ≤ 999) :
    TQ Try.prog 55 [.ptr b 0 0, .ptr bT 0 0, I d, .ptr bG d 0] σ fun v t => v = .tup [] ∧ StepQ o σ b bL bR bT bG m gs l d t := by
  refine in55 (by simp) fun wf hab => ?_
  clear hab
  have n9 := h.n9
  have hlr := h.km.hlr
  have hdr : d < m.rs.length := by omega
  have hb := h.km.hb
  have hR := h.km.hR
  have e0 : (d : Int) < m.rs.length := by omega
  have hdw : d < vr.length := by rw [h.km.hvr]; exact hdr
  have hgr := vs_get hdw
  have hrl : (m.rs.getD d []).length ≤ 1000 := hm.r d
  unfold c55
  -- how many registers there are
  refine .midK (fun L t => L = [(0, .ptr b 0 0), (1, .ptr bT 0 0), (2, I d), (3, .ptr bG d 0), (8, I (m.rs.getD d []).length)] ∧ σ = t) ?_ ?_
  · rcases h.km.hs d hdr with ⟨q1, q2⟩ | ⟨c, q1, q2, q3⟩
    · rw [q1] at hgr
      have e3 : m.rs.getD d [] = [] := by simpa using q2
      first | refine .seq (.rg fun A hA K hK => ?_) | refine .seq (.seq (.rg fun A hA K hK => ?_)) | refine .rg fun A hA K hK => ?_ | refine .seq (.rd fun A hA K hK => ?_) | refine .seq (.seq (.rd fun A hA K hK => ?_)) | refine .rd fun A hA K hK => ?_
      simp (maxSteps := 1000000) only [go_sem, hA.nil, hA.go, hA.yes, hA.noT, hA.noF, hA.skp, hb, hR, hgr, e0, hdw]
      refine hK _ _ ?_; clear hK K hA A
      exact ⟨_, ⟨rfl, rfl⟩, by simp (maxSteps := 1000000) only [go_sem, e3]⟩
    · rw [q1] at hgr
      first | refine .seq (.rg fun A hA K hK => ?_) | refine .seq (.seq (.rg fun A hA K hK => ?_)) | refine .rg fun A hA K hK => ?_ | refine .seq (.rd fun A hA K hK => ?_) | refine .seq (.seq (.rd fun A hA K hK => ?_)) | refine .rd fun A hA K hK => ?_
      simp (maxSteps := 1000000) only [go_sem, hA.nil, hA.go, hA.yes, hA.noT, hA.noF, hA.skp, hb, hR, hgr, e0, hdw]
      refine hK _ _ ?_; clear hK K hA A
      exact ⟨_, ⟨rfl, rfl⟩, by simp (maxSteps := 1000000) only [go_sem]⟩
  rintro L t ⟨rfl, rfl⟩
  first | refine .seq (.rg fun A hA K hK => ?_) | refine .seq (.seq (.rg fun A hA K hK => ?_)) | refine .rg fun A hA K hK => ?_ | refine .seq (.rd fun A hA K hK => ?_) | refine .seq (.seq (.rd fun A hA K hK => ?_)) | refine .rd fun A hA K hK => ?_
  simp (maxSteps := 1000000) only [go_sem, hA.nil, hA.go, hA.yes, hA.noT, hA.noF, hA.skp]
  refine aopq_callT (next_ok h.hT h.hp hl 6) (by simp (maxSteps := 1000000) only [go_sem]) ?_
  try simp (maxSteps := 1000000) only [go_sem, hA.nil, hA.go, hA.yes, hA.noT, hA.noF, hA.skp]
  refine hK _ _ ?_; clear hK K hA A
  have hk := nxE_in l p 6
  generalize nxE l p 6 = k at hk
  have h1 := h.tape (nxP_le h.hp 6)
  have g1 : Grow o σ o (σ.set bT (tapeB l (nxP l p 6))) := .tape h _
  generalize hs1 : σ.set bT (tapeB l (nxP l p 6)) = s1 at *
  clear hs1
  generalize nxP l p 6 = p1 at *
  refine .midK (fun L t => L = [(0, .ptr b 0 0), (1, .ptr bT 0 0), (2, I d), (3, .ptr bG d 0), (8, I (m.rs.getD d []).length), (9, I k)] ∧ s1 = t ∧ (m.rs.getD d []).length ≠ 0 ∧ k ≠ 0) ?_ ?_
  · -- take
    refine .midK (fun L t => L = [(0, .ptr b 0 0), (1, .ptr bT 0 0), (2, I d), (3, .ptr bG d 0), (8, I (m.rs.getD d []).length), (9, I k), (30, .bool (decide ((m.rs.getD d []).length = 0 ∨ k = 0)))] ∧ s1 = t) ?_ ?_
    · by_cases hn : (m.rs.getD d []).length = 0
      · first | refine .seq (.rg fun A hA K hK => ?_) | refine .seq (.seq (.rg fun A hA K hK => ?_)) | refine .rg fun A hA K hK => ?_ | refine .seq (.rd fun A hA K hK => ?_) | refine .seq (.seq (.rd fun A hA K hK => ?_)) | refine .rd fun A hA K hK => ?_
        simp (maxSteps := 1000000) only [go_sem, hA.nil, hA.go, hA.yes, hA.noT, hA.noF, hA.skp, hn]
        refine hK _ _ ?_; clear hK K hA A
        exact ⟨_, ⟨rfl, rfl⟩, by simp (maxSteps := 1000000) only [go_sem, hn]⟩
      · have b1 : (((m.rs.getD d []).length : Int) == 0) = false := by
          rw [beq_eq_false_iff_ne]; omega
        by_cases hk0 : k = 0
        · first | refine .seq (.rg fun A hA K hK => ?_) | refine .seq (.seq (.rg fun A hA K hK => ?_)) | refine .rg fun A hA K hK => ?_ | refine .seq (.rd fun A hA K hK => ?_) | refine .seq (.seq (.rd fun A hA K hK => ?_)) | refine .rd fun A hA K hK => ?_
          simp (maxSteps := 1000000) only [go_sem, hA.nil, hA.go, hA.yes, hA.noT, hA.noF, hA.skp, b1, hk0]
          refine hK _ _ ?_; clear hK K hA A
          exact ⟨_, ⟨rfl, rfl⟩, by simp (maxSteps := 1000000) only [go_sem, hn, hk0]⟩
        · have b2 : (k == 0) = false := by simpa using hk0
          first | refine .seq (.rg fun A hA K hK => ?_) | refine .seq (.seq (.rg fun A hA K hK => ?_)) | refine .rg fun A hA K hK => ?_ | refine .seq (.rd fun A hA K hK => ?_) | refine .seq (.seq (.rd fun A hA K hK => ?_)) | refine .rd fun A hA K hK => ?_
          simp (maxSteps := 1000000) only [go_sem, hA.nil, hA.go, hA.yes, hA.noT, hA.noF, hA.skp, b1, b2]
          refine hK _ _ ?_; clear hK K hA A
          exact ⟨_, ⟨rfl, rfl⟩, by simp (maxSteps := 1000000) only [go_sem, hn, hk0]⟩
    rintro L t ⟨rfl, rfl⟩
    refine .cond (t := decide ((m.rs.getD d []).length = 0 ∨ k = 0)) (by simp (maxSteps := 1000000) only [go_sem]) (fun _ => ?_) (fun hz => .skip ⟨_, ⟨rfl, rfl, fun h => (of_decide_eq_false hz) (.inl h), fun h => (of_decide_eq_false hz) (.inr h)⟩, by simp (maxSteps := 1000000) only [go_sem]⟩)
    first | refine .seq (.rg fun A hA K hK => ?_) | refine .seq (.seq (.rg fun A hA K hK => ?_)) | refine .rg fun A hA K hK => ?_ | refine .seq (.rd fun A hA K hK => ?_) | refine .seq (.seq (.rd fun A hA K hK => ?_)) | refine .rd fun A hA K hK => ?_
    simp (maxSteps := 1000000) only [go_sem, hA.nil, hA.go, hA.yes, hA.noT, hA.noF, hA.skp]
    refine aopq_callT (next_ok h1.hT h1.hp hl 3) (by simp (maxSteps := 1000000) only [go_sem]) ?_
    have hj := nxE_in l p1 3
    generalize nxE l p1 3 = j at hj ⊢
    have w1 : IntKind.i64.wrap (1 + j) = 1 + j := IntWalk.i64_in _ (by omega)
    have h2 := h1.tape (nxP_le h1.hp 3)
    have g2 := g1.trans (Grow.tape h1 (nxP l p1 3))
    generalize hs2 : s1.set bT (tapeB l (nxP l p1 3)) = s2 at *
    clear hs2
    generalize nxP l p1 3 = p2 at *
    try simp (maxSteps := 1000000) only [go_sem, hA.nil, hA.go, hA.yes, hA.noT, hA.noF, hA.skp, w1]
    refine aopq_callQ (tensor_spec h2.hT h2.hp hl [1 + j] (by simp)) (by simp (maxSteps := 1000000) only [go_sem]) ?_
    rintro v s3 ⟨data, p3, rfl, hdl, hp3, hT3, hn3, hx3⟩
    have h3 : PK o s3 b bL bR bT bG vl vr vw vg m gs l p3 := (h2.tape hp3).frame hn3 fun c hc => by
      rw [blk_set]
      by_cases hcb : c = bT
      · rw [if_pos hcb, hcb]; exact hT3
      · rw [if_neg hcb]; exact hx3 c (h2.km.lt c hc) hcb
    have g3 : Grow o σ o s3 := g2.trans (.frame0 hn3 fun c hc ho => hx3 c hc (by rintro rfl; rw [h.oT] at ho; cases ho))
    try simp (maxSteps := 1000000) only [go_sem, hA.nil, hA.go, hA.yes, hA.noT, hA.noF, hA.skp]
    refine hK _ _ ?_; clear hK K hA A
    generalize hs4 : (s3.push (.cells 2 [[.lit 1 [], .lit 1 []]])).set s3.next _ = s4
    have hb4 : s4.blk s3.next = some (.cells 2 [[ints [1 + j], ints data]]) := by subst hs4; simp (maxSteps := 1000000) only [go_sem]
    have hn4 : s4.next = s3.next + 1 := by subst hs4; simp (maxSteps := 1000000) only [go_sem]
    have hx4 : ∀ c, c < s3.next → s4.blk c = s3.blk c := fun c hc => by subst hs4; simp (disch := omega) only [go_sem, if_neg]
    have h4 : PK o s4 b bL bR bT bG vl vr vw vg m gs l p3 := h3.frame (by omega) fun c hc => hx4 c (h3.km.lt c hc)
    have g4 : Grow o σ o s4 := g3.trans (.frame0 (by omega) fun c hc _ => hx4 c hc)
    clear hs4
    obtain ⟨h5, g5⟩ := h4.give hd (gs.getD d [] ++ [[ints [1 + j], ints data]])
    have hdg : d < vg.length := by rw [h.hvg]; exact hd
    have hgg := vs_get hdg
    have hG4 := h4.hG
    have hq' := hq d
    refine .midK (fun L t => L = [(0, .ptr b 0 0), (2, I d), (3, .ptr bG d 0), (10, .ptr s3.next 0 0)] ∧ growS s4 bG vg d 2 (gs.getD d [] ++ [[ints [1 + j], ints data]]) = t) ?_ ?_
    · rcases h4.hg d hd with ⟨q1, q2⟩ | ⟨c, q1, q2, q3⟩
      · rw [q1] at hgg
        have e3 : gs.getD d [] = [] := by simpa using q2
        have nG : ¬ bG = s4.next := by have := h4.lt h4.oG; omega
        first | refine .seq (.rg fun A hA K hK => ?_) | refine .seq (.seq (.rg fun A hA K hK => ?_)) | refine .rg fun A hA K hK => ?_ | refine .seq (.rd fun A hA K hK => ?_) | refine .seq (.seq (.rd fun A hA K hK => ?_)) | refine .rd fun A hA K hK => ?_
        simp (maxSteps := 1000000) only [go_sem, hA.nil, hA.go, hA.yes, hA.noT, hA.noF, hA.skp, hG4, hgg, hdg, hb4, nG]
        refine ⟨by decide, by decide, ?_⟩
        refine hK _ _ ?_; clear hK K hA A
        refine ⟨_, ⟨rfl, ?_⟩, by simp (maxSteps := 1000000) only [go_sem]⟩
        rw [growS, q1, e3]; rfl
      · rw [q1] at hgg
        have ltc := h4.lt q2
        have ncG := ne_lab q2 h4.oG (by omega)
        have nGc : ¬ bG = c := fun e => ncG e.symm
        have nG : ¬ bG = s4.next := by have := h4.lt h4.oG; omega
        have m1 : (gs.getD d []).length + 1 ≤ most := by simp only [most]; omega
        have m2 : ((gs.getD d []).length + 1) * 48 ≤ most := by simp only [most]; omega
        have ht : List.take (gs.getD d []).length (gs.getD d []) = gs.getD d [] := List.take_of_length_le (Nat.le_refl _)
        first | refine .seq (.rg fun A hA K hK => ?_) | refine .seq (.seq (.rg fun A hA K hK => ?_)) | refine .rg fun A hA K hK => ?_ | refine .seq (.rd fun A hA K hK => ?_) | refine .seq (.seq (.rd fun A hA K hK => ?_)) | refine .rd fun A hA K hK => ?_
        simp (maxSteps := 1000000) only [go_sem, hA.nil, hA.go, hA.yes, hA.noT, hA.noF, hA.skp, hG4, hgg, hdg, hb4, nG, nGc, q3, m1, m2, ht]
        refine hK _ _ ?_; clear hK K hA A
        refine ⟨_, ⟨rfl, ?_⟩, by simp (maxSteps := 1000000) only [go_sem]⟩
        rw [growS, q1]; simp only [killV, List.length_append, List.length_cons, List.length_nil]; rfl
    rintro L t ⟨rfl, ht⟩
    rw [ht] at h5 g5
    have hbx : t.blk s3.next = some (.cells 2 [[ints [1 + j], ints data]]) := by
      rw [g5.2.2 s3.next (by omega) (h3.none_new (Nat.le_refl _))]; exact hb4
    have hgl : (gs.getD d [] ++ [[ints [1 + j], ints data]]).length = (gs.getD d []).length + 1 := by simp
    rw [hgl] at h5
    have htn : s4.next < t.next := by rw [← ht, growS_next]; omega
    clear ht
    generalize newLab o s4.next (3001 + d) = o5 at h5 g5
    have hG5 := h5.hG
    have hdg5 : d < (vg.set d (.sl s4.next 0 ((gs.getD d []).length + 1))).length := by simpa using hdg
    have hgg5 := vs_get hdg5
    rw [getD_set_eq _ _ hdg] at hgg5
    have w2 : IntKind.i64.wrap ((((gs.getD d []).length + 1 : Nat) : Int) - 1) = (gs.getD d []).length := by rw [IntWalk.i64_in _ (by omega)]; omega
    obtain ⟨o6, vl6, vr6, hk6, g6⟩ := h5.km.afterPut d hd (by omega) (takeI 0 (gs.getD d []).length) [1 + j]
    first | refine .seq (.rg fun A hA K hK => ?_) | refine .seq (.seq (.rg fun A hA K hK => ?_)) | refine .rg fun A hA K hK => ?_ | refine .seq (.rd fun A hA K hK => ?_) | refine .seq (.seq (.rd fun A hA K hK => ?_)) | refine .rd fun A hA K hK => ?_
    simp (maxSteps := 1000000) only [go_sem, hA.nil, hA.go, hA.yes, hA.noT, hA.noF, hA.skp, hG5, hdg, hdg5, hgg5, hbx, w2]
    refine aop_callF (put_other h5.km d hd (by omega) (by have := hm.p d; omega) (by omega) (takeI 0 (gs.getD d []).length) (by simp [takeI]) [1 + j]) (by simp (maxSteps := 1000000) only [go_sem, takeI, instrL, emptyN]) ?_
    try simp (maxSteps := 1000000) only [go_sem, hA.nil, hA.go, hA.yes, hA.noT, hA.noF, hA.skp]
    refine hK _ _ ?_; clear hK K hA A
    refine .ret ⟨[], by simp, .tup [], _, .refl _ _ _, rfl, o6, vl6, vr6, _, _, m.putO d (takeI 0 (gs.getD d []).length) [1 + j], _, p3, h5.put (m' := m.putO d (takeI 0 (gs.getD d []).length) [1 + j]) hk6 g6 (by simp [MS.putO]), .take _ _ (by omega) (by omega) (by simp), (g4.trans g5).trans g6.grow, fun e => ?_⟩
    by_cases hed : e = d
    · subst hed; rw [getD_set_eq _ _ (by rw [h.hgs]; exact hd)]; simp
    · rw [getD_set_ne _ _ hed]; omega
  · -- a register, and what is done with it
    rintro L t ⟨rfl, rfl, hn0, hk0⟩
    first | refine .seq (.rg fun A hA K hK => ?_) | refine .seq (.seq (.rg fun A hA K hK => ?_)) | refine .rg fun A hA K hK => ?_ | refine .seq (.rd fun A hA K hK => ?_) | refine .seq (.seq (.rd fun A hA K hK => ?_)) | refine .rd fun A hA K hK => ?_
    simp (maxSteps := 1000000) only [go_sem, hA.nil, hA.go, hA.yes, hA.noT, hA.noF, hA.skp]
    refine aopq_callT (next_ok h1.hT h1.hp hl (m.rs.getD d []).length) (by simp (maxSteps := 1000000) only [go_sem]) ?_
    try simp (maxSteps := 1000000) only [go_sem, hA.nil, hA.go, hA.yes, hA.noT, hA.noF, hA.skp]
    refine hK _ _ ?_; clear hK K hA A
    have ha := nxE_in l p1 (m.rs.getD d []).length
    obtain ⟨a, ha'⟩ := Int.eq_ofNat_of_zero_le ha.1
    have hal : a < (m.rs.getD d []).length := by have := ha.2.1 (by omega); omega
    rw [ha']
    clear ha ha'
    have h2 := h1.tape (nxP_le h1.hp (m.rs.getD d []).length)
    have g2 := g1.trans (Grow.tape h1 (nxP l p1 (m.rs.getD d []).length))
    generalize hs2 : s1.set bT (tapeB l (nxP l p1 (m.rs.getD d []).length)) = s2 at *
    clear hs2
    generalize nxP l p1 (m.rs.getD d []).length = p2 at *
    obtain ⟨c, q1, q2, q3⟩ : ∃ c, vr.getD d .undef = .sl c 0 (m.rs.getD d []).length ∧ o c = some (5 + 2 * d) ∧ s2.blk c = some (.cells 1 ((m.rs.getD d []).map shapeL)) := by
      rcases h2.km.hs d hdr with ⟨_, q2⟩ | ⟨c, q1, q2, q3⟩
      · have : m.rs.getD d [] = [] := by simpa using q2
        rw [this] at hn0; exact absurd rfl hn0
      · exact ⟨c, by rw [q1, List.length_map], q2, q3⟩
    rw [q1] at hgr
    have hb2 := h2.km.hb
    have hR2 := h2.km.hR
    have hga := shape_get hal
    have ea : (a : Int) < (m.rs.getD d []).length := by omega
    generalize hsa : (m.rs.getD d []).getD a [] = sa at hga
    have hsam : sa ∈ m.rs.getD d [] := by
      rw [← hsa]
      have : (m.rs.getD d []).getD a [] = (m.rs.getD d [])[a] := getD_at' hal []
      rw [this]; exact List.getElem_mem hal
    have hsl : sa.length ≤ 1 := hm.s d sa hsam
    first | refine .seq (.rg fun A hA K hK => ?_) | refine .seq (.seq (.rg fun A hA K hK => ?_)) | refine .rg fun A hA K hK => ?_ | refine .seq (.rd fun A hA K hK => ?_) | refine .seq (.seq (.rd fun A hA K hK => ?_)) | refine .rd fun A hA K hK => ?_
    simp (maxSteps := 1000000) only [go_sem, hA.nil, hA.go, hA.yes, hA.noT, hA.noF, hA.skp, hb2, hR2, hgr, e0, hdw, q3, hga, ea, hal]
    refine hK _ _ ?_; clear hK K hA A
    first | refine .seq (.rg fun A hA K hK => ?_) | refine .seq (.seq (.rg fun A hA K hK => ?_)) | refine .rg fun A hA K hK => ?_ | refine .seq (.rd fun A hA K hK => ?_) | refine .seq (.seq (.rd fun A hA K hK => ?_)) | refine .rd fun A hA K hK => ?_
    simp (maxSteps := 1000000) only [go_sem, hA.nil, hA.go, hA.yes, hA.noT, hA.noF, hA.skp]
    refine hK _ _ ?_; clear hK K hA A
    refine .block ?_
    refine .keep [(0, .ptr b 0 0), (1, .ptr bT 0 0), (2, I d), (9, I k), (11, I a), (12, ints sa), (69, I k)] (by simp (maxSteps := 1000000) only [go_sem]) ?_
    by_cases k1 : k = 1
    · subst k1
      first | refine .seq (.rg fun A hA K hK => ?_) | refine .seq (.seq (.rg fun A hA K hK => ?_)) | refine .rg fun A hA K hK => ?_ | refine .seq (.rd fun A hA K hK => ?_) | refine .seq (.seq (.rd fun A hA K hK => ?_)) | refine .rd fun A hA K hK => ?_
      simp (maxSteps := 1000000) only [go_sem, hA.nil, hA.go, hA.yes, hA.noT, hA.noF, hA.skp]
      refine hK _ _ ?_; clear hK K hA A
      refine .cond (t := true) (by simp (maxSteps := 1000000) only [go_sem]) (fun _ => ?_) (fun h => by cases h)
      first | refine .seq (.rg fun A hA K hK => ?_) | refine .seq (.seq (.rg fun A hA K hK => ?_)) | refine .rg fun A hA K hK => ?_ | refine .seq (.rd fun A hA K hK => ?_) | refine .seq (.seq (.rd fun A hA K hK => ?_)) | refine .rd fun A hA K hK => ?_
      simp (maxSteps := 1000000) only [go_sem, hA.nil, hA.go, hA.yes, hA.noT, hA.noF, hA.skp]
      refine aopq_callT (next_ok h2.hT h2.hp hl 2) (by simp (maxSteps := 1000000) only [go_sem]) ?_
      have hj := nxE_in l p2 2
      generalize nxE l p2 2 = j at hj ⊢
      have w1 : IntKind.i64.wrap (4 + j) = 4 + j := IntWalk.i64_in _ (by omega)
      have h3 := h2.tape (nxP_le h2.hp 2)
      have g3 := g2.trans (Grow.tape h2 (nxP l p2 2))
      generalize hs3 : s2.set bT (tapeB l (nxP l p2 2)) = s3 at *
      clear hs3
      generalize nxP l p2 2 = p3 at *
      try simp (maxSteps := 1000000) only [go_sem, hA.nil, hA.go, hA.yes, hA.noT, hA.noF, hA.skp, w1]
      obtain ⟨o4, vl4, vr4, hk4, g4⟩ := h3.km.afterPut d hd (by omega) (workI [a] (4 + j)) sa
      refine aopq_callT (put_other h3.km d hd (by omega) (by have := hm.p d; omega) (by omega) (workI [a] (4 + j)) (by simp [workI]) sa) (by simp (maxSteps := 1000000) only [go_sem, workI, instrL]) ?_
      try simp (maxSteps := 1000000) only [go_sem, hA.nil, hA.go, hA.yes, hA.noT, hA.noF, hA.skp]
      refine hK _ _ ?_; clear hK K hA A
      exact retS0n ⟨rfl, o4, vl4, vr4, _, _, m.putO d (workI [a] (4 + j)) sa, _, p3, h3.put (m' := m.putO d (workI [a] (4 + j)) sa) hk4 g4 (by simp [MS.putO]), .work _ _ _ (by simp) (fun r hr => ⟨a, by simpa using hr, hal⟩) hsam, g3.trans g4.grow, fun e => by omega⟩
    have c1 : (k == 1) = false := by simpa using k1
    by_cases k2 : k = 2
    · subst k2
      first | refine .seq (.rg fun A hA K hK => ?_) | refine .seq (.seq (.rg fun A hA K hK => ?_)) | refine .rg fun A hA K hK => ?_ | refine .seq (.rd fun A hA K hK => ?_) | refine .seq (.seq (.rd fun A hA K hK => ?_)) | refine .rd fun A hA K hK => ?_
      simp (maxSteps := 1000000) only [go_sem, hA.nil, hA.go, hA.yes, hA.noT, hA.noF, hA.skp]
      refine hK _ _ ?_; clear hK K hA A
      refine .cond (t := false) (by simp (maxSteps := 1000000) only [go_sem]) (fun h => by cases h) (fun _ => ?_)
      first | refine .seq (.rg fun A hA K hK => ?_) | refine .seq (.seq (.rg fun A hA K hK => ?_)) | refine .rg fun A hA K hK => ?_ | refine .seq (.rd fun A hA K hK => ?_) | refine .seq (.seq (.rd fun A hA K hK => ?_)) | refine .rd fun A hA K hK => ?_
      simp (maxSteps := 1000000) only [go_sem, hA.nil, hA.go, hA.yes, hA.noT, hA.noF, hA.skp]
      refine hK _ _ ?_; clear hK K hA A
      refine .cond (t := true) (by simp (maxSteps := 1000000) only [go_sem]) (fun _ => ?_) (fun h => by cases h)
      first | refine .seq (.rg fun A hA K hK => ?_) | refine .seq (.seq (.rg fun A hA K hK => ?_)) | refine .rg fun A hA K hK => ?_ | refine .seq (.rd fun A hA K hK => ?_) | refine .seq (.seq (.rd fun A hA K hK => ?_)) | refine .rd fun A hA K hK => ?_
      simp (maxSteps := 1000000) only [go_sem, hA.nil, hA.go, hA.yes, hA.noT, hA.noF, hA.skp, hb2, hR2, hgr, e0, hdw]
      refine aopq_callT (keepSame_spec (m.rs.getD d []) sa q3 (by omega)) (by simp (maxSteps := 1000000) only [go_sem]) ?_
      try simp (maxSteps := 1000000) only [go_sem, hA.nil, hA.go, hA.yes, hA.noT, hA.noF, hA.skp]
      refine hK _ _ ?_; clear hK K hA A
      have hsame := sameE_has hal hsa
      have hmem : ∀ x ∈ sameE (m.rs.getD d []) sa (m.rs.getD d []).length, ∃ j : Nat, x = j ∧ j < (m.rs.getD d []).length := fun x hx => by
        obtain ⟨i, h1, h2, _⟩ := sameE_mem hx; exact ⟨i, h1, h2⟩
      have hsl2 := sameE_len (m.rs.getD d []) sa (m.rs.getD d []).length
      generalize sameE (m.rs.getD d []) sa (m.rs.getD d []).length = lst at hsame hmem hsl2 ⊢
      have hpos : 0 < lst.length := List.length_pos_of_mem hsame
      refine .keep [(0, .ptr b 0 0), (1, .ptr bT 0 0), (2, I d), (11, I a), (12, ints sa), (13, ints lst)] (by simp (maxSteps := 1000000) only [go_sem]) ?_
      refine .rdx fun A hA K hK => ?_
      have hle : 0 < (lst.length : Int) := by omega
      have h3 := h2.tape (nxP_le h2.hp lst.length)
      have hi := nxE_in l p2 lst.length
      have g3 := g2.trans (Grow.tape h2 (nxP l p2 lst.length))
      have hT2 := next_ok h2.hT h2.hp hl lst.length
      obtain ⟨ix, hix⟩ := Int.eq_ofNat_of_zero_le hi.1
      have hil : ix < lst.length := by have := hi.2.1 (by omega); omega
      have eil : (ix : Int) < lst.length := by omega
      have hgl : (lst.map fun n => [I n]).getD ix [] = [I (lst.getD ix 0)] := by rw [ints_get hil]; simp [List.getD_eq_getElem?_getD, hil]
      obtain ⟨jr, hjr, hjl⟩ := hmem (lst.getD ix 0) (by
        have : lst.getD ix 0 = lst[ix] := getD_at' hil 0
        rw [this]; exact List.getElem_mem hil)
      rw [hjr] at hgl
      have hT3 := next_ok h3.hT h3.hp hl 6
      have hj := nxE_in l (nxP l p2 lst.length) 6
      have h4 := h3.tape (nxP_le h3.hp 6)
      have g4 := g3.trans (Grow.tape h3 (nxP l (nxP l p2 lst.length) 6))
      rw [hix] at hT2
      generalize nxE l (nxP l p2 lst.length) 6 = jo at hj hT3
      have w1 : IntKind.i64.wrap (6 + jo) = 6 + jo := IntWalk.i64_in _ (by omega)
      generalize hs4 : (s2.set bT (tapeB l (nxP l p2 lst.length))).set bT (tapeB l (nxP l (nxP l p2 lst.length) 6)) = s4 at *
      generalize hs3 : s2.set bT (tapeB l (nxP l p2 lst.length)) = s3 at *
      clear hs3 hs4
      generalize nxP l (nxP l p2 lst.length) 6 = p4 at *
      obtain ⟨o5, vl5, vr5, hk5, g5⟩ := h4.km.afterPut d hd (by omega) (workI [a, jr] (6 + jo)) sa
      simp (maxSteps := 200000) only [go_sem, hA.nil, hA.pur, hA.go, hA.yes, hA.noT, hA.noF, hA.skp, pure_mv, eff_mv, pure_pk, eff_pk, pure_al, eff_al, pure_bx, eff_bx, pure_bd, eff_bd, pure_bs, eff_bs, pure_ld, eff_ld, pure_st, eff_st, pure_nc, eff_nc, pure_bin, eff_bin, pure_un, eff_un, pure_cv, eff_cv, pure_mi, eff_mi, pure_mf, eff_mf, pure_mm, eff_mm, pure_ms, eff_ms, pure_sc, eff_sc, pure_fa, eff_fa, pure_fl, eff_fl, pure_ia, eff_ia, pure_lk, eff_lk, pure_mu, eff_mu, pure_lm, eff_lm, pure_rg, eff_rg, pure_nx, eff_nx, pure_en, eff_en, pure_ta, eff_ta, pure_ex, eff_ex, pure_ln, eff_ln, pure_ap, eff_ap, pure_mx, eff_mx, pure_call, eff_call, pure_callv, eff_callv, chk_nil, chk_cons, again, List.contains_cons, List.contains_nil]
      refine aop_callF hT2 (by simp (maxSteps := 1000000) only [go_sem]) ?_
      simp (maxSteps := 200000) only [go_sem, hA.nil, hA.pur, hA.go, hA.yes, hA.noT, hA.noF, hA.skp, pure_mv, eff_mv, pure_pk, eff_pk, pure_al, eff_al, pure_bx, eff_bx, pure_bd, eff_bd, pure_bs, eff_bs, pure_ld, eff_ld, pure_st, eff_st, pure_nc, eff_nc, pure_bin, eff_bin, pure_un, eff_un, pure_cv, eff_cv, pure_mi, eff_mi, pure_mf, eff_mf, pure_mm, eff_mm, pure_ms, eff_ms, pure_sc, eff_sc, pure_fa, eff_fa, pure_fl, eff_fl, pure_ia, eff_ia, pure_lk, eff_lk, pure_mu, eff_mu, pure_lm, eff_lm, pure_rg, eff_rg, pure_nx, eff_nx, pure_en, eff_en, pure_ta, eff_ta, pure_ex, eff_ex, pure_ln, eff_ln, pure_ap, eff_ap, pure_mx, eff_mx, pure_call, eff_call, pure_callv, eff_callv, chk_nil, chk_cons, again, List.contains_cons, List.contains_nil, eil, hgl, hil]
      refine aop_callF hT3 (by simp (maxSteps := 1000000) only [go_sem]) ?_
      simp (maxSteps := 200000) only [go_sem, hA.nil, hA.pur, hA.go, hA.yes, hA.noT, hA.noF, hA.skp, pure_mv, eff_mv, pure_pk, eff_pk, pure_al, eff_al, pure_bx, eff_bx, pure_bd, eff_bd, pure_bs, eff_bs, pure_ld, eff_ld, pure_st, eff_st, pure_nc, eff_nc, pure_bin, eff_bin, pure_un, eff_un, pure_cv, eff_cv, pure_mi, eff_mi, pure_mf, eff_mf, pure_mm, eff_mm, pure_ms, eff_ms, pure_sc, eff_sc, pure_fa, eff_fa, pure_fl, eff_fl, pure_ia, eff_ia, pure_lk, eff_lk, pure_mu, eff_mu, pure_lm, eff_lm, pure_rg, eff_rg, pure_nx, eff_nx, pure_en, eff_en, pure_ta, eff_ta, pure_ex, eff_ex, pure_ln, eff_ln, pure_ap, eff_ap, pure_mx, eff_mx, pure_call, eff_call, pure_callv, eff_callv, chk_nil, chk_cons, again, List.contains_cons, List.contains_nil, eil, hgl, hil, w1]
      refine aop_callF (put_other h4.km d hd (by omega) (by have := hm.p d; omega) (by omega) (workI [a, jr] (6 + jo)) (by simp [workI]) sa) (by simp (maxSteps := 1000000) only [go_sem, workI, instrL]) ?_
      simp (maxSteps := 200000) only [go_sem, hA.nil, hA.pur, hA.go, hA.yes, hA.noT, hA.noF, hA.skp, pure_mv, eff_mv, pure_pk, eff_pk, pure_al, eff_al, pure_bx, eff_bx, pure_bd, eff_bd, pure_bs, eff_bs, pure_ld, eff_ld, pure_st, eff_st, pure_nc, eff_nc, pure_bin, eff_bin, pure_un, eff_un, pure_cv, eff_cv, pure_mi, eff_mi, pure_mf, eff_mf, pure_mm, eff_mm, pure_ms, eff_ms, pure_sc, eff_sc, pure_fa, eff_fa, pure_fl, eff_fl, pure_ia, eff_ia, pure_lk, eff_lk, pure_mu, eff_mu, pure_lm, eff_lm, pure_rg, eff_rg, pure_nx, eff_nx, pure_en, eff_en, pure_ta, eff_ta, pure_ex, eff_ex, pure_ln, eff_ln, pure_ap, eff_ap, pure_mx, eff_mx, pure_call, eff_call, pure_callv, eff_callv, chk_nil, chk_cons, again, List.contains_cons, List.contains_nil, eil, hgl, hil, w1]
      refine hK _ _ ?_; clear hK K hA A
      exact retS0n ⟨rfl, o5, vl5, vr5, _, _, m.putO d (workI [a, jr] (6 + jo)) sa, _, p4, h4.put (m' := m.putO d (workI [a, jr] (6 + jo)) sa) hk5 g5 (by simp [MS.putO]), .work _ _ _ (by simp) (fun r hr => by
        rcases List.mem_cons.1 hr with rfl | hr
        · exact ⟨a, rfl, hal⟩
        · exact ⟨jr, by simpa using hr, hjl⟩) hsam, g4.trans g5.grow, fun e => by omega⟩
    have c2 : (k == 2) = false := by simpa using k2
    first | refine .seq (.rg fun A hA K hK => ?_) | refine .seq (.seq (.rg fun A hA K hK => ?_)) | refine .rg fun A hA K hK => ?_ | refine .seq (.rd fun A hA K hK => ?_) | refine .seq (.seq (.rd fun A hA K hK => ?_)) | refine .rd fun A hA K hK => ?_
    simp (maxSteps := 1000000) only [go_sem, hA.nil, hA.go, hA.yes, hA.noT, hA.noF, hA.skp]
    refine hK _ _ ?_; clear hK K hA A
    refine .cond (t := false) (by simp (maxSteps := 1000000) only [go_sem, c1]) (fun h => by cases h) (fun _ => ?_)
    first | refine .seq (.rg fun A hA K hK => ?_) | refine .seq (.seq (.rg fun A hA K hK => ?_)) | refine .rg fun A hA K hK => ?_ | refine .seq (.rd fun A hA K hK => ?_) | refine .seq (.seq (.rd fun A hA K hK => ?_)) | refine .rd fun A hA K hK => ?_
    simp (maxSteps := 1000000) only [go_sem, hA.nil, hA.go, hA.yes, hA.noT, hA.noF, hA.skp]
    refine hK _ _ ?_; clear hK K hA A
    refine .cond (t := false) (by simp (maxSteps := 1000000) only [go_sem, c2]) (fun h => by cases h) (fun _ => ?_)
    by_cases k34 : k = 3 ∨ k = 4
    · refine .midK (fun L t => L = [(0, .ptr b 0 0), (1, .ptr bT 0 0), (2, I d), (11, I a), (12, ints sa), (127, .bool true)] ∧ s2 = t) ?_ ?_
      · rcases k34 with rfl | rfl
        · first | refine .seq (.rg fun A hA K hK => ?_) | refine .seq (.seq (.rg fun A hA K hK => ?_)) | refine .rg fun A hA K hK => ?_ | refine .seq (.rd fun A hA K hK => ?_) | refine .seq (.seq (.rd fun A hA K hK => ?_)) | refine .rd fun A hA K hK => ?_
          simp (maxSteps := 1000000) only [go_sem, hA.nil, hA.go, hA.yes, hA.noT, hA.noF, hA.skp]
          refine hK _ _ ?_; clear hK K hA A
          refine .cond (t := true) (by simp (maxSteps := 1000000) only [go_sem]) (fun _ => .skip ?_) (fun h => by cases h)
          exact ⟨_, ⟨rfl, rfl⟩, by simp (maxSteps := 1000000) only [go_sem]⟩
        · first | refine .seq (.rg fun A hA K hK => ?_) | refine .seq (.seq (.rg fun A hA K hK => ?_)) | refine .rg fun A hA K hK => ?_ | refine .seq (.rd fun A hA K hK => ?_) | refine .seq (.seq (.rd fun A hA K hK => ?_)) | refine .rd fun A hA K hK => ?_
          simp (maxSteps := 1000000) only [go_sem, hA.nil, hA.go, hA.yes, hA.noT, hA.noF, hA.skp]
          refine hK _ _ ?_; clear hK K hA A
          refine .cond (t := false) (by simp (maxSteps := 1000000) only [go_sem]) (fun h => by cases h) (fun _ => ?_)
          first | refine .seq (.rg fun A hA K hK => ?_) | refine .seq (.seq (.rg fun A hA K hK => ?_)) | refine .rg fun A hA K hK => ?_ | refine .seq (.rd fun A hA K hK => ?_) | refine .seq (.seq (.rd fun A hA K hK => ?_)) | refine .rd fun A hA K hK => ?_
          simp (maxSteps := 1000000) only [go_sem, hA.nil, hA.go, hA.yes, hA.noT, hA.noF, hA.skp]
          refine hK _ _ ?_; clear hK K hA A
          exact ⟨_, ⟨rfl, rfl⟩, by simp (maxSteps := 1000000) only [go_sem]⟩
      rintro L t ⟨rfl, rfl⟩
      refine .cond (t := true) (by simp (maxSteps := 1000000) only [go_sem]) (fun _ => ?_) (fun h => by cases h)
      first | refine .seq (.rg fun A hA K hK => ?_) | refine .seq (.seq (.rg fun A hA K hK => ?_)) | refine .rg fun A hA K hK => ?_ | refine .seq (.rd fun A hA K hK => ?_) | refine .seq (.seq (.rd fun A hA K hK => ?_)) | refine .rd fun A hA K hK => ?_
      simp (maxSteps := 1000000) only [go_sem, hA.nil, hA.go, hA.yes, hA.noT, hA.noF, hA.skp, hb2]
      refine aopq_callT (next_ok h2.hT h2.hp hl m.ps.length) (by simp (maxSteps := 1000000) only [go_sem]) ?_
      have he := nxE_in l p2 m.ps.length
      obtain ⟨e, he'⟩ := Int.eq_ofNat_of_zero_le he.1
      have hel : e < m.ps.length := by have := he.2.1 (by omega); omega
      rw [he']
      have h3 := h2.tape (nxP_le h2.hp m.ps.length)
      have g3 := g2.trans (Grow.tape h2 (nxP l p2 m.ps.length))
      generalize hs3 : s2.set bT (tapeB l (nxP l p2 m.ps.length)) = s3 at *
      clear hs3
      generalize nxP l p2 m.ps.length = p3 at *
      try simp (maxSteps := 1000000) only [go_sem, hA.nil, hA.go, hA.yes, hA.noT, hA.noF, hA.skp]
      refine hK _ _ ?_; clear hK K hA A
      have hb3 := h3.km.hb
      obtain ⟨o4, vl4, hk4, g4⟩ := h3.km.afterSend d hd (by omega) (sendI a e m.tg)
      first | refine .seq (.rg fun A hA K hK => ?_) | refine .seq (.seq (.rg fun A hA K hK => ?_)) | refine .rg fun A hA K hK => ?_ | refine .seq (.rd fun A hA K hK => ?_) | refine .seq (.seq (.rd fun A hA K hK => ?_)) | refine .rd fun A hA K hK => ?_
      simp (maxSteps := 1000000) only [go_sem, hA.nil, hA.go, hA.yes, hA.noT, hA.noF, hA.skp, hb3]
      refine aopq_callT (put_send h3.km d hd (by have := hm.p d; omega) (sendI a e m.tg) rfl .nils) (by simp (maxSteps := 1000000) only [go_sem, sendI, instrL, emptyN]) ?_
      generalize hs4 : growS (s3.push (.cells 13 [instrL (sendI a e m.tg)])) bL vl d 13 ((m.ps.getD d [] ++ [sendI a e m.tg]).map instrL) = s4 at *
      clear hs4
      try simp (maxSteps := 1000000) only [go_sem, hA.nil, hA.go, hA.yes, hA.noT, hA.noF, hA.skp]
      refine hK _ _ ?_; clear hK K hA A
      have h4 := h3.put (m' := { m with ps := m.ps.set d (m.ps.getD d [] ++ [sendI a e m.tg]) }) hk4 g4 (by simp)
      have g4' := g3.trans g4.grow
      have hb4 := hk4.hb
      have lt4 : ∀ {c x}, o4 c = some x → c < s4.next := fun hc => h4.lt hc
      have nb : ¬ b = s4.next := by have := lt4 hk4.own0; omega
      have hwl := hm.w
      -- what waits
      refine .midK (fun L t => L = [(0, .ptr b 0 0), (1, .ptr bT 0 0)] ∧ ∃ o5 vw5, KM o5 t b bL bR vl4 vr vw5 (m.ps.set d (m.ps.getD d [] ++ [sendI a e m.tg])) m.rs (m.w ++ [⟨d, e, m.tg, sa⟩]) m.tg ∧ GrowF o4 s4 o5 t) ?_ ?_
      · rcases hk4.hw with ⟨r1, r2⟩ | ⟨cw, r1, r2, r3⟩
        · have hw0 : m.w = [] := by simpa using r2
          rw [r1] at hb4
          first | refine .seq (.rg fun A hA K hK => ?_) | refine .seq (.seq (.rg fun A hA K hK => ?_)) | refine .rg fun A hA K hK => ?_ | refine .seq (.rd fun A hA K hK => ?_) | refine .seq (.seq (.rd fun A hA K hK => ?_)) | refine .rd fun A hA K hK => ?_
          simp (maxSteps := 1000000) only [go_sem, hA.nil, hA.go, hA.yes, hA.noT, hA.noF, hA.skp, hb4, nb]
          refine ⟨by decide, by decide, ?_⟩
          refine hK _ _ ?_; clear hK K hA A
          refine ⟨_, ⟨rfl, _, _, hk4.putW (c' := s4.next) (w' := m.w ++ [⟨d, e, m.tg, sa⟩]) (tg' := m.tg) (Nat.le_refl _) (by simp (maxSteps := 1000000) only [go_sem]; try omega) ?_ ?_ (fun c h1 h2 h3 => ?_)⟩, by simp (maxSteps := 1000000) only [go_sem]⟩
          · simp (maxSteps := 1000000) only [go_sem, hw0]
          · simp (maxSteps := 1000000) only [go_sem, hw0, show ¬ s4.next = b from fun e => nb e.symm, msgL]
          · simp (disch := omega) only [go_sem, if_neg, h3]
        · rw [r1, List.length_map] at hb4
          have ltc := lt4 r2
          have ncb := ne_lab r2 hk4.own0 (by decide)
          have nbc : ¬ b = cw := fun e => ncb e.symm
          have m1 : m.w.length + 1 ≤ most := by simp only [most]; omega
          have m2 : (m.w.length + 1) * 72 ≤ most := by simp only [most]; omega
          have ht : List.take m.w.length (List.map msgL m.w) = List.map msgL m.w := List.take_of_length_le (by simp)
          first | refine .seq (.rg fun A hA K hK => ?_) | refine .seq (.seq (.rg fun A hA K hK => ?_)) | refine .rg fun A hA K hK => ?_ | refine .seq (.rd fun A hA K hK => ?_) | refine .seq (.seq (.rd fun A hA K hK => ?_)) | refine .rd fun A hA K hK => ?_
          simp (maxSteps := 1000000) only [go_sem, hA.nil, hA.go, hA.yes, hA.noT, hA.noF, hA.skp, hb4, nb, r3, nbc, m1, m2, ht]
          refine hK _ _ ?_; clear hK K hA A
          refine ⟨_, ⟨rfl, _, _, hk4.putW (c' := s4.next) (w' := m.w ++ [⟨d, e, m.tg, sa⟩]) (tg' := m.tg) (Nat.le_refl _) (by simp (maxSteps := 1000000) only [go_sem]; try omega) ?_ ?_ (fun c h1 h2 h3 => ?_)⟩, by simp (maxSteps := 1000000) only [go_sem]⟩
          · simp (maxSteps := 1000000) only [go_sem, List.length_append]
          · simp (maxSteps := 1000000) only [go_sem, show ¬ s4.next = b from fun e => nb e.symm, msgL, List.map_append]
          · have : ¬ c = cw := by rintro rfl; exact h2 r2
            simp (disch := omega) only [go_sem, if_neg, h3, this]
      rintro L t ⟨rfl, o5, vw5, hk5, g5⟩
      have h5 := h4.put (m' := { m with ps := m.ps.set d (m.ps.getD d [] ++ [sendI a e m.tg]), w := m.w ++ [⟨d, e, m.tg, sa⟩] }) hk5 g5 rfl
      have g5' := g4'.trans g5.grow
      have htg := hm.tg
      have hT5 := next_ok h5.hT h5.hp hl 2
      have hx := nxE_in l p3 2
      have h6 := h5.tape (nxP_le h5.hp 2)
      have g6 := g5'.trans (Grow.tape h5 (nxP l p3 2))
      have hT6 := next_ok h6.hT h6.hp hl 3
      have hy := nxE_in l (nxP l p3 2) 3
      have h7 := h6.tape (nxP_le h6.hp 3)
      have g7 := g6.trans (Grow.tape h6 (nxP l (nxP l p3 2) 3))
      have hb5 := h5.km.hb
      have hb7 := h7.km.hb
      have nTb : ¬ bT = b := ne_lab h5.oT h5.km.own0 (by decide)
      have nbT : ¬ b = bT := ne_lab h5.km.own0 h5.oT (by decide)
      generalize nxE l (nxP l p3 2) 3 = y at hy hT6
      generalize nxE l p3 2 = x at hx hT5
      have hxy : 0 ≤ x * y ∧ x * y ≤ 2 := by
        have : x = 0 ∨ x = 1 := by have := hx.2.1 (by decide); omega
        have := hy.2.1 (by decide)
        rcases this with _; rcases ‹x = 0 ∨ x = 1› with rfl | rfl <;> omega
      have w1 : IntKind.i64.wrap (x * y) = x * y := IntWalk.i64_in _ (by omega)
      have w2 : IntKind.i64.wrap (m.tg + x * y) = m.tg + x * y := IntWalk.i64_in _ (by omega)
      have w3 : IntKind.i64.wrap (m.tg + x * y + 1) = m.tg + x * y + 1 := IntWalk.i64_in _ (by omega)
      generalize hs7 : (t.set bT (tapeB l (nxP l p3 2))).set bT (tapeB l (nxP l (nxP l p3 2) 3)) = s7 at *
      generalize hs6 : t.set bT (tapeB l (nxP l p3 2)) = s6 at *
      have hb6 : s6.blk b = some (.cells 4 [[.sl bL 0 (m.ps.set d (m.ps.getD d [] ++ [sendI a e m.tg])).length, .sl bR 0 m.rs.length, vw5, I m.tg]]) := h6.km.hb
      clear hs6 hs7
      generalize nxP l (nxP l p3 2) 3 = p7 at *
      obtain ⟨hk8, g8⟩ := h7.km.setTag (m.tg + x * y + 1)
      simp only [List.length_set] at hk8 g8
      have h8 := h7.put (m' := { m with ps := m.ps.set d (m.ps.getD d [] ++ [sendI a e m.tg]), w := m.w ++ [⟨d, e, m.tg, sa⟩], tg := m.tg + x * y + 1 }) hk8 g8 rfl
      refine .rdx fun A hA K hK => ?_
      simp (maxSteps := 200000) only [go_sem, hA.nil, hA.pur, hA.go, hA.yes, hA.noT, hA.noF, hA.skp, pure_mv, eff_mv, pure_pk, eff_pk, pure_al, eff_al, pure_bx, eff_bx, pure_bd, eff_bd, pure_bs, eff_bs, pure_ld, eff_ld, pure_st, eff_st, pure_nc, eff_nc, pure_bin, eff_bin, pure_un, eff_un, pure_cv, eff_cv, pure_mi, eff_mi, pure_mf, eff_mf, pure_mm, eff_mm, pure_ms, eff_ms, pure_sc, eff_sc, pure_fa, eff_fa, pure_fl, eff_fl, pure_ia, eff_ia, pure_lk, eff_lk, pure_mu, eff_mu, pure_lm, eff_lm, pure_rg, eff_rg, pure_nx, eff_nx, pure_en, eff_en, pure_ta, eff_ta, pure_ex, eff_ex, pure_ln, eff_ln, pure_ap, eff_ap, pure_mx, eff_mx, pure_call, eff_call, pure_callv, eff_callv, chk_nil, chk_cons, again, List.contains_cons, List.contains_nil, hb5]
      refine aop_callF hT5 (by simp (maxSteps := 1000000) only [go_sem]) ?_
      simp (maxSteps := 200000) only [go_sem, hA.nil, hA.pur, hA.go, hA.yes, hA.noT, hA.noF, hA.skp, pure_mv, eff_mv, pure_pk, eff_pk, pure_al, eff_al, pure_bx, eff_bx, pure_bd, eff_bd, pure_bs, eff_bs, pure_ld, eff_ld, pure_st, eff_st, pure_nc, eff_nc, pure_bin, eff_bin, pure_un, eff_un, pure_cv, eff_cv, pure_mi, eff_mi, pure_mf, eff_mf, pure_mm, eff_mm, pure_ms, eff_ms, pure_sc, eff_sc, pure_fa, eff_fa, pure_fl, eff_fl, pure_ia, eff_ia, pure_lk, eff_lk, pure_mu, eff_mu, pure_lm, eff_lm, pure_rg, eff_rg, pure_nx, eff_nx, pure_en, eff_en, pure_ta, eff_ta, pure_ex, eff_ex, pure_ln, eff_ln, pure_ap, eff_ap, pure_mx, eff_mx, pure_call, eff_call, pure_callv, eff_callv, chk_nil, chk_cons, again, List.contains_cons, List.contains_nil, hb5, hb6]
      refine aop_callF hT6 (by simp (maxSteps := 1000000) only [go_sem]) ?_
      simp (maxSteps := 200000) only [go_sem, hA.nil, hA.pur, hA.go, hA.yes, hA.noT, hA.noF, hA.skp, pure_mv, eff_mv, pure_pk, eff_pk, pure_al, eff_al, pure_bx, eff_bx, pure_bd, eff_bd, pure_bs, eff_bs, pure_ld, eff_ld, pure_st, eff_st, pure_nc, eff_nc, pure_bin, eff_bin, pure_un, eff_un, pure_cv, eff_cv, pure_mi, eff_mi, pure_mf, eff_mf, pure_mm, eff_mm, pure_ms, eff_ms, pure_sc, eff_sc, pure_fa, eff_fa, pure_fl, eff_fl, pure_ia, eff_ia, pure_lk, eff_lk, pure_mu, eff_mu, pure_lm, eff_lm, pure_rg, eff_rg, pure_nx, eff_nx, pure_en, eff_en, pure_ta, eff_ta, pure_ex, eff_ex, pure_ln, eff_ln, pure_ap, eff_ap, pure_mx, eff_mx, pure_call, eff_call, pure_callv, eff_callv, chk_nil, chk_cons, again, List.contains_cons, List.contains_nil, hb5, hb6, hb7, w1, w2, w3]
      refine hK _ _ ?_; clear hK K hA A
      exact retS0n ⟨rfl, o5, _, _, _, _, _, _, p7, h8, .send a e sa hal hsa hel (m.tg + x * y + 1) (by omega) (by omega), g7.trans g8.grow, fun e => by omega⟩
    · -- a message that waits, if there is one
      have c3 : (k == 3) = false := by
        rw [beq_eq_false_iff_ne]; exact fun h => k34 (.inl h)
      have c4 : (k == 4) = false := by
        rw [beq_eq_false_iff_ne]; exact fun h => k34 (.inr h)
      refine .midK (fun L t => L = [(0, .ptr b 0 0), (1, .ptr bT 0 0), (127, .bool false)] ∧ s2 = t) ?_ ?_
      · first | refine .seq (.rg fun A hA K hK => ?_) | refine .seq (.seq (.rg fun A hA K hK => ?_)) | refine .rg fun A hA K hK => ?_ | refine .seq (.rd fun A hA K hK => ?_) | refine .seq (.seq (.rd fun A hA K hK => ?_)) | refine .rd fun A hA K hK => ?_
        simp (maxSteps := 1000000) only [go_sem, hA.nil, hA.go, hA.yes, hA.noT, hA.noF, hA.skp]
        refine hK _ _ ?_; clear hK K hA A
        refine .cond (t := false) (by simp (maxSteps := 1000000) only [go_sem, c3]) (fun h => by cases h) (fun _ => ?_)
        first | refine .seq (.rg fun A hA K hK => ?_) | refine .seq (.seq (.rg fun A hA K hK => ?_)) | refine .rg fun A hA K hK => ?_ | refine .seq (.rd fun A hA K hK => ?_) | refine .seq (.seq (.rd fun A hA K hK => ?_)) | refine .rd fun A hA K hK => ?_
        simp (maxSteps := 1000000) only [go_sem, hA.nil, hA.go, hA.yes, hA.noT, hA.noF, hA.skp]
        refine hK _ _ ?_; clear hK K hA A
        exact ⟨_, ⟨rfl, rfl⟩, by simp (maxSteps := 1000000) only [go_sem, c4]⟩
      rintro L t ⟨rfl, rfl⟩
      refine .cond (t := false) (by simp (maxSteps := 1000000) only [go_sem]) (fun h => by cases h) (fun _ => ?_)
      have hwl := hm.w
      rcases h2.km.hw with ⟨r1, r2⟩ | ⟨cw, r1, r2, r3⟩
      · have hw0 : m.w = [] := by simpa using r2
        rw [r1] at hb2
        first | refine .seq (.rg fun A hA K hK => ?_) | refine .seq (.seq (.rg fun A hA K hK => ?_)) | refine .rg fun A hA K hK => ?_ | refine .seq (.rd fun A hA K hK => ?_) | refine .seq (.seq (.rd fun A hA K hK => ?_)) | refine .rd fun A hA K hK => ?_
        simp (maxSteps := 1000000) only [go_sem, hA.nil, hA.go, hA.yes, hA.noT, hA.noF, hA.skp, hb2]
        refine hK _ _ ?_; clear hK K hA A
        have z0 : ¬ ((0 : Int) > 0) := by decide
        refine .cond (t := false) (by simp (maxSteps := 1000000) only [go_sem, z0]) (fun h => by cases h) (fun _ => .skip ?_)
        exact retS0n ⟨rfl, o, _, _, _, _, _, _, p2, h2, .same, g2, fun e => by omega⟩
      · rw [r1, List.length_map] at hb2
        first | refine .seq (.rg fun A hA K hK => ?_) | refine .seq (.seq (.rg fun A hA K hK => ?_)) | refine .rg fun A hA K hK => ?_ | refine .seq (.rd fun A hA K hK => ?_) | refine .seq (.seq (.rd fun A hA K hK => ?_)) | refine .rd fun A hA K hK => ?_
        simp (maxSteps := 1000000) only [go_sem, hA.nil, hA.go, hA.yes, hA.noT, hA.noF, hA.skp, hb2]
        refine hK _ _ ?_; clear hK K hA A
        by_cases hw0 : m.w.length = 0
        · have : ¬ (m.w.length : Int) > 0 := by omega
          refine .cond (t := false) (by simp (maxSteps := 1000000) only [go_sem, this]) (fun h => by cases h) (fun _ => .skip ?_)
          exact retS0n ⟨rfl, o, _, _, _, _, _, _, p2, h2, .same, g2, fun e => by omega⟩
        · have hpos : (m.w.length : Int) > 0 := by omega
          refine .cond (t := true) (by simp (maxSteps := 1000000) only [go_sem, hpos]) (fun _ => ?_) (fun h => by cases h)
          first | refine .seq (.rg fun A hA K hK => ?_) | refine .seq (.seq (.rg fun A hA K hK => ?_)) | refine .rg fun A hA K hK => ?_ | refine .seq (.rd fun A hA K hK => ?_) | refine .seq (.seq (.rd fun A hA K hK => ?_)) | refine .rd fun A hA K hK => ?_
          simp (maxSteps := 1000000) only [go_sem, hA.nil, hA.go, hA.yes, hA.noT, hA.noF, hA.skp, hb2]
          refine aopq_callT (next_ok h2.hT h2.hp hl m.w.length) (by simp (maxSteps := 1000000) only [go_sem]) ?_
          have he := nxE_in l p2 m.w.length
          obtain ⟨kk, he'⟩ := Int.eq_ofNat_of_zero_le he.1
          have hkl : kk < m.w.length := by have := he.2.1 (by omega); omega
          rw [he']
          have h3 := h2.tape (nxP_le h2.hp m.w.length)
          have g3 := g2.trans (Grow.tape h2 (nxP l p2 m.w.length))
          generalize hs3 : s2.set bT (tapeB l (nxP l p2 m.w.length)) = s3 at *
          clear hs3
          generalize nxP l p2 m.w.length = p3 at *
          try simp (maxSteps := 1000000) only [go_sem, hA.nil, hA.go, hA.yes, hA.noT, hA.noF, hA.skp]
          obtain ⟨e, hto, hel⟩ := hm.to kk hkl
          refine aopq_callQ (recv_spec h3.km kk e hkl hto hel (by omega) (by have := hm.p e; omega) (by have := hm.r e; omega) (by omega)) (by simp (maxSteps := 1000000) only [go_sem]) ?_
          rintro v s4 ⟨rfl, o4, vl4, vr4, vw4, hk4, g4⟩
          try simp (maxSteps := 1000000) only [go_sem, hA.nil, hA.go, hA.yes, hA.noT, hA.noF, hA.skp]
          refine hK _ _ ?_; clear hK K hA A
          exact retS0n ⟨rfl, o4, vl4, vr4, _, _, _, _, p3, h3.put (m' := { (m.putO e (recvI m.w[kk]) m.w[kk].shape) with w := m.w.eraseIdx kk }) hk4 g4 (by simp [MS.putO]), .recv kk e hkl hto hel, g3.trans g4.grow, fun e => by omega⟩
end pk
end Go.Proofs.Ytfjbabacpnnjmaa.Av

namespace Go.Proofs.Ytfjbabacpnnjmaa.Av
open Go Go.Av
set_option maxRecDepth 20000
set_option maxHeartbeats 4000000

attribute [local go_sem] step_apply stepD_apply stepE_apply
attribute [local go_sem] aopq_mv aopq_pk aopq_al aopq_bx aopq_bd aopq_bs aopq_ld aopq_st aopq_nc aopq_bin aopq_un aopq_cv aopq_mi aopq_mf aopq_mm aopq_ms aopq_sc aopq_fa aopq_fl aopq_ia aopq_lk aopq_mu aopq_lm aopq_rg aopq_en aopq_ta aopq_ex aopq_ln aopq_ap aopq_mx aopq.eq_3 aop.eq_1 aop.eq_2 aop.eq_3 aop.eq_4 aop.eq_5 aop.eq_6 aop.eq_7 aop.eq_8 aop.eq_9 aop_bin atS_apply aop_un_not aop_un_neg aop.eq_14 aop.eq_15 aop.eq_16 aop.eq_17 aop.eq_18 aop_sc cutS_apply cutN_apply cutL_apply cutO_apply aop.eq_20 aop.eq_21 aop.eq_22 aop.eq_23 aop.eq_24 aop.eq_25 aop.eq_26 aop.eq_27 aop.eq_28 aop.eq_29 aop.eq_30 aop.eq_31 aop.eq_32 blk_push next_push blk_set next_set blk_kill next_kill frL_nil frL_cons Fits_nil Fits_cons Int.reduceBEq Int.reduceBNe Nat.sub_zero Option.map_some Option.map_none List.set_cons_succ true_or or_true false_or or_false Int.le_refl Int.cast_ofNat_Int decide_true decide_false List.cons_append fillA fillR rowsOf List.replicate_succ List.replicate_zero Nat.zero_mul getD_drop List.length_drop splice List.nil_append List.append_nil cond_true cond_false List.set_cons_zero List.length_set ev put_some put_none upd_apply abin asNat bounds row1 mk List.length_cons List.length_nil List.length_map List.drop_zero List.drop_succ_cons List.drop_nil List.getD_cons_zero List.getD_cons_succ Option.getD_none Option.getD_some List.take_succ_cons List.take_zero List.take_nil true_and and_true Int.toNat_natCast if_true if_false Nat.zero_add Nat.add_zero List.map_cons List.map_nil Nat.reduceEqDiff Nat.left_eq_add Nat.add_eq_left Nat.add_left_cancel_iff Nat.add_assoc Nat.reduceSub Nat.reduceAdd Nat.reduceLeDiff Nat.le_refl Nat.zero_le Nat.zero_lt_one Nat.lt_add_one Int.reduceLT Int.reduceLE Int.reduceToNat Nat.reduceLT Nat.reduceBEq Bool.false_eq_true Nat.reduceBNe ne_eq not_false_eq_true not_true_eq_false false_and and_false reduceIte Int.natCast_nonneg reduceCtorEq parts_agg parts_bool parts_int parts_str parts_lit parts_nils parts_sl parts_ptr Int.natCast_nonneg Int.natCast_nonneg beq_self_eq_true bne_self_eq_false Bool.true_and Bool.false_and Bool.and_true Bool.and_false Bool.true_or Bool.false_or Bool.or_true Bool.or_false Bool.not_true Bool.not_false
attribute [local go_sem] instr0 instr1 instr2 instr10 instr11 instr12 instrN instrA instr_len node0 node1 node2 node3 node4 node5 node6 nodeA node_len I ints progA progsA

inductive MReach : Nat → MS → Prop
  | init (n : Nat) (h1 : 1 ≤ n) (h4 : n ≤ 4) : MReach 0 ⟨List.replicate n [], List.replicate n [], [], 0⟩
  | step {k d : Nat} {m m' : MS} (h : MReach k m) (hd : d < m.ps.length) (hs : MStep d m m') : MReach (k + 1) m'

structure MSz (k : Nat) (m : MS) : Prop where
  lr : m.rs.length = m.ps.length
  n1 : 1 ≤ m.ps.length
  n4 : m.ps.length ≤ 4
  p : ∀ d, (m.ps.getD d []).length ≤ k
  r : ∀ d, (m.rs.getD d []).length ≤ k
  s : ∀ d, ∀ sh ∈ m.rs.getD d [], sh.length ≤ 1
  w : m.w.length ≤ k
  ws : ∀ x ∈ m.w, x.shape.length ≤ 1
  to : ∀ x ∈ m.w, ∃ e : Nat, x.to = e ∧ e < m.ps.length
  tg : 0 ≤ m.tg ∧ m.tg ≤ 3 * k

theorem putO_ps (m : MS) (d e : Nat) (i : Instr) (sh : List Int) (hd : d < m.ps.length) : (m.putO d i sh).ps.getD e [] = if e = d then m.ps.getD d [] ++ [withOut i (m.rs.getD d []).length] else m.ps.getD e [] := by
  simp only [MS.putO]
  split
  · rename_i h; subst h; rw [getD_set_eq _ _ hd]
  · rename_i h; rw [getD_set_ne _ _ h]
theorem putO_rs (m : MS) (d e : Nat) (i : Instr) (sh : List Int) (hd : d < m.rs.length) : (m.putO d i sh).rs.getD e [] = if e = d then m.rs.getD d [] ++ [sh] else m.rs.getD e [] := by
  simp only [MS.putO]
  split
  · rename_i h; subst h; rw [getD_set_eq _ _ hd]
  · rename_i h; rw [getD_set_ne _ _ h]

theorem MSz.mono {k : Nat} {m : MS} (h : MSz k m) : MSz (k + 1) m :=
  ⟨h.lr, h.n1, h.n4, fun d => by have := h.p d; omega, fun d => by have := h.r d; omega, h.s, by have := h.w; omega, h.ws, h.to, by have := h.tg; omega⟩
theorem MSz.putO {k : Nat} {m : MS} (h : MSz k m) (d : Nat) (hd : d < m.ps.length) (i : Instr) (sh : List Int) (hs : sh.length ≤ 1) : MSz (k + 1) (m.putO d i sh) := by
  have hdr : d < m.rs.length := by rw [h.lr]; exact hd
  have hl : (m.putO d i sh).ps.length = m.ps.length := by simp [MS.putO]
  refine ⟨by simp [MS.putO, h.lr], by rw [hl]; exact h.n1, by rw [hl]; exact h.n4, fun e => ?_, fun e => ?_, fun e x hx => ?_, by have := h.w; simp only [MS.putO]; omega, h.ws, by rw [hl]; exact h.to, by have := h.tg; simp only [MS.putO]; omega⟩
  · rw [putO_ps _ _ _ _ _ hd]; split
    · have := h.p d; simp only [List.length_append, List.length_cons, List.length_nil]; omega
    · have := h.p e; omega
  · rw [putO_rs _ _ _ _ _ hdr]; split
    · have := h.r d; simp only [List.length_append, List.length_cons, List.length_nil]; omega
    · have := h.r e; omega
  · rw [putO_rs _ _ _ _ _ hdr] at hx; split at hx
    · rcases List.mem_append.1 hx with hx | hx
      · exact h.s d x hx
      · rw [List.mem_singleton.1 hx]; exact hs
    · exact h.s e x hx

theorem MSz.step {k d : Nat} {m m' : MS} (h : MSz k m) (hd : d < m.ps.length) (hs : MStep d m m') : MSz (k + 1) m' := by
  cases hs with
  | same => exact h.mono
  | take n sh hn hl hs => exact h.putO d hd _ _ hs
  | work ins op sh hl hi hs => exact h.putO d hd _ _ (h.s d sh hs)
  | send a e sh ha hsh he t h1 h3 =>
    have hm := h.mono
    refine ⟨by simp [h.lr], by simpa using h.n1, by simpa using h.n4, fun x => ?_, hm.r, hm.s, by have := h.w; simp; omega, fun x hx => ?_, fun x hx => ?_, by have := h.tg; simp only; omega⟩
    · simp only
      by_cases hx : x = d
      · subst hx; rw [getD_set_eq _ _ hd]; have := h.p x; simp only [List.length_append, List.length_cons, List.length_nil]; omega
      · rw [getD_set_ne _ _ hx]; have := h.p x; omega
    · rcases List.mem_append.1 hx with hx | hx
      · exact h.ws x hx
      · rw [List.mem_singleton.1 hx]
        subst hsh
        rw [getD_at' ha]
        exact h.s d _ (List.getElem_mem ha)
    · simp only [List.length_set]
      rcases List.mem_append.1 hx with hx | hx
      · exact h.to x hx
      · rw [List.mem_singleton.1 hx]; exact ⟨e, rfl, he⟩
  | recv j e hk he hl =>
    have hq := h.putO e hl (recvI m.w[j]) m.w[j].shape (h.ws _ (List.getElem_mem hk))
    refine ⟨hq.lr, hq.n1, hq.n4, hq.p, hq.r, hq.s, ?_, fun x hx => h.ws x (List.mem_of_mem_eraseIdx hx), fun x hx => ?_, hq.tg⟩
    · have := h.w; simp only [List.length_eraseIdx]; split <;> omega
    · obtain ⟨y, h1, h2⟩ := h.to x (List.mem_of_mem_eraseIdx hx)
      exact ⟨y, h1, by simpa [MS.putO] using h2⟩

theorem MReach.sz {k : Nat} {m : MS} (h : MReach k m) : MSz k m := by
  induction h with
  | init n h1 h4 =>
    have e : ∀ {α : Type} (d : Nat), (List.replicate n ([] : List α)).getD d [] = [] := by
      intro α d; simp only [List.getD_eq_getElem?_getD, List.getElem?_replicate]; split <;> rfl
    refine ⟨by simp, by simpa using h1, by simpa using h4, fun d => by simp only; rw [e]; simp, fun d => by simp only; rw [e]; simp, fun d sh hx => ?_, by simp, fun x hx => by simp at hx, fun x hx => by simp at hx, by simp⟩
    simp only at hx; rw [e] at hx; simp at hx
  | step h hd hs ih => exact ih.step hd hs
theorem MSz.ok {k : Nat} {m : MS} (h : MSz k m) (hk : k ≤ 1000) : MSOk m :=
  ⟨h.lr, h.n4, fun d => by have := h.p d; omega, fun d => by have := h.r d; omega, h.s, by have := h.w; omega, fun j hj => h.to _ (List.getElem_mem hj), by have := h.tg; omega⟩

/-- An array of rows of its own is made plain, row by row. -/
theorem nestEnt {n0 : Nat} {F : Fr} {o : Nat → Option Nat} {σ : St} {bA sz : Nat} {lab : Nat → Nat} {vs : List AV} {xs : List (List (List AV))} (hl : vs.length = xs.length) (hA : σ.blk bA = some (.cells 1 (vs.map fun v => [v])))
    (hinj : ∀ d e, lab d = lab e → d = e) (hoA : ∀ d, o bA ≠ some (lab d)) (hd : ∀ d, d < xs.length → Row1 o (lab d) σ sz (vs.getD d .undef) (xs.getD d [])) :
    ∀ k, k ≤ xs.length → ∃ s rows, Ent n0 F σ F s ∧ s.next = σ.next ∧ s.blk bA = some (.cells 1 rows) ∧ rows.length = xs.length ∧ (∀ d, d < xs.length → rows.getD d [] = if d < k then [.lit sz (xs.getD d [])] else [vs.getD d .undef]) ∧
      (∀ c, c ≠ bA → (∀ d, d < k → o c ≠ some (lab d)) → s.blk c = σ.blk c)
  | 0, _ => ⟨σ, vs.map fun v => [v], .refl _ _ _, rfl, hA, by simp [hl], fun d hdl => by rw [if_neg (by omega), vs_get (by omega)], fun c _ _ => rfl⟩
  | k + 1, hk => by
    obtain ⟨s, rows, h1, h2, h3, h4, h5, h6⟩ := nestEnt (n0 := n0) (F := F) hl hA hinj hoA hd k (by omega)
    have hr := h5 k (by omega)
    rw [if_neg (by omega)] at hr
    have hrow : ∀ x, ∀ d, d < xs.length → (rows.set k [x]).getD d [] = if d = k then [x] else rows.getD d [] := fun x d hdl => by
      split
      · rename_i h; subst h; rw [getD_set_eq _ _ (by omega)]
      · rename_i h; rw [getD_set_ne _ _ h]
    have fin : ∀ d, d < xs.length → (rows.set k [.lit sz (xs.getD k [])]).getD d [] = if d < k + 1 then [.lit sz (xs.getD d [])] else [vs.getD d .undef] := fun d hdl => by
      rw [hrow _ d hdl]
      by_cases hdk : d = k
      · subst hdk; rw [if_pos rfl, if_pos (by omega)]
      · rw [if_neg hdk, h5 d hdl]
        by_cases h : d < k
        · rw [if_pos h, if_pos (by omega)]
        · rw [if_neg h, if_neg (by omega)]
    rcases hd k (by omega) with ⟨q1, q2⟩ | ⟨c, q1, q2, q3⟩
    · rw [q1] at hr
      rw [q2] at fin
      refine ⟨_, _, h1.trans (.litAt bA k sz h3 (by omega) hr), h2, by rw [blk_set, if_pos rfl], by simpa using h4, fin, fun c hc ho => ?_⟩
      rw [blk_set, if_neg hc]; exact h6 c hc fun d hdk => ho d (by omega)
    · rw [q1] at hr
      have hcA : c ≠ bA := by rintro rfl; exact hoA k q2
      have hc : s.blk c = some (.cells sz (xs.getD k [])) := by
        rw [h6 c hcA fun d hdk he => by rw [q2] at he; have := hinj k d (by simpa using he); omega]; exact q3
      refine ⟨_, _, h1.trans (.frzAt bA k h3 (by omega) hr hc hcA.symm rfl), h2, by rw [blk_set, if_pos rfl], by simpa using h4, fin, fun c' hc' ho => ?_⟩
      rw [blk_set, if_neg hc', blk_kill, if_neg]
      · exact h6 c' hc' fun d hdk => ho d (by omega)
      · rintro rfl; exact ho k (by omega) q2

end Go.Proofs.Ytfjbabacpnnjmaa.Av

namespace Go.Proofs.Ytfjbabacpnnjmaa.Av
open Go Go.Av
set_option maxRecDepth 20000
set_option maxHeartbeats 4000000

attribute [local go_sem] step_apply stepD_apply stepE_apply
attribute [local go_sem] aopq_mv aopq_pk aopq_al aopq_bx aopq_bd aopq_bs aopq_ld aopq_st aopq_nc aopq_bin aopq_un aopq_cv aopq_mi aopq_mf aopq_mm aopq_ms aopq_sc aopq_fa aopq_fl aopq_ia aopq_lk aopq_mu aopq_lm aopq_rg aopq_en aopq_ta aopq_ex aopq_ln aopq_ap aopq_mx aopq.eq_3 aop.eq_1 aop.eq_2 aop.eq_3 aop.eq_4 aop.eq_5 aop.eq_6 aop.eq_7 aop.eq_8 aop.eq_9 aop_bin atS_apply aop_un_not aop_un_neg aop.eq_14 aop.eq_15 aop.eq_16 aop.eq_17 aop.eq_18 aop_sc cutS_apply cutN_apply cutL_apply cutO_apply aop.eq_20 aop.eq_21 aop.eq_22 aop.eq_23 aop.eq_24 aop.eq_25 aop.eq_26 aop.eq_27 aop.eq_28 aop.eq_29 aop.eq_30 aop.eq_31 aop.eq_32 blk_push next_push blk_set next_set blk_kill next_kill frL_nil frL_cons Fits_nil Fits_cons Int.reduceBEq Int.reduceBNe Nat.sub_zero Option.map_some Option.map_none List.set_cons_succ true_or or_true false_or or_false Int.le_refl Int.cast_ofNat_Int decide_true decide_false List.cons_append fillA fillR rowsOf List.replicate_succ List.replicate_zero Nat.zero_mul getD_drop List.length_drop splice List.nil_append List.append_nil cond_true cond_false List.set_cons_zero List.length_set ev put_some put_none upd_apply abin asNat bounds row1 mk List.length_cons List.length_nil List.length_map List.drop_zero List.drop_succ_cons List.drop_nil List.getD_cons_zero List.getD_cons_succ Option.getD_none Option.getD_some List.take_succ_cons List.take_zero List.take_nil true_and and_true Int.toNat_natCast if_true if_false Nat.zero_add Nat.add_zero List.map_cons List.map_nil Nat.reduceEqDiff Nat.left_eq_add Nat.add_eq_left Nat.add_left_cancel_iff Nat.add_assoc Nat.reduceSub Nat.reduceAdd Nat.reduceLeDiff Nat.le_refl Nat.zero_le Nat.zero_lt_one Nat.lt_add_one Int.reduceLT Int.reduceLE Int.reduceToNat Nat.reduceLT Nat.reduceBEq Bool.false_eq_true Nat.reduceBNe ne_eq not_false_eq_true not_true_eq_false false_and and_false reduceIte Int.natCast_nonneg reduceCtorEq parts_agg parts_bool parts_int parts_str parts_lit parts_nils parts_sl parts_ptr Int.natCast_nonneg Int.natCast_nonneg beq_self_eq_true bne_self_eq_false Bool.true_and Bool.false_and Bool.and_true Bool.and_false Bool.true_or Bool.false_or Bool.or_true Bool.or_false Bool.not_true Bool.not_false
attribute [local go_sem] instr0 instr1 instr2 instr10 instr11 instr12 instrN instrA instr_len node0 node1 node2 node3 node4 node5 node6 nodeA node_len I ints progA progsA

theorem retBu {F : Fr} {σ σ0 : St} {n k : Nat} {v : AV} {Q : AV → St → Prop} (h : F n = v) (hu : F k = .undef) (wf : σ0.Wf) (hs : ∀ b, b < σ0.next → σ.blk b = σ0.blk b) (hv : v.Lt σ0.next) (hq : Q (.tup [v, .undef]) σ0) : retQ σ0.next [.t n, .t k] Q .ret F σ :=
  ⟨[v, .undef], by simp [resOne, h, hu], .tup [v, .undef], σ0, .back rfl wf hs (lt_tup (by simp only [List.forall_mem_cons, List.not_mem_nil, false_imp_iff, implies_true, and_true]; exact ⟨hv, .undef⟩)), hq⟩

theorem rep_get {α : Type} (N d : Nat) (x y : α) (h : d < N) : (List.replicate N x).getD d y = x := by simp [List.getD_eq_getElem?_getD, h]
theorem rep_nil {α : Type} (N d : Nat) : (List.replicate N ([] : List α)).getD d [] = [] := by
  simp only [List.getD_eq_getElem?_getD, List.getElem?_replicate]; split <;> rfl

/-- At the beginning. -/
theorem pk_init {σ s : St} {bL bR N p : Nat} {l : List Int} (hN : N ≤ 4) (hp : p ≤ l.length) (h12 : bL = σ.next + 1 ∧ bR = σ.next + 2 ∨ bL = σ.next + 2 ∧ bR = σ.next + 1) (hn : s.next = σ.next + 5)
    (hb : s.blk (σ.next + 3) = some (.cells 4 [[.sl bL 0 N, .sl bR 0 N, .nils, I 0]])) (hL : s.blk bL = some (.cells 1 (List.replicate N [.nils]))) (hR : s.blk bR = some (.cells 1 (List.replicate N [.nils])))
    (hG : s.blk (σ.next + 4) = some (.cells 1 (List.replicate N [.nils]))) (hT : s.blk σ.next = some (tapeB l p)) :
    ∃ o vl vr vg, PK o s (σ.next + 3) bL bR σ.next (σ.next + 4) vl vr .nils vg ⟨List.replicate N [], List.replicate N [], [], 0⟩ (List.replicate N []) l p ∧ ∀ c, c < σ.next → o c = none := by
  have e : ∀ (x : AV), (List.replicate N x).map (fun v => [v]) = List.replicate N [x] := fun x => by simp
  have ne1 : ¬ bL = σ.next + 3 := by omega
  have ne2 : ¬ bR = σ.next + 3 := by omega
  have ne3 : ¬ bL = bR := by omega
  refine ⟨fun c => if c = σ.next + 3 then some 0 else if c = bL then some 1 else if c = bR then some 2 else if c = σ.next then some 2000 else if c = σ.next + 4 then some 3000 else none, List.replicate N .nils, List.replicate N .nils, List.replicate N .nils,
    ⟨⟨by simp, by simp [ne1], by simp only; rw [if_neg ne2, if_neg (fun h => ne3 h.symm), if_pos trivial], fun c hc => ?_, by simpa using hb, by rw [e]; exact hL, by rw [e]; exact hR, by simp, by simp, by simp, fun d hd => .inl ⟨?_, ?_⟩, fun d hd => .inl ⟨?_, ?_⟩, .inl ⟨rfl, rfl⟩⟩, ?_, hT, hp, ?_, by rw [e]; exact hG, by simp, by simp, fun d hd => .inl ⟨?_, ?_⟩, by simp only [List.length_replicate]; omega⟩, fun c hc => ?_⟩
  · by_cases w1 : c = σ.next + 3; · omega
    by_cases w2 : c = bL; · omega
    by_cases w3 : c = bR; · omega
    by_cases w4 : c = σ.next; · omega
    by_cases w5 : c = σ.next + 4; · omega
    simp [w1, w2, w3, w4, w5] at hc
  · exact rep_get _ _ _ _ (by simpa using hd)
  · rw [rep_nil]; rfl
  · exact rep_get _ _ _ _ (by simpa using hd)
  · rw [rep_nil]; rfl
  · simp only; rw [if_neg (by omega), if_neg (by omega), if_neg (by omega), if_pos trivial]
  · simp only; rw [if_neg (by omega), if_neg (by omega), if_neg (by omega), if_neg (by omega), if_pos trivial]
  · exact rep_get _ _ _ _ (by simpa using hd)
  · rw [rep_nil]
  · simp only; rw [if_neg (by omega), if_neg (by omega), if_neg (by omega), if_neg (by omega), if_neg (by omega)]

theorem MStep.len {d : Nat} {m m' : MS} (h : MStep d m m') : m'.ps.length = m.ps.length := by
  cases h <;> simp [MS.putO]

/-- The end of Programs. -/
theorem prog_end {σ t : St} {b bL bR bT bG N c : Nat} {o : Nat → Option Nat} {vl vr : List AV} {vw : AV} {vg : List AV} {m : MS} {gs : List (List (List AV))} {l : List Int} {p : Nat} {F : Fr} (wf : σ.Wf)
    (h : PK o t b bL bR bT bG vl vr vw vg m gs l p) (h6 : F 6 = .ptr b 0 0) (h7 : F 7 = .sl bG 0 N) (hm : MReach c m) (hc : c ≤ 54) (hw : m.w = []) (ho : ∀ c, c < σ.next → o c = none) (hx : ∀ c, c < σ.next → t.blk c = σ.blk c) :
    SWP Try.prog σ.next (.seq (.reg [⟨some 56, none, .mv (.t 6)⟩, ⟨some 57, none, .nc (.t 56)⟩, ⟨some 58, none, .fa 0 (.t 57)⟩, ⟨some 59, none, .ld none (.t 58)⟩, ⟨some 60, none, .mv (.t 7)⟩, ⟨some 2, none, .mv (.t 59)⟩, ⟨some 3, none, .mv (.t 60)⟩]) .ret)
      (retQ σ.next [.t 2, .t 3] fun v s => s = σ ∧ ∃ c m, v = .tup [progsA m.ps, .undef] ∧ MReach c m ∧ c ≤ 54 ∧ m.w = []) F t := by
  have hb := h.km.hb
  have hdd : ∀ d, d < (m.ps.map fun q => q.map instrL).length → Row1 o (4 + 2 * d) t 13 (vl.getD d .undef) ((m.ps.map fun q => q.map instrL).getD d []) := fun d hd => by
    have hd' : d < m.ps.length := by simpa using hd
    have e : (m.ps.map fun q => q.map instrL).getD d [] = (m.ps.getD d []).map instrL := by simp [List.getD_eq_getElem?_getD, hd']
    rw [e]; exact h.km.hd d hd'
  first | refine .seq (.rg fun A hA K hK => ?_) | refine .seq (.seq (.rg fun A hA K hK => ?_)) | refine .rg fun A hA K hK => ?_ | refine .seq (.rd fun A hA K hK => ?_) | refine .seq (.seq (.rd fun A hA K hK => ?_)) | refine .rd fun A hA K hK => ?_
  simp (maxSteps := 1000000) only [go_sem, hA.nil, hA.go, hA.yes, hA.noT, hA.noF, hA.skp, h6, h7, hb]
  refine hK _ _ ?_; clear hK K hA A
  obtain ⟨s, rows, q1, q2, q3, q4, q5, q6⟩ := nestEnt (n0 := σ.next) (F := upd (upd (upd (upd (upd (upd (upd F 56 (.ptr b 0 0)) 57 (.ptr b 0 0)) 58 (.ptr b 0 0)) 59 (.sl bL 0 m.ps.length)) 60 (.sl bG 0 N)) 2 (.sl bL 0 m.ps.length)) 3 (.sl bG 0 N))
    (xs := m.ps.map fun q => q.map instrL) (lab := fun d => 4 + 2 * d) (by rw [List.length_map]; exact h.km.hvl) h.km.hL (fun d e he => by have he : 4 + 2 * d = 4 + 2 * e := he; omega) (fun d => by rw [h.km.ownL]; simp; omega) hdd m.ps.length (by simp)
  have hrows : rows = m.ps.map fun q => [progA q] := by
    refine List.ext_getElem (by simpa using q4) fun d h1 h2 => ?_
    have hd' : d < m.ps.length := by simpa using h2
    have := q5 d (by simpa using hd')
    rw [if_pos hd', getD_at' h1] at this
    rw [this]; simp [List.getD_eq_getElem?_getD, hd', progA]
  refine .ent q1 (.frz 2 (b := bL) (n := m.ps.length) (by simp (maxSteps := 1000000) only [go_sem]) q3 (by rw [q4]; simp) (.ent (.sub 3 (by simp (maxSteps := 1000000) only [go_sem]; try rfl) (.undef _)) (.ret (retBu (v := progsA m.ps) (by simp (maxSteps := 1000000) only [go_sem, hrows]) (by simp (maxSteps := 1000000) only [go_sem]) wf (fun c hc => ?_) (progsA_lt _) ⟨rfl, _, m, rfl, hm, ‹_›, hw⟩))))
  have hoc := ho c hc
  have hcL : ¬ c = bL := by rintro rfl; rw [h.km.ownL] at hoc; cases hoc
  rw [blk_kill, if_neg hcL, q6 c hcL (fun d _ => by rw [hoc]; simp)]; exact hx c hc

/-- keep.Programs: programs that are reached, nothing waits any more -/
theorem programs_keep (l : List Int) (σ : St) : TQ Try.prog 17 [ints l] σ fun v s => s = σ ∧ ∃ c m, v = .tup [progsA m.ps, .undef] ∧ MReach c m ∧ c ≤ 54 ∧ m.w = [] := by
  refine in17 (by simp) fun wf hab => ?_
  have hl := hab_ints (hab 0 (by simp))
  clear hab
  unfold c17
  first | refine .seq (.rg fun A hA K hK => ?_) | refine .seq (.seq (.rg fun A hA K hK => ?_)) | refine .rg fun A hA K hK => ?_ | refine .seq (.rd fun A hA K hK => ?_) | refine .seq (.seq (.rd fun A hA K hK => ?_)) | refine .rd fun A hA K hK => ?_
  simp (maxSteps := 1000000) only [go_sem, hA.nil, hA.go, hA.yes, hA.noT, hA.noF, hA.skp]
  refine hK _ _ ?_; clear hK K hA A
  first | refine .seq (.rg fun A hA K hK => ?_) | refine .seq (.seq (.rg fun A hA K hK => ?_)) | refine .rg fun A hA K hK => ?_ | refine .seq (.rd fun A hA K hK => ?_) | refine .seq (.seq (.rd fun A hA K hK => ?_)) | refine .rd fun A hA K hK => ?_
  simp (maxSteps := 1000000) only [go_sem, hA.nil, hA.go, hA.yes, hA.noT, hA.noF, hA.skp]
  refine hK _ _ ?_; clear hK K hA A
  first | refine .seq (.rg fun A hA K hK => ?_) | refine .seq (.seq (.rg fun A hA K hK => ?_)) | refine .rg fun A hA K hK => ?_ | refine .seq (.rd fun A hA K hK => ?_) | refine .seq (.seq (.rd fun A hA K hK => ?_)) | refine .rd fun A hA K hK => ?_
  simp (maxSteps := 1000000) only [go_sem, hA.nil, hA.go, hA.yes, hA.noT, hA.noF, hA.skp]
  have hT0 : (σ.push (tapeB l 0)).blk σ.next = some (tapeB l 0) := by rw [blk_push, if_pos rfl]
  refine aopq_callT (next_ok hT0 (Nat.zero_le _) hl 4) (by simp (maxSteps := 1000000) only [go_sem]) ?_
  have hn := nxE_in l 0 4
  obtain ⟨N, hN⟩ : ∃ N : Nat, 1 + nxE l 0 4 = N := Int.eq_ofNat_of_zero_le (by omega)
  have hN1 : 1 ≤ N := by omega
  have hN4 : N ≤ 4 := by have := hn.2.1 (by decide); omega
  have w1 : IntKind.i64.wrap (1 + nxE l 0 4) = N := by rw [hN]; exact IntWalk.i64_in _ (by omega)
  have hp1 := nxP_le (Nat.zero_le l.length) 4
  try simp (maxSteps := 1000000) only [go_sem, hA.nil, hA.go, hA.yes, hA.noT, hA.noF, hA.skp, w1]
  refine hK _ _ ?_; clear hK K hA A
  clear hn w1 hN hT0
  generalize nxP l 0 4 = p1 at *
  generalize hs1 : (σ.push (.cells 2 [[.lit 1 (l.map fun n => [.int .i64 n]), .int .i64 0]])).set σ.next (tapeB l p1) = s1
  have hT1 : s1.blk σ.next = some (tapeB l p1) := by subst hs1; rw [blk_set, if_pos rfl]
  have hn1 : s1.next = σ.next + 1 := by subst hs1; rfl
  have hx1 : ∀ c, c < σ.next → s1.blk c = σ.blk c := fun c hc => by subst hs1; rw [blk_set, if_neg (by omega), blk_push, if_neg (by omega)]
  clear hs1
  have m0 : (N : Int) ≤ most := by simp only [most]; omega
  have m1 : (N : Int) * 24 ≤ most := by simp only [most]; omega
  refine .midK (fun L t => L = [(4, .ptr σ.next 0 0), (5, I N), (6, .ptr (σ.next + 3) 0 0)] ∧ ∃ bL bR, (bL = σ.next + 1 ∧ bR = σ.next + 2 ∨ bL = σ.next + 2 ∧ bR = σ.next + 1) ∧ t.next = σ.next + 4 ∧ t.blk (σ.next + 3) = some (.cells 4 [[.sl bL 0 N, .sl bR 0 N, .nils, I 0]]) ∧
    t.blk bL = some (.cells 1 (List.replicate N [.nils])) ∧ t.blk bR = some (.cells 1 (List.replicate N [.nils])) ∧ t.blk σ.next = some (tapeB l p1) ∧ ∀ c, c < σ.next → t.blk c = σ.blk c) ?_ ?_
  · refine .rdx2 (fun A hA K hK => ?_) (fun A hA K hK => ?_)
    · simp (maxSteps := 200000) only [go_sem, hA.nil, hA.pur, hA.go, hA.yes, hA.noT, hA.noF, hA.skp, pure_mv, eff_mv, pure_pk, eff_pk, pure_al, eff_al, pure_bx, eff_bx, pure_bd, eff_bd, pure_bs, eff_bs, pure_ld, eff_ld, pure_st, eff_st, pure_nc, eff_nc, pure_bin, eff_bin, pure_un, eff_un, pure_cv, eff_cv, pure_mi, eff_mi, pure_mf, eff_mf, pure_mm, eff_mm, pure_ms, eff_ms, pure_sc, eff_sc, pure_fa, eff_fa, pure_fl, eff_fl, pure_ia, eff_ia, pure_lk, eff_lk, pure_mu, eff_mu, pure_lm, eff_lm, pure_rg, eff_rg, pure_nx, eff_nx, pure_en, eff_en, pure_ta, eff_ta, pure_ex, eff_ex, pure_ln, eff_ln, pure_ap, eff_ap, pure_mx, eff_mx, pure_call, eff_call, pure_callv, eff_callv, chk_nil, chk_cons, again, List.contains_cons, List.contains_nil, m0, m1]
      refine hK _ _ ?_; clear hK K hA A
      refine ⟨_, ⟨rfl, σ.next + 1, σ.next + 2, .inl ⟨rfl, rfl⟩, by simp (maxSteps := 1000000) only [go_sem, hn1], ?_, ?_, ?_, ?_, fun c hc => ?_⟩, by simp (maxSteps := 1000000) only [go_sem, hn1]⟩
      · simp (maxSteps := 1000000) only [go_sem, hn1]
      · simp (maxSteps := 1000000) only [go_sem, hn1]
      · simp (maxSteps := 1000000) only [go_sem, hn1]
      · have q1 : ¬ σ.next = σ.next + 1 := by omega
        have q2 : ¬ σ.next = σ.next + 2 := by omega
        have q3 : ¬ σ.next = σ.next + 3 := by omega
        simp (maxSteps := 1000000) only [go_sem, hn1, q1, q2, q3, hT1]
      · simp (disch := omega) only [go_sem, hn1, if_neg, hx1 c hc]
    · simp (maxSteps := 200000) only [go_sem, hA.nil, hA.pur, hA.go, hA.yes, hA.noT, hA.noF, hA.skp, pure_mv, eff_mv, pure_pk, eff_pk, pure_al, eff_al, pure_bx, eff_bx, pure_bd, eff_bd, pure_bs, eff_bs, pure_ld, eff_ld, pure_st, eff_st, pure_nc, eff_nc, pure_bin, eff_bin, pure_un, eff_un, pure_cv, eff_cv, pure_mi, eff_mi, pure_mf, eff_mf, pure_mm, eff_mm, pure_ms, eff_ms, pure_sc, eff_sc, pure_fa, eff_fa, pure_fl, eff_fl, pure_ia, eff_ia, pure_lk, eff_lk, pure_mu, eff_mu, pure_lm, eff_lm, pure_rg, eff_rg, pure_nx, eff_nx, pure_en, eff_en, pure_ta, eff_ta, pure_ex, eff_ex, pure_ln, eff_ln, pure_ap, eff_ap, pure_mx, eff_mx, pure_call, eff_call, pure_callv, eff_callv, chk_nil, chk_cons, again, List.contains_cons, List.contains_nil, m0, m1]
      refine hK _ _ ?_; clear hK K hA A
      refine ⟨_, ⟨rfl, σ.next + 2, σ.next + 1, .inr ⟨rfl, rfl⟩, by simp (maxSteps := 1000000) only [go_sem, hn1], ?_, ?_, ?_, ?_, fun c hc => ?_⟩, by simp (maxSteps := 1000000) only [go_sem, hn1]⟩
      · simp (maxSteps := 1000000) only [go_sem, hn1]
      · simp (maxSteps := 1000000) only [go_sem, hn1]
      · simp (maxSteps := 1000000) only [go_sem, hn1]
      · have q1 : ¬ σ.next = σ.next + 1 := by omega
        have q2 : ¬ σ.next = σ.next + 2 := by omega
        have q3 : ¬ σ.next = σ.next + 3 := by omega
        simp (maxSteps := 1000000) only [go_sem, hn1, q1, q2, q3, hT1]
      · simp (disch := omega) only [go_sem, hn1, if_neg, hx1 c hc]
  rintro L t ⟨rfl, bL, bR, h12, htn, hb, hL, hR, hT, hx⟩
  first | refine .seq (.rg fun A hA K hK => ?_) | refine .seq (.seq (.rg fun A hA K hK => ?_)) | refine .rg fun A hA K hK => ?_ | refine .seq (.rd fun A hA K hK => ?_) | refine .seq (.seq (.rd fun A hA K hK => ?_)) | refine .rd fun A hA K hK => ?_
  simp (maxSteps := 1000000) only [go_sem, hA.nil, hA.go, hA.yes, hA.noT, hA.noF, hA.skp, m0, m1, htn]
  refine hK _ _ ?_; clear hK K hA A
  obtain ⟨o, vl, vr, vg, h, ho⟩ := pk_init (s := t.push (.cells 1 (List.replicate N [.nils]))) hN4 hp1 h12 (by simp (maxSteps := 1000000) only [go_sem, htn]) (by rw [blk_push, if_neg (by omega)]; exact hb) (by rw [blk_push, if_neg (by omega)]; exact hL) (by rw [blk_push, if_neg (by omega)]; exact hR) (by rw [blk_push, if_pos (by omega)]) (by rw [blk_push, if_neg (by omega)]; exact hT)
  have hx' : ∀ c, c < σ.next → (t.push (.cells 1 (List.replicate N [.nils]))).blk c = σ.blk c := fun c hc => by rw [blk_push, if_neg (by omega)]; exact hx c hc
  refine .keep [(4, .ptr σ.next 0 0), (5, I N), (6, .ptr (σ.next + 3) 0 0), (7, .sl (σ.next + 4) 0 N)] (by simp (maxSteps := 1000000) only [go_sem]) ?_
  generalize t.push (.cells 1 (List.replicate N [.nils])) = s at h hx' ⊢
  clear hb hL hR hT hx htn
  first | refine .seq (.rg fun A hA K hK => ?_) | refine .seq (.seq (.rg fun A hA K hK => ?_)) | refine .rg fun A hA K hK => ?_ | refine .seq (.rd fun A hA K hK => ?_) | refine .seq (.seq (.rd fun A hA K hK => ?_)) | refine .rd fun A hA K hK => ?_
  simp (maxSteps := 1000000) only [go_sem, hA.nil, hA.go, hA.yes, hA.noT, hA.noF, hA.skp]
  refine aopq_callT (next_ok h.hT h.hp hl 24) (by simp (maxSteps := 1000000) only [go_sem]) ?_
  have hk := nxE_in l p1 24
  obtain ⟨k0, hk0⟩ : ∃ k : Nat, 4 + nxE l p1 24 = k := Int.eq_ofNat_of_zero_le (by omega)
  have hk27 : k0 ≤ 27 := by have := hk.2.1 (by decide); omega
  have w2 : IntKind.i64.wrap (4 + nxE l p1 24) = k0 := by rw [hk0]; exact IntWalk.i64_in _ (by omega)
  have h2 := h.tape (nxP_le h.hp 24)
  have hx2 : ∀ c, c < σ.next → (s.set σ.next (tapeB l (nxP l p1 24))).blk c = σ.blk c := fun c hc => by rw [blk_set, if_neg (by omega)]; exact hx' c hc
  try simp (maxSteps := 1000000) only [go_sem, hA.nil, hA.go, hA.yes, hA.noT, hA.noF, hA.skp, w2]
  refine hK _ _ ?_; clear hK K hA A
  generalize s.set σ.next (tapeB l (nxP l p1 24)) = s2 at h2 hx2 ⊢
  generalize nxP l p1 24 = p2 at h2
  -- so many steps
  refine .loopK (fun k L t => ∃ c o vl vr vw vg m gs p, c + k = k0 ∧ L = [(4, .ptr σ.next 0 0), (5, I N), (6, .ptr (σ.next + 3) 0 0), (7, .sl (σ.next + 4) 0 N), (8, I k)] ∧ PK o t (σ.next + 3) bL bR σ.next (σ.next + 4) vl vr vw vg m gs l p ∧ MReach c m ∧ m.ps.length = N ∧
    (∀ d, (gs.getD d []).length ≤ c) ∧ (∀ c, c < σ.next → o c = none) ∧ ∀ c, c < σ.next → t.blk c = σ.blk c) k0
    ⟨_, ⟨0, o, vl, vr, _, vg, _, _, p2, by omega, rfl, h2, .init N hN1 hN4, by simp, fun d => by rw [rep_nil]; simp, ho, hx2⟩, by simp (maxSteps := 1000000) only [go_sem]⟩ ?_
  clear h2 hx2 h hx' ho hk hk0 w2 h12 hT1 hx1
  rintro k L t ⟨c, o, vl, vr, vw, vg, m, gs, p, hck, rfl, h, hm, hmn, hg, ho, hx⟩
  have hz := hm.sz
  first | refine .seq (.rg fun A hA K hK => ?_) | refine .seq (.seq (.rg fun A hA K hK => ?_)) | refine .rg fun A hA K hK => ?_ | refine .seq (.rd fun A hA K hK => ?_) | refine .seq (.seq (.rd fun A hA K hK => ?_)) | refine .rd fun A hA K hK => ?_
  simp (maxSteps := 1000000) only [go_sem, hA.nil, hA.go, hA.yes, hA.noT, hA.noF, hA.skp]
  refine hK _ _ ?_; clear hK K hA A
  refine .cond (t := decide ((k : Int) > 0)) (by simp (maxSteps := 1000000) only [go_sem]) (fun ht => .skip ?_) (fun ht => .exit ?_)
  · have hk0 : 0 < k := by have := of_decide_eq_true ht; omega
    refine .seq (.block ?_)
    first | refine .seq (.rg fun A hA K hK => ?_) | refine .seq (.seq (.rg fun A hA K hK => ?_)) | refine .rg fun A hA K hK => ?_ | refine .seq (.rd fun A hA K hK => ?_) | refine .seq (.seq (.rd fun A hA K hK => ?_)) | refine .rd fun A hA K hK => ?_
    simp (maxSteps := 1000000) only [go_sem, hA.nil, hA.go, hA.yes, hA.noT, hA.noF, hA.skp]
    refine aopq_callT (next_ok h.hT h.hp hl N) (by simp (maxSteps := 1000000) only [go_sem]) ?_
    have hd := nxE_in l p N
    obtain ⟨d, hd'⟩ := Int.eq_ofNat_of_zero_le hd.1
    have hdl : d < N := by have := hd.2.1 (by omega); omega
    rw [hd']
    have h2 := h.tape (nxP_le h.hp N)
    have hx2 : ∀ c, c < σ.next → (t.set σ.next (tapeB l (nxP l p N))).blk c = σ.blk c := fun c hc => by rw [blk_set, if_neg (by omega)]; exact hx c hc
    try simp (maxSteps := 1000000) only [go_sem, hA.nil, hA.go, hA.yes, hA.noT, hA.noF, hA.skp]
    refine hK _ _ ?_; clear hK K hA A
    generalize t.set σ.next (tapeB l (nxP l p N)) = t2 at h2 hx2 ⊢
    generalize nxP l p N = p2 at h2
    have hG := h2.hG
    have e0 : (d : Int) < N := by omega
    first | refine .seq (.rg fun A hA K hK => ?_) | refine .seq (.seq (.rg fun A hA K hK => ?_)) | refine .rg fun A hA K hK => ?_ | refine .seq (.rd fun A hA K hK => ?_) | refine .seq (.seq (.rd fun A hA K hK => ?_)) | refine .rd fun A hA K hK => ?_
    simp (maxSteps := 1000000) only [go_sem, hA.nil, hA.go, hA.yes, hA.noT, hA.noF, hA.skp, hG, e0]
    refine aopq_callQ (step_spec h2 (hz.ok (by omega)) hl d (by omega) (fun e => by have := hg e; omega)) (by simp (maxSteps := 1000000) only [go_sem]) ?_
    rintro v t3 ⟨rfl, o3, vl3, vr3, vw3, vg3, m3, gs3, p3, h3, hs3, hg3, hgl3⟩
    try simp (maxSteps := 1000000) only [go_sem, hA.nil, hA.go, hA.yes, hA.noT, hA.noF, hA.skp]
    refine hK _ _ ?_; clear hK K hA A
    have w3 : IntKind.i64.wrap ((k : Int) - 1) = ((k - 1 : Nat) : Int) := by rw [IntWalk.i64_in _ (by omega)]; omega
    first | refine .seq (.rg fun A hA K hK => ?_) | refine .seq (.seq (.rg fun A hA K hK => ?_)) | refine .rg fun A hA K hK => ?_ | refine .seq (.rd fun A hA K hK => ?_) | refine .seq (.seq (.rd fun A hA K hK => ?_)) | refine .rd fun A hA K hK => ?_
    simp (maxSteps := 1000000) only [go_sem, hA.nil, hA.go, hA.yes, hA.noT, hA.noF, hA.skp, w3]
    refine hK _ _ ?_; clear hK K hA A
    have hlt : σ.next < t2.next := h2.lt h2.oT
    refine ⟨k - 1, by omega, _, ⟨c + 1, o3, vl3, vr3, vw3, vg3, m3, gs3, p3, by omega, rfl, h3, .step hm (by omega) hs3, by rw [hs3.len, hmn], fun e => by have := hgl3 e; have := hg e; omega, fun c hc => by rw [hg3.2.1 c (by omega)]; exact ho c hc, fun c hc => by rw [hg3.2.2 c (by omega) (ho c hc)]; exact hx2 c hc⟩, by simp (maxSteps := 1000000) only [go_sem]⟩
  -- what waits is received
  have hk0 : k = 0 := by have := of_decide_eq_false ht; omega
  simp only [thenQ, loopQ, if_true]
  refine .keep [(4, .ptr σ.next 0 0), (6, .ptr (σ.next + 3) 0 0), (7, .sl (σ.next + 4) 0 N)] (by simp (maxSteps := 1000000) only [go_sem]) ?_
  have hwc := hz.w
  have hc27 : c ≤ 27 := by omega
  refine .seq (.loopK (fun n L t => ∃ c o vl vr vw vg m gs p, n = m.w.length ∧ c + m.w.length ≤ 54 ∧ L = [(4, .ptr σ.next 0 0), (6, .ptr (σ.next + 3) 0 0), (7, .sl (σ.next + 4) 0 N)] ∧ PK o t (σ.next + 3) bL bR σ.next (σ.next + 4) vl vr vw vg m gs l p ∧ MReach c m ∧ m.ps.length = N ∧
    (∀ c, c < σ.next → o c = none) ∧ ∀ c, c < σ.next → t.blk c = σ.blk c) m.w.length
    ⟨_, ⟨c, o, vl, vr, vw, vg, m, gs, p, rfl, by omega, rfl, h, hm, hmn, ho, hx⟩, by simp (maxSteps := 1000000) only [go_sem]⟩ ?_)
  clear h hx ho hck ht hg hm hmn hz hwc hc27 hk0
  rintro n L t ⟨c, o, vl, vr, vw, vg, m, gs, p, hnw, hck, rfl, h, hm, hmn, ho, hx⟩
  have hz := hm.sz
  have hb := h.km.hb
  have hh : ∃ F, Fits F [(4, .ptr σ.next 0 0), (6, .ptr (σ.next + 3) 0 0), (7, .sl (σ.next + 4) 0 N)] ∧ F 46 = .bool (decide ((m.w.length : Int) > 0)) := ⟨frL [(4, .ptr σ.next 0 0), (6, .ptr (σ.next + 3) 0 0), (7, .sl (σ.next + 4) 0 N), (46, .bool (decide ((m.w.length : Int) > 0)))], by simp (maxSteps := 1000000) only [go_sem], by simp (maxSteps := 1000000) only [go_sem]⟩
  refine .midK (fun L s => L = [(4, .ptr σ.next 0 0), (6, .ptr (σ.next + 3) 0 0), (7, .sl (σ.next + 4) 0 N)] ∧ s = t ∧ 0 < m.w.length) ?_ ?_
  · rcases h.km.hw with ⟨r1, r2⟩ | ⟨cw, r1, r2, r3⟩
    · have hw0 : m.w = [] := by simpa using r2
      rw [r1] at hb
      first | refine .seq (.rg fun A hA K hK => ?_) | refine .seq (.seq (.rg fun A hA K hK => ?_)) | refine .rg fun A hA K hK => ?_ | refine .seq (.rd fun A hA K hK => ?_) | refine .seq (.seq (.rd fun A hA K hK => ?_)) | refine .rd fun A hA K hK => ?_
      simp (maxSteps := 1000000) only [go_sem, hA.nil, hA.go, hA.yes, hA.noT, hA.noF, hA.skp, hb]
      refine hK _ _ ?_; clear hK K hA A
      have z0 : ¬ ((0 : Int) > 0) := by decide
      refine .cond (t := false) (by simp (maxSteps := 1000000) only [go_sem, z0]) (fun h => by cases h) (fun _ => .exit ?_)
      simp only [thenQ, loopQ, if_true]
      exact prog_end (N := N) wf h (by simp (maxSteps := 1000000) only [go_sem]) (by simp (maxSteps := 1000000) only [go_sem]) hm (by omega) hw0 ho hx
    · rw [r1, List.length_map] at hb
      first | refine .seq (.rg fun A hA K hK => ?_) | refine .seq (.seq (.rg fun A hA K hK => ?_)) | refine .rg fun A hA K hK => ?_ | refine .seq (.rd fun A hA K hK => ?_) | refine .seq (.seq (.rd fun A hA K hK => ?_)) | refine .rd fun A hA K hK => ?_
      simp (maxSteps := 1000000) only [go_sem, hA.nil, hA.go, hA.yes, hA.noT, hA.noF, hA.skp, hb]
      refine hK _ _ ?_; clear hK K hA A
      by_cases hw0 : m.w.length = 0
      · have z0 : ¬ (m.w.length : Int) > 0 := by omega
        refine .cond (t := false) (by simp (maxSteps := 1000000) only [go_sem, z0]) (fun h => by cases h) (fun _ => .exit ?_)
        simp only [thenQ, loopQ, if_true]
        exact prog_end (N := N) wf h (by simp (maxSteps := 1000000) only [go_sem]) (by simp (maxSteps := 1000000) only [go_sem]) hm (by omega) (List.length_eq_zero_iff.1 hw0) ho hx
      · have z0 : (m.w.length : Int) > 0 := by omega
        refine .cond (t := true) (by simp (maxSteps := 1000000) only [go_sem, z0]) (fun _ => .skip ?_) (fun h => by cases h)
        exact ⟨_, ⟨rfl, rfl, by omega⟩, by simp (maxSteps := 1000000) only [go_sem]⟩
  rintro L s ⟨rfl, rfl, hpos⟩
  rcases h.km.hw with ⟨r1, r2⟩ | ⟨cw, r1, r2, r3⟩
  · have hw0 : m.w = [] := by simpa using r2
    rw [hw0] at hpos; simp at hpos
  rw [r1, List.length_map] at hb
  refine .block ?_
  first | refine .seq (.rg fun A hA K hK => ?_) | refine .seq (.seq (.rg fun A hA K hK => ?_)) | refine .rg fun A hA K hK => ?_ | refine .seq (.rd fun A hA K hK => ?_) | refine .seq (.seq (.rd fun A hA K hK => ?_)) | refine .rd fun A hA K hK => ?_
  simp (maxSteps := 1000000) only [go_sem, hA.nil, hA.go, hA.yes, hA.noT, hA.noF, hA.skp, hb]
  refine aopq_callT (next_ok h.hT h.hp hl m.w.length) (by simp (maxSteps := 1000000) only [go_sem]) ?_
  have he := nxE_in l p m.w.length
  obtain ⟨kk, he'⟩ := Int.eq_ofNat_of_zero_le he.1
  have hkl : kk < m.w.length := by have := he.2.1 (by omega); omega
  rw [he']
  have h2 := h.tape (nxP_le h.hp m.w.length)
  have hx2 : ∀ c, c < σ.next → (s.set σ.next (tapeB l (nxP l p m.w.length))).blk c = σ.blk c := fun c hc => by rw [blk_set, if_neg (by omega)]; exact hx c hc
  generalize s.set σ.next (tapeB l (nxP l p m.w.length)) = t2 at h2 hx2 ⊢
  generalize nxP l p m.w.length = p2 at h2
  try simp (maxSteps := 1000000) only [go_sem, hA.nil, hA.go, hA.yes, hA.noT, hA.noF, hA.skp]
  obtain ⟨e, hto, hel⟩ := hz.to _ (List.getElem_mem hkl)
  have n9 := h.n9
  refine aopq_callQ (recv_spec h2.km kk e hkl hto hel (by omega) (by have := hz.p e; omega) (by have := hz.r e; omega) (by omega)) (by simp (maxSteps := 1000000) only [go_sem]) ?_
  rintro v t3 ⟨rfl, o4, vl4, vr4, vw4, hk4, g4⟩
  try simp (maxSteps := 1000000) only [go_sem, hA.nil, hA.go, hA.yes, hA.noT, hA.noF, hA.skp]
  refine hK _ _ ?_; clear hK K hA A
  have hlt : σ.next < t2.next := h2.lt h2.oT
  have hst : MStep e m { (m.putO e (recvI m.w[kk]) m.w[kk].shape) with w := m.w.eraseIdx kk } := .recv kk e hkl hto hel
  have hel2 : (m.w.eraseIdx kk).length = m.w.length - 1 := by rw [List.length_eraseIdx, if_pos hkl]
  refine ⟨(m.w.eraseIdx kk).length, by omega, _, ⟨c + 1, o4, vl4, vr4, vw4, vg, { (m.putO e (recvI m.w[kk]) m.w[kk].shape) with w := m.w.eraseIdx kk }, gs, p2, rfl, by simp only; omega, rfl, h2.put hk4 g4 (by simp [MS.putO]), .step hm hel hst, by rw [hst.len, hmn], fun c hc => by rw [g4.2.1 c (by omega)]; exact ho c hc,
    fun c hc => by rw [g4.2.2 c (by omega) (by rw [ho c hc]; simp)]; exact hx2 c hc⟩, by simp (maxSteps := 1000000) only [go_sem]⟩
end Go.Proofs.Ytfjbabacpnnjmaa.Av
