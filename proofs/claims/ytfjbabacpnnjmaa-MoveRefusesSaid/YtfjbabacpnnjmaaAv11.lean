/- A logic of small values, and walks in it: What Do refuses; refuses, known. law23's refuses. Shapes and specs of a tape. Specs of a tape; what is made of one; MoveRefuses. What is made of a tape; MoveRefuses. -/
import Derived.Test.YtfjbabacpnnjmaaAv10
set_option linter.unusedVariables false
set_option linter.unusedSimpArgs false
set_option linter.deprecated false
namespace Go.Proofs.Ytfjbabacpnnjmaa.Av
open Go Go.Av
set_option maxRecDepth 20000
set_option maxHeartbeats 4000000

attribute [local go_sem] step_apply stepD_apply stepE_apply
attribute [local go_sem] aopq_mv aopq_pk aopq_al aopq_bx aopq_bd aopq_bs aopq_ld aopq_st aopq_nc aopq_bin aopq_un aopq_cv aopq_mi aopq_mf aopq_mm aopq_ms aopq_sc aopq_fa aopq_fl aopq_ia aopq_lk aopq_mu aopq_lm aopq_rg aopq_en aopq_ta aopq_ex aopq_ln aopq_ap aopq_mx aopq.eq_3 aop.eq_1 aop.eq_2 aop.eq_3 aop.eq_4 aop.eq_5 aop.eq_6 aop.eq_7 aop.eq_8 aop.eq_9 aop_bin atS_apply aop_un_not aop_un_neg aop.eq_14 aop.eq_15 aop.eq_16 aop.eq_17 aop.eq_18 aop_sc cutS_apply cutN_apply cutL_apply cutO_apply aop.eq_20 aop.eq_21 aop.eq_22 aop.eq_23 aop.eq_24 aop.eq_25 aop.eq_26 aop.eq_27 aop.eq_28 aop.eq_29 aop.eq_30 aop.eq_31 aop.eq_32 blk_push next_push blk_set next_set blk_kill next_kill frL_nil frL_cons Fits_nil Fits_cons Int.reduceBEq Int.reduceBNe Nat.sub_zero Option.map_some Option.map_none List.set_cons_succ true_or or_true false_or or_false Int.le_refl Int.cast_ofNat_Int decide_true decide_false List.cons_append fillA fillR rowsOf List.replicate_succ List.replicate_zero Nat.zero_mul getD_drop List.length_drop splice List.nil_append List.append_nil cond_true cond_false List.set_cons_zero List.length_set ev put_some put_none upd_apply abin asNat bounds row1 mk List.length_cons List.length_nil List.length_map List.drop_zero List.drop_succ_cons List.drop_nil List.getD_cons_zero List.getD_cons_succ Option.getD_none Option.getD_some List.take_succ_cons List.take_zero List.take_nil true_and and_true Int.toNat_natCast if_true if_false Nat.zero_add Nat.add_zero List.map_cons List.map_nil Nat.reduceEqDiff Nat.left_eq_add Nat.add_eq_left Nat.add_left_cancel_iff Nat.add_assoc Nat.reduceSub Nat.reduceAdd Nat.reduceLeDiff Nat.le_refl Nat.zero_le Nat.zero_lt_one Nat.lt_add_one Int.reduceLT Int.reduceLE Int.reduceToNat Nat.reduceLT Nat.reduceBEq Bool.false_eq_true Nat.reduceBNe ne_eq not_false_eq_true not_true_eq_false false_and and_false reduceIte Int.natCast_nonneg reduceCtorEq parts_agg parts_bool parts_int parts_str parts_lit parts_nils parts_sl parts_ptr Int.natCast_nonneg Int.natCast_nonneg beq_self_eq_true bne_self_eq_false Bool.true_and Bool.false_and Bool.and_true Bool.and_false Bool.true_or Bool.false_or Bool.or_true Bool.or_false Bool.not_true Bool.not_false
attribute [local go_sem] instr0 instr1 instr2 instr10 instr11 instr12 instrN instrA instr_len node0 node1 node2 node3 node4 node5 node6 nodeA node_len I ints progA progsA

def negB (x : Int) : Bool := decide (x < 0)
/-- move.Do's own function -/
theorem neg_spec (x : Int) (σ : St) : T Try.prog 119 [I x] σ (.bool (negB x)) σ := by
  refine in119 (by simp) fun wf hab => ?_
  clear hab
  unfold c119
  first | refine .seq (.rg fun A hA K hK => ?_) | refine .seq (.seq (.rg fun A hA K hK => ?_)) | refine .rg fun A hA K hK => ?_ | refine .seq (.rd fun A hA K hK => ?_) | refine .seq (.seq (.rd fun A hA K hK => ?_)) | refine .rd fun A hA K hK => ?_
  simp (maxSteps := 1000000) only [go_sem, hA.nil, hA.go, hA.yes, hA.noT, hA.noF, hA.skp]
  refine hK _ _ ?_; clear hK K hA A
  first | refine .seq (.rg fun A hA K hK => ?_) | refine .seq (.seq (.rg fun A hA K hK => ?_)) | refine .rg fun A hA K hK => ?_ | refine .seq (.rd fun A hA K hK => ?_) | refine .seq (.seq (.rd fun A hA K hK => ?_)) | refine .rd fun A hA K hK => ?_
  simp (maxSteps := 1000000) only [go_sem, hA.nil, hA.go, hA.yes, hA.noT, hA.noF, hA.skp]
  refine hK _ _ ?_; clear hK K hA A
  exact .ret (ret1 (by simp (maxSteps := 1000000) only [go_sem, negB]) rfl)
theorem anyN_take {l : List Int} {i : Nat} (hi : i < l.length) (hno : (l.take i).any negB = false) : (l.take (i + 1)).any negB = negB l[i] ∧ (negB l[i] = true → l.any negB = true) := by
  constructor
  · rw [List.take_succ_eq_append_getElem hi, List.any_append, hno]; simp
  · intro h; rw [List.any_eq_true]; exact ⟨_, List.getElem_mem hi, h⟩
def idxN (l : List Int) : Int := match l.findIdx? negB with
  | some i => i
  | none => -1
/-- slices.IndexFunc, whether it finds one -/
theorem indexNeg_spec (l : List Int) (σ : St) : ∃ k : Int, (k ≥ 0 ↔ l.any negB = true) ∧ T Try.prog 134 [ints l, .func 119 []] σ (I k) σ := by
  refine ⟨idxN l, ?_, ?_⟩
  · unfold idxN
    cases h : l.findIdx? negB with
    | none =>
      rw [List.findIdx?_eq_none_iff] at h
      have : l.any negB = false := by rw [List.any_eq_false]; intro x hx; rw [h x hx]; simp
      rw [this]; simp
    | some i =>
      obtain ⟨hi, h1, _⟩ := List.findIdx?_eq_some_iff_getElem.1 h
      have : l.any negB = true := by rw [List.any_eq_true]; exact ⟨_, List.getElem_mem hi, h1⟩
      rw [this]; simp
  refine in134 (by simp) fun wf hab => ?_
  have hl := hab_ints (hab 0 (by simp))
  clear hab
  unfold c134
  first | refine .seq (.rg fun A hA K hK => ?_) | refine .seq (.seq (.rg fun A hA K hK => ?_)) | refine .rg fun A hA K hK => ?_ | refine .seq (.rd fun A hA K hK => ?_) | refine .seq (.seq (.rd fun A hA K hK => ?_)) | refine .rd fun A hA K hK => ?_
  simp (maxSteps := 1000000) only [go_sem, hA.nil, hA.go, hA.yes, hA.noT, hA.noF, hA.skp]
  refine hK _ _ ?_; clear hK K hA A
  first | refine .seq (.rg fun A hA K hK => ?_) | refine .seq (.seq (.rg fun A hA K hK => ?_)) | refine .rg fun A hA K hK => ?_ | refine .seq (.rd fun A hA K hK => ?_) | refine .seq (.seq (.rd fun A hA K hK => ?_)) | refine .rd fun A hA K hK => ?_
  simp (maxSteps := 1000000) only [go_sem, hA.nil, hA.go, hA.yes, hA.noT, hA.noF, hA.skp]
  refine hK _ _ ?_; clear hK K hA A
  refine .rangeK (N := l.length) (fun i L t => L = [(0, ints l), (1, .func 119 []), (7, I l.length), (8, I i)] ∧ σ = t ∧ (l.take i).all (fun y => !negB y) = true) hl
    ⟨_, ⟨rfl, rfl, by simp⟩, by simp (maxSteps := 1000000) only [go_sem]; try rfl⟩ ?_ ?_ ?_
  · rintro i L t ⟨rfl, _⟩
    exact ⟨by simp (maxSteps := 1000000) only [go_sem], by simp (maxSteps := 1000000) only [go_sem], rfl⟩
  · rintro i L t hi ⟨rfl, rfl, hno⟩
    have e0 : (i : Int) < l.length := by omega
    have hg := ints_get hi
    have hx : negB l[i] = true → idxN l = i := by
      intro h
      have : l.findIdx? negB = some i := by
        rw [List.findIdx?_eq_some_iff_getElem]
        refine ⟨hi, h, fun j hj => ?_⟩
        have := List.all_eq_true.1 hno l[j] (by rw [List.mem_take_iff_getElem]; exact ⟨j, by omega, rfl⟩)
        simpa using this
      simp only [idxN, this]
    have hn : negB l[i] = false → (l.take (i + 1)).all (fun y => !negB y) = true := by
      intro h; rw [List.take_succ_eq_append_getElem hi, List.all_append, hno]; simp [h]
    generalize l[i] = y at hg hx hn
    first | refine .seq (.rg fun A hA K hK => ?_) | refine .seq (.seq (.rg fun A hA K hK => ?_)) | refine .rg fun A hA K hK => ?_ | refine .seq (.rd fun A hA K hK => ?_) | refine .seq (.seq (.rd fun A hA K hK => ?_)) | refine .rd fun A hA K hK => ?_
    simp (maxSteps := 1000000) only [go_sem, hA.nil, hA.go, hA.yes, hA.noT, hA.noF, hA.skp]
    refine hK _ _ ?_; clear hK K hA A
    first | refine .seq (.rg fun A hA K hK => ?_) | refine .seq (.seq (.rg fun A hA K hK => ?_)) | refine .rg fun A hA K hK => ?_ | refine .seq (.rd fun A hA K hK => ?_) | refine .seq (.seq (.rd fun A hA K hK => ?_)) | refine .rd fun A hA K hK => ?_
    simp (maxSteps := 1000000) only [go_sem, hA.nil, hA.go, hA.yes, hA.noT, hA.noF, hA.skp, e0, hg, hi]
    refine aopq_callv (by simp (maxSteps := 1000000) only [go_sem]; try rfl) (neg_spec y σ) (by simp (maxSteps := 1000000) only [go_sem]) ?_
    try simp (maxSteps := 1000000) only [go_sem, hA.nil, hA.go, hA.yes, hA.noT, hA.noF, hA.skp]
    refine hK _ _ ?_; clear hK K hA A
    refine .cond (t := negB y) (by simp (maxSteps := 1000000) only [go_sem]) (fun ht => ?_) (fun ht => .skip ?_)
    · have := hx ht
      first | refine .seq (.rg fun A hA K hK => ?_) | refine .seq (.seq (.rg fun A hA K hK => ?_)) | refine .rg fun A hA K hK => ?_ | refine .seq (.rd fun A hA K hK => ?_) | refine .seq (.seq (.rd fun A hA K hK => ?_)) | refine .rd fun A hA K hK => ?_
      simp (maxSteps := 1000000) only [go_sem, hA.nil, hA.go, hA.yes, hA.noT, hA.noF, hA.skp]
      refine hK _ _ ?_; clear hK K hA A
      exact .ret (ret1 (by simp (maxSteps := 1000000) only [go_sem, this]) rfl)
    · exact ⟨by simp (maxSteps := 1000000) only [go_sem], _, ⟨rfl, rfl, hn ht⟩, by simp (maxSteps := 1000000) only [go_sem]; try rfl⟩
  · rintro L t F ⟨rfl, rfl, hno⟩ hf
    simp (maxSteps := 1000000) only [go_sem] at hf
    rw [List.take_length] at hno
    have : l.findIdx? negB = none := by
      rw [List.findIdx?_eq_none_iff]; intro y hy
      have := List.all_eq_true.1 hno y hy
      simpa using this
    have hx : idxN l = -1 := by simp only [idxN, this]
    first | refine .seq (.rg fun A hA K hK => ?_) | refine .seq (.seq (.rg fun A hA K hK => ?_)) | refine .rg fun A hA K hK => ?_ | refine .seq (.rd fun A hA K hK => ?_) | refine .seq (.seq (.rd fun A hA K hK => ?_)) | refine .rd fun A hA K hK => ?_
    simp (maxSteps := 1000000) only [go_sem, hA.nil, hA.go, hA.yes, hA.noT, hA.noF, hA.skp]
    refine hK _ _ ?_; clear hK K hA A
    exact .ret (ret1 (by simp (maxSteps := 1000000) only [go_sem, hx]) rfl)
/-- slices.ContainsFunc -/
theorem anyNeg_spec (l : List Int) (σ : St) : T Try.prog 118 [ints l, .func 119 []] σ (.bool (l.any negB)) σ := by
  refine in118 (by simp) fun wf hab => ?_
  clear hab
  obtain ⟨k, hk, hT⟩ := indexNeg_spec l σ
  have hc : decide (k ≥ 0) = l.any negB := by
    cases h : l.any negB with
    | true => simpa using hk.2 h
    | false => rw [h] at hk; simpa using hk
  unfold c118
  first | refine .seq (.rg fun A hA K hK => ?_) | refine .seq (.seq (.rg fun A hA K hK => ?_)) | refine .rg fun A hA K hK => ?_ | refine .seq (.rd fun A hA K hK => ?_) | refine .seq (.seq (.rd fun A hA K hK => ?_)) | refine .rd fun A hA K hK => ?_
  simp (maxSteps := 1000000) only [go_sem, hA.nil, hA.go, hA.yes, hA.noT, hA.noF, hA.skp]
  refine hK _ _ ?_; clear hK K hA A
  first | refine .seq (.rg fun A hA K hK => ?_) | refine .seq (.seq (.rg fun A hA K hK => ?_)) | refine .rg fun A hA K hK => ?_ | refine .seq (.rd fun A hA K hK => ?_) | refine .seq (.seq (.rd fun A hA K hK => ?_)) | refine .rd fun A hA K hK => ?_
  simp (maxSteps := 1000000) only [go_sem, hA.nil, hA.go, hA.yes, hA.noT, hA.noF, hA.skp]
  first | refine aopq_call (hT) (by simp (maxSteps := 1000000) only [go_sem]) ?_ | refine aop_call (hT) (by simp (maxSteps := 1000000) only [go_sem]) ?_
  try simp (maxSteps := 1000000) only [go_sem, hA.nil, hA.go, hA.yes, hA.noT, hA.noF, hA.skp]
  refine hK _ _ ?_; clear hK K hA A
  exact .ret (ret1 (by simp (maxSteps := 1000000) only [go_sem, hc]) rfl)

/-- When Do does not refuse, by a maker of n devices. -/
def doB (n : Nat) (sizes s fr to regs : List Int) : Bool := mayB sizes s fr to && (((n : Int) == devE sizes) && (((regs.length : Int) == devE sizes) && !regs.any negB))
section mk
variable {o : Nat → Option Nat} {σ : St} {b bL bR : Nat} {vs : List AV} {ps : List (List Instr)} {rs : List Int} {tg : Int}
/-- move.Do, where it refuses -/
theorem doBad_spec (hb : σ.blk b = some (.cells 3 [[.sl bL 0 ps.length, .sl bR 0 rs.length, I tg]])) (sizes s fr to regs : List Int) (hd : doB ps.length sizes s fr to regs = false) :
    T Try.prog 89 [.ptr b 0 0, ints sizes, ints s, ints fr, ints to, ints regs] σ (.tup [.nils, I 1]) σ := by
  refine in89 (by simp) fun wf hab => ?_
  clear hab
  have q1 := mayM_spec sizes s fr to σ
  have q2 := devices_spec hb
  have q3 := anyNeg_spec regs σ
  unfold c89
  first | refine .seq (.rg fun A hA K hK => ?_) | refine .seq (.seq (.rg fun A hA K hK => ?_)) | refine .rg fun A hA K hK => ?_ | refine .seq (.rd fun A hA K hK => ?_) | refine .seq (.seq (.rd fun A hA K hK => ?_)) | refine .rd fun A hA K hK => ?_
  simp (maxSteps := 1000000) only [go_sem, hA.nil, hA.go, hA.yes, hA.noT, hA.noF, hA.skp]
  refine hK _ _ ?_; clear hK K hA A
  first | refine .seq (.rg fun A hA K hK => ?_) | refine .seq (.seq (.rg fun A hA K hK => ?_)) | refine .rg fun A hA K hK => ?_ | refine .seq (.rd fun A hA K hK => ?_) | refine .seq (.seq (.rd fun A hA K hK => ?_)) | refine .rd fun A hA K hK => ?_
  simp (maxSteps := 1000000) only [go_sem, hA.nil, hA.go, hA.yes, hA.noT, hA.noF, hA.skp]
  first | refine aopq_call (dev_spec sizes σ) (by simp (maxSteps := 1000000) only [go_sem]) ?_ | refine aop_call (dev_spec sizes σ) (by simp (maxSteps := 1000000) only [go_sem]) ?_
  try simp (maxSteps := 1000000) only [go_sem, hA.nil, hA.go, hA.yes, hA.noT, hA.noF, hA.skp]
  refine hK _ _ ?_; clear hK K hA A
  cases h1 : mayB sizes s fr to <;> rw [h1] at q1
  · first | refine .seq (.rg fun A hA K hK => ?_) | refine .seq (.seq (.rg fun A hA K hK => ?_)) | refine .rg fun A hA K hK => ?_ | refine .seq (.rd fun A hA K hK => ?_) | refine .seq (.seq (.rd fun A hA K hK => ?_)) | refine .rd fun A hA K hK => ?_
    simp (maxSteps := 1000000) only [go_sem, hA.nil, hA.go, hA.yes, hA.noT, hA.noF, hA.skp]
    first | refine aopq_call (q1) (by simp (maxSteps := 1000000) only [go_sem]) ?_ | refine aop_call (q1) (by simp (maxSteps := 1000000) only [go_sem]) ?_
    try simp (maxSteps := 1000000) only [go_sem, hA.nil, hA.go, hA.yes, hA.noT, hA.noF, hA.skp]
    try simp (maxSteps := 1000000) only [go_sem, hA.nil, hA.go, hA.yes, hA.noT, hA.noF, hA.skp]
    refine hK _ _ ?_; clear hK K hA A
    refine .cond (t := true) (by simp (maxSteps := 1000000) only [go_sem]) (fun _ => ?_) (fun h => by cases h)
    first | refine .seq (.rg fun A hA K hK => ?_) | refine .seq (.seq (.rg fun A hA K hK => ?_)) | refine .rg fun A hA K hK => ?_ | refine .seq (.rd fun A hA K hK => ?_) | refine .seq (.seq (.rd fun A hA K hK => ?_)) | refine .rd fun A hA K hK => ?_
    simp (maxSteps := 1000000) only [go_sem, hA.nil, hA.go, hA.yes, hA.noT, hA.noF, hA.skp]
    refine hK _ _ ?_; clear hK K hA A
    exact .ret (retS2 (by simp (maxSteps := 1000000) only [go_sem]) (by simp (maxSteps := 1000000) only [go_sem]) ⟨rfl, rfl⟩)
  by_cases h2 : (ps.length : Int) = devE sizes
  · have c2 : ((ps.length : Int) != devE sizes) = false := by simpa using h2
    by_cases h3 : (regs.length : Int) = devE sizes
    · have c3 : ((regs.length : Int) != devE sizes) = false := by simpa using h3
      have c4 : regs.any negB = true := by
        simp only [doB, h1, Bool.true_and, beq_iff_eq.2 h2, beq_iff_eq.2 h3] at hd
        simpa using hd
      rw [c4] at q3
      first | refine .seq (.rg fun A hA K hK => ?_) | refine .seq (.seq (.rg fun A hA K hK => ?_)) | refine .rg fun A hA K hK => ?_ | refine .seq (.rd fun A hA K hK => ?_) | refine .seq (.seq (.rd fun A hA K hK => ?_)) | refine .rd fun A hA K hK => ?_
      simp (maxSteps := 1000000) only [go_sem, hA.nil, hA.go, hA.yes, hA.noT, hA.noF, hA.skp, c2, c3]
      first | refine aopq_call (q1) (by simp (maxSteps := 1000000) only [go_sem]) ?_ | refine aop_call (q1) (by simp (maxSteps := 1000000) only [go_sem]) ?_
      try simp (maxSteps := 1000000) only [go_sem, hA.nil, hA.go, hA.yes, hA.noT, hA.noF, hA.skp]
      try simp (maxSteps := 1000000) only [go_sem, hA.nil, hA.go, hA.yes, hA.noT, hA.noF, hA.skp, c2, c3]
      first | refine aopq_call (q2) (by simp (maxSteps := 1000000) only [go_sem]) ?_ | refine aop_call (q2) (by simp (maxSteps := 1000000) only [go_sem]) ?_
      try simp (maxSteps := 1000000) only [go_sem, hA.nil, hA.go, hA.yes, hA.noT, hA.noF, hA.skp]
      try simp (maxSteps := 1000000) only [go_sem, hA.nil, hA.go, hA.yes, hA.noT, hA.noF, hA.skp, c2, c3]
      first | refine aopq_call (q3) (by simp (maxSteps := 1000000) only [go_sem]) ?_ | refine aop_call (q3) (by simp (maxSteps := 1000000) only [go_sem]) ?_
      try simp (maxSteps := 1000000) only [go_sem, hA.nil, hA.go, hA.yes, hA.noT, hA.noF, hA.skp]
      try simp (maxSteps := 1000000) only [go_sem, hA.nil, hA.go, hA.yes, hA.noT, hA.noF, hA.skp, c2, c3]
      refine hK _ _ ?_; clear hK K hA A
      refine .cond (t := true) (by simp (maxSteps := 1000000) only [go_sem]) (fun _ => ?_) (fun h => by cases h)
      first | refine .seq (.rg fun A hA K hK => ?_) | refine .seq (.seq (.rg fun A hA K hK => ?_)) | refine .rg fun A hA K hK => ?_ | refine .seq (.rd fun A hA K hK => ?_) | refine .seq (.seq (.rd fun A hA K hK => ?_)) | refine .rd fun A hA K hK => ?_
      simp (maxSteps := 1000000) only [go_sem, hA.nil, hA.go, hA.yes, hA.noT, hA.noF, hA.skp]
      refine hK _ _ ?_; clear hK K hA A
      exact .ret (retS2 (by simp (maxSteps := 1000000) only [go_sem]) (by simp (maxSteps := 1000000) only [go_sem]) ⟨rfl, rfl⟩)
    · have c3 : ((regs.length : Int) != devE sizes) = true := by simpa using h3
      first | refine .seq (.rg fun A hA K hK => ?_) | refine .seq (.seq (.rg fun A hA K hK => ?_)) | refine .rg fun A hA K hK => ?_ | refine .seq (.rd fun A hA K hK => ?_) | refine .seq (.seq (.rd fun A hA K hK => ?_)) | refine .rd fun A hA K hK => ?_
      simp (maxSteps := 1000000) only [go_sem, hA.nil, hA.go, hA.yes, hA.noT, hA.noF, hA.skp, c2, c3]
      first | refine aopq_call (q1) (by simp (maxSteps := 1000000) only [go_sem]) ?_ | refine aop_call (q1) (by simp (maxSteps := 1000000) only [go_sem]) ?_
      try simp (maxSteps := 1000000) only [go_sem, hA.nil, hA.go, hA.yes, hA.noT, hA.noF, hA.skp]
      try simp (maxSteps := 1000000) only [go_sem, hA.nil, hA.go, hA.yes, hA.noT, hA.noF, hA.skp, c2, c3]
      first | refine aopq_call (q2) (by simp (maxSteps := 1000000) only [go_sem]) ?_ | refine aop_call (q2) (by simp (maxSteps := 1000000) only [go_sem]) ?_
      try simp (maxSteps := 1000000) only [go_sem, hA.nil, hA.go, hA.yes, hA.noT, hA.noF, hA.skp]
      try simp (maxSteps := 1000000) only [go_sem, hA.nil, hA.go, hA.yes, hA.noT, hA.noF, hA.skp, c2, c3]
      refine hK _ _ ?_; clear hK K hA A
      refine .cond (t := true) (by simp (maxSteps := 1000000) only [go_sem]) (fun _ => ?_) (fun h => by cases h)
      first | refine .seq (.rg fun A hA K hK => ?_) | refine .seq (.seq (.rg fun A hA K hK => ?_)) | refine .rg fun A hA K hK => ?_ | refine .seq (.rd fun A hA K hK => ?_) | refine .seq (.seq (.rd fun A hA K hK => ?_)) | refine .rd fun A hA K hK => ?_
      simp (maxSteps := 1000000) only [go_sem, hA.nil, hA.go, hA.yes, hA.noT, hA.noF, hA.skp]
      refine hK _ _ ?_; clear hK K hA A
      exact .ret (retS2 (by simp (maxSteps := 1000000) only [go_sem]) (by simp (maxSteps := 1000000) only [go_sem]) ⟨rfl, rfl⟩)
  · have c2 : ((ps.length : Int) != devE sizes) = true := by simpa using h2
    first | refine .seq (.rg fun A hA K hK => ?_) | refine .seq (.seq (.rg fun A hA K hK => ?_)) | refine .rg fun A hA K hK => ?_ | refine .seq (.rd fun A hA K hK => ?_) | refine .seq (.seq (.rd fun A hA K hK => ?_)) | refine .rd fun A hA K hK => ?_
    simp (maxSteps := 1000000) only [go_sem, hA.nil, hA.go, hA.yes, hA.noT, hA.noF, hA.skp, c2]
    first | refine aopq_call (q1) (by simp (maxSteps := 1000000) only [go_sem]) ?_ | refine aop_call (q1) (by simp (maxSteps := 1000000) only [go_sem]) ?_
    try simp (maxSteps := 1000000) only [go_sem, hA.nil, hA.go, hA.yes, hA.noT, hA.noF, hA.skp]
    try simp (maxSteps := 1000000) only [go_sem, hA.nil, hA.go, hA.yes, hA.noT, hA.noF, hA.skp, c2]
    first | refine aopq_call (q2) (by simp (maxSteps := 1000000) only [go_sem]) ?_ | refine aop_call (q2) (by simp (maxSteps := 1000000) only [go_sem]) ?_
    try simp (maxSteps := 1000000) only [go_sem, hA.nil, hA.go, hA.yes, hA.noT, hA.noF, hA.skp]
    try simp (maxSteps := 1000000) only [go_sem, hA.nil, hA.go, hA.yes, hA.noT, hA.noF, hA.skp, c2]
    refine hK _ _ ?_; clear hK K hA A
    refine .cond (t := true) (by simp (maxSteps := 1000000) only [go_sem]) (fun _ => ?_) (fun h => by cases h)
    first | refine .seq (.rg fun A hA K hK => ?_) | refine .seq (.seq (.rg fun A hA K hK => ?_)) | refine .rg fun A hA K hK => ?_ | refine .seq (.rd fun A hA K hK => ?_) | refine .seq (.seq (.rd fun A hA K hK => ?_)) | refine .rd fun A hA K hK => ?_
    simp (maxSteps := 1000000) only [go_sem, hA.nil, hA.go, hA.yes, hA.noT, hA.noF, hA.skp]
    refine hK _ _ ?_; clear hK K hA A
    exact .ret (retS2 (by simp (maxSteps := 1000000) only [go_sem]) (by simp (maxSteps := 1000000) only [go_sem]) ⟨rfl, rfl⟩)
end mk
/-- move.Do, of no maker -/
theorem doNil_spec (sizes s fr to regs : List Int) (σ : St) : T Try.prog 89 [.nilp, ints sizes, ints s, ints fr, ints to, ints regs] σ (.tup [.nils, I 1]) σ := by
  refine in89 (by simp) fun wf hab => ?_
  clear hab
  unfold c89
  first | refine .seq (.rg fun A hA K hK => ?_) | refine .seq (.seq (.rg fun A hA K hK => ?_)) | refine .rg fun A hA K hK => ?_ | refine .seq (.rd fun A hA K hK => ?_) | refine .seq (.seq (.rd fun A hA K hK => ?_)) | refine .rd fun A hA K hK => ?_
  simp (maxSteps := 1000000) only [go_sem, hA.nil, hA.go, hA.yes, hA.noT, hA.noF, hA.skp]
  refine hK _ _ ?_; clear hK K hA A
  first | refine .seq (.rg fun A hA K hK => ?_) | refine .seq (.seq (.rg fun A hA K hK => ?_)) | refine .rg fun A hA K hK => ?_ | refine .seq (.rd fun A hA K hK => ?_) | refine .seq (.seq (.rd fun A hA K hK => ?_)) | refine .rd fun A hA K hK => ?_
  simp (maxSteps := 1000000) only [go_sem, hA.nil, hA.go, hA.yes, hA.noT, hA.noF, hA.skp]
  first | refine aopq_call (dev_spec sizes σ) (by simp (maxSteps := 1000000) only [go_sem]) ?_ | refine aop_call (dev_spec sizes σ) (by simp (maxSteps := 1000000) only [go_sem]) ?_
  try simp (maxSteps := 1000000) only [go_sem, hA.nil, hA.go, hA.yes, hA.noT, hA.noF, hA.skp]
  refine hK _ _ ?_; clear hK K hA A
  first | refine .seq (.rg fun A hA K hK => ?_) | refine .seq (.seq (.rg fun A hA K hK => ?_)) | refine .rg fun A hA K hK => ?_ | refine .seq (.rd fun A hA K hK => ?_) | refine .seq (.seq (.rd fun A hA K hK => ?_)) | refine .rd fun A hA K hK => ?_
  simp (maxSteps := 1000000) only [go_sem, hA.nil, hA.go, hA.yes, hA.noT, hA.noF, hA.skp]
  refine hK _ _ ?_; clear hK K hA A
  refine .cond (t := true) (by simp (maxSteps := 1000000) only [go_sem]) (fun _ => ?_) (fun h => by cases h)
  first | refine .seq (.rg fun A hA K hK => ?_) | refine .seq (.seq (.rg fun A hA K hK => ?_)) | refine .rg fun A hA K hK => ?_ | refine .seq (.rd fun A hA K hK => ?_) | refine .seq (.seq (.rd fun A hA K hK => ?_)) | refine .rd fun A hA K hK => ?_
  simp (maxSteps := 1000000) only [go_sem, hA.nil, hA.go, hA.yes, hA.noT, hA.noF, hA.skp]
  refine hK _ _ ?_; clear hK K hA A
  exact .ret (retS2 (by simp (maxSteps := 1000000) only [go_sem]) (by simp (maxSteps := 1000000) only [go_sem]) ⟨rfl, rfl⟩)
/-- parquetrylaw23.known -/
theorem known23_spec (σ : St) : T Try.prog 47 [] σ (.bool true) σ := by
  refine in47 (by simp) fun wf hab => ?_
  clear hab
  unfold c47
  first | refine .seq (.rg fun A hA K hK => ?_) | refine .seq (.seq (.rg fun A hA K hK => ?_)) | refine .rg fun A hA K hK => ?_ | refine .seq (.rd fun A hA K hK => ?_) | refine .seq (.seq (.rd fun A hA K hK => ?_)) | refine .rd fun A hA K hK => ?_
  simp (maxSteps := 1000000) only [go_sem, hA.nil, hA.go, hA.yes, hA.noT, hA.noF, hA.skp]
  refine hK _ _ ?_; clear hK K hA A
  first | refine .seq (.rg fun A hA K hK => ?_) | refine .seq (.seq (.rg fun A hA K hK => ?_)) | refine .rg fun A hA K hK => ?_ | refine .seq (.rd fun A hA K hK => ?_) | refine .seq (.seq (.rd fun A hA K hK => ?_)) | refine .rd fun A hA K hK => ?_
  simp (maxSteps := 1000000) only [go_sem, hA.nil, hA.go, hA.yes, hA.noT, hA.noF, hA.skp]
  refine aopq_callQ (new_spec 2 (by decide) (by decide) σ) (by simp (maxSteps := 1000000) only [go_sem]) ?_
  rintro v s ⟨o, bb, bL, bR, vs, rfl, hM, hn, ho, hx⟩
  try simp (maxSteps := 1000000) only [go_sem, hA.nil, hA.go, hA.yes, hA.noT, hA.noF, hA.skp]
  refine hK _ _ ?_; clear hK K hA A
  have hb := hM.hb
  have q1 := doBad_spec hb [2] [4] [0] [0, -1] [0, 0] (by decide)
  have q2 := doNil_spec [] [] [] [] [0] s
  have q2' : TQ Try.prog 89 [.nilp, .nils, .nils, .nils, .nils, ints [0]] s fun v' s' => v' = .tup [.nils, I 1] ∧ s' = s := by
    refine TQ.sub (args' := [.nilp, ints [], ints [], ints [], ints [], ints [0]]) rfl (fun i hi => ?_) q2
    simp only [List.length_cons, List.length_nil] at hi
    rcases (by omega : i = 0 ∨ i = 1 ∨ i = 2 ∨ i = 3 ∨ i = 4 ∨ i = 5) with rfl | rfl | rfl | rfl | rfl | rfl
    · exact .refl _
    · exact .nils 1
    · exact .nils 1
    · exact .nils 1
    · exact .nils 1
    · exact .refl _
  have q3 := bound_spec [2] [4] [0] [-1] s
  have q4 := bound_spec [9] [] [] [] s
  have q4' : TQ Try.prog 88 [ints [9], .nils, .nils, .nils] s fun v' s' => v' = I 0 ∧ s' = s := by
    have e : boundE [9] [] [] [] = 0 := by decide
    rw [e] at q4
    refine TQ.sub (args' := [ints [9], ints [], ints [], ints []]) rfl (fun i hi => ?_) q4
    simp only [List.length_cons, List.length_nil] at hi
    rcases (by omega : i = 0 ∨ i = 1 ∨ i = 2 ∨ i = 3) with rfl | rfl | rfl | rfl
    · exact .refl _
    · exact .nils 1
    · exact .nils 1
    · exact .nils 1
  have e3 : boundE [2] [4] [0] [-1] = 320 := by decide
  rw [e3] at q3
  first | refine .seq (.rg fun A hA K hK => ?_) | refine .seq (.seq (.rg fun A hA K hK => ?_)) | refine .rg fun A hA K hK => ?_ | refine .seq (.rd fun A hA K hK => ?_) | refine .seq (.seq (.rd fun A hA K hK => ?_)) | refine .rd fun A hA K hK => ?_
  simp (maxSteps := 1000000) only [go_sem, hA.nil, hA.go, hA.yes, hA.noT, hA.noF, hA.skp]
  refine aopq_callQ (T.toQ q1) (by simp (maxSteps := 1000000) only [go_sem]) ?_
  rintro v t ⟨rfl, rfl⟩
  try simp (maxSteps := 1000000) only [go_sem, hA.nil, hA.go, hA.yes, hA.noT, hA.noF, hA.skp]
  refine hK _ _ ?_; clear hK K hA A
  first | refine .seq (.rg fun A hA K hK => ?_) | refine .seq (.seq (.rg fun A hA K hK => ?_)) | refine .rg fun A hA K hK => ?_ | refine .seq (.rd fun A hA K hK => ?_) | refine .seq (.seq (.rd fun A hA K hK => ?_)) | refine .rd fun A hA K hK => ?_
  simp (maxSteps := 1000000) only [go_sem, hA.nil, hA.go, hA.yes, hA.noT, hA.noF, hA.skp]
  refine aopq_callQ (q2') (by simp (maxSteps := 1000000) only [go_sem]) ?_
  rintro v t ⟨rfl, rfl⟩
  try simp (maxSteps := 1000000) only [go_sem, hA.nil, hA.go, hA.yes, hA.noT, hA.noF, hA.skp]
  refine hK _ _ ?_; clear hK K hA A
  first | refine .seq (.rg fun A hA K hK => ?_) | refine .seq (.seq (.rg fun A hA K hK => ?_)) | refine .rg fun A hA K hK => ?_ | refine .seq (.rd fun A hA K hK => ?_) | refine .seq (.seq (.rd fun A hA K hK => ?_)) | refine .rd fun A hA K hK => ?_
  simp (maxSteps := 1000000) only [go_sem, hA.nil, hA.go, hA.yes, hA.noT, hA.noF, hA.skp]
  first | refine aopq_call (q3) (by simp (maxSteps := 1000000) only [go_sem]) ?_ | refine aop_call (q3) (by simp (maxSteps := 1000000) only [go_sem]) ?_
  try simp (maxSteps := 1000000) only [go_sem, hA.nil, hA.go, hA.yes, hA.noT, hA.noF, hA.skp]
  try simp (maxSteps := 1000000) only [go_sem, hA.nil, hA.go, hA.yes, hA.noT, hA.noF, hA.skp]
  first | refine aopq_call (q4') (by simp (maxSteps := 1000000) only [go_sem]) ?_ | refine aop_call (q4') (by simp (maxSteps := 1000000) only [go_sem]) ?_
  try simp (maxSteps := 1000000) only [go_sem, hA.nil, hA.go, hA.yes, hA.noT, hA.noF, hA.skp]
  try simp (maxSteps := 1000000) only [go_sem, hA.nil, hA.go, hA.yes, hA.noT, hA.noF, hA.skp]
  refine hK _ _ ?_; clear hK K hA A
  exact .ret (retB (by simp (maxSteps := 1000000) only [go_sem]) wf hx (.bool _) ⟨rfl, rfl⟩)
end Go.Proofs.Ytfjbabacpnnjmaa.Av

namespace Go.Proofs.Ytfjbabacpnnjmaa.Av
open Go Go.Av
set_option maxRecDepth 20000
set_option maxHeartbeats 4000000

attribute [local go_sem] step_apply stepD_apply stepE_apply
attribute [local go_sem] aopq_mv aopq_pk aopq_al aopq_bx aopq_bd aopq_bs aopq_ld aopq_st aopq_nc aopq_bin aopq_un aopq_cv aopq_mi aopq_mf aopq_mm aopq_ms aopq_sc aopq_fa aopq_fl aopq_ia aopq_lk aopq_mu aopq_lm aopq_rg aopq_en aopq_ta aopq_ex aopq_ln aopq_ap aopq_mx aopq.eq_3 aop.eq_1 aop.eq_2 aop.eq_3 aop.eq_4 aop.eq_5 aop.eq_6 aop.eq_7 aop.eq_8 aop.eq_9 aop_bin atS_apply aop_un_not aop_un_neg aop.eq_14 aop.eq_15 aop.eq_16 aop.eq_17 aop.eq_18 aop_sc cutS_apply cutN_apply cutL_apply cutO_apply aop.eq_20 aop.eq_21 aop.eq_22 aop.eq_23 aop.eq_24 aop.eq_25 aop.eq_26 aop.eq_27 aop.eq_28 aop.eq_29 aop.eq_30 aop.eq_31 aop.eq_32 blk_push next_push blk_set next_set blk_kill next_kill frL_nil frL_cons Fits_nil Fits_cons Int.reduceBEq Int.reduceBNe Nat.sub_zero Option.map_some Option.map_none List.set_cons_succ true_or or_true false_or or_false Int.le_refl Int.cast_ofNat_Int decide_true decide_false List.cons_append fillA fillR rowsOf List.replicate_succ List.replicate_zero Nat.zero_mul getD_drop List.length_drop splice List.nil_append List.append_nil cond_true cond_false List.set_cons_zero List.length_set ev put_some put_none upd_apply abin asNat bounds row1 mk List.length_cons List.length_nil List.length_map List.drop_zero List.drop_succ_cons List.drop_nil List.getD_cons_zero List.getD_cons_succ Option.getD_none Option.getD_some List.take_succ_cons List.take_zero List.take_nil true_and and_true Int.toNat_natCast if_true if_false Nat.zero_add Nat.add_zero List.map_cons List.map_nil Nat.reduceEqDiff Nat.left_eq_add Nat.add_eq_left Nat.add_left_cancel_iff Nat.add_assoc Nat.reduceSub Nat.reduceAdd Nat.reduceLeDiff Nat.le_refl Nat.zero_le Nat.zero_lt_one Nat.lt_add_one Int.reduceLT Int.reduceLE Int.reduceToNat Nat.reduceLT Nat.reduceBEq Bool.false_eq_true Nat.reduceBNe ne_eq not_false_eq_true not_true_eq_false false_and and_false reduceIte Int.natCast_nonneg reduceCtorEq parts_agg parts_bool parts_int parts_str parts_lit parts_nils parts_sl parts_ptr Int.natCast_nonneg Int.natCast_nonneg beq_self_eq_true bne_self_eq_false Bool.true_and Bool.false_and Bool.and_true Bool.and_false Bool.true_or Bool.false_or Bool.or_true Bool.or_false Bool.not_true Bool.not_false
attribute [local go_sem] instr0 instr1 instr2 instr10 instr11 instr12 instrN instrA instr_len node0 node1 node2 node3 node4 node5 node6 nodeA node_len I ints progA progsA

theorem and_small (x : Int) (n : Nat) (hn : n < 2 ^ 62) : 0 ≤ bits .and .i64 x n ∧ bits .and .i64 x n ≤ n := by
  have h2 : (BitVec.ofInt 64 (n : Int)).toNat = n := by
    rw [BitVec.ofInt_natCast, BitVec.toNat_ofNat]; exact Nat.mod_eq_of_lt (by omega)
  have e : bits .and .i64 x n = IntKind.i64.wrap ((BitVec.ofInt 64 x &&& BitVec.ofInt 64 (n : Int)).toNat : Int) := rfl
  rw [e, BitVec.toNat_and, h2]
  have h3 : (BitVec.ofInt 64 x).toNat &&& n ≤ n := Nat.and_le_right
  generalize (BitVec.ofInt 64 x).toNat &&& n = k at h3
  rw [IntWalk.i64_in _ (by omega)]
  omega

/-- law23.count -/
theorem count23_spec (l : List (List Instr)) (σ : St) : T Try.prog 90 [progsA l] σ (I (cntE l)) σ := by
  refine in90 (by simp) fun wf hab => ?_
  obtain ⟨hl, hps⟩ := hab_progs (hab 0 (by simp))
  clear hab
  unfold c90
  first | refine .seq (.rg fun A hA K hK => ?_) | refine .seq (.seq (.rg fun A hA K hK => ?_)) | refine .rg fun A hA K hK => ?_ | refine .seq (.rd fun A hA K hK => ?_) | refine .seq (.seq (.rd fun A hA K hK => ?_)) | refine .rd fun A hA K hK => ?_
  simp (maxSteps := 1000000) only [go_sem, hA.nil, hA.go, hA.yes, hA.noT, hA.noF, hA.skp]
  refine hK _ _ ?_; clear hK K hA A
  first | refine .seq (.rg fun A hA K hK => ?_) | refine .seq (.seq (.rg fun A hA K hK => ?_)) | refine .rg fun A hA K hK => ?_ | refine .seq (.rd fun A hA K hK => ?_) | refine .seq (.seq (.rd fun A hA K hK => ?_)) | refine .rd fun A hA K hK => ?_
  simp (maxSteps := 1000000) only [go_sem, hA.nil, hA.go, hA.yes, hA.noT, hA.noF, hA.skp]
  refine hK _ _ ?_; clear hK K hA A
  first | refine .seq (.rg fun A hA K hK => ?_) | refine .seq (.seq (.rg fun A hA K hK => ?_)) | refine .rg fun A hA K hK => ?_ | refine .seq (.rd fun A hA K hK => ?_) | refine .seq (.seq (.rd fun A hA K hK => ?_)) | refine .rd fun A hA K hK => ?_
  simp (maxSteps := 1000000) only [go_sem, hA.nil, hA.go, hA.yes, hA.noT, hA.noF, hA.skp]
  refine hK _ _ ?_; clear hK K hA A
  refine .rangeK (N := l.length) (fun i L t => L = [(0, progsA l), (3, I (cntE (l.take i))), (6, I l.length), (7, I i)] ∧ σ = t) hl
    ⟨_, ⟨rfl, rfl⟩, by simp (maxSteps := 1000000) only [go_sem, cntE, List.foldl_nil]; try rfl⟩ ?_ ?_ ?_
  · rintro i L t ⟨rfl, _⟩
    exact ⟨by simp (maxSteps := 1000000) only [go_sem], by simp (maxSteps := 1000000) only [go_sem], rfl⟩
  · rintro i L t hi ⟨rfl, rfl⟩
    have e0 : (i : Int) < l.length := by omega
    have et : cntE (l.take (i + 1)) = IntKind.i64.wrap (cntE (l.take i) + l[i].length) := foldl_take _ _ l i hi
    have hg := progs_get' hi
    first | refine .seq (.rg fun A hA K hK => ?_) | refine .seq (.seq (.rg fun A hA K hK => ?_)) | refine .rg fun A hA K hK => ?_ | refine .seq (.rd fun A hA K hK => ?_) | refine .seq (.seq (.rd fun A hA K hK => ?_)) | refine .rd fun A hA K hK => ?_
    simp (maxSteps := 1000000) only [go_sem, hA.nil, hA.go, hA.yes, hA.noT, hA.noF, hA.skp]
    refine hK _ _ ?_; clear hK K hA A
    first | refine .seq (.rg fun A hA K hK => ?_) | refine .seq (.seq (.rg fun A hA K hK => ?_)) | refine .rg fun A hA K hK => ?_ | refine .seq (.rd fun A hA K hK => ?_) | refine .seq (.seq (.rd fun A hA K hK => ?_)) | refine .rd fun A hA K hK => ?_
    simp (maxSteps := 1000000) only [go_sem, hA.nil, hA.go, hA.yes, hA.noT, hA.noF, hA.skp, hg, e0, hi]
    refine hK _ _ ?_; clear hK K hA A
    exact ⟨by simp (maxSteps := 1000000) only [go_sem], _, ⟨rfl, rfl⟩, by simp (maxSteps := 1000000) only [go_sem, et]; try rfl⟩
  · rintro L t F ⟨rfl, rfl⟩ hf
    simp (maxSteps := 1000000) only [go_sem] at hf
    rw [List.take_length] at hf
    first | refine .seq (.rg fun A hA K hK => ?_) | refine .seq (.seq (.rg fun A hA K hK => ?_)) | refine .rg fun A hA K hK => ?_ | refine .seq (.rd fun A hA K hK => ?_) | refine .seq (.seq (.rd fun A hA K hK => ?_)) | refine .rd fun A hA K hK => ?_
    simp (maxSteps := 1000000) only [go_sem, hA.nil, hA.go, hA.yes, hA.noT, hA.noF, hA.skp, hf]
    refine hK _ _ ?_; clear hK K hA A
    exact .ret (ret1 (by simp (maxSteps := 1000000) only [go_sem]) rfl)
theorem cnt_empty : ∀ n, cntE (List.replicate n []) = 0
  | 0 => rfl
  | n + 1 => by
    have := cnt_empty n
    simp only [cntE, List.replicate_succ, List.foldl_cons, List.length_nil] at this ⊢
    exact this

/-- law23.refuses -/
theorem refuses23_spec (dv : Int) (sizes s fr to regs : List Int) (σ : St) : T Try.prog 46 [I dv, ints sizes, ints s, ints fr, ints to, ints regs] σ (.bool true) σ := by
  refine in46 (by simp) fun wf hab => ?_
  have hrl := hab_ints (hab 5 (by simp))
  clear hab
  have h07 : 0 ≤ bits .and .i64 dv 7 ∧ bits .and .i64 dv 7 ≤ 7 := and_small dv 7 (by decide)
  obtain ⟨n1, n2⟩ := h07
  have hw : IntKind.i64.wrap (1 + bits .and .i64 dv 7) = 1 + bits .and .i64 dv 7 := IntWalk.i64_in _ (by omega)
  obtain ⟨w1, w2, w3⟩ := bound_wrap sizes
  generalize hn : 1 + bits .and .i64 dv 7 = n at hw
  unfold c46
  first | refine .seq (.rg fun A hA K hK => ?_) | refine .seq (.seq (.rg fun A hA K hK => ?_)) | refine .rg fun A hA K hK => ?_ | refine .seq (.rd fun A hA K hK => ?_) | refine .seq (.seq (.rd fun A hA K hK => ?_)) | refine .rd fun A hA K hK => ?_
  simp (maxSteps := 1000000) only [go_sem, hA.nil, hA.go, hA.yes, hA.noT, hA.noF, hA.skp]
  refine hK _ _ ?_; clear hK K hA A
  first | refine .seq (.rg fun A hA K hK => ?_) | refine .seq (.seq (.rg fun A hA K hK => ?_)) | refine .rg fun A hA K hK => ?_ | refine .seq (.rd fun A hA K hK => ?_) | refine .seq (.seq (.rd fun A hA K hK => ?_)) | refine .rd fun A hA K hK => ?_
  simp (maxSteps := 1000000) only [go_sem, hA.nil, hA.go, hA.yes, hA.noT, hA.noF, hA.skp, hn, hw]
  refine aopq_callQ (new_spec n (by omega) (by omega) σ) (by simp (maxSteps := 1000000) only [go_sem, hn, hw]) ?_
  rintro v t ⟨o, bb, bL, bR, vs, rfl, hM, hxn, ho, hx⟩
  try simp (maxSteps := 1000000) only [go_sem, hA.nil, hA.go, hA.yes, hA.noT, hA.noF, hA.skp]
  refine hK _ _ ?_; clear hK K hA A
  have hb := hM.hb
  have hlen : (List.replicate n.toNat ([] : List Instr)).length = n.toNat := List.length_replicate
  first | refine .seq (.rg fun A hA K hK => ?_) | refine .seq (.seq (.rg fun A hA K hK => ?_)) | refine .rg fun A hA K hK => ?_ | refine .seq (.rd fun A hA K hK => ?_) | refine .seq (.seq (.rd fun A hA K hK => ?_)) | refine .rd fun A hA K hK => ?_
  simp (maxSteps := 1000000) only [go_sem, hA.nil, hA.go, hA.yes, hA.noT, hA.noF, hA.skp]
  refine hK _ _ ?_; clear hK K hA A
  refine .cond (t := false) (by simp (maxSteps := 1000000) only [go_sem]) (fun h => by cases h) (fun _ => .skip ?_)
  first | refine .seq (.rg fun A hA K hK => ?_) | refine .seq (.seq (.rg fun A hA K hK => ?_)) | refine .rg fun A hA K hK => ?_ | refine .seq (.rd fun A hA K hK => ?_) | refine .seq (.seq (.rd fun A hA K hK => ?_)) | refine .rd fun A hA K hK => ?_
  simp (maxSteps := 1000000) only [go_sem, hA.nil, hA.go, hA.yes, hA.noT, hA.noF, hA.skp]
  first | refine aopq_call (devRef_spec sizes t) (by simp (maxSteps := 1000000) only [go_sem]) ?_ | refine aop_call (devRef_spec sizes t) (by simp (maxSteps := 1000000) only [go_sem]) ?_
  try simp (maxSteps := 1000000) only [go_sem, hA.nil, hA.go, hA.yes, hA.noT, hA.noF, hA.skp]
  refine hK _ _ ?_; clear hK K hA A
  first | refine .seq (.rg fun A hA K hK => ?_) | refine .seq (.seq (.rg fun A hA K hK => ?_)) | refine .rg fun A hA K hK => ?_ | refine .seq (.rd fun A hA K hK => ?_) | refine .seq (.seq (.rd fun A hA K hK => ?_)) | refine .rd fun A hA K hK => ?_
  simp (maxSteps := 1000000) only [go_sem, hA.nil, hA.go, hA.yes, hA.noT, hA.noF, hA.skp]
  refine hK _ _ ?_; clear hK K hA A
  -- what is wanted
  refine .midK (fun L u => L = [(1, ints sizes), (2, ints s), (3, ints fr), (4, ints to), (5, ints regs), (13, .ptr bb 0 0), (14, I (devE sizes)), (15, I (boundE sizes s fr to))] ∧ u = t) ?_ ?_
  · first | refine .seq (.rg fun A hA K hK => ?_) | refine .seq (.seq (.rg fun A hA K hK => ?_)) | refine .rg fun A hA K hK => ?_ | refine .seq (.rd fun A hA K hK => ?_) | refine .seq (.seq (.rd fun A hA K hK => ?_)) | refine .rd fun A hA K hK => ?_
    simp (maxSteps := 1000000) only [go_sem, hA.nil, hA.go, hA.yes, hA.noT, hA.noF, hA.skp]
    first | refine aopq_call (mayL_spec sizes s fr to t) (by simp (maxSteps := 1000000) only [go_sem]) ?_ | refine aop_call (mayL_spec sizes s fr to t) (by simp (maxSteps := 1000000) only [go_sem]) ?_
    try simp (maxSteps := 1000000) only [go_sem, hA.nil, hA.go, hA.yes, hA.noT, hA.noF, hA.skp]
    refine hK _ _ ?_; clear hK K hA A
    refine .cond (t := mayB sizes s fr to) (by simp (maxSteps := 1000000) only [go_sem]) (fun ht => ?_) (fun ht => .skip ?_)
    · have hbd : boundE sizes s fr to = 64 * devE sizes * devE sizes + 64 := if_pos ht
      first | refine .seq (.rg fun A hA K hK => ?_) | refine .seq (.seq (.rg fun A hA K hK => ?_)) | refine .rg fun A hA K hK => ?_ | refine .seq (.rd fun A hA K hK => ?_) | refine .seq (.seq (.rd fun A hA K hK => ?_)) | refine .rd fun A hA K hK => ?_
      simp (maxSteps := 1000000) only [go_sem, hA.nil, hA.go, hA.yes, hA.noT, hA.noF, hA.skp, w1, w2, w3]
      refine hK _ _ ?_; clear hK K hA A
      exact ⟨_, ⟨rfl, rfl⟩, by simp (maxSteps := 1000000) only [go_sem, hbd]⟩
    · have hbd : boundE sizes s fr to = 0 := if_neg (by rw [ht]; simp)
      exact ⟨_, ⟨rfl, rfl⟩, by simp (maxSteps := 1000000) only [go_sem, hbd]⟩
  rintro L u ⟨rfl, rfl⟩
  have cne : (boundE sizes s fr to != boundE sizes s fr to) = false := by simp
  first | refine .seq (.rg fun A hA K hK => ?_) | refine .seq (.seq (.rg fun A hA K hK => ?_)) | refine .rg fun A hA K hK => ?_ | refine .seq (.rd fun A hA K hK => ?_) | refine .seq (.seq (.rd fun A hA K hK => ?_)) | refine .rd fun A hA K hK => ?_
  simp (maxSteps := 1000000) only [go_sem, hA.nil, hA.go, hA.yes, hA.noT, hA.noF, hA.skp]
  first | refine aopq_call (bound_spec sizes s fr to u) (by simp (maxSteps := 1000000) only [go_sem]) ?_ | refine aop_call (bound_spec sizes s fr to u) (by simp (maxSteps := 1000000) only [go_sem]) ?_
  try simp (maxSteps := 1000000) only [go_sem, hA.nil, hA.go, hA.yes, hA.noT, hA.noF, hA.skp]
  try simp (maxSteps := 1000000) only [go_sem, hA.nil, hA.go, hA.yes, hA.noT, hA.noF, hA.skp, cne]
  refine hK _ _ ?_; clear hK K hA A
  refine .cond (t := false) (by simp (maxSteps := 1000000) only [go_sem, cne]) (fun h => by cases h) (fun _ => .skip ?_)
  have q2 := devices_spec hb
  rw [hlen] at q2
  have hnn : ((n.toNat : Nat) : Int) = n := by omega
  rw [hnn] at q2
  -- whether it may be
  refine .midK (fun L v => L = [(1, ints sizes), (2, ints s), (3, ints fr), (4, ints to), (5, ints regs), (13, .ptr bb 0 0), (16, .bool (mayB sizes s fr to && (n == devE sizes && ((regs.length : Int) == devE sizes))))] ∧ v = u) ?_ ?_
  · obtain ⟨d1, d2, d3⟩ := devE_in sizes
    by_cases h1 : mayB sizes s fr to = true
    · have hpos : boundE sizes s fr to > 0 := by
        have h64 : 0 ≤ 64 * devE sizes * devE sizes := by
          have := Int.mul_nonneg (Int.mul_nonneg (by decide : (0 : Int) ≤ 64) d1) d1; exact this
        rw [boundE, if_pos h1]; omega
      by_cases h2 : devE sizes = n
      · have c2 : (devE sizes == n) = true := by simpa using h2
        have c2' : (n == devE sizes) = true := by simpa using h2.symm
        first | refine .seq (.rg fun A hA K hK => ?_) | refine .seq (.seq (.rg fun A hA K hK => ?_)) | refine .rg fun A hA K hK => ?_ | refine .seq (.rd fun A hA K hK => ?_) | refine .seq (.seq (.rd fun A hA K hK => ?_)) | refine .rd fun A hA K hK => ?_
        simp (maxSteps := 1000000) only [go_sem, hA.nil, hA.go, hA.yes, hA.noT, hA.noF, hA.skp, hpos, c2]
        first | refine aopq_call (q2) (by simp (maxSteps := 1000000) only [go_sem]) ?_ | refine aop_call (q2) (by simp (maxSteps := 1000000) only [go_sem]) ?_
        try simp (maxSteps := 1000000) only [go_sem, hA.nil, hA.go, hA.yes, hA.noT, hA.noF, hA.skp]
        try simp (maxSteps := 1000000) only [go_sem, hA.nil, hA.go, hA.yes, hA.noT, hA.noF, hA.skp, hpos, c2]
        refine hK _ _ ?_; clear hK K hA A
        exact ⟨_, ⟨rfl, rfl⟩, by simp (maxSteps := 1000000) only [go_sem, h1, c2', List.length_map]⟩
      · have c2 : (devE sizes == n) = false := by simpa using h2
        have c2' : (n == devE sizes) = false := by simpa using fun e => h2 e.symm
        first | refine .seq (.rg fun A hA K hK => ?_) | refine .seq (.seq (.rg fun A hA K hK => ?_)) | refine .rg fun A hA K hK => ?_ | refine .seq (.rd fun A hA K hK => ?_) | refine .seq (.seq (.rd fun A hA K hK => ?_)) | refine .rd fun A hA K hK => ?_
        simp (maxSteps := 1000000) only [go_sem, hA.nil, hA.go, hA.yes, hA.noT, hA.noF, hA.skp, hpos, c2]
        first | refine aopq_call (q2) (by simp (maxSteps := 1000000) only [go_sem]) ?_ | refine aop_call (q2) (by simp (maxSteps := 1000000) only [go_sem]) ?_
        try simp (maxSteps := 1000000) only [go_sem, hA.nil, hA.go, hA.yes, hA.noT, hA.noF, hA.skp]
        try simp (maxSteps := 1000000) only [go_sem, hA.nil, hA.go, hA.yes, hA.noT, hA.noF, hA.skp, hpos, c2]
        refine hK _ _ ?_; clear hK K hA A
        exact ⟨_, ⟨rfl, rfl⟩, by simp (maxSteps := 1000000) only [go_sem, h1, c2']⟩
    · have h1 : mayB sizes s fr to = false := by simpa using h1
      have hpos : ¬ boundE sizes s fr to > 0 := by rw [boundE, if_neg (by rw [h1]; simp)]; omega
      first | refine .seq (.rg fun A hA K hK => ?_) | refine .seq (.seq (.rg fun A hA K hK => ?_)) | refine .rg fun A hA K hK => ?_ | refine .seq (.rd fun A hA K hK => ?_) | refine .seq (.seq (.rd fun A hA K hK => ?_)) | refine .rd fun A hA K hK => ?_
      simp (maxSteps := 1000000) only [go_sem, hA.nil, hA.go, hA.yes, hA.noT, hA.noF, hA.skp, hpos]
      refine hK _ _ ?_; clear hK K hA A
      exact ⟨_, ⟨rfl, rfl⟩, by simp (maxSteps := 1000000) only [go_sem, h1]⟩
  rintro L v ⟨rfl, rfl⟩
  generalize hK0 : (mayB sizes s fr to && (n == devE sizes && ((regs.length : Int) == devE sizes))) = k0
  have hany : ∀ i, (h : i < regs.length) → (regs.take (i + 1)).any negB = ((regs.take i).any negB || negB regs[i]) := fun i h => by
    rw [List.take_succ_eq_append_getElem h, List.any_append]; simp
  refine .midK (fun L w => L = [(1, ints sizes), (2, ints s), (3, ints fr), (4, ints to), (5, ints regs), (13, .ptr bb 0 0), (16, .bool (k0 && !regs.any negB))] ∧ w = v) ?_ ?_
  · first | refine .seq (.rg fun A hA K hK => ?_) | refine .seq (.seq (.rg fun A hA K hK => ?_)) | refine .rg fun A hA K hK => ?_ | refine .seq (.rd fun A hA K hK => ?_) | refine .seq (.seq (.rd fun A hA K hK => ?_)) | refine .rd fun A hA K hK => ?_
    simp (maxSteps := 1000000) only [go_sem, hA.nil, hA.go, hA.yes, hA.noT, hA.noF, hA.skp]
    refine hK _ _ ?_; clear hK K hA A
    refine .rangeK (N := regs.length) (fun i L w => L = [(1, ints sizes), (2, ints s), (3, ints fr), (4, ints to), (5, ints regs), (13, .ptr bb 0 0), (16, .bool (k0 && !(regs.take i).any negB)), (60, I regs.length), (61, I i)] ∧ w = v) hrl ⟨_, ⟨rfl, rfl⟩, by simp (maxSteps := 1000000) only [go_sem, List.take_zero, List.any_nil]; try rfl⟩ ?_ ?_ ?_
    · rintro i L w ⟨rfl, _⟩
      exact ⟨by simp (maxSteps := 1000000) only [go_sem], by simp (maxSteps := 1000000) only [go_sem], rfl⟩
    · rintro i L w hi ⟨rfl, rfl⟩
      have e0 : (i : Int) < regs.length := by omega
      have hg := ints_get hi
      have ha := hany i hi
      generalize regs[i] = x at hg ha
      first | refine .seq (.rg fun A hA K hK => ?_) | refine .seq (.seq (.rg fun A hA K hK => ?_)) | refine .rg fun A hA K hK => ?_ | refine .seq (.rd fun A hA K hK => ?_) | refine .seq (.seq (.rd fun A hA K hK => ?_)) | refine .rd fun A hA K hK => ?_
      simp (maxSteps := 1000000) only [go_sem, hA.nil, hA.go, hA.yes, hA.noT, hA.noF, hA.skp]
      refine hK _ _ ?_; clear hK K hA A
      cases hc : (k0 && !(regs.take i).any negB) with
      | false =>
        first | refine .seq (.rg fun A hA K hK => ?_) | refine .seq (.seq (.rg fun A hA K hK => ?_)) | refine .rg fun A hA K hK => ?_ | refine .seq (.rd fun A hA K hK => ?_) | refine .seq (.seq (.rd fun A hA K hK => ?_)) | refine .rd fun A hA K hK => ?_
        simp (maxSteps := 1000000) only [go_sem, hA.nil, hA.go, hA.yes, hA.noT, hA.noF, hA.skp]
        refine hK _ _ ?_; clear hK K hA A
        refine ⟨by simp (maxSteps := 1000000) only [go_sem], _, ⟨rfl, rfl⟩, ?_⟩
        have : (k0 && !(regs.take (i + 1)).any negB) = false := by
          rw [ha]
          generalize (regs.take i).any negB = A at hc
          cases k0 <;> cases A <;> first | rfl | (cases hc)
        simp (maxSteps := 1000000) only [go_sem, this]
        try rfl
      | true =>
        first | refine .seq (.rg fun A hA K hK => ?_) | refine .seq (.seq (.rg fun A hA K hK => ?_)) | refine .rg fun A hA K hK => ?_ | refine .seq (.rd fun A hA K hK => ?_) | refine .seq (.seq (.rd fun A hA K hK => ?_)) | refine .rd fun A hA K hK => ?_
        simp (maxSteps := 1000000) only [go_sem, hA.nil, hA.go, hA.yes, hA.noT, hA.noF, hA.skp, e0, hg, hi]
        refine hK _ _ ?_; clear hK K hA A
        refine ⟨by simp (maxSteps := 1000000) only [go_sem], _, ⟨rfl, rfl⟩, ?_⟩
        have : (k0 && !(regs.take (i + 1)).any negB) = decide (x ≥ 0) := by
          rw [Bool.and_eq_true] at hc
          rw [ha, hc.1]
          have h2 : (regs.take i).any negB = false := by simpa using hc.2
          rw [h2]
          by_cases hx : x < 0
          · have h3 : ¬ x ≥ 0 := by omega
            simp [negB, hx]
          · have h3 : x ≥ 0 := by omega
            simp only [negB, decide_eq_false hx, decide_eq_true h3]; rfl
        simp (maxSteps := 1000000) only [go_sem, this]
        try rfl
    · rintro L w F ⟨rfl, rfl⟩ hf
      simp (maxSteps := 1000000) only [go_sem] at hf
      rw [List.take_length] at hf
      exact ⟨_, ⟨rfl, rfl⟩, by simp (maxSteps := 1000000) only [go_sem, hf]⟩
  rintro L w ⟨rfl, rfl⟩
  first | refine .seq (.rg fun A hA K hK => ?_) | refine .seq (.seq (.rg fun A hA K hK => ?_)) | refine .rg fun A hA K hK => ?_ | refine .seq (.rd fun A hA K hK => ?_) | refine .seq (.seq (.rd fun A hA K hK => ?_)) | refine .rd fun A hA K hK => ?_
  simp (maxSteps := 1000000) only [go_sem, hA.nil, hA.go, hA.yes, hA.noT, hA.noF, hA.skp]
  refine hK _ _ ?_; clear hK K hA A
  refine .cond (t := k0 && !regs.any negB) (by simp (maxSteps := 1000000) only [go_sem]) (fun ht => ?_) (fun ht => .skip ?_)
  · first | refine .seq (.rg fun A hA K hK => ?_) | refine .seq (.seq (.rg fun A hA K hK => ?_)) | refine .rg fun A hA K hK => ?_ | refine .seq (.rd fun A hA K hK => ?_) | refine .seq (.seq (.rd fun A hA K hK => ?_)) | refine .rd fun A hA K hK => ?_
    simp (maxSteps := 1000000) only [go_sem, hA.nil, hA.go, hA.yes, hA.noT, hA.noF, hA.skp]
    refine hK _ _ ?_; clear hK K hA A
    exact .ret (retB (by simp (maxSteps := 1000000) only [go_sem]) wf hx (.bool _) ⟨rfl, rfl⟩)
  have hbad : doB (List.replicate n.toNat ([] : List Instr)).length sizes s fr to regs = false := by
    rw [hlen]
    unfold doB
    rw [hnn]
    subst hK0
    rw [← ht]
    cases mayB sizes s fr to <;> cases (n == devE sizes) <;> cases ((regs.length : Int) == devE sizes) <;> rfl
  have q5 := doBad_spec hb sizes s fr to regs hbad
  have q6 := programs_spec hM (fun p hp => by rw [List.eq_of_mem_replicate hp]; simp) (by rw [hlen]; omega)
  have q7 := count23_spec (List.replicate n.toNat []) w
  rw [cnt_empty] at q7
  first | refine .seq (.rg fun A hA K hK => ?_) | refine .seq (.seq (.rg fun A hA K hK => ?_)) | refine .rg fun A hA K hK => ?_ | refine .seq (.rd fun A hA K hK => ?_) | refine .seq (.seq (.rd fun A hA K hK => ?_)) | refine .rd fun A hA K hK => ?_
  simp (maxSteps := 1000000) only [go_sem, hA.nil, hA.go, hA.yes, hA.noT, hA.noF, hA.skp]
  refine aopq_callQ (T.toQ q5) (by simp (maxSteps := 1000000) only [go_sem]) ?_
  rintro v t ⟨rfl, rfl⟩
  try simp (maxSteps := 1000000) only [go_sem, hA.nil, hA.go, hA.yes, hA.noT, hA.noF, hA.skp]
  refine hK _ _ ?_; clear hK K hA A
  first | refine .seq (.rg fun A hA K hK => ?_) | refine .seq (.seq (.rg fun A hA K hK => ?_)) | refine .rg fun A hA K hK => ?_ | refine .seq (.rd fun A hA K hK => ?_) | refine .seq (.seq (.rd fun A hA K hK => ?_)) | refine .rd fun A hA K hK => ?_
  simp (maxSteps := 1000000) only [go_sem, hA.nil, hA.go, hA.yes, hA.noT, hA.noF, hA.skp]
  first | refine aopq_call (q6) (by simp (maxSteps := 1000000) only [go_sem]) ?_ | refine aop_call (q6) (by simp (maxSteps := 1000000) only [go_sem]) ?_
  try simp (maxSteps := 1000000) only [go_sem, hA.nil, hA.go, hA.yes, hA.noT, hA.noF, hA.skp]
  try simp (maxSteps := 1000000) only [go_sem, hA.nil, hA.go, hA.yes, hA.noT, hA.noF, hA.skp]
  first | refine aopq_call (q7) (by simp (maxSteps := 1000000) only [go_sem]) ?_ | refine aop_call (q7) (by simp (maxSteps := 1000000) only [go_sem]) ?_
  try simp (maxSteps := 1000000) only [go_sem, hA.nil, hA.go, hA.yes, hA.noT, hA.noF, hA.skp]
  try simp (maxSteps := 1000000) only [go_sem, hA.nil, hA.go, hA.yes, hA.noT, hA.noF, hA.skp]
  refine hK _ _ ?_; clear hK K hA A
  exact .ret (retB (by simp (maxSteps := 1000000) only [go_sem]) wf hx (.bool _) ⟨rfl, rfl⟩)
end Go.Proofs.Ytfjbabacpnnjmaa.Av

namespace Go.Proofs.Ytfjbabacpnnjmaa.Av
open Go Go.Av
set_option maxRecDepth 20000
set_option maxHeartbeats 4000000

attribute [local go_sem] step_apply stepD_apply stepE_apply
attribute [local go_sem] aopq_mv aopq_pk aopq_al aopq_bx aopq_bd aopq_bs aopq_ld aopq_st aopq_nc aopq_bin aopq_un aopq_cv aopq_mi aopq_mf aopq_mm aopq_ms aopq_sc aopq_fa aopq_fl aopq_ia aopq_lk aopq_mu aopq_lm aopq_rg aopq_en aopq_ta aopq_ex aopq_ln aopq_ap aopq_mx aopq.eq_3 aop.eq_1 aop.eq_2 aop.eq_3 aop.eq_4 aop.eq_5 aop.eq_6 aop.eq_7 aop.eq_8 aop.eq_9 aop_bin atS_apply aop_un_not aop_un_neg aop.eq_14 aop.eq_15 aop.eq_16 aop.eq_17 aop.eq_18 aop_sc cutS_apply cutN_apply cutL_apply cutO_apply aop.eq_20 aop.eq_21 aop.eq_22 aop.eq_23 aop.eq_24 aop.eq_25 aop.eq_26 aop.eq_27 aop.eq_28 aop.eq_29 aop.eq_30 aop.eq_31 aop.eq_32 blk_push next_push blk_set next_set blk_kill next_kill frL_nil frL_cons Fits_nil Fits_cons Int.reduceBEq Int.reduceBNe Nat.sub_zero Option.map_some Option.map_none List.set_cons_succ true_or or_true false_or or_false Int.le_refl Int.cast_ofNat_Int decide_true decide_false List.cons_append fillA fillR rowsOf List.replicate_succ List.replicate_zero Nat.zero_mul getD_drop List.length_drop splice List.nil_append List.append_nil cond_true cond_false List.set_cons_zero List.length_set ev put_some put_none upd_apply abin asNat bounds row1 mk List.length_cons List.length_nil List.length_map List.drop_zero List.drop_succ_cons List.drop_nil List.getD_cons_zero List.getD_cons_succ Option.getD_none Option.getD_some List.take_succ_cons List.take_zero List.take_nil true_and and_true Int.toNat_natCast if_true if_false Nat.zero_add Nat.add_zero List.map_cons List.map_nil Nat.reduceEqDiff Nat.left_eq_add Nat.add_eq_left Nat.add_left_cancel_iff Nat.add_assoc Nat.reduceSub Nat.reduceAdd Nat.reduceLeDiff Nat.le_refl Nat.zero_le Nat.zero_lt_one Nat.lt_add_one Int.reduceLT Int.reduceLE Int.reduceToNat Nat.reduceLT Nat.reduceBEq Bool.false_eq_true Nat.reduceBNe ne_eq not_false_eq_true not_true_eq_false false_and and_false reduceIte Int.natCast_nonneg reduceCtorEq parts_agg parts_bool parts_int parts_str parts_lit parts_nils parts_sl parts_ptr Int.natCast_nonneg Int.natCast_nonneg beq_self_eq_true bne_self_eq_false Bool.true_and Bool.false_and Bool.and_true Bool.and_false Bool.true_or Bool.false_or Bool.or_true Bool.or_false Bool.not_true Bool.not_false
attribute [local go_sem] instr0 instr1 instr2 instr10 instr11 instr12 instrN instrA instr_len node0 node1 node2 node3 node4 node5 node6 nodeA node_len I ints progA progsA

def tabS : List Int := [1, 2, 3, 4, 5, 0, 7, 2]
def TabS (s : List Int) : Prop := s.length ≤ 3 ∧ ∀ x ∈ s, 0 ≤ x ∧ x ≤ 7
theorem tabS_in {k : Int} (h : 0 ≤ k ∧ k < 8) : 0 ≤ tabS.getD k.toNat 0 ∧ tabS.getD k.toNat 0 ≤ 7 := by
  obtain ⟨n, rfl⟩ := Int.eq_ofNat_of_zero_le h.1
  have : n = 0 ∨ n = 1 ∨ n = 2 ∨ n = 3 ∨ n = 4 ∨ n = 5 ∨ n = 6 ∨ n = 7 := by omega
  rcases this with rfl | rfl | rfl | rfl | rfl | rfl | rfl | rfl <;> decide
theorem prodI_tab : ∀ i {s : List Int}, i ≤ s.length → (∀ x ∈ s, 0 ≤ x ∧ x ≤ 7) → 0 ≤ prodI (s.take i) ∧ prodI (s.take i) ≤ 7 ^ i
  | 0, _, _, _ => by simp [prodI]
  | i + 1, s, hi, h => by
    obtain ⟨h2, h3⟩ := prodI_tab i (s := s) (by omega) h
    have h4 := h s[i] (List.getElem_mem (by omega))
    rw [prodI_take (by omega)]
    refine ⟨Int.mul_nonneg h2 h4.1, ?_⟩
    rw [Int.pow_succ]
    exact Int.mul_le_mul h3 h4.2 h4.1 (Int.pow_nonneg (by decide))
theorem TabS.right {s : List Int} (h : TabS s) : rightS s = true := by
  obtain ⟨h1, h2⟩ := h
  have h3 := (prodI_tab s.length (Nat.le_refl _) h2).2
  rw [List.take_length] at h3
  have h4 : (7 : Int) ^ s.length ≤ 7 ^ 3 := by
    rcases (by omega : s.length = 0 ∨ s.length = 1 ∨ s.length = 2 ∨ s.length = 3) with e | e | e | e <;> rw [e] <;> decide
  simp only [rightS, Bool.and_eq_true, decide_eq_true_eq]
  refine ⟨List.all_eq_true.2 fun i hi => ?_, by omega⟩
  have hi := List.mem_range.1 hi
  have := h2 s[i] (List.getElem_mem hi)
  have e : s.getD i 0 = s[i] := by simp [List.getD_eq_getElem?_getD, hi]
  simp only [okDim, e, Bool.and_eq_true, decide_eq_true_eq]; omega

section
variable {σ : St} {l : List Int} {p bT : Nat}
/-- Tape.Shape -/
theorem shapeT_spec (hb : σ.blk bT = some (tapeB l p)) (hp : p ≤ l.length) (hl : l.length ≤ most) :
    TQ Try.prog 38 [.ptr bT 0 0] σ fun v t => ∃ s p', v = ints s ∧ TabS s ∧ p' ≤ l.length ∧ t.blk bT = some (tapeB l p') ∧ σ.next ≤ t.next ∧ ∀ c, c < σ.next → c ≠ bT → t.blk c = σ.blk c := by
  refine in38 (by simp) fun wf hab => ?_
  clear hab
  have hbT : bT < σ.next := by
    rcases Nat.lt_or_ge bT σ.next with h | h
    · exact h
    · rw [wf.1 bT h] at hb; cases hb
  obtain ⟨x1, x2, -⟩ := nxE_in l p 4
  have x2 := x2 (by decide)
  unfold c38
  first | refine .seq (.rg fun A hA K hK => ?_) | refine .seq (.seq (.rg fun A hA K hK => ?_)) | refine .rg fun A hA K hK => ?_ | refine .seq (.rd fun A hA K hK => ?_) | refine .seq (.seq (.rd fun A hA K hK => ?_)) | refine .rd fun A hA K hK => ?_
  simp (maxSteps := 1000000) only [go_sem, hA.nil, hA.go, hA.yes, hA.noT, hA.noF, hA.skp]
  refine hK _ _ ?_; clear hK K hA A
  first | refine .seq (.rg fun A hA K hK => ?_) | refine .seq (.seq (.rg fun A hA K hK => ?_)) | refine .rg fun A hA K hK => ?_ | refine .seq (.rd fun A hA K hK => ?_) | refine .seq (.seq (.rd fun A hA K hK => ?_)) | refine .rd fun A hA K hK => ?_
  simp (maxSteps := 1000000) only [go_sem, hA.nil, hA.go, hA.yes, hA.noT, hA.noF, hA.skp]
  refine hK _ _ ?_; clear hK K hA A
  first | refine .seq (.rg fun A hA K hK => ?_) | refine .seq (.seq (.rg fun A hA K hK => ?_)) | refine .rg fun A hA K hK => ?_ | refine .seq (.rd fun A hA K hK => ?_) | refine .seq (.seq (.rd fun A hA K hK => ?_)) | refine .rd fun A hA K hK => ?_
  simp (maxSteps := 1000000) only [go_sem, hA.nil, hA.go, hA.yes, hA.noT, hA.noF, hA.skp]
  refine aopq_callT (next_ok hb hp hl 4) (by simp (maxSteps := 1000000) only [go_sem]) ?_
  try simp (maxSteps := 1000000) only [go_sem, hA.nil, hA.go, hA.yes, hA.noT, hA.noF, hA.skp]
  refine hK _ _ ?_; clear hK K hA A
  refine .thenK (fun L t => ∃ (x : AV) (s : List Int), L = [(3, x)] ∧ TabS s ∧ (s = [] ∧ x = .nils ∨ ∃ d, x = .sl d 0 s.length ∧ σ.next ≤ d ∧ d < t.next ∧ t.blk d = some (.cells 1 (s.map fun n => [I n]))) ∧ (∃ p', p' ≤ l.length ∧ t.blk bT = some (tapeB l p')) ∧ σ.next ≤ t.next ∧ ∀ c, c < σ.next → c ≠ bT → t.blk c = σ.blk c) ?_ ?_
  · refine .loopK (fun k L t => ∃ (x : AV) (s : List Int), L = [(0, .ptr bT 0 0), (3, x), (4, I k)] ∧ k + s.length ≤ 3 ∧ (∀ x ∈ s, 0 ≤ x ∧ x ≤ 7) ∧ (s = [] ∧ x = .nils ∨ ∃ d, x = .sl d 0 s.length ∧ σ.next ≤ d ∧ d < t.next ∧ t.blk d = some (.cells 1 (s.map fun n => [I n]))) ∧ (∃ p', p' ≤ l.length ∧ t.blk bT = some (tapeB l p')) ∧ σ.next ≤ t.next ∧ ∀ c, c < σ.next → c ≠ bT → t.blk c = σ.blk c) (nxE l p 4).toNat
      ⟨_, ⟨.nils, [], rfl, by simp; omega, by simp, .inl ⟨rfl, rfl⟩, ⟨_, nxP_le hp 4, by rw [blk_set, if_pos rfl]⟩, by simp (maxSteps := 1000000) only [go_sem], fun c _ hc => by rw [blk_set, if_neg hc]⟩, by simp (maxSteps := 1000000) only [go_sem, show (((nxE l p 4).toNat : Nat) : Int) = nxE l p 4 by omega]⟩ ?_
    rintro k L t ⟨x, s, rfl, h1, h2, h3, ⟨p', hp', ht⟩, hn, hx⟩
    cases k with
    | zero =>
      have z0 : ¬ (((0 : Nat) : Int) > 0) := by decide
      first | refine .seq (.rg fun A hA K hK => ?_) | refine .seq (.seq (.rg fun A hA K hK => ?_)) | refine .rg fun A hA K hK => ?_ | refine .seq (.rd fun A hA K hK => ?_) | refine .seq (.seq (.rd fun A hA K hK => ?_)) | refine .rd fun A hA K hK => ?_
      simp (maxSteps := 1000000) only [go_sem, hA.nil, hA.go, hA.yes, hA.noT, hA.noF, hA.skp]
      refine hK _ _ ?_; clear hK K hA A
      refine .cond (t := false) (by simp (maxSteps := 1000000) only [go_sem, show decide ((0 : Int) > 0) = false by decide, Int.natCast_zero]) (fun h => by cases h) (fun _ => .exit ?_)
      simp only [thenQ, loopQ, if_true]
      exact ⟨_, ⟨x, s, rfl, ⟨by omega, h2⟩, h3, ⟨p', hp', ht⟩, hn, hx⟩, by simp (maxSteps := 1000000) only [go_sem]⟩
    | succ k =>
      have z0 : ((k + 1 : Nat) : Int) > 0 := by omega
      first | refine .seq (.rg fun A hA K hK => ?_) | refine .seq (.seq (.rg fun A hA K hK => ?_)) | refine .rg fun A hA K hK => ?_ | refine .seq (.rd fun A hA K hK => ?_) | refine .seq (.seq (.rd fun A hA K hK => ?_)) | refine .rd fun A hA K hK => ?_
      simp (maxSteps := 1000000) only [go_sem, hA.nil, hA.go, hA.yes, hA.noT, hA.noF, hA.skp]
      refine hK _ _ ?_; clear hK K hA A
      refine .cond (t := true) (by simp (maxSteps := 1000000) only [go_sem, z0]) (fun _ => .skip ?_) (fun h => by cases h)
      obtain ⟨y1, y2, -⟩ := nxE_in l p' 8
      have y2 := y2 (by decide)
      have hn8 := next_ok ht hp' hl 8
      obtain ⟨y, hy⟩ : ∃ y : Nat, nxE l p' 8 = y := ⟨_, (Int.toNat_of_nonneg y1).symm⟩
      have hgd : ∃ z : Int, (tabS.map fun n => [I n]).getD y [] = [I z] ∧ 0 ≤ z ∧ z ≤ 7 := by
        refine ⟨tabS.getD y 0, ?_, ?_⟩
        · have : y < tabS.length := by simp only [tabS, List.length_cons, List.length_nil]; omega
          rw [ints_get this]; simp [List.getD_eq_getElem?_getD, this]
        · have := tabS_in (k := y) (by omega); simpa using this
      obtain ⟨z, hz, hz0, hz7⟩ := hgd
      rw [hy] at hn8
      have e8 : (y : Int) < 8 := by omega
      have w0 : IntKind.i64.wrap ((k + 1 : Nat) : Int) = ((k + 1 : Nat) : Int) := IntWalk.i64_in _ (by omega)
      have w1 : IntKind.i64.wrap (((k + 1 : Nat) : Int) - 1) = k := by rw [IntWalk.i64_in _ (by omega)]; omega
      have hz' : List.getD [[AV.int .i64 1], [AV.int .i64 2], [AV.int .i64 3], [AV.int .i64 4], [AV.int .i64 5], [AV.int .i64 0], [AV.int .i64 7], [AV.int .i64 2]] y [] = [I z] := hz
      refine .midK (fun L u => ∃ (x : AV) (s : List Int), L = [(0, .ptr bT 0 0), (3, x), (4, I (k + 1 : Nat))] ∧ k + s.length ≤ 3 ∧ (∀ x ∈ s, 0 ≤ x ∧ x ≤ 7) ∧ (∃ d, x = .sl d 0 s.length ∧ σ.next ≤ d ∧ d < u.next ∧ u.blk d = some (.cells 1 (s.map fun n => [I n]))) ∧ (∃ p', p' ≤ l.length ∧ u.blk bT = some (tapeB l p')) ∧ σ.next ≤ u.next ∧ ∀ c, c < σ.next → c ≠ bT → u.blk c = σ.blk c) ?_ ?_
      · refine .block ?_
        rcases h3 with ⟨rfl, rfl⟩ | ⟨d, rfl, d1, d2, d3⟩
        · first | refine .seq (.rg fun A hA K hK => ?_) | refine .seq (.seq (.rg fun A hA K hK => ?_)) | refine .rg fun A hA K hK => ?_ | refine .seq (.rd fun A hA K hK => ?_) | refine .seq (.seq (.rd fun A hA K hK => ?_)) | refine .rd fun A hA K hK => ?_
          simp (maxSteps := 1000000) only [go_sem, hA.nil, hA.go, hA.yes, hA.noT, hA.noF, hA.skp]
          refine aopq_callT hn8 (by simp (maxSteps := 1000000) only [go_sem]) ?_
          try simp (maxSteps := 1000000) only [go_sem, hA.nil, hA.go, hA.yes, hA.noT, hA.noF, hA.skp, e8, hz']
          refine ⟨by decide, by decide, ?_⟩
          refine hK _ _ ?_; clear hK K hA A
          refine ⟨_, ⟨.sl t.next 0 1, [z], rfl, by simp only [List.length_nil, List.length_cons] at h1 ⊢; omega, ?_, ⟨t.next, rfl, hn, by simp (maxSteps := 1000000) only [go_sem]; try omega, by simp (maxSteps := 1000000) only [go_sem]⟩, ⟨_, nxP_le hp' 8, ?_⟩, by simp (maxSteps := 1000000) only [go_sem]; try omega, fun c hc hcT => ?_⟩, by simp (maxSteps := 1000000) only [go_sem]⟩
          · intro w hw; have : w = z := by simpa using hw
            subst this; exact ⟨hz0, hz7⟩
          · simp (maxSteps := 1000000) only [go_sem, show ¬ bT = t.next by omega]
          · rw [← hx c hc hcT]; simp (maxSteps := 1000000) only [go_sem, show ¬ c = t.next by omega, hcT]
        · have m1 : s.length + 1 ≤ most := by simp only [most]; omega
          have m2 : (s.length + 1) * 8 ≤ most := by simp only [most]; omega
          have m4 : List.take s.length (s.map fun n => [AV.int .i64 n]) = s.map fun n => [AV.int .i64 n] := List.take_of_length_le (by simp)
          have n1 : ¬ d = bT := by omega
          have n2 : ¬ bT = d := by omega
          first | refine .seq (.rg fun A hA K hK => ?_) | refine .seq (.seq (.rg fun A hA K hK => ?_)) | refine .rg fun A hA K hK => ?_ | refine .seq (.rd fun A hA K hK => ?_) | refine .seq (.seq (.rd fun A hA K hK => ?_)) | refine .rd fun A hA K hK => ?_
          simp (maxSteps := 1000000) only [go_sem, hA.nil, hA.go, hA.yes, hA.noT, hA.noF, hA.skp]
          refine aopq_callT hn8 (by simp (maxSteps := 1000000) only [go_sem]) ?_
          try simp (maxSteps := 1000000) only [go_sem, hA.nil, hA.go, hA.yes, hA.noT, hA.noF, hA.skp, e8, hz', d3, m1, m2, m4, n1, n2, List.length_map]
          refine hK _ _ ?_; clear hK K hA A
          refine ⟨_, ⟨.sl t.next 0 (s.length + 1), s ++ [z], rfl, by simp only [List.length_append, List.length_cons, List.length_nil]; omega, ?_, ⟨t.next, by rw [List.length_append]; rfl, hn, by simp (maxSteps := 1000000) only [go_sem]; try omega, by simp (maxSteps := 1000000) only [go_sem, List.map_append]⟩, ⟨_, nxP_le hp' 8, ?_⟩, by simp (maxSteps := 1000000) only [go_sem]; try omega, fun c hc hcT => ?_⟩, by simp (maxSteps := 1000000) only [go_sem]⟩
          · intro w hw
            rcases List.mem_append.1 hw with hw | hw
            · exact h2 w hw
            · have : w = z := by simpa using hw
              subst this; exact ⟨hz0, hz7⟩
          · simp (maxSteps := 1000000) only [go_sem, show ¬ bT = t.next by omega, n2]
          · rw [← hx c hc hcT]; simp (maxSteps := 1000000) only [go_sem, show ¬ c = t.next by omega, hcT, show ¬ c = d by omega]
      rintro L u ⟨x, s, rfl, h1, h2, h3, hu, hn, hx⟩
      first | refine .seq (.rg fun A hA K hK => ?_) | refine .seq (.seq (.rg fun A hA K hK => ?_)) | refine .rg fun A hA K hK => ?_ | refine .seq (.rd fun A hA K hK => ?_) | refine .seq (.seq (.rd fun A hA K hK => ?_)) | refine .rd fun A hA K hK => ?_
      simp (maxSteps := 1000000) only [go_sem, hA.nil, hA.go, hA.yes, hA.noT, hA.noF, hA.skp, w0, w1]
      refine hK _ _ ?_; clear hK K hA A
      exact ⟨k, by omega, _, ⟨x, s, rfl, h1, h2, .inr h3, hu, hn, hx⟩, by simp (maxSteps := 1000000) only [go_sem]⟩
  rintro L t ⟨x, s, rfl, hT, h3, ⟨p', hp', ht⟩, hn, hx⟩
  rcases h3 with ⟨rfl, rfl⟩ | ⟨d, rfl, d1, d2, d3⟩
  · refine .ent (.sub 3 (by simp (maxSteps := 1000000) only [go_sem]) (.nils 1)) ?_
    first | refine .seq (.rg fun A hA K hK => ?_) | refine .seq (.seq (.rg fun A hA K hK => ?_)) | refine .rg fun A hA K hK => ?_ | refine .seq (.rd fun A hA K hK => ?_) | refine .seq (.seq (.rd fun A hA K hK => ?_)) | refine .rd fun A hA K hK => ?_
    simp (maxSteps := 1000000) only [go_sem, hA.nil, hA.go, hA.yes, hA.noT, hA.noF, hA.skp]
    refine hK _ _ ?_; clear hK K hA A
    exact .ret (retS (by simp (maxSteps := 1000000) only [go_sem]; try rfl) ⟨[], p', rfl, hT, hp', ht, hn, hx⟩)
  · refine .frz 3 (b := d) (n := s.length) (by simp (maxSteps := 1000000) only [go_sem]) d3 (by simp) ?_
    first | refine .seq (.rg fun A hA K hK => ?_) | refine .seq (.seq (.rg fun A hA K hK => ?_)) | refine .rg fun A hA K hK => ?_ | refine .seq (.rd fun A hA K hK => ?_) | refine .seq (.seq (.rd fun A hA K hK => ?_)) | refine .rd fun A hA K hK => ?_
    simp (maxSteps := 1000000) only [go_sem, hA.nil, hA.go, hA.yes, hA.noT, hA.noF, hA.skp]
    refine hK _ _ ?_; clear hK K hA A
    refine .ret (retS (by simp (maxSteps := 1000000) only [go_sem]; try rfl) ⟨s, p', rfl, hT, hp', ?_, by simp (maxSteps := 1000000) only [go_sem]; exact hn, fun c hc hcT => ?_⟩)
    · simp (maxSteps := 1000000) only [go_sem, show ¬ bT = d by omega]; exact ht
    · simp (maxSteps := 1000000) only [go_sem, show ¬ c = d by omega]; exact hx c hc hcT
end
end Go.Proofs.Ytfjbabacpnnjmaa.Av

namespace Go.Proofs.Ytfjbabacpnnjmaa.Av
open Go Go.Av
set_option maxRecDepth 20000
set_option maxHeartbeats 4000000

attribute [local go_sem] step_apply stepD_apply stepE_apply
attribute [local go_sem] aopq_mv aopq_pk aopq_al aopq_bx aopq_bd aopq_bs aopq_ld aopq_st aopq_nc aopq_bin aopq_un aopq_cv aopq_mi aopq_mf aopq_mm aopq_ms aopq_sc aopq_fa aopq_fl aopq_ia aopq_lk aopq_mu aopq_lm aopq_rg aopq_en aopq_ta aopq_ex aopq_ln aopq_ap aopq_mx aopq.eq_3 aop.eq_1 aop.eq_2 aop.eq_3 aop.eq_4 aop.eq_5 aop.eq_6 aop.eq_7 aop.eq_8 aop.eq_9 aop_bin atS_apply aop_un_not aop_un_neg aop.eq_14 aop.eq_15 aop.eq_16 aop.eq_17 aop.eq_18 aop_sc cutS_apply cutN_apply cutL_apply cutO_apply aop.eq_20 aop.eq_21 aop.eq_22 aop.eq_23 aop.eq_24 aop.eq_25 aop.eq_26 aop.eq_27 aop.eq_28 aop.eq_29 aop.eq_30 aop.eq_31 aop.eq_32 blk_push next_push blk_set next_set blk_kill next_kill frL_nil frL_cons Fits_nil Fits_cons Int.reduceBEq Int.reduceBNe Nat.sub_zero Option.map_some Option.map_none List.set_cons_succ true_or or_true false_or or_false Int.le_refl Int.cast_ofNat_Int decide_true decide_false List.cons_append fillA fillR rowsOf List.replicate_succ List.replicate_zero Nat.zero_mul getD_drop List.length_drop splice List.nil_append List.append_nil cond_true cond_false List.set_cons_zero List.length_set ev put_some put_none upd_apply abin asNat bounds row1 mk List.length_cons List.length_nil List.length_map List.drop_zero List.drop_succ_cons List.drop_nil List.getD_cons_zero List.getD_cons_succ Option.getD_none Option.getD_some List.take_succ_cons List.take_zero List.take_nil true_and and_true Int.toNat_natCast if_true if_false Nat.zero_add Nat.add_zero List.map_cons List.map_nil Nat.reduceEqDiff Nat.left_eq_add Nat.add_eq_left Nat.add_left_cancel_iff Nat.add_assoc Nat.reduceSub Nat.reduceAdd Nat.reduceLeDiff Nat.le_refl Nat.zero_le Nat.zero_lt_one Nat.lt_add_one Int.reduceLT Int.reduceLE Int.reduceToNat Nat.reduceLT Nat.reduceBEq Bool.false_eq_true Nat.reduceBNe ne_eq not_false_eq_true not_true_eq_false false_and and_false reduceIte Int.natCast_nonneg reduceCtorEq parts_agg parts_bool parts_int parts_str parts_lit parts_nils parts_sl parts_ptr Int.natCast_nonneg Int.natCast_nonneg beq_self_eq_true bne_self_eq_false Bool.true_and Bool.false_and Bool.and_true Bool.and_false Bool.true_or Bool.false_or Bool.or_true Bool.or_false Bool.not_true Bool.not_false
attribute [local go_sem] instr0 instr1 instr2 instr10 instr11 instr12 instrN instrA instr_len node0 node1 node2 node3 node4 node5 node6 nodeA node_len I ints progA progsA

theorem wf_tape {σ : St} (wf : σ.Wf) {bT : Nat} (h : bT < σ.next) (l : List Int) (p : Nat) : (σ.set bT (tapeB l p)).Wf := by
  refine ⟨fun b hb => ?_, fun b B hB => ?_⟩
  · have hb : σ.next ≤ b := hb
    rw [blk_set, if_neg (by omega)]; exact wf.1 b hb
  · rw [blk_set] at hB
    split at hB
    · cases hB
      intro i j hi hj
      have hi0 : i = 0 := by simp only [List.length_cons, List.length_nil] at hi; omega
      subst hi0
      have hj2 : j = 0 ∨ j = 1 := by simp only [List.getD_cons_zero, List.length_cons, List.length_nil] at hj; omega
      rcases hj2 with rfl | rfl
      · exact ints_lt _
      · exact .int _ _
    · exact wf.2 b B hB
/-- A spec of a tape: what it is by then, and where one is. -/
def spN (r : Nat) (l : List Int) (p : Nat) : Nat → List Int × Nat
  | 0 => ([], p)
  | i + 1 =>
    if 0 < r then
      (if nxE l (spN r l p i).2 2 = 0 then
        (if (spN r l p i).1.contains (nxE l (nxP l (spN r l p i).2 2) r) = true then ((spN r l p i).1 ++ [-1], nxP l (nxP l (spN r l p i).2 2) r)
          else ((spN r l p i).1 ++ [nxE l (nxP l (spN r l p i).2 2) r], nxP l (nxP l (spN r l p i).2 2) r))
      else ((spN r l p i).1 ++ [-1], nxP l (spN r l p i).2 2))
    else ((spN r l p i).1 ++ [-1], (spN r l p i).2)
theorem spN_len (r : Nat) (l : List Int) (p : Nat) : ∀ i, (spN r l p i).1.length = i
  | 0 => rfl
  | i + 1 => by
    have := spN_len r l p i
    unfold spN
    split
    · split
      · split <;> simp [this]
      · simp [this]
    · simp [this]
theorem spN_le (r : Nat) {l : List Int} {p : Nat} (h : p ≤ l.length) : ∀ i, (spN r l p i).2 ≤ l.length
  | 0 => h
  | i + 1 => by
    have := spN_le r h i
    unfold spN
    split
    · split
      · split
        · exact nxP_le (nxP_le this _) _
        · exact nxP_le (nxP_le this _) _
      · exact nxP_le this _
    · exact this
def spRow (N : Nat) (out : List Int) : List (List AV) := (out ++ List.replicate (N - out.length) 0).map fun n => [I n]
def usRow (r : Nat) (out : List Int) : List (List AV) := (List.range r).map fun (k : Nat) => [AV.bool (out.contains (k : Int))]
theorem usRow_get {r : Nat} {out : List Int} {k : Nat} (h : k < r) : (usRow r out).getD k [] = [.bool (out.contains (k : Int))] := by simp [usRow, h]
theorem usRow_neg {r : Nat} {out : List Int} : usRow r (out ++ [-1]) = usRow r out := by
  unfold usRow
  refine List.map_congr_left fun k _ => ?_
  have : ((out ++ [-1]).contains (k : Int)) = out.contains (k : Int) := by
    rw [Bool.eq_iff_iff, List.contains_iff_mem, List.contains_iff_mem, List.mem_append, List.mem_singleton]
    exact ⟨fun h => h.elim id fun h => by omega, .inl⟩
  rw [this]
theorem usRow_set {r : Nat} {out : List Int} {k : Nat} (h : k < r) : (usRow r out).set k [.bool true] = usRow r (out ++ [(k : Int)]) := by
  unfold usRow
  refine List.ext_getElem (by simp) fun j h1 h2 => ?_
  rw [List.getElem_set]
  split
  · rename_i hk; subst hk; simp
  · rename_i hk
    simp only [List.getElem_map, List.getElem_range]
    have : ((out ++ [(k : Int)]).contains (j : Int)) = out.contains (j : Int) := by
      rw [Bool.eq_iff_iff, List.contains_iff_mem, List.contains_iff_mem, List.mem_append, List.mem_singleton]
      exact ⟨fun h => h.elim id fun h => by omega, .inl⟩
    rw [this]
theorem spRow_set {N i : Nat} {out : List Int} (hl : out.length = i) (h : i < N) (x : Int) : (spRow N out).set i [I x] = spRow N (out ++ [x]) := by
  subst hl
  unfold spRow
  have e : N - out.length = (N - (out ++ [x]).length) + 1 := by simp; omega
  rw [e, List.replicate_succ]
  simp [List.set_append]
theorem spRow_set2 {N i : Nat} {out : List Int} (hl : out.length = i) (h : i < N) (x : Int) : (spRow N (out ++ [-1])).set i [I x] = spRow N (out ++ [x]) := by
  subst hl
  unfold spRow
  simp [List.set_append]
theorem spRow_get {N i : Nat} {out : List Int} (hl : out.length ≤ N) (h : i < N) : ∃ z, (spRow N out).getD i [] = [I z] := by
  have hl2 : i < (out ++ List.replicate (N - out.length) 0).length := by simp; omega
  exact ⟨(out ++ List.replicate (N - out.length) 0)[i], by unfold spRow; exact ints_get hl2⟩
theorem spRow_len {N : Nat} {out : List Int} (h : out.length ≤ N) : (spRow N out).length = N := by simp [spRow]; omega
theorem usRow_len (r : Nat) (out : List Int) : (usRow r out).length = r := by simp [usRow]
theorem spRow_nil (N : Nat) : spRow N [] = List.replicate N [I 0] := by simp [spRow]
theorem usRow_nil (r : Nat) : usRow r [] = List.replicate r [.bool false] := by
  unfold usRow
  refine List.ext_getElem (by simp) fun j h1 h2 => by simp

section
variable {σ : St} {l : List Int} {p bT : Nat}
/-- Tape.Spec -/
theorem specT_spec (hb : σ.blk bT = some (tapeB l p)) (hp : p ≤ l.length) (hl : l.length ≤ most) (sizes : List Int) (hr : sizes.length ≤ 2 ^ 20) (N : Nat) (hN : N ≤ 2 ^ 20) :
    T Try.prog 85 [.ptr bT 0 0, ints sizes, I N] σ (ints (spN sizes.length l p N).1) (σ.set bT (tapeB l (spN sizes.length l p N).2)) := by
  refine in85 (by simp) fun wf hab => ?_
  clear hab
  have hbT : bT < σ.next := by
    rcases Nat.lt_or_ge bT σ.next with h | h
    · exact h
    · rw [wf.1 bT h] at hb; cases hb
  have m0 : (N : Int) ≤ most := by simp only [most]; omega
  have m1 : (N : Int) * 8 ≤ most := by simp only [most]; omega
  have m2 : (sizes.length : Int) ≤ most := by simp only [most]; omega
  have m3 : (sizes.length : Int) * 1 ≤ most := by simp only [most]; omega
  unfold c85
  first | refine .seq (.rg fun A hA K hK => ?_) | refine .seq (.seq (.rg fun A hA K hK => ?_)) | refine .rg fun A hA K hK => ?_ | refine .seq (.rd fun A hA K hK => ?_) | refine .seq (.seq (.rd fun A hA K hK => ?_)) | refine .rd fun A hA K hK => ?_
  simp (maxSteps := 1000000) only [go_sem, hA.nil, hA.go, hA.yes, hA.noT, hA.noF, hA.skp]
  refine hK _ _ ?_; clear hK K hA A
  first | refine .seq (.rg fun A hA K hK => ?_) | refine .seq (.seq (.rg fun A hA K hK => ?_)) | refine .rg fun A hA K hK => ?_ | refine .seq (.rd fun A hA K hK => ?_) | refine .seq (.seq (.rd fun A hA K hK => ?_)) | refine .rd fun A hA K hK => ?_
  simp (maxSteps := 1000000) only [go_sem, hA.nil, hA.go, hA.yes, hA.noT, hA.noF, hA.skp, m0, m1]
  refine hK _ _ ?_; clear hK K hA A
  first | refine .seq (.rg fun A hA K hK => ?_) | refine .seq (.seq (.rg fun A hA K hK => ?_)) | refine .rg fun A hA K hK => ?_ | refine .seq (.rd fun A hA K hK => ?_) | refine .seq (.seq (.rd fun A hA K hK => ?_)) | refine .rd fun A hA K hK => ?_
  simp (maxSteps := 1000000) only [go_sem, hA.nil, hA.go, hA.yes, hA.noT, hA.noF, hA.skp, m2, m3]
  refine hK _ _ ?_; clear hK K hA A
  first | refine .seq (.rg fun A hA K hK => ?_) | refine .seq (.seq (.rg fun A hA K hK => ?_)) | refine .rg fun A hA K hK => ?_ | refine .seq (.rd fun A hA K hK => ?_) | refine .seq (.seq (.rd fun A hA K hK => ?_)) | refine .rd fun A hA K hK => ?_
  simp (maxSteps := 1000000) only [go_sem, hA.nil, hA.go, hA.yes, hA.noT, hA.noF, hA.skp]
  refine hK _ _ ?_; clear hK K hA A
  refine .rangeK (N := N) (fun i L t => L = [(0, .ptr bT 0 0), (1, ints sizes), (7, .sl σ.next 0 N), (8, .sl (σ.next + 1) 0 sizes.length), (17, I N), (18, I i)] ∧ t.next = σ.next + 2 ∧ t.blk σ.next = some (.cells 1 (spRow N (spN sizes.length l p i).1)) ∧
      t.blk (σ.next + 1) = some (.cells 1 (usRow sizes.length (spN sizes.length l p i).1)) ∧ t.blk bT = some (tapeB l (spN sizes.length l p i).2) ∧ ∀ c, c < σ.next → c ≠ bT → t.blk c = σ.blk c) (by simp only [most]; omega)
    ⟨_, ⟨rfl, by simp (maxSteps := 1000000) only [go_sem], by simp only [spN, spRow_nil]; simp (maxSteps := 1000000) only [go_sem, show ¬ σ.next = σ.next + 1 by omega], by simp only [spN, usRow_nil]; simp (maxSteps := 1000000) only [go_sem], by simp only [spN]; simp (maxSteps := 1000000) only [go_sem, show ¬ bT = σ.next + 1 by omega, show ¬ bT = σ.next by omega, hb], fun c hc _ => by simp (disch := omega) only [go_sem, if_neg]⟩, by simp (maxSteps := 1000000) only [go_sem]; try rfl⟩ ?_ ?_ ?_
  · rintro i L t ⟨rfl, _⟩
    exact ⟨by simp (maxSteps := 1000000) only [go_sem], by simp (maxSteps := 1000000) only [go_sem], rfl⟩
  · rintro i L t hi ⟨rfl, htn, h7, h8, hbt, hx⟩
    have e0 : (i : Int) < N := by omega
    have hlen := spN_len sizes.length l p i
    have hle := spN_le sizes.length hp i
    have hrl := spRow_len (N := N) (out := (spN sizes.length l p i).1) (by omega)
    have hsp : spN sizes.length l p (i + 1) = _ := rfl
    conv at hsp => rhs; unfold spN
    generalize hq : spN sizes.length l p i = q at *
    obtain ⟨out, p1⟩ := q
    simp only at h7 h8 hbt hlen hle hrl hsp
    have hsetm := spRow_set (N := N) hlen hi (-1)
    have n1 : ¬ σ.next = bT := by omega
    have n2 : ¬ σ.next + 1 = bT := by omega
    have n3 : ¬ σ.next + 1 = σ.next := by omega
    have n4 : ¬ bT = σ.next := by omega
    have n5 : ¬ bT = σ.next + 1 := by omega
    first | refine .seq (.rg fun A hA K hK => ?_) | refine .seq (.seq (.rg fun A hA K hK => ?_)) | refine .rg fun A hA K hK => ?_ | refine .seq (.rd fun A hA K hK => ?_) | refine .seq (.seq (.rd fun A hA K hK => ?_)) | refine .rd fun A hA K hK => ?_
    simp (maxSteps := 1000000) only [go_sem, hA.nil, hA.go, hA.yes, hA.noT, hA.noF, hA.skp]
    refine hK _ _ ?_; clear hK K hA A
    -- out[i] = -1
    refine .midK (fun L u => L = [(0, .ptr bT 0 0), (1, ints sizes), (7, .sl σ.next 0 N), (8, .sl (σ.next + 1) 0 sizes.length), (9, I i), (17, I N), (18, I i)] ∧ u.next = σ.next + 2 ∧ u.blk σ.next = some (.cells 1 (spRow N (out ++ [-1]))) ∧
        u.blk (σ.next + 1) = some (.cells 1 (usRow sizes.length out)) ∧ u.blk bT = some (tapeB l p1) ∧ ∀ c, c < σ.next → c ≠ bT → u.blk c = σ.blk c) ?_ ?_
    · first | refine .seq (.rg fun A hA K hK => ?_) | refine .seq (.seq (.rg fun A hA K hK => ?_)) | refine .rg fun A hA K hK => ?_ | refine .seq (.rd fun A hA K hK => ?_) | refine .seq (.seq (.rd fun A hA K hK => ?_)) | refine .rd fun A hA K hK => ?_
      simp (maxSteps := 1000000) only [go_sem, hA.nil, hA.go, hA.yes, hA.noT, hA.noF, hA.skp, h7, hrl, e0, hi]
      refine hK _ _ ?_; clear hK K hA A
      refine ⟨_, ⟨rfl, by simp (maxSteps := 1000000) only [go_sem]; exact htn, ?_, by simp (maxSteps := 1000000) only [go_sem, n3]; exact h8, by simp (maxSteps := 1000000) only [go_sem, n4]; exact hbt, fun c hc hcT => ?_⟩, by simp (maxSteps := 1000000) only [go_sem]⟩
      · obtain ⟨z, hz⟩ := spRow_get (N := N) (out := out) (by omega) hi
        rw [← hsetm]; simp (maxSteps := 1000000) only [go_sem, hz]
      · rw [← hx c hc hcT]; simp (disch := omega) only [go_sem, if_neg]
    rintro L u ⟨rfl, hun, h7, h8, hbt, hx⟩
    by_cases hpos : 0 < sizes.length
    · have c1 : (sizes.length : Int) > 0 := by omega
      obtain ⟨x1, x2, -⟩ := nxE_in l p1 2
      have hnx := next_ok hbt hle hl 2
      by_cases hz : nxE l p1 2 = 0
      · have c2 : (nxE l p1 2 == 0) = true := by simpa using hz
        rw [hz] at hnx
        first | refine .seq (.rg fun A hA K hK => ?_) | refine .seq (.seq (.rg fun A hA K hK => ?_)) | refine .rg fun A hA K hK => ?_ | refine .seq (.rd fun A hA K hK => ?_) | refine .seq (.seq (.rd fun A hA K hK => ?_)) | refine .rd fun A hA K hK => ?_
        simp (maxSteps := 1000000) only [go_sem, hA.nil, hA.go, hA.yes, hA.noT, hA.noF, hA.skp, c1]
        refine aopq_callT hnx (by simp (maxSteps := 1000000) only [go_sem]) ?_
        try simp (maxSteps := 1000000) only [go_sem, hA.nil, hA.go, hA.yes, hA.noT, hA.noF, hA.skp, c1]
        refine hK _ _ ?_; clear hK K hA A
        refine .cond (t := true) (by simp (maxSteps := 1000000) only [go_sem]) (fun _ => ?_) (fun h => by cases h)
        have hle2 := nxP_le hle 2
        obtain ⟨y1, y2, -⟩ := nxE_in l (nxP l p1 2) sizes.length
        have y2 := y2 (by omega)
        have hnx2 := next_ok (σ := u.set bT (tapeB l (nxP l p1 2))) (by rw [blk_set, if_pos rfl]) hle2 hl sizes.length
        obtain ⟨k, hk⟩ : ∃ k : Nat, nxE l (nxP l p1 2) sizes.length = k := ⟨_, (Int.toNat_of_nonneg y1).symm⟩
        have hkr : k < sizes.length := by omega
        have hkr' : (k : Int) < sizes.length := by omega
        have hg8 := usRow_get (out := out) hkr
        rw [hk] at hnx2
        rw [if_pos hpos, if_pos hz, hk] at hsp
        first | refine .seq (.rg fun A hA K hK => ?_) | refine .seq (.seq (.rg fun A hA K hK => ?_)) | refine .rg fun A hA K hK => ?_ | refine .seq (.rd fun A hA K hK => ?_) | refine .seq (.seq (.rd fun A hA K hK => ?_)) | refine .rd fun A hA K hK => ?_
        simp (maxSteps := 1000000) only [go_sem, hA.nil, hA.go, hA.yes, hA.noT, hA.noF, hA.skp]
        refine aopq_callT hnx2 (by simp (maxSteps := 1000000) only [go_sem]) ?_
        try simp (maxSteps := 1000000) only [go_sem, hA.nil, hA.go, hA.yes, hA.noT, hA.noF, hA.skp]
        refine hK _ _ ?_; clear hK K hA A
        cases hc : out.contains (k : Int) with
        | true =>
          rw [hc] at hg8
          rw [if_pos hc] at hsp
          first | refine .seq (.rg fun A hA K hK => ?_) | refine .seq (.seq (.rg fun A hA K hK => ?_)) | refine .rg fun A hA K hK => ?_ | refine .seq (.rd fun A hA K hK => ?_) | refine .seq (.seq (.rd fun A hA K hK => ?_)) | refine .rd fun A hA K hK => ?_
          simp (maxSteps := 1000000) only [go_sem, hA.nil, hA.go, hA.yes, hA.noT, hA.noF, hA.skp, h8, n2, hg8, hkr, hkr', usRow_len]
          refine hK _ _ ?_; clear hK K hA A
          refine .cond (t := false) (by simp (maxSteps := 1000000) only [go_sem]) (fun h => by cases h) (fun _ => .skip ?_)
          refine ⟨by simp (maxSteps := 1000000) only [go_sem], _, ⟨rfl, by simp (maxSteps := 1000000) only [go_sem]; exact hun, ?_, ?_, ?_, fun c hc hcT => ?_⟩, by simp (maxSteps := 1000000) only [go_sem]; try rfl⟩
          · rw [hsp]; simp (maxSteps := 1000000) only [go_sem, n1, h7]
          · rw [hsp]; simp only [usRow_neg]; simp (maxSteps := 1000000) only [go_sem, n2, h8]
          · rw [hsp]; simp (maxSteps := 1000000) only [go_sem]
          · rw [← hx c hc hcT]; simp (disch := omega) only [go_sem, if_neg]
        | false =>
          rw [hc] at hg8
          rw [if_neg (by rw [hc]; simp)] at hsp
          have hrl2 : (spRow N (out ++ [-1])).length = N := spRow_len (by simp; omega)
          have hset2 := spRow_set2 (N := N) hlen hi (k : Int)
          have hset3 := usRow_set (out := out) hkr
          first | refine .seq (.rg fun A hA K hK => ?_) | refine .seq (.seq (.rg fun A hA K hK => ?_)) | refine .rg fun A hA K hK => ?_ | refine .seq (.rd fun A hA K hK => ?_) | refine .seq (.seq (.rd fun A hA K hK => ?_)) | refine .rd fun A hA K hK => ?_
          simp (maxSteps := 1000000) only [go_sem, hA.nil, hA.go, hA.yes, hA.noT, hA.noF, hA.skp, h8, n2, hg8, hkr, hkr', usRow_len]
          refine hK _ _ ?_; clear hK K hA A
          refine .cond (t := true) (by simp (maxSteps := 1000000) only [go_sem]) (fun _ => ?_) (fun h => by cases h)
          first | refine .seq (.rg fun A hA K hK => ?_) | refine .seq (.seq (.rg fun A hA K hK => ?_)) | refine .rg fun A hA K hK => ?_ | refine .seq (.rd fun A hA K hK => ?_) | refine .seq (.seq (.rd fun A hA K hK => ?_)) | refine .rd fun A hA K hK => ?_
          simp (maxSteps := 1000000) only [go_sem, hA.nil, hA.go, hA.yes, hA.noT, hA.noF, hA.skp, h7, h8, n1, n2, n3, hkr, hkr', usRow_len, hrl2, e0, hi]
          refine hK _ _ ?_; clear hK K hA A
          refine ⟨by simp (maxSteps := 1000000) only [go_sem], _, ⟨rfl, by simp (maxSteps := 1000000) only [go_sem]; exact hun, ?_, ?_, ?_, fun c hc hcT => ?_⟩, by simp (maxSteps := 1000000) only [go_sem]; try rfl⟩
          · obtain ⟨z, hz⟩ := spRow_get (N := N) (out := out ++ [-1]) (by simp; omega) hi
            rw [hsp, ← hset2]; simp (maxSteps := 1000000) only [go_sem, show ¬ σ.next = σ.next + 1 by omega, hz]
          · rw [hsp, ← hset3]; simp (maxSteps := 1000000) only [go_sem, hg8]
          · rw [hsp]; simp (maxSteps := 1000000) only [go_sem, n4, n5]
          · rw [← hx c hc hcT]; simp (disch := omega) only [go_sem, if_neg]
      · have c2 : (nxE l p1 2 == 0) = false := by simpa using hz
        first | refine .seq (.rg fun A hA K hK => ?_) | refine .seq (.seq (.rg fun A hA K hK => ?_)) | refine .rg fun A hA K hK => ?_ | refine .seq (.rd fun A hA K hK => ?_) | refine .seq (.seq (.rd fun A hA K hK => ?_)) | refine .rd fun A hA K hK => ?_
        simp (maxSteps := 1000000) only [go_sem, hA.nil, hA.go, hA.yes, hA.noT, hA.noF, hA.skp, c1, c2]
        refine aopq_callT hnx (by simp (maxSteps := 1000000) only [go_sem]) ?_
        try simp (maxSteps := 1000000) only [go_sem, hA.nil, hA.go, hA.yes, hA.noT, hA.noF, hA.skp, c1, c2]
        refine hK _ _ ?_; clear hK K hA A
        refine .cond (t := false) (by simp (maxSteps := 1000000) only [go_sem]) (fun h => by cases h) (fun _ => .skip ?_)
        rw [if_pos hpos, if_neg hz] at hsp
        refine ⟨by simp (maxSteps := 1000000) only [go_sem], _, ⟨rfl, by simp (maxSteps := 1000000) only [go_sem]; exact hun, ?_, ?_, ?_, fun c hc hcT => ?_⟩, by simp (maxSteps := 1000000) only [go_sem]; try rfl⟩
        · rw [hsp]; simp (maxSteps := 1000000) only [go_sem, n1, h7]
        · rw [hsp]; simp only [usRow_neg]; simp (maxSteps := 1000000) only [go_sem, n2, h8]
        · rw [hsp]; simp (maxSteps := 1000000) only [go_sem]
        · rw [← hx c hc hcT]; simp (disch := omega) only [go_sem, if_neg]
    · have c1 : ¬ (sizes.length : Int) > 0 := by omega
      first | refine .seq (.rg fun A hA K hK => ?_) | refine .seq (.seq (.rg fun A hA K hK => ?_)) | refine .rg fun A hA K hK => ?_ | refine .seq (.rd fun A hA K hK => ?_) | refine .seq (.seq (.rd fun A hA K hK => ?_)) | refine .rd fun A hA K hK => ?_
      simp (maxSteps := 1000000) only [go_sem, hA.nil, hA.go, hA.yes, hA.noT, hA.noF, hA.skp, c1]
      refine hK _ _ ?_; clear hK K hA A
      refine .cond (t := false) (by simp (maxSteps := 1000000) only [go_sem]) (fun h => by cases h) (fun _ => .skip ?_)
      rw [if_neg hpos] at hsp
      refine ⟨by simp (maxSteps := 1000000) only [go_sem], _, ⟨rfl, hun, ?_, ?_, ?_, hx⟩, by simp (maxSteps := 1000000) only [go_sem]; try rfl⟩
      · rw [hsp]; exact h7
      · rw [hsp]; simp only [usRow_neg]; exact h8
      · rw [hsp]; exact hbt
  · rintro L t F ⟨rfl, htn, h7, h8, hbt, hx⟩ hf
    simp (maxSteps := 1000000) only [go_sem] at hf
    have hlen := spN_len sizes.length l p N
    have hrow : spRow N (spN sizes.length l p N).1 = (spN sizes.length l p N).1.map fun n => [I n] := by simp [spRow, hlen]
    rw [hrow] at h7
    refine .frz 7 (b := σ.next) (n := N) (by simp (maxSteps := 1000000) only [go_sem, hf]) h7 (by rw [List.length_map, hlen]) ?_
    first | refine .seq (.rg fun A hA K hK => ?_) | refine .seq (.seq (.rg fun A hA K hK => ?_)) | refine .rg fun A hA K hK => ?_ | refine .seq (.rd fun A hA K hK => ?_) | refine .seq (.seq (.rd fun A hA K hK => ?_)) | refine .rd fun A hA K hK => ?_
    simp (maxSteps := 1000000) only [go_sem, hA.nil, hA.go, hA.yes, hA.noT, hA.noF, hA.skp, hf]
    refine hK _ _ ?_; clear hK K hA A
    refine .ret (retB (σ0 := σ.set bT (tapeB l (spN sizes.length l p N).2)) (by simp (maxSteps := 1000000) only [go_sem, hf]; try rfl) (wf_tape wf hbT _ _) (fun c hc => ?_) (ints_lt _) ⟨rfl, rfl⟩)
    have hc : c < σ.next := hc
    by_cases hcT : c = bT
    · subst hcT; simp (maxSteps := 1000000) only [go_sem, show ¬ c = σ.next by omega, hbt]
    · have e1 := hx c hc hcT
      simp (maxSteps := 1000000) only [go_sem, show ¬ c = σ.next by omega, hcT, e1]
end
end Go.Proofs.Ytfjbabacpnnjmaa.Av

namespace Go.Proofs.Ytfjbabacpnnjmaa.Av
open Go Go.Av
set_option maxRecDepth 20000
set_option maxHeartbeats 4000000

attribute [local go_sem] step_apply stepD_apply stepE_apply
attribute [local go_sem] aopq_mv aopq_pk aopq_al aopq_bx aopq_bd aopq_bs aopq_ld aopq_st aopq_nc aopq_bin aopq_un aopq_cv aopq_mi aopq_mf aopq_mm aopq_ms aopq_sc aopq_fa aopq_fl aopq_ia aopq_lk aopq_mu aopq_lm aopq_rg aopq_en aopq_ta aopq_ex aopq_ln aopq_ap aopq_mx aopq.eq_3 aop.eq_1 aop.eq_2 aop.eq_3 aop.eq_4 aop.eq_5 aop.eq_6 aop.eq_7 aop.eq_8 aop.eq_9 aop_bin atS_apply aop_un_not aop_un_neg aop.eq_14 aop.eq_15 aop.eq_16 aop.eq_17 aop.eq_18 aop_sc cutS_apply cutN_apply cutL_apply cutO_apply aop.eq_20 aop.eq_21 aop.eq_22 aop.eq_23 aop.eq_24 aop.eq_25 aop.eq_26 aop.eq_27 aop.eq_28 aop.eq_29 aop.eq_30 aop.eq_31 aop.eq_32 blk_push next_push blk_set next_set blk_kill next_kill frL_nil frL_cons Fits_nil Fits_cons Int.reduceBEq Int.reduceBNe Nat.sub_zero Option.map_some Option.map_none List.set_cons_succ true_or or_true false_or or_false Int.le_refl Int.cast_ofNat_Int decide_true decide_false List.cons_append fillA fillR rowsOf List.replicate_succ List.replicate_zero Nat.zero_mul getD_drop List.length_drop splice List.nil_append List.append_nil cond_true cond_false List.set_cons_zero List.length_set ev put_some put_none upd_apply abin asNat bounds row1 mk List.length_cons List.length_nil List.length_map List.drop_zero List.drop_succ_cons List.drop_nil List.getD_cons_zero List.getD_cons_succ Option.getD_none Option.getD_some List.take_succ_cons List.take_zero List.take_nil true_and and_true Int.toNat_natCast if_true if_false Nat.zero_add Nat.add_zero List.map_cons List.map_nil Nat.reduceEqDiff Nat.left_eq_add Nat.add_eq_left Nat.add_left_cancel_iff Nat.add_assoc Nat.reduceSub Nat.reduceAdd Nat.reduceLeDiff Nat.le_refl Nat.zero_le Nat.zero_lt_one Nat.lt_add_one Int.reduceLT Int.reduceLE Int.reduceToNat Nat.reduceLT Nat.reduceBEq Bool.false_eq_true Nat.reduceBNe ne_eq not_false_eq_true not_true_eq_false false_and and_false reduceIte Int.natCast_nonneg reduceCtorEq parts_agg parts_bool parts_int parts_str parts_lit parts_nils parts_sl parts_ptr Int.natCast_nonneg Int.natCast_nonneg beq_self_eq_true bne_self_eq_false Bool.true_and Bool.false_and Bool.and_true Bool.and_false Bool.true_or Bool.false_or Bool.or_true Bool.or_false Bool.not_true Bool.not_false
attribute [local go_sem] instr0 instr1 instr2 instr10 instr11 instr12 instrN instrA instr_len node0 node1 node2 node3 node4 node5 node6 nodeA node_len I ints progA progsA

def meshTab : List (List Int) := [[2], [2, 4], [3, 2], [2, 2, 2], [], [5], [2, 2]]
theorem Sub.emp (full : Bool) (sz : Nat) : Sub (.emp full sz) (.lit sz []) := fun e v h => by cases h; exact .lit0 sz (some _) _ (fun h => by cases h)
theorem meshTab_get {y : Nat} (h : y < 7) : ∃ (w : AV) (sz : List Int), List.getD [[AV.lit 1 [[AV.int .i64 2]]], [AV.lit 1 [[AV.int .i64 2], [AV.int .i64 4]]], [AV.lit 1 [[AV.int .i64 3], [AV.int .i64 2]]], [AV.lit 1 [[AV.int .i64 2], [AV.int .i64 2], [AV.int .i64 2]]], [AV.emp true 1], [AV.lit 1 [[AV.int .i64 5]]], [AV.lit 1 [[AV.int .i64 2], [AV.int .i64 2]]]] y [] = [w] ∧ Sub w (ints sz) ∧ sz ∈ meshTab := by
  have : y = 0 ∨ y = 1 ∨ y = 2 ∨ y = 3 ∨ y = 4 ∨ y = 5 ∨ y = 6 := by omega
  rcases this with rfl | rfl | rfl | rfl | rfl | rfl | rfl
  · exact ⟨_, [2], rfl, .refl _, by decide⟩
  · exact ⟨_, [2, 4], rfl, .refl _, by decide⟩
  · exact ⟨_, [3, 2], rfl, .refl _, by decide⟩
  · exact ⟨_, [2, 2, 2], rfl, .refl _, by decide⟩
  · exact ⟨_, [], rfl, Sub.emp _ _, by decide⟩
  · exact ⟨_, [5], rfl, .refl _, by decide⟩
  · exact ⟨_, [2, 2], rfl, .refl _, by decide⟩
theorem ten_lt0 (sh dt : List Int) {n : Nat} : (AV.agg [ints sh, ints dt]).Lt n := by
  refine .agg _ fun i hi => ?_
  have h2 : i = 0 ∨ i = 1 := by simp only [List.length_cons, List.length_nil] at hi; omega
  rcases h2 with rfl | rfl
  · exact ints_lt _
  · exact ints_lt _
/-- law23.made -/
theorem made_spec (l : List Int) (hl : l.length ≤ most) (σ : St) :
    TQ Try.prog 45 [ints l] σ fun v s => s = σ ∧ ∃ sh dt sz a b p q, v = .tup [.agg [ints sh, ints dt], ints sz, ints a, ints b] ∧ sz ∈ meshTab ∧ TabS sh ∧ dt.length = (sizeE sh).toNat ∧ a = (spN sz.length l p sh.length).1 ∧ b = (spN sz.length l q sh.length).1 := by
  refine in45 (by simp) fun wf hab => ?_
  clear hab
  unfold c45
  first | refine .seq (.rg fun A hA K hK => ?_) | refine .seq (.seq (.rg fun A hA K hK => ?_)) | refine .rg fun A hA K hK => ?_ | refine .seq (.rd fun A hA K hK => ?_) | refine .seq (.seq (.rd fun A hA K hK => ?_)) | refine .rd fun A hA K hK => ?_
  simp (maxSteps := 1000000) only [go_sem, hA.nil, hA.go, hA.yes, hA.noT, hA.noF, hA.skp]
  refine hK _ _ ?_; clear hK K hA A
  first | refine .seq (.rg fun A hA K hK => ?_) | refine .seq (.seq (.rg fun A hA K hK => ?_)) | refine .rg fun A hA K hK => ?_ | refine .seq (.rd fun A hA K hK => ?_) | refine .seq (.seq (.rd fun A hA K hK => ?_)) | refine .rd fun A hA K hK => ?_
  simp (maxSteps := 1000000) only [go_sem, hA.nil, hA.go, hA.yes, hA.noT, hA.noF, hA.skp]
  refine hK _ _ ?_; clear hK K hA A
  obtain ⟨y1, y2, -⟩ := nxE_in l 0 7
  have y2 := y2 (by decide)
  obtain ⟨y, hy⟩ : ∃ y : Nat, nxE l 0 7 = y := ⟨_, (Int.toNat_of_nonneg y1).symm⟩
  obtain ⟨w7, sz, hsz, hsub, hmem⟩ := meshTab_get (y := y) (by omega)
  have e7 : (y : Int) < 7 := by omega
  have hszl : sz.length ≤ 2 ^ 20 := by
    have : ∀ x ∈ meshTab, x.length ≤ 2 ^ 20 := by decide
    exact this _ hmem
  refine .midK (fun L u => L = [(2, .ptr σ.next 0 0), (6, .ptr (σ.next + 1) 0 0), (7, ints sz)] ∧ u.next = σ.next + 2 ∧ u.blk σ.next = some (.cells 2 [[.lit 1 [], .lit 1 []]]) ∧ (∃ p, p ≤ l.length ∧ u.blk (σ.next + 1) = some (tapeB l p)) ∧ ∀ c, c < σ.next → u.blk c = σ.blk c) ?_ ?_
  · have hn := next_ok (σ := (σ.push (.cells 2 [[.lit 1 [], .lit 1 []]])).push (tapeB l 0)) (bT := σ.next + 1) (l := l) (p := 0) (by simp [blk_push, next_push]) (by omega) hl 7
    rw [hy] at hn
    refine .entQ ?_
    first | refine .seq (.rg fun A hA K hK => ?_) | refine .seq (.seq (.rg fun A hA K hK => ?_)) | refine .rg fun A hA K hK => ?_ | refine .seq (.rd fun A hA K hK => ?_) | refine .seq (.seq (.rd fun A hA K hK => ?_)) | refine .rd fun A hA K hK => ?_
    simp (maxSteps := 1000000) only [go_sem, hA.nil, hA.go, hA.yes, hA.noT, hA.noF, hA.skp]
    refine aopq_callT hn (by simp (maxSteps := 1000000) only [go_sem]) ?_
    try simp (maxSteps := 1000000) only [go_sem, hA.nil, hA.go, hA.yes, hA.noT, hA.noF, hA.skp, e7, hsz]
    refine hK _ _ ?_; clear hK K hA A
    refine ⟨_, _, .sub 7 (by simp (maxSteps := 1000000) only [go_sem]) hsub, _, ⟨rfl, by simp (maxSteps := 1000000) only [go_sem], by simp (maxSteps := 1000000) only [go_sem, show ¬ σ.next = σ.next + 1 by omega], ⟨_, nxP_le (Nat.zero_le _) 7, by simp (maxSteps := 1000000) only [go_sem]⟩, fun c hc => by simp (disch := omega) only [go_sem, if_neg]⟩, by simp (maxSteps := 1000000) only [go_sem]⟩
  rintro L u ⟨rfl, hun, h2, ⟨p1, hp1, hT⟩, hux⟩
  refine .midK (fun L u => ∃ sh dt b8, L = [(2, .ptr σ.next 0 0), (6, .ptr (σ.next + 1) 0 0), (7, ints sz), (8, .ptr b8 0 0)] ∧ TabS sh ∧ dt.length = (sizeE sh).toNat ∧ σ.next + 2 ≤ b8 ∧ b8 < u.next ∧ u.blk b8 = some (.cells 2 [[ints sh, ints dt]]) ∧ u.blk σ.next = some (.cells 2 [[.lit 1 [], .lit 1 []]]) ∧ (∃ p, p ≤ l.length ∧ u.blk (σ.next + 1) = some (tapeB l p)) ∧ ∀ c, c < σ.next → u.blk c = σ.blk c) ?_ ?_
  · first | refine .seq (.rg fun A hA K hK => ?_) | refine .seq (.seq (.rg fun A hA K hK => ?_)) | refine .rg fun A hA K hK => ?_ | refine .seq (.rd fun A hA K hK => ?_) | refine .seq (.seq (.rd fun A hA K hK => ?_)) | refine .rd fun A hA K hK => ?_
    simp (maxSteps := 1000000) only [go_sem, hA.nil, hA.go, hA.yes, hA.noT, hA.noF, hA.skp]
    refine aopq_callQ (shapeT_spec hT hp1 hl) (by simp (maxSteps := 1000000) only [go_sem]) ?_
    rintro v s1 ⟨sh, p2, rfl, hTS, hp2, hT2, hn2, hx2⟩
    try simp (maxSteps := 1000000) only [go_sem, hA.nil, hA.go, hA.yes, hA.noT, hA.noF, hA.skp]
    have hsl : sh.length ≤ 2 ^ 20 := by have := hTS.1; omega
    refine aopq_callQ (tensor_spec hT2 hp2 hl sh hsl) (by simp (maxSteps := 1000000) only [go_sem]) ?_
    rintro v s2 ⟨dt, p3, rfl, hdt, hp3, hT3, hn3, hx3⟩
    try simp (maxSteps := 1000000) only [go_sem, hA.nil, hA.go, hA.yes, hA.noT, hA.noF, hA.skp]
    refine hK _ _ ?_; clear hK K hA A
    refine ⟨_, ⟨sh, dt, s2.next, rfl, hTS, hdt, by omega, by simp (maxSteps := 1000000) only [go_sem]; try omega, by simp (maxSteps := 1000000) only [go_sem], ?_, ⟨p3, hp3, ?_⟩, fun c hc => ?_⟩, by simp (maxSteps := 1000000) only [go_sem]⟩
    · rw [← h2, ← hx2 _ (by omega) (by omega), ← hx3 _ (by omega) (by omega)]; simp (disch := omega) only [go_sem, if_neg]
    · rw [← hT3]; simp (disch := omega) only [go_sem, if_neg]
    · rw [← hux c hc, ← hx2 _ (by omega) (by omega), ← hx3 _ (by omega) (by omega)]; simp (disch := omega) only [go_sem, if_neg]
  rintro L t ⟨sh, dt, b8, rfl, hTS, hdt, hb8, hb8n, h8, h2, ⟨p2, hp2, hT2⟩, htx⟩
  have hsl : sh.length ≤ 2 ^ 20 := by have := hTS.1; omega
  have q1 := specT_spec hT2 hp2 hl sz hszl sh.length hsl
  have hp3 := spN_le sz.length hp2 sh.length
  have q2 := specT_spec (σ := t.set (σ.next + 1) (tapeB l (spN sz.length l p2 sh.length).2)) (bT := σ.next + 1) (by rw [blk_set, if_pos rfl]) hp3 hl sz hszl sh.length hsl
  have n1 : ¬ b8 = σ.next + 1 := by omega
  have n2 : ¬ σ.next = σ.next + 1 := by omega
  refine .seq (.rdx fun A hA K hK => ?_)
  simp (maxSteps := 200000) only [go_sem, hA.nil, hA.pur, hA.go, hA.yes, hA.noT, hA.noF, hA.skp, pure_mv, eff_mv, pure_pk, eff_pk, pure_al, eff_al, pure_bx, eff_bx, pure_bd, eff_bd, pure_bs, eff_bs, pure_ld, eff_ld, pure_st, eff_st, pure_nc, eff_nc, pure_bin, eff_bin, pure_un, eff_un, pure_cv, eff_cv, pure_mi, eff_mi, pure_mf, eff_mf, pure_mm, eff_mm, pure_ms, eff_ms, pure_sc, eff_sc, pure_fa, eff_fa, pure_fl, eff_fl, pure_ia, eff_ia, pure_lk, eff_lk, pure_mu, eff_mu, pure_lm, eff_lm, pure_rg, eff_rg, pure_nx, eff_nx, pure_en, eff_en, pure_ta, eff_ta, pure_ex, eff_ex, pure_ln, eff_ln, pure_ap, eff_ap, pure_mx, eff_mx, pure_call, eff_call, pure_callv, eff_callv, chk_nil, chk_cons, again, List.contains_cons, List.contains_nil, h8, n1, List.length_map]
  refine aop_callF q1 (by simp (maxSteps := 1000000) only [go_sem]) ?_
  simp (maxSteps := 200000) only [go_sem, hA.nil, hA.pur, hA.go, hA.yes, hA.noT, hA.noF, hA.skp, pure_mv, eff_mv, pure_pk, eff_pk, pure_al, eff_al, pure_bx, eff_bx, pure_bd, eff_bd, pure_bs, eff_bs, pure_ld, eff_ld, pure_st, eff_st, pure_nc, eff_nc, pure_bin, eff_bin, pure_un, eff_un, pure_cv, eff_cv, pure_mi, eff_mi, pure_mf, eff_mf, pure_mm, eff_mm, pure_ms, eff_ms, pure_sc, eff_sc, pure_fa, eff_fa, pure_fl, eff_fl, pure_ia, eff_ia, pure_lk, eff_lk, pure_mu, eff_mu, pure_lm, eff_lm, pure_rg, eff_rg, pure_nx, eff_nx, pure_en, eff_en, pure_ta, eff_ta, pure_ex, eff_ex, pure_ln, eff_ln, pure_ap, eff_ap, pure_mx, eff_mx, pure_call, eff_call, pure_callv, eff_callv, chk_nil, chk_cons, again, List.contains_cons, List.contains_nil, h8, n1, List.length_map]
  refine aop_callF q2 (by simp (maxSteps := 1000000) only [go_sem]) ?_
  simp (maxSteps := 200000) only [go_sem, hA.nil, hA.pur, hA.go, hA.yes, hA.noT, hA.noF, hA.skp, pure_mv, eff_mv, pure_pk, eff_pk, pure_al, eff_al, pure_bx, eff_bx, pure_bd, eff_bd, pure_bs, eff_bs, pure_ld, eff_ld, pure_st, eff_st, pure_nc, eff_nc, pure_bin, eff_bin, pure_un, eff_un, pure_cv, eff_cv, pure_mi, eff_mi, pure_mf, eff_mf, pure_mm, eff_mm, pure_ms, eff_ms, pure_sc, eff_sc, pure_fa, eff_fa, pure_fl, eff_fl, pure_ia, eff_ia, pure_lk, eff_lk, pure_mu, eff_mu, pure_lm, eff_lm, pure_rg, eff_rg, pure_nx, eff_nx, pure_en, eff_en, pure_ta, eff_ta, pure_ex, eff_ex, pure_ln, eff_ln, pure_ap, eff_ap, pure_mx, eff_mx, pure_call, eff_call, pure_callv, eff_callv, chk_nil, chk_cons, again, List.contains_cons, List.contains_nil, h8, h2, n1, n2, List.length_map]
  refine hK _ _ ?_; clear hK K hA A
  refine .ret ⟨[.agg [ints sh, ints dt], ints sz, ints (spN sz.length l p2 sh.length).1, ints (spN sz.length l (spN sz.length l p2 sh.length).2 sh.length).1], by simp [resOne, upd, frL, blk_set, mk, ints, I], .tup [.agg [ints sh, ints dt], ints sz, ints (spN sz.length l p2 sh.length).1, ints (spN sz.length l (spN sz.length l p2 sh.length).2 sh.length).1], σ, .back rfl wf (fun c hc => ?_) (lt_tup ?_), rfl, sh, dt, sz, _, _, p2, _, rfl, hmem, hTS, hdt, rfl, rfl⟩
  · rw [← htx c hc]; simp (disch := omega) only [go_sem, if_neg]
  · simp only [List.forall_mem_cons, List.not_mem_nil, false_imp_iff, implies_true, and_true]
    exact ⟨ten_lt0 _ _, ints_lt _, ints_lt _, ints_lt _⟩

/-- law23.MoveRefuses: true of any arguments -/
theorem moveRefuses_spec (tape : List Int) (dv : Int) (sizes s fr to regs : List Int) (σ : St) : T Try.prog 13 [ints tape, I dv, ints sizes, ints s, ints fr, ints to, ints regs] σ (.bool true) σ := by
  refine in13 (by simp) fun wf hab => ?_
  have hl := hab_ints (hab 0 (by simp))
  clear hab
  unfold c13
  first | refine .seq (.rg fun A hA K hK => ?_) | refine .seq (.seq (.rg fun A hA K hK => ?_)) | refine .rg fun A hA K hK => ?_ | refine .seq (.rd fun A hA K hK => ?_) | refine .seq (.seq (.rd fun A hA K hK => ?_)) | refine .rd fun A hA K hK => ?_
  simp (maxSteps := 1000000) only [go_sem, hA.nil, hA.go, hA.yes, hA.noT, hA.noF, hA.skp]
  refine hK _ _ ?_; clear hK K hA A
  refine .midK (fun L u => ∃ sh dt sz a b, L = [(1, I dv), (2, ints sizes), (3, ints s), (4, ints fr), (5, ints to), (6, ints regs), (15, .ptr σ.next 0 0), (16, ints sz), (17, ints a), (18, ints b)] ∧ u.blk σ.next = some (.cells 2 [[ints sh, ints dt]]) ∧ ∀ c, c < σ.next → u.blk c = σ.blk c) ?_ ?_
  · first | refine .seq (.rg fun A hA K hK => ?_) | refine .seq (.seq (.rg fun A hA K hK => ?_)) | refine .rg fun A hA K hK => ?_ | refine .seq (.rd fun A hA K hK => ?_) | refine .seq (.seq (.rd fun A hA K hK => ?_)) | refine .rd fun A hA K hK => ?_
    simp (maxSteps := 1000000) only [go_sem, hA.nil, hA.go, hA.yes, hA.noT, hA.noF, hA.skp]
    refine aopq_callQ (made_spec tape hl σ) (by simp (maxSteps := 1000000) only [go_sem]) ?_
    rintro v t ⟨rfl, sh, dt, sz, a, b, p, q, rfl, -⟩
    try simp (maxSteps := 1000000) only [go_sem, hA.nil, hA.go, hA.yes, hA.noT, hA.noF, hA.skp]
    refine hK _ _ ?_; clear hK K hA A
    exact ⟨_, ⟨sh, dt, sz, a, b, rfl, by simp (maxSteps := 1000000) only [go_sem], fun c hc => by simp (disch := omega) only [go_sem, if_neg]⟩, by simp (maxSteps := 1000000) only [go_sem]⟩
  rintro L u ⟨sh, dt, sz, a, b, rfl, h15, hx⟩
  first | refine .seq (.rg fun A hA K hK => ?_) | refine .seq (.seq (.rg fun A hA K hK => ?_)) | refine .rg fun A hA K hK => ?_ | refine .seq (.rd fun A hA K hK => ?_) | refine .seq (.seq (.rd fun A hA K hK => ?_)) | refine .rd fun A hA K hK => ?_
  simp (maxSteps := 1000000) only [go_sem, hA.nil, hA.go, hA.yes, hA.noT, hA.noF, hA.skp, h15]
  first | refine aopq_call (refuses23_spec dv sizes s fr to regs u) (by simp (maxSteps := 1000000) only [go_sem, h15]) ?_ | refine aop_call (refuses23_spec dv sizes s fr to regs u) (by simp (maxSteps := 1000000) only [go_sem, h15]) ?_
  try simp (maxSteps := 1000000) only [go_sem, hA.nil, hA.go, hA.yes, hA.noT, hA.noF, hA.skp, h15]
  try simp (maxSteps := 1000000) only [go_sem, hA.nil, hA.go, hA.yes, hA.noT, hA.noF, hA.skp, h15]
  first | refine aopq_call (refuses23_spec dv sz sh a to regs u) (by simp (maxSteps := 1000000) only [go_sem, h15]) ?_ | refine aop_call (refuses23_spec dv sz sh a to regs u) (by simp (maxSteps := 1000000) only [go_sem, h15]) ?_
  try simp (maxSteps := 1000000) only [go_sem, hA.nil, hA.go, hA.yes, hA.noT, hA.noF, hA.skp, h15]
  try simp (maxSteps := 1000000) only [go_sem, hA.nil, hA.go, hA.yes, hA.noT, hA.noF, hA.skp, h15]
  first | refine aopq_call (refuses23_spec dv sz sh a b regs u) (by simp (maxSteps := 1000000) only [go_sem, h15]) ?_ | refine aop_call (refuses23_spec dv sz sh a b regs u) (by simp (maxSteps := 1000000) only [go_sem, h15]) ?_
  try simp (maxSteps := 1000000) only [go_sem, hA.nil, hA.go, hA.yes, hA.noT, hA.noF, hA.skp, h15]
  try simp (maxSteps := 1000000) only [go_sem, hA.nil, hA.go, hA.yes, hA.noT, hA.noF, hA.skp, h15]
  first | refine aopq_call (known23_spec u) (by simp (maxSteps := 1000000) only [go_sem]) ?_ | refine aop_call (known23_spec u) (by simp (maxSteps := 1000000) only [go_sem]) ?_
  try simp (maxSteps := 1000000) only [go_sem, hA.nil, hA.go, hA.yes, hA.noT, hA.noF, hA.skp]
  try simp (maxSteps := 1000000) only [go_sem, hA.nil, hA.go, hA.yes, hA.noT, hA.noF, hA.skp]
  refine hK _ _ ?_; clear hK K hA A
  exact .ret (retB (by simp (maxSteps := 1000000) only [go_sem]) wf hx (.bool _) ⟨rfl, rfl⟩)
end Go.Proofs.Ytfjbabacpnnjmaa.Av
