/- A logic of small values, and walks in it: Numbers and tensors of a tape. Datum: what is the same; what is right. Datum: the program's own shapes and tensors. -/
import Derived.Test.YtdmbgnppbchgcaaAv5
set_option linter.unusedVariables false
set_option linter.unusedSimpArgs false
set_option linter.deprecated false
namespace Go.Proofs.Ytdmbgnppbchgcaa.Av
open Go Go.Av
set_option maxRecDepth 20000
set_option maxHeartbeats 4000000

attribute [local go_sem] step_apply stepD_apply stepE_apply
attribute [local go_sem] aopq_mv aopq_pk aopq_al aopq_bx aopq_bd aopq_bs aopq_ld aopq_st aopq_nc aopq_bin aopq_un aopq_cv aopq_mi aopq_mf aopq_mm aopq_ms aopq_sc aopq_fa aopq_fl aopq_ia aopq_lk aopq_mu aopq_lm aopq_rg aopq_rgs aopq_nxs aopq_msl aop_msl aop_rgs aop_nxs aopq_en aopq_ta aopq_ex aopq_ln aopq_ap aopq_mx aopq.eq_3 aop.eq_1 aop.eq_2 aop.eq_3 aop.eq_4 aop.eq_5 aop.eq_6 aop.eq_7 aop.eq_8 aop.eq_9 aop_bin atS_apply aop_un_not aop_un_neg aop.eq_14 aop.eq_15 aop.eq_16 aop.eq_17 aop.eq_18 aop_sc cutS_apply cutN_apply cutL_apply cutO_apply aop.eq_20 aop.eq_21 aop.eq_22 aop.eq_23 aop.eq_24 aop.eq_25 aop.eq_26 aop.eq_27 aop.eq_28 aop.eq_29 aop.eq_30 aop.eq_31 aop.eq_32 blk_push next_push blk_set next_set blk_kill next_kill frL_nil frL_cons Fits_nil Fits_cons Int.reduceBEq Int.reduceBNe Nat.sub_zero Option.map_some Option.map_none List.set_cons_succ true_or or_true false_or or_false Int.le_refl Int.cast_ofNat_Int decide_true decide_false List.cons_append fillA fillR rowsOf List.replicate_succ List.replicate_zero Nat.zero_mul getD_drop List.length_drop splice List.nil_append List.append_nil cond_true cond_false List.set_cons_zero List.length_set ev put_some put_none upd_apply abin asNat bounds row1 mk List.length_cons List.length_nil List.length_map List.drop_zero List.drop_succ_cons List.drop_nil List.getD_cons_zero List.getD_cons_succ Option.getD_none Option.getD_some List.take_succ_cons List.take_zero List.take_nil true_and and_true Int.toNat_natCast if_true if_false Nat.zero_add Nat.add_zero List.map_cons List.map_nil Nat.reduceEqDiff Nat.left_eq_add Nat.add_eq_left Nat.add_left_cancel_iff Nat.add_assoc Nat.reduceSub Nat.reduceAdd Nat.reduceLeDiff Nat.le_refl Nat.zero_le Nat.zero_lt_one Nat.lt_add_one Int.reduceLT Int.reduceLE Int.reduceToNat Nat.reduceLT Nat.reduceBEq Bool.false_eq_true Nat.reduceBNe ne_eq not_false_eq_true not_true_eq_false false_and and_false reduceIte Int.natCast_nonneg reduceCtorEq parts_agg parts_bool parts_int parts_str parts_lit parts_nils parts_sl parts_ptr parts_iface parts_nilp parts_niliface Int.natCast_nonneg Int.natCast_nonneg beq_self_eq_true bne_self_eq_false Bool.true_and Bool.false_and Bool.and_true Bool.and_false Bool.true_or Bool.false_or Bool.or_true Bool.or_false Bool.not_true Bool.not_false
attribute [local go_sem] I ints tenA

def tabN : List Int := [9223372036854775807, -9223372036854775808, 4611686018427387904, -1099511627776, 8589934592, 3037000500]
def numE (l : List Int) (p : Nat) : Int := if nxE l p 9 = 0 then tabN.getD (nxE l (nxP l p 9) 6).toNat 0 else if nxE l p 9 = 1 then 0 else IntKind.i64.wrap (nxE l (nxP l p 9) 19 - 9)
def numP (l : List Int) (p : Nat) : Nat := if nxE l p 9 = 0 then nxP l (nxP l p 9) 6 else if nxE l p 9 = 1 then nxP l p 9 else nxP l (nxP l p 9) 19
theorem nxP_le {l : List Int} {p : Nat} (h : p ≤ l.length) (n : Int) : nxP l p n ≤ l.length := by
  unfold nxP; split <;> omega
theorem numP_le {l : List Int} {p : Nat} (h : p ≤ l.length) : numP l p ≤ l.length := by
  unfold numP; split
  · exact nxP_le (nxP_le h _) _
  · split
    · exact nxP_le h _
    · exact nxP_le (nxP_le h _) _
theorem set_set (σ : St) (b : Nat) (B B' : Blk) : (σ.set b B).set b B' = σ.set b B' := by
  simp only [St.set, St.mk.injEq, true_and]
  funext c; split <;> rfl

section
variable {σ : St} {l : List Int} {p bT : Nat}
theorem next_ok (hb : σ.blk bT = some (tapeB l p)) (hp : p ≤ l.length) (hl : l.length ≤ most) (n : Int) : T Try.prog 18 [.ptr bT 0 0, I n] σ (I (nxE l p n)) (σ.set bT (tapeB l (nxP l p n))) :=
  next_spec hb n (by simp only [most] at hl; omega)

/-- Tape.Number -/
theorem number_spec (hb : σ.blk bT = some (tapeB l p)) (hp : p ≤ l.length) (hl : l.length ≤ most) : T Try.prog 17 [.ptr bT 0 0] σ (I (numE l p)) (σ.set bT (tapeB l (numP l p))) := by
  refine in17 (by simp) fun wf hab => ?_
  clear hab
  have hb1 : (σ.set bT (tapeB l (nxP l p 9))).blk bT = some (tapeB l (nxP l p 9)) := by rw [blk_set, if_pos rfl]
  have hp1 := nxP_le hp 9
  unfold c17
  first | refine .seq (.rg fun A hA K hK => ?_) | refine .seq (.seq (.rg fun A hA K hK => ?_)) | refine .rg fun A hA K hK => ?_ | refine .seq (.rd fun A hA K hK => ?_) | refine .seq (.seq (.rd fun A hA K hK => ?_)) | refine .rd fun A hA K hK => ?_
  simp (maxSteps := 1000000) only [go_sem, hA.nil, hA.go, hA.yes, hA.noT, hA.noF, hA.skp]
  refine hK _ _ ?_; clear hK K hA A
  first | refine .seq (.rg fun A hA K hK => ?_) | refine .seq (.seq (.rg fun A hA K hK => ?_)) | refine .rg fun A hA K hK => ?_ | refine .seq (.rd fun A hA K hK => ?_) | refine .seq (.seq (.rd fun A hA K hK => ?_)) | refine .rd fun A hA K hK => ?_
  simp (maxSteps := 1000000) only [go_sem, hA.nil, hA.go, hA.yes, hA.noT, hA.noF, hA.skp]
  refine aopq_callT (next_ok hb hp hl 9) (by simp (maxSteps := 1000000) only [go_sem]) ?_
  try simp (maxSteps := 1000000) only [go_sem, hA.nil, hA.go, hA.yes, hA.noT, hA.noF, hA.skp]
  refine hK _ _ ?_; clear hK K hA A
  by_cases h0 : nxE l p 9 = 0
  · have e1 : numE l p = tabN.getD (nxE l (nxP l p 9) 6).toNat 0 := if_pos h0
    have e2 : numP l p = nxP l (nxP l p 9) 6 := if_pos h0
    have hj := nxE_in l (nxP l p 9) 6
    obtain ⟨j, hj'⟩ := Int.eq_ofNat_of_zero_le hj.1
    have hj6 : j < 6 := by have := hj.2.1 (by decide); omega
    have hg : (tabN.map fun n => [I n]).getD j [] = [I (tabN.getD j 0)] := by
      have hj7 : j < tabN.length := hj6
      rw [ints_get hj7]; simp [List.getD_eq_getElem?_getD, hj7]
    refine .block ?_
    first | refine .seq (.rg fun A hA K hK => ?_) | refine .seq (.seq (.rg fun A hA K hK => ?_)) | refine .rg fun A hA K hK => ?_ | refine .seq (.rd fun A hA K hK => ?_) | refine .seq (.seq (.rd fun A hA K hK => ?_)) | refine .rd fun A hA K hK => ?_
    simp (maxSteps := 1000000) only [go_sem, hA.nil, hA.go, hA.yes, hA.noT, hA.noF, hA.skp, h0]
    refine hK _ _ ?_; clear hK K hA A
    refine .cond (t := true) (by simp (maxSteps := 1000000) only [go_sem]) (fun _ => ?_) (fun h => by cases h)
    first | refine .seq (.rg fun A hA K hK => ?_) | refine .seq (.seq (.rg fun A hA K hK => ?_)) | refine .rg fun A hA K hK => ?_ | refine .seq (.rd fun A hA K hK => ?_) | refine .seq (.seq (.rd fun A hA K hK => ?_)) | refine .rd fun A hA K hK => ?_
    simp (maxSteps := 1000000) only [go_sem, hA.nil, hA.go, hA.yes, hA.noT, hA.noF, hA.skp]
    refine aopq_callT (next_ok hb1 hp1 hl 6) (by simp (maxSteps := 1000000) only [go_sem]) ?_
    simp only [tabN, List.map_cons, List.map_nil] at hg
    have hj8 : (j : Int) < 6 := by omega
    have hj9 : (j : Int) < ((6 : Nat) : Int) := by omega
    try simp (maxSteps := 1000000) only [go_sem, hA.nil, hA.go, hA.yes, hA.noT, hA.noF, hA.skp, hj', hg, hj8, hj9]
    refine hK _ _ ?_; clear hK K hA A
    exact .ret (retS (by simp (maxSteps := 1000000) only [go_sem]; try rfl) ⟨by rw [e1, hj', Int.toNat_natCast]; rfl, by rw [set_set, e2]⟩)
  · have b0 : (nxE l p 9 == 0) = false := by simpa using h0
    refine .block ?_
    first | refine .seq (.rg fun A hA K hK => ?_) | refine .seq (.seq (.rg fun A hA K hK => ?_)) | refine .rg fun A hA K hK => ?_ | refine .seq (.rd fun A hA K hK => ?_) | refine .seq (.seq (.rd fun A hA K hK => ?_)) | refine .rd fun A hA K hK => ?_
    simp (maxSteps := 1000000) only [go_sem, hA.nil, hA.go, hA.yes, hA.noT, hA.noF, hA.skp, b0]
    refine hK _ _ ?_; clear hK K hA A
    refine .cond (t := false) (by simp (maxSteps := 1000000) only [go_sem]) (fun h => by cases h) (fun _ => ?_)
    by_cases h1 : nxE l p 9 = 1
    · have e1 : numE l p = 0 := by rw [numE, if_neg h0, if_pos h1]
      have e2 : numP l p = nxP l p 9 := by rw [numP, if_neg h0, if_pos h1]
      first | refine .seq (.rg fun A hA K hK => ?_) | refine .seq (.seq (.rg fun A hA K hK => ?_)) | refine .rg fun A hA K hK => ?_ | refine .seq (.rd fun A hA K hK => ?_) | refine .seq (.seq (.rd fun A hA K hK => ?_)) | refine .rd fun A hA K hK => ?_
      simp (maxSteps := 1000000) only [go_sem, hA.nil, hA.go, hA.yes, hA.noT, hA.noF, hA.skp, h1]
      refine hK _ _ ?_; clear hK K hA A
      refine .cond (t := true) (by simp (maxSteps := 1000000) only [go_sem]) (fun _ => ?_) (fun h => by cases h)
      first | refine .seq (.rg fun A hA K hK => ?_) | refine .seq (.seq (.rg fun A hA K hK => ?_)) | refine .rg fun A hA K hK => ?_ | refine .seq (.rd fun A hA K hK => ?_) | refine .seq (.seq (.rd fun A hA K hK => ?_)) | refine .rd fun A hA K hK => ?_
      simp (maxSteps := 1000000) only [go_sem, hA.nil, hA.go, hA.yes, hA.noT, hA.noF, hA.skp]
      refine hK _ _ ?_; clear hK K hA A
      exact .ret (retS (by simp (maxSteps := 1000000) only [go_sem]; try rfl) ⟨by rw [e1], by rw [e2]⟩)
    · have e1 : numE l p = IntKind.i64.wrap (nxE l (nxP l p 9) 19 - 9) := by rw [numE, if_neg h0, if_neg h1]
      have e2 : numP l p = nxP l (nxP l p 9) 19 := by rw [numP, if_neg h0, if_neg h1]
      have b1 : (nxE l p 9 == 1) = false := by simpa using h1
      first | refine .seq (.rg fun A hA K hK => ?_) | refine .seq (.seq (.rg fun A hA K hK => ?_)) | refine .rg fun A hA K hK => ?_ | refine .seq (.rd fun A hA K hK => ?_) | refine .seq (.seq (.rd fun A hA K hK => ?_)) | refine .rd fun A hA K hK => ?_
      simp (maxSteps := 1000000) only [go_sem, hA.nil, hA.go, hA.yes, hA.noT, hA.noF, hA.skp, b1]
      refine hK _ _ ?_; clear hK K hA A
      refine .cond (t := false) (by simp (maxSteps := 1000000) only [go_sem]) (fun h => by cases h) (fun _ => .skip ?_)
      first | refine .seq (.rg fun A hA K hK => ?_) | refine .seq (.seq (.rg fun A hA K hK => ?_)) | refine .rg fun A hA K hK => ?_ | refine .seq (.rd fun A hA K hK => ?_) | refine .seq (.seq (.rd fun A hA K hK => ?_)) | refine .rd fun A hA K hK => ?_
      simp (maxSteps := 1000000) only [go_sem, hA.nil, hA.go, hA.yes, hA.noT, hA.noF, hA.skp]
      refine aopq_callT (next_ok hb1 hp1 hl 19) (by simp (maxSteps := 1000000) only [go_sem]) ?_
      try simp (maxSteps := 1000000) only [go_sem, hA.nil, hA.go, hA.yes, hA.noT, hA.noF, hA.skp]
      refine hK _ _ ?_; clear hK K hA A
      exact .ret (retS (by simp (maxSteps := 1000000) only [go_sem]; try rfl) ⟨by rw [e1], by rw [set_set, e2]⟩)

/-- Tape.Tensor -/
theorem tensor_spec (hb : σ.blk bT = some (tapeB l p)) (hp : p ≤ l.length) (hl : l.length ≤ most) (s : List Int) (hs : s.length ≤ 2 ^ 20) :
    TQ Try.prog 7 [.ptr bT 0 0, ints s] σ fun v t => ∃ data p', v = .agg [ints s, ints data] ∧ data.length = (sizeE s).toNat ∧ p' ≤ l.length ∧ t.blk bT = some (tapeB l p') ∧ σ.next ≤ t.next ∧ ∀ b, b < σ.next → b ≠ bT → t.blk b = σ.blk b := by
  refine in7 (by simp) fun wf hab => ?_
  clear hab
  obtain ⟨z0, z1⟩ := sizeE_in s
  generalize hN : (sizeE s).toNat = N at *
  have hN2 : N ≤ 4096 := by omega
  have hbT : bT < σ.next := by
    rcases Nat.lt_or_ge bT σ.next with h | h
    · exact h
    · rw [wf.1 bT h] at hb; cases hb
  unfold c7
  first | refine .seq (.rg fun A hA K hK => ?_) | refine .seq (.seq (.rg fun A hA K hK => ?_)) | refine .rg fun A hA K hK => ?_ | refine .seq (.rd fun A hA K hK => ?_) | refine .seq (.seq (.rd fun A hA K hK => ?_)) | refine .rd fun A hA K hK => ?_
  simp (maxSteps := 1000000) only [go_sem, hA.nil, hA.go, hA.yes, hA.noT, hA.noF, hA.skp]
  refine hK _ _ ?_; clear hK K hA A
  refine .midK (fun L t => L = [(0, .ptr bT 0 0), (4, .ptr σ.next 0 0), (5, .ptr (t.next - 1) 0 0)] ∧ σ.next < t.next - 1 ∧ (∃ c, t.blk (t.next - 1) = some (.cells 2 [[ints s, .sl c 0 N]]) ∧ t.blk c = some (.cells 1 (List.replicate N [I 0])) ∧ σ.next < c ∧ c < t.next - 1) ∧
    t.blk σ.next = some (.cells 2 [[.lit 1 [], .lit 1 []]]) ∧ ∀ b, b < σ.next → t.blk b = σ.blk b) ?_ ?_
  · first | refine .seq (.rg fun A hA K hK => ?_) | refine .seq (.seq (.rg fun A hA K hK => ?_)) | refine .rg fun A hA K hK => ?_ | refine .seq (.rd fun A hA K hK => ?_) | refine .seq (.seq (.rd fun A hA K hK => ?_)) | refine .rd fun A hA K hK => ?_
    simp (maxSteps := 1000000) only [go_sem, hA.nil, hA.go, hA.yes, hA.noT, hA.noF, hA.skp]
    refine aopq_callQ (fill_spec s hs 0 _) (by simp (maxSteps := 1000000) only [go_sem]) ?_
    rintro v t ⟨c, rfl, h1, h2, h3, hx⟩
    rw [hN] at h1 ⊢
    try simp (maxSteps := 1000000) only [go_sem, hA.nil, hA.go, hA.yes, hA.noT, hA.noF, hA.skp]
    refine hK _ _ ?_; clear hK K hA A
    have hx1 := hx.1
    rw [next_push] at h2 hx1
    refine ⟨_, ⟨by rw [next_set, next_push, Nat.add_sub_cancel], ?_, ⟨c, ?_, ?_, ?_, ?_⟩, ?_, fun b hb => ?_⟩, by simp (maxSteps := 1000000) only [go_sem, Nat.add_sub_cancel]⟩
    · simp (maxSteps := 1000000) only [go_sem, Nat.add_sub_cancel]; omega
    · simp (maxSteps := 1000000) only [go_sem, Nat.add_sub_cancel]
    · have e1 : ¬ c = t.next := by omega
      simp (maxSteps := 1000000) only [go_sem, Nat.add_sub_cancel, e1, h1]
    · omega
    · simp (maxSteps := 1000000) only [go_sem, Nat.add_sub_cancel]; omega
    · have e1 : ¬ σ.next = t.next := by omega
      simp (maxSteps := 1000000) only [go_sem, e1]
      rw [hx.2 _ (by rw [next_push]; omega)]
      simp (maxSteps := 1000000) only [go_sem]
    · have e1 : ¬ b = t.next := by omega
      have e2 : ¬ b = σ.next := by omega
      simp (maxSteps := 1000000) only [go_sem, e1]
      rw [hx.2 _ (by rw [next_push]; omega)]
      simp (maxSteps := 1000000) only [go_sem, e2]
  rintro L t ⟨rfl, hn, ⟨c, h5, hc, hc1, hc2⟩, h4, hx⟩
  generalize hq : t.next - 1 = b5 at *
  have hb5 : b5 < t.next := by omega
  clear hq
  first | refine .seq (.rg fun A hA K hK => ?_) | refine .seq (.seq (.rg fun A hA K hK => ?_)) | refine .rg fun A hA K hK => ?_ | refine .seq (.rd fun A hA K hK => ?_) | refine .seq (.seq (.rd fun A hA K hK => ?_)) | refine .rd fun A hA K hK => ?_
  simp (maxSteps := 1000000) only [go_sem, hA.nil, hA.go, hA.yes, hA.noT, hA.noF, hA.skp, h5]
  refine hK _ _ ?_; clear hK K hA A
  refine .rangeK (N := N) (fun i L t => L = [(0, .ptr bT 0 0), (4, .ptr σ.next 0 0), (5, .ptr b5 0 0), (11, I N), (12, I i)] ∧ b5 < t.next ∧ (∃ ds : List Int, ds.length = N ∧ t.blk c = some (.cells 1 (ds.map fun n => [I n]))) ∧
    t.blk b5 = some (.cells 2 [[ints s, .sl c 0 N]]) ∧ t.blk σ.next = some (.cells 2 [[.lit 1 [], .lit 1 []]]) ∧ (∃ p', p' ≤ l.length ∧ t.blk bT = some (tapeB l p')) ∧ ∀ b, b < σ.next → b ≠ bT → t.blk b = σ.blk b) (by simp only [most]; omega)
    ⟨_, ⟨rfl, hb5, ⟨List.replicate N 0, by simp, by rw [hc]; simp⟩, h5, h4, ⟨p, hp, by rw [hx bT hbT]; exact hb⟩, fun b h _ => hx b h⟩, by simp (maxSteps := 1000000) only [go_sem]; try rfl⟩ ?_ ?_ ?_
  · rintro i L t ⟨rfl, _⟩
    exact ⟨by simp (maxSteps := 1000000) only [go_sem], by simp (maxSteps := 1000000) only [go_sem], rfl⟩
  · rintro i L t hi ⟨rfl, hb5, ⟨ds, hds, hc⟩, h5, h4, ⟨p', hp', hbt⟩, hx⟩
    have e1 : ¬ b5 = bT := by omega
    have e2 : ¬ c = bT := by omega
    have e3 : (i : Int) < N := by omega
    have e4 : i < ds.length := by omega
    have e5 : ¬ b5 = c := by omega
    have e6 : ¬ σ.next = bT := by omega
    have e7 : ¬ σ.next = c := by omega
    have e8 : ¬ bT = c := by omega
    have hg : (ds.map fun n => [I n]).getD i [] = [I (ds.getD i 0)] := by rw [ints_get e4]; simp [List.getD_eq_getElem?_getD, e4]
    have hset : ∀ x, (ds.map fun n => [I n]).set i [I x] = (ds.set i x).map fun n => [I n] := fun x => by rw [List.map_set]
    first | refine .seq (.rg fun A hA K hK => ?_) | refine .seq (.seq (.rg fun A hA K hK => ?_)) | refine .rg fun A hA K hK => ?_ | refine .seq (.rd fun A hA K hK => ?_) | refine .seq (.seq (.rd fun A hA K hK => ?_)) | refine .rd fun A hA K hK => ?_
    simp (maxSteps := 1000000) only [go_sem, hA.nil, hA.go, hA.yes, hA.noT, hA.noF, hA.skp]
    refine hK _ _ ?_; clear hK K hA A
    refine .rdx fun A hA K hK => ?_
    simp (maxSteps := 200000) only [go_sem, hA.nil, hA.pur, hA.go, hA.yes, hA.noT, hA.noF, hA.skp, pure_mv, eff_mv, pure_pk, eff_pk, pure_al, eff_al, pure_bx, eff_bx, pure_bd, eff_bd, pure_bs, eff_bs, pure_ld, eff_ld, pure_st, eff_st, pure_nc, eff_nc, pure_bin, eff_bin, pure_un, eff_un, pure_cv, eff_cv, pure_mi, eff_mi, pure_mf, eff_mf, pure_mm, eff_mm, pure_ms, eff_ms, pure_msl, eff_msl, pure_sc, eff_sc, pure_fa, eff_fa, pure_fl, eff_fl, pure_ia, eff_ia, pure_lk, eff_lk, pure_mu, eff_mu, pure_lm, eff_lm, pure_rg, eff_rg, pure_nx, eff_nx, pure_en, eff_en, pure_ta, eff_ta, pure_ex, eff_ex, pure_ln, eff_ln, pure_ap, eff_ap, pure_mx, eff_mx, pure_call, eff_call, pure_callv, eff_callv, chk_nil, chk_cons, again, List.contains_cons, List.contains_nil, h5, e1]
    refine aop_callF (number_spec hbt hp' hl) (by simp (maxSteps := 1000000) only [go_sem]) ?_
    simp (maxSteps := 200000) only [go_sem, hA.nil, hA.pur, hA.go, hA.yes, hA.noT, hA.noF, hA.skp, pure_mv, eff_mv, pure_pk, eff_pk, pure_al, eff_al, pure_bx, eff_bx, pure_bd, eff_bd, pure_bs, eff_bs, pure_ld, eff_ld, pure_st, eff_st, pure_nc, eff_nc, pure_bin, eff_bin, pure_un, eff_un, pure_cv, eff_cv, pure_mi, eff_mi, pure_mf, eff_mf, pure_mm, eff_mm, pure_ms, eff_ms, pure_msl, eff_msl, pure_sc, eff_sc, pure_fa, eff_fa, pure_fl, eff_fl, pure_ia, eff_ia, pure_lk, eff_lk, pure_mu, eff_mu, pure_lm, eff_lm, pure_rg, eff_rg, pure_nx, eff_nx, pure_en, eff_en, pure_ta, eff_ta, pure_ex, eff_ex, pure_ln, eff_ln, pure_ap, eff_ap, pure_mx, eff_mx, pure_call, eff_call, pure_callv, eff_callv, chk_nil, chk_cons, again, List.contains_cons, List.contains_nil, h5, e1, e2, hc, e3, e4, hg]
    refine hK _ _ ?_; clear hK K hA A
    refine ⟨by simp (maxSteps := 1000000) only [go_sem], _, ⟨rfl, by simp (maxSteps := 1000000) only [go_sem]; exact hb5, ⟨ds.set i (numE l p'), by simpa using hds, ?_⟩, by simp (maxSteps := 1000000) only [go_sem, e5, e1, h5], by simp (maxSteps := 1000000) only [go_sem, e6, e7, h4], ⟨numP l p', numP_le hp', by simp (maxSteps := 1000000) only [go_sem, e8]⟩, fun b h1 h2 => ?_⟩, by simp (maxSteps := 1000000) only [go_sem]; try rfl⟩
    · simp (maxSteps := 1000000) only [go_sem]; rw [hset]
    · have e9 : ¬ b = c := by omega
      simp (maxSteps := 1000000) only [go_sem, e9, h2, hx b h1 h2]
  · rintro L t F ⟨rfl, hb5, ⟨ds, hds, hc⟩, h5, h4, ⟨p', hp', hbt⟩, hx⟩ hf
    simp (maxSteps := 1000000) only [go_sem] at hf
    have e1 : ¬ σ.next = b5 := by omega
    have e2 : ¬ σ.next = c := by omega
    have e3 : ¬ bT = b5 := by omega
    have e4 : ¬ bT = c := by omega
    have e5 : ¬ bT = σ.next := by omega
    refine frz1 b5 1 h5 (by simp) rfl hc (by omega) (by simpa using hds.symm) ?_
    first | refine .seq (.rg fun A hA K hK => ?_) | refine .seq (.seq (.rg fun A hA K hK => ?_)) | refine .rg fun A hA K hK => ?_ | refine .seq (.rd fun A hA K hK => ?_) | refine .seq (.seq (.rd fun A hA K hK => ?_)) | refine .rd fun A hA K hK => ?_
    simp (maxSteps := 1000000) only [go_sem, hA.nil, hA.go, hA.yes, hA.noT, hA.noF, hA.skp, hf, e1, e2, h4]
    refine hK _ _ ?_; clear hK K hA A
    refine .ret ⟨[.agg [ints s, ints ds]], by simp [resOne, hf, go_sem], _, _, .refl _ _ _, ds, p', rfl, hds, hp', by simp (maxSteps := 1000000) only [go_sem, e3, e4, e5, hbt], by simp (maxSteps := 1000000) only [go_sem]; omega, fun b h1 h2 => ?_⟩
    have e6 : ¬ b = b5 := by omega
    have e7 : ¬ b = c := by omega
    have e8 : ¬ b = σ.next := by omega
    simp (maxSteps := 1000000) only [go_sem, e6, e7, e8, hx b h1 h2]
end
end Go.Proofs.Ytdmbgnppbchgcaa.Av

namespace Go.Proofs.Ytdmbgnppbchgcaa.Av
open Go Go.Av
set_option maxRecDepth 20000
set_option maxHeartbeats 4000000

attribute [local go_sem] step_apply stepD_apply stepE_apply
attribute [local go_sem] aopq_mv aopq_pk aopq_al aopq_bx aopq_bd aopq_bs aopq_ld aopq_st aopq_nc aopq_bin aopq_un aopq_cv aopq_mi aopq_mf aopq_mm aopq_ms aopq_sc aopq_fa aopq_fl aopq_ia aopq_lk aopq_mu aopq_lm aopq_rg aopq_rgs aopq_nxs aopq_msl aop_msl aop_rgs aop_nxs aopq_en aopq_ta aopq_ex aopq_ln aopq_ap aopq_mx aopq.eq_3 aop.eq_1 aop.eq_2 aop.eq_3 aop.eq_4 aop.eq_5 aop.eq_6 aop.eq_7 aop.eq_8 aop.eq_9 aop_bin atS_apply aop_un_not aop_un_neg aop.eq_14 aop.eq_15 aop.eq_16 aop.eq_17 aop.eq_18 aop_sc cutS_apply cutN_apply cutL_apply cutO_apply aop.eq_20 aop.eq_21 aop.eq_22 aop.eq_23 aop.eq_24 aop.eq_25 aop.eq_26 aop.eq_27 aop.eq_28 aop.eq_29 aop.eq_30 aop.eq_31 aop.eq_32 blk_push next_push blk_set next_set blk_kill next_kill frL_nil frL_cons Fits_nil Fits_cons Int.reduceBEq Int.reduceBNe Nat.sub_zero Option.map_some Option.map_none List.set_cons_succ true_or or_true false_or or_false Int.le_refl Int.cast_ofNat_Int decide_true decide_false List.cons_append fillA fillR rowsOf List.replicate_succ List.replicate_zero Nat.zero_mul getD_drop List.length_drop splice List.nil_append List.append_nil cond_true cond_false List.set_cons_zero List.length_set ev put_some put_none upd_apply abin asNat bounds row1 mk List.length_cons List.length_nil List.length_map List.drop_zero List.drop_succ_cons List.drop_nil List.getD_cons_zero List.getD_cons_succ Option.getD_none Option.getD_some List.take_succ_cons List.take_zero List.take_nil true_and and_true Int.toNat_natCast if_true if_false Nat.zero_add Nat.add_zero List.map_cons List.map_nil Nat.reduceEqDiff Nat.left_eq_add Nat.add_eq_left Nat.add_left_cancel_iff Nat.add_assoc Nat.reduceSub Nat.reduceAdd Nat.reduceLeDiff Nat.le_refl Nat.zero_le Nat.zero_lt_one Nat.lt_add_one Int.reduceLT Int.reduceLE Int.reduceToNat Nat.reduceLT Nat.reduceBEq Bool.false_eq_true Nat.reduceBNe ne_eq not_false_eq_true not_true_eq_false false_and and_false reduceIte Int.natCast_nonneg reduceCtorEq parts_agg parts_bool parts_int parts_str parts_lit parts_nils parts_sl parts_ptr parts_iface parts_nilp parts_niliface Int.natCast_nonneg Int.natCast_nonneg beq_self_eq_true bne_self_eq_false Bool.true_and Bool.false_and Bool.and_true Bool.and_false Bool.true_or Bool.false_or Bool.or_true Bool.or_false Bool.not_true Bool.not_false
attribute [local go_sem] I ints tenA

/-- parquetryref1.Ints -/
theorem ints_spec (a b : List Int) (σ : St) : T Try.prog 41 [ints a, ints b] σ (.bool (a == b)) σ := by
  refine in41 (by simp) fun wf hab => ?_
  have ha := hab_ints (hab 0 (by simp))
  unfold c41
  first | refine .seq (.rg fun A hA K hK => ?_) | refine .seq (.seq (.rg fun A hA K hK => ?_)) | refine .rg fun A hA K hK => ?_ | refine .seq (.rd fun A hA K hK => ?_) | refine .seq (.seq (.rd fun A hA K hK => ?_)) | refine .rd fun A hA K hK => ?_
  simp (maxSteps := 1000000) only [go_sem, hA.nil, hA.go, hA.yes, hA.noT, hA.noF, hA.skp]
  refine hK _ _ ?_; clear hK K hA A
  first | refine .seq (.rg fun A hA K hK => ?_) | refine .seq (.seq (.rg fun A hA K hK => ?_)) | refine .rg fun A hA K hK => ?_ | refine .seq (.rd fun A hA K hK => ?_) | refine .seq (.seq (.rd fun A hA K hK => ?_)) | refine .rd fun A hA K hK => ?_
  simp (maxSteps := 1000000) only [go_sem, hA.nil, hA.go, hA.yes, hA.noT, hA.noF, hA.skp]
  refine hK _ _ ?_; clear hK K hA A
  refine .cond (t := _) (by simp (maxSteps := 1000000) only [go_sem]; try rfl) (fun ht => ?_) (fun ht => .skip ?_)
  · first | refine .seq (.rg fun A hA K hK => ?_) | refine .seq (.seq (.rg fun A hA K hK => ?_)) | refine .rg fun A hA K hK => ?_ | refine .seq (.rd fun A hA K hK => ?_) | refine .seq (.seq (.rd fun A hA K hK => ?_)) | refine .rd fun A hA K hK => ?_
    simp (maxSteps := 1000000) only [go_sem, hA.nil, hA.go, hA.yes, hA.noT, hA.noF, hA.skp]
    refine hK _ _ ?_; clear hK K hA A
    refine .ret (ret1 (by simp (maxSteps := 1000000) only [go_sem]; simp; rintro rfl; simp at ht) rfl)
  have hl : a.length = b.length := by simp at ht; omega
  first | refine .seq (.rg fun A hA K hK => ?_) | refine .seq (.seq (.rg fun A hA K hK => ?_)) | refine .rg fun A hA K hK => ?_ | refine .seq (.rd fun A hA K hK => ?_) | refine .seq (.seq (.rd fun A hA K hK => ?_)) | refine .rd fun A hA K hK => ?_
  simp (maxSteps := 1000000) only [go_sem, hA.nil, hA.go, hA.yes, hA.noT, hA.noF, hA.skp]
  refine hK _ _ ?_; clear hK K hA A
  refine .count (N := a.length) (fun i F σ' => F 0 = ints a ∧ F 1 = ints b ∧ F 5 = I i ∧ σ' = σ ∧ ∀ j, j < i → a.getD j 0 = b.getD j 0) ha ?_ ?_ ?_ ?_
  · refine ⟨by simp (maxSteps := 1000000) only [go_sem], by simp (maxSteps := 1000000) only [go_sem], by simp (maxSteps := 1000000) only [go_sem]; try rfl, rfl, by simp⟩
  · rintro i F σ' hi ⟨hF0, hF1, hF5, rfl, hj⟩
    first | refine .seq (.rg fun A hA K hK => ?_) | refine .seq (.seq (.rg fun A hA K hK => ?_)) | refine .rg fun A hA K hK => ?_ | refine .seq (.rd fun A hA K hK => ?_) | refine .seq (.seq (.rd fun A hA K hK => ?_)) | refine .rd fun A hA K hK => ?_
    simp (maxSteps := 1000000) only [go_sem, hA.nil, hA.go, hA.yes, hA.noT, hA.noF, hA.skp, hF0, hF1, hF5]
    refine hK _ _ ?_; clear hK K hA A
    exact ⟨rfl, by simp (maxSteps := 1000000) only [go_sem, Int.ofNat_lt], by simp (maxSteps := 1000000) only [go_sem, hF0], by simp (maxSteps := 1000000) only [go_sem, hF1], by simp (maxSteps := 1000000) only [go_sem, hF5], rfl, hj⟩
  · rintro i F σ' hlt ⟨hF0, hF1, hF5, rfl, hj⟩ -
    have hlt' : i < b.length := by omega
    have e1 : (i : Int) < a.length := by omega
    have e2 : (i : Int) < b.length := by omega
    first | refine .seq (.rg fun A hA K hK => ?_) | refine .seq (.seq (.rg fun A hA K hK => ?_)) | refine .rg fun A hA K hK => ?_ | refine .seq (.rd fun A hA K hK => ?_) | refine .seq (.seq (.rd fun A hA K hK => ?_)) | refine .rd fun A hA K hK => ?_
    simp (maxSteps := 1000000) only [go_sem, hA.nil, hA.go, hA.yes, hA.noT, hA.noF, hA.skp, hF0, hF1, hF5, ints_get hlt, ints_get hlt', e1, e2]
    refine hK _ _ ?_; clear hK K hA A
    refine .cond (t := _) (by simp (maxSteps := 1000000) only [go_sem]; try rfl)  (fun ht => ?_) (fun ht => .skip ?_)
    · have hne : (a == b) = false := by
        simp only [beq_eq_false_iff_ne]; rintro rfl; simp at ht
      first | refine .seq (.rg fun A hA K hK => ?_) | refine .seq (.seq (.rg fun A hA K hK => ?_)) | refine .rg fun A hA K hK => ?_ | refine .seq (.rd fun A hA K hK => ?_) | refine .seq (.seq (.rd fun A hA K hK => ?_)) | refine .rd fun A hA K hK => ?_
      simp (maxSteps := 1000000) only [go_sem, hA.nil, hA.go, hA.yes, hA.noT, hA.noF, hA.skp]
      refine hK _ _ ?_; clear hK K hA A
      refine .ret (ret1 (by simp (maxSteps := 1000000) only [go_sem, hne]) rfl)
    · refine ⟨by simp (maxSteps := 1000000) only [go_sem, hF5], by simp (maxSteps := 1000000) only [go_sem, hF0], by simp (maxSteps := 1000000) only [go_sem, hF1], by simp (maxSteps := 1000000) only [go_sem, hF5], rfl, fun j h => ?_⟩
      rcases Nat.lt_succ_iff_lt_or_eq.1 h with h | rfl
      · exact hj j h
      · simp at ht; simp [List.getD_eq_getElem?_getD, hlt, hlt', ht]
  · rintro F σ' ⟨hF0, hF1, hF5, rfl, hj⟩ -
    have he : (a == b) = true := by
      simp only [beq_iff_eq]
      refine List.ext_getElem hl fun j h1 h2 => ?_
      have := hj j h1
      simpa [List.getD_eq_getElem?_getD, h1, h2] using this
    first | refine .seq (.rg fun A hA K hK => ?_) | refine .seq (.seq (.rg fun A hA K hK => ?_)) | refine .rg fun A hA K hK => ?_ | refine .seq (.rd fun A hA K hK => ?_) | refine .seq (.seq (.rd fun A hA K hK => ?_)) | refine .rd fun A hA K hK => ?_
    simp (maxSteps := 1000000) only [go_sem, hA.nil, hA.go, hA.yes, hA.noT, hA.noF, hA.skp]
    refine hK _ _ ?_; clear hK K hA A
    refine .ret (ret1 (by simp (maxSteps := 1000000) only [go_sem, he]) rfl)

/-- parquetrybook.Same of int -/
theorem same14_spec (a b : List Int) (σ : St) : T Try.prog 14 [ints a, ints b] σ (.bool (a == b)) σ := by
  refine in14 (by simp) fun wf hab => ?_
  have ha := hab_ints (hab 0 (by simp))
  unfold c14
  first | refine .seq (.rg fun A hA K hK => ?_) | refine .seq (.seq (.rg fun A hA K hK => ?_)) | refine .rg fun A hA K hK => ?_ | refine .seq (.rd fun A hA K hK => ?_) | refine .seq (.seq (.rd fun A hA K hK => ?_)) | refine .rd fun A hA K hK => ?_
  simp (maxSteps := 1000000) only [go_sem, hA.nil, hA.go, hA.yes, hA.noT, hA.noF, hA.skp]
  refine hK _ _ ?_; clear hK K hA A
  first | refine .seq (.rg fun A hA K hK => ?_) | refine .seq (.seq (.rg fun A hA K hK => ?_)) | refine .rg fun A hA K hK => ?_ | refine .seq (.rd fun A hA K hK => ?_) | refine .seq (.seq (.rd fun A hA K hK => ?_)) | refine .rd fun A hA K hK => ?_
  simp (maxSteps := 1000000) only [go_sem, hA.nil, hA.go, hA.yes, hA.noT, hA.noF, hA.skp]
  refine hK _ _ ?_; clear hK K hA A
  refine .cond (t := _) (by simp (maxSteps := 1000000) only [go_sem]; try rfl) (fun ht => ?_) (fun ht => .skip ?_)
  · first | refine .seq (.rg fun A hA K hK => ?_) | refine .seq (.seq (.rg fun A hA K hK => ?_)) | refine .rg fun A hA K hK => ?_ | refine .seq (.rd fun A hA K hK => ?_) | refine .seq (.seq (.rd fun A hA K hK => ?_)) | refine .rd fun A hA K hK => ?_
    simp (maxSteps := 1000000) only [go_sem, hA.nil, hA.go, hA.yes, hA.noT, hA.noF, hA.skp]
    refine hK _ _ ?_; clear hK K hA A
    refine .ret (ret1 (by simp (maxSteps := 1000000) only [go_sem]; simp; rintro rfl; simp at ht) rfl)
  have hl : a.length = b.length := by simp at ht; omega
  first | refine .seq (.rg fun A hA K hK => ?_) | refine .seq (.seq (.rg fun A hA K hK => ?_)) | refine .rg fun A hA K hK => ?_ | refine .seq (.rd fun A hA K hK => ?_) | refine .seq (.seq (.rd fun A hA K hK => ?_)) | refine .rd fun A hA K hK => ?_
  simp (maxSteps := 1000000) only [go_sem, hA.nil, hA.go, hA.yes, hA.noT, hA.noF, hA.skp]
  refine hK _ _ ?_; clear hK K hA A
  refine .count (N := a.length) (fun i F σ' => F 0 = ints a ∧ F 1 = ints b ∧ F 5 = I i ∧ σ' = σ ∧ ∀ j, j < i → a.getD j 0 = b.getD j 0) ha ?_ ?_ ?_ ?_
  · refine ⟨by simp (maxSteps := 1000000) only [go_sem], by simp (maxSteps := 1000000) only [go_sem], by simp (maxSteps := 1000000) only [go_sem]; try rfl, rfl, by simp⟩
  · rintro i F σ' hi ⟨hF0, hF1, hF5, rfl, hj⟩
    first | refine .seq (.rg fun A hA K hK => ?_) | refine .seq (.seq (.rg fun A hA K hK => ?_)) | refine .rg fun A hA K hK => ?_ | refine .seq (.rd fun A hA K hK => ?_) | refine .seq (.seq (.rd fun A hA K hK => ?_)) | refine .rd fun A hA K hK => ?_
    simp (maxSteps := 1000000) only [go_sem, hA.nil, hA.go, hA.yes, hA.noT, hA.noF, hA.skp, hF0, hF1, hF5]
    refine hK _ _ ?_; clear hK K hA A
    exact ⟨rfl, by simp (maxSteps := 1000000) only [go_sem, Int.ofNat_lt], by simp (maxSteps := 1000000) only [go_sem, hF0], by simp (maxSteps := 1000000) only [go_sem, hF1], by simp (maxSteps := 1000000) only [go_sem, hF5], rfl, hj⟩
  · rintro i F σ' hlt ⟨hF0, hF1, hF5, rfl, hj⟩ -
    have hlt' : i < b.length := by omega
    have e1 : (i : Int) < a.length := by omega
    have e2 : (i : Int) < b.length := by omega
    first | refine .seq (.rg fun A hA K hK => ?_) | refine .seq (.seq (.rg fun A hA K hK => ?_)) | refine .rg fun A hA K hK => ?_ | refine .seq (.rd fun A hA K hK => ?_) | refine .seq (.seq (.rd fun A hA K hK => ?_)) | refine .rd fun A hA K hK => ?_
    simp (maxSteps := 1000000) only [go_sem, hA.nil, hA.go, hA.yes, hA.noT, hA.noF, hA.skp, hF0, hF1, hF5, ints_get hlt, ints_get hlt', e1, e2]
    refine hK _ _ ?_; clear hK K hA A
    refine .cond (t := _) (by simp (maxSteps := 1000000) only [go_sem]; try rfl)  (fun ht => ?_) (fun ht => .skip ?_)
    · have hne : (a == b) = false := by
        simp only [beq_eq_false_iff_ne]; rintro rfl; simp at ht
      first | refine .seq (.rg fun A hA K hK => ?_) | refine .seq (.seq (.rg fun A hA K hK => ?_)) | refine .rg fun A hA K hK => ?_ | refine .seq (.rd fun A hA K hK => ?_) | refine .seq (.seq (.rd fun A hA K hK => ?_)) | refine .rd fun A hA K hK => ?_
      simp (maxSteps := 1000000) only [go_sem, hA.nil, hA.go, hA.yes, hA.noT, hA.noF, hA.skp]
      refine hK _ _ ?_; clear hK K hA A
      refine .ret (ret1 (by simp (maxSteps := 1000000) only [go_sem, hne]) rfl)
    · refine ⟨by simp (maxSteps := 1000000) only [go_sem, hF5], by simp (maxSteps := 1000000) only [go_sem, hF0], by simp (maxSteps := 1000000) only [go_sem, hF1], by simp (maxSteps := 1000000) only [go_sem, hF5], rfl, fun j h => ?_⟩
      rcases Nat.lt_succ_iff_lt_or_eq.1 h with h | rfl
      · exact hj j h
      · simp at ht; simp [List.getD_eq_getElem?_getD, hlt, hlt', ht]
  · rintro F σ' ⟨hF0, hF1, hF5, rfl, hj⟩ -
    have he : (a == b) = true := by
      simp only [beq_iff_eq]
      refine List.ext_getElem hl fun j h1 h2 => ?_
      have := hj j h1
      simpa [List.getD_eq_getElem?_getD, h1, h2] using this
    first | refine .seq (.rg fun A hA K hK => ?_) | refine .seq (.seq (.rg fun A hA K hK => ?_)) | refine .rg fun A hA K hK => ?_ | refine .seq (.rd fun A hA K hK => ?_) | refine .seq (.seq (.rd fun A hA K hK => ?_)) | refine .rd fun A hA K hK => ?_
    simp (maxSteps := 1000000) only [go_sem, hA.nil, hA.go, hA.yes, hA.noT, hA.noF, hA.skp]
    refine hK _ _ ?_; clear hK K hA A
    refine .ret (ret1 (by simp (maxSteps := 1000000) only [go_sem, he]) rfl)

/-- parquetrybook.Same of int64 -/
theorem same10_spec (a b : List Int) (σ : St) : T Try.prog 10 [ints a, ints b] σ (.bool (a == b)) σ := by
  refine in10 (by simp) fun wf hab => ?_
  have ha := hab_ints (hab 0 (by simp))
  unfold c10
  first | refine .seq (.rg fun A hA K hK => ?_) | refine .seq (.seq (.rg fun A hA K hK => ?_)) | refine .rg fun A hA K hK => ?_ | refine .seq (.rd fun A hA K hK => ?_) | refine .seq (.seq (.rd fun A hA K hK => ?_)) | refine .rd fun A hA K hK => ?_
  simp (maxSteps := 1000000) only [go_sem, hA.nil, hA.go, hA.yes, hA.noT, hA.noF, hA.skp]
  refine hK _ _ ?_; clear hK K hA A
  first | refine .seq (.rg fun A hA K hK => ?_) | refine .seq (.seq (.rg fun A hA K hK => ?_)) | refine .rg fun A hA K hK => ?_ | refine .seq (.rd fun A hA K hK => ?_) | refine .seq (.seq (.rd fun A hA K hK => ?_)) | refine .rd fun A hA K hK => ?_
  simp (maxSteps := 1000000) only [go_sem, hA.nil, hA.go, hA.yes, hA.noT, hA.noF, hA.skp]
  refine hK _ _ ?_; clear hK K hA A
  refine .cond (t := _) (by simp (maxSteps := 1000000) only [go_sem]; try rfl) (fun ht => ?_) (fun ht => .skip ?_)
  · first | refine .seq (.rg fun A hA K hK => ?_) | refine .seq (.seq (.rg fun A hA K hK => ?_)) | refine .rg fun A hA K hK => ?_ | refine .seq (.rd fun A hA K hK => ?_) | refine .seq (.seq (.rd fun A hA K hK => ?_)) | refine .rd fun A hA K hK => ?_
    simp (maxSteps := 1000000) only [go_sem, hA.nil, hA.go, hA.yes, hA.noT, hA.noF, hA.skp]
    refine hK _ _ ?_; clear hK K hA A
    refine .ret (ret1 (by simp (maxSteps := 1000000) only [go_sem]; simp; rintro rfl; simp at ht) rfl)
  have hl : a.length = b.length := by simp at ht; omega
  first | refine .seq (.rg fun A hA K hK => ?_) | refine .seq (.seq (.rg fun A hA K hK => ?_)) | refine .rg fun A hA K hK => ?_ | refine .seq (.rd fun A hA K hK => ?_) | refine .seq (.seq (.rd fun A hA K hK => ?_)) | refine .rd fun A hA K hK => ?_
  simp (maxSteps := 1000000) only [go_sem, hA.nil, hA.go, hA.yes, hA.noT, hA.noF, hA.skp]
  refine hK _ _ ?_; clear hK K hA A
  refine .count (N := a.length) (fun i F σ' => F 0 = ints a ∧ F 1 = ints b ∧ F 5 = I i ∧ σ' = σ ∧ ∀ j, j < i → a.getD j 0 = b.getD j 0) ha ?_ ?_ ?_ ?_
  · refine ⟨by simp (maxSteps := 1000000) only [go_sem], by simp (maxSteps := 1000000) only [go_sem], by simp (maxSteps := 1000000) only [go_sem]; try rfl, rfl, by simp⟩
  · rintro i F σ' hi ⟨hF0, hF1, hF5, rfl, hj⟩
    first | refine .seq (.rg fun A hA K hK => ?_) | refine .seq (.seq (.rg fun A hA K hK => ?_)) | refine .rg fun A hA K hK => ?_ | refine .seq (.rd fun A hA K hK => ?_) | refine .seq (.seq (.rd fun A hA K hK => ?_)) | refine .rd fun A hA K hK => ?_
    simp (maxSteps := 1000000) only [go_sem, hA.nil, hA.go, hA.yes, hA.noT, hA.noF, hA.skp, hF0, hF1, hF5]
    refine hK _ _ ?_; clear hK K hA A
    exact ⟨rfl, by simp (maxSteps := 1000000) only [go_sem, Int.ofNat_lt], by simp (maxSteps := 1000000) only [go_sem, hF0], by simp (maxSteps := 1000000) only [go_sem, hF1], by simp (maxSteps := 1000000) only [go_sem, hF5], rfl, hj⟩
  · rintro i F σ' hlt ⟨hF0, hF1, hF5, rfl, hj⟩ -
    have hlt' : i < b.length := by omega
    have e1 : (i : Int) < a.length := by omega
    have e2 : (i : Int) < b.length := by omega
    first | refine .seq (.rg fun A hA K hK => ?_) | refine .seq (.seq (.rg fun A hA K hK => ?_)) | refine .rg fun A hA K hK => ?_ | refine .seq (.rd fun A hA K hK => ?_) | refine .seq (.seq (.rd fun A hA K hK => ?_)) | refine .rd fun A hA K hK => ?_
    simp (maxSteps := 1000000) only [go_sem, hA.nil, hA.go, hA.yes, hA.noT, hA.noF, hA.skp, hF0, hF1, hF5, ints_get hlt, ints_get hlt', e1, e2]
    refine hK _ _ ?_; clear hK K hA A
    refine .cond (t := _) (by simp (maxSteps := 1000000) only [go_sem]; try rfl)  (fun ht => ?_) (fun ht => .skip ?_)
    · have hne : (a == b) = false := by
        simp only [beq_eq_false_iff_ne]; rintro rfl; simp at ht
      first | refine .seq (.rg fun A hA K hK => ?_) | refine .seq (.seq (.rg fun A hA K hK => ?_)) | refine .rg fun A hA K hK => ?_ | refine .seq (.rd fun A hA K hK => ?_) | refine .seq (.seq (.rd fun A hA K hK => ?_)) | refine .rd fun A hA K hK => ?_
      simp (maxSteps := 1000000) only [go_sem, hA.nil, hA.go, hA.yes, hA.noT, hA.noF, hA.skp]
      refine hK _ _ ?_; clear hK K hA A
      refine .ret (ret1 (by simp (maxSteps := 1000000) only [go_sem, hne]) rfl)
    · refine ⟨by simp (maxSteps := 1000000) only [go_sem, hF5], by simp (maxSteps := 1000000) only [go_sem, hF0], by simp (maxSteps := 1000000) only [go_sem, hF1], by simp (maxSteps := 1000000) only [go_sem, hF5], rfl, fun j h => ?_⟩
      rcases Nat.lt_succ_iff_lt_or_eq.1 h with h | rfl
      · exact hj j h
      · simp at ht; simp [List.getD_eq_getElem?_getD, hlt, hlt', ht]
  · rintro F σ' ⟨hF0, hF1, hF5, rfl, hj⟩ -
    have he : (a == b) = true := by
      simp only [beq_iff_eq]
      refine List.ext_getElem hl fun j h1 h2 => ?_
      have := hj j h1
      simpa [List.getD_eq_getElem?_getD, h1, h2] using this
    first | refine .seq (.rg fun A hA K hK => ?_) | refine .seq (.seq (.rg fun A hA K hK => ?_)) | refine .rg fun A hA K hK => ?_ | refine .seq (.rd fun A hA K hK => ?_) | refine .seq (.seq (.rd fun A hA K hK => ?_)) | refine .rd fun A hA K hK => ?_
    simp (maxSteps := 1000000) only [go_sem, hA.nil, hA.go, hA.yes, hA.noT, hA.noF, hA.skp]
    refine hK _ _ ?_; clear hK K hA A
    refine .ret (ret1 (by simp (maxSteps := 1000000) only [go_sem, he]) rfl)


/-- parquetryref1.Same: a tensor is the same as it is -/
theorem sameT_spec (s d : List Int) (σ : St) : T Try.prog 40 [tenA s d, tenA s d] σ (.bool true) σ := by
  refine in40 (by simp) fun wf hab => ?_
  have hd : d.length ≤ most := hab_ints ((hab 0 (by simp)).agg 1 (by simp))
  clear hab
  unfold c40
  refine .midK (fun L u => L = [(2, .ptr σ.next 0 0), (3, .ptr (σ.next + 1) 0 0)] ∧ u.blk σ.next = some (.cells 2 [[ints s, ints d]]) ∧ u.blk (σ.next + 1) = some (.cells 2 [[ints s, ints d]]) ∧ Ext σ u) ?_ ?_
  · first | refine .seq (.rg fun A hA K hK => ?_) | refine .seq (.seq (.rg fun A hA K hK => ?_)) | refine .rg fun A hA K hK => ?_ | refine .seq (.rd fun A hA K hK => ?_) | refine .seq (.seq (.rd fun A hA K hK => ?_)) | refine .rd fun A hA K hK => ?_
    simp (maxSteps := 1000000) only [go_sem, hA.nil, hA.go, hA.yes, hA.noT, hA.noF, hA.skp, tenA]
    refine hK _ _ ?_; clear hK K hA A
    exact ⟨_, ⟨rfl, by simp (maxSteps := 1000000) only [go_sem], by simp (maxSteps := 1000000) only [go_sem], ⟨by simp (maxSteps := 1000000) only [go_sem]; try omega, fun b hb => by simp (disch := omega) only [go_sem, if_neg]⟩⟩, by simp (maxSteps := 1000000) only [go_sem]⟩
  rintro L u ⟨rfl, h2, h3, hx⟩
  first | refine .seq (.rg fun A hA K hK => ?_) | refine .seq (.seq (.rg fun A hA K hK => ?_)) | refine .rg fun A hA K hK => ?_ | refine .seq (.rd fun A hA K hK => ?_) | refine .seq (.seq (.rd fun A hA K hK => ?_)) | refine .rd fun A hA K hK => ?_
  simp (maxSteps := 1000000) only [go_sem, hA.nil, hA.go, hA.yes, hA.noT, hA.noF, hA.skp, h2, h3]
  first | refine aopq_call (ints_spec s s u) (by simp (maxSteps := 1000000) only [go_sem, h2, h3]) ?_ | refine aop_call (ints_spec s s u) (by simp (maxSteps := 1000000) only [go_sem, h2, h3]) ?_
  try simp (maxSteps := 1000000) only [go_sem, hA.nil, hA.go, hA.yes, hA.noT, hA.noF, hA.skp, h2, h3]
  refine hK _ _ ?_; clear hK K hA A
  refine .cond (t := false) (by simp (maxSteps := 1000000) only [go_sem]) (fun h => by cases h) (fun _ => .skip ?_)
  first | refine .seq (.rg fun A hA K hK => ?_) | refine .seq (.seq (.rg fun A hA K hK => ?_)) | refine .rg fun A hA K hK => ?_ | refine .seq (.rd fun A hA K hK => ?_) | refine .seq (.seq (.rd fun A hA K hK => ?_)) | refine .rd fun A hA K hK => ?_
  simp (maxSteps := 1000000) only [go_sem, hA.nil, hA.go, hA.yes, hA.noT, hA.noF, hA.skp]
  refine hK _ _ ?_; clear hK K hA A
  refine .countK (N := d.length) (fun i L t => L = [(2, .ptr σ.next 0 0), (3, .ptr (σ.next + 1) 0 0), (5, I i)] ∧ t = u) hd ⟨_, ⟨rfl, rfl⟩, by simp (maxSteps := 1000000) only [go_sem]; try rfl⟩ ?_ ?_ ?_
  · rintro i L t hi ⟨rfl, rfl⟩
    first | refine .seq (.rg fun A hA K hK => ?_) | refine .seq (.seq (.rg fun A hA K hK => ?_)) | refine .rg fun A hA K hK => ?_ | refine .seq (.rd fun A hA K hK => ?_) | refine .seq (.seq (.rd fun A hA K hK => ?_)) | refine .rd fun A hA K hK => ?_
    simp (maxSteps := 1000000) only [go_sem, hA.nil, hA.go, hA.yes, hA.noT, hA.noF, hA.skp, h2]
    refine hK _ _ ?_; clear hK K hA A
    exact ⟨rfl, by simp (maxSteps := 1000000) only [go_sem, Int.ofNat_lt], _, ⟨rfl, rfl⟩, by simp (maxSteps := 1000000) only [go_sem]⟩
  · rintro i L t hi ⟨rfl, rfl⟩
    have e1 : (i : Int) < d.length := by omega
    have hg := ints_get hi
    first | refine .seq (.rg fun A hA K hK => ?_) | refine .seq (.seq (.rg fun A hA K hK => ?_)) | refine .rg fun A hA K hK => ?_ | refine .seq (.rd fun A hA K hK => ?_) | refine .seq (.seq (.rd fun A hA K hK => ?_)) | refine .rd fun A hA K hK => ?_
    simp (maxSteps := 1000000) only [go_sem, hA.nil, hA.go, hA.yes, hA.noT, hA.noF, hA.skp, h2, h3, e1, hg, hi]
    refine hK _ _ ?_; clear hK K hA A
    refine .cond (t := false) (by simp (maxSteps := 1000000) only [go_sem]) (fun h => by cases h) (fun _ => .skip ?_)
    exact ⟨by simp (maxSteps := 1000000) only [go_sem], _, ⟨rfl, rfl⟩, by simp (maxSteps := 1000000) only [go_sem]⟩
  · rintro L t F ⟨rfl, rfl⟩ hf
    first | refine .seq (.rg fun A hA K hK => ?_) | refine .seq (.seq (.rg fun A hA K hK => ?_)) | refine .rg fun A hA K hK => ?_ | refine .seq (.rd fun A hA K hK => ?_) | refine .seq (.seq (.rd fun A hA K hK => ?_)) | refine .rd fun A hA K hK => ?_
    simp (maxSteps := 1000000) only [go_sem, hA.nil, hA.go, hA.yes, hA.noT, hA.noF, hA.skp]
    refine hK _ _ ?_; clear hK K hA A
    exact .ret (retB (by simp (maxSteps := 1000000) only [go_sem]; try rfl) wf hx.2 (.bool _) ⟨rfl, rfl⟩)

def rightT (s d : List Int) : Bool := rightS s && ((d.length : Int) == sizeE s)
/-- parquetryref1.Tensor -/
theorem refTensor_spec (s d : List Int) (σ : St) : T Try.prog 26 [tenA s d] σ (.bool (rightT s d)) σ := by
  refine in26 (by simp) fun wf hab => ?_
  clear hab
  unfold c26
  refine .midK (fun L u => L = [(1, .ptr σ.next 0 0)] ∧ u.blk σ.next = some (.cells 2 [[ints s, ints d]]) ∧ Ext σ u) ?_ ?_
  · first | refine .seq (.rg fun A hA K hK => ?_) | refine .seq (.seq (.rg fun A hA K hK => ?_)) | refine .rg fun A hA K hK => ?_ | refine .seq (.rd fun A hA K hK => ?_) | refine .seq (.seq (.rd fun A hA K hK => ?_)) | refine .rd fun A hA K hK => ?_
    simp (maxSteps := 1000000) only [go_sem, hA.nil, hA.go, hA.yes, hA.noT, hA.noF, hA.skp, tenA]
    refine hK _ _ ?_; clear hK K hA A
    exact ⟨_, ⟨rfl, by simp (maxSteps := 1000000) only [go_sem], ⟨by simp (maxSteps := 1000000) only [go_sem]; try omega, fun b hb => by simp (disch := omega) only [go_sem, if_neg]⟩⟩, by simp (maxSteps := 1000000) only [go_sem]⟩
  rintro L u ⟨rfl, h1, hx⟩
  by_cases hr : rightS s = true
  · first | refine .seq (.rg fun A hA K hK => ?_) | refine .seq (.seq (.rg fun A hA K hK => ?_)) | refine .rg fun A hA K hK => ?_ | refine .seq (.rd fun A hA K hK => ?_) | refine .seq (.seq (.rd fun A hA K hK => ?_)) | refine .rd fun A hA K hK => ?_
    simp (maxSteps := 1000000) only [go_sem, hA.nil, hA.go, hA.yes, hA.noT, hA.noF, hA.skp, h1]
    first | refine aopq_call (right1_spec s u) (by simp (maxSteps := 1000000) only [go_sem, h1, hr]) ?_ | refine aop_call (right1_spec s u) (by simp (maxSteps := 1000000) only [go_sem, h1, hr]) ?_
    try simp (maxSteps := 1000000) only [go_sem, hA.nil, hA.go, hA.yes, hA.noT, hA.noF, hA.skp, h1, hr]
    first | refine aopq_call (size_spec s u) (by simp (maxSteps := 1000000) only [go_sem, h1, hr]) ?_ | refine aop_call (size_spec s u) (by simp (maxSteps := 1000000) only [go_sem, h1, hr]) ?_
    try simp (maxSteps := 1000000) only [go_sem, hA.nil, hA.go, hA.yes, hA.noT, hA.noF, hA.skp, h1, hr]
    refine hK _ _ ?_; clear hK K hA A
    exact .ret (retB (by simp (maxSteps := 1000000) only [go_sem, rightT, hr]) wf hx.2 (.bool _) ⟨rfl, rfl⟩)
  · have hr : rightS s = false := by simpa using hr
    first | refine .seq (.rg fun A hA K hK => ?_) | refine .seq (.seq (.rg fun A hA K hK => ?_)) | refine .rg fun A hA K hK => ?_ | refine .seq (.rd fun A hA K hK => ?_) | refine .seq (.seq (.rd fun A hA K hK => ?_)) | refine .rd fun A hA K hK => ?_
    simp (maxSteps := 1000000) only [go_sem, hA.nil, hA.go, hA.yes, hA.noT, hA.noF, hA.skp, h1]
    first | refine aopq_call (right1_spec s u) (by simp (maxSteps := 1000000) only [go_sem, h1, hr]) ?_ | refine aop_call (right1_spec s u) (by simp (maxSteps := 1000000) only [go_sem, h1, hr]) ?_
    try simp (maxSteps := 1000000) only [go_sem, hA.nil, hA.go, hA.yes, hA.noT, hA.noF, hA.skp, h1, hr]
    refine hK _ _ ?_; clear hK K hA A
    exact .ret (retB (by simp (maxSteps := 1000000) only [go_sem, rightT, hr]) wf hx.2 (.bool _) ⟨rfl, rfl⟩)
end Go.Proofs.Ytdmbgnppbchgcaa.Av

namespace Go.Proofs.Ytdmbgnppbchgcaa.Av
open Go Go.Av
set_option maxRecDepth 20000
set_option maxHeartbeats 4000000

attribute [local go_sem] step_apply stepD_apply stepE_apply
attribute [local go_sem] aopq_mv aopq_pk aopq_al aopq_bx aopq_bd aopq_bs aopq_ld aopq_st aopq_nc aopq_bin aopq_un aopq_cv aopq_mi aopq_mf aopq_mm aopq_ms aopq_sc aopq_fa aopq_fl aopq_ia aopq_lk aopq_mu aopq_lm aopq_rg aopq_rgs aopq_nxs aopq_msl aop_msl aop_rgs aop_nxs aopq_en aopq_ta aopq_ex aopq_ln aopq_ap aopq_mx aopq.eq_3 aop.eq_1 aop.eq_2 aop.eq_3 aop.eq_4 aop.eq_5 aop.eq_6 aop.eq_7 aop.eq_8 aop.eq_9 aop_bin atS_apply aop_un_not aop_un_neg aop.eq_14 aop.eq_15 aop.eq_16 aop.eq_17 aop.eq_18 aop_sc cutS_apply cutN_apply cutL_apply cutO_apply aop.eq_20 aop.eq_21 aop.eq_22 aop.eq_23 aop.eq_24 aop.eq_25 aop.eq_26 aop.eq_27 aop.eq_28 aop.eq_29 aop.eq_30 aop.eq_31 aop.eq_32 blk_push next_push blk_set next_set blk_kill next_kill frL_nil frL_cons Fits_nil Fits_cons Int.reduceBEq Int.reduceBNe Nat.sub_zero Option.map_some Option.map_none List.set_cons_succ true_or or_true false_or or_false Int.le_refl Int.cast_ofNat_Int decide_true decide_false List.cons_append fillA fillR rowsOf List.replicate_succ List.replicate_zero Nat.zero_mul getD_drop List.length_drop splice List.nil_append List.append_nil cond_true cond_false List.set_cons_zero List.length_set ev put_some put_none upd_apply abin asNat bounds row1 mk List.length_cons List.length_nil List.length_map List.drop_zero List.drop_succ_cons List.drop_nil List.getD_cons_zero List.getD_cons_succ Option.getD_none Option.getD_some List.take_succ_cons List.take_zero List.take_nil true_and and_true Int.toNat_natCast if_true if_false Nat.zero_add Nat.add_zero List.map_cons List.map_nil Nat.reduceEqDiff Nat.left_eq_add Nat.add_eq_left Nat.add_left_cancel_iff Nat.add_assoc Nat.reduceSub Nat.reduceAdd Nat.reduceLeDiff Nat.le_refl Nat.zero_le Nat.zero_lt_one Nat.lt_add_one Int.reduceLT Int.reduceLE Int.reduceToNat Nat.reduceLT Nat.reduceBEq Bool.false_eq_true Nat.reduceBNe ne_eq not_false_eq_true not_true_eq_false false_and and_false reduceIte Int.natCast_nonneg reduceCtorEq parts_agg parts_bool parts_int parts_str parts_lit parts_nils parts_sl parts_ptr parts_iface parts_nilp parts_niliface Int.natCast_nonneg Int.natCast_nonneg beq_self_eq_true bne_self_eq_false Bool.true_and Bool.false_and Bool.and_true Bool.and_false Bool.true_or Bool.false_or Bool.or_true Bool.or_false Bool.not_true Bool.not_false
attribute [local go_sem] I ints tenA

/-- shape.Right -/
theorem shapeRight_spec (s : List Int) (σ : St) : T Try.prog 33 [ints s] σ (.bool (rightS s)) σ := by
  refine in33 (by simp) fun wf hab => ?_
  have hl := hab_ints (hab 0 (by simp))
  clear hab
  unfold c33
  have bad : ∀ i, i < s.length → okDim s i = false → rightS s = false := by
    intro i hi h
    simp only [rightS, Bool.and_eq_false_iff]
    refine .inl (Bool.eq_false_iff.2 fun hall => ?_)
    rw [List.all_eq_true] at hall
    have := hall i (by simpa using hi)
    rw [this] at h; cases h
  first | refine .seq (.rg fun A hA K hK => ?_) | refine .seq (.seq (.rg fun A hA K hK => ?_)) | refine .rg fun A hA K hK => ?_ | refine .seq (.rd fun A hA K hK => ?_) | refine .seq (.seq (.rd fun A hA K hK => ?_)) | refine .rd fun A hA K hK => ?_
  simp (maxSteps := 1000000) only [go_sem, hA.nil, hA.go, hA.yes, hA.noT, hA.noF, hA.skp]
  refine hK _ _ ?_; clear hK K hA A
  by_cases h4 : (s.length : Int) > 4
  · have hb := bad 4 (by omega) (by simp [okDim])
    first | refine .seq (.rg fun A hA K hK => ?_) | refine .seq (.seq (.rg fun A hA K hK => ?_)) | refine .rg fun A hA K hK => ?_ | refine .seq (.rd fun A hA K hK => ?_) | refine .seq (.seq (.rd fun A hA K hK => ?_)) | refine .rd fun A hA K hK => ?_
    simp (maxSteps := 1000000) only [go_sem, hA.nil, hA.go, hA.yes, hA.noT, hA.noF, hA.skp, h4]
    refine hK _ _ ?_; clear hK K hA A
    refine .cond (t := true) (by simp (maxSteps := 1000000) only [go_sem, h4]) (fun _ => ?_) (fun h => by cases h)
    first | refine .seq (.rg fun A hA K hK => ?_) | refine .seq (.seq (.rg fun A hA K hK => ?_)) | refine .rg fun A hA K hK => ?_ | refine .seq (.rd fun A hA K hK => ?_) | refine .seq (.seq (.rd fun A hA K hK => ?_)) | refine .rd fun A hA K hK => ?_
    simp (maxSteps := 1000000) only [go_sem, hA.nil, hA.go, hA.yes, hA.noT, hA.noF, hA.skp]
    refine hK _ _ ?_; clear hK K hA A
    exact .ret (ret1 (by simp (maxSteps := 1000000) only [go_sem, hb]) rfl)
  first | refine .seq (.rg fun A hA K hK => ?_) | refine .seq (.seq (.rg fun A hA K hK => ?_)) | refine .rg fun A hA K hK => ?_ | refine .seq (.rd fun A hA K hK => ?_) | refine .seq (.seq (.rd fun A hA K hK => ?_)) | refine .rd fun A hA K hK => ?_
  simp (maxSteps := 1000000) only [go_sem, hA.nil, hA.go, hA.yes, hA.noT, hA.noF, hA.skp, h4]
  refine hK _ _ ?_; clear hK K hA A
  refine .cond (t := false) (by simp (maxSteps := 1000000) only [go_sem, h4]) (fun h => by cases h) (fun _ => .skip ?_)
  first | refine .seq (.rg fun A hA K hK => ?_) | refine .seq (.seq (.rg fun A hA K hK => ?_)) | refine .rg fun A hA K hK => ?_ | refine .seq (.rd fun A hA K hK => ?_) | refine .seq (.seq (.rd fun A hA K hK => ?_)) | refine .rd fun A hA K hK => ?_
  simp (maxSteps := 1000000) only [go_sem, hA.nil, hA.go, hA.yes, hA.noT, hA.noF, hA.skp]
  refine hK _ _ ?_; clear hK K hA A
  first | refine .seq (.rg fun A hA K hK => ?_) | refine .seq (.seq (.rg fun A hA K hK => ?_)) | refine .rg fun A hA K hK => ?_ | refine .seq (.rd fun A hA K hK => ?_) | refine .seq (.seq (.rd fun A hA K hK => ?_)) | refine .rd fun A hA K hK => ?_
  simp (maxSteps := 1000000) only [go_sem, hA.nil, hA.go, hA.yes, hA.noT, hA.noF, hA.skp]
  refine hK _ _ ?_; clear hK K hA A
  refine .rangeK (N := s.length) (fun i L t => L = [(3, I (prodI (s.take i))), (9, ints s), (10, I s.length), (11, I i)] ∧ σ = t ∧ (List.range i).all (okDim s) = true) hl ⟨_, ⟨rfl, rfl, by simp⟩, by simp (maxSteps := 1000000) only [go_sem, prodI, List.foldl_nil]; try rfl⟩ ?_ ?_ ?_
  · rintro i L t ⟨rfl, _⟩
    exact ⟨by simp (maxSteps := 1000000) only [go_sem], by simp (maxSteps := 1000000) only [go_sem], rfl⟩
  · rintro i L t hi ⟨rfl, rfl, ha⟩
    have e0 : (i : Int) < s.length := by omega
    have hg : (s.map fun n => [I n]).getD i [] = [I (s.getD i 0)] := by rw [ints_get hi]; simp [List.getD_eq_getElem?_getD, hi]
    obtain ⟨b1, b2, b3⟩ := prodI_bound i (by omega) ha
    have hsi : s.getD i 0 = s[i] := by simp [List.getD_eq_getElem?_getD, hi]
    first | refine .seq (.rg fun A hA K hK => ?_) | refine .seq (.seq (.rg fun A hA K hK => ?_)) | refine .rg fun A hA K hK => ?_ | refine .seq (.rd fun A hA K hK => ?_) | refine .seq (.seq (.rd fun A hA K hK => ?_)) | refine .rd fun A hA K hK => ?_
    simp (maxSteps := 1000000) only [go_sem, hA.nil, hA.go, hA.yes, hA.noT, hA.noF, hA.skp, e0, hg, hi]
    refine hK _ _ ?_; clear hK K hA A
    by_cases h1 : s.getD i 0 < 0
    · have hb := bad i hi (by simp only [okDim, Bool.and_eq_false_iff, decide_eq_false_iff_not]; omega)
      first | refine .seq (.rg fun A hA K hK => ?_) | refine .seq (.seq (.rg fun A hA K hK => ?_)) | refine .rg fun A hA K hK => ?_ | refine .seq (.rd fun A hA K hK => ?_) | refine .seq (.seq (.rd fun A hA K hK => ?_)) | refine .rd fun A hA K hK => ?_
      simp (maxSteps := 1000000) only [go_sem, hA.nil, hA.go, hA.yes, hA.noT, hA.noF, hA.skp, h1]
      refine hK _ _ ?_; clear hK K hA A
      refine .cond (t := true) (by simp (maxSteps := 1000000) only [go_sem, h1]) (fun _ => ?_) (fun h => by cases h)
      first | refine .seq (.rg fun A hA K hK => ?_) | refine .seq (.seq (.rg fun A hA K hK => ?_)) | refine .rg fun A hA K hK => ?_ | refine .seq (.rd fun A hA K hK => ?_) | refine .seq (.seq (.rd fun A hA K hK => ?_)) | refine .rd fun A hA K hK => ?_
      simp (maxSteps := 1000000) only [go_sem, hA.nil, hA.go, hA.yes, hA.noT, hA.noF, hA.skp]
      refine hK _ _ ?_; clear hK K hA A
      exact .ret (ret1 (by simp (maxSteps := 1000000) only [go_sem, hb]) rfl)
    by_cases h2 : s.getD i 0 > 32
    · have hb := bad i hi (by simp only [okDim, Bool.and_eq_false_iff, decide_eq_false_iff_not]; omega)
      first | refine .seq (.rg fun A hA K hK => ?_) | refine .seq (.seq (.rg fun A hA K hK => ?_)) | refine .rg fun A hA K hK => ?_ | refine .seq (.rd fun A hA K hK => ?_) | refine .seq (.seq (.rd fun A hA K hK => ?_)) | refine .rd fun A hA K hK => ?_
      simp (maxSteps := 1000000) only [go_sem, hA.nil, hA.go, hA.yes, hA.noT, hA.noF, hA.skp, h1, h2]
      refine hK _ _ ?_; clear hK K hA A
      refine .cond (t := true) (by simp (maxSteps := 1000000) only [go_sem, h1, h2]) (fun _ => ?_) (fun h => by cases h)
      first | refine .seq (.rg fun A hA K hK => ?_) | refine .seq (.seq (.rg fun A hA K hK => ?_)) | refine .rg fun A hA K hK => ?_ | refine .seq (.rd fun A hA K hK => ?_) | refine .seq (.seq (.rd fun A hA K hK => ?_)) | refine .rd fun A hA K hK => ?_
      simp (maxSteps := 1000000) only [go_sem, hA.nil, hA.go, hA.yes, hA.noT, hA.noF, hA.skp]
      refine hK _ _ ?_; clear hK K hA A
      exact .ret (ret1 (by simp (maxSteps := 1000000) only [go_sem, hb]) rfl)
    have hok : okDim s i = true := by simp only [okDim, Bool.and_eq_true, decide_eq_true_eq]; omega
    have ha' : (List.range (i + 1)).all (okDim s) = true := by rw [List.range_succ, List.all_append, ha]; simpa using hok
    have b4 := prodI_bound (i + 1) (by omega) ha'
    have b5 : (32 : Int) ^ (i + 1) ≤ 32 ^ 4 := by
      rcases (by omega : i = 0 ∨ i = 1 ∨ i = 2 ∨ i = 3) with rfl | rfl | rfl | rfl <;> decide
    have w1 : IntKind.i64.wrap (prodI (s.take i) * s.getD i 0) = prodI (s.take (i + 1)) := by
      rw [prodI_take hi, ← hsi, IntWalk.i64_in]
      rw [prodI_take hi, ← hsi] at b4; omega
    first | refine .seq (.rg fun A hA K hK => ?_) | refine .seq (.seq (.rg fun A hA K hK => ?_)) | refine .rg fun A hA K hK => ?_ | refine .seq (.rd fun A hA K hK => ?_) | refine .seq (.seq (.rd fun A hA K hK => ?_)) | refine .rd fun A hA K hK => ?_
    simp (maxSteps := 1000000) only [go_sem, hA.nil, hA.go, hA.yes, hA.noT, hA.noF, hA.skp, h1, h2]
    refine hK _ _ ?_; clear hK K hA A
    refine .cond (t := false) (by simp (maxSteps := 1000000) only [go_sem, h1, h2]) (fun h => by cases h) (fun _ => .skip ?_)
    first | refine .seq (.rg fun A hA K hK => ?_) | refine .seq (.seq (.rg fun A hA K hK => ?_)) | refine .rg fun A hA K hK => ?_ | refine .seq (.rd fun A hA K hK => ?_) | refine .seq (.seq (.rd fun A hA K hK => ?_)) | refine .rd fun A hA K hK => ?_
    simp (maxSteps := 1000000) only [go_sem, hA.nil, hA.go, hA.yes, hA.noT, hA.noF, hA.skp, w1]
    refine hK _ _ ?_; clear hK K hA A
    exact ⟨by simp (maxSteps := 1000000) only [go_sem], _, ⟨rfl, rfl, ha'⟩, by simp (maxSteps := 1000000) only [go_sem]; try rfl⟩
  · rintro L t F ⟨rfl, rfl, ha⟩ hf
    simp (maxSteps := 1000000) only [go_sem] at hf
    rw [List.take_length] at hf
    have hr : rightS s = decide (prodI s ≤ 4096) := by rw [rightS, ha]; rfl
    first | refine .seq (.rg fun A hA K hK => ?_) | refine .seq (.seq (.rg fun A hA K hK => ?_)) | refine .rg fun A hA K hK => ?_ | refine .seq (.rd fun A hA K hK => ?_) | refine .seq (.seq (.rd fun A hA K hK => ?_)) | refine .rd fun A hA K hK => ?_
    simp (maxSteps := 1000000) only [go_sem, hA.nil, hA.go, hA.yes, hA.noT, hA.noF, hA.skp, hf]
    refine hK _ _ ?_; clear hK K hA A
    exact .ret (ret1 (by simp (maxSteps := 1000000) only [go_sem, hr]) rfl)

/-- shape.Size -/
theorem shapeSize_spec (s : List Int) (σ : St) : T Try.prog 34 [ints s] σ (I (sizeE s)) σ := by
  refine in34 (by simp) fun wf hab => ?_
  have hl := hab_ints (hab 0 (by simp))
  clear hab
  unfold c34
  first | refine .seq (.rg fun A hA K hK => ?_) | refine .seq (.seq (.rg fun A hA K hK => ?_)) | refine .rg fun A hA K hK => ?_ | refine .seq (.rd fun A hA K hK => ?_) | refine .seq (.seq (.rd fun A hA K hK => ?_)) | refine .rd fun A hA K hK => ?_
  simp (maxSteps := 1000000) only [go_sem, hA.nil, hA.go, hA.yes, hA.noT, hA.noF, hA.skp]
  refine hK _ _ ?_; clear hK K hA A
  by_cases hr : rightS s = true
  · first | refine .seq (.rg fun A hA K hK => ?_) | refine .seq (.seq (.rg fun A hA K hK => ?_)) | refine .rg fun A hA K hK => ?_ | refine .seq (.rd fun A hA K hK => ?_) | refine .seq (.seq (.rd fun A hA K hK => ?_)) | refine .rd fun A hA K hK => ?_
    simp (maxSteps := 1000000) only [go_sem, hA.nil, hA.go, hA.yes, hA.noT, hA.noF, hA.skp]
    first | refine aopq_call (shapeRight_spec s σ) (by simp (maxSteps := 1000000) only [go_sem, hr]) ?_ | refine aop_call (shapeRight_spec s σ) (by simp (maxSteps := 1000000) only [go_sem, hr]) ?_
    try simp (maxSteps := 1000000) only [go_sem, hA.nil, hA.go, hA.yes, hA.noT, hA.noF, hA.skp, hr]
    refine hK _ _ ?_; clear hK K hA A
    refine .cond (t := false) (by simp (maxSteps := 1000000) only [go_sem]) (fun h => by cases h) (fun _ => .skip ?_)
    first | refine .seq (.rg fun A hA K hK => ?_) | refine .seq (.seq (.rg fun A hA K hK => ?_)) | refine .rg fun A hA K hK => ?_ | refine .seq (.rd fun A hA K hK => ?_) | refine .seq (.seq (.rd fun A hA K hK => ?_)) | refine .rd fun A hA K hK => ?_
    simp (maxSteps := 1000000) only [go_sem, hA.nil, hA.go, hA.yes, hA.noT, hA.noF, hA.skp]
    refine hK _ _ ?_; clear hK K hA A
    first | refine .seq (.rg fun A hA K hK => ?_) | refine .seq (.seq (.rg fun A hA K hK => ?_)) | refine .rg fun A hA K hK => ?_ | refine .seq (.rd fun A hA K hK => ?_) | refine .seq (.seq (.rd fun A hA K hK => ?_)) | refine .rd fun A hA K hK => ?_
    simp (maxSteps := 1000000) only [go_sem, hA.nil, hA.go, hA.yes, hA.noT, hA.noF, hA.skp]
    refine hK _ _ ?_; clear hK K hA A
    have hr' := hr
    simp only [rightS, Bool.and_eq_true, decide_eq_true_eq] at hr'
    refine .rangeK (N := s.length) (fun i L t => L = [(3, I (prodI (s.take i))), (9, ints s), (10, I s.length), (11, I i)] ∧ σ = t) hl ⟨_, ⟨rfl, rfl⟩, by simp (maxSteps := 1000000) only [go_sem, prodI, List.foldl_nil]; try rfl⟩ ?_ ?_ ?_
    · rintro i L t ⟨rfl, _⟩
      exact ⟨by simp (maxSteps := 1000000) only [go_sem], by simp (maxSteps := 1000000) only [go_sem], rfl⟩
    · rintro i L t hi ⟨rfl, rfl⟩
      have e0 : (i : Int) < s.length := by omega
      have hg : (s.map fun n => [I n]).getD i [] = [I (s.getD i 0)] := by rw [ints_get hi]; simp [List.getD_eq_getElem?_getD, hi]
      have hsi : s.getD i 0 = s[i] := by simp [List.getD_eq_getElem?_getD, hi]
      have ha' : (List.range (i + 1)).all (okDim s) = true := by
        rw [List.all_eq_true]; intro j hj
        exact List.all_eq_true.1 hr'.1 j (by simp at hj ⊢; omega)
      have b4 := prodI_bound (i + 1) (by omega) ha'
      have b5 : (32 : Int) ^ (i + 1) ≤ 32 ^ 4 := by
        rcases (by omega : i = 0 ∨ i = 1 ∨ i = 2 ∨ i = 3) with rfl | rfl | rfl | rfl <;> decide
      have w1 : IntKind.i64.wrap (prodI (s.take i) * s.getD i 0) = prodI (s.take (i + 1)) := by
        rw [prodI_take hi, ← hsi, IntWalk.i64_in]
        rw [prodI_take hi, ← hsi] at b4; omega
      first | refine .seq (.rg fun A hA K hK => ?_) | refine .seq (.seq (.rg fun A hA K hK => ?_)) | refine .rg fun A hA K hK => ?_ | refine .seq (.rd fun A hA K hK => ?_) | refine .seq (.seq (.rd fun A hA K hK => ?_)) | refine .rd fun A hA K hK => ?_
      simp (maxSteps := 1000000) only [go_sem, hA.nil, hA.go, hA.yes, hA.noT, hA.noF, hA.skp, e0, hg, hi]
      refine hK _ _ ?_; clear hK K hA A
      first | refine .seq (.rg fun A hA K hK => ?_) | refine .seq (.seq (.rg fun A hA K hK => ?_)) | refine .rg fun A hA K hK => ?_ | refine .seq (.rd fun A hA K hK => ?_) | refine .seq (.seq (.rd fun A hA K hK => ?_)) | refine .rd fun A hA K hK => ?_
      simp (maxSteps := 1000000) only [go_sem, hA.nil, hA.go, hA.yes, hA.noT, hA.noF, hA.skp, w1]
      refine hK _ _ ?_; clear hK K hA A
      exact ⟨by simp (maxSteps := 1000000) only [go_sem], _, ⟨rfl, rfl⟩, by simp (maxSteps := 1000000) only [go_sem]; try rfl⟩
    · rintro L t F ⟨rfl, rfl⟩ hf
      simp (maxSteps := 1000000) only [go_sem] at hf
      rw [List.take_length] at hf
      have he : sizeE s = prodI s := if_pos hr
      first | refine .seq (.rg fun A hA K hK => ?_) | refine .seq (.seq (.rg fun A hA K hK => ?_)) | refine .rg fun A hA K hK => ?_ | refine .seq (.rd fun A hA K hK => ?_) | refine .seq (.seq (.rd fun A hA K hK => ?_)) | refine .rd fun A hA K hK => ?_
      simp (maxSteps := 1000000) only [go_sem, hA.nil, hA.go, hA.yes, hA.noT, hA.noF, hA.skp, hf]
      refine hK _ _ ?_; clear hK K hA A
      exact .ret (ret1 (by simp (maxSteps := 1000000) only [go_sem, he]) rfl)
  · have hr : rightS s = false := by simpa using hr
    have he : sizeE s = 0 := if_neg (by rw [hr]; simp)
    first | refine .seq (.rg fun A hA K hK => ?_) | refine .seq (.seq (.rg fun A hA K hK => ?_)) | refine .rg fun A hA K hK => ?_ | refine .seq (.rd fun A hA K hK => ?_) | refine .seq (.seq (.rd fun A hA K hK => ?_)) | refine .rd fun A hA K hK => ?_
    simp (maxSteps := 1000000) only [go_sem, hA.nil, hA.go, hA.yes, hA.noT, hA.noF, hA.skp]
    first | refine aopq_call (shapeRight_spec s σ) (by simp (maxSteps := 1000000) only [go_sem, hr]) ?_ | refine aop_call (shapeRight_spec s σ) (by simp (maxSteps := 1000000) only [go_sem, hr]) ?_
    try simp (maxSteps := 1000000) only [go_sem, hA.nil, hA.go, hA.yes, hA.noT, hA.noF, hA.skp, hr]
    refine hK _ _ ?_; clear hK K hA A
    refine .cond (t := true) (by simp (maxSteps := 1000000) only [go_sem]) (fun _ => ?_) (fun h => by cases h)
    first | refine .seq (.rg fun A hA K hK => ?_) | refine .seq (.seq (.rg fun A hA K hK => ?_)) | refine .rg fun A hA K hK => ?_ | refine .seq (.rd fun A hA K hK => ?_) | refine .seq (.seq (.rd fun A hA K hK => ?_)) | refine .rd fun A hA K hK => ?_
    simp (maxSteps := 1000000) only [go_sem, hA.nil, hA.go, hA.yes, hA.noT, hA.noF, hA.skp]
    refine hK _ _ ?_; clear hK K hA A
    exact .ret (ret1 (by simp (maxSteps := 1000000) only [go_sem, he]) rfl)

/-- tensor.Right -/
theorem tenRight_spec (s d : List Int) (σ : St) : T Try.prog 22 [tenA s d] σ (.bool (rightT s d)) σ := by
  refine in22 (by simp) fun wf hab => ?_
  clear hab
  unfold c22
  refine .midK (fun L u => L = [(1, .ptr σ.next 0 0)] ∧ u.blk σ.next = some (.cells 2 [[ints s, ints d]]) ∧ Ext σ u) ?_ ?_
  · first | refine .seq (.rg fun A hA K hK => ?_) | refine .seq (.seq (.rg fun A hA K hK => ?_)) | refine .rg fun A hA K hK => ?_ | refine .seq (.rd fun A hA K hK => ?_) | refine .seq (.seq (.rd fun A hA K hK => ?_)) | refine .rd fun A hA K hK => ?_
    simp (maxSteps := 1000000) only [go_sem, hA.nil, hA.go, hA.yes, hA.noT, hA.noF, hA.skp, tenA]
    refine hK _ _ ?_; clear hK K hA A
    exact ⟨_, ⟨rfl, by simp (maxSteps := 1000000) only [go_sem], ⟨by simp (maxSteps := 1000000) only [go_sem]; try omega, fun b hb => by simp (disch := omega) only [go_sem, if_neg]⟩⟩, by simp (maxSteps := 1000000) only [go_sem]⟩
  rintro L u ⟨rfl, h1, hx⟩
  by_cases hr : rightS s = true
  · first | refine .seq (.rg fun A hA K hK => ?_) | refine .seq (.seq (.rg fun A hA K hK => ?_)) | refine .rg fun A hA K hK => ?_ | refine .seq (.rd fun A hA K hK => ?_) | refine .seq (.seq (.rd fun A hA K hK => ?_)) | refine .rd fun A hA K hK => ?_
    simp (maxSteps := 1000000) only [go_sem, hA.nil, hA.go, hA.yes, hA.noT, hA.noF, hA.skp, h1]
    first | refine aopq_call (shapeRight_spec s u) (by simp (maxSteps := 1000000) only [go_sem, h1, hr]) ?_ | refine aop_call (shapeRight_spec s u) (by simp (maxSteps := 1000000) only [go_sem, h1, hr]) ?_
    try simp (maxSteps := 1000000) only [go_sem, hA.nil, hA.go, hA.yes, hA.noT, hA.noF, hA.skp, h1, hr]
    first | refine aopq_call (shapeSize_spec s u) (by simp (maxSteps := 1000000) only [go_sem, h1, hr]) ?_ | refine aop_call (shapeSize_spec s u) (by simp (maxSteps := 1000000) only [go_sem, h1, hr]) ?_
    try simp (maxSteps := 1000000) only [go_sem, hA.nil, hA.go, hA.yes, hA.noT, hA.noF, hA.skp, h1, hr]
    refine hK _ _ ?_; clear hK K hA A
    exact .ret (retB (by simp (maxSteps := 1000000) only [go_sem, rightT, hr]) wf hx.2 (.bool _) ⟨rfl, rfl⟩)
  · have hr : rightS s = false := by simpa using hr
    first | refine .seq (.rg fun A hA K hK => ?_) | refine .seq (.seq (.rg fun A hA K hK => ?_)) | refine .rg fun A hA K hK => ?_ | refine .seq (.rd fun A hA K hK => ?_) | refine .seq (.seq (.rd fun A hA K hK => ?_)) | refine .rd fun A hA K hK => ?_
    simp (maxSteps := 1000000) only [go_sem, hA.nil, hA.go, hA.yes, hA.noT, hA.noF, hA.skp, h1]
    first | refine aopq_call (shapeRight_spec s u) (by simp (maxSteps := 1000000) only [go_sem, h1, hr]) ?_ | refine aop_call (shapeRight_spec s u) (by simp (maxSteps := 1000000) only [go_sem, h1, hr]) ?_
    try simp (maxSteps := 1000000) only [go_sem, hA.nil, hA.go, hA.yes, hA.noT, hA.noF, hA.skp, h1, hr]
    refine hK _ _ ?_; clear hK K hA A
    exact .ret (retB (by simp (maxSteps := 1000000) only [go_sem, rightT, hr]) wf hx.2 (.bool _) ⟨rfl, rfl⟩)

/-- A clone: of none nothing new, else a new block. -/
def cloneV (σ : St) (l : List Int) : AV := if l = [] then ints [] else .sl σ.next 0 l.length
def cloneS (σ : St) (l : List Int) : St := if l = [] then σ else σ.push (.cells 1 (l.map fun n => [I n]))
/-- slices.Clone of int -/
theorem clone35_spec (l : List Int) (hl : l.length ≤ 2 ^ 20) (σ : St) : T Try.prog 35 [ints l] σ (cloneV σ l) (cloneS σ l) := by
  refine in35 (by simp) fun wf hab => ?_
  clear hab
  unfold c35
  cases l with
  | nil =>
    refine .nilOr 0 (sz := 1) rfl ?_ ?_
    · first | refine .seq (.rg fun A hA K hK => ?_) | refine .seq (.seq (.rg fun A hA K hK => ?_)) | refine .rg fun A hA K hK => ?_ | refine .seq (.rd fun A hA K hK => ?_) | refine .seq (.seq (.rd fun A hA K hK => ?_)) | refine .rd fun A hA K hK => ?_
      simp (maxSteps := 1000000) only [go_sem, hA.nil, hA.go, hA.yes, hA.noT, hA.noF, hA.skp]
      refine hK _ _ ?_; clear hK K hA A
      first | refine .seq (.rg fun A hA K hK => ?_) | refine .seq (.seq (.rg fun A hA K hK => ?_)) | refine .rg fun A hA K hK => ?_ | refine .seq (.rd fun A hA K hK => ?_) | refine .seq (.seq (.rd fun A hA K hK => ?_)) | refine .rd fun A hA K hK => ?_
      simp (maxSteps := 1000000) only [go_sem, hA.nil, hA.go, hA.yes, hA.noT, hA.noF, hA.skp]
      refine hK _ _ ?_; clear hK K hA A
      refine .cond (t := true) (by simp (maxSteps := 1000000) only [go_sem]) (fun _ => ?_) (fun h => by cases h)
      first | refine .seq (.rg fun A hA K hK => ?_) | refine .seq (.seq (.rg fun A hA K hK => ?_)) | refine .rg fun A hA K hK => ?_ | refine .seq (.rd fun A hA K hK => ?_) | refine .seq (.seq (.rd fun A hA K hK => ?_)) | refine .rd fun A hA K hK => ?_
      simp (maxSteps := 1000000) only [go_sem, hA.nil, hA.go, hA.yes, hA.noT, hA.noF, hA.skp]
      refine hK _ _ ?_; clear hK K hA A
      refine .ent (.lit0 (i := 2) 1 (by simp (maxSteps := 1000000) only [go_sem])) ?_
      exact .ret (retB (by simp (maxSteps := 1000000) only [go_sem]) wf (fun b hb => rfl) (ints_lt []) ⟨rfl, rfl⟩)
    · first | refine .seq (.rg fun A hA K hK => ?_) | refine .seq (.seq (.rg fun A hA K hK => ?_)) | refine .rg fun A hA K hK => ?_ | refine .seq (.rd fun A hA K hK => ?_) | refine .seq (.seq (.rd fun A hA K hK => ?_)) | refine .rd fun A hA K hK => ?_
      simp (maxSteps := 1000000) only [go_sem, hA.nil, hA.go, hA.yes, hA.noT, hA.noF, hA.skp]
      refine hK _ _ ?_; clear hK K hA A
      first | refine .seq (.rg fun A hA K hK => ?_) | refine .seq (.seq (.rg fun A hA K hK => ?_)) | refine .rg fun A hA K hK => ?_ | refine .seq (.rd fun A hA K hK => ?_) | refine .seq (.seq (.rd fun A hA K hK => ?_)) | refine .rd fun A hA K hK => ?_
      simp (maxSteps := 1000000) only [go_sem, hA.nil, hA.go, hA.yes, hA.noT, hA.noF, hA.skp]
      refine hK _ _ ?_; clear hK K hA A
      refine .cond (t := false) (by simp (maxSteps := 1000000) only [go_sem]) (fun h => by cases h) (fun _ => .skip ?_)
      first | refine .seq (.rg fun A hA K hK => ?_) | refine .seq (.seq (.rg fun A hA K hK => ?_)) | refine .rg fun A hA K hK => ?_ | refine .seq (.rd fun A hA K hK => ?_) | refine .seq (.seq (.rd fun A hA K hK => ?_)) | refine .rd fun A hA K hK => ?_
      simp (maxSteps := 1000000) only [go_sem, hA.nil, hA.go, hA.yes, hA.noT, hA.noF, hA.skp]
      refine hK _ _ ?_; clear hK K hA A
      refine frz 2 (b := σ.next) (n := 0) (sz := 1) (rows := []) (by simp (maxSteps := 1000000) only [go_sem]) (by simp (maxSteps := 1000000) only [go_sem]) rfl ?_
      refine .ret (retB (by simp (maxSteps := 1000000) only [go_sem]) wf (fun b hb => ?_) (ints_lt []) ⟨rfl, rfl⟩)
      simp only [go_sem]; rw [if_neg (by omega), if_neg (by omega)]
  | cons x xs =>
    first | refine .seq (.rg fun A hA K hK => ?_) | refine .seq (.seq (.rg fun A hA K hK => ?_)) | refine .rg fun A hA K hK => ?_ | refine .seq (.rd fun A hA K hK => ?_) | refine .seq (.seq (.rd fun A hA K hK => ?_)) | refine .rd fun A hA K hK => ?_
    simp (maxSteps := 1000000) only [go_sem, hA.nil, hA.go, hA.yes, hA.noT, hA.noF, hA.skp]
    refine hK _ _ ?_; clear hK K hA A
    first | refine .seq (.rg fun A hA K hK => ?_) | refine .seq (.seq (.rg fun A hA K hK => ?_)) | refine .rg fun A hA K hK => ?_ | refine .seq (.rd fun A hA K hK => ?_) | refine .seq (.seq (.rd fun A hA K hK => ?_)) | refine .rd fun A hA K hK => ?_
    simp (maxSteps := 1000000) only [go_sem, hA.nil, hA.go, hA.yes, hA.noT, hA.noF, hA.skp]
    refine hK _ _ ?_; clear hK K hA A
    refine .cond (t := false) (by simp (maxSteps := 1000000) only [go_sem]) (fun h => by cases h) (fun _ => .skip ?_)
    first | refine .seq (.rg fun A hA K hK => ?_) | refine .seq (.seq (.rg fun A hA K hK => ?_)) | refine .rg fun A hA K hK => ?_ | refine .seq (.rd fun A hA K hK => ?_) | refine .seq (.seq (.rd fun A hA K hK => ?_)) | refine .rd fun A hA K hK => ?_
    simp (maxSteps := 1000000) only [go_sem, hA.nil, hA.go, hA.yes, hA.noT, hA.noF, hA.skp]
    simp only [List.length_cons] at hl
    refine ⟨by simp only [most]; omega, by simp only [most]; omega, ?_⟩
    refine hK _ _ ?_; clear hK K hA A
    exact .ret (retS (by simp (maxSteps := 1000000) only [go_sem]; try rfl) ⟨rfl, rfl⟩)
/-- slices.Clone of int64 -/
theorem clone36_spec (l : List Int) (hl : l.length ≤ 2 ^ 20) (σ : St) : T Try.prog 36 [ints l] σ (cloneV σ l) (cloneS σ l) := by
  refine in36 (by simp) fun wf hab => ?_
  clear hab
  unfold c36
  cases l with
  | nil =>
    refine .nilOr 0 (sz := 1) rfl ?_ ?_
    · first | refine .seq (.rg fun A hA K hK => ?_) | refine .seq (.seq (.rg fun A hA K hK => ?_)) | refine .rg fun A hA K hK => ?_ | refine .seq (.rd fun A hA K hK => ?_) | refine .seq (.seq (.rd fun A hA K hK => ?_)) | refine .rd fun A hA K hK => ?_
      simp (maxSteps := 1000000) only [go_sem, hA.nil, hA.go, hA.yes, hA.noT, hA.noF, hA.skp]
      refine hK _ _ ?_; clear hK K hA A
      first | refine .seq (.rg fun A hA K hK => ?_) | refine .seq (.seq (.rg fun A hA K hK => ?_)) | refine .rg fun A hA K hK => ?_ | refine .seq (.rd fun A hA K hK => ?_) | refine .seq (.seq (.rd fun A hA K hK => ?_)) | refine .rd fun A hA K hK => ?_
      simp (maxSteps := 1000000) only [go_sem, hA.nil, hA.go, hA.yes, hA.noT, hA.noF, hA.skp]
      refine hK _ _ ?_; clear hK K hA A
      refine .cond (t := true) (by simp (maxSteps := 1000000) only [go_sem]) (fun _ => ?_) (fun h => by cases h)
      first | refine .seq (.rg fun A hA K hK => ?_) | refine .seq (.seq (.rg fun A hA K hK => ?_)) | refine .rg fun A hA K hK => ?_ | refine .seq (.rd fun A hA K hK => ?_) | refine .seq (.seq (.rd fun A hA K hK => ?_)) | refine .rd fun A hA K hK => ?_
      simp (maxSteps := 1000000) only [go_sem, hA.nil, hA.go, hA.yes, hA.noT, hA.noF, hA.skp]
      refine hK _ _ ?_; clear hK K hA A
      refine .ent (.lit0 (i := 2) 1 (by simp (maxSteps := 1000000) only [go_sem])) ?_
      exact .ret (retB (by simp (maxSteps := 1000000) only [go_sem]) wf (fun b hb => rfl) (ints_lt []) ⟨rfl, rfl⟩)
    · first | refine .seq (.rg fun A hA K hK => ?_) | refine .seq (.seq (.rg fun A hA K hK => ?_)) | refine .rg fun A hA K hK => ?_ | refine .seq (.rd fun A hA K hK => ?_) | refine .seq (.seq (.rd fun A hA K hK => ?_)) | refine .rd fun A hA K hK => ?_
      simp (maxSteps := 1000000) only [go_sem, hA.nil, hA.go, hA.yes, hA.noT, hA.noF, hA.skp]
      refine hK _ _ ?_; clear hK K hA A
      first | refine .seq (.rg fun A hA K hK => ?_) | refine .seq (.seq (.rg fun A hA K hK => ?_)) | refine .rg fun A hA K hK => ?_ | refine .seq (.rd fun A hA K hK => ?_) | refine .seq (.seq (.rd fun A hA K hK => ?_)) | refine .rd fun A hA K hK => ?_
      simp (maxSteps := 1000000) only [go_sem, hA.nil, hA.go, hA.yes, hA.noT, hA.noF, hA.skp]
      refine hK _ _ ?_; clear hK K hA A
      refine .cond (t := false) (by simp (maxSteps := 1000000) only [go_sem]) (fun h => by cases h) (fun _ => .skip ?_)
      first | refine .seq (.rg fun A hA K hK => ?_) | refine .seq (.seq (.rg fun A hA K hK => ?_)) | refine .rg fun A hA K hK => ?_ | refine .seq (.rd fun A hA K hK => ?_) | refine .seq (.seq (.rd fun A hA K hK => ?_)) | refine .rd fun A hA K hK => ?_
      simp (maxSteps := 1000000) only [go_sem, hA.nil, hA.go, hA.yes, hA.noT, hA.noF, hA.skp]
      refine hK _ _ ?_; clear hK K hA A
      refine frz 2 (b := σ.next) (n := 0) (sz := 1) (rows := []) (by simp (maxSteps := 1000000) only [go_sem]) (by simp (maxSteps := 1000000) only [go_sem]) rfl ?_
      refine .ret (retB (by simp (maxSteps := 1000000) only [go_sem]) wf (fun b hb => ?_) (ints_lt []) ⟨rfl, rfl⟩)
      simp only [go_sem]; rw [if_neg (by omega), if_neg (by omega)]
  | cons x xs =>
    first | refine .seq (.rg fun A hA K hK => ?_) | refine .seq (.seq (.rg fun A hA K hK => ?_)) | refine .rg fun A hA K hK => ?_ | refine .seq (.rd fun A hA K hK => ?_) | refine .seq (.seq (.rd fun A hA K hK => ?_)) | refine .rd fun A hA K hK => ?_
    simp (maxSteps := 1000000) only [go_sem, hA.nil, hA.go, hA.yes, hA.noT, hA.noF, hA.skp]
    refine hK _ _ ?_; clear hK K hA A
    first | refine .seq (.rg fun A hA K hK => ?_) | refine .seq (.seq (.rg fun A hA K hK => ?_)) | refine .rg fun A hA K hK => ?_ | refine .seq (.rd fun A hA K hK => ?_) | refine .seq (.seq (.rd fun A hA K hK => ?_)) | refine .rd fun A hA K hK => ?_
    simp (maxSteps := 1000000) only [go_sem, hA.nil, hA.go, hA.yes, hA.noT, hA.noF, hA.skp]
    refine hK _ _ ?_; clear hK K hA A
    refine .cond (t := false) (by simp (maxSteps := 1000000) only [go_sem]) (fun h => by cases h) (fun _ => .skip ?_)
    first | refine .seq (.rg fun A hA K hK => ?_) | refine .seq (.seq (.rg fun A hA K hK => ?_)) | refine .rg fun A hA K hK => ?_ | refine .seq (.rd fun A hA K hK => ?_) | refine .seq (.seq (.rd fun A hA K hK => ?_)) | refine .rd fun A hA K hK => ?_
    simp (maxSteps := 1000000) only [go_sem, hA.nil, hA.go, hA.yes, hA.noT, hA.noF, hA.skp]
    simp only [List.length_cons] at hl
    refine ⟨by simp only [most]; omega, by simp only [most]; omega, ?_⟩
    refine hK _ _ ?_; clear hK K hA A
    exact .ret (retS (by simp (maxSteps := 1000000) only [go_sem]; try rfl) ⟨rfl, rfl⟩)

/-- Numbers in a block of the walk's own, or none. -/
def OwnI (n : Nat) (t : St) (v : AV) (l : List Int) : Prop := (v = ints l ∧ l = []) ∨ ∃ c, v = .sl c 0 l.length ∧ t.blk c = some (.cells 1 (l.map fun n => [I n])) ∧ n ≤ c ∧ c < t.next
theorem Ext.clone {a b : St} (h : Ext a b) (l : List Int) : Ext a (cloneS b l) := by
  unfold cloneS; split
  · exact h
  · have := h.1
    exact ⟨by rw [next_push]; omega, fun x hx => by rw [blk_push, if_neg (by omega)]; exact h.2 x hx⟩
theorem cloneS_next (b : St) (l : List Int) : b.next ≤ (cloneS b l).next := by unfold cloneS; split <;> simp [St.push]
theorem cloneS_blk (b : St) (l : List Int) {c : Nat} (hc : c < b.next) : (cloneS b l).blk c = b.blk c := by
  unfold cloneS; split
  · rfl
  · rw [blk_push, if_neg (by omega)]
theorem clone_parts (σ : St) (l : List Int) : (cloneV σ l).parts = true := by unfold cloneV; split <;> rfl
theorem clone_row (σ : St) (l : List Int) : row1 (cloneV σ l) = [cloneV σ l] := by unfold cloneV; split <;> rfl
theorem clone_cases (σ : St) (l : List Int) : (cloneV σ l = ints [] ∧ cloneS σ l = σ ∧ l = []) ∨ (cloneV σ l = .sl σ.next 0 l.length ∧ cloneS σ l = σ.push (.cells 1 (l.map fun n => [I n]))) := by
  unfold cloneV cloneS
  by_cases h : l = []
  · exact .inl ⟨if_pos h, if_pos h, h⟩
  · exact .inr ⟨if_neg h, if_neg h⟩
theorem hab_len {l : List Int} {v : AV} (h : Hab v) (hv : v = ints l) : l.length ≤ most := by subst hv; exact hab_ints h

/-- tensor.Copy: the numbers are the caller's own. -/
theorem copy_spec (s d : List Int) (hs : s.length ≤ 2 ^ 20) (hd : d.length ≤ 2 ^ 20) (σ : St) : TQ Try.prog 23 [tenA s d] σ fun v t => ∃ b, v = .agg [ints s, b] ∧ OwnI σ.next t b d ∧ Ext σ t := by
  refine in23 (by simp) fun wf hab => ?_
  clear hab
  unfold c23
  refine .midK (fun L u => L = [(1, .ptr σ.next 0 0), (2, .ptr (σ.next + 1) 0 0)] ∧ u.blk σ.next = some (.cells 2 [[ints s, ints d]]) ∧ u.blk (σ.next + 1) = some (.cells 2 [[ints [], ints []]]) ∧ u.next = σ.next + 2 ∧ Ext σ u) ?_ ?_
  · first | refine .seq (.rg fun A hA K hK => ?_) | refine .seq (.seq (.rg fun A hA K hK => ?_)) | refine .rg fun A hA K hK => ?_ | refine .seq (.rd fun A hA K hK => ?_) | refine .seq (.seq (.rd fun A hA K hK => ?_)) | refine .rd fun A hA K hK => ?_
    simp (maxSteps := 1000000) only [go_sem, hA.nil, hA.go, hA.yes, hA.noT, hA.noF, hA.skp, tenA]
    refine hK _ _ ?_; clear hK K hA A
    exact ⟨_, ⟨rfl, by simp (maxSteps := 1000000) only [go_sem], by simp (maxSteps := 1000000) only [go_sem], by simp (maxSteps := 1000000) only [go_sem], ⟨by simp (maxSteps := 1000000) only [go_sem]; try omega, fun b hb => by simp (disch := omega) only [go_sem, if_neg]⟩⟩, by simp (maxSteps := 1000000) only [go_sem]⟩
  rintro L u ⟨rfl, h1, h2, hn, hx⟩
  have n1 := cloneS_next u s
  have k1 : (cloneS u s).blk σ.next = some (.cells 2 [[ints s, ints d]]) := by rw [cloneS_blk u s (by omega)]; exact h1
  have k2 : (cloneS (cloneS u s) d).blk (σ.next + 1) = some (.cells 2 [[ints [], ints []]]) := by rw [cloneS_blk _ d (by omega), cloneS_blk u s (by omega)]; exact h2
  refine .midK (fun L t => L = [(2, .ptr (σ.next + 1) 0 0)] ∧ t = (cloneS (cloneS u s) d).set (σ.next + 1) (.cells 2 [[cloneV u s, cloneV (cloneS u s) d]])) ?_ ?_
  · rcases clone_cases u s with ⟨c1, _⟩ | ⟨c1, _⟩ <;> rcases clone_cases (cloneS u s) d with ⟨c2, _⟩ | ⟨c2, _⟩
    all_goals
      refine .rdx fun A hA K hK => ?_
      simp (maxSteps := 200000) only [go_sem, hA.nil, hA.pur, hA.go, hA.yes, hA.noT, hA.noF, hA.skp, pure_mv, eff_mv, pure_pk, eff_pk, pure_al, eff_al, pure_bx, eff_bx, pure_bd, eff_bd, pure_bs, eff_bs, pure_ld, eff_ld, pure_st, eff_st, pure_nc, eff_nc, pure_bin, eff_bin, pure_un, eff_un, pure_cv, eff_cv, pure_mi, eff_mi, pure_mf, eff_mf, pure_mm, eff_mm, pure_ms, eff_ms, pure_msl, eff_msl, pure_sc, eff_sc, pure_fa, eff_fa, pure_fl, eff_fl, pure_ia, eff_ia, pure_lk, eff_lk, pure_mu, eff_mu, pure_lm, eff_lm, pure_rg, eff_rg, pure_nx, eff_nx, pure_en, eff_en, pure_ta, eff_ta, pure_ex, eff_ex, pure_ln, eff_ln, pure_ap, eff_ap, pure_mx, eff_mx, pure_call, eff_call, pure_callv, eff_callv, chk_nil, chk_cons, again, List.contains_cons, List.contains_nil, h1]
      refine aop_callF (clone35_spec s hs u) (by simp (maxSteps := 1000000) only [go_sem]) ?_
      simp (maxSteps := 200000) only [go_sem, hA.nil, hA.pur, hA.go, hA.yes, hA.noT, hA.noF, hA.skp, pure_mv, eff_mv, pure_pk, eff_pk, pure_al, eff_al, pure_bx, eff_bx, pure_bd, eff_bd, pure_bs, eff_bs, pure_ld, eff_ld, pure_st, eff_st, pure_nc, eff_nc, pure_bin, eff_bin, pure_un, eff_un, pure_cv, eff_cv, pure_mi, eff_mi, pure_mf, eff_mf, pure_mm, eff_mm, pure_ms, eff_ms, pure_msl, eff_msl, pure_sc, eff_sc, pure_fa, eff_fa, pure_fl, eff_fl, pure_ia, eff_ia, pure_lk, eff_lk, pure_mu, eff_mu, pure_lm, eff_lm, pure_rg, eff_rg, pure_nx, eff_nx, pure_en, eff_en, pure_ta, eff_ta, pure_ex, eff_ex, pure_ln, eff_ln, pure_ap, eff_ap, pure_mx, eff_mx, pure_call, eff_call, pure_callv, eff_callv, chk_nil, chk_cons, again, List.contains_cons, List.contains_nil, h1, k1, c1]
      refine aop_callF (clone36_spec d hd (cloneS u s)) (by simp (maxSteps := 1000000) only [go_sem]) ?_
      simp (maxSteps := 200000) only [go_sem, hA.nil, hA.pur, hA.go, hA.yes, hA.noT, hA.noF, hA.skp, pure_mv, eff_mv, pure_pk, eff_pk, pure_al, eff_al, pure_bx, eff_bx, pure_bd, eff_bd, pure_bs, eff_bs, pure_ld, eff_ld, pure_st, eff_st, pure_nc, eff_nc, pure_bin, eff_bin, pure_un, eff_un, pure_cv, eff_cv, pure_mi, eff_mi, pure_mf, eff_mf, pure_mm, eff_mm, pure_ms, eff_ms, pure_msl, eff_msl, pure_sc, eff_sc, pure_fa, eff_fa, pure_fl, eff_fl, pure_ia, eff_ia, pure_lk, eff_lk, pure_mu, eff_mu, pure_lm, eff_lm, pure_rg, eff_rg, pure_nx, eff_nx, pure_en, eff_en, pure_ta, eff_ta, pure_ex, eff_ex, pure_ln, eff_ln, pure_ap, eff_ap, pure_mx, eff_mx, pure_call, eff_call, pure_callv, eff_callv, chk_nil, chk_cons, again, List.contains_cons, List.contains_nil, h1, k1, k2, c1, c2]
      refine hK _ _ ?_; clear hK K hA A
      refine ⟨_, ⟨rfl, ?_⟩, by simp (maxSteps := 1000000) only [go_sem]⟩
      rw [c1, c2]
      try rfl
  rintro L t ⟨rfl, rfl⟩
  have n2 := cloneS_next (cloneS u s) d
  have hxt : ∀ b, b < σ.next → (cloneS (cloneS u s) d).blk b = σ.blk b := fun b hb => by rw [cloneS_blk _ d (by omega), cloneS_blk u s (by omega)]; exact hx.2 b hb
  have own : OwnI σ.next (cloneS (cloneS u s) d) (cloneV (cloneS u s) d) d := by
    rcases clone_cases (cloneS u s) d with ⟨c2, _, z2⟩ | ⟨c2, z2⟩
    · exact .inl ⟨by rw [c2, z2], z2⟩
    · exact .inr ⟨_, c2, by rw [z2, blk_push, if_pos rfl], by omega, by rw [z2, next_push]; omega⟩
  rcases clone_cases u s with ⟨c1, _, z1⟩ | ⟨c1, z1⟩
  · refine .ret (retC1 (b := σ.next + 1) (sz := 2) (row := [cloneV u s, cloneV (cloneS u s) d]) (by simp (maxSteps := 1000000) only [go_sem]) (by rw [blk_set, if_pos rfl]) (by simp) rfl ⟨cloneV (cloneS u s) d, by rw [c1, ← show ints s = ints [] by rw [z1]]; rfl, ?_, ⟨by rw [next_set]; omega, fun b hb => by rw [blk_set, if_neg (by omega)]; exact hxt b hb⟩⟩)
    rcases own with h | ⟨c, o1, o2, o3, o4⟩
    · exact .inl h
    · refine .inr ⟨c, o1, ?_, o3, o4⟩
      rw [blk_set, if_neg, o2]
      rintro rfl
      rw [k2] at o2; simp at o2
  · have hcs : (cloneS (cloneS u s) d).blk u.next = some (.cells 1 (s.map fun n => [I n])) := by rw [cloneS_blk _ d (by rw [z1, next_push]; omega), z1, blk_push, if_pos rfl]
    refine frz1 (σ.next + 1) 0 (row := [cloneV u s, cloneV (cloneS u s) d]) (by rw [blk_set, if_pos rfl]) (by simp) c1 (by rw [blk_set, if_neg (by omega)]; exact hcs) (by omega) (by simp) ?_
    refine .ret (retC1 (b := σ.next + 1) (sz := 2) (row := [ints s, cloneV (cloneS u s) d]) (by simp (maxSteps := 1000000) only [go_sem]) (by rw [blk_set, if_pos rfl]; rfl) (by simp) rfl ⟨cloneV (cloneS u s) d, rfl, ?_, ⟨by simp only [next_set, next_kill]; omega, fun b hb => by rw [blk_set, if_neg (by omega), blk_kill, if_neg (by omega), blk_set, if_neg (by omega)]; exact hxt b hb⟩⟩)
    rcases own with h | ⟨c, o1, o2, o3, o4⟩
    · exact .inl h
    · have c_ne : ¬ c = u.next := by
        rintro rfl
        rcases clone_cases (cloneS u s) d with ⟨c2, _, z2⟩ | ⟨c2, z2⟩
        · rw [c2] at o1; cases o1
        · rw [c2] at o1
          have : (cloneS u s).next = u.next := by injection o1
          rw [z1, next_push] at this; omega
      refine .inr ⟨c, o1, ?_, o3, o4⟩
      rw [blk_set, if_neg, blk_kill, if_neg c_ne, blk_set, if_neg, o2]
      · rintro rfl; rw [k2] at o2; simp at o2
      · rintro rfl; rw [k2] at o2; simp at o2
end Go.Proofs.Ytdmbgnppbchgcaa.Av
