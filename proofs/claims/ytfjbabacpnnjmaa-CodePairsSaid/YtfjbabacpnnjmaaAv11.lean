/- A logic of small values, and walks in it: keep.bent: programs with something turned are programs. keep.Bent; CodeTells. From what a row's arguments read as to what stands to them. The arguments of chapter 18's rows as small values. CodePairs, plain: what is reached is right and pairs; less a Send, or with one twice, it does not. -/
import Derived.Test.YtfjbabacpnnjmaaAv10
import Derived.ChangeArms
import Derived.ChangeSlices
import Derived.SizedLaws
import Derived.DataReads
import Derived.Test.YtfjbabacpnnjmaaProg
import Derived.KernelRfl
import Derived.Below
set_option linter.unusedVariables false
set_option linter.unusedSimpArgs false
set_option linter.deprecated false
namespace Go.Proofs.Ytfjbabacpnnjmaa.Av
open Go Go.Av
set_option maxRecDepth 20000
set_option maxHeartbeats 4000000

attribute [local go_sem] step_apply stepD_apply stepE_apply
attribute [local go_sem] aopq_mv aopq_pk aopq_al aopq_bx aopq_bd aopq_bs aopq_ld aopq_st aopq_nc aopq_bin aopq_un aopq_cv aopq_mi aopq_mf aopq_mm aopq_ms aopq_sc aopq_fa aopq_fl aopq_ia aopq_lk aopq_mu aopq_lm aopq_rg aopq_en aopq_ta aopq_ex aopq_ln aopq_ap aopq_mx aopq.eq_3 aop.eq_1 aop.eq_2 aop.eq_3 aop.eq_4 aop.eq_5 aop.eq_6 aop.eq_7 aop.eq_8 aop.eq_9 aop_bin atS_apply aop_un_not aop_un_neg aop.eq_14 aop.eq_15 aop.eq_16 aop.eq_17 aop.eq_18 aop_sc cutS_apply cutN_apply cutL_apply cutO_apply aop.eq_20 aop.eq_21 aop.eq_22 aop.eq_23 aop.eq_24 aop.eq_25 aop.eq_26 aop.eq_27 aop.eq_28 aop.eq_29 aop.eq_30 aop.eq_31 aop.eq_32 blk_push next_push blk_set next_set blk_kill next_kill frL_nil frL_cons Fits_nil Fits_cons Int.reduceBEq Int.reduceBNe Nat.sub_zero Option.map_some Option.map_none List.set_cons_succ true_or or_true false_or or_false Int.le_refl Int.cast_ofNat_Int decide_true decide_false List.cons_append fillA fillR rowsOf List.replicate_succ List.replicate_zero Nat.zero_mul getD_drop List.length_drop splice List.nil_append List.append_nil cond_true cond_false List.set_cons_zero List.length_set ev put_some put_none upd_apply abin asNat bounds row1 mk List.length_cons List.length_nil List.length_map List.drop_zero List.drop_succ_cons List.drop_nil List.getD_cons_zero List.getD_cons_succ Option.getD_none Option.getD_some List.take_succ_cons List.take_zero List.take_nil true_and and_true Int.toNat_natCast if_true if_false Nat.zero_add Nat.add_zero List.map_cons List.map_nil Nat.reduceEqDiff Nat.left_eq_add Nat.add_eq_left Nat.add_left_cancel_iff Nat.add_assoc Nat.reduceSub Nat.reduceAdd Nat.reduceLeDiff Nat.le_refl Nat.zero_le Nat.zero_lt_one Nat.lt_add_one Int.reduceLT Int.reduceLE Int.reduceToNat Nat.reduceLT Nat.reduceBEq Bool.false_eq_true Nat.reduceBNe ne_eq not_false_eq_true not_true_eq_false false_and and_false reduceIte Int.natCast_nonneg reduceCtorEq parts_agg parts_bool parts_int parts_str parts_lit parts_nils parts_sl parts_ptr Int.natCast_nonneg Int.natCast_nonneg beq_self_eq_true bne_self_eq_false Bool.true_and Bool.false_and Bool.and_true Bool.and_false Bool.true_or Bool.false_or Bool.or_true Bool.or_false Bool.not_true Bool.not_false
attribute [local go_sem] instr0 instr1 instr2 instr10 instr11 instr12 instrN instrA instr_len node0 node1 node2 node3 node4 node5 node6 nodeA node_len I ints progA progsA

def Sz (k : Nat) (ps : List (List Instr)) : Prop := ps.length ≤ k ∧ ∀ p ∈ ps, p.length ≤ k ∧ ∀ i ∈ p, i.ins.length ≤ k
theorem Sz.mono {k k' : Nat} {ps : List (List Instr)} (h : Sz k ps) (hk : k ≤ k') : Sz k' ps :=
  ⟨Nat.le_trans h.1 hk, fun p hp => ⟨Nat.le_trans (h.2 p hp).1 hk, fun i hi => Nat.le_trans ((h.2 p hp).2 i hi) hk⟩⟩

theorem bent_end {σ t : St} {F : Fr} {n k d : Nat} {ps : List (List Instr)} {p' : List Instr} (wf : σ.Wf) (hs : Sz k ps) (hd : d < ps.length) (hl : p'.length ≤ k + 1) (hi : ∀ i ∈ p', i.ins.length ≤ k + 1) {cp : Nat}
    (h4 : F n = .sl (σ.next + 1) 0 ps.length) (hb : t.blk (σ.next + 1) = some (.cells 1 ((ps.map fun p => [progA p]).set d [.sl cp 0 p'.length]))) (hc : t.blk cp = some (.cells 13 (p'.map instrL))) (hcp : σ.next + 1 < cp) (hx : ∀ c, c < σ.next → t.blk c = σ.blk c) :
    SWP Try.prog σ.next .ret (retQ σ.next [.t n] fun v s => s = σ ∧ ∃ ps', v = progsA ps' ∧ Sz (k + 1) ps') F t := by
  have hset : ((ps.map fun p => [progA p]).set d [.sl cp 0 p'.length]).set d [.lit 13 (p'.map instrL)] = (ps.set d p').map fun p => [progA p] := by
    rw [List.set_set, List.map_set]; rfl
  refine .frzAt (σ.next + 1) d hb (by simpa using hd) (getD_set_eq _ _ (by simpa using hd)) hc (by omega) (by simp) ?_
  rw [hset]
  refine .frz n (b := σ.next + 1) (n := ps.length) h4 (by rw [blk_set, if_pos rfl]) (by simp) (.ret (retB (v := progsA (ps.set d p')) (by simp (maxSteps := 1000000) only [go_sem]) wf (fun c hc => ?_) (progsA_lt _) ⟨rfl, _, rfl, by simp; have := hs.1; omega, fun q hq => ?_⟩))
  · simp (disch := omega) only [go_sem, if_neg, hx c hc]
  · rcases List.mem_or_eq_of_mem_set hq with hq | rfl
    · exact ⟨by have := (hs.2 q hq).1; omega, fun i hi => by have := (hs.2 q hq).2 i hi; omega⟩
    · exact ⟨hl, hi⟩

/-- keep.bent -/
theorem bent_spec {k : Nat} {ps : List (List Instr)} (hs : Sz k ps) (hk : k ≤ 2000) (what dev at_ n : Int) (σ : St) :
    TQ Try.prog 59 [progsA ps, .agg [I what, I dev, I at_, I n]] σ fun v s => s = σ ∧ ∃ ps', v = progsA ps' ∧ Sz (k + 1) ps' := by
  refine in59 (by simp) fun wf hab => ?_
  clear hab
  have hn := hs.1
  have m1 : ps.length ≤ most := by simp only [most]; omega
  have m2 : ps.length * 24 ≤ most := by simp only [most]; omega
  unfold c59
  first | refine .seq (.rg fun A hA K hK => ?_) | refine .seq (.seq (.rg fun A hA K hK => ?_)) | refine .rg fun A hA K hK => ?_ | refine .seq (.rd fun A hA K hK => ?_) | refine .seq (.seq (.rd fun A hA K hK => ?_)) | refine .rd fun A hA K hK => ?_
  simp (maxSteps := 1000000) only [go_sem, hA.nil, hA.go, hA.yes, hA.noT, hA.noF, hA.skp]
  refine hK _ _ ?_; clear hK K hA A
  first | refine .seq (.rg fun A hA K hK => ?_) | refine .seq (.seq (.rg fun A hA K hK => ?_)) | refine .rg fun A hA K hK => ?_ | refine .seq (.rd fun A hA K hK => ?_) | refine .seq (.seq (.rd fun A hA K hK => ?_)) | refine .rd fun A hA K hK => ?_
  simp (maxSteps := 1000000) only [go_sem, hA.nil, hA.go, hA.yes, hA.noT, hA.noF, hA.skp, m1, m2, List.length_map]
  refine hK _ _ ?_; clear hK K hA A
  refine .keep [(0, .sl (σ.next + 1) 0 ps.length), (3, .ptr σ.next 0 0)] (by simp (maxSteps := 1000000) only [go_sem]) ?_
  generalize hs1 : (σ.push (.cells 4 [[.int .i64 what, .int .i64 dev, .int .i64 at_, .int .i64 n]])).push _ = s1
  have hbb : s1.blk σ.next = some (.cells 4 [[I what, I dev, I at_, I n]]) := by subst hs1; simp (maxSteps := 1000000) only [go_sem]
  have hbl : s1.blk (σ.next + 1) = some (.cells 1 (ps.map fun p => [progA p])) := by subst hs1; simp (maxSteps := 1000000) only [go_sem]
  have hn1 : s1.next = σ.next + 2 := by subst hs1; rfl
  have hx1 : ∀ c, c < σ.next → s1.blk c = σ.blk c := fun c hc => by subst hs1; simp (disch := omega) only [go_sem, if_neg]
  clear hs1
  refine .seq (.midK (fun L t => L = [(0, .sl (σ.next + 1) 0 ps.length), (3, .ptr σ.next 0 0), (20, .bool (decide (ps.length = 0 ∨ what.tmod 7 = 6)))] ∧ t = s1) ?_ ?_)
  · have n7 : ¬ (7 : Int) = 0 := by decide
    by_cases h0 : ps.length = 0
    · have b0 : ((ps.length : Int) == 0) = true := by rw [h0]; rfl
      first | refine .seq (.rg fun A hA K hK => ?_) | refine .seq (.seq (.rg fun A hA K hK => ?_)) | refine .rg fun A hA K hK => ?_ | refine .seq (.rd fun A hA K hK => ?_) | refine .seq (.seq (.rd fun A hA K hK => ?_)) | refine .rd fun A hA K hK => ?_
      simp (maxSteps := 1000000) only [go_sem, hA.nil, hA.go, hA.yes, hA.noT, hA.noF, hA.skp, b0]
      refine hK _ _ ?_; clear hK K hA A
      exact ⟨_, ⟨rfl, rfl⟩, by simp (maxSteps := 1000000) only [go_sem, h0]⟩
    · have b0 : ((ps.length : Int) == 0) = false := by rw [beq_eq_false_iff_ne]; omega
      by_cases h6 : what.tmod 7 = 6
      · have b1 : (what.tmod 7 == 6) = true := by simpa using h6
        first | refine .seq (.rg fun A hA K hK => ?_) | refine .seq (.seq (.rg fun A hA K hK => ?_)) | refine .rg fun A hA K hK => ?_ | refine .seq (.rd fun A hA K hK => ?_) | refine .seq (.seq (.rd fun A hA K hK => ?_)) | refine .rd fun A hA K hK => ?_
        simp (maxSteps := 1000000) only [go_sem, hA.nil, hA.go, hA.yes, hA.noT, hA.noF, hA.skp, b0, b1, hbb, n7]
        refine hK _ _ ?_; clear hK K hA A
        exact ⟨_, ⟨rfl, rfl⟩, by simp (maxSteps := 1000000) only [go_sem, h0, h6]⟩
      · have b1 : (what.tmod 7 == 6) = false := by simpa using h6
        first | refine .seq (.rg fun A hA K hK => ?_) | refine .seq (.seq (.rg fun A hA K hK => ?_)) | refine .rg fun A hA K hK => ?_ | refine .seq (.rd fun A hA K hK => ?_) | refine .seq (.seq (.rd fun A hA K hK => ?_)) | refine .rd fun A hA K hK => ?_
        simp (maxSteps := 1000000) only [go_sem, hA.nil, hA.go, hA.yes, hA.noT, hA.noF, hA.skp, b0, b1, hbb, n7]
        refine hK _ _ ?_; clear hK K hA A
        exact ⟨_, ⟨rfl, rfl⟩, by simp (maxSteps := 1000000) only [go_sem, h0, h6]⟩
  rintro L t ⟨rfl, rfl⟩
  refine .cond (t := decide (ps.length = 0 ∨ what.tmod 7 = 6)) (by simp (maxSteps := 1000000) only [go_sem]) (fun _ => ?_) (fun hz => .skip ?_)
  · -- one program more
    have m3 : ps.length + 1 ≤ most := by simp only [most]; omega
    have m4 : (ps.length + 1) * 24 ≤ most := by simp only [most]; omega
    have ht : List.take ps.length (ps.map fun p => [AV.lit 13 (p.map instrL)]) = ps.map fun p => [AV.lit 13 (p.map instrL)] := List.take_of_length_le (by simp)
    first | refine .seq (.rg fun A hA K hK => ?_) | refine .seq (.seq (.rg fun A hA K hK => ?_)) | refine .rg fun A hA K hK => ?_ | refine .seq (.rd fun A hA K hK => ?_) | refine .seq (.seq (.rd fun A hA K hK => ?_)) | refine .rd fun A hA K hK => ?_
    simp (maxSteps := 1000000) only [go_sem, hA.nil, hA.go, hA.yes, hA.noT, hA.noF, hA.skp, hbb, hbl, m3, m4, ht]
    refine hK _ _ ?_; clear hK K hA A
    refine .frz 4 (b := t.next) (n := ps.length + 1) (by simp (maxSteps := 1000000) only [go_sem]) (by simp (maxSteps := 1000000) only [go_sem]; try rfl) (by simp) (.ret (retB (v := progsA (ps ++ [[⟨n, 0, [], emptyN, 0, 0, 0⟩]])) (by simp (maxSteps := 1000000) only [go_sem, List.map_append, instrL, emptyN, ht]) wf (fun c hc => ?_) (progsA_lt _) ⟨rfl, _, rfl, by simp; omega, fun q hq => ?_⟩))
    · simp (disch := omega) only [go_sem, if_neg, hx1 c hc]
    · rcases List.mem_append.1 hq with hq | hq
      · exact ⟨by have := (hs.2 q hq).1; omega, fun i hi => by have := (hs.2 q hq).2 i hi; omega⟩
      · rw [List.mem_singleton.1 hq]; simp
  have hz : ¬ (ps.length = 0 ∨ what.tmod 7 = 6) := of_decide_eq_false hz
  have hpos : 1 ≤ ps.length := by omega
  refine .keep [(0, .sl (σ.next + 1) 0 ps.length), (3, .ptr σ.next 0 0)] (by simp (maxSteps := 1000000) only [go_sem]) ?_
  first | refine .seq (.rg fun A hA K hK => ?_) | refine .seq (.seq (.rg fun A hA K hK => ?_)) | refine .rg fun A hA K hK => ?_ | refine .seq (.rd fun A hA K hK => ?_) | refine .seq (.seq (.rd fun A hA K hK => ?_)) | refine .rd fun A hA K hK => ?_
  simp (maxSteps := 1000000) only [go_sem, hA.nil, hA.go, hA.yes, hA.noT, hA.noF, hA.skp, hbb]
  first | refine aopq_call (at_spec dev ps.length _) (by simp (maxSteps := 1000000) only [go_sem]) ?_ | refine aop_call (at_spec dev ps.length _) (by simp (maxSteps := 1000000) only [go_sem]) ?_
  try simp (maxSteps := 1000000) only [go_sem, hA.nil, hA.go, hA.yes, hA.noT, hA.noF, hA.skp]
  refine hK _ _ ?_; clear hK K hA A
  have hat := atE_in dev ps.length (by omega)
  obtain ⟨d, hd'⟩ := Int.eq_ofNat_of_zero_le hat.1
  have hd : d < ps.length := by omega
  rw [hd']
  have e0 : (d : Int) < ps.length := by omega
  have hgp := progs_get' hd
  have hp := hs.2 ps[d] (List.getElem_mem hd)
  have m5 : ps[d].length ≤ most := by have := hp.1; simp only [most]; omega
  have m6 : ps[d].length * 176 ≤ most := by have := hp.1; simp only [most]; omega
  first | refine .seq (.rg fun A hA K hK => ?_) | refine .seq (.seq (.rg fun A hA K hK => ?_)) | refine .rg fun A hA K hK => ?_ | refine .seq (.rd fun A hA K hK => ?_) | refine .seq (.seq (.rd fun A hA K hK => ?_)) | refine .rd fun A hA K hK => ?_
  simp (maxSteps := 1000000) only [go_sem, hA.nil, hA.go, hA.yes, hA.noT, hA.noF, hA.skp, hbl, hgp, e0, hd, m5, m6, List.length_map]
  refine hK _ _ ?_; clear hK K hA A
  refine .keep [(0, .sl (σ.next + 1) 0 ps.length), (3, .ptr σ.next 0 0), (5, I d), (6, .sl t.next 0 ps[d].length)] (by simp (maxSteps := 1000000) only [go_sem]) ?_
  generalize hs2 : t.push (.cells 13 (ps[d].map instrL)) = s2
  have hbb2 : s2.blk σ.next = some (.cells 4 [[I what, I dev, I at_, I n]]) := by subst hs2; rw [blk_push, if_neg (by omega)]; exact hbb
  have hbl2 : s2.blk (σ.next + 1) = some (.cells 1 (ps.map fun p => [progA p])) := by subst hs2; rw [blk_push, if_neg (by omega)]; exact hbl
  have hbp2 : s2.blk t.next = some (.cells 13 (ps[d].map instrL)) := by subst hs2; rw [blk_push, if_pos rfl]
  have hn2 : s2.next = σ.next + 3 := by subst hs2; rw [next_push]; omega
  have hx2 : ∀ c, c < σ.next → s2.blk c = σ.blk c := fun c hc => by subst hs2; rw [blk_push, if_neg (by omega)]; exact hx1 c hc
  rw [hn1] at hbp2 ⊢
  clear hs2 hbb hbl hx1 hn1
  by_cases hpz : ps[d].length = 0
  · have b0 : ((ps[d].length : Int) == 0) = true := by rw [hpz]; rfl
    first | refine .seq (.rg fun A hA K hK => ?_) | refine .seq (.seq (.rg fun A hA K hK => ?_)) | refine .rg fun A hA K hK => ?_ | refine .seq (.rd fun A hA K hK => ?_) | refine .seq (.seq (.rd fun A hA K hK => ?_)) | refine .rd fun A hA K hK => ?_
    simp (maxSteps := 1000000) only [go_sem, hA.nil, hA.go, hA.yes, hA.noT, hA.noF, hA.skp]
    refine hK _ _ ?_; clear hK K hA A
    refine .cond (t := true) (by simp (maxSteps := 1000000) only [go_sem, b0]) (fun _ => ?_) (fun h => by cases h)
    first | refine .seq (.rg fun A hA K hK => ?_) | refine .seq (.seq (.rg fun A hA K hK => ?_)) | refine .rg fun A hA K hK => ?_ | refine .seq (.rd fun A hA K hK => ?_) | refine .seq (.seq (.rd fun A hA K hK => ?_)) | refine .rd fun A hA K hK => ?_
    simp (maxSteps := 1000000) only [go_sem, hA.nil, hA.go, hA.yes, hA.noT, hA.noF, hA.skp]
    refine hK _ _ ?_; clear hK K hA A
    refine .frz 4 (b := σ.next + 1) (n := ps.length) (by simp (maxSteps := 1000000) only [go_sem]) hbl2 (by simp) (.ret (retB (v := progsA ps) (by simp (maxSteps := 1000000) only [go_sem]) wf (fun c hc => ?_) (progsA_lt _) ⟨rfl, _, rfl, hs.mono (by omega)⟩))
    simp (disch := omega) only [go_sem, if_neg, hx2 c hc]
  have b0 : ((ps[d].length : Int) == 0) = false := by rw [beq_eq_false_iff_ne]; omega
  first | refine .seq (.rg fun A hA K hK => ?_) | refine .seq (.seq (.rg fun A hA K hK => ?_)) | refine .rg fun A hA K hK => ?_ | refine .seq (.rd fun A hA K hK => ?_) | refine .seq (.seq (.rd fun A hA K hK => ?_)) | refine .rd fun A hA K hK => ?_
  simp (maxSteps := 1000000) only [go_sem, hA.nil, hA.go, hA.yes, hA.noT, hA.noF, hA.skp]
  refine hK _ _ ?_; clear hK K hA A
  refine .cond (t := false) (by simp (maxSteps := 1000000) only [go_sem, b0]) (fun h => by cases h) (fun _ => .skip ?_)
  first | refine .seq (.rg fun A hA K hK => ?_) | refine .seq (.seq (.rg fun A hA K hK => ?_)) | refine .rg fun A hA K hK => ?_ | refine .seq (.rd fun A hA K hK => ?_) | refine .seq (.seq (.rd fun A hA K hK => ?_)) | refine .rd fun A hA K hK => ?_
  simp (maxSteps := 1000000) only [go_sem, hA.nil, hA.go, hA.yes, hA.noT, hA.noF, hA.skp, hbb2]
  first | refine aopq_call (at_spec at_ ps[d].length _) (by simp (maxSteps := 1000000) only [go_sem, hbb2]) ?_ | refine aop_call (at_spec at_ ps[d].length _) (by simp (maxSteps := 1000000) only [go_sem, hbb2]) ?_
  try simp (maxSteps := 1000000) only [go_sem, hA.nil, hA.go, hA.yes, hA.noT, hA.noF, hA.skp, hbb2]
  refine hK _ _ ?_; clear hK K hA A
  have hkt := atE_in at_ ps[d].length (by omega)
  obtain ⟨kk, hk'⟩ := Int.eq_ofNat_of_zero_le hkt.1
  have hkk : kk < ps[d].length := by omega
  rw [hk']
  have e1 : (kk : Int) < ps[d].length := by omega
  have hgi := prog_get hkk
  have hii := hp.2 _ (List.getElem_mem hkk)
  have n2 : ¬ σ.next + 2 = s2.next := by omega
  first | refine .seq (.rg fun A hA K hK => ?_) | refine .seq (.seq (.rg fun A hA K hK => ?_)) | refine .rg fun A hA K hK => ?_ | refine .seq (.rd fun A hA K hK => ?_) | refine .seq (.seq (.rd fun A hA K hK => ?_)) | refine .rd fun A hA K hK => ?_
  simp (maxSteps := 1000000) only [go_sem, hA.nil, hA.go, hA.yes, hA.noT, hA.noF, hA.skp, hbp2, e1, hkk, hgi, n2]
  refine hK _ _ ?_; clear hK K hA A
  refine .keep [(0, .sl (σ.next + 1) 0 ps.length), (3, .ptr σ.next 0 0), (5, I d), (6, .sl (σ.next + 2) 0 ps[d].length), (7, I kk), (8, .ptr (σ.next + 3) 0 0)] (by simp (maxSteps := 1000000) only [go_sem, hn2]) ?_
  generalize hs3 : (s2.push _).set s2.next _ = s3
  have hbb3 : s3.blk σ.next = some (.cells 4 [[I what, I dev, I at_, I n]]) := by subst hs3; simp (disch := omega) only [go_sem, if_neg, hbb2]
  have hbl3 : s3.blk (σ.next + 1) = some (.cells 1 (ps.map fun p => [progA p])) := by subst hs3; rw [blk_set, if_neg (by omega), blk_push, if_neg (by omega)]; exact hbl2
  have hbp3 : s3.blk (σ.next + 2) = some (.cells 13 (ps[d].map instrL)) := by subst hs3; rw [blk_set, if_neg (by omega), blk_push, if_neg (by omega)]; exact hbp2
  have hbi3 : s3.blk (σ.next + 3) = some (.cells 13 [instrL ps[d][kk]]) := by subst hs3; rw [blk_set, if_pos (by omega)]; try rfl
  have hn3 : s3.next = σ.next + 4 := by subst hs3; rw [next_set, next_push]; omega
  have hx3 : ∀ c, c < σ.next → s3.blk c = σ.blk c := fun c hc => by subst hs3; rw [blk_set, if_neg (by omega), blk_push, if_neg (by omega)]; exact hx2 c hc
  clear hs3 hbb2 hbl2 hbp2 hx2
  generalize ps[d] = p at *
  generalize p[kk] = i at *
  first | refine .seq (.rg fun A hA K hK => ?_) | refine .seq (.seq (.rg fun A hA K hK => ?_)) | refine .rg fun A hA K hK => ?_ | refine .seq (.rd fun A hA K hK => ?_) | refine .seq (.seq (.rd fun A hA K hK => ?_)) | refine .rd fun A hA K hK => ?_
  simp (maxSteps := 1000000) only [go_sem, hA.nil, hA.go, hA.yes, hA.noT, hA.noF, hA.skp, hbb3]
  first | refine aopq_call (at_spec what 10 _) (by simp (maxSteps := 1000000) only [go_sem, hbb3]) ?_ | refine aop_call (at_spec what 10 _) (by simp (maxSteps := 1000000) only [go_sem, hbb3]) ?_
  try simp (maxSteps := 1000000) only [go_sem, hA.nil, hA.go, hA.yes, hA.noT, hA.noF, hA.skp, hbb3]
  refine hK _ _ ?_; clear hK K hA A
  have hwt := atE_in what 10 (by decide)
  generalize atE what 10 = wh at hwt ⊢
  refine .keep [(0, .sl (σ.next + 1) 0 ps.length), (3, .ptr σ.next 0 0), (5, I d), (6, .sl (σ.next + 2) 0 p.length), (7, I kk), (8, .ptr (σ.next + 3) 0 0), (54, I wh)] (by simp (maxSteps := 1000000) only [go_sem]) ?_
  refine .thenK (fun L t => ∃ (cp : Nat) (p' : List Instr) (i' : Instr), L = [(0, .sl (σ.next + 1) 0 ps.length), (3, .ptr σ.next 0 0), (5, I d), (6, .sl cp 0 p'.length), (7, I kk), (8, .ptr (σ.next + 3) 0 0)] ∧ t.blk σ.next = some (.cells 4 [[I what, I dev, I at_, I n]]) ∧ t.blk (σ.next + 1) = some (.cells 1 (ps.map fun p => [progA p])) ∧
    t.blk cp = some (.cells 13 (p'.map instrL)) ∧ t.blk (σ.next + 3) = some (.cells 13 [instrL i']) ∧ σ.next + 1 < cp ∧ cp ≠ σ.next + 3 ∧ p'.length ≤ k + 1 ∧ (∀ i ∈ p', i.ins.length ≤ k + 1) ∧ i'.ins.length ≤ k + 1 ∧ ∀ c, c < σ.next → t.blk c = σ.blk c) ?_ ?_
  · have nd1 : ¬ σ.next = σ.next + 3 := by omega
    have l8 : i.ins.length ≤ k + 1 := by omega
    -- a field of the instruction is another one
    have mk : ∀ (F : Fr) (i' : Instr) (B : Blk), B = .cells 13 [instrL i'] → i'.ins.length ≤ k + 1 → Fits F [(0, .sl (σ.next + 1) 0 ps.length), (3, .ptr σ.next 0 0), (5, I d), (6, .sl (σ.next + 2) 0 p.length), (7, I kk), (8, .ptr (σ.next + 3) 0 0)] →
        ∃ L, (∃ (cp : Nat) (p' : List Instr) (i' : Instr), L = [(0, .sl (σ.next + 1) 0 ps.length), (3, .ptr σ.next 0 0), (5, I d), (6, .sl cp 0 p'.length), (7, I kk), (8, .ptr (σ.next + 3) 0 0)] ∧ (s3.set (σ.next + 3) B).blk σ.next = some (.cells 4 [[I what, I dev, I at_, I n]]) ∧ (s3.set (σ.next + 3) B).blk (σ.next + 1) = some (.cells 1 (ps.map fun p => [progA p])) ∧
          (s3.set (σ.next + 3) B).blk cp = some (.cells 13 (p'.map instrL)) ∧ (s3.set (σ.next + 3) B).blk (σ.next + 3) = some (.cells 13 [instrL i']) ∧ σ.next + 1 < cp ∧ cp ≠ σ.next + 3 ∧ p'.length ≤ k + 1 ∧ (∀ i ∈ p', i.ins.length ≤ k + 1) ∧ i'.ins.length ≤ k + 1 ∧ ∀ c, c < σ.next → (s3.set (σ.next + 3) B).blk c = σ.blk c) ∧ Fits F L := by
      rintro F i' B rfl hi' hf
      refine ⟨_, ⟨σ.next + 2, p, i', rfl, ?_, ?_, ?_, ?_, by omega, by omega, by have := hp.1; omega, fun j hj => by have := hp.2 j hj; omega, hi', fun c hc => ?_⟩, hf⟩
      · rw [blk_set, if_neg (by omega)]; exact hbb3
      · rw [blk_set, if_neg (by omega)]; exact hbl3
      · rw [blk_set, if_neg (by omega)]; exact hbp3
      · rw [blk_set, if_pos rfl]
      · rw [blk_set, if_neg (by omega)]; exact hx3 c hc
    refine .block ?_
    by_cases e0 : wh = 0
    · subst e0
      first | refine .seq (.rg fun A hA K hK => ?_) | refine .seq (.seq (.rg fun A hA K hK => ?_)) | refine .rg fun A hA K hK => ?_ | refine .seq (.rd fun A hA K hK => ?_) | refine .seq (.seq (.rd fun A hA K hK => ?_)) | refine .rd fun A hA K hK => ?_
      simp (maxSteps := 1000000) only [go_sem, hA.nil, hA.go, hA.yes, hA.noT, hA.noF, hA.skp]
      refine hK _ _ ?_; clear hK K hA A
      refine .cond (t := true) (by simp (maxSteps := 1000000) only [go_sem]) (fun _ => ?_) (fun h => by cases h)
      first | refine .seq (.rg fun A hA K hK => ?_) | refine .seq (.seq (.rg fun A hA K hK => ?_)) | refine .rg fun A hA K hK => ?_ | refine .seq (.rd fun A hA K hK => ?_) | refine .seq (.seq (.rd fun A hA K hK => ?_)) | refine .rd fun A hA K hK => ?_
      simp (maxSteps := 1000000) only [go_sem, hA.nil, hA.go, hA.yes, hA.noT, hA.noF, hA.skp, hbb3, hbi3, instrL, nd1]
      refine hK _ _ ?_; clear hK K hA A
      exact mk _ { i with kind := n } _ rfl (by omega) (by simp (maxSteps := 1000000) only [go_sem])
    have x0 : (wh == 0) = false := by rw [beq_eq_false_iff_ne]; exact e0
    first | refine .seq (.rg fun A hA K hK => ?_) | refine .seq (.seq (.rg fun A hA K hK => ?_)) | refine .rg fun A hA K hK => ?_ | refine .seq (.rd fun A hA K hK => ?_) | refine .seq (.seq (.rd fun A hA K hK => ?_)) | refine .rd fun A hA K hK => ?_
    simp (maxSteps := 1000000) only [go_sem, hA.nil, hA.go, hA.yes, hA.noT, hA.noF, hA.skp]
    refine hK _ _ ?_; clear hK K hA A
    refine .cond (t := false) (by simp (maxSteps := 1000000) only [go_sem, x0]) (fun h => by cases h) (fun _ => ?_)
    by_cases e1 : wh = 1
    · subst e1
      first | refine .seq (.rg fun A hA K hK => ?_) | refine .seq (.seq (.rg fun A hA K hK => ?_)) | refine .rg fun A hA K hK => ?_ | refine .seq (.rd fun A hA K hK => ?_) | refine .seq (.seq (.rd fun A hA K hK => ?_)) | refine .rd fun A hA K hK => ?_
      simp (maxSteps := 1000000) only [go_sem, hA.nil, hA.go, hA.yes, hA.noT, hA.noF, hA.skp]
      refine hK _ _ ?_; clear hK K hA A
      refine .cond (t := true) (by simp (maxSteps := 1000000) only [go_sem]) (fun _ => ?_) (fun h => by cases h)
      first | refine .seq (.rg fun A hA K hK => ?_) | refine .seq (.seq (.rg fun A hA K hK => ?_)) | refine .rg fun A hA K hK => ?_ | refine .seq (.rd fun A hA K hK => ?_) | refine .seq (.seq (.rd fun A hA K hK => ?_)) | refine .rd fun A hA K hK => ?_
      simp (maxSteps := 1000000) only [go_sem, hA.nil, hA.go, hA.yes, hA.noT, hA.noF, hA.skp, hbb3, hbi3, instrL, nd1]
      refine hK _ _ ?_; clear hK K hA A
      exact mk _ { i with out := n } _ rfl (by omega) (by simp (maxSteps := 1000000) only [go_sem])
    have x1 : (wh == 1) = false := by rw [beq_eq_false_iff_ne]; exact e1
    first | refine .seq (.rg fun A hA K hK => ?_) | refine .seq (.seq (.rg fun A hA K hK => ?_)) | refine .rg fun A hA K hK => ?_ | refine .seq (.rd fun A hA K hK => ?_) | refine .seq (.seq (.rd fun A hA K hK => ?_)) | refine .rd fun A hA K hK => ?_
    simp (maxSteps := 1000000) only [go_sem, hA.nil, hA.go, hA.yes, hA.noT, hA.noF, hA.skp]
    refine hK _ _ ?_; clear hK K hA A
    refine .cond (t := false) (by simp (maxSteps := 1000000) only [go_sem, x1]) (fun h => by cases h) (fun _ => ?_)
    by_cases e2 : wh = 2
    · subst e2
      first | refine .seq (.rg fun A hA K hK => ?_) | refine .seq (.seq (.rg fun A hA K hK => ?_)) | refine .rg fun A hA K hK => ?_ | refine .seq (.rd fun A hA K hK => ?_) | refine .seq (.seq (.rd fun A hA K hK => ?_)) | refine .rd fun A hA K hK => ?_
      simp (maxSteps := 1000000) only [go_sem, hA.nil, hA.go, hA.yes, hA.noT, hA.noF, hA.skp]
      refine hK _ _ ?_; clear hK K hA A
      refine .cond (t := true) (by simp (maxSteps := 1000000) only [go_sem]) (fun _ => ?_) (fun h => by cases h)
      first | refine .seq (.rg fun A hA K hK => ?_) | refine .seq (.seq (.rg fun A hA K hK => ?_)) | refine .rg fun A hA K hK => ?_ | refine .seq (.rd fun A hA K hK => ?_) | refine .seq (.seq (.rd fun A hA K hK => ?_)) | refine .rd fun A hA K hK => ?_
      simp (maxSteps := 1000000) only [go_sem, hA.nil, hA.go, hA.yes, hA.noT, hA.noF, hA.skp, hbb3, hbi3, instrL, nd1]
      refine hK _ _ ?_; clear hK K hA A
      exact mk _ { i with ins := [n] } _ rfl (by simp) (by simp (maxSteps := 1000000) only [go_sem])
    have x2 : (wh == 2) = false := by rw [beq_eq_false_iff_ne]; exact e2
    first | refine .seq (.rg fun A hA K hK => ?_) | refine .seq (.seq (.rg fun A hA K hK => ?_)) | refine .rg fun A hA K hK => ?_ | refine .seq (.rd fun A hA K hK => ?_) | refine .seq (.seq (.rd fun A hA K hK => ?_)) | refine .rd fun A hA K hK => ?_
    simp (maxSteps := 1000000) only [go_sem, hA.nil, hA.go, hA.yes, hA.noT, hA.noF, hA.skp]
    refine hK _ _ ?_; clear hK K hA A
    refine .cond (t := false) (by simp (maxSteps := 1000000) only [go_sem, x2]) (fun h => by cases h) (fun _ => ?_)
    by_cases e3 : wh = 3
    · subst e3
      first | refine .seq (.rg fun A hA K hK => ?_) | refine .seq (.seq (.rg fun A hA K hK => ?_)) | refine .rg fun A hA K hK => ?_ | refine .seq (.rd fun A hA K hK => ?_) | refine .seq (.seq (.rd fun A hA K hK => ?_)) | refine .rd fun A hA K hK => ?_
      simp (maxSteps := 1000000) only [go_sem, hA.nil, hA.go, hA.yes, hA.noT, hA.noF, hA.skp]
      refine hK _ _ ?_; clear hK K hA A
      refine .cond (t := true) (by simp (maxSteps := 1000000) only [go_sem]) (fun _ => ?_) (fun h => by cases h)
      first | refine .seq (.rg fun A hA K hK => ?_) | refine .seq (.seq (.rg fun A hA K hK => ?_)) | refine .rg fun A hA K hK => ?_ | refine .seq (.rd fun A hA K hK => ?_) | refine .seq (.seq (.rd fun A hA K hK => ?_)) | refine .rd fun A hA K hK => ?_
      simp (maxSteps := 1000000) only [go_sem, hA.nil, hA.go, hA.yes, hA.noT, hA.noF, hA.skp, hbb3, hbi3, instrL, nd1]
      refine hK _ _ ?_; clear hK K hA A
      exact mk _ { i with dev := n } _ rfl (by omega) (by simp (maxSteps := 1000000) only [go_sem])
    have x3 : (wh == 3) = false := by rw [beq_eq_false_iff_ne]; exact e3
    first | refine .seq (.rg fun A hA K hK => ?_) | refine .seq (.seq (.rg fun A hA K hK => ?_)) | refine .rg fun A hA K hK => ?_ | refine .seq (.rd fun A hA K hK => ?_) | refine .seq (.seq (.rd fun A hA K hK => ?_)) | refine .rd fun A hA K hK => ?_
    simp (maxSteps := 1000000) only [go_sem, hA.nil, hA.go, hA.yes, hA.noT, hA.noF, hA.skp]
    refine hK _ _ ?_; clear hK K hA A
    refine .cond (t := false) (by simp (maxSteps := 1000000) only [go_sem, x3]) (fun h => by cases h) (fun _ => ?_)
    by_cases e4 : wh = 4
    · subst e4
      first | refine .seq (.rg fun A hA K hK => ?_) | refine .seq (.seq (.rg fun A hA K hK => ?_)) | refine .rg fun A hA K hK => ?_ | refine .seq (.rd fun A hA K hK => ?_) | refine .seq (.seq (.rd fun A hA K hK => ?_)) | refine .rd fun A hA K hK => ?_
      simp (maxSteps := 1000000) only [go_sem, hA.nil, hA.go, hA.yes, hA.noT, hA.noF, hA.skp]
      refine hK _ _ ?_; clear hK K hA A
      refine .cond (t := true) (by simp (maxSteps := 1000000) only [go_sem]) (fun _ => ?_) (fun h => by cases h)
      first | refine .seq (.rg fun A hA K hK => ?_) | refine .seq (.seq (.rg fun A hA K hK => ?_)) | refine .rg fun A hA K hK => ?_ | refine .seq (.rd fun A hA K hK => ?_) | refine .seq (.seq (.rd fun A hA K hK => ?_)) | refine .rd fun A hA K hK => ?_
      simp (maxSteps := 1000000) only [go_sem, hA.nil, hA.go, hA.yes, hA.noT, hA.noF, hA.skp, hbb3, hbi3, instrL, nd1]
      refine hK _ _ ?_; clear hK K hA A
      exact mk _ { i with tag := n } _ rfl (by omega) (by simp (maxSteps := 1000000) only [go_sem])
    have x4 : (wh == 4) = false := by rw [beq_eq_false_iff_ne]; exact e4
    first | refine .seq (.rg fun A hA K hK => ?_) | refine .seq (.seq (.rg fun A hA K hK => ?_)) | refine .rg fun A hA K hK => ?_ | refine .seq (.rd fun A hA K hK => ?_) | refine .seq (.seq (.rd fun A hA K hK => ?_)) | refine .rd fun A hA K hK => ?_
    simp (maxSteps := 1000000) only [go_sem, hA.nil, hA.go, hA.yes, hA.noT, hA.noF, hA.skp]
    refine hK _ _ ?_; clear hK K hA A
    refine .cond (t := false) (by simp (maxSteps := 1000000) only [go_sem, x4]) (fun h => by cases h) (fun _ => ?_)
    by_cases e5 : wh = 5
    · subst e5
      first | refine .seq (.rg fun A hA K hK => ?_) | refine .seq (.seq (.rg fun A hA K hK => ?_)) | refine .rg fun A hA K hK => ?_ | refine .seq (.rd fun A hA K hK => ?_) | refine .seq (.seq (.rd fun A hA K hK => ?_)) | refine .rd fun A hA K hK => ?_
      simp (maxSteps := 1000000) only [go_sem, hA.nil, hA.go, hA.yes, hA.noT, hA.noF, hA.skp]
      refine hK _ _ ?_; clear hK K hA A
      refine .cond (t := true) (by simp (maxSteps := 1000000) only [go_sem]) (fun _ => ?_) (fun h => by cases h)
      first | refine .seq (.rg fun A hA K hK => ?_) | refine .seq (.seq (.rg fun A hA K hK => ?_)) | refine .rg fun A hA K hK => ?_ | refine .seq (.rd fun A hA K hK => ?_) | refine .seq (.seq (.rd fun A hA K hK => ?_)) | refine .rd fun A hA K hK => ?_
      simp (maxSteps := 1000000) only [go_sem, hA.nil, hA.go, hA.yes, hA.noT, hA.noF, hA.skp, hbb3, hbi3, instrL, nd1]
      refine hK _ _ ?_; clear hK K hA A
      exact mk _ { i with n := n } _ rfl (by omega) (by simp (maxSteps := 1000000) only [go_sem])
    have x5 : (wh == 5) = false := by rw [beq_eq_false_iff_ne]; exact e5
    first | refine .seq (.rg fun A hA K hK => ?_) | refine .seq (.seq (.rg fun A hA K hK => ?_)) | refine .rg fun A hA K hK => ?_ | refine .seq (.rd fun A hA K hK => ?_) | refine .seq (.seq (.rd fun A hA K hK => ?_)) | refine .rd fun A hA K hK => ?_
    simp (maxSteps := 1000000) only [go_sem, hA.nil, hA.go, hA.yes, hA.noT, hA.noF, hA.skp]
    refine hK _ _ ?_; clear hK K hA A
    refine .cond (t := false) (by simp (maxSteps := 1000000) only [go_sem, x5]) (fun h => by cases h) (fun _ => ?_)
    by_cases e6 : wh = 6
    · subst e6
      first | refine .seq (.rg fun A hA K hK => ?_) | refine .seq (.seq (.rg fun A hA K hK => ?_)) | refine .rg fun A hA K hK => ?_ | refine .seq (.rd fun A hA K hK => ?_) | refine .seq (.seq (.rd fun A hA K hK => ?_)) | refine .rd fun A hA K hK => ?_
      simp (maxSteps := 1000000) only [go_sem, hA.nil, hA.go, hA.yes, hA.noT, hA.noF, hA.skp]
      refine hK _ _ ?_; clear hK K hA A
      refine .cond (t := true) (by simp (maxSteps := 1000000) only [go_sem]) (fun _ => ?_) (fun h => by cases h)
      have f1 : (kk : Int) ≤ p.length := by omega
      have f2 : kk ≤ p.length := by omega
      have f3 : ((kk + 1 : Nat) : Int) ≤ p.length := by omega
      have f4 : kk + (1 + (p.length - (kk + 1))) ≤ p.length := by omega
      have w1 : IntKind.i64.wrap ((kk : Int) + 1) = ((kk + 1 : Nat) : Int) := IntWalk.i64_in _ (by omega)
      first | refine .seq (.rg fun A hA K hK => ?_) | refine .seq (.seq (.rg fun A hA K hK => ?_)) | refine .rg fun A hA K hK => ?_ | refine .seq (.rd fun A hA K hK => ?_) | refine .seq (.seq (.rd fun A hA K hK => ?_)) | refine .rd fun A hA K hK => ?_
      simp (maxSteps := 1000000) only [go_sem, hA.nil, hA.go, hA.yes, hA.noT, hA.noF, hA.skp, hbp3, f1, f2, f3, f4, w1, List.length_map, Int.natCast_nonneg]
      refine ⟨by simp only [most, List.length_take, List.length_drop, List.length_map]; omega, by simp only [most, List.length_take, List.length_drop, List.length_map]; omega, ?_⟩
      refine hK _ _ ?_; clear hK K hA A
      have hel : (p.eraseIdx kk).length = p.length - 1 := by rw [List.length_eraseIdx, if_pos hkk]
      have hrows : List.take kk (List.map instrL p) ++ List.take (p.length - (kk + 1)) (List.drop (kk + 1) (List.map instrL p)) = (p.eraseIdx kk).map instrL := by
        rw [List.eraseIdx_eq_take_drop_succ, List.map_append, List.map_take, List.map_drop]
        congr 1
        exact List.take_of_length_le (by simp)
      have hle : kk + (List.take (p.length - (kk + 1)) (List.drop (kk + 1) (List.map instrL p))).length = (p.eraseIdx kk).length := by
        simp only [List.length_take, List.length_drop, List.length_map]; omega
      refine ⟨_, ⟨s3.next, p.eraseIdx kk, i, rfl, ?_, ?_, ?_, ?_, by omega, by omega, by have := hp.1; omega, fun j hj => by have := hp.2 j (List.mem_of_mem_eraseIdx hj); omega, l8, fun c hc => ?_⟩, by simp (maxSteps := 1000000) only [go_sem]; try (rw [hle]; done)⟩
      · simp (disch := omega) only [go_sem, if_neg, hbb3]
      · simp (disch := omega) only [go_sem, if_neg]; exact hbl3
      · simp (maxSteps := 1000000) only [go_sem]; rw [hrows]
      · simp (disch := omega) only [go_sem, if_neg, hbi3]
      · simp (disch := omega) only [go_sem, if_neg, hx3 c hc]
    have x6 : (wh == 6) = false := by rw [beq_eq_false_iff_ne]; exact e6
    first | refine .seq (.rg fun A hA K hK => ?_) | refine .seq (.seq (.rg fun A hA K hK => ?_)) | refine .rg fun A hA K hK => ?_ | refine .seq (.rd fun A hA K hK => ?_) | refine .seq (.seq (.rd fun A hA K hK => ?_)) | refine .rd fun A hA K hK => ?_
    simp (maxSteps := 1000000) only [go_sem, hA.nil, hA.go, hA.yes, hA.noT, hA.noF, hA.skp]
    refine hK _ _ ?_; clear hK K hA A
    refine .cond (t := false) (by simp (maxSteps := 1000000) only [go_sem, x6]) (fun h => by cases h) (fun _ => ?_)
    by_cases e7 : wh = 7
    · subst e7
      first | refine .seq (.rg fun A hA K hK => ?_) | refine .seq (.seq (.rg fun A hA K hK => ?_)) | refine .rg fun A hA K hK => ?_ | refine .seq (.rd fun A hA K hK => ?_) | refine .seq (.seq (.rd fun A hA K hK => ?_)) | refine .rd fun A hA K hK => ?_
      simp (maxSteps := 1000000) only [go_sem, hA.nil, hA.go, hA.yes, hA.noT, hA.noF, hA.skp]
      refine hK _ _ ?_; clear hK K hA A
      refine .cond (t := true) (by simp (maxSteps := 1000000) only [go_sem]) (fun _ => ?_) (fun h => by cases h)
      have f1 : p.length + 1 ≤ most := by have := hp.1; simp only [most]; omega
      have f2 : (p.length + 1) * 176 ≤ most := by have := hp.1; simp only [most]; omega
      have ht : List.take p.length (List.map instrL p) = List.map instrL p := List.take_of_length_le (by simp)
      first | refine .seq (.rg fun A hA K hK => ?_) | refine .seq (.seq (.rg fun A hA K hK => ?_)) | refine .rg fun A hA K hK => ?_ | refine .seq (.rd fun A hA K hK => ?_) | refine .seq (.seq (.rd fun A hA K hK => ?_)) | refine .rd fun A hA K hK => ?_
      simp (maxSteps := 1000000) only [go_sem, hA.nil, hA.go, hA.yes, hA.noT, hA.noF, hA.skp, hbp3, hbi3, f1, f2, ht, List.length_map]
      refine hK _ _ ?_; clear hK K hA A
      refine ⟨_, ⟨s3.next, p ++ [i], i, rfl, ?_, ?_, ?_, ?_, by omega, by omega, by have := hp.1; simp; omega, fun j hj => ?_, l8, fun c hc => ?_⟩, by simp (maxSteps := 1000000) only [go_sem, List.length_append]⟩
      · simp (disch := omega) only [go_sem, if_neg, hbb3]
      · simp (disch := omega) only [go_sem, if_neg]; exact hbl3
      · simp (maxSteps := 1000000) only [go_sem, List.map_append]
      · simp (disch := omega) only [go_sem, if_neg, hbi3]
      · rcases List.mem_append.1 hj with hj | hj
        · have := hp.2 j hj; omega
        · rw [List.mem_singleton.1 hj]; exact l8
      · simp (disch := omega) only [go_sem, if_neg, hx3 c hc]
    have x7 : (wh == 7) = false := by rw [beq_eq_false_iff_ne]; exact e7
    first | refine .seq (.rg fun A hA K hK => ?_) | refine .seq (.seq (.rg fun A hA K hK => ?_)) | refine .rg fun A hA K hK => ?_ | refine .seq (.rd fun A hA K hK => ?_) | refine .seq (.seq (.rd fun A hA K hK => ?_)) | refine .rd fun A hA K hK => ?_
    simp (maxSteps := 1000000) only [go_sem, hA.nil, hA.go, hA.yes, hA.noT, hA.noF, hA.skp]
    refine hK _ _ ?_; clear hK K hA A
    refine .cond (t := false) (by simp (maxSteps := 1000000) only [go_sem, x7]) (fun h => by cases h) (fun _ => ?_)
    by_cases e8 : wh = 8
    · subst e8
      first | refine .seq (.rg fun A hA K hK => ?_) | refine .seq (.seq (.rg fun A hA K hK => ?_)) | refine .rg fun A hA K hK => ?_ | refine .seq (.rd fun A hA K hK => ?_) | refine .seq (.seq (.rd fun A hA K hK => ?_)) | refine .rd fun A hA K hK => ?_
      simp (maxSteps := 1000000) only [go_sem, hA.nil, hA.go, hA.yes, hA.noT, hA.noF, hA.skp]
      refine hK _ _ ?_; clear hK K hA A
      refine .cond (t := true) (by simp (maxSteps := 1000000) only [go_sem]) (fun _ => ?_) (fun h => by cases h)
      first | refine .seq (.rg fun A hA K hK => ?_) | refine .seq (.seq (.rg fun A hA K hK => ?_)) | refine .rg fun A hA K hK => ?_ | refine .seq (.rd fun A hA K hK => ?_) | refine .seq (.seq (.rd fun A hA K hK => ?_)) | refine .rd fun A hA K hK => ?_
      simp (maxSteps := 1000000) only [go_sem, hA.nil, hA.go, hA.yes, hA.noT, hA.noF, hA.skp, hbb3, hbi3, instrL, nd1]
      refine hK _ _ ?_; clear hK K hA A
      exact mk _ { i with node := { i.node with op := n } } _ rfl (by omega) (by simp (maxSteps := 1000000) only [go_sem])
    have x8 : (wh == 8) = false := by rw [beq_eq_false_iff_ne]; exact e8
    first | refine .seq (.rg fun A hA K hK => ?_) | refine .seq (.seq (.rg fun A hA K hK => ?_)) | refine .rg fun A hA K hK => ?_ | refine .seq (.rd fun A hA K hK => ?_) | refine .seq (.seq (.rd fun A hA K hK => ?_)) | refine .rd fun A hA K hK => ?_
    simp (maxSteps := 1000000) only [go_sem, hA.nil, hA.go, hA.yes, hA.noT, hA.noF, hA.skp]
    refine hK _ _ ?_; clear hK K hA A
    refine .cond (t := false) (by simp (maxSteps := 1000000) only [go_sem, x8]) (fun h => by cases h) (fun _ => .entQ ?_)
    have n4 : ¬ σ.next = s3.next := by omega
    have n5 : ¬ σ.next + 3 = s3.next := by omega
    have n6 : ¬ σ.next + 3 = s3.next + 1 := by omega
    have f1 : i.ins.length ≤ most := by simp only [most]; omega
    have f2 : i.ins.length * 8 ≤ most := by simp only [most]; omega
    have f3 : i.ins.length + 1 ≤ most := by simp only [most]; omega
    have f4 : (i.ins.length + 1) * 8 ≤ most := by simp only [most]; omega
    refine .rdx fun A hA K hK => ?_
    simp (maxSteps := 200000) only [go_sem, hA.nil, hA.pur, hA.go, hA.yes, hA.noT, hA.noF, hA.skp, pure_mv, eff_mv, pure_pk, eff_pk, pure_al, eff_al, pure_bx, eff_bx, pure_bd, eff_bd, pure_bs, eff_bs, pure_ld, eff_ld, pure_st, eff_st, pure_nc, eff_nc, pure_bin, eff_bin, pure_un, eff_un, pure_cv, eff_cv, pure_mi, eff_mi, pure_mf, eff_mf, pure_mm, eff_mm, pure_ms, eff_ms, pure_sc, eff_sc, pure_fa, eff_fa, pure_fl, eff_fl, pure_ia, eff_ia, pure_lk, eff_lk, pure_mu, eff_mu, pure_lm, eff_lm, pure_rg, eff_rg, pure_nx, eff_nx, pure_en, eff_en, pure_ta, eff_ta, pure_ex, eff_ex, pure_ln, eff_ln, pure_ap, eff_ap, pure_mx, eff_mx, pure_call, eff_call, pure_callv, eff_callv, chk_nil, chk_cons, again, List.contains_cons, List.contains_nil, hbb3, hbi3, n4, n5, n6, f1, f2, f3, f4, instrL, List.length_map]
    refine hK _ _ ?_; clear hK K hA A
    have ht : List.take i.ins.length (i.ins.map fun n => [I n]) = i.ins.map fun n => [I n] := List.take_of_length_le (by simp)
    refine ⟨_, _, .freezeAt (b' := σ.next + 3) (b := s3.next + 1) (sz' := 13) (sz := 1) (i := 0) (j := 2) (off := 0) (n := i.ins.length + 1) (rows' := [(instrL i).set 2 (.sl (s3.next + 1) 0 (i.ins.length + 1))]) (rows := (i.ins ++ [n]).map fun n => [I n]) (by simp (maxSteps := 1000000) only [go_sem, instrL]) (by simp) (by simp [instrL]) rfl
      (by simp (maxSteps := 1000000) only [go_sem, n6, show ¬ s3.next + 1 = σ.next + 3 by omega, ht, List.map_append]) (by omega) (by simp), _, ⟨σ.next + 2, p, { i with ins := i.ins ++ [n] }, rfl, ?_, ?_, ?_, ?_, by omega, by omega, by have := hp.1; omega, fun j hj => by have := hp.2 j hj; omega, by simp; omega, fun c hc => ?_⟩, by simp (maxSteps := 1000000) only [go_sem]⟩
    · simp (disch := omega) only [go_sem, if_neg, hbb3]
    · simp (disch := omega) only [go_sem, if_neg]; exact hbl3
    · simp (disch := omega) only [go_sem, if_neg, hbp3]
    · have ht2 : List.take (i.ins.length + 1) ((i.ins ++ [n]).map fun n => [I n]) = (i.ins ++ [n]).map fun n => [I n] := List.take_of_length_le (by simp)
      simp (maxSteps := 1000000) only [go_sem, instrL, ht2]
    · simp (disch := omega) only [go_sem, if_neg, hx3 c hc]
  rintro L t ⟨cp, p', i', rfl, tb, tl, tp, ti, hcp, hcp3, hl', hi', hii', hx⟩
  have m7 : p'.length ≤ most := by simp only [most]; omega
  have fin : ∀ (q : List Instr) (t2 : St) (F : Fr), Fits F [(0, .sl (σ.next + 1) 0 ps.length), (5, I d), (6, .sl cp 0 q.length)] → t2.blk (σ.next + 1) = some (.cells 1 (ps.map fun p => [progA p])) → t2.blk cp = some (.cells 13 (q.map instrL)) → q.length ≤ k + 1 → (∀ i ∈ q, i.ins.length ≤ k + 1) → (∀ c, c < σ.next → t2.blk c = σ.blk c) →
      SWP Try.prog σ.next (.seq (.reg [⟨some 131, none, .mv (.t 0)⟩, ⟨some 132, none, .mv (.t 5)⟩, ⟨some 133, none, .mv (.t 6)⟩, ⟨some 134, none, .ia 1 (.t 131) (.t 132)⟩, ⟨none, none, .st 1 (.t 134) (.t 133)⟩]) (.seq (.reg [⟨some 135, none, .mv (.t 0)⟩, ⟨some 4, none, .mv (.t 135)⟩]) .ret))
        (retQ σ.next [.t 4] fun v s => s = σ ∧ ∃ ps', v = progsA ps' ∧ Sz (k + 1) ps') F t2 := by
    intro q t2 F hf hl2 hc2 hq1 hq2 hx2
    simp (maxSteps := 1000000) only [go_sem] at hf
    first | refine .seq (.rg fun A hA K hK => ?_) | refine .seq (.seq (.rg fun A hA K hK => ?_)) | refine .rg fun A hA K hK => ?_ | refine .seq (.rd fun A hA K hK => ?_) | refine .seq (.seq (.rd fun A hA K hK => ?_)) | refine .rd fun A hA K hK => ?_
    simp (maxSteps := 1000000) only [go_sem, hA.nil, hA.go, hA.yes, hA.noT, hA.noF, hA.skp, hf, hl2, e0, hd, List.length_map]
    refine hK _ _ ?_; clear hK K hA A
    first | refine .seq (.rg fun A hA K hK => ?_) | refine .seq (.seq (.rg fun A hA K hK => ?_)) | refine .rg fun A hA K hK => ?_ | refine .seq (.rd fun A hA K hK => ?_) | refine .seq (.seq (.rd fun A hA K hK => ?_)) | refine .rd fun A hA K hK => ?_
    simp (maxSteps := 1000000) only [go_sem, hA.nil, hA.go, hA.yes, hA.noT, hA.noF, hA.skp, hf]
    refine hK _ _ ?_; clear hK K hA A
    exact bent_end (n := 4) (d := d) (p' := q) (cp := cp) wf hs hd hq1 hq2 (by simp (maxSteps := 1000000) only [go_sem]) (by simp (maxSteps := 1000000) only [go_sem, hgp]) (by simp (disch := omega) only [go_sem, if_neg, hc2]) hcp (fun c hc => by simp (disch := omega) only [go_sem, if_neg, hx2 c hc])
  refine .seq (.mid (fun F s => ∃ bb : Bool, F 126 = .bool bb ∧ s = t ∧ (bb = true → kk < p'.length) ∧ Fits F [(0, .sl (σ.next + 1) 0 ps.length), (5, I d), (6, .sl cp 0 p'.length), (7, I kk), (8, .ptr (σ.next + 3) 0 0)]) ?_ ?_)
  · by_cases hkl : (kk : Int) < p'.length
    · first | refine .seq (.rg fun A hA K hK => ?_) | refine .seq (.seq (.rg fun A hA K hK => ?_)) | refine .rg fun A hA K hK => ?_ | refine .seq (.rd fun A hA K hK => ?_) | refine .seq (.seq (.rd fun A hA K hK => ?_)) | refine .rd fun A hA K hK => ?_
      simp (maxSteps := 1000000) only [go_sem, hA.nil, hA.go, hA.yes, hA.noT, hA.noF, hA.skp, hkl, tb]
      first | refine aopq_call (at_spec what 10 _) (by simp (maxSteps := 1000000) only [go_sem, hkl, tb]) ?_ | refine aop_call (at_spec what 10 _) (by simp (maxSteps := 1000000) only [go_sem, hkl, tb]) ?_
      try simp (maxSteps := 1000000) only [go_sem, hA.nil, hA.go, hA.yes, hA.noT, hA.noF, hA.skp, hkl, tb]
      refine hK _ _ ?_; clear hK K hA A
      exact ⟨_, by simp (maxSteps := 1000000) only [go_sem]; try rfl, rfl, fun _ => by omega, by simp (maxSteps := 1000000) only [go_sem]⟩
    · first | refine .seq (.rg fun A hA K hK => ?_) | refine .seq (.seq (.rg fun A hA K hK => ?_)) | refine .rg fun A hA K hK => ?_ | refine .seq (.rd fun A hA K hK => ?_) | refine .seq (.seq (.rd fun A hA K hK => ?_)) | refine .rd fun A hA K hK => ?_
      simp (maxSteps := 1000000) only [go_sem, hA.nil, hA.go, hA.yes, hA.noT, hA.noF, hA.skp, hkl]
      refine hK _ _ ?_; clear hK K hA A
      exact ⟨false, by simp (maxSteps := 1000000) only [go_sem], rfl, (fun h => by cases h), by simp (maxSteps := 1000000) only [go_sem]⟩
  rintro F s ⟨bb, hbb, rfl, hbk, hf⟩
  refine .thenK (fun L u => ∃ q : List Instr, L = [(0, .sl (σ.next + 1) 0 ps.length), (5, I d), (6, .sl cp 0 q.length)] ∧ u.blk (σ.next + 1) = some (.cells 1 (ps.map fun p => [progA p])) ∧ u.blk cp = some (.cells 13 (q.map instrL)) ∧ q.length ≤ k + 1 ∧ (∀ i ∈ q, i.ins.length ≤ k + 1) ∧ ∀ c, c < σ.next → u.blk c = σ.blk c) ?_ ?_
  · refine .cond (t := bb) hbb (fun ht => ?_) (fun _ => .skip ⟨_, ⟨p', rfl, tl, tp, hl', hi', hx⟩, by simp (maxSteps := 1000000) only [go_sem] at hf; simp (maxSteps := 1000000) only [go_sem, hf]⟩)
    have hkl := hbk ht
    have e9 : (kk : Int) < p'.length := by omega
    have hgk := prog_get hkl
    have hft := hf
    simp (maxSteps := 1000000) only [go_sem] at hft
    first | refine .seq (.rg fun A hA K hK => ?_) | refine .seq (.seq (.rg fun A hA K hK => ?_)) | refine .rg fun A hA K hK => ?_ | refine .seq (.rd fun A hA K hK => ?_) | refine .seq (.seq (.rd fun A hA K hK => ?_)) | refine .rd fun A hA K hK => ?_
    simp (maxSteps := 1000000) only [go_sem, hA.nil, hA.go, hA.yes, hA.noT, hA.noF, hA.skp, hft, ti, tp, e9, hkl, hgk, List.length_map]
    refine hK _ _ ?_; clear hK K hA A
    refine ⟨_, ⟨p'.set kk i', rfl, ?_, ?_, by simpa using hl', fun j hj => ?_, fun c hc => ?_⟩, by simp (maxSteps := 1000000) only [go_sem, hft]⟩
    · simp (disch := omega) only [go_sem, if_neg]; exact tl
    · simp (maxSteps := 1000000) only [go_sem, List.map_set, instrL, show (instrL p'[kk]).length = 13 from rfl]
    · rcases List.mem_or_eq_of_mem_set hj with hj | rfl
      · exact hi' j hj
      · exact hii'
    · simp (disch := omega) only [go_sem, if_neg, hx c hc]
  rintro L u ⟨q, rfl, h1, h2, h3, h4, h5⟩
  exact fin q u _ (by simp (maxSteps := 1000000) only [go_sem]) h1 h2 h3 h4 h5
end Go.Proofs.Ytfjbabacpnnjmaa.Av

namespace Go.Proofs.Ytfjbabacpnnjmaa.Av
open Go Go.Av
set_option maxRecDepth 20000
set_option maxHeartbeats 4000000

attribute [local go_sem] step_apply stepD_apply stepE_apply
attribute [local go_sem] aopq_mv aopq_pk aopq_al aopq_bx aopq_bd aopq_bs aopq_ld aopq_st aopq_nc aopq_bin aopq_un aopq_cv aopq_mi aopq_mf aopq_mm aopq_ms aopq_sc aopq_fa aopq_fl aopq_ia aopq_lk aopq_mu aopq_lm aopq_rg aopq_en aopq_ta aopq_ex aopq_ln aopq_ap aopq_mx aopq.eq_3 aop.eq_1 aop.eq_2 aop.eq_3 aop.eq_4 aop.eq_5 aop.eq_6 aop.eq_7 aop.eq_8 aop.eq_9 aop_bin atS_apply aop_un_not aop_un_neg aop.eq_14 aop.eq_15 aop.eq_16 aop.eq_17 aop.eq_18 aop_sc cutS_apply cutN_apply cutL_apply cutO_apply aop.eq_20 aop.eq_21 aop.eq_22 aop.eq_23 aop.eq_24 aop.eq_25 aop.eq_26 aop.eq_27 aop.eq_28 aop.eq_29 aop.eq_30 aop.eq_31 aop.eq_32 blk_push next_push blk_set next_set blk_kill next_kill frL_nil frL_cons Fits_nil Fits_cons Int.reduceBEq Int.reduceBNe Nat.sub_zero Option.map_some Option.map_none List.set_cons_succ true_or or_true false_or or_false Int.le_refl Int.cast_ofNat_Int decide_true decide_false List.cons_append fillA fillR rowsOf List.replicate_succ List.replicate_zero Nat.zero_mul getD_drop List.length_drop splice List.nil_append List.append_nil cond_true cond_false List.set_cons_zero List.length_set ev put_some put_none upd_apply abin asNat bounds row1 mk List.length_cons List.length_nil List.length_map List.drop_zero List.drop_succ_cons List.drop_nil List.getD_cons_zero List.getD_cons_succ Option.getD_none Option.getD_some List.take_succ_cons List.take_zero List.take_nil true_and and_true Int.toNat_natCast if_true if_false Nat.zero_add Nat.add_zero List.map_cons List.map_nil Nat.reduceEqDiff Nat.left_eq_add Nat.add_eq_left Nat.add_left_cancel_iff Nat.add_assoc Nat.reduceSub Nat.reduceAdd Nat.reduceLeDiff Nat.le_refl Nat.zero_le Nat.zero_lt_one Nat.lt_add_one Int.reduceLT Int.reduceLE Int.reduceToNat Nat.reduceLT Nat.reduceBEq Bool.false_eq_true Nat.reduceBNe ne_eq not_false_eq_true not_true_eq_false false_and and_false reduceIte Int.natCast_nonneg reduceCtorEq parts_agg parts_bool parts_int parts_str parts_lit parts_nils parts_sl parts_ptr Int.natCast_nonneg Int.natCast_nonneg beq_self_eq_true bne_self_eq_false Bool.true_and Bool.false_and Bool.and_true Bool.and_false Bool.true_or Bool.false_or Bool.or_true Bool.or_false Bool.not_true Bool.not_false
attribute [local go_sem] instr0 instr1 instr2 instr10 instr11 instr12 instrN instrA instr_len node0 node1 node2 node3 node4 node5 node6 nodeA node_len I ints progA progsA

structure Bend where
  what : Int
  dev : Int
  at_ : Int
  n : Int
def bendL (b : Bend) : List AV := [I b.what, I b.dev, I b.at_, I b.n]
def bendsA (l : List Bend) : AV := .lit 4 (l.map bendL)
theorem bend_get {l : List Bend} {i : Nat} (h : i < l.length) : (l.map bendL).getD i [] = bendL l[i] := by simp [h]
theorem bend_take (b : Bend) : (bendL b).take 4 = bendL b := rfl
theorem bend_len (b : Bend) : (bendL b).length = 4 := rfl
attribute [local go_sem] bend_take bend_len

/-- keep.Bent -/
theorem bentAll_spec {k : Nat} {ps : List (List Instr)} (hs : Sz k ps) (hk : k ≤ 1000) (bs : List Bend) (σ : St) :
    TQ Try.prog 20 [progsA ps, bendsA bs] σ fun v s => s = σ ∧ ∃ ps', v = progsA ps' ∧ Sz (k + 3) ps' := by
  refine in20 (by simp) fun wf hab => ?_
  clear hab
  unfold c20
  first | refine .seq (.rg fun A hA K hK => ?_) | refine .seq (.seq (.rg fun A hA K hK => ?_)) | refine .rg fun A hA K hK => ?_ | refine .seq (.rd fun A hA K hK => ?_) | refine .seq (.seq (.rd fun A hA K hK => ?_)) | refine .rd fun A hA K hK => ?_
  simp (maxSteps := 1000000) only [go_sem, hA.nil, hA.go, hA.yes, hA.noT, hA.noF, hA.skp]
  refine hK _ _ ?_; clear hK K hA A
  first | refine .seq (.rg fun A hA K hK => ?_) | refine .seq (.seq (.rg fun A hA K hK => ?_)) | refine .rg fun A hA K hK => ?_ | refine .seq (.rd fun A hA K hK => ?_) | refine .seq (.seq (.rd fun A hA K hK => ?_)) | refine .rd fun A hA K hK => ?_
  simp (maxSteps := 1000000) only [go_sem, hA.nil, hA.go, hA.yes, hA.noT, hA.noF, hA.skp]
  refine hK _ _ ?_; clear hK K hA A
  refine .loopK (fun n L t => ∃ (i : Nat) (q : List (List Instr)), n = 3 - i ∧ i ≤ 3 ∧ L = [(0, progsA q), (1, bendsA bs), (5, I i)] ∧ Sz (k + i) q ∧ t = σ) 3 ⟨_, ⟨0, ps, rfl, by omega, rfl, hs, rfl⟩, by simp (maxSteps := 1000000) only [go_sem, bendsA]; try rfl⟩ ?_
  rintro n L t ⟨i, q, hn, hi3, rfl, hq, rfl⟩
  have done : ∀ F, Fits F [(0, progsA q)] → SWP Try.prog t.next (.seq (.reg [⟨some 22, none, .mv (.t 0)⟩, ⟨some 4, none, .mv (.t 22)⟩]) .ret) (retQ t.next [.t 4] fun v s => s = t ∧ ∃ ps', v = progsA ps' ∧ Sz (k + 3) ps') F t := by
    intro F hf
    simp (maxSteps := 1000000) only [go_sem] at hf
    first | refine .seq (.rg fun A hA K hK => ?_) | refine .seq (.seq (.rg fun A hA K hK => ?_)) | refine .rg fun A hA K hK => ?_ | refine .seq (.rd fun A hA K hK => ?_) | refine .seq (.seq (.rd fun A hA K hK => ?_)) | refine .rd fun A hA K hK => ?_
    simp (maxSteps := 1000000) only [go_sem, hA.nil, hA.go, hA.yes, hA.noT, hA.noF, hA.skp, hf]
    refine hK _ _ ?_; clear hK K hA A
    exact .ret (retS (v := progsA q) (by simp (maxSteps := 1000000) only [go_sem]) ⟨rfl, q, rfl, hq.mono (by omega)⟩)
  by_cases h1 : (i : Int) < bs.length
  · by_cases h2 : (i : Int) < 3
    · first | refine .seq (.rg fun A hA K hK => ?_) | refine .seq (.seq (.rg fun A hA K hK => ?_)) | refine .rg fun A hA K hK => ?_ | refine .seq (.rd fun A hA K hK => ?_) | refine .seq (.seq (.rd fun A hA K hK => ?_)) | refine .rd fun A hA K hK => ?_
      simp (maxSteps := 1000000) only [go_sem, hA.nil, hA.go, hA.yes, hA.noT, hA.noF, hA.skp, bendsA, h1, h2]
      refine hK _ _ ?_; clear hK K hA A
      refine .cond (t := true) (by simp (maxSteps := 1000000) only [go_sem, h1, h2]) (fun _ => .skip ?_) (fun h => by cases h)
      have hib : i < bs.length := by omega
      have hg := bend_get hib
      refine .seq (.block ?_)
      first | refine .seq (.rg fun A hA K hK => ?_) | refine .seq (.seq (.rg fun A hA K hK => ?_)) | refine .rg fun A hA K hK => ?_ | refine .seq (.rd fun A hA K hK => ?_) | refine .seq (.seq (.rd fun A hA K hK => ?_)) | refine .rd fun A hA K hK => ?_
      simp (maxSteps := 1000000) only [go_sem, hA.nil, hA.go, hA.yes, hA.noT, hA.noF, hA.skp, h1, hg, hib]
      refine aopq_callQ (bent_spec hq (by omega) bs[i].what bs[i].dev bs[i].at_ bs[i].n t) (by simp (maxSteps := 1000000) only [go_sem, bendL]) ?_
      rintro v s ⟨rfl, q', rfl, hq'⟩
      try simp (maxSteps := 1000000) only [go_sem, hA.nil, hA.go, hA.yes, hA.noT, hA.noF, hA.skp]
      refine hK _ _ ?_; clear hK K hA A
      have w1 : IntKind.i64.wrap ((i : Int) + 1) = ((i + 1 : Nat) : Int) := IntWalk.i64_in _ (by omega)
      first | refine .seq (.rg fun A hA K hK => ?_) | refine .seq (.seq (.rg fun A hA K hK => ?_)) | refine .rg fun A hA K hK => ?_ | refine .seq (.rd fun A hA K hK => ?_) | refine .seq (.seq (.rd fun A hA K hK => ?_)) | refine .rd fun A hA K hK => ?_
      simp (maxSteps := 1000000) only [go_sem, hA.nil, hA.go, hA.yes, hA.noT, hA.noF, hA.skp, w1]
      refine hK _ _ ?_; clear hK K hA A
      exact ⟨3 - (i + 1), by omega, _, ⟨i + 1, q', rfl, by omega, rfl, hq', rfl⟩, by simp (maxSteps := 1000000) only [go_sem, bendsA]; try rfl⟩
    · first | refine .seq (.rg fun A hA K hK => ?_) | refine .seq (.seq (.rg fun A hA K hK => ?_)) | refine .rg fun A hA K hK => ?_ | refine .seq (.rd fun A hA K hK => ?_) | refine .seq (.seq (.rd fun A hA K hK => ?_)) | refine .rd fun A hA K hK => ?_
      simp (maxSteps := 1000000) only [go_sem, hA.nil, hA.go, hA.yes, hA.noT, hA.noF, hA.skp, bendsA, h1, h2]
      refine hK _ _ ?_; clear hK K hA A
      refine .cond (t := false) (by simp (maxSteps := 1000000) only [go_sem, h1, h2]) (fun h => by cases h) (fun _ => .exit ?_)
      simp only [thenQ, loopQ, if_true]
      exact done _ (by simp (maxSteps := 1000000) only [go_sem])
  · first | refine .seq (.rg fun A hA K hK => ?_) | refine .seq (.seq (.rg fun A hA K hK => ?_)) | refine .rg fun A hA K hK => ?_ | refine .seq (.rd fun A hA K hK => ?_) | refine .seq (.seq (.rd fun A hA K hK => ?_)) | refine .rd fun A hA K hK => ?_
    simp (maxSteps := 1000000) only [go_sem, hA.nil, hA.go, hA.yes, hA.noT, hA.noF, hA.skp, bendsA, h1]
    refine hK _ _ ?_; clear hK K hA A
    refine .cond (t := false) (by simp (maxSteps := 1000000) only [go_sem, h1]) (fun h => by cases h) (fun _ => .exit ?_)
    simp only [thenQ, loopQ, if_true]
    exact done _ (by simp (maxSteps := 1000000) only [go_sem])

theorem MStep.ins {d : Nat} {m m' : MS} (h : MStep d m m') (hp : ∀ p ∈ m.ps, ∀ i ∈ p, i.ins.length ≤ 2) : ∀ p ∈ m'.ps, ∀ i ∈ p, i.ins.length ≤ 2 := by
  have key : ∀ (e : Nat) (i : Instr), i.ins.length ≤ 2 → ∀ p ∈ m.ps.set e (m.ps.getD e [] ++ [i]), ∀ i ∈ p, i.ins.length ≤ 2 := by
    intro e i hi p hpm j hj
    by_cases he : e < m.ps.length
    · rcases List.mem_or_eq_of_mem_set hpm with hpm | rfl
      · exact hp p hpm j hj
      · rcases List.mem_append.1 hj with hj | hj
        · rw [getD_at' he] at hj; exact hp _ (List.getElem_mem he) j hj
        · rw [List.mem_singleton.1 hj]; exact hi
    · rw [List.set_eq_of_length_le (by omega)] at hpm; exact hp p hpm j hj
  cases h with
  | same => exact hp
  | take n sh hn hl hs => exact key d _ (by simp [withOut, takeI])
  | work ins op sh hl hi hs => exact key d _ (by simpa [withOut, workI] using hl)
  | send a e sh ha hsh he t h1 h3 => exact key d _ (by simp [sendI])
  | recv j e hk he hl => exact key e _ (by simp [withOut, recvI])
theorem MReach.ins {k : Nat} {m : MS} (h : MReach k m) : ∀ p ∈ m.ps, ∀ i ∈ p, i.ins.length ≤ 2 := by
  induction h with
  | init n h1 h4 =>
    intro p hp i hi
    have : p = [] := by simp at hp; exact hp.2
    rw [this] at hi; simp at hi
  | step h hd hs ih => exact hs.ins ih
theorem MReach.Sz {k : Nat} {m : MS} (h : MReach k m) (hk : k ≤ 54) : Av.Sz 60 m.ps := by
  have hz := h.sz
  refine ⟨by have := hz.n4; omega, fun p hp => ⟨?_, fun i hi => by have := h.ins p hp i hi; omega⟩⟩
  obtain ⟨d, hd, rfl⟩ := List.getElem_of_mem hp
  have := hz.p d
  rw [getD_at' hd] at this; omega

end Go.Proofs.Ytfjbabacpnnjmaa.Av

namespace Go.Av
open Go

/-- All blocks as they stand. -/
def eH (w : World) : Env := ⟨fun k => match w.heap[k]? with
  | some (.cells c _ _) => some c
  | _ => none, fun _ => none⟩

theorem eH_cell {w : World} {a : Addr} {v : Value} (h : w.cell? a = some v) : a.spot = none ∧ ∃ c, (eH w).H a.block = some c ∧ c[a.off]? = some v := by
  unfold World.cell? at h
  split at h
  · rename_i c t fr hc
    split at h
    · cases h
    · rename_i hs
      refine ⟨by simpa using hs, c, by simp [eH, hc], h⟩
  · cases h

theorem addr_block (a : Addr) (n : Nat) : (a.add n).block = a.block := by unfold Addr.add; split <;> rfl
theorem addr_off (a : Addr) (n : Nat) : (a.add n).off = a.off + n := by
  unfold Addr.add; split
  · rename_i h; subst h; rfl
  · rfl

/-- A row of small values stands to a row of cells. -/
def RowVR (e : Env) (row : List AV) (cs : List Value) : Prop :=
  row.length = cs.length ∧ ∀ i, i < cs.length → VR e (row.getD i .undef) (cs.getD i Go.undef) ∧ (cs.getD i Go.undef).oneCell' = true

section
variable {H : Type} {enc : TypeId × Value → H} {P : Program} {w : World} {base : Nat} {spare : Nat → Bool} {held : Bool}

/-- What reads as data of a type has small values of a form. -/
def Opens (enc : TypeId × Value → H) (P : Program) (w : World) (base : Nat) (spare : Nat → Bool) (held : Bool) (t : TypeId) (Enc : List AV → Prop) : Prop :=
  ∀ fuel cs d ps, DataW.trod enc P w base spare held fuel t cs = some (d, ps) → (∀ n ∈ DataW.weights P t d, n ≤ reachBytes) → ∃ row, Enc row ∧ RowVR (eH w) row cs

theorem opens_int {t : TypeId} (ht : P.underlying t = some (.int .i64)) : Opens enc P w base spare held t (fun row => ∃ n, row = [.int .i64 n]) := by
  intro fuel cs d ps h _
  obtain ⟨n, rfl, _, _⟩ := DataW.trod_int ht h
  refine ⟨_, ⟨n, rfl⟩, rfl, fun i hi => ?_⟩
  obtain rfl : i = 0 := by simpa using hi
  exact ⟨.int _ _, rfl⟩
theorem opens_str {t : TypeId} (ht : P.underlying t = some .string) : Opens enc P w base spare held t (fun row => ∃ s, row = [.str s]) := by
  intro fuel cs d ps h _
  obtain ⟨s, rfl, _, _⟩ := DataW.trod_string ht h
  refine ⟨_, ⟨s, rfl⟩, rfl, fun i hi => ?_⟩
  obtain rfl : i = 0 := by simpa using hi
  exact ⟨.str _, rfl⟩

theorem choose_list {α : Type} {n : Nat} {Q : Nat → α → Prop} (h : ∀ i, i < n → ∃ x, Q i x) : ∃ l : List α, l.length = n ∧ ∀ i (hi : i < l.length), Q i l[i] := by
  induction n with
  | zero => exact ⟨[], rfl, fun i hi => absurd hi (by simp)⟩
  | succ n ih =>
    obtain ⟨l, h1, h2⟩ := ih fun i hi => h i (by omega)
    obtain ⟨x, hx⟩ := h n (by omega)
    refine ⟨l ++ [x], by simp [h1], fun i hi => ?_⟩
    by_cases hil : i < l.length
    · rw [List.getElem_append_left hil]; exact h2 i hil
    · have : i = n := by simp at hi; omega
      subst this
      rw [List.getElem_append_right (by omega)]
      simpa [h1] using hx

theorem weightsAll_mem {e : TypeId} : ∀ {ds : List (DataW H)} {d : DataW H} {n : Nat}, d ∈ ds → n ∈ DataW.weights P e d → n ∈ DataW.weightsAll P e ds
  | _ :: _, _, _, h, hn => by
    simp only [DataW.weightsAll, List.mem_append]
    rcases List.mem_cons.1 h with rfl | h
    · exact .inl hn
    · exact .inr (weightsAll_mem h hn)

theorem opens_slice {t e : TypeId} {Enc : List AV → Prop} {sz B : Nat} (ht : P.underlying t = some (.slice e)) (hsz : P.cellsOf e = sz) (hsz0 : 0 < sz) (hB : P.bytesOf e = B) (hB0 : 0 < B) (ho : Opens enc P w base spare held e Enc) :
    Opens enc P w base spare held t (fun row => ∃ rows, row = [.lit sz rows] ∧ (∀ r ∈ rows, Enc r) ∧ rows.length * B ≤ most) := by
  intro fuel cs d ps h hw
  rcases DataW.trod_slice ht h with ⟨rfl, _⟩ | ⟨a, len, cap, elems, rest, n, rfl, rfl, hx, hb, hl, hm, hlen, hel, hsp, hns⟩
  · refine ⟨_, ⟨[], rfl, by simp, by simp⟩, rfl, fun i hi => ?_⟩
    obtain rfl : i = 0 := by simpa using hi
    exact ⟨.lit0 sz none 0 (fun _ => rfl), rfl⟩
  obtain ⟨rfl, _⟩ := Prod.mk.inj hx
  have hbytes : (elems.length + rest.length) * B ≤ reachBytes := by
    have := hw ((elems.length + rest.length) * P.bytesOf e) (by simp [DataW.weights, ht])
    rwa [hB] at this
  have hmost : elems.length * B ≤ most := by
    have := Nat.mul_le_mul_right B (show elems.length ≤ elems.length + rest.length by omega)
    simp only [reachBytes] at hbytes; simp only [most]; omega
  have each : ∀ i, i < elems.length → ∃ row : List AV, Enc row ∧ ∃ cs', w.cells? base (a.add (i * sz)) sz = some cs' ∧ RowVR (eH w) row cs' := by
    intro i hi
    have h1 := hel i (by omega)
    rw [hsz, List.getElem?_eq_getElem hi, Option.bind_eq_some_iff] at h1
    obtain ⟨cs', h2, h3⟩ := h1
    obtain ⟨row, h4, h5⟩ := ho n cs' elems[i].1 elems[i].2 h3 fun m hm => hw m (by
      simp only [DataW.weights, ht, List.mem_cons, List.mem_append]
      exact .inr (.inl (weightsAll_mem (List.mem_map.2 ⟨_, List.getElem_mem hi, rfl⟩) hm)))
    exact ⟨row, h4, cs', h2, h5⟩
  obtain ⟨rows, hrl, hrows⟩ := choose_list each
  refine ⟨_, ⟨rows, rfl, fun r hr => ?_, by rw [hrl]; exact hmost⟩, rfl, fun i hi => ?_⟩
  · obtain ⟨i, hi, rfl⟩ := List.getElem_of_mem hr
    exact (hrows i hi).1
  obtain rfl : i = 0 := by simpa using hi
  refine ⟨?_, rfl⟩
  show VR (eH w) (.lit sz rows) (.slice (some a) len cap)
  by_cases h0 : rows = []
  · subst h0
    have : len = 0 := by simp at hrl; omega
    subst this
    exact .lit0 sz (some a) cap (fun h => by cases h)
  have hpos : 0 < rows.length := List.length_pos_iff.2 h0
  have cell : ∀ i j (hi : i < rows.length), j < sz → ((a.add (i * sz)).add j).spot = none ∧ (∃ c, (eH w).H a.block = some c ∧ ∃ v, c[a.off + i * sz + j]? = some v ∧ VR (eH w) (rows[i].getD j .undef) v ∧ v.oneCell' = true) ∧ rows[i].length = sz := by
    intro i j hi hj
    obtain ⟨_, cs', h1, h2⟩ := hrows i hi
    obtain ⟨_, h3, h4⟩ := World.cells?_some h1
    have h5 := h4 j hj
    rw [List.getElem?_eq_getElem (by omega)] at h5
    obtain ⟨h6, c, h7, h8⟩ := eH_cell h5
    rw [addr_block, addr_block] at h7
    rw [addr_off, addr_off] at h8
    have hv := h2.2 j (by omega)
    have hg : cs'.getD j Go.undef = cs'[j]'(by omega) := by rw [List.getD_eq_getElem?_getD, List.getElem?_eq_getElem (show j < cs'.length by omega)]; rfl
    rw [hg] at hv
    exact ⟨h6, ⟨c, h7, _, h8, hv.1, hv.2⟩, by rw [h2.1, h3]⟩
  obtain ⟨hs, ⟨c, hc, _⟩, _⟩ := cell 0 0 hpos hsz0
  have hspot : a.spot = none := by simpa [Addr.add] using hs
  have e : (.slice (some a) len cap : Value) = .slice (some ⟨a.block, a.off, none⟩) rows.length cap := by
    rw [hrl, hlen]
    cases a; simp only at hspot; subst hspot; rfl
  rw [e]
  have get : ∀ i (hi : i < rows.length), rows.getD i [] = rows[i] := fun i hi => by rw [List.getD_eq_getElem?_getD, List.getElem?_eq_getElem hi]; rfl
  have at_ : ∀ i j (hi : i < rows.length), j < sz → ∃ v, c[a.off + i * sz + j]? = some v ∧ VR (eH w) (rows[i].getD j .undef) v ∧ v.oneCell' = true := by
    intro i j hi hj
    obtain ⟨_, ⟨c', h1, h2⟩, _⟩ := cell i j hi hj
    rw [hc] at h1; cases h1
    exact h2
  have gd : ∀ {k : Nat} {v : Value}, c[k]? = some v → c.getD k Go.undef = v := fun h => by rw [Array.getD_eq_getD_getElem?, h]; rfl
  refine .lit sz rows a.block a.off cap c hc (by omega) ?_ (fun i hi => ?_) ?_ (fun i j hi hj => ?_) (fun i j hi hj => ?_)
  · have := Nat.mul_le_mul_left rows.length (show 1 ≤ B by omega)
    rw [← hrl] at hmost; omega
  · rw [get i hi]; exact (cell i 0 hi hsz0).2.2
  · obtain ⟨v, h1, _⟩ := at_ (rows.length - 1) (sz - 1) (by omega) (by omega)
    have := (Array.getElem?_eq_some_iff.1 h1).1
    have h2 : rows.length * sz = (rows.length - 1) * sz + sz := by
      rw [← Nat.succ_mul]; congr 1; omega
    omega
  · obtain ⟨v, h1, _, h3⟩ := at_ i j hi hj
    rw [gd h1]; exact h3
  · obtain ⟨v, h1, h2, _⟩ := at_ i j hi hj
    rw [gd h1, get i hi]; exact h2

theorem RowVR.append {e : Env} {r R : List AV} {a b : List Value} (h : RowVR e r a) (h' : RowVR e R b) : RowVR e (r ++ R) (a ++ b) := by
  refine ⟨by rw [List.length_append, List.length_append, h.1, h'.1], fun i hi => ?_⟩
  simp only [List.length_append] at hi
  by_cases hl : i < a.length
  · rw [List.getD_eq_getElem?_getD, List.getElem?_append_left (by rw [h.1]; exact hl), ← List.getD_eq_getElem?_getD, List.getD_eq_getElem?_getD (l := a ++ b), List.getElem?_append_left hl, ← List.getD_eq_getElem?_getD]
    exact h.2 i hl
  · rw [List.getD_eq_getElem?_getD, List.getElem?_append_right (by rw [h.1]; omega), ← List.getD_eq_getElem?_getD, List.getD_eq_getElem?_getD (l := a ++ b), List.getElem?_append_right (by omega), ← List.getD_eq_getElem?_getD, h.1]
    exact h'.2 (i - a.length) (by omega)

/-- Fields that lie one behind the other. -/
def offOk (P : Program) : Nat → List Field → Nat → Bool
  | o, [], tot => o == tot
  | o, f :: fs, tot => f.offset == o && offOk P (o + P.cellsOf f.type) fs tot

theorem rows_join {e : Env} {cs : List Value} : ∀ (fs : List Field) (Encs : List (List AV → Prop)) (o : Nat), offOk P o fs cs.length = true → Encs.length = fs.length →
    (∀ (i : Nat) f E, fs[i]? = some f → Encs[i]? = some E → ∃ r, E r ∧ RowVR e r ((cs.drop f.offset).take (P.cellsOf f.type))) →
    ∃ rs : List (List AV), rs.length = Encs.length ∧ (∀ (i : Nat) r E, rs[i]? = some r → Encs[i]? = some E → E r) ∧ RowVR e rs.flatten (cs.drop o)
  | [], Encs, o, ho, hl, _ => by
    have : Encs = [] := List.length_eq_zero_iff.1 (by simpa using hl)
    subst this
    simp only [offOk, beq_iff_eq] at ho
    subst ho
    exact ⟨[], rfl, fun i r E h => by simp at h, by simp [RowVR]⟩
  | f :: fs, E :: Encs, o, ho, hl, h => by
    simp only [offOk, Bool.and_eq_true, beq_iff_eq] at ho
    obtain ⟨rfl, ho⟩ := ho
    obtain ⟨r, h1, h2⟩ := h 0 f E rfl rfl
    obtain ⟨rs, h3, h4, h5⟩ := rows_join fs Encs _ ho (by simpa using hl) fun i g E' hg hE => h (i + 1) g E' (by simpa using hg) (by simpa using hE)
    refine ⟨r :: rs, by simp [h3], fun i r' E' hr hE => ?_, ?_⟩
    · cases i with
      | zero => simp at hr hE; subst hr; subst hE; exact h1
      | succ i => exact h4 i r' E' (by simpa using hr) (by simpa using hE)
    · have := h2.append h5
      rwa [← List.drop_drop, List.take_append_drop] at this
  | f :: fs, [], _, _, hl, _ => by simp at hl

theorem opens_struct {t : TypeId} {fs : Array Field} (ht : P.underlying t = some (.struct fs)) (Encs : List (List AV → Prop)) (hl : Encs.length = fs.toList.length) (hoff : offOk P 0 fs.toList (P.cellsOf t) = true)
    (ho : ∀ (i : Nat) f E, fs.toList[i]? = some f → Encs[i]? = some E → Opens enc P w base spare held f.type E) :
    Opens enc P w base spare held t (fun row => ∃ rs : List (List AV), rs.length = Encs.length ∧ (∀ (i : Nat) r E, rs[i]? = some r → Encs[i]? = some E → E r) ∧ row = rs.flatten) := by
  intro fuel cs d ps h hw
  obtain ⟨xs, n, rfl, hx, hcl, hxl, hf⟩ := DataW.trod_struct ht h
  obtain ⟨rfl, _⟩ := Prod.mk.inj hx
  obtain ⟨rs, h1, h2, h3⟩ := rows_join (P := P) (e := eH w) (cs := cs) fs.toList Encs 0 (by rw [hcl]; exact hoff) hl fun i f E hi hE => by
    have hfi : fs[i]? = some f := by simpa using hi
    have hil : i < fs.size := (Array.getElem?_eq_some_iff.1 hfi).1
    have := hf i f hfi
    rw [List.getElem?_eq_getElem (show i < xs.length by omega)] at this
    refine ho i f E hi hE n _ _ _ this fun m hm => hw m ?_
    simp only [DataW.weights, ht]
    exact DataW.weights_mem_each (j := i) (t := f.type) (d := xs[i].1) (by simp [hi]) (by simp [show i < xs.length by omega]) m hm
  exact ⟨_, ⟨rs, h1, h2, rfl⟩, by simpa using h3⟩
end
end Go.Av

namespace Go.Proofs.Ytfjbabacpnnjmaa.Av
open Go Go.Av

section
variable {H : Type} {enc : TypeId × Value → H} {w : World} {base : Nat} {spare : Nat → Bool} {held : Bool}
theorem opens_ints : Opens enc Try.prog w base spare held 22 (fun row => ∃ l : List Int, row = [ints l] ∧ l.length * 8 ≤ most) := by
  intro fuel cs d ps h hw
  obtain ⟨row, ⟨rows, rfl, hr, hm⟩, hv⟩ := opens_slice (sz := 1) (B := 8) Try.underlying22 (by kernel_rfl) (by decide) (by kernel_rfl) (by decide) (opens_int Try.underlying3) fuel cs d ps h hw
  obtain ⟨l, hl, hl2⟩ := choose_list (n := rows.length) (Q := fun i n => rows.getD i [] = [I n]) fun i hi => by
    obtain ⟨n, hn⟩ := hr _ (List.getElem_mem hi)
    exact ⟨n, by rw [getD_at' hi]; exact hn⟩
  have : rows = l.map fun n => [I n] := List.ext_getElem (by simpa using hl.symm) fun i h1 h2 => by
    have := hl2 i (by omega)
    rw [getD_at' h1] at this
    simpa using this
  subst this
  exact ⟨_, ⟨l, rfl, by simpa using hm⟩, hv⟩

theorem three {α : Type} {rs : List α} (h : rs.length = 4) : ∃ a b c d, rs = [a, b, c, d] := by
  match rs, h with
  | [a, b, c, d], _ => exact ⟨a, b, c, d, rfl⟩

abbrev EI : List AV → Prop := fun row => ∃ n, row = [.int .i64 n]
abbrev EL : List AV → Prop := fun row => ∃ l : List Int, row = [ints l] ∧ l.length * 8 ≤ most
abbrev ES : List AV → Prop := fun row => ∃ s, row = [.str s]

theorem opens_node : Opens enc Try.prog w base spare held 37 (fun row => ∃ x : Node, row = nodeL x) := by
  intro fuel cs d ps h hw
  obtain ⟨row, ⟨rs, h1, h2, rfl⟩, hv⟩ := opens_struct Try.underlying37 [EI, EL, EL, EL, EI, EI, ES] rfl (by kernel_rfl) (fun i f E hf hE => by
    match i, hf, hE with
    | 0, hf, hE => cases hf; cases hE; exact opens_int Try.underlying3
    | 1, hf, hE => cases hf; cases hE; exact opens_ints
    | 2, hf, hE => cases hf; cases hE; exact opens_ints
    | 3, hf, hE => cases hf; cases hE; exact opens_ints
    | 4, hf, hE => cases hf; cases hE; exact opens_int Try.underlying2
    | 5, hf, hE => cases hf; cases hE; exact opens_int Try.underlying3
    | 6, hf, hE => cases hf; cases hE; exact opens_str Try.underlying9
    | i + 7, hf, hE => simp at hE) fuel cs d ps h hw
  refine ⟨_, ?_, hv⟩
  match rs, h1 with
  | [r0, r1, r2, r3, r4, r5, r6], _ =>
    obtain ⟨a0, rfl⟩ := h2 0 _ _ rfl rfl
    obtain ⟨a1, rfl, _⟩ := h2 1 _ _ rfl rfl
    obtain ⟨a2, rfl, _⟩ := h2 2 _ _ rfl rfl
    obtain ⟨a3, rfl, _⟩ := h2 3 _ _ rfl rfl
    obtain ⟨a4, rfl⟩ := h2 4 _ _ rfl rfl
    obtain ⟨a5, rfl⟩ := h2 5 _ _ rfl rfl
    obtain ⟨a6, rfl⟩ := h2 6 _ _ rfl rfl
    exact ⟨⟨a0, a1, a2, a3, a4, a5, a6⟩, rfl⟩

theorem opens_instr : Opens enc Try.prog w base spare held 39 (fun row => ∃ x : Instr, row = instrL x) := by
  intro fuel cs d ps h hw
  obtain ⟨row, ⟨rs, h1, h2, rfl⟩, hv⟩ := opens_struct Try.underlying39 [EI, EI, EL, fun row => ∃ x : Node, row = nodeL x, EI, EI, EI] rfl (by kernel_rfl) (fun i f E hf hE => by
    match i, hf, hE with
    | 0, hf, hE => cases hf; cases hE; exact opens_int Try.underlying3
    | 1, hf, hE => cases hf; cases hE; exact opens_int Try.underlying3
    | 2, hf, hE => cases hf; cases hE; exact opens_ints
    | 3, hf, hE => cases hf; cases hE; exact opens_node
    | 4, hf, hE => cases hf; cases hE; exact opens_int Try.underlying3
    | 5, hf, hE => cases hf; cases hE; exact opens_int Try.underlying3
    | 6, hf, hE => cases hf; cases hE; exact opens_int Try.underlying3
    | i + 7, hf, hE => simp at hE) fuel cs d ps h hw
  refine ⟨_, ?_, hv⟩
  match rs, h1 with
  | [r0, r1, r2, r3, r4, r5, r6], _ =>
    obtain ⟨a0, rfl⟩ := h2 0 _ _ rfl rfl
    obtain ⟨a1, rfl⟩ := h2 1 _ _ rfl rfl
    obtain ⟨a2, rfl, _⟩ := h2 2 _ _ rfl rfl
    obtain ⟨a3, rfl⟩ := h2 3 _ _ rfl rfl
    obtain ⟨a4, rfl⟩ := h2 4 _ _ rfl rfl
    obtain ⟨a5, rfl⟩ := h2 5 _ _ rfl rfl
    obtain ⟨a6, rfl⟩ := h2 6 _ _ rfl rfl
    exact ⟨⟨a0, a1, a2, a3, a4, a5, a6⟩, rfl⟩

/-- A slice of what is told by one thing each. -/
theorem opens_map {α : Type} {t e : TypeId} {f : α → List AV} {sz B : Nat} (ht : Try.prog.underlying t = some (.slice e)) (hsz : Try.prog.cellsOf e = sz) (hsz0 : 0 < sz) (hB : Try.prog.bytesOf e = B) (hB0 : 0 < B) (ho : Opens enc Try.prog w base spare held e (fun row => ∃ x, row = f x)) :
    Opens enc Try.prog w base spare held t (fun row => ∃ l : List α, row = [.lit sz (l.map f)]) := by
  intro fuel cs d ps h hw
  obtain ⟨row, ⟨rows, rfl, hr, _⟩, hv⟩ := opens_slice ht hsz hsz0 hB hB0 ho fuel cs d ps h hw
  obtain ⟨l, hl, hl2⟩ := choose_list (n := rows.length) (Q := fun i x => rows.getD i [] = f x) fun i hi => by
    obtain ⟨n, hn⟩ := hr _ (List.getElem_mem hi)
    exact ⟨n, by rw [getD_at' hi]; exact hn⟩
  have : rows = l.map f := List.ext_getElem (by simpa using hl.symm) fun i h1 h2 => by
    have := hl2 i (by omega)
    rw [getD_at' h1] at this
    simpa using this
  subst this
  exact ⟨_, ⟨l, rfl⟩, hv⟩

theorem opens_prog : Opens enc Try.prog w base spare held 41 (fun row => ∃ p : List Instr, row = [progA p]) :=
  opens_map (f := instrL) (B := 176) Try.underlying41 (by kernel_rfl) (by decide) (by kernel_rfl) (by decide) opens_instr
theorem opens_progs : Opens enc Try.prog w base spare held 25 (fun row => ∃ p : List (List Instr), row = [progsA p]) :=
  opens_map (f := fun p => [progA p]) (B := 24) Try.underlying25 (by kernel_rfl) (by decide) (by kernel_rfl) (by decide) opens_prog
theorem opens_bend : Opens enc Try.prog w base spare held 33 (fun row => ∃ x : Bend, row = bendL x) := by
  intro fuel cs d ps h hw
  obtain ⟨row, ⟨rs, h1, h2, rfl⟩, hv⟩ := opens_struct Try.underlying33 [EI, EI, EI, EI] rfl (by kernel_rfl) (fun i f E hf hE => by
    match i, hf, hE with
    | 0, hf, hE => cases hf; cases hE; exact opens_int Try.underlying3
    | 1, hf, hE => cases hf; cases hE; exact opens_int Try.underlying3
    | 2, hf, hE => cases hf; cases hE; exact opens_int Try.underlying3
    | 3, hf, hE => cases hf; cases hE; exact opens_int Try.underlying3
    | i + 4, hf, hE => simp at hE) fuel cs d ps h hw
  refine ⟨_, ?_, hv⟩
  match rs, h1 with
  | [r0, r1, r2, r3], _ =>
    obtain ⟨a0, rfl⟩ := h2 0 _ _ rfl rfl
    obtain ⟨a1, rfl⟩ := h2 1 _ _ rfl rfl
    obtain ⟨a2, rfl⟩ := h2 2 _ _ rfl rfl
    obtain ⟨a3, rfl⟩ := h2 3 _ _ rfl rfl
    exact ⟨⟨a0, a1, a2, a3⟩, rfl⟩
theorem opens_bends : Opens enc Try.prog w base spare held 34 (fun row => ∃ l : List Bend, row = [bendsA l]) :=
  opens_map (f := bendL) (B := 32) Try.underlying34 (by kernel_rfl) (by decide) (by kernel_rfl) (by decide) opens_bend

/-- An argument's small value. -/
theorem opens_arg {t : TypeId} {Enc : List AV → Prop} (ho : Opens enc Try.prog w base spare held t Enc) {v : Value} {d : DataW H} {ps : List MemPlace} (h : DataW.Trod enc Try.prog w base spare held t v d ps) (hw : ∀ n ∈ DataW.weights Try.prog t d, n ≤ reachBytes) :
    ∃ row, Enc row ∧ RowVR (eH w) row v.cells.toList := by
  obtain ⟨fuel, hf⟩ := h
  exact ho fuel _ d ps hf hw
end

def σ0 : St := ⟨0, fun _ => none⟩
theorem rel0 (w : World) : Rel w (eH w) σ0 w := by
  refine ⟨Go.RowKit.Below.refl _ _, (fun b x h => by cases h), fun k c h => ?_, (fun b x h => by cases h), (fun b B h => by cases h), (fun b b' B B' x x' h => by cases h)⟩
  simp only [eH] at h
  split at h
  · rename_i c' t fr hc; cases h; exact ⟨t, fr, hc⟩
  · cases h
end Go.Proofs.Ytfjbabacpnnjmaa.Av

namespace Go.Proofs.Ytfjbabacpnnjmaa.Av
open Go Go.Av
set_option maxRecDepth 20000
set_option maxHeartbeats 4000000

theorem firstNZ_of {xs : List Int} (h : ∀ x ∈ xs, x = 0) : firstNZ xs = 0 := by
  induction xs with
  | nil => rfl
  | cons x xs ih => rw [firstNZ, if_pos (h x (by simp))]; exact ih fun y hy => h y (by simp [hy])

def GoodS (dev : Int) (p : List Instr) : Prop := ∀ a i b, p = a ++ i :: b → formB i = true ∧ namedB a dev i = true

theorem GoodS.nil (dev : Int) : GoodS dev [] := fun a i b h => by simp at h
theorem GoodS.snoc {dev : Int} {p : List Instr} {i : Instr} (h : GoodS dev p) (hf : formB i = true) (hn : namedB p dev i = true) : GoodS dev (p ++ [i]) := by
  intro a j b hab
  rcases List.eq_nil_or_concat b with rfl | ⟨b', y, rfl⟩
  · obtain ⟨h1, h2⟩ := List.append_inj' hab (by simp)
    have h2 : i = j := by simpa using h2
    subst h1; subst h2; exact ⟨hf, hn⟩
  · have e : p ++ [i] = (a ++ j :: b') ++ [y] := by simpa using hab
    obtain ⟨h1, _⟩ := List.append_inj' e (by simp)
    exact h a j b' h1

theorem wrote_append (a b : List Instr) (r : Int) : wrote (a ++ b) r = (wrote a r || wrote b r) := by simp [wrote]
theorem wrote_send {s : Instr} (hs : s.kind = 3) (b : List Instr) (r : Int) : wrote (s :: b) r = wrote b r := by simp [wrote, hs]
theorem namedB_congr {q q' : List Instr} (dev : Int) (i : Instr) (h : ∀ r, wrote q r = wrote q' r) : namedB q dev i = namedB q' dev i := by
  have : wrote q = wrote q' := funext h
  simp only [namedB, this]
theorem namedB_mono {u p : List Instr} {dev : Int} {s : Instr} (hk : s.kind = 3) (hq : ∀ r, wrote u r = true → wrote p r = true) (h : namedB u dev s = true) : namedB p dev s = true := by
  simp only [namedB, hk, bne_self_eq_false, Bool.false_and, Bool.not_false, Bool.true_and] at h ⊢
  rw [Bool.and_eq_true] at h ⊢
  exact ⟨List.all_eq_true.2 fun r hr => hq r (List.all_eq_true.1 h.1 r hr), h.2⟩

theorem GoodS.less {dev : Int} {u v : List Instr} {s : Instr} (h : GoodS dev (u ++ s :: v)) (hs : s.kind = 3) : GoodS dev (u ++ v) := by
  intro a i b hab
  have key : ∀ c, a = u ++ c → v = c ++ i :: b → formB i = true ∧ namedB a dev i = true := fun c h1 h2 => by
    have := h (u ++ s :: c) i b (by rw [h2]; simp)
    rw [namedB_congr (q' := a)] at this
    · exact this
    · intro r; rw [h1, wrote_append, wrote_append, wrote_send hs]
  rcases List.append_eq_append_iff.1 hab with ⟨c, h1, h2⟩ | ⟨c, h1, h2⟩
  · exact key c h1 h2
  · cases c with
    | nil => exact key [] (by simpa using h1.symm) (by simpa using h2.symm)
    | cons x c =>
      obtain ⟨rfl, rfl⟩ : i = x ∧ b = c ++ v := by simpa using h2
      exact h a i (c ++ s :: v) (by rw [h1]; simp)
theorem GoodS.more {dev : Int} {u v : List Instr} {s : Instr} (h : GoodS dev (u ++ s :: v)) (hs : s.kind = 3) : GoodS dev ((u ++ s :: v) ++ [s]) := by
  obtain ⟨h1, h2⟩ := h u s v rfl
  exact h.snoc h1 (namedB_mono hs (fun r hr => by rw [wrote_append, hr]; rfl) h2)

theorem right_of {l : List (List Instr)} (h1 : 1 ≤ l.length) (h8 : l.length ≤ 8) (h : ∀ p ∈ l, p.length ≤ 65536 ∧ GoodS l.length p) : rightE l = 0 := by
  have e1 : ¬ ((decide ((l.length : Int) < 1) || decide ((l.length : Int) > 8)) = true) := by
    rw [decide_eq_false (by omega), decide_eq_false (by omega)]; simp
  have e2 : ¬ (l.any (fun p => decide ((p.length : Int) > 65536)) = true) := by
    rw [List.any_eq_true]; rintro ⟨p, hp, hq⟩
    have := (h p hp).1
    have := of_decide_eq_true hq; omega
  rw [rightE, if_neg e1, if_neg e2]
  refine firstNZ_of fun x hx => ?_
  obtain ⟨p, hp, rfl⟩ := List.mem_map.1 hx
  refine firstNZ_of fun y hy => ?_
  obtain ⟨n, hn, rfl⟩ := List.mem_map.1 hy
  have hn : n < p.length := List.mem_range.1 hn
  have := (h p hp).2 (p.take n) p[n] (p.drop (n + 1)) (by rw [← List.drop_eq_getElem_cons hn, List.take_append_drop])
  simp only [stepE, List.getElem?_eq_getElem hn]
  rw [if_neg (by rw [this.1]; simp), if_neg (by rw [this.2]; simp)]

def cK (kind : Int) (d : Nat) (p : List Instr) (k : Key) : Nat := (keyL kind d p).count k
def one1 (kind : Int) (d : Nat) (i : Instr) (k : Key) : Nat := if i.kind = kind ∧ keyOf kind d i = k then 1 else 0
def kc (kind : Int) (l : List (List Instr)) (k : Key) : Nat := (keysN kind l l.length).count k
theorem cK_append (kind : Int) (d : Nat) (p q : List Instr) (k : Key) : cK kind d (p ++ q) k = cK kind d p k + cK kind d q k := by
  simp [cK, keyL, List.count_append]
theorem cK_cons (kind : Int) (d : Nat) (i : Instr) (q : List Instr) (k : Key) : cK kind d (i :: q) k = one1 kind d i k + cK kind d q k := by
  by_cases h : i.kind = kind
  · by_cases h2 : keyOf kind d i = k
    · subst h2; simp [cK, keyL, one1, h]; omega
    · simp [cK, keyL, one1, h, h2]
  · simp [cK, keyL, one1, h]
theorem cK_nil (kind : Int) (d : Nat) (k : Key) : cK kind d [] k = 0 := rfl
theorem cK_one (kind : Int) (d : Nat) (i : Instr) (k : Key) : cK kind d [i] k = one1 kind d i k := by rw [cK_cons, cK_nil]; omega

theorem keys_set (kind : Int) (l : List (List Instr)) (d : Nat) (q : List Instr) (k : Key) (hd : d < l.length) (n : Nat) :
    (keysN kind (l.set d q) n).count k + (if d < n then cK kind d (l.getD d []) k else 0) = (keysN kind l n).count k + (if d < n then cK kind d q k else 0) := by
  induction n with
  | zero => simp [keysN]
  | succ n ih =>
    rw [keysN_succ, keysN_succ, List.count_append, List.count_append]
    by_cases h : n = d
    · subst h
      rw [getD_set_eq _ _ hd]
      rw [if_neg (by omega), if_neg (by omega)] at ih
      rw [if_pos (by omega), if_pos (by omega)]
      simp only [cK]; omega
    · rw [getD_set_ne _ _ h]
      by_cases h2 : d < n
      · rw [if_pos h2, if_pos h2] at ih
        rw [if_pos (by omega), if_pos (by omega)]; omega
      · rw [if_neg h2, if_neg h2] at ih
        rw [if_neg (by omega), if_neg (by omega)]; omega
theorem kc_set (kind : Int) {l : List (List Instr)} {d : Nat} (q : List Instr) (k : Key) (hd : d < l.length) : kc kind (l.set d q) k + cK kind d (l.getD d []) k = kc kind l k + cK kind d q k := by
  have := keys_set kind l d q k hd l.length
  rw [if_pos hd, if_pos hd] at this
  simpa [kc] using this
theorem kc_snoc (kind : Int) {l : List (List Instr)} {d : Nat} (i : Instr) (k : Key) (hd : d < l.length) : kc kind (l.set d (l.getD d [] ++ [i])) k = kc kind l k + one1 kind d i k := by
  have := kc_set kind (l.getD d [] ++ [i]) k hd
  rw [cK_append, cK_one] at this; omega

theorem pairs_zero {l : List (List Instr)} (hr : rightE l = 0) (h1 : ∀ k, kc 3 l k ≤ 1) (h : ∀ k, kc 3 l k = kc 4 l k) : pairsC l = 0 := by
  have n3 : (keysN 3 l l.length).Nodup := List.nodup_iff_count.2 h1
  have n4 : (keysN 4 l l.length).Nodup := List.nodup_iff_count.2 fun k => by have := h1 k; have := h k; simp only [kc] at *; omega
  rw [pairs_eq, pairsE, if_neg (by rw [hr]; simp), if_neg (fun h => (dup_iff l).1 h ⟨n3, n4⟩), if_neg]
  intro hm
  refine (miss_iff hr n3 n4).1 hm ⟨fun k hk => ?_, fun k hk => ?_⟩
  · have := List.count_pos_iff.2 hk
    have := h k
    exact List.count_pos_iff.1 (by simp only [kc] at *; omega)
  · have := List.count_pos_iff.2 hk
    have := h k
    exact List.count_pos_iff.1 (by simp only [kc] at *; omega)
theorem pairs_miss {l : List (List Instr)} (hr : rightE l = 0) (h3 : ∀ k, kc 3 l k ≤ 1) (h4 : ∀ k, kc 4 l k ≤ 1) {k : Key} (h : kc 3 l k = 0) (h' : 0 < kc 4 l k) : pairsC l = 22 := by
  have n3 : (keysN 3 l l.length).Nodup := List.nodup_iff_count.2 h3
  have n4 : (keysN 4 l l.length).Nodup := List.nodup_iff_count.2 h4
  rw [pairs_eq, pairsE, if_neg (by rw [hr]; simp), if_neg (fun h => (dup_iff l).1 h ⟨n3, n4⟩), if_pos]
  refine (miss_iff hr n3 n4).2 fun hm => ?_
  have := List.count_pos_iff.2 (hm.2 k (List.count_pos_iff.1 h'))
  simp only [kc] at *; omega
theorem pairs_dup {l : List (List Instr)} (hr : rightE l = 0) {k : Key} (h : 1 < kc 3 l k) : pairsC l = 25 := by
  rw [pairs_eq, pairsE, if_neg (by rw [hr]; simp), if_pos]
  refine (dup_iff l).2 fun hm => ?_
  have := List.nodup_iff_count.1 hm.1 k
  simp only [kc] at *; omega

def keyM (x : Msg) : Key := [x.from_, x.to, x.tag]
structure PInv (m : MS) : Prop where
  good : ∀ d, d < m.ps.length → GoodS m.ps.length (m.ps.getD d [])
  reg : ∀ d, d < m.ps.length → ∀ r : Int, wrote (m.ps.getD d []) r = true ↔ 0 ≤ r ∧ r < ((m.rs.getD d []).length : Int)
  one : ∀ k, kc 3 m.ps k ≤ 1
  old : ∀ k, 0 < kc 3 m.ps k → k.getD 2 0 < m.tg
  cnt : ∀ k, kc 3 m.ps k = kc 4 m.ps k + (m.w.map keyM).count k
  msg : ∀ x ∈ m.w, 0 ≤ x.from_ ∧ x.from_ < m.ps.length ∧ 0 ≤ x.tag ∧ x.tag < m.tg

theorem PInv.put {c : Nat} {m : MS} (h : PInv m) (hz : MSz c m) (hc : c ≤ 1000) {d : Nat} (hd : d < m.ps.length) {i : Instr} (hk : i.kind ≠ 3) (hf : formB (withOut i (m.rs.getD d []).length) = true)
    (hi : ∀ r ∈ i.ins, 0 ≤ r ∧ r < ((m.rs.getD d []).length : Int)) (hdv : 0 ≤ i.dev ∧ i.dev < m.ps.length) (hn : 0 ≤ i.n) (ht : 0 ≤ i.tag ∧ i.tag ≤ 1073741824) (sh : List Int) (w' : List Msg)
    (hw : ∀ k, kc 3 m.ps k = kc 4 m.ps k + one1 4 d i k + (w'.map keyM).count k) (hm : ∀ x ∈ w', x ∈ m.w) : PInv { (m.putO d i sh) with w := w' } := by
  have hdr : d < m.rs.length := by rw [hz.lr]; exact hd
  have hN : (m.putO d i sh).ps.length = m.ps.length := by simp [MS.putO]
  have hR : (m.rs.getD d []).length ≤ 1000 := by have := hz.r d; omega
  have hkb : (i.kind != 3) = true := by simpa using hk
  have e3 : ∀ k, kc 3 (m.putO d i sh).ps k = kc 3 m.ps k := fun k => by
    simp only [MS.putO]; rw [kc_snoc 3 _ _ hd, one1, if_neg (fun e => hk e.1)]; omega
  have e4 : ∀ k, kc 4 (m.putO d i sh).ps k = kc 4 m.ps k + one1 4 d i k := fun k => by
    simp only [MS.putO]; rw [kc_snoc 4 _ _ hd]; rfl
  refine ⟨fun e he => ?_, fun e he r => ?_, fun k => ?_, fun k hk => ?_, fun k => ?_, fun x hx => ?_⟩
  · simp only [hN] at he ⊢
    rw [putO_ps _ _ _ _ _ hd]
    split
    · refine (h.good d hd).snoc hf ?_
      have hwr : wrote (m.ps.getD d []) (m.rs.getD d []).length = false := by
        rw [Bool.eq_false_iff]; intro h'
        have := (h.reg d hd _).1 h'; omega
      have hal : i.ins.all (wrote (m.ps.getD d [])) = true := List.all_eq_true.2 fun r hr => (h.reg d hd r).2 (hi r hr)
      have en : namedB (m.ps.getD d []) m.ps.length (withOut i (m.rs.getD d []).length) = (i.ins.all (wrote (m.ps.getD d [])) && (!(i.kind != 3 && (decide (((m.rs.getD d []).length : Int) < 0) || (decide (((m.rs.getD d []).length : Int) > 65536) || wrote (m.ps.getD d []) (m.rs.getD d []).length))) &&
        (decide (i.dev ≥ 0) && (decide (i.dev < m.ps.length) && (decide (i.n ≥ 0) && (decide (i.tag ≥ 0) && decide (i.tag ≤ 1073741824))))))) := rfl
      rw [en, hal, hwr, decide_eq_false (show ¬ ((m.rs.getD d []).length : Int) < 0 by omega), decide_eq_false (show ¬ ((m.rs.getD d []).length : Int) > 65536 by omega), decide_eq_true hdv.1, decide_eq_true hdv.2, decide_eq_true hn, decide_eq_true ht.1, decide_eq_true ht.2]
      simp
    · exact h.good e he
  · simp only [hN] at he ⊢
    rw [putO_ps _ _ _ _ _ hd, putO_rs _ _ _ _ _ hdr]
    split
    · rw [wrote_append, Bool.or_eq_true, h.reg d hd r]
      have : wrote [withOut i (m.rs.getD d []).length] r = true ↔ ((m.rs.getD d []).length : Int) = r := by
        simp [wrote, withOut, hk]
      rw [this, List.length_append]; simp only [List.length_cons, List.length_nil]; omega
    · exact h.reg e he r
  · simp only [e3]; exact h.one k
  · simp only [e3] at hk; exact h.old k hk
  · simp only [e3, e4]; exact hw k
  · simp only [hN]; exact h.msg x (hm x hx)

theorem bare_empty : bareB emptyN = true := by simp [bareB, emptyN]

theorem PInv.step {c d : Nat} {m m' : MS} (h : PInv m) (hz : MSz c m) (hc : c ≤ 1000) (hd : d < m.ps.length) (hs : MStep d m m') : PInv m' := by
  have hN : (0 : Int) < m.ps.length := by omega
  cases hs with
  | same => exact h
  | take n sh hn hl hs =>
    refine h.put hz hc hd (i := takeI 0 n) (by simp [takeI]) ?_ (by simp [takeI]) (by simp [takeI]; omega) (by simpa [takeI] using hn) (by simp [takeI]) sh m.w (fun k => ?_) (fun x hx => hx)
    · simp [formB, withOut, takeI, bare_empty]
    · rw [one1, if_neg (by simp [takeI])]; exact h.cnt k
  | work ins op sh hl hi hs =>
    refine h.put hz hc hd (i := workI ins op) (by simp [workI]) ?_ (fun r hr => ?_) (by simp [workI]; omega) (by simp [workI]) (by simp [workI]) sh m.w (fun k => ?_) (fun x hx => hx)
    · simp [formB, withOut, workI]
    · obtain ⟨j, rfl, hj⟩ := hi r hr; omega
    · rw [one1, if_neg (by simp [workI])]; exact h.cnt k
  | send a e sh ha hsh he t h1 h3 =>
    have e3 : ∀ k, kc 3 (m.ps.set d (m.ps.getD d [] ++ [sendI a e m.tg])) k = kc 3 m.ps k + one1 3 d (sendI a e m.tg) k := fun k => kc_snoc 3 _ _ hd
    have e4 : ∀ k, kc 4 (m.ps.set d (m.ps.getD d [] ++ [sendI a e m.tg])) k = kc 4 m.ps k := fun k => by
      rw [kc_snoc 4 _ _ hd, one1, if_neg (by simp [sendI])]; omega
    have hko : keyOf 3 d (sendI a e m.tg) = [(d : Int), (e : Int), m.tg] := by simp [keyOf, sendI]
    have hone : ∀ k, one1 3 d (sendI a e m.tg) k = if [(d : Int), (e : Int), m.tg] = k then 1 else 0 := fun k => by
      rw [one1, hko]; simp [sendI]
    have h0 : kc 3 m.ps [(d : Int), (e : Int), m.tg] = 0 := by
      apply Classical.byContradiction
      intro hc
      have := h.old [(d : Int), (e : Int), m.tg] (by omega)
      simp at this
    have htg := hz.tg
    refine ⟨fun x hx => ?_, fun x hx r => ?_, fun k => ?_, fun k hk => ?_, fun k => ?_, fun x hx => ?_⟩
    · simp only [List.length_set] at hx ⊢
      by_cases hxd : x = d
      · subst hxd
        rw [getD_set_eq _ _ hd]
        refine (h.good x hd).snoc (by simp [formB, sendI, bare_empty]) ?_
        have hal : wrote (m.ps.getD x []) a = true := (h.reg x hd a).2 (by omega)
        have en : namedB (m.ps.getD x []) m.ps.length (sendI a e m.tg) = ((wrote (m.ps.getD x []) a && true) && (!(((3 : Int) != 3) && (decide ((0 : Int) < 0) || (decide ((0 : Int) > 65536) || wrote (m.ps.getD x []) 0))) &&
          (decide ((e : Int) ≥ 0) && (decide ((e : Int) < m.ps.length) && (decide ((0 : Int) ≥ 0) && (decide (m.tg ≥ 0) && decide (m.tg ≤ 1073741824))))))) := rfl
        rw [en, hal, decide_eq_true (show (e : Int) ≥ 0 by omega), decide_eq_true (show (e : Int) < m.ps.length by omega), decide_eq_true htg.1, decide_eq_true (show m.tg ≤ 1073741824 by omega)]
        simp
      · rw [getD_set_ne _ _ hxd]; exact h.good x hx
    · simp only [List.length_set] at hx
      by_cases hxd : x = d
      · subst hxd
        simp only
        rw [getD_set_eq _ _ hd, wrote_append, wrote_send (by simp [sendI])]
        have : wrote [] r = false := rfl
        rw [this, Bool.or_false]; exact h.reg x hd r
      · simp only
        rw [getD_set_ne _ _ hxd]; exact h.reg x hx r
    · simp only [e3, hone]
      split
      · rename_i hk; subst hk; omega
      · have := h.one k; omega
    · simp only [e3, hone] at hk ⊢
      split at hk
      · rename_i hk'; subst hk'; simpa using h1
      · have := h.old k (by omega); omega
    · simp only [e3, e4, hone, List.map_append, List.count_append, List.map_cons, List.map_nil]
      rw [h.cnt k]
      have : List.count k [keyM ⟨(d : Int), (e : Int), m.tg, sh⟩] = if [(d : Int), (e : Int), m.tg] = k then 1 else 0 := by
        rw [List.count_cons]; simp [keyM]
      rw [this]; omega
    · simp only [List.length_set]
      rcases List.mem_append.1 hx with hx | hx
      · have := h.msg x hx; omega
      · rw [List.mem_singleton.1 hx]; simp only; omega
  | recv k e hk he hl =>
    have hx := h.msg _ (List.getElem_mem hk)
    have htg := hz.tg
    refine h.put hz hc hl (i := recvI m.w[k]) (by simp [recvI]) ?_ (by simp [recvI]) (by simp only [recvI]; omega) (by simp [recvI]) (by simp only [recvI]; omega) _ _ (fun q => ?_) (fun x hx => List.mem_of_mem_eraseIdx hx)
    · simp [formB, withOut, recvI, bare_empty]
    · rw [h.cnt q]
      have hko : keyOf 4 e (recvI m.w[k]) = keyM m.w[k] := by simp only [keyOf, recvI, keyM, he]; simp
      have : (m.w.map keyM).count q = one1 4 e (recvI m.w[k]) q + ((m.w.eraseIdx k).map keyM).count q := by
        rw [one1, hko, List.eraseIdx_eq_take_drop_succ]
        conv => lhs; rw [← List.take_append_drop k m.w, List.drop_eq_getElem_cons hk]
        simp only [List.map_append, List.map_cons, List.count_append, List.count_cons, beq_iff_eq]
        have : (recvI m.w[k]).kind = 4 := rfl
        simp only [this, true_and]
        omega
      omega

theorem PInv.init (n : Nat) : PInv ⟨List.replicate n [], List.replicate n [], [], 0⟩ := by
  have e : ∀ {α : Type} (d : Nat), (List.replicate n ([] : List α)).getD d [] = [] := by
    intro α d; simp only [List.getD_eq_getElem?_getD, List.getElem?_replicate]; split <;> rfl
  have z : ∀ (kind : Int) k, kc kind (List.replicate n []) k = 0 := fun kind k => by
    rw [kc, List.count_eq_zero]
    intro hk
    obtain ⟨d, i, hd, hi, _⟩ := mem_keys hk
    rw [← getD_at hd, e] at hi; simp at hi
  refine ⟨fun d hd => ?_, fun d hd r => ?_, fun k => ?_, fun k hk => ?_, fun k => ?_, fun x hx => by simp at hx⟩
  · simp only; rw [e]; exact .nil _
  · simp only; rw [e, e]; simp [wrote]
  · simp only [z]; omega
  · simp only [z] at hk; omega
  · simp [z]
theorem MReach.inv {c : Nat} {m : MS} (h : MReach c m) : c ≤ 1000 → PInv m := by
  induction h with
  | init n h1 h4 => exact fun _ => .init n
  | step h hd hs ih => exact fun hc => (ih (by omega)).step h.sz (by omega) hd hs

section fin
variable {c : Nat} {m : MS}
theorem PInv.right (h : PInv m) (hz : MSz c m) (hc : c ≤ 1000) : rightE m.ps = 0 := by
  refine right_of hz.n1 (by have := hz.n4; omega) fun p hp => ?_
  obtain ⟨d, hd, rfl⟩ := List.getElem_of_mem hp
  rw [← getD_at hd]
  exact ⟨by have := hz.p d; omega, h.good d hd⟩
theorem PInv.right_set (h : PInv m) (hz : MSz c m) (hc : c ≤ 1000) {k : Nat} (hk : k < m.ps.length) {q : List Instr} (hl : q.length ≤ 65536) (hq : GoodS m.ps.length q) : rightE (m.ps.set k q) = 0 := by
  refine right_of (by simpa using hz.n1) (by have := hz.n4; rw [List.length_set]; omega) fun p hp => ?_
  rw [List.length_set]
  rcases List.mem_or_eq_of_mem_set hp with hp | rfl
  · obtain ⟨d, hd, rfl⟩ := List.getElem_of_mem hp
    rw [← getD_at hd]
    exact ⟨by have := hz.p d; omega, h.good d hd⟩
  · exact ⟨hl, hq⟩
theorem PInv.same3 (h : PInv m) (hw : m.w = []) (k : Key) : kc 3 m.ps k = kc 4 m.ps k := by have := h.cnt k; rw [hw] at this; simpa using this
theorem PInv.pairs (h : PInv m) (hz : MSz c m) (hc : c ≤ 1000) (hw : m.w = []) : pairsC m.ps = 0 := pairs_zero (h.right hz hc) h.one (h.same3 hw)
theorem PInv.pairs_less (h : PInv m) (hz : MSz c m) (hc : c ≤ 1000) (hw : m.w = []) {k : Nat} (hk : k < m.ps.length) {u v : List Instr} {s : Instr} (hp : m.ps.getD k [] = u ++ s :: v) (hs : s.kind = 3) : pairsC (m.ps.set k (u ++ v)) = 22 := by
  have hg := h.good k hk
  have hl := hz.p k
  rw [hp] at hg hl
  simp only [List.length_append, List.length_cons] at hl
  have e : ∀ kind q, kc kind (m.ps.set k (u ++ v)) q + one1 kind k s q = kc kind m.ps q := fun kind q => by
    have := kc_set kind (u ++ v) q hk
    rw [hp, cK_append, cK_append, cK_cons] at this; omega
  have e4 : ∀ q, one1 4 k s q = 0 := fun q => by rw [one1, if_neg (by rw [hs]; simp)]
  have e3 : one1 3 k s (keyOf 3 k s) = 1 := by rw [one1, if_pos ⟨hs, rfl⟩]
  refine pairs_miss (h.right_set hz hc hk (by rw [List.length_append]; omega) (hg.less hs)) (fun q => ?_) (fun q => ?_) (k := keyOf 3 k s) ?_ ?_
  · have := e 3 q; have := h.one q; omega
  · have := e 4 q; have := h.one q; have := h.same3 hw q; omega
  · have := e 3 (keyOf 3 k s); have := h.one (keyOf 3 k s); omega
  · have := e 3 (keyOf 3 k s); have := e 4 (keyOf 3 k s); have := h.same3 hw (keyOf 3 k s); have := e4 (keyOf 3 k s); omega
theorem PInv.pairs_more (h : PInv m) (hz : MSz c m) (hc : c ≤ 1000) {k : Nat} (hk : k < m.ps.length) {u v : List Instr} {s : Instr} (hp : m.ps.getD k [] = u ++ s :: v) (hs : s.kind = 3) : pairsC (m.ps.set k (m.ps.getD k [] ++ [s])) = 25 := by
  have hg := h.good k hk
  have hl := hz.p k
  rw [hp] at hg hl
  simp only [List.length_append, List.length_cons] at hl
  have e3 : one1 3 k s (keyOf 3 k s) = 1 := by rw [one1, if_pos ⟨hs, rfl⟩]
  refine pairs_dup (h.right_set hz hc hk (by rw [hp]; simp only [List.length_append, List.length_cons, List.length_nil]; omega) (by rw [hp]; exact hg.more hs)) (k := keyOf 3 k s) ?_
  rw [kc_snoc 3 _ _ hk, e3]
  have := kc_set 3 (m.ps.getD k []) (keyOf 3 k s) hk
  have : 0 < cK 3 k (m.ps.getD k []) (keyOf 3 k s) := by rw [hp, cK_append, cK_cons, e3]; omega
  have : 0 < kc 3 m.ps (keyOf 3 k s) := by
    have := kc_set 3 [] (keyOf 3 k s) hk
    rw [cK_nil] at this; omega
  omega
end fin

/-- How many there are. -/
theorem cntE_flat (l : List (List Instr)) : ∀ a : Int, 0 ≤ a → a + l.flatten.length < 2 ^ 62 → l.foldl (fun n p => IntKind.i64.wrap (n + p.length)) a = a + l.flatten.length := by
  induction l with
  | nil => intro a _ _; simp
  | cons p l ih =>
    intro a h0 h
    simp only [List.flatten_cons, List.length_append] at h
    rw [List.foldl_cons, IntWalk.i64_in _ (by omega), ih _ (by omega) (by omega)]
    simp only [List.flatten_cons, List.length_append]; omega
theorem sndP_flat (p : List Instr) : ∀ a : Int, 0 ≤ a → a + p.length < 2 ^ 62 → sndP a p = a + p.countP fun i => i.kind == 3 := by
  induction p with
  | nil => intro a _ _; simp [sndP]
  | cons i p ih =>
    intro a h0 h
    simp only [List.length_cons] at h
    have hs : sndP a (i :: p) = sndP (if (i.kind == 3) = true then IntKind.i64.wrap (a + 1) else a) p := rfl
    rw [hs, List.countP_cons]
    split
    · rename_i hk
      rw [IntWalk.i64_in _ (by omega), ih _ (by omega) (by omega)]; omega
    · rename_i hk
      rw [ih _ (by omega) (by omega)]; omega
theorem sndE_flat (l : List (List Instr)) : ∀ a : Int, 0 ≤ a → a + l.flatten.length < 2 ^ 62 → l.foldl sndP a = a + l.flatten.countP fun i => i.kind == 3 := by
  induction l with
  | nil => intro a _ _; simp
  | cons p l ih =>
    intro a h0 h
    simp only [List.flatten_cons, List.length_append] at h
    have hc : (p.countP fun i => i.kind == 3) ≤ p.length := List.countP_le_length
    rw [List.foldl_cons, sndP_flat p a h0 (by omega), ih _ (by omega) (by omega)]
    simp only [List.flatten_cons, List.countP_append]; omega
theorem cntE_is {l : List (List Instr)} (h : l.flatten.length < 2 ^ 62) : cntE l = l.flatten.length := by
  have := cntE_flat l 0 (by omega) (by omega); simpa [cntE] using this
theorem sndE_is {l : List (List Instr)} (h : l.flatten.length < 2 ^ 62) : sndE l = l.flatten.countP fun i => i.kind == 3 := by
  have := sndE_flat l 0 (by omega) (by omega); simpa [sndE] using this
theorem flat_set (f : Instr → Bool) {l : List (List Instr)} {k : Nat} (hk : k < l.length) (q : List Instr) : (l.set k q).flatten.countP f + (l.getD k []).countP f = l.flatten.countP f + q.countP f := by
  rw [getD_at hk]
  conv => rhs; rw [← List.take_append_drop k l, List.drop_eq_getElem_cons hk]
  rw [List.set_eq_take_append_cons_drop, if_pos hk]
  simp only [List.flatten_append, List.flatten_cons, List.countP_append]; omega
theorem flat_len {l : List (List Instr)} : l.flatten.length = l.flatten.countP fun _ => true := by simp
theorem MSz.flat {c : Nat} {m : MS} (hz : MSz c m) (hc : c ≤ 1000) : m.ps.flatten.length ≤ 4 * 1000 := by
  have : ∀ l : List (List Instr), (∀ p ∈ l, p.length ≤ 1000) → l.flatten.length ≤ l.length * 1000 := by
    intro l
    induction l with
    | nil => intro _; simp
    | cons p l ih =>
      intro h
      have h1 := h p (by simp)
      have h2 := ih fun q hq => h q (by simp [hq])
      simp only [List.flatten_cons, List.length_append, List.length_cons]; omega
  have h1 := this m.ps fun p hp => by
    obtain ⟨d, hd, rfl⟩ := List.getElem_of_mem hp
    have := hz.p d
    rw [getD_at hd] at this; omega
  have := hz.n4
  omega
theorem count_less {c : Nat} {m : MS} (hz : MSz c m) (hc : c ≤ 1000) {k : Nat} (hk : k < m.ps.length) {u v : List Instr} {s : Instr} (hp : m.ps.getD k [] = u ++ s :: v) : cntE (m.ps.set k (u ++ v)) = cntE m.ps - 1 := by
  have hf := hz.flat hc
  have e := flat_set (fun _ => true) hk (u ++ v)
  rw [hp] at e
  simp only [List.countP_append, List.countP_cons, List.countP_true, if_true] at e
  rw [cntE_is (by omega), cntE_is (by omega)]; omega
theorem sends_more {c : Nat} {m : MS} (hz : MSz c m) (hc : c ≤ 1000) {k : Nat} (hk : k < m.ps.length) {s : Instr} (hs : s.kind = 3) : sndE (m.ps.set k (m.ps.getD k [] ++ [s])) = sndE m.ps + 1 := by
  have hf := hz.flat hc
  have e := flat_set (fun i => i.kind == 3) hk (m.ps.getD k [] ++ [s])
  have e' := flat_set (fun _ => true) hk (m.ps.getD k [] ++ [s])
  simp only [List.countP_append, List.countP_cons, List.countP_nil, List.countP_true, if_true] at e e'
  have hb : (s.kind == 3) = true := by rw [hs]; rfl
  rw [if_pos hb] at e
  rw [sndE_is (by omega), sndE_is (by omega)]; omega
end Go.Proofs.Ytfjbabacpnnjmaa.Av
