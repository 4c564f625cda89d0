/- A logic of small values, and walks in it: The reference's folds of two tensors: Step, all, Two. The reference's node: takes, form, work, Shape, Node. The reference's node: work, Shape, Node. The reference's node. The ring's Reduce. -/
import Derived.Test.YtfjbabacpnnjmaaAv13
set_option linter.unusedVariables false
set_option linter.unusedSimpArgs false
set_option linter.deprecated false
namespace Go.Proofs.Ytfjbabacpnnjmaa.Av
open Go Go.Av
set_option maxRecDepth 20000
set_option maxHeartbeats 4000000

attribute [local go_sem] step_apply stepD_apply stepE_apply
attribute [local go_sem] aopq_mv aopq_pk aopq_al aopq_bx aopq_bd aopq_bs aopq_ld aopq_st aopq_nc aopq_bin aopq_un aopq_cv aopq_mi aopq_mf aopq_mm aopq_ms aopq_sc aopq_fa aopq_fl aopq_ia aopq_lk aopq_mu aopq_lm aopq_rg aopq_en aopq_ta aopq_ex aopq_ln aopq_ap aopq_mx aopq.eq_3 aop.eq_1 aop.eq_2 aop.eq_3 aop.eq_4 aop.eq_5 aop.eq_6 aop.eq_7 aop.eq_8 aop.eq_9 aop_bin atS_apply aop_un_not aop_un_neg aop.eq_14 aop.eq_15 aop.eq_16 aop.eq_17 aop.eq_18 aop_sc cutS_apply cutN_apply cutL_apply cutO_apply aop.eq_20 aop.eq_21 aop.eq_22 aop.eq_23 aop.eq_24 aop.eq_25 aop.eq_26 aop.eq_27 aop.eq_28 aop.eq_29 aop.eq_30 aop.eq_31 aop.eq_32 blk_push next_push blk_set next_set blk_kill next_kill frL_nil frL_cons Fits_nil Fits_cons Int.reduceBEq Int.reduceBNe Nat.sub_zero Option.map_some Option.map_none List.set_cons_succ true_or or_true false_or or_false Int.le_refl Int.cast_ofNat_Int decide_true decide_false List.cons_append fillA fillR rowsOf List.replicate_succ List.replicate_zero Nat.zero_mul getD_drop List.length_drop splice List.nil_append List.append_nil cond_true cond_false List.set_cons_zero List.length_set ev put_some put_none upd_apply abin asNat bounds row1 mk List.length_cons List.length_nil List.length_map List.drop_zero List.drop_succ_cons List.drop_nil List.getD_cons_zero List.getD_cons_succ Option.getD_none Option.getD_some List.take_succ_cons List.take_zero List.take_nil true_and and_true Int.toNat_natCast if_true if_false Nat.zero_add Nat.add_zero List.map_cons List.map_nil Nat.reduceEqDiff Nat.left_eq_add Nat.add_eq_left Nat.add_left_cancel_iff Nat.add_assoc Nat.reduceSub Nat.reduceAdd Nat.reduceLeDiff Nat.le_refl Nat.zero_le Nat.zero_lt_one Nat.lt_add_one Int.reduceLT Int.reduceLE Int.reduceToNat Nat.reduceLT Nat.reduceBEq Bool.false_eq_true Nat.reduceBNe ne_eq not_false_eq_true not_true_eq_false false_and and_false reduceIte Int.natCast_nonneg reduceCtorEq parts_agg parts_bool parts_int parts_str parts_lit parts_nils parts_sl parts_ptr Int.natCast_nonneg Int.natCast_nonneg beq_self_eq_true bne_self_eq_false Bool.true_and Bool.false_and Bool.and_true Bool.and_false Bool.true_or Bool.false_or Bool.or_true Bool.or_false Bool.not_true Bool.not_false
attribute [local go_sem] instr0 instr1 instr2 instr10 instr11 instr12 instrN instrA instr_len node0 node1 node2 node3 node4 node5 node6 nodeA node_len I ints progA progsA

def foldOp (op a b : Int) : Int := if op = 6 then IntKind.i64.wrap (a + b) else if op = 8 then IntKind.i64.wrap (a * b) else if op = 9 then min a b else max a b
def IsOp (op : Int) : Prop := op = 6 ∨ op = 8 ∨ op = 9 ∨ op = 10
def twoT (op : Int) (a b : Ten) : Ten := ⟨a.sh, List.zipWith (foldOp op) a.dt b.dt⟩
def Ten.ok (t : Ten) : Prop := rightT t.sh t.dt = true
theorem Ten.ok.size {t : Ten} (h : t.ok) : t.dt.length = (sizeE t.sh).toNat := by
 simp only [Ten.ok, rightT, Bool.and_eq_true, beq_iff_eq] at h
 omega
theorem Ten.ok.right {t : Ten} (h : t.ok) : rightS t.sh = true := by
 simp only [Ten.ok, rightT, Bool.and_eq_true] at h
 exact h.1
theorem twoT_ok {op : Int} {a b : Ten} (ha : a.ok) (hb : b.ok) (hs : a.sh = b.sh) : (twoT op a b).ok := by
 have h1 := ha.size
 have h2 := hb.size
 rw [← hs] at h2
 have h3 := ha
 simp only [Ten.ok, rightT, Bool.and_eq_true, beq_iff_eq] at h3
 simp only [Ten.ok, rightT, twoT, h3.1, Bool.true_and, beq_iff_eq, List.length_zipWith]
 omega

/-- parquetryref4.Step -/
theorem opStep_spec (op a b : Int) (h : IsOp op) (σ : St) : T Try.prog 166 [I op, I a, I b] σ (I (foldOp op a b)) σ := by
 refine in166 (by simp) fun wf hab => ?_
 clear hab
 unfold c166
 rcases h with rfl | rfl | rfl | rfl
 ·repeat' (first | (refine hK _ _ ?_; clear hK K hA A) | (refine hA.cut (by simp (maxSteps := 1000000) only [go_sem, *]; with_reducible rfl) (fun hs => ?_) (fun hs => ?_) <;> simp (maxSteps := 1000000) only [go_sem, hA.nil, hA.go, hA.yes, hA.noT, hA.noF, hA.skp, *]) | (refine .seq (.rg fun A hA K hK => ?_); simp (maxSteps := 1000000) only [go_sem, hA.nil, hA.go, hA.yes, hA.noT, hA.noF, hA.skp, *]) | (refine .seq (.seq (.rg fun A hA K hK => ?_)); simp (maxSteps := 1000000) only [go_sem, hA.nil, hA.go, hA.yes, hA.noT, hA.noF, hA.skp, *]) | (refine .rg fun A hA K hK => ?_; simp (maxSteps := 1000000) only [go_sem, hA.nil, hA.go, hA.yes, hA.noT, hA.noF, hA.skp, *]) | (refine .seq (.rd fun A hA K hK => ?_); simp (maxSteps := 1000000) only [go_sem, hA.nil, hA.go, hA.yes, hA.noT, hA.noF, hA.skp, *]) | (refine .seq (.seq (.rd fun A hA K hK => ?_)); simp (maxSteps := 1000000) only [go_sem, hA.nil, hA.go, hA.yes, hA.noT, hA.noF, hA.skp, *]) | (refine .rd fun A hA K hK => ?_; simp (maxSteps := 1000000) only [go_sem, hA.nil, hA.go, hA.yes, hA.noT, hA.noF, hA.skp, *]) | (refine .cond (t := _) (by simp (maxSteps := 1000000) only [go_sem, *]; with_reducible rfl) (fun hs => ?_) (fun hs => ?_) <;> (first | (cases hs; done) | skip)) | (refine .seq (.cond (t := _) (by simp (maxSteps := 1000000) only [go_sem, *]; with_reducible rfl) (fun hs => ?_) (fun hs => ?_)) <;> (first | (cases hs; done) | skip)) | refine .skip ?_ | refine .seq (.block ?_) | refine .block ?_ | refine .exit ?_ | ((exact .ret (ret1 (by simp (maxSteps := 1000000) only [go_sem, foldOp, Int.reduceEq]) rfl)); done))
 ·repeat' (first | (refine hK _ _ ?_; clear hK K hA A) | (refine hA.cut (by simp (maxSteps := 1000000) only [go_sem, *]; with_reducible rfl) (fun hs => ?_) (fun hs => ?_) <;> simp (maxSteps := 1000000) only [go_sem, hA.nil, hA.go, hA.yes, hA.noT, hA.noF, hA.skp, *]) | (refine .seq (.rg fun A hA K hK => ?_); simp (maxSteps := 1000000) only [go_sem, hA.nil, hA.go, hA.yes, hA.noT, hA.noF, hA.skp, *]) | (refine .seq (.seq (.rg fun A hA K hK => ?_)); simp (maxSteps := 1000000) only [go_sem, hA.nil, hA.go, hA.yes, hA.noT, hA.noF, hA.skp, *]) | (refine .rg fun A hA K hK => ?_; simp (maxSteps := 1000000) only [go_sem, hA.nil, hA.go, hA.yes, hA.noT, hA.noF, hA.skp, *]) | (refine .seq (.rd fun A hA K hK => ?_); simp (maxSteps := 1000000) only [go_sem, hA.nil, hA.go, hA.yes, hA.noT, hA.noF, hA.skp, *]) | (refine .seq (.seq (.rd fun A hA K hK => ?_)); simp (maxSteps := 1000000) only [go_sem, hA.nil, hA.go, hA.yes, hA.noT, hA.noF, hA.skp, *]) | (refine .rd fun A hA K hK => ?_; simp (maxSteps := 1000000) only [go_sem, hA.nil, hA.go, hA.yes, hA.noT, hA.noF, hA.skp, *]) | (refine .cond (t := _) (by simp (maxSteps := 1000000) only [go_sem, *]; with_reducible rfl) (fun hs => ?_) (fun hs => ?_) <;> (first | (cases hs; done) | skip)) | (refine .seq (.cond (t := _) (by simp (maxSteps := 1000000) only [go_sem, *]; with_reducible rfl) (fun hs => ?_) (fun hs => ?_)) <;> (first | (cases hs; done) | skip)) | refine .skip ?_ | refine .seq (.block ?_) | refine .block ?_ | refine .exit ?_ | ((exact .ret (ret1 (by simp (maxSteps := 1000000) only [go_sem, foldOp, Int.reduceEq]) rfl)); done))
 ·repeat' (first | (refine hK _ _ ?_; clear hK K hA A) | (refine hA.cut (by simp (maxSteps := 1000000) only [go_sem, *]; with_reducible rfl) (fun hs => ?_) (fun hs => ?_) <;> simp (maxSteps := 1000000) only [go_sem, hA.nil, hA.go, hA.yes, hA.noT, hA.noF, hA.skp, *]) | (refine .seq (.rg fun A hA K hK => ?_); simp (maxSteps := 1000000) only [go_sem, hA.nil, hA.go, hA.yes, hA.noT, hA.noF, hA.skp, *]) | (refine .seq (.seq (.rg fun A hA K hK => ?_)); simp (maxSteps := 1000000) only [go_sem, hA.nil, hA.go, hA.yes, hA.noT, hA.noF, hA.skp, *]) | (refine .rg fun A hA K hK => ?_; simp (maxSteps := 1000000) only [go_sem, hA.nil, hA.go, hA.yes, hA.noT, hA.noF, hA.skp, *]) | (refine .seq (.rd fun A hA K hK => ?_); simp (maxSteps := 1000000) only [go_sem, hA.nil, hA.go, hA.yes, hA.noT, hA.noF, hA.skp, *]) | (refine .seq (.seq (.rd fun A hA K hK => ?_)); simp (maxSteps := 1000000) only [go_sem, hA.nil, hA.go, hA.yes, hA.noT, hA.noF, hA.skp, *]) | (refine .rd fun A hA K hK => ?_; simp (maxSteps := 1000000) only [go_sem, hA.nil, hA.go, hA.yes, hA.noT, hA.noF, hA.skp, *]) | (refine .cond (t := _) (by simp (maxSteps := 1000000) only [go_sem, *]; with_reducible rfl) (fun hs => ?_) (fun hs => ?_) <;> (first | (cases hs; done) | skip)) | (refine .seq (.cond (t := _) (by simp (maxSteps := 1000000) only [go_sem, *]; with_reducible rfl) (fun hs => ?_) (fun hs => ?_)) <;> (first | (cases hs; done) | skip)) | refine .skip ?_ | refine .seq (.block ?_) | refine .block ?_ | refine .exit ?_ | ((exact .ret (ret1 (by simp (maxSteps := 1000000) only [go_sem, foldOp, Int.reduceEq]) rfl)); done))
 ·repeat' (first | (refine hK _ _ ?_; clear hK K hA A) | (refine hA.cut (by simp (maxSteps := 1000000) only [go_sem, *]; with_reducible rfl) (fun hs => ?_) (fun hs => ?_) <;> simp (maxSteps := 1000000) only [go_sem, hA.nil, hA.go, hA.yes, hA.noT, hA.noF, hA.skp, *]) | (refine .seq (.rg fun A hA K hK => ?_); simp (maxSteps := 1000000) only [go_sem, hA.nil, hA.go, hA.yes, hA.noT, hA.noF, hA.skp, *]) | (refine .seq (.seq (.rg fun A hA K hK => ?_)); simp (maxSteps := 1000000) only [go_sem, hA.nil, hA.go, hA.yes, hA.noT, hA.noF, hA.skp, *]) | (refine .rg fun A hA K hK => ?_; simp (maxSteps := 1000000) only [go_sem, hA.nil, hA.go, hA.yes, hA.noT, hA.noF, hA.skp, *]) | (refine .seq (.rd fun A hA K hK => ?_); simp (maxSteps := 1000000) only [go_sem, hA.nil, hA.go, hA.yes, hA.noT, hA.noF, hA.skp, *]) | (refine .seq (.seq (.rd fun A hA K hK => ?_)); simp (maxSteps := 1000000) only [go_sem, hA.nil, hA.go, hA.yes, hA.noT, hA.noF, hA.skp, *]) | (refine .rd fun A hA K hK => ?_; simp (maxSteps := 1000000) only [go_sem, hA.nil, hA.go, hA.yes, hA.noT, hA.noF, hA.skp, *]) | (refine .cond (t := _) (by simp (maxSteps := 1000000) only [go_sem, *]; with_reducible rfl) (fun hs => ?_) (fun hs => ?_) <;> (first | (cases hs; done) | skip)) | (refine .seq (.cond (t := _) (by simp (maxSteps := 1000000) only [go_sem, *]; with_reducible rfl) (fun hs => ?_) (fun hs => ?_)) <;> (first | (cases hs; done) | skip)) | refine .skip ?_ | refine .seq (.block ?_) | refine .block ?_ | refine .exit ?_ | ((exact .ret (ret1 (by simp (maxSteps := 1000000) only [go_sem, foldOp, Int.reduceEq]) rfl)); done))
theorem retBc2 {F : Fr} {σ σ0 : St} {n k b sz : Nat} {row : List AV} {g : Option Nat} {v u : AV} {Q : AV → St → Prop} (h : F n = .ptr b 0 0) (hb : σ.blk b = some (.cells sz [row])) (hg : g.getD 1 ≤ sz) (hm : mk g row 0 = v) (hu : F k = u) (wf : σ0.Wf) (hs : ∀ b, b < σ0.next → σ.blk b = σ0.blk b) (hv : v.Lt σ0.next) (hv' : u.Lt σ0.next) (hq : Q (.tup [v, u]) σ0) : retQ σ0.next [.c g n, .t k] Q .ret F σ :=
 ⟨[v, u], by simp [resOne, h, hb, hg, hm, hu], .tup [v, u], σ0, .back rfl wf hs (lt_tup (by simp only [List.forall_mem_cons, List.not_mem_nil, false_imp_iff, implies_true, and_true]; exact ⟨hv, hv'⟩)), hq⟩

/-- parquetryref4.all of two right tensors of one shape -/
theorem all2_spec (a b : Ten) (ha : a.ok) (hb : b.ok) (hs : a.sh = b.sh) (σ : St) : T Try.prog 165 [.lit 2 [tenL a, tenL b]] σ (I 0) σ := by
 refine in165 (by simp) fun wf hab => ?_
 clear hab
 have ta := refTensor_spec a.sh a.dt σ
 have tb := refTensor_spec b.sh b.dt σ
 rw [show rightT a.sh a.dt = true from ha] at ta
 rw [show rightT b.sh b.dt = true from hb] at tb
 have i1 := ints_spec a.sh a.sh σ
 have i2 := ints_spec b.sh a.sh σ
 rw [show (a.sh == a.sh) = true by simp] at i1
 rw [show (b.sh == a.sh) = true by rw [hs]; simp] at i2
 unfold c165
 refine .seq (.rg fun A hA K hK => ?_)
 simp (maxSteps := 1000000) only [go_sem, hA.nil, hA.go, hA.yes, hA.noT, hA.noF, hA.skp]
 refine hK _ _ ?_; clear hK K hA A
 refine .seq (.seq (.rg fun A hA K hK => ?_))
 simp (maxSteps := 1000000) only [go_sem, hA.nil, hA.go, hA.yes, hA.noT, hA.noF, hA.skp]
 refine hK _ _ ?_; clear hK K hA A
 refine .countK (N := 2) (fun i L s => L = [(0, .lit 2 [tenL a, tenL b]), (3, I i)] ∧ s = σ) (by decide) ⟨_, ⟨rfl, rfl⟩, by simp (maxSteps := 1000000) only [go_sem]; try rfl⟩ ?_ ?_ ?_
 ·rintro i L s hi ⟨rfl, rfl⟩
  refine .rg fun A hA K hK => ?_
  simp (maxSteps := 1000000) only [go_sem, hA.nil, hA.go, hA.yes, hA.noT, hA.noF, hA.skp]
  refine hK _ _ ?_; clear hK K hA A
  exact ⟨rfl, by simp (maxSteps := 1000000) only [go_sem]; try (simp; omega), _, ⟨rfl, rfl⟩, by simp (maxSteps := 1000000) only [go_sem]⟩
 ·rintro i L s hi ⟨rfl, rfl⟩
  have : i = 0 ∨ i = 1 := by omega
  rcases this with rfl | rfl
  ·refine .seq (.rd fun A hA K hK => ?_)
   simp (maxSteps := 1000000) only [go_sem, hA.nil, hA.go, hA.yes, hA.noT, hA.noF, hA.skp, tenL]
   refine aopq_call (ta) (by simp (maxSteps := 1000000) only [go_sem]) ?_
   try simp (maxSteps := 1000000) only [go_sem, hA.nil, hA.go, hA.yes, hA.noT, hA.noF, hA.skp]
   try simp (maxSteps := 1000000) only [go_sem, hA.nil, hA.go, hA.yes, hA.noT, hA.noF, hA.skp, tenL]
   refine aopq_call (i1) (by simp (maxSteps := 1000000) only [go_sem]) ?_
   try simp (maxSteps := 1000000) only [go_sem, hA.nil, hA.go, hA.yes, hA.noT, hA.noF, hA.skp]
   refine hK _ _ ?_; clear hK K hA A
   refine .cond (t := false) (by simp (maxSteps := 1000000) only [go_sem]) (fun h => by cases h) (fun _ => .skip ?_)
   exact ⟨by simp (maxSteps := 1000000) only [go_sem], _, ⟨rfl, rfl⟩, by simp (maxSteps := 1000000) only [go_sem, tenL]; try rfl⟩
  ·refine .seq (.rd fun A hA K hK => ?_)
   simp (maxSteps := 1000000) only [go_sem, hA.nil, hA.go, hA.yes, hA.noT, hA.noF, hA.skp, tenL]
   refine aopq_call (tb) (by simp (maxSteps := 1000000) only [go_sem]) ?_
   try simp (maxSteps := 1000000) only [go_sem, hA.nil, hA.go, hA.yes, hA.noT, hA.noF, hA.skp]
   try simp (maxSteps := 1000000) only [go_sem, hA.nil, hA.go, hA.yes, hA.noT, hA.noF, hA.skp, tenL]
   refine aopq_call (i2) (by simp (maxSteps := 1000000) only [go_sem]) ?_
   try simp (maxSteps := 1000000) only [go_sem, hA.nil, hA.go, hA.yes, hA.noT, hA.noF, hA.skp]
   refine hK _ _ ?_; clear hK K hA A
   refine .cond (t := false) (by simp (maxSteps := 1000000) only [go_sem]) (fun h => by cases h) (fun _ => .skip ?_)
   exact ⟨by simp (maxSteps := 1000000) only [go_sem], _, ⟨rfl, rfl⟩, by simp (maxSteps := 1000000) only [go_sem, tenL]; try rfl⟩
 ·rintro L s F ⟨rfl, rfl⟩ hf
  refine .seq (.rg fun A hA K hK => ?_)
  simp (maxSteps := 1000000) only [go_sem, hA.nil, hA.go, hA.yes, hA.noT, hA.noF, hA.skp]
  refine hK _ _ ?_; clear hK K hA A
  exact .ret (retB (by simp (maxSteps := 1000000) only [go_sem]) wf (fun _ _ => rfl) (.int _ _) ⟨rfl, rfl⟩)

theorem rightS_len {s : List Int} (h : rightS s = true) : s.length ≤ 4 := by
 simp only [rightS, Bool.and_eq_true] at h
 exact (prodI_bound s.length (Nat.le_refl _) h.1).1
theorem okLen {t : Ten} (h : t.ok) : t.sh.length ≤ 2 ^ 20 := by
 have := rightS_len h.right
 omega
theorem ten_lt (t : Ten) {n : Nat} : (AV.agg (tenL t)).Lt n := by
 refine .agg _ fun i hi => ?_
 have h2 : i = 0 ∨ i = 1 := by simp only [tenL, List.length_cons, List.length_nil] at hi; omega
 rcases h2 with rfl | rfl
 ·exact ints_lt _
 ·exact ints_lt _
/-- parquetryref4.Two -/
theorem two_spec (op : Int) (a b : Ten) (ho : IsOp op) (ha : a.ok) (hb : b.ok) (hs : a.sh = b.sh) (σ : St) : T Try.prog 163 [I op, .agg (tenL a), .agg (tenL b)] σ (.tup [.agg (tenL (twoT op a b)), I 0]) σ := by
 refine in163 (by simp) fun wf hab => ?_
 clear hab
 have la := ha.size
 have lb := hb.size
 rw [← hs] at lb
 have hN := (sizeE_in a.sh).2
 generalize hNN : (sizeE a.sh).toNat = N at la lb
 have hN2 : N ≤ 4096 := by omega
 have o1 : ¬ op < 6 := by rcases ho with rfl | rfl | rfl | rfl <;> decide
 have o2 : ¬ op > 11 := by rcases ho with rfl | rfl | rfl | rfl <;> decide
 unfold c163
 refine .midK (fun L u => L = [(0, I op), (4, .ptr σ.next 0 0), (5, .ptr (σ.next + 1) 0 0), (6, .ptr (σ.next + 2) 0 0)] ∧ u.next = σ.next + 3 ∧ u.blk σ.next = some (.cells 2 [[ints a.sh, ints a.dt]]) ∧ u.blk (σ.next + 1) = some (.cells 2 [[ints b.sh, ints b.dt]]) ∧ u.blk (σ.next + 2) = some (.cells 2 [[.lit 1 [], .lit 1 []]]) ∧ ∀ c, c < σ.next → u.blk c = σ.blk c) ?_ ?_
 ·refine .rg fun A hA K hK => ?_
  simp (maxSteps := 1000000) only [go_sem, hA.nil, hA.go, hA.yes, hA.noT, hA.noF, hA.skp, tenL]
  refine hK _ _ ?_; clear hK K hA A
  refine ⟨_, ⟨rfl, by simp (maxSteps := 1000000) only [go_sem], ?_, ?_, ?_, fun c hc => by simp (disch := omega) only [go_sem, if_neg]⟩, by simp (maxSteps := 1000000) only [go_sem]⟩
  ·simp (disch := omega) only [go_sem, if_neg]
  ·simp (disch := omega) only [go_sem, if_neg]
  ·simp (maxSteps := 1000000) only [go_sem]
 rintro L u ⟨rfl, hun, h4, h5, h6, hux⟩
 refine .seq (.seq (.rg fun A hA K hK => ?_))
 simp (maxSteps := 1000000) only [go_sem, hA.nil, hA.go, hA.yes, hA.noT, hA.noF, hA.skp, o1, o2]
 refine hK _ _ ?_; clear hK K hA A
 refine .cond (t := false) (by simp (maxSteps := 1000000) only [go_sem, o1, o2]) (fun h => by cases h) (fun _ => .skip ?_)
 refine .seq (.seq (.rg fun A hA K hK => ?_))
 simp (maxSteps := 1000000) only [go_sem, hA.nil, hA.go, hA.yes, hA.noT, hA.noF, hA.skp, h4, h5]
 refine aopq_call (all2_spec a b ha hb hs u) (by simp (maxSteps := 1000000) only [go_sem, tenL]) ?_
 try simp (maxSteps := 1000000) only [go_sem, hA.nil, hA.go, hA.yes, hA.noT, hA.noF, hA.skp, tenL]
 refine hK _ _ ?_; clear hK K hA A
 refine .seq (.rg fun A hA K hK => ?_)
 simp (maxSteps := 1000000) only [go_sem, hA.nil, hA.go, hA.yes, hA.noT, hA.noF, hA.skp]
 refine hK _ _ ?_; clear hK K hA A
 refine .cond (t := false) (by simp (maxSteps := 1000000) only [go_sem]) (fun h => by cases h) (fun _ => .skip ?_)
 refine .midK (fun L t => ∃ b9 c, L = [(0, I op), (4, .ptr σ.next 0 0), (5, .ptr (σ.next + 1) 0 0), (6, .ptr (σ.next + 2) 0 0), (9, .ptr b9 0 0)] ∧ σ.next + 3 ≤ c ∧ c < b9 ∧ b9 < t.next ∧ t.blk b9 = some (.cells 2 [[ints a.sh, .sl c 0 N]]) ∧ t.blk c = some (.cells 1 (List.replicate N [I 0])) ∧
   t.blk σ.next = some (.cells 2 [[ints a.sh, ints a.dt]]) ∧ t.blk (σ.next + 1) = some (.cells 2 [[ints b.sh, ints b.dt]]) ∧ t.blk (σ.next + 2) = some (.cells 2 [[.lit 1 [], .lit 1 []]]) ∧ ∀ c, c < σ.next → t.blk c = σ.blk c) ?_ ?_
 ·refine .rg fun A hA K hK => ?_
  simp (maxSteps := 1000000) only [go_sem, hA.nil, hA.go, hA.yes, hA.noT, hA.noF, hA.skp, h4]
  refine aopq_callQ (fill_spec a.sh (okLen ha) 0 u) (by simp (maxSteps := 1000000) only [go_sem]) ?_
  rintro v t ⟨c, rfl, k1, k2, k3, kx⟩
  rw [hNN] at k1 ⊢
  try simp (maxSteps := 1000000) only [go_sem, hA.nil, hA.go, hA.yes, hA.noT, hA.noF, hA.skp]
  refine hK _ _ ?_; clear hK K hA A
  have kx1 := kx.1
  have n0 : ¬ c = t.next := by omega
  refine ⟨_, ⟨t.next, c, rfl, by omega, by omega, by simp (maxSteps := 1000000) only [go_sem]; try omega, by simp (maxSteps := 1000000) only [go_sem], by simp (maxSteps := 1000000) only [go_sem, n0, k1], ?_, ?_, ?_, fun c2 hc => ?_⟩, by simp (maxSteps := 1000000) only [go_sem]⟩
  ·rw [← h4, ← kx.2 _ (by omega)]; simp (disch := omega) only [go_sem, if_neg]
  ·rw [← h5, ← kx.2 _ (by omega)]; simp (disch := omega) only [go_sem, if_neg]
  ·rw [← h6, ← kx.2 _ (by omega)]; simp (disch := omega) only [go_sem, if_neg]
  ·rw [← hux _ hc, ← kx.2 _ (by omega)]; simp (disch := omega) only [go_sem, if_neg]
 rintro L t ⟨b9, c, rfl, c1, c2, c3, h9, hc, h4, h5, h6, htx⟩
 have hzl : (twoT op a b).dt.length = N := by simp [twoT, la, lb]
 refine .seq (.seq (.rg fun A hA K hK => ?_))
 simp (maxSteps := 1000000) only [go_sem, hA.nil, hA.go, hA.yes, hA.noT, hA.noF, hA.skp, h9]
 refine hK _ _ ?_; clear hK K hA A
 refine .rangeK (N := N) (fun i L s => L = [(0, I op), (4, .ptr σ.next 0 0), (5, .ptr (σ.next + 1) 0 0), (6, .ptr (σ.next + 2) 0 0), (9, .ptr b9 0 0), (31, I N), (32, I i)] ∧ s.next = t.next ∧ s.blk b9 = some (.cells 2 [[ints a.sh, .sl c 0 N]]) ∧ (∃ ds : List Int, ds.length = N ∧ (∀ j, j < i → ds.getD j 0 = (twoT op a b).dt.getD j 0) ∧ s.blk c = some (.cells 1 (ds.map fun n => [I n]))) ∧
   s.blk σ.next = some (.cells 2 [[ints a.sh, ints a.dt]]) ∧ s.blk (σ.next + 1) = some (.cells 2 [[ints b.sh, ints b.dt]]) ∧ s.blk (σ.next + 2) = some (.cells 2 [[.lit 1 [], .lit 1 []]]) ∧ ∀ c, c < σ.next → s.blk c = σ.blk c) (by simp only [most]; omega)
  ⟨_, ⟨rfl, rfl, h9, ⟨List.replicate N 0, by simp, fun j hj => absurd hj (by omega), by rw [hc]; simp⟩, h4, h5, h6, htx⟩, by simp (maxSteps := 1000000) only [go_sem]; try rfl⟩ ?_ ?_ ?_
 ·rintro i L s ⟨rfl, _⟩
  exact ⟨by simp (maxSteps := 1000000) only [go_sem], by simp (maxSteps := 1000000) only [go_sem], rfl⟩
 ·rintro i L s hi ⟨rfl, hsn, h9, ⟨ds, hds, hj, hc⟩, h4, h5, h6, hsx⟩
  have e0 : (i : Int) < N := by omega
  have ia : i < a.dt.length := by omega
  have ib : i < b.dt.length := by omega
  have ga := ints_get ia
  have gb := ints_get ib
  have hset : ∀ x, (ds.map fun n => [I n]).set i [I x] = (ds.set i x).map fun n => [I n] := fun x => by rw [List.map_set]
  have hgd : (ds.map fun n => [I n]).getD i [] = [I (ds.getD i 0)] := by
   have : i < ds.length := by omega
   simp [List.getD_eq_getElem?_getD, this]
  have hzi : (twoT op a b).dt.getD i 0 = foldOp op a.dt[i] b.dt[i] := by simp [twoT, List.getD_eq_getElem?_getD, List.getElem?_zipWith, ia, ib]
  have hst := opStep_spec op a.dt[i] b.dt[i] ho s
  generalize a.dt[i] = x at *
  generalize b.dt[i] = y at *
  have n1 : ¬ b9 = c := by omega
  have n2 : ¬ σ.next = c := by omega
  have n3 : ¬ σ.next + 1 = c := by omega
  have n4 : ¬ σ.next + 2 = c := by omega
  refine .seq (.rg fun A hA K hK => ?_)
  simp (maxSteps := 1000000) only [go_sem, hA.nil, hA.go, hA.yes, hA.noT, hA.noF, hA.skp]
  refine hK _ _ ?_; clear hK K hA A
  refine .rd fun A hA K hK => ?_
  simp (maxSteps := 1000000) only [go_sem, hA.nil, hA.go, hA.yes, hA.noT, hA.noF, hA.skp, h9, h4, h5, hc, ga, gb, e0, ia, ib, la, lb, hi, hds, List.length_map]
  refine aopq_call (hst) (by simp (maxSteps := 1000000) only [go_sem]) ?_
  try simp (maxSteps := 1000000) only [go_sem, hA.nil, hA.go, hA.yes, hA.noT, hA.noF, hA.skp]
  try simp (maxSteps := 1000000) only [go_sem, hA.nil, hA.go, hA.yes, hA.noT, hA.noF, hA.skp, h9, h4, h5, hc, ga, gb, e0, ia, ib, la, lb, hi, hds, hgd, List.length_map]
  refine hK _ _ ?_; clear hK K hA A
  refine ⟨by simp (maxSteps := 1000000) only [go_sem], _, ⟨rfl, by simp (maxSteps := 1000000) only [go_sem]; exact hsn, by simp (maxSteps := 1000000) only [go_sem, n1, h9], ⟨ds.set i (foldOp op x y), by simpa using hds, fun j hji => ?_, by rw [← hset]; simp (maxSteps := 1000000) only [go_sem]⟩, by simp (maxSteps := 1000000) only [go_sem, n2, h4], by simp (maxSteps := 1000000) only [go_sem, n3, h5], by simp (maxSteps := 1000000) only [go_sem, n4, h6], fun c4 h1 => ?_⟩, by simp (maxSteps := 1000000) only [go_sem]; try rfl⟩
  ·by_cases e : j = i
   ·subst e; rw [getD_set_eq' _ _ (by omega), hzi]
   ·rw [getD_set_ne' _ _ e]; exact hj j (by omega)
  ·rw [← hsx c4 h1]; simp (disch := omega) only [go_sem, if_neg]
 ·rintro L s F ⟨rfl, hsn, h9, ⟨ds, hds, hj, hc⟩, h4, h5, h6, hsx⟩ hf
  simp (maxSteps := 1000000) only [go_sem] at hf
  have hdd : ds = (twoT op a b).dt := by
   refine List.ext_getElem (by omega) fun j h1 h2 => ?_
   have := hj j (by omega)
   simpa [List.getD_eq_getElem?_getD, h1, h2] using this
  subst hdd
  refine frz1 b9 1 h9 (by simp) rfl hc (by omega) (by simp [hzl]) ?_
  have n1 : ¬ σ.next + 2 = b9 := by omega
  have n2 : ¬ σ.next + 2 = c := by omega
  refine .seq (.rg fun A hA K hK => ?_)
  simp (maxSteps := 1000000) only [go_sem, hA.nil, hA.go, hA.yes, hA.noT, hA.noF, hA.skp, hf, n1, n2, h6]
  refine hK _ _ ?_; clear hK K hA A
  refine .ret (retBc2 (b := σ.next + 2) (sz := 2) (row := tenL (twoT op a b)) (by simp (maxSteps := 1000000) only [go_sem, hf]) (by simp (maxSteps := 1000000) only [go_sem, tenL, twoT]) (by decide) rfl (by simp (maxSteps := 1000000) only [go_sem]) wf (fun c4 h1 => ?_) (ten_lt _) (.int _ _) ⟨rfl, rfl⟩)
  rw [← hsx c4 h1]; simp (disch := omega) only [go_sem, if_neg]
end Go.Proofs.Ytfjbabacpnnjmaa.Av
namespace Go.Proofs.Ytfjbabacpnnjmaa.Av
open Go Go.Av
set_option maxRecDepth 20000
set_option maxHeartbeats 4000000

attribute [local go_sem] step_apply stepD_apply stepE_apply
attribute [local go_sem] aopq_mv aopq_pk aopq_al aopq_bx aopq_bd aopq_bs aopq_ld aopq_st aopq_nc aopq_bin aopq_un aopq_cv aopq_mi aopq_mf aopq_mm aopq_ms aopq_sc aopq_fa aopq_fl aopq_ia aopq_lk aopq_mu aopq_lm aopq_rg aopq_en aopq_ta aopq_ex aopq_ln aopq_ap aopq_mx aopq.eq_3 aop.eq_1 aop.eq_2 aop.eq_3 aop.eq_4 aop.eq_5 aop.eq_6 aop.eq_7 aop.eq_8 aop.eq_9 aop_bin atS_apply aop_un_not aop_un_neg aop.eq_14 aop.eq_15 aop.eq_16 aop.eq_17 aop.eq_18 aop_sc cutS_apply cutN_apply cutL_apply cutO_apply aop.eq_20 aop.eq_21 aop.eq_22 aop.eq_23 aop.eq_24 aop.eq_25 aop.eq_26 aop.eq_27 aop.eq_28 aop.eq_29 aop.eq_30 aop.eq_31 aop.eq_32 blk_push next_push blk_set next_set blk_kill next_kill frL_nil frL_cons Fits_nil Fits_cons Int.reduceBEq Int.reduceBNe Nat.sub_zero Option.map_some Option.map_none List.set_cons_succ true_or or_true false_or or_false Int.le_refl Int.cast_ofNat_Int decide_true decide_false List.cons_append fillA fillR rowsOf List.replicate_succ List.replicate_zero Nat.zero_mul getD_drop List.length_drop splice List.nil_append List.append_nil cond_true cond_false List.set_cons_zero List.length_set ev put_some put_none upd_apply abin asNat bounds row1 mk List.length_cons List.length_nil List.length_map List.drop_zero List.drop_succ_cons List.drop_nil List.getD_cons_zero List.getD_cons_succ Option.getD_none Option.getD_some List.take_succ_cons List.take_zero List.take_nil true_and and_true Int.toNat_natCast if_true if_false Nat.zero_add Nat.add_zero List.map_cons List.map_nil Nat.reduceEqDiff Nat.left_eq_add Nat.add_eq_left Nat.add_left_cancel_iff Nat.add_assoc Nat.reduceSub Nat.reduceAdd Nat.reduceLeDiff Nat.le_refl Nat.zero_le Nat.zero_lt_one Nat.lt_add_one Int.reduceLT Int.reduceLE Int.reduceToNat Nat.reduceLT Nat.reduceBEq Bool.false_eq_true Nat.reduceBNe ne_eq not_false_eq_true not_true_eq_false false_and and_false reduceIte Int.natCast_nonneg reduceCtorEq parts_agg parts_bool parts_int parts_str parts_lit parts_nils parts_sl parts_ptr Int.natCast_nonneg Int.natCast_nonneg beq_self_eq_true bne_self_eq_false Bool.true_and Bool.false_and Bool.and_true Bool.and_false Bool.true_or Bool.false_or Bool.or_true Bool.or_false Bool.not_true Bool.not_false
attribute [local go_sem] instr0 instr1 instr2 instr10 instr11 instr12 instrN instrA instr_len node0 node1 node2 node3 node4 node5 node6 nodeA node_len I ints progA progsA

attribute [local go_sem] Int.reduceGE Int.reduceGT Int.reduceEq
def foldN (op : Int) : Node := ⟨op, [], [], [], 0, 0, ⟨#[]⟩⟩
def joinN (axis : Int) : Node := ⟨17, [], [], [axis], 0, 0, ⟨#[]⟩⟩
def Ten.zero (t : Ten) : Ten := ⟨t.sh, List.replicate (sizeE t.sh).toNat 0⟩
theorem Ten.ok.zero {t : Ten} (h : t.ok) : t.zero.ok := by
 have h3 := h
 simp only [Ten.ok, rightT, Bool.and_eq_true, beq_iff_eq] at h3
 have := (sizeE_in t.sh).1
 simp only [Ten.ok, rightT, Ten.zero, h3.1, Bool.true_and, beq_iff_eq, List.length_replicate]
 omega

theorem takes_fold (op : Int) (h : IsOp op) (σ : St) : T Try.prog 164 [I op] σ (.tup [I 2, .bool false, .bool false, .bool false, .bool false]) σ := by
 refine in164 (by simp) fun wf hab => ?_
 clear hab
 unfold c164
 rcases h with rfl | rfl | rfl | rfl
 all_goals
  repeat' (first | (refine hK _ _ ?_; clear hK K hA A) | (refine hA.cut (by simp (maxSteps := 1000000) only [go_sem, *]; with_reducible rfl) (fun hs => ?_) (fun hs => ?_) <;> simp (maxSteps := 1000000) only [go_sem, hA.nil, hA.go, hA.yes, hA.noT, hA.noF, hA.skp, *]) | (refine .seq (.rg fun A hA K hK => ?_); simp (maxSteps := 1000000) only [go_sem, hA.nil, hA.go, hA.yes, hA.noT, hA.noF, hA.skp, *]) | (refine .seq (.seq (.rg fun A hA K hK => ?_)); simp (maxSteps := 1000000) only [go_sem, hA.nil, hA.go, hA.yes, hA.noT, hA.noF, hA.skp, *]) | (refine .rg fun A hA K hK => ?_; simp (maxSteps := 1000000) only [go_sem, hA.nil, hA.go, hA.yes, hA.noT, hA.noF, hA.skp, *]) | (refine .seq (.rd fun A hA K hK => ?_); simp (maxSteps := 1000000) only [go_sem, hA.nil, hA.go, hA.yes, hA.noT, hA.noF, hA.skp, *]) | (refine .seq (.seq (.rd fun A hA K hK => ?_)); simp (maxSteps := 1000000) only [go_sem, hA.nil, hA.go, hA.yes, hA.noT, hA.noF, hA.skp, *]) | (refine .rd fun A hA K hK => ?_; simp (maxSteps := 1000000) only [go_sem, hA.nil, hA.go, hA.yes, hA.noT, hA.noF, hA.skp, *]) | (refine .cond (t := _) (by simp (maxSteps := 1000000) only [go_sem, *]; with_reducible rfl) (fun hs => ?_) (fun hs => ?_) <;> (first | (cases hs; done) | skip)) | (refine .seq (.cond (t := _) (by simp (maxSteps := 1000000) only [go_sem, *]; with_reducible rfl) (fun hs => ?_) (fun hs => ?_)) <;> (first | (cases hs; done) | skip)) | refine .skip ?_ | refine .seq (.block ?_) | refine .block ?_ | refine .exit ?_ | ((exact .ret ⟨[I 2, .bool false, .bool false, .bool false, .bool false], by simp [resOne, go_sem], _, _, .refl _ _ _, rfl, rfl⟩); done))
theorem form_fold (op : Int) (h : IsOp op) (σ : St) : T Try.prog 151 [.agg (nodeL (foldN op)), I 2] σ (.bool true) σ := by
 refine in151 (by simp) fun wf hab => ?_
 clear hab
 unfold c151
 refine .midK (fun L u => L = [(1, I 2), (2, .ptr σ.next 0 0)] ∧ u = σ.push (.cells 7 [nodeL (foldN op)])) ?_ ?_
 ·refine .rg fun A hA K hK => ?_
  simp (maxSteps := 1000000) only [go_sem, hA.nil, hA.go, hA.yes, hA.noT, hA.noF, hA.skp, nodeL, foldN]
  refine hK _ _ ?_; clear hK K hA A
  exact ⟨_, ⟨rfl, rfl⟩, by simp (maxSteps := 1000000) only [go_sem]⟩
 rintro L u ⟨rfl, rfl⟩
 refine .seq (.rg fun A hA K hK => ?_)
 simp (maxSteps := 1000000) only [go_sem, hA.nil, hA.go, hA.yes, hA.noT, hA.noF, hA.skp, nodeL, foldN]
 refine aopq_call (takes_fold op h _) (by simp (maxSteps := 1000000) only [go_sem]) ?_
 try simp (maxSteps := 1000000) only [go_sem, hA.nil, hA.go, hA.yes, hA.noT, hA.noF, hA.skp]
 try simp (maxSteps := 1000000) only [go_sem, hA.nil, hA.go, hA.yes, hA.noT, hA.noF, hA.skp]
 refine hK _ _ ?_; clear hK K hA A
 refine .seq (.seq (.rg fun A hA K hK => ?_))
 simp (maxSteps := 1000000) only [go_sem, hA.nil, hA.go, hA.yes, hA.noT, hA.noF, hA.skp, nodeL, foldN]
 refine hK _ _ ?_; clear hK K hA A
 refine .cond (t := false) (by simp (maxSteps := 1000000) only [go_sem]; try rfl) (fun h => by cases h) (fun _ => .skip ?_)
 refine .seq (.rg fun A hA K hK => ?_)
 simp (maxSteps := 1000000) only [go_sem, hA.nil, hA.go, hA.yes, hA.noT, hA.noF, hA.skp, nodeL, foldN]
 refine hK _ _ ?_; clear hK K hA A
 refine .ret (retB (by simp (maxSteps := 1000000) only [go_sem]) wf (fun c hc => ?_) (.bool _) ⟨rfl, rfl⟩)
 simp (disch := omega) only [go_sem, if_neg]
/-- parquetryref10.work of a fold of two -/
theorem work_fold (op : Int) (a b : Ten) (ho : IsOp op) (ha : a.ok) (hb : b.ok) (hs : a.sh = b.sh) (σ : St) : T Try.prog 143 [.agg (nodeL (foldN op)), .lit 2 [tenL a, tenL b]] σ (.tup [.agg (tenL (twoT op a b)), I 0]) σ := by
 refine in143 (by simp) fun wf hab => ?_
 clear hab
 have c2 : (op == 2) = false := by rcases ho with rfl | rfl | rfl | rfl <;> decide
 have c3 : (op == 3) = false := by rcases ho with rfl | rfl | rfl | rfl <;> decide
 have c4 : (op == 4) = false := by rcases ho with rfl | rfl | rfl | rfl <;> decide
 have c5 : (op == 5) = false := by rcases ho with rfl | rfl | rfl | rfl <;> decide
 have c12 : (op == 12) = false := by rcases ho with rfl | rfl | rfl | rfl <;> decide
 have c13 : (op == 13) = false := by rcases ho with rfl | rfl | rfl | rfl <;> decide
 have c14 : (op == 14) = false := by rcases ho with rfl | rfl | rfl | rfl <;> decide
 have c15 : (op == 15) = false := by rcases ho with rfl | rfl | rfl | rfl <;> decide
 have c16 : (op == 16) = false := by rcases ho with rfl | rfl | rfl | rfl <;> decide
 have c17 : (op == 17) = false := by rcases ho with rfl | rfl | rfl | rfl <;> decide
 have c18 : (op == 18) = false := by rcases ho with rfl | rfl | rfl | rfl <;> decide
 have c19 : (op == 19) = false := by rcases ho with rfl | rfl | rfl | rfl <;> decide
 have c20 : (op == 20) = false := by rcases ho with rfl | rfl | rfl | rfl <;> decide
 unfold c143
 refine .midK (fun L u => L = [(0, .agg (nodeL (foldN op))), (1, .lit 2 [tenL a, tenL b]), (2, .ptr σ.next 0 0), (4, .ptr (σ.next + 1) 0 0)] ∧ u = (σ.push (.cells 7 [nodeL (foldN op)])).push (.cells 2 [[.lit 1 [], .lit 1 []]])) ?_ ?_
 ·refine .rg fun A hA K hK => ?_
  simp (maxSteps := 1000000) only [go_sem, hA.nil, hA.go, hA.yes, hA.noT, hA.noF, hA.skp, nodeL, foldN]
  refine hK _ _ ?_; clear hK K hA A
  exact ⟨_, ⟨rfl, rfl⟩, by simp (maxSteps := 1000000) only [go_sem, nodeL, foldN]⟩
 rintro L u ⟨rfl, hu⟩
 have h2 : u.blk σ.next = some (.cells 7 [[I op, ints [], ints [], ints [], I 0, I 0, .str ⟨#[]⟩]]) := by subst hu; simp (disch := omega) only [go_sem, if_neg, nodeL, foldN]
 have h4 : u.blk (σ.next + 1) = some (.cells 2 [[.lit 1 [], .lit 1 []]]) := by subst hu; simp (maxSteps := 1000000) only [go_sem]
 have hux : ∀ c, c < σ.next → u.blk c = σ.blk c := fun c hc => by subst hu; simp (disch := omega) only [go_sem, if_neg]
 clear hu
 refine .seq (.seq (.rg fun A hA K hK => ?_))
 simp (maxSteps := 1000000) only [go_sem, hA.nil, hA.go, hA.yes, hA.noT, hA.noF, hA.skp, h2]
 refine hK _ _ ?_; clear hK K hA A
 refine .block ?_
 refine .seq (.seq (.rg fun A hA K hK => ?_))
 simp (maxSteps := 1000000) only [go_sem, hA.nil, hA.go, hA.yes, hA.noT, hA.noF, hA.skp, c2]
 refine hK _ _ ?_; clear hK K hA A
 refine .cond (t := false) (by simp (maxSteps := 1000000) only [go_sem, c2]) (fun h => by cases h) (fun _ => ?_)
 refine .rg fun A hA K hK => ?_
 simp (maxSteps := 1000000) only [go_sem, hA.nil, hA.go, hA.yes, hA.noT, hA.noF, hA.skp, c3]
 refine hK _ _ ?_; clear hK K hA A
 refine .cond (t := false) (by simp (maxSteps := 1000000) only [go_sem, c3]) (fun h => by cases h) (fun _ => ?_)
 refine .seq (.seq (.rg fun A hA K hK => ?_))
 simp (maxSteps := 1000000) only [go_sem, hA.nil, hA.go, hA.yes, hA.noT, hA.noF, hA.skp, c4]
 refine hK _ _ ?_; clear hK K hA A
 refine .cond (t := false) (by simp (maxSteps := 1000000) only [go_sem, c4]) (fun h => by cases h) (fun _ => ?_)
 refine .rg fun A hA K hK => ?_
 simp (maxSteps := 1000000) only [go_sem, hA.nil, hA.go, hA.yes, hA.noT, hA.noF, hA.skp, c5]
 refine hK _ _ ?_; clear hK K hA A
 refine .cond (t := false) (by simp (maxSteps := 1000000) only [go_sem, c5]) (fun h => by cases h) (fun _ => ?_)
 refine .seq (.rg fun A hA K hK => ?_)
 simp (maxSteps := 1000000) only [go_sem, hA.nil, hA.go, hA.yes, hA.noT, hA.noF, hA.skp, c12]
 refine hK _ _ ?_; clear hK K hA A
 refine .cond (t := false) (by simp (maxSteps := 1000000) only [go_sem, c12]) (fun h => by cases h) (fun _ => ?_)
 refine .seq (.rg fun A hA K hK => ?_)
 simp (maxSteps := 1000000) only [go_sem, hA.nil, hA.go, hA.yes, hA.noT, hA.noF, hA.skp, c13]
 refine hK _ _ ?_; clear hK K hA A
 refine .cond (t := false) (by simp (maxSteps := 1000000) only [go_sem, c13]) (fun h => by cases h) (fun _ => ?_)
 refine .seq (.rg fun A hA K hK => ?_)
 simp (maxSteps := 1000000) only [go_sem, hA.nil, hA.go, hA.yes, hA.noT, hA.noF, hA.skp, c14]
 refine hK _ _ ?_; clear hK K hA A
 refine .cond (t := false) (by simp (maxSteps := 1000000) only [go_sem, c14]) (fun h => by cases h) (fun _ => ?_)
 refine .seq (.seq (.rg fun A hA K hK => ?_))
 simp (maxSteps := 1000000) only [go_sem, hA.nil, hA.go, hA.yes, hA.noT, hA.noF, hA.skp, c15]
 refine hK _ _ ?_; clear hK K hA A
 refine .cond (t := false) (by simp (maxSteps := 1000000) only [go_sem, c15]) (fun h => by cases h) (fun _ => ?_)
 refine .rg fun A hA K hK => ?_
 simp (maxSteps := 1000000) only [go_sem, hA.nil, hA.go, hA.yes, hA.noT, hA.noF, hA.skp, c16]
 refine hK _ _ ?_; clear hK K hA A
 refine .cond (t := false) (by simp (maxSteps := 1000000) only [go_sem, c16]) (fun h => by cases h) (fun _ => ?_)
 refine .seq (.seq (.rg fun A hA K hK => ?_))
 simp (maxSteps := 1000000) only [go_sem, hA.nil, hA.go, hA.yes, hA.noT, hA.noF, hA.skp, c17]
 refine hK _ _ ?_; clear hK K hA A
 refine .cond (t := false) (by simp (maxSteps := 1000000) only [go_sem, c17]) (fun h => by cases h) (fun _ => ?_)
 refine .rg fun A hA K hK => ?_
 simp (maxSteps := 1000000) only [go_sem, hA.nil, hA.go, hA.yes, hA.noT, hA.noF, hA.skp, c19]
 refine hK _ _ ?_; clear hK K hA A
 refine .cond (t := false) (by simp (maxSteps := 1000000) only [go_sem, c19]) (fun h => by cases h) (fun _ => ?_)
 refine .seq (.rg fun A hA K hK => ?_)
 simp (maxSteps := 1000000) only [go_sem, hA.nil, hA.go, hA.yes, hA.noT, hA.noF, hA.skp, c18]
 refine hK _ _ ?_; clear hK K hA A
 refine .cond (t := false) (by simp (maxSteps := 1000000) only [go_sem, c18]) (fun h => by cases h) (fun _ => ?_)
 refine .seq (.rg fun A hA K hK => ?_)
 simp (maxSteps := 1000000) only [go_sem, hA.nil, hA.go, hA.yes, hA.noT, hA.noF, hA.skp, c20]
 refine hK _ _ ?_; clear hK K hA A
 refine .cond (t := false) (by simp (maxSteps := 1000000) only [go_sem, c20]) (fun h => by cases h) (fun _ => ?_)
 refine .skip ?_
 refine .seq (.rd fun A hA K hK => ?_)
 simp (maxSteps := 1000000) only [go_sem, hA.nil, hA.go, hA.yes, hA.noT, hA.noF, hA.skp, h2, tenL]
 refine aopq_call (two_spec op a b ho ha hb hs u) (by simp (maxSteps := 1000000) only [go_sem, tenL]) ?_
 try simp (maxSteps := 1000000) only [go_sem, hA.nil, hA.go, hA.yes, hA.noT, hA.noF, hA.skp, tenL]
 try simp (maxSteps := 1000000) only [go_sem, hA.nil, hA.go, hA.yes, hA.noT, hA.noF, hA.skp, tenL, h4]
 refine hK _ _ ?_; clear hK K hA A
 refine .ret (retBc2 (b := σ.next + 1) (sz := 2) (row := tenL (twoT op a b)) (by simp (maxSteps := 1000000) only [go_sem]) (by simp (maxSteps := 1000000) only [go_sem, tenL]) (by decide) rfl (by simp (maxSteps := 1000000) only [go_sem]) wf (fun c hc => ?_) (ten_lt _) (.int _ _) ⟨rfl, rfl⟩)
 rw [← hux c hc]; simp (disch := omega) only [go_sem, if_neg]

def zeroShapes (ts : List Ten) : AV := .lit 1 (ts.map fun t => [ints t.sh])
theorem zsh_get {ts : List Ten} {i : Nat} (h : i < ts.length) : (ts.map fun t => [AV.lit 1 (t.sh.map fun n => [AV.int .i64 n])]).getD i [] = [ints ts[i].sh] := by simp [h, ints, I]
theorem frzLast {n0 : Nat} {F : Fr} {σ : St} {b' c' N : Nat} {prev : List (List AV)} {s : List Int} (hb' : σ.blk b' = some (.cells 2 (prev ++ [[ints s, .sl c' 0 N]]))) (hb : σ.blk c' = some (.cells 1 (List.replicate N [I 0]))) (hne : b' ≠ c') :
  Ent n0 F σ F ((σ.kill c').set b' (.cells 2 (prev ++ [[ints s, .lit 1 (List.replicate N [I 0])]]))) := by
 have hg : (prev ++ [[ints s, .sl c' 0 N]]).getD prev.length [] = [ints s, .sl c' 0 N] := by simp [List.getD_eq_getElem?_getD]
 have := Ent.freezeAt (n0 := n0) (F := F) (σ := σ) (b' := b') (b := c') (sz' := 2) (sz := 1) (i := prev.length) (j := 1) (off := 0) (n := N) (rows' := prev ++ [[ints s, .sl c' 0 N]]) (rows := List.replicate N [I 0]) hb' (by simp) (by rw [hg]; simp) (by rw [hg]; rfl) hb hne (by simp)
 rw [hg] at this
 simpa using this
theorem zeroL (t : Ten) : tenL t.zero = [ints t.sh, .lit 1 (List.replicate (sizeE t.sh).toNat [I 0])] := by simp [tenL, Ten.zero, ints]
/-- parquetryref10.Shape -/
theorem nodeShape_spec (n : Node) (ts : List Ten) (hn : n.op ≠ 1) (h0 : ts ≠ []) (h9 : ts.length ≤ 2 ^ 20) (hok : ∀ t ∈ ts, t.ok) (hform : ∀ σ, T Try.prog 151 [.agg (nodeL n), I ts.length] σ (.bool true) σ) (t0 : Ten)
  (hw : ∀ σ, T Try.prog 143 [.agg (nodeL n), .lit 2 ((ts.map Ten.zero).map tenL)] σ (.tup [.agg (tenL t0), I 0]) σ) (σ : St) : T Try.prog 142 [.agg (nodeL n), zeroShapes ts] σ (.tup [ints t0.sh, I 0]) σ := by
 refine in142 (by simp) fun wf hab => ?_
 clear hab
 have c1 : (n.op == 1) = false := by simpa using hn
 unfold c142
 refine .midK (fun L u => L = [(1, zeroShapes ts), (2, .ptr σ.next 0 0)] ∧ u.blk σ.next = some (.cells 7 [nodeL n]) ∧ Ext σ u ∧ σ.next < u.next) ?_ ?_
 ·refine .rg fun A hA K hK => ?_
  simp (maxSteps := 1000000) only [go_sem, hA.nil, hA.go, hA.yes, hA.noT, hA.noF, hA.skp, nodeL, zeroShapes]
  refine hK _ _ ?_; clear hK K hA A
  exact ⟨_, ⟨rfl, by simp (maxSteps := 1000000) only [go_sem, nodeL], ⟨by simp (maxSteps := 1000000) only [go_sem]; omega, fun c hc => by simp (disch := omega) only [go_sem, if_neg]⟩, by simp (maxSteps := 1000000) only [go_sem]; try omega⟩, by simp (maxSteps := 1000000) only [go_sem, zeroShapes]⟩
 rintro L u ⟨rfl, h2, hx, hun⟩
 simp only [nodeL] at h2
 refine .seq (.seq (.rg fun A hA K hK => ?_))
 simp (maxSteps := 1000000) only [go_sem, hA.nil, hA.go, hA.yes, hA.noT, hA.noF, hA.skp, h2, zeroShapes, List.length_map]
 refine aopq_call (hform u) (by simp (maxSteps := 1000000) only [go_sem, nodeL, List.length_map]) ?_
 try simp (maxSteps := 1000000) only [go_sem, hA.nil, hA.go, hA.yes, hA.noT, hA.noF, hA.skp, nodeL, List.length_map]
 refine hK _ _ ?_; clear hK K hA A
 refine .cond (t := false) (by simp (maxSteps := 1000000) only [go_sem]) (fun h => by cases h) (fun _ => .skip ?_)
 refine .seq (.rg fun A hA K hK => ?_)
 simp (maxSteps := 1000000) only [go_sem, hA.nil, hA.go, hA.yes, hA.noT, hA.noF, hA.skp]
 refine hK _ _ ?_; clear hK K hA A
 refine .midK (fun L v => ∃ c, L = [(2, .ptr σ.next 0 0), (6, .sl c 0 ts.length)] ∧ u.next ≤ c ∧ c < v.next ∧ v.blk c = some (.cells 2 ((ts.map Ten.zero).map tenL)) ∧ Ext u v) ?_ ?_
 ·refine .seq (.rg fun A hA K hK => ?_)
  simp (maxSteps := 1000000) only [go_sem, hA.nil, hA.go, hA.yes, hA.noT, hA.noF, hA.skp, zeroShapes, List.length_map]
  refine hK _ _ ?_; clear hK K hA A
  refine .rangeK (N := ts.length) (fun i L v => ∃ x, L = [(1, zeroShapes ts), (2, .ptr σ.next 0 0), (6, x), (16, I ts.length), (17, I i)] ∧ (i = 0 ∧ x = .nils ∨ ∃ c, x = .sl c 0 i ∧ u.next ≤ c ∧ c < v.next ∧ v.blk c = some (.cells 2 (((ts.take i).map Ten.zero).map tenL))) ∧ Ext u v) (by simp only [most]; omega)
   ⟨_, ⟨.nils, rfl, .inl ⟨rfl, rfl⟩, .refl u⟩, by simp (maxSteps := 1000000) only [go_sem, zeroShapes]; try rfl⟩ ?_ ?_ ?_
  ·rintro i L v ⟨x, rfl, _⟩
   exact ⟨by simp (maxSteps := 1000000) only [go_sem], by simp (maxSteps := 1000000) only [go_sem], rfl⟩
  ·rintro i L v hi ⟨x, rfl, hv, hvx⟩
   have e0 : (i : Int) < ts.length := by omega
   have gi := zsh_get hi
   have hti := hok _ (List.getElem_mem hi)
   have htk : ts.take (i + 1) = ts.take i ++ [ts[i]] := List.take_succ_eq_append_getElem hi
   have hli : (List.take i ts).length = i := by rw [List.length_take]; omega
   generalize ts[i] = t at gi hti htk
   have hr := right1_spec t.sh v
   rw [hti.right] at hr
   have hvn := hvx.1
   refine .seq (.rg fun A hA K hK => ?_)
   simp (maxSteps := 1000000) only [go_sem, hA.nil, hA.go, hA.yes, hA.noT, hA.noF, hA.skp]
   refine hK _ _ ?_; clear hK K hA A
   refine .seq (.seq (.rg fun A hA K hK => ?_))
   simp (maxSteps := 1000000) only [go_sem, hA.nil, hA.go, hA.yes, hA.noT, hA.noF, hA.skp, zeroShapes, gi, e0, hi, List.length_map]
   refine aopq_call (hr) (by simp (maxSteps := 1000000) only [go_sem]) ?_
   try simp (maxSteps := 1000000) only [go_sem, hA.nil, hA.go, hA.yes, hA.noT, hA.noF, hA.skp]
   refine hK _ _ ?_; clear hK K hA A
   refine .cond (t := false) (by simp (maxSteps := 1000000) only [go_sem]) (fun h => by cases h) (fun _ => .skip ?_)
   refine .entQ ?_
   rcases hv with ⟨rfl, rfl⟩ | ⟨c, rfl, v1, v2, v3⟩
   ·have e00 : (0 : Int) < ts.length := by omega
    refine .rg fun A hA K hK => ?_
    simp (maxSteps := 1000000) only [go_sem, hA.nil, hA.go, hA.yes, hA.noT, hA.noF, hA.skp, zeroShapes, gi, e00, hi, List.length_map]
    refine aopq_callQ (fill_spec t.sh (okLen hti) 0 v) (by simp (maxSteps := 1000000) only [go_sem]) ?_
    rintro y w ⟨c', rfl, k1, k2, k3, kx⟩
    try simp (maxSteps := 1000000) only [go_sem, hA.nil, hA.go, hA.yes, hA.noT, hA.noF, hA.skp]
    refine ⟨by decide, by decide, ?_⟩
    refine hK _ _ ?_; clear hK K hA A
    have kx1 := kx.1
    refine ⟨_, _, frzLast (b' := w.next) (c' := c') (N := (sizeE t.sh).toNat) (prev := []) (s := t.sh) (by simp (maxSteps := 1000000) only [go_sem]) (by simp (maxSteps := 1000000) only [go_sem, show ¬ c' = w.next by omega, k1]) (by omega), by simp (maxSteps := 1000000) only [go_sem], _, ⟨.sl w.next 0 1, rfl, .inr ⟨w.next, rfl, by omega, by simp (maxSteps := 1000000) only [go_sem]; try omega, ?_⟩, by simp (maxSteps := 1000000) only [go_sem]; try omega, fun c2 hc => ?_⟩, by simp (maxSteps := 1000000) only [go_sem, zeroShapes]; try rfl⟩
    ·rw [htk]; simp (maxSteps := 1000000) only [go_sem, List.take_zero, zeroL]
    ·rw [← hvx.2 c2 hc, ← kx.2 c2 (by omega)]; simp (disch := omega) only [go_sem, if_neg]
   ·have m1 : i + 1 ≤ most := by simp only [most]; omega
    have m2 : (i + 1) * 48 ≤ most := by simp only [most]; omega
    have m3 : min i ts.length = i := by omega
    have m4 : List.take i (((ts.take i).map Ten.zero).map tenL) = ((ts.take i).map Ten.zero).map tenL := List.take_of_length_le (by simp; omega)
    refine .rg fun A hA K hK => ?_
    simp (maxSteps := 1000000) only [go_sem, hA.nil, hA.go, hA.yes, hA.noT, hA.noF, hA.skp, zeroShapes, gi, e0, hi, List.length_map]
    refine aopq_callQ (fill_spec t.sh (okLen hti) 0 v) (by simp (maxSteps := 1000000) only [go_sem]) ?_
    rintro y w ⟨c', rfl, k1, k2, k3, kx⟩
    have v3' := (kx.2 c (by omega)).trans v3
    try simp (maxSteps := 1000000) only [go_sem, hA.nil, hA.go, hA.yes, hA.noT, hA.noF, hA.skp, v3', m1, m2, m3, m4, hli, List.length_map, List.length_take]
    refine hK _ _ ?_; clear hK K hA A
    have kx1 := kx.1
    refine ⟨_, _, frzLast (b' := w.next) (c' := c') (N := (sizeE t.sh).toNat) (prev := ((ts.take i).map Ten.zero).map tenL) (s := t.sh) (by simp (maxSteps := 1000000) only [go_sem]) (by simp (maxSteps := 1000000) only [go_sem, show ¬ c' = w.next by omega, show ¬ c' = c by omega, k1]) (by omega), by simp (maxSteps := 1000000) only [go_sem], _, ⟨.sl w.next 0 (i + 1), rfl, .inr ⟨w.next, rfl, by omega, by simp (maxSteps := 1000000) only [go_sem]; try omega, ?_⟩, by simp (maxSteps := 1000000) only [go_sem]; try omega, fun c2 hc => ?_⟩, by simp (maxSteps := 1000000) only [go_sem, zeroShapes]; try rfl⟩
    ·rw [htk]; simp (maxSteps := 1000000) only [go_sem, List.map_append, zeroL]
    ·rw [← hvx.2 c2 hc, ← kx.2 c2 (by omega)]; simp (disch := omega) only [go_sem, if_neg]
  ·rintro L v F ⟨x, rfl, hv, hvx⟩ hf
   simp (maxSteps := 1000000) only [go_sem] at hf
   have hil : 0 < ts.length := List.length_pos_iff.2 h0
   rcases hv with ⟨v0, rfl⟩ | ⟨c', rfl, v1, v2, v3⟩
   ·omega
   rw [List.take_length] at v3
   exact ⟨_, ⟨c', rfl, v1, v2, v3, hvx⟩, by simp (maxSteps := 1000000) only [go_sem, hf]⟩
 rintro L v ⟨c, rfl, v1, v2, v3, hvx⟩
 have h2v := (hvx.2 _ hun).trans h2
 have hvn := hvx.1
 refine .seq (.seq (.rg fun A hA K hK => ?_))
 simp (maxSteps := 1000000) only [go_sem, hA.nil, hA.go, hA.yes, hA.noT, hA.noF, hA.skp, h2v, c1]
 refine hK _ _ ?_; clear hK K hA A
 refine .cond (t := false) (by simp (maxSteps := 1000000) only [go_sem]) (fun h => by cases h) (fun _ => .skip ?_)
 refine .frz 6 (b := c) (n := ts.length) (by simp (maxSteps := 1000000) only [go_sem]) v3 (by simp) ?_
 have n1 : ¬ σ.next = c := by omega
 refine .seq (.rg fun A hA K hK => ?_)
 simp (maxSteps := 1000000) only [go_sem, hA.nil, hA.go, hA.yes, hA.noT, hA.noF, hA.skp, h2v, n1]
 refine aopq_call (hw _) (by simp (maxSteps := 1000000) only [go_sem, nodeL]) ?_
 try simp (maxSteps := 1000000) only [go_sem, hA.nil, hA.go, hA.yes, hA.noT, hA.noF, hA.skp, nodeL]
 try simp (maxSteps := 1000000) only [go_sem, hA.nil, hA.go, hA.yes, hA.noT, hA.noF, hA.skp, tenL]
 refine hK _ _ ?_; clear hK K hA A
 refine .seq (.seq (.rg fun A hA K hK => ?_))
 simp (maxSteps := 1000000) only [go_sem, hA.nil, hA.go, hA.yes, hA.noT, hA.noF, hA.skp]
 refine hK _ _ ?_; clear hK K hA A
 refine .cond (t := false) (by simp (maxSteps := 1000000) only [go_sem]) (fun h => by cases h) (fun _ => .skip ?_)
 refine .seq (.rg fun A hA K hK => ?_)
 simp (maxSteps := 1000000) only [go_sem, hA.nil, hA.go, hA.yes, hA.noT, hA.noF, hA.skp]
 refine hK _ _ ?_; clear hK K hA A
 refine .ret (retB2 (by simp (maxSteps := 1000000) only [go_sem]; try rfl) (by simp (maxSteps := 1000000) only [go_sem]) wf (fun c2 hc => ?_) (ints_lt _) (.int _ _) ⟨rfl, rfl⟩)
 have := hx.1
 rw [← hx.2 c2 hc, ← hvx.2 c2 (by omega)]; simp (disch := omega) only [go_sem, if_neg]
/-- parquetryref10.Node -/
theorem node_spec (n : Node) (ts : List Ten) (hn : n.op ≠ 1) (h0 : ts ≠ []) (h9 : ts.length ≤ 2 ^ 20) (hok : ∀ t ∈ ts, t.ok) (t0 t : Ten)
  (hsh : ∀ σ, T Try.prog 142 [.agg (nodeL n), zeroShapes ts] σ (.tup [ints t0.sh, I 0]) σ) (hw : ∀ σ, T Try.prog 143 [.agg (nodeL n), .lit 2 (ts.map tenL)] σ (.tup [.agg (tenL t), I 0]) σ) (σ : St) :
  T Try.prog 129 [.agg (nodeL n), .lit 2 (ts.map tenL)] σ (.tup [.agg (tenL t), I 0]) σ := by
 refine in129 (by simp) fun wf hab => ?_
 clear hab
 have c1 : (n.op == 1) = false := by simpa using hn
 unfold c129
 refine .midK (fun L u => L = [(1, .lit 2 (ts.map tenL)), (2, .ptr σ.next 0 0), (4, .ptr (σ.next + 1) 0 0)] ∧ u.blk σ.next = some (.cells 7 [nodeL n]) ∧ u.blk (σ.next + 1) = some (.cells 2 [[.lit 1 [], .lit 1 []]]) ∧ u.next = σ.next + 2 ∧ ∀ c, c < σ.next → u.blk c = σ.blk c) ?_ ?_
 ·refine .rg fun A hA K hK => ?_
  simp (maxSteps := 1000000) only [go_sem, hA.nil, hA.go, hA.yes, hA.noT, hA.noF, hA.skp, nodeL]
  refine hK _ _ ?_; clear hK K hA A
  refine ⟨_, ⟨rfl, ?_, by simp (maxSteps := 1000000) only [go_sem], by simp (maxSteps := 1000000) only [go_sem], fun c hc => by simp (disch := omega) only [go_sem, if_neg]⟩, by simp (maxSteps := 1000000) only [go_sem]⟩
  simp (disch := omega) only [go_sem, if_neg, nodeL]
 rintro L u ⟨rfl, h2, h4, hun, hux⟩
 simp only [nodeL] at h2
 refine .seq (.rg fun A hA K hK => ?_)
 simp (maxSteps := 1000000) only [go_sem, hA.nil, hA.go, hA.yes, hA.noT, hA.noF, hA.skp]
 refine hK _ _ ?_; clear hK K hA A
 refine .midK (fun L v => ∃ c, L = [(1, .lit 2 (ts.map tenL)), (2, .ptr σ.next 0 0), (4, .ptr (σ.next + 1) 0 0), (6, .sl c 0 ts.length)] ∧ u.next ≤ c ∧ c < v.next ∧ v.blk c = some (.cells 1 (ts.map fun t => [ints t.sh])) ∧ Ext u v) ?_ ?_
 ·refine .seq (.rg fun A hA K hK => ?_)
  simp (maxSteps := 1000000) only [go_sem, hA.nil, hA.go, hA.yes, hA.noT, hA.noF, hA.skp, List.length_map]
  refine hK _ _ ?_; clear hK K hA A
  refine .rangeK (N := ts.length) (fun i L v => ∃ x, L = [(1, .lit 2 (ts.map tenL)), (2, .ptr σ.next 0 0), (4, .ptr (σ.next + 1) 0 0), (6, x), (11, .lit 2 (ts.map tenL)), (12, I ts.length), (13, I i)] ∧ (i = 0 ∧ x = .nils ∨ ∃ c, x = .sl c 0 i ∧ u.next ≤ c ∧ c < v.next ∧ v.blk c = some (.cells 1 ((ts.take i).map fun t => [ints t.sh]))) ∧ Ext u v) (by simp only [most]; omega)
   ⟨_, ⟨.nils, rfl, .inl ⟨rfl, rfl⟩, .refl u⟩, by simp (maxSteps := 1000000) only [go_sem]; try rfl⟩ ?_ ?_ ?_
  ·rintro i L v ⟨x, rfl, _⟩
   exact ⟨by simp (maxSteps := 1000000) only [go_sem], by simp (maxSteps := 1000000) only [go_sem], rfl⟩
  ·rintro i L v hi ⟨x, rfl, hv, hvx⟩
   have e0 : (i : Int) < ts.length := by omega
   have gi := tenl_get hi
   have hti := hok _ (List.getElem_mem hi)
   have htk : ts.take (i + 1) = ts.take i ++ [ts[i]] := List.take_succ_eq_append_getElem hi
   have hli : (List.take i ts).length = i := by rw [List.length_take]; omega
   generalize ts[i] = t at gi hti htk
   simp only [tenL] at gi
   have hvn := hvx.1
   refine .midK (fun L w => L = [(1, .lit 2 (ts.map tenL)), (2, .ptr σ.next 0 0), (4, .ptr (σ.next + 1) 0 0), (6, x), (8, .ptr v.next 0 0), (11, .lit 2 (ts.map tenL)), (12, I ts.length), (13, I i)] ∧ w.blk v.next = some (.cells 2 [[ints t.sh, ints t.dt]]) ∧ Ext v w ∧ v.next < w.next) ?_ ?_
   ·refine .rg fun A hA K hK => ?_
    simp (maxSteps := 1000000) only [go_sem, hA.nil, hA.go, hA.yes, hA.noT, hA.noF, hA.skp, gi, e0, hi, List.length_map]
    refine hK _ _ ?_; clear hK K hA A
    exact ⟨_, ⟨rfl, by simp (maxSteps := 1000000) only [go_sem], ⟨by simp (maxSteps := 1000000) only [go_sem]; omega, fun c hc => by simp (disch := omega) only [go_sem, if_neg]⟩, by simp (maxSteps := 1000000) only [go_sem]; try omega⟩, by simp (maxSteps := 1000000) only [go_sem]⟩
   rintro L w ⟨rfl, h8, hwx, hwn⟩
   have htt := refTensor_spec t.sh t.dt w
   rw [show rightT t.sh t.dt = true from hti] at htt
   refine .seq (.seq (.rg fun A hA K hK => ?_))
   simp (maxSteps := 1000000) only [go_sem, hA.nil, hA.go, hA.yes, hA.noT, hA.noF, hA.skp, h8]
   refine aopq_call (htt) (by simp (maxSteps := 1000000) only [go_sem]) ?_
   try simp (maxSteps := 1000000) only [go_sem, hA.nil, hA.go, hA.yes, hA.noT, hA.noF, hA.skp]
   refine hK _ _ ?_; clear hK K hA A
   refine .cond (t := false) (by simp (maxSteps := 1000000) only [go_sem]) (fun h => by cases h) (fun _ => .skip ?_)
   rcases hv with ⟨rfl, rfl⟩ | ⟨c, rfl, v1, v2, v3⟩
   ·refine .rg fun A hA K hK => ?_
    simp (maxSteps := 1000000) only [go_sem, hA.nil, hA.go, hA.yes, hA.noT, hA.noF, hA.skp, h8]
    refine ⟨by decide, by decide, ?_⟩
    refine hK _ _ ?_; clear hK K hA A
    refine ⟨by simp (maxSteps := 1000000) only [go_sem], _, ⟨.sl w.next 0 1, rfl, .inr ⟨w.next, rfl, by omega, by simp (maxSteps := 1000000) only [go_sem]; try omega, ?_⟩, by simp (maxSteps := 1000000) only [go_sem]; try omega, fun c2 hc => ?_⟩, by simp (maxSteps := 1000000) only [go_sem]; try rfl⟩
    ·rw [htk]; simp (maxSteps := 1000000) only [go_sem, List.take_zero]
    ·rw [← hvx.2 c2 hc, ← hwx.2 c2 (by omega)]; simp (disch := omega) only [go_sem, if_neg]
   ·have m1 : i + 1 ≤ most := by simp only [most]; omega
    have m2 : (i + 1) * 24 ≤ most := by simp only [most]; omega
    have m3 : min i ts.length = i := by omega
    have m4 : List.take i ((ts.take i).map fun t => [AV.lit 1 (t.sh.map fun n => [AV.int .i64 n])]) = (ts.take i).map fun t => [AV.lit 1 (t.sh.map fun n => [AV.int .i64 n])] := List.take_of_length_le (by simp; omega)
    have v3' := (hwx.2 c (by omega)).trans v3
    refine .rg fun A hA K hK => ?_
    simp (maxSteps := 1000000) only [go_sem, hA.nil, hA.go, hA.yes, hA.noT, hA.noF, hA.skp, h8, v3', m1, m2, m3, m4, hli, List.length_map, List.length_take]
    refine hK _ _ ?_; clear hK K hA A
    refine ⟨by simp (maxSteps := 1000000) only [go_sem], _, ⟨.sl w.next 0 (i + 1), rfl, .inr ⟨w.next, rfl, by omega, by simp (maxSteps := 1000000) only [go_sem]; try omega, ?_⟩, by simp (maxSteps := 1000000) only [go_sem]; try omega, fun c2 hc => ?_⟩, by simp (maxSteps := 1000000) only [go_sem]; try rfl⟩
    ·rw [htk]; simp (maxSteps := 1000000) only [go_sem, List.map_append]
    ·rw [← hvx.2 c2 hc, ← hwx.2 c2 (by omega)]; simp (disch := omega) only [go_sem, if_neg]
  ·rintro L v F ⟨x, rfl, hv, hvx⟩ hf
   simp (maxSteps := 1000000) only [go_sem] at hf
   have hil : 0 < ts.length := List.length_pos_iff.2 h0
   rcases hv with ⟨v0, rfl⟩ | ⟨c', rfl, v1, v2, v3⟩
   ·omega
   rw [List.take_length] at v3
   exact ⟨_, ⟨c', rfl, v1, v2, v3, hvx⟩, by simp (maxSteps := 1000000) only [go_sem, hf]⟩
 rintro L v ⟨c, rfl, v1, v2, v3, hvx⟩
 have hvn := hvx.1
 have h2v := (hvx.2 _ (by omega)).trans h2
 have h4v := (hvx.2 _ (by omega)).trans h4
 refine .frz 6 (b := c) (n := ts.length) (by simp (maxSteps := 1000000) only [go_sem]) v3 (by simp) ?_
 have n1 : ¬ σ.next = c := by omega
 have n2 : ¬ σ.next + 1 = c := by omega
 refine .seq (.seq (.rg fun A hA K hK => ?_))
 simp (maxSteps := 1000000) only [go_sem, hA.nil, hA.go, hA.yes, hA.noT, hA.noF, hA.skp, h2v, n1]
 refine aopq_call (hsh _) (by simp (maxSteps := 1000000) only [go_sem, nodeL, zeroShapes]) ?_
 try simp (maxSteps := 1000000) only [go_sem, hA.nil, hA.go, hA.yes, hA.noT, hA.noF, hA.skp, nodeL, zeroShapes]
 refine hK _ _ ?_; clear hK K hA A
 refine .seq (.rg fun A hA K hK => ?_)
 simp (maxSteps := 1000000) only [go_sem, hA.nil, hA.go, hA.yes, hA.noT, hA.noF, hA.skp]
 refine hK _ _ ?_; clear hK K hA A
 refine .cond (t := false) (by simp (maxSteps := 1000000) only [go_sem]) (fun h => by cases h) (fun _ => .skip ?_)
 refine .seq (.seq (.rg fun A hA K hK => ?_))
 simp (maxSteps := 1000000) only [go_sem, hA.nil, hA.go, hA.yes, hA.noT, hA.noF, hA.skp, h2v, n1, c1]
 refine hK _ _ ?_; clear hK K hA A
 refine .cond (t := false) (by simp (maxSteps := 1000000) only [go_sem]) (fun h => by cases h) (fun _ => .skip ?_)
 refine .seq (.rg fun A hA K hK => ?_)
 simp (maxSteps := 1000000) only [go_sem, hA.nil, hA.go, hA.yes, hA.noT, hA.noF, hA.skp, h2v, n1]
 refine aopq_call (hw _) (by simp (maxSteps := 1000000) only [go_sem, nodeL]) ?_
 try simp (maxSteps := 1000000) only [go_sem, hA.nil, hA.go, hA.yes, hA.noT, hA.noF, hA.skp, nodeL]
 try simp (maxSteps := 1000000) only [go_sem, hA.nil, hA.go, hA.yes, hA.noT, hA.noF, hA.skp, tenL, h4v, n2]
 refine hK _ _ ?_; clear hK K hA A
 refine .ret (retBc2 (b := σ.next + 1) (sz := 2) (row := tenL t) (by simp (maxSteps := 1000000) only [go_sem]) (by simp (maxSteps := 1000000) only [go_sem, tenL]) (by decide) rfl (by simp (maxSteps := 1000000) only [go_sem]) wf (fun c2 hc => ?_) (ten_lt _) (.int _ _) ⟨rfl, rfl⟩)
 rw [← hux c2 hc, ← hvx.2 c2 (by omega)]; simp (disch := omega) only [go_sem, if_neg]

theorem foldNode_spec (op : Int) (a b : Ten) (ho : IsOp op) (ha : a.ok) (hb : b.ok) (hs : a.sh = b.sh) (σ : St) : T Try.prog 129 [.agg (nodeL (foldN op)), .lit 2 ([a, b].map tenL)] σ (.tup [.agg (tenL (twoT op a b)), I 0]) σ := by
 have h1 : (foldN op).op ≠ 1 := by rcases ho with rfl | rfl | rfl | rfl <;> decide
 have hok : ∀ t ∈ [a, b], t.ok := by intro t ht; simp only [List.mem_cons, List.not_mem_nil, or_false] at ht; rcases ht with rfl | rfl <;> assumption
 exact node_spec (foldN op) [a, b] h1 (by simp) (by simp) hok (twoT op a.zero b.zero) (twoT op a b) (fun σ => nodeShape_spec (foldN op) [a, b] h1 (by simp) (by simp) hok (fun σ => form_fold op ho σ) _ (fun σ => work_fold op _ _ ho ha.zero hb.zero hs σ) σ)
  (fun σ => work_fold op a b ho ha hb hs σ) σ
end Go.Proofs.Ytfjbabacpnnjmaa.Av
namespace Go.Proofs.Ytfjbabacpnnjmaa.Av
open Go Go.Av
set_option maxRecDepth 20000
set_option maxHeartbeats 4000000

attribute [local go_sem] step_apply stepD_apply stepE_apply
attribute [local go_sem] aopq_mv aopq_pk aopq_al aopq_bx aopq_bd aopq_bs aopq_ld aopq_st aopq_nc aopq_bin aopq_un aopq_cv aopq_mi aopq_mf aopq_mm aopq_ms aopq_sc aopq_fa aopq_fl aopq_ia aopq_lk aopq_mu aopq_lm aopq_rg aopq_en aopq_ta aopq_ex aopq_ln aopq_ap aopq_mx aopq.eq_3 aop.eq_1 aop.eq_2 aop.eq_3 aop.eq_4 aop.eq_5 aop.eq_6 aop.eq_7 aop.eq_8 aop.eq_9 aop_bin atS_apply aop_un_not aop_un_neg aop.eq_14 aop.eq_15 aop.eq_16 aop.eq_17 aop.eq_18 aop_sc cutS_apply cutN_apply cutL_apply cutO_apply aop.eq_20 aop.eq_21 aop.eq_22 aop.eq_23 aop.eq_24 aop.eq_25 aop.eq_26 aop.eq_27 aop.eq_28 aop.eq_29 aop.eq_30 aop.eq_31 aop.eq_32 blk_push next_push blk_set next_set blk_kill next_kill frL_nil frL_cons Fits_nil Fits_cons Int.reduceBEq Int.reduceBNe Nat.sub_zero Option.map_some Option.map_none List.set_cons_succ true_or or_true false_or or_false Int.le_refl Int.cast_ofNat_Int decide_true decide_false List.cons_append fillA fillR rowsOf List.replicate_succ List.replicate_zero Nat.zero_mul getD_drop List.length_drop splice List.nil_append List.append_nil cond_true cond_false List.set_cons_zero List.length_set ev put_some put_none upd_apply abin asNat bounds row1 mk List.length_cons List.length_nil List.length_map List.drop_zero List.drop_succ_cons List.drop_nil List.getD_cons_zero List.getD_cons_succ Option.getD_none Option.getD_some List.take_succ_cons List.take_zero List.take_nil true_and and_true Int.toNat_natCast if_true if_false Nat.zero_add Nat.add_zero List.map_cons List.map_nil Nat.reduceEqDiff Nat.left_eq_add Nat.add_eq_left Nat.add_left_cancel_iff Nat.add_assoc Nat.reduceSub Nat.reduceAdd Nat.reduceLeDiff Nat.le_refl Nat.zero_le Nat.zero_lt_one Nat.lt_add_one Int.reduceLT Int.reduceLE Int.reduceToNat Nat.reduceLT Nat.reduceBEq Bool.false_eq_true Nat.reduceBNe ne_eq not_false_eq_true not_true_eq_false false_and and_false reduceIte Int.natCast_nonneg reduceCtorEq parts_agg parts_bool parts_int parts_str parts_lit parts_nils parts_sl parts_ptr Int.natCast_nonneg Int.natCast_nonneg beq_self_eq_true bne_self_eq_false Bool.true_and Bool.false_and Bool.and_true Bool.and_false Bool.true_or Bool.false_or Bool.or_true Bool.or_false Bool.not_true Bool.not_false
attribute [local go_sem] instr0 instr1 instr2 instr10 instr11 instr12 instrN instrA instr_len node0 node1 node2 node3 node4 node5 node6 nodeA node_len I ints progA progsA

def opOf (how : Int) : Int := if how = 1 then 6 else if how = 2 then 8 else if how = 3 then 9 else 10
theorem opOf_is (how : Int) : IsOp (opOf how) := by
 unfold opOf IsOp
 split
 ·exact .inl rfl
 split
 ·exact .inr (.inl rfl)
 split
 ·exact .inr (.inr (.inl rfl))
 ·exact .inr (.inr (.inr rfl))
/-- ring.folds -/
theorem folds_spec (how : Int) (σ : St) : T Try.prog 79 [I how] σ (I (opOf how)) σ := by
 refine in79 (by simp) fun wf hab => ?_
 clear hab
 unfold c79
 by_cases h1 : how = 1
 ·subst h1
  repeat' (first | (refine hK _ _ ?_; clear hK K hA A) | (refine hA.cut (by simp (maxSteps := 1000000) only [go_sem, *]; with_reducible rfl) (fun hs => ?_) (fun hs => ?_) <;> simp (maxSteps := 1000000) only [go_sem, hA.nil, hA.go, hA.yes, hA.noT, hA.noF, hA.skp, *]) | (refine .seq (.rg fun A hA K hK => ?_); simp (maxSteps := 1000000) only [go_sem, hA.nil, hA.go, hA.yes, hA.noT, hA.noF, hA.skp, *]) | (refine .seq (.seq (.rg fun A hA K hK => ?_)); simp (maxSteps := 1000000) only [go_sem, hA.nil, hA.go, hA.yes, hA.noT, hA.noF, hA.skp, *]) | (refine .rg fun A hA K hK => ?_; simp (maxSteps := 1000000) only [go_sem, hA.nil, hA.go, hA.yes, hA.noT, hA.noF, hA.skp, *]) | (refine .seq (.rd fun A hA K hK => ?_); simp (maxSteps := 1000000) only [go_sem, hA.nil, hA.go, hA.yes, hA.noT, hA.noF, hA.skp, *]) | (refine .seq (.seq (.rd fun A hA K hK => ?_)); simp (maxSteps := 1000000) only [go_sem, hA.nil, hA.go, hA.yes, hA.noT, hA.noF, hA.skp, *]) | (refine .rd fun A hA K hK => ?_; simp (maxSteps := 1000000) only [go_sem, hA.nil, hA.go, hA.yes, hA.noT, hA.noF, hA.skp, *]) | (refine .cond (t := _) (by simp (maxSteps := 1000000) only [go_sem, *]; with_reducible rfl) (fun hs => ?_) (fun hs => ?_) <;> (first | (cases hs; done) | skip)) | (refine .seq (.cond (t := _) (by simp (maxSteps := 1000000) only [go_sem, *]; with_reducible rfl) (fun hs => ?_) (fun hs => ?_)) <;> (first | (cases hs; done) | skip)) | refine .skip ?_ | refine .seq (.block ?_) | refine .block ?_ | refine .exit ?_ | ((exact .ret (ret1 (by simp (maxSteps := 1000000) only [go_sem, opOf]) rfl)); done))
 by_cases h2 : how = 2
 ·subst h2
  repeat' (first | (refine hK _ _ ?_; clear hK K hA A) | (refine hA.cut (by simp (maxSteps := 1000000) only [go_sem, *]; with_reducible rfl) (fun hs => ?_) (fun hs => ?_) <;> simp (maxSteps := 1000000) only [go_sem, hA.nil, hA.go, hA.yes, hA.noT, hA.noF, hA.skp, *]) | (refine .seq (.rg fun A hA K hK => ?_); simp (maxSteps := 1000000) only [go_sem, hA.nil, hA.go, hA.yes, hA.noT, hA.noF, hA.skp, *]) | (refine .seq (.seq (.rg fun A hA K hK => ?_)); simp (maxSteps := 1000000) only [go_sem, hA.nil, hA.go, hA.yes, hA.noT, hA.noF, hA.skp, *]) | (refine .rg fun A hA K hK => ?_; simp (maxSteps := 1000000) only [go_sem, hA.nil, hA.go, hA.yes, hA.noT, hA.noF, hA.skp, *]) | (refine .seq (.rd fun A hA K hK => ?_); simp (maxSteps := 1000000) only [go_sem, hA.nil, hA.go, hA.yes, hA.noT, hA.noF, hA.skp, *]) | (refine .seq (.seq (.rd fun A hA K hK => ?_)); simp (maxSteps := 1000000) only [go_sem, hA.nil, hA.go, hA.yes, hA.noT, hA.noF, hA.skp, *]) | (refine .rd fun A hA K hK => ?_; simp (maxSteps := 1000000) only [go_sem, hA.nil, hA.go, hA.yes, hA.noT, hA.noF, hA.skp, *]) | (refine .cond (t := _) (by simp (maxSteps := 1000000) only [go_sem, *]; with_reducible rfl) (fun hs => ?_) (fun hs => ?_) <;> (first | (cases hs; done) | skip)) | (refine .seq (.cond (t := _) (by simp (maxSteps := 1000000) only [go_sem, *]; with_reducible rfl) (fun hs => ?_) (fun hs => ?_)) <;> (first | (cases hs; done) | skip)) | refine .skip ?_ | refine .seq (.block ?_) | refine .block ?_ | refine .exit ?_ | ((exact .ret (ret1 (by simp (maxSteps := 1000000) only [go_sem, show opOf 2 = 8 by decide]) rfl)); done))
 by_cases h3 : how = 3
 ·subst h3
  repeat' (first | (refine hK _ _ ?_; clear hK K hA A) | (refine hA.cut (by simp (maxSteps := 1000000) only [go_sem, *]; with_reducible rfl) (fun hs => ?_) (fun hs => ?_) <;> simp (maxSteps := 1000000) only [go_sem, hA.nil, hA.go, hA.yes, hA.noT, hA.noF, hA.skp, *]) | (refine .seq (.rg fun A hA K hK => ?_); simp (maxSteps := 1000000) only [go_sem, hA.nil, hA.go, hA.yes, hA.noT, hA.noF, hA.skp, *]) | (refine .seq (.seq (.rg fun A hA K hK => ?_)); simp (maxSteps := 1000000) only [go_sem, hA.nil, hA.go, hA.yes, hA.noT, hA.noF, hA.skp, *]) | (refine .rg fun A hA K hK => ?_; simp (maxSteps := 1000000) only [go_sem, hA.nil, hA.go, hA.yes, hA.noT, hA.noF, hA.skp, *]) | (refine .seq (.rd fun A hA K hK => ?_); simp (maxSteps := 1000000) only [go_sem, hA.nil, hA.go, hA.yes, hA.noT, hA.noF, hA.skp, *]) | (refine .seq (.seq (.rd fun A hA K hK => ?_)); simp (maxSteps := 1000000) only [go_sem, hA.nil, hA.go, hA.yes, hA.noT, hA.noF, hA.skp, *]) | (refine .rd fun A hA K hK => ?_; simp (maxSteps := 1000000) only [go_sem, hA.nil, hA.go, hA.yes, hA.noT, hA.noF, hA.skp, *]) | (refine .cond (t := _) (by simp (maxSteps := 1000000) only [go_sem, *]; with_reducible rfl) (fun hs => ?_) (fun hs => ?_) <;> (first | (cases hs; done) | skip)) | (refine .seq (.cond (t := _) (by simp (maxSteps := 1000000) only [go_sem, *]; with_reducible rfl) (fun hs => ?_) (fun hs => ?_)) <;> (first | (cases hs; done) | skip)) | refine .skip ?_ | refine .seq (.block ?_) | refine .block ?_ | refine .exit ?_ | ((exact .ret (ret1 (by simp (maxSteps := 1000000) only [go_sem, show opOf 3 = 9 by decide]) rfl)); done))
 have c1 : (how == 1) = false := by simpa using h1
 have c2 : (how == 2) = false := by simpa using h2
 have c3 : (how == 3) = false := by simpa using h3
 repeat' (first | (refine hK _ _ ?_; clear hK K hA A) | (refine hA.cut (by simp (maxSteps := 1000000) only [go_sem, *, c1, c2, c3]; with_reducible rfl) (fun hs => ?_) (fun hs => ?_) <;> simp (maxSteps := 1000000) only [go_sem, hA.nil, hA.go, hA.yes, hA.noT, hA.noF, hA.skp, *, c1, c2, c3]) | (refine .seq (.rg fun A hA K hK => ?_); simp (maxSteps := 1000000) only [go_sem, hA.nil, hA.go, hA.yes, hA.noT, hA.noF, hA.skp, *, c1, c2, c3]) | (refine .seq (.seq (.rg fun A hA K hK => ?_)); simp (maxSteps := 1000000) only [go_sem, hA.nil, hA.go, hA.yes, hA.noT, hA.noF, hA.skp, *, c1, c2, c3]) | (refine .rg fun A hA K hK => ?_; simp (maxSteps := 1000000) only [go_sem, hA.nil, hA.go, hA.yes, hA.noT, hA.noF, hA.skp, *, c1, c2, c3]) | (refine .seq (.rd fun A hA K hK => ?_); simp (maxSteps := 1000000) only [go_sem, hA.nil, hA.go, hA.yes, hA.noT, hA.noF, hA.skp, *, c1, c2, c3]) | (refine .seq (.seq (.rd fun A hA K hK => ?_)); simp (maxSteps := 1000000) only [go_sem, hA.nil, hA.go, hA.yes, hA.noT, hA.noF, hA.skp, *, c1, c2, c3]) | (refine .rd fun A hA K hK => ?_; simp (maxSteps := 1000000) only [go_sem, hA.nil, hA.go, hA.yes, hA.noT, hA.noF, hA.skp, *, c1, c2, c3]) | (refine .cond (t := _) (by simp (maxSteps := 1000000) only [go_sem, *, c1, c2, c3]; with_reducible rfl) (fun hs => ?_) (fun hs => ?_) <;> (first | (cases hs; done) | skip)) | (refine .seq (.cond (t := _) (by simp (maxSteps := 1000000) only [go_sem, *, c1, c2, c3]; with_reducible rfl) (fun hs => ?_) (fun hs => ?_)) <;> (first | (cases hs; done) | skip)) | refine .skip ?_ | refine .seq (.block ?_) | refine .block ?_ | refine .exit ?_ | ((exact .ret (ret1 (by simp (maxSteps := 1000000) only [go_sem, opOf, h1, h2, h3]) rfl)); done))
def howB (how : Int) : Bool := decide (how ≥ 1) && decide (how ≤ 4)
/-- fold.Right -/
theorem foldRight_spec (how : Int) (σ : St) : T Try.prog 76 [I how] σ (.bool (howB how)) σ := by
 refine in76 (by simp) fun wf hab => ?_
 clear hab
 unfold c76
 by_cases h1 : how ≥ 1
 ·repeat' (first | (refine hK _ _ ?_; clear hK K hA A) | (refine hA.cut (by simp (maxSteps := 1000000) only [go_sem, *, h1]; with_reducible rfl) (fun hs => ?_) (fun hs => ?_) <;> simp (maxSteps := 1000000) only [go_sem, hA.nil, hA.go, hA.yes, hA.noT, hA.noF, hA.skp, *, h1]) | (refine .seq (.rg fun A hA K hK => ?_); simp (maxSteps := 1000000) only [go_sem, hA.nil, hA.go, hA.yes, hA.noT, hA.noF, hA.skp, *, h1]) | (refine .seq (.seq (.rg fun A hA K hK => ?_)); simp (maxSteps := 1000000) only [go_sem, hA.nil, hA.go, hA.yes, hA.noT, hA.noF, hA.skp, *, h1]) | (refine .rg fun A hA K hK => ?_; simp (maxSteps := 1000000) only [go_sem, hA.nil, hA.go, hA.yes, hA.noT, hA.noF, hA.skp, *, h1]) | (refine .seq (.rd fun A hA K hK => ?_); simp (maxSteps := 1000000) only [go_sem, hA.nil, hA.go, hA.yes, hA.noT, hA.noF, hA.skp, *, h1]) | (refine .seq (.seq (.rd fun A hA K hK => ?_)); simp (maxSteps := 1000000) only [go_sem, hA.nil, hA.go, hA.yes, hA.noT, hA.noF, hA.skp, *, h1]) | (refine .rd fun A hA K hK => ?_; simp (maxSteps := 1000000) only [go_sem, hA.nil, hA.go, hA.yes, hA.noT, hA.noF, hA.skp, *, h1]) | (refine .cond (t := _) (by simp (maxSteps := 1000000) only [go_sem, *, h1]; with_reducible rfl) (fun hs => ?_) (fun hs => ?_) <;> (first | (cases hs; done) | skip)) | (refine .seq (.cond (t := _) (by simp (maxSteps := 1000000) only [go_sem, *, h1]; with_reducible rfl) (fun hs => ?_) (fun hs => ?_)) <;> (first | (cases hs; done) | skip)) | refine .skip ?_ | refine .seq (.block ?_) | refine .block ?_ | refine .exit ?_ | ((exact .ret (ret1 (by simp (maxSteps := 1000000) only [go_sem, howB, h1]) rfl)); done))
 ·repeat' (first | (refine hK _ _ ?_; clear hK K hA A) | (refine hA.cut (by simp (maxSteps := 1000000) only [go_sem, *, h1]; with_reducible rfl) (fun hs => ?_) (fun hs => ?_) <;> simp (maxSteps := 1000000) only [go_sem, hA.nil, hA.go, hA.yes, hA.noT, hA.noF, hA.skp, *, h1]) | (refine .seq (.rg fun A hA K hK => ?_); simp (maxSteps := 1000000) only [go_sem, hA.nil, hA.go, hA.yes, hA.noT, hA.noF, hA.skp, *, h1]) | (refine .seq (.seq (.rg fun A hA K hK => ?_)); simp (maxSteps := 1000000) only [go_sem, hA.nil, hA.go, hA.yes, hA.noT, hA.noF, hA.skp, *, h1]) | (refine .rg fun A hA K hK => ?_; simp (maxSteps := 1000000) only [go_sem, hA.nil, hA.go, hA.yes, hA.noT, hA.noF, hA.skp, *, h1]) | (refine .seq (.rd fun A hA K hK => ?_); simp (maxSteps := 1000000) only [go_sem, hA.nil, hA.go, hA.yes, hA.noT, hA.noF, hA.skp, *, h1]) | (refine .seq (.seq (.rd fun A hA K hK => ?_)); simp (maxSteps := 1000000) only [go_sem, hA.nil, hA.go, hA.yes, hA.noT, hA.noF, hA.skp, *, h1]) | (refine .rd fun A hA K hK => ?_; simp (maxSteps := 1000000) only [go_sem, hA.nil, hA.go, hA.yes, hA.noT, hA.noF, hA.skp, *, h1]) | (refine .cond (t := _) (by simp (maxSteps := 1000000) only [go_sem, *, h1]; with_reducible rfl) (fun hs => ?_) (fun hs => ?_) <;> (first | (cases hs; done) | skip)) | (refine .seq (.cond (t := _) (by simp (maxSteps := 1000000) only [go_sem, *, h1]; with_reducible rfl) (fun hs => ?_) (fun hs => ?_)) <;> (first | (cases hs; done) | skip)) | refine .skip ?_ | refine .seq (.block ?_) | refine .block ?_ | refine .exit ?_ | ((exact .ret (ret1 (by simp (maxSteps := 1000000) only [go_sem, howB, h1]) rfl)); done))

def workF (r : Int) (a b op : Int) : Instr := workI r [a, b] (foldN op)
/-- One row folded: what was put by then, and where it is. -/
def redRow (m : MkS) (d : Nat) (op : Int) (l : List Int) : Nat → MkS × Int
 | 0 => (m, l.getD 0 0)
 | k + 1 => (((redRow m d op l k).1.fresh d).put d (workF ((redRow m d op l k).1.rs.getD d 0) (redRow m d op l k).2 (l.getD (k + 1) 0) op), (redRow m d op l k).1.rs.getD d 0)
def redAll (m : MkS) (g : List Nat) (op : Int) (rows : Nat → List Int) : Nat → MkS × List Int
 | 0 => (m, [])
 | i + 1 => ((redRow (redAll m g op rows i).1 (g.getD i 0) op (rows i) (g.length - 1)).1, (redAll m g op rows i).2 ++ [(redRow (redAll m g op rows i).1 (g.getD i 0) op (rows i) (g.length - 1)).2])
theorem workF_sm (r a b op : Int) : (workF r a b op).Sm := by
 unfold workF workI foldN
 exact ⟨by simp, by simp, by simp, by simp⟩
theorem put_len (m : MkS) (d : Nat) (i : Instr) : (m.put d i).ps.length = m.ps.length := by simp [MkS.put]
theorem redRow_len (m : MkS) (d : Nat) (op : Int) (l : List Int) : ∀ k, (redRow m d op l k).1.ps.length = m.ps.length
 | 0 => rfl
 | k + 1 => by rw [redRow, put_len]; exact redRow_len m d op l k
theorem redAll_len (m : MkS) (g : List Nat) (op : Int) (rows : Nat → List Int) : ∀ i, (redAll m g op rows i).1.ps.length = m.ps.length ∧ (redAll m g op rows i).2.length = i
 | 0 => ⟨rfl, rfl⟩
 | i + 1 => by
  obtain ⟨h1, h2⟩ := redAll_len m g op rows i
  refine ⟨by rw [redAll, redRow_len]; exact h1, by rw [redAll]; simp [h2]⟩
theorem redRow_sm {m : MkS} {K : Nat} (h : m.Sm K) (d : Nat) (op : Int) (l : List Int) : ∀ k, (redRow m d op l k).1.Sm (K + k)
 | 0 => h
 | k + 1 => (redRow_sm h d op l k).freshPut d (workF_sm _ _ _ _)
theorem redAll_sm {m : MkS} {K : Nat} (h : m.Sm K) (g : List Nat) (op : Int) (rows : Nat → List Int) : ∀ i, (redAll m g op rows i).1.Sm (K + i * (g.length - 1))
 | 0 => by simpa [redAll] using h
 | i + 1 => by
  have := redRow_sm (redAll_sm h g op rows i) (g.getD i 0) op (rows i) (g.length - 1)
  rw [redAll]
  have e : K + (i + 1) * (g.length - 1) = K + i * (g.length - 1) + (g.length - 1) := by rw [Nat.succ_mul]; omega
  rw [e]; exact this
theorem delivM_len (m : MkS) (l : List Lt) : (delivM m l).1.ps.length = m.ps.length := ((recvs_len _ _ _ _).1).trans (sends_len m l l.length)
theorem delivM_sm {m : MkS} {k : Nat} (h : m.Sm k) (l : List Lt) : (delivM m l).1.Sm (k + 2 * l.length) := by
 have := recvs_sm (sends_sm h l l.length) m.tg l l.length
 have e : k + 2 * l.length = k + l.length + l.length := by omega
 rw [e]; exact this

/-- What Reduce puts, and where each has all. -/
def evL (g : List Nat) (regs : List Int) : List Lt := outE g (fun _ j => regs.getD j 0) g.length
def evRow (m : MkS) (g : List Nat) (regs : List Int) (i : Nat) : List Int := rowE (fun i => regs.getD i 0) (delivM m (evL g regs)).2 (posE g fun _ j => regs.getD j 0) i g.length
def reduceM (m : MkS) (g : List Nat) (regs : List Int) (how : Int) : MkS × List Int := redAll (delivM m (evL g regs)).1 g (opOf how) (evRow m g regs) g.length
theorem evL_len {g : List Nat} {regs : List Int} (hg8 : g.length ≤ 8) : (evL g regs).length ≤ 64 := by
 have := outE_len (g := g) (rg := fun _ j => regs.getD j 0) g.length
 have h2 : g.length * g.length ≤ 8 * 8 := Nat.mul_le_mul hg8 hg8
 unfold evL; omega
theorem evRow_len (m : MkS) (g : List Nat) (regs : List Int) (i : Nat) : (evRow m g regs i).length = g.length := rowE_len _ _ _ _ _

section mk
variable {o : Nat → Option Nat} {σ : St} {b bL bR k : Nat} {m : MkS}
/-- A group as it may be. -/
structure GrOk (m : MkS) (g : List Nat) (regs : List Int) : Prop where
 g1 : 1 ≤ g.length
 g8 : g.length ≤ 8
 rl : regs.length = g.length
 lt : ∀ i, i < g.length → g.getD i 0 < m.ps.length
 nd : g.Nodup
 r0 : ∀ i, i < g.length → 0 ≤ regs.getD i 0
theorem natI_getD {g : List Nat} {i : Nat} (h : i < g.length) : (natI g).getD i 0 = (g.getD i 0 : Nat) := by simp [natI, List.getD_eq_getElem?_getD, h]
theorem GrOk.may {g : List Nat} {regs : List Int} (h : GrOk m g regs) : mayR m.ps.length (natI g) regs = true := by
 have hl := natI_len g
 simp only [mayR, hl, decide_eq_true h.g1, decide_eq_true h.g8, h.rl, beq_self_eq_true, Bool.true_and]
 rw [List.all_eq_true]
 intro i hi
 have hi := List.mem_range.1 hi
 have h1 := h.lt i hi
 have h2 := h.r0 i hi
 have hc : ((natI g).take i).contains ((g.getD i 0 : Nat) : Int) = false := by
  rw [Bool.eq_false_iff]; intro hc
  rw [List.contains_iff_mem, List.mem_take_iff_getElem] at hc
  obtain ⟨j, hj, e⟩ := hc
  have hj1 : j < g.length := by rw [hl] at hj; omega
  have hj2 : j < i := by omega
  have e2 : g[j] = g[i] := by
   have : ((g[j] : Nat) : Int) = ((g.getD i 0 : Nat) : Int) := by simpa [natI] using e
   rw [List.getD_eq_getElem?_getD, List.getElem?_eq_getElem hi, Option.getD_some] at this
   omega
  have hn := List.nodup_iff_pairwise_ne.1 h.nd
  rw [List.pairwise_iff_getElem] at hn
  exact hn j i hj1 hi hj2 e2
 simp only [okGrp, natI_getD hi, hc, decide_eq_true h2, decide_eq_true (show (0 : Int) ≤ (g.getD i 0 : Nat) by omega), decide_eq_true (show ((g.getD i 0 : Nat) : Int) < m.ps.length by omega)]
 rfl
theorem GrOk.mem {g : List Nat} {regs : List Int} (h : GrOk m g regs) : ∀ d ∈ g, d < m.ps.length := fun d hd => by
 obtain ⟨i, hi, rfl⟩ := List.getElem_of_mem hd
 have := h.lt i hi
 rw [List.getD_eq_getElem?_getD, List.getElem?_eq_getElem hi] at this
 exact this
theorem rows_get {n : Nat} {row : Nat → List Int} {i : Nat} (h : i < n) : (((List.range n).map row).map fun r => [AV.lit 1 (r.map fun n => [AV.int .i64 n])]).getD i [] = [ints (row i)] := by simp [h, ints, I]
/-- A row of numbers of one's own. -/
def OutM (o : Nat → Option Nat) (n0 : Nat) (x : AV) (t : St) (l : List Int) : Prop := l = [] ∧ x = .nils ∨ ∃ c, x = .sl c 0 l.length ∧ n0 ≤ c ∧ c < t.next ∧ o c = none ∧ t.blk c = some (.cells 1 (l.map fun n => [I n]))
theorem OutM.grow {n0 : Nat} {x : AV} {t s : St} {l : List Int} {o' : Nat → Option Nat} (h : OutM o n0 x t l) (g : Grow o t o' s) : OutM o' n0 x s l := by
 rcases h with h | ⟨c, h1, h2, h3, h4, h5⟩
 ·exact .inl h
 ·exact .inr ⟨c, h1, h2, Nat.lt_of_lt_of_le h3 g.1, (g.2.1 c h3).trans h4, (g.2.2 c h3 h4).trans h5⟩

/-- ring.Reduce -/
theorem reduce_spec (h : MkI o σ b bL bR m) (hk : m.Sm k) (hk2 : k ≤ 60000) (g : List Nat) (regs : List Int) (hG : GrOk m g regs) (how : Int) (hh : howB how = true) :
  TQ Try.prog 41 [.ptr b 0 0, ints (natI g), ints regs, I how] σ fun v s => v = .tup [ints (reduceM m g regs how).2, I 0] ∧ ∃ o', MkI o' s b bL bR (reduceM m g regs how).1 ∧ Grow o σ o' s := by
 refine in41 (by simp) fun wf hab => ?_
 clear hab
 have hg1 := hG.g1
 have hg8 := hG.g8
 have hgm : g.length ≤ most := by simp only [most]; omega
 have hmay := hG.may
 obtain ⟨vs, hm⟩ := h
 have q1 := mayRing_spec hm.hb (natI g) regs
 rw [if_pos hmay] at q1
 have q2 := foldRight_spec how σ
 rw [hh] at q2
 unfold c41
 refine .seq (.rg fun A hA K hK => ?_)
 simp (maxSteps := 1000000) only [go_sem, hA.nil, hA.go, hA.yes, hA.noT, hA.noF, hA.skp]
 refine hK _ _ ?_; clear hK K hA A
 refine .seq (.seq (.rg fun A hA K hK => ?_))
 simp (maxSteps := 1000000) only [go_sem, hA.nil, hA.go, hA.yes, hA.noT, hA.noF, hA.skp]
 refine aopq_call (q1) (by simp (maxSteps := 1000000) only [go_sem]) ?_
 try simp (maxSteps := 1000000) only [go_sem, hA.nil, hA.go, hA.yes, hA.noT, hA.noF, hA.skp]
 refine hK _ _ ?_; clear hK K hA A
 refine .seq (.rg fun A hA K hK => ?_)
 simp (maxSteps := 1000000) only [go_sem, hA.nil, hA.go, hA.yes, hA.noT, hA.noF, hA.skp]
 refine aopq_call (q2) (by simp (maxSteps := 1000000) only [go_sem]) ?_
 try simp (maxSteps := 1000000) only [go_sem, hA.nil, hA.go, hA.yes, hA.noT, hA.noF, hA.skp]
 try simp (maxSteps := 1000000) only [go_sem, hA.nil, hA.go, hA.yes, hA.noT, hA.noF, hA.skp]
 refine hK _ _ ?_; clear hK K hA A
 refine .cond (t := false) (by simp (maxSteps := 1000000) only [go_sem]) (fun h => by cases h) (fun _ => .skip ?_)
 -- there is room
 have h : MkI o σ b bL bR m := ⟨vs, hm⟩
 have w1 : IntKind.i64.wrap ((g.length : Int) - 1) = (g.length : Int) - 1 := IntWalk.i64_in _ (by omega)
 have w2 : IntKind.i64.wrap (3 * ((g.length : Int) - 1)) = 3 * ((g.length : Int) - 1) := IntWalk.i64_in _ (by omega)
 refine .midK (fun L s => L = [(0, .ptr b 0 0), (1, ints (natI g)), (2, ints regs), (3, I how)] ∧ MkI o s b bL bR m ∧ Grow o σ o s) ?_ ?_
 ·have q3 := each_spec (3 * ((g.length : Int) - 1)) σ
  obtain ⟨h1, g1⟩ := h.ext (s := σ.push (.cells 1 [[I (3 * ((g.length : Int) - 1))]])) (by rw [next_push]; omega) (fun c hc => by rw [blk_push, if_neg (by omega)])
  obtain ⟨vs1, hm1⟩ := h1
  have q4 := roomRing_spec hm1 (natI g) 108 [.ptr σ.next 0 0] (fun _ => 3 * ((g.length : Int) - 1)) (fun i _ => eachF_spec (by rw [blk_push, if_pos rfl]) i) (fun i hi => by
   rw [natI_len] at hi
   have := hG.lt i hi
   rw [natI_getD hi, Int.toNat_natCast]
   have := hk.len (g.getD i 0)
   omega) (fun d => by have := hk.len d; omega)
  refine .seq (.rg fun A hA K hK => ?_)
  simp (maxSteps := 1000000) only [go_sem, hA.nil, hA.go, hA.yes, hA.noT, hA.noF, hA.skp, natI_len, w1, w2]
  refine aopq_callT q3 (by simp (maxSteps := 1000000) only [go_sem]) ?_
  try simp (maxSteps := 1000000) only [go_sem, hA.nil, hA.go, hA.yes, hA.noT, hA.noF, hA.skp]
  refine aopq_call (q4) (by simp (maxSteps := 1000000) only [go_sem]) ?_
  try simp (maxSteps := 1000000) only [go_sem, hA.nil, hA.go, hA.yes, hA.noT, hA.noF, hA.skp]
  try simp (maxSteps := 1000000) only [go_sem, hA.nil, hA.go, hA.yes, hA.noT, hA.noF, hA.skp]
  refine hK _ _ ?_; clear hK K hA A
  refine .seq (.rg fun A hA K hK => ?_)
  simp (maxSteps := 1000000) only [go_sem, hA.nil, hA.go, hA.yes, hA.noT, hA.noF, hA.skp]
  refine hK _ _ ?_; clear hK K hA A
  refine .cond (t := false) (by simp (maxSteps := 1000000) only [go_sem]) (fun h => by cases h) (fun _ => .skip ?_)
  exact ⟨_, ⟨rfl, ⟨vs1, hm1⟩, g1⟩, by simp (maxSteps := 1000000) only [go_sem]⟩
 rintro L s ⟨rfl, hs, gs⟩
 refine .seq (.rg fun A hA K hK => ?_)
 simp (maxSteps := 1000000) only [go_sem, hA.nil, hA.go, hA.yes, hA.noT, hA.noF, hA.skp]
 refine hK _ _ ?_; clear hK K hA A
 have q5 := everyone_spec hs hk g regs hg8 hk2 hG.rl hG.mem
 refine .midK (fun L t => ∃ x o', L = [(12, x)] ∧ MkI o' t b bL bR (reduceM m g regs how).1 ∧ Grow o σ o' t ∧ OutM o' s.next x t (reduceM m g regs how).2) ?_ ?_
 ·refine .seq (.rg fun A hA K hK => ?_)
  simp (maxSteps := 1000000) only [go_sem, hA.nil, hA.go, hA.yes, hA.noT, hA.noF, hA.skp]
  refine aopq_callQ (q5) (by simp (maxSteps := 1000000) only [go_sem]) ?_
  rintro v t ⟨rfl, o1, ht, gt⟩
  try simp (maxSteps := 1000000) only [go_sem, hA.nil, hA.go, hA.yes, hA.noT, hA.noF, hA.skp, rowsA, List.length_map, List.length_range]
  refine hK _ _ ?_; clear hK K hA A
  have hdm : (fun i => rowE (fun i => regs.getD i 0) (delivM m (outE g (fun _ j => regs.getD j 0) g.length)).2 (posE g fun _ j => regs.getD j 0) i g.length) = evRow m g regs := rfl
  rw [show (delivM m (outE g (fun _ j => regs.getD j 0) g.length)).1 = (delivM m (evL g regs)).1 from rfl] at ht
  have hsm0 := delivM_sm hk (evL g regs)
  have hln0 := delivM_len m (evL g regs)
  have hel := evL_len (regs := regs) hg8
  refine .rangeK (N := g.length) (fun i L t => ∃ x o', L = [(0, .ptr b 0 0), (1, ints (natI g)), (3, I how), (12, x), (43, rowsA ((List.range g.length).map (evRow m g regs))), (44, I g.length), (45, I i)] ∧ MkI o' t b bL bR (redAll (delivM m (evL g regs)).1 g (opOf how) (evRow m g regs) i).1 ∧ Grow o σ o' t ∧
    OutM o' s.next x t (redAll (delivM m (evL g regs)).1 g (opOf how) (evRow m g regs) i).2 ∧ s.next ≤ t.next) hgm
   ⟨_, ⟨.nils, o1, rfl, ht, gs.trans gt, .inl ⟨rfl, rfl⟩, gt.1⟩, by simp (maxSteps := 1000000) only [go_sem, rowsA, hdm, List.length_map, List.length_range]; try rfl⟩ ?_ ?_ ?_
  ·rintro i L t ⟨x, o', rfl, _⟩
   exact ⟨by simp (maxSteps := 1000000) only [go_sem], by simp (maxSteps := 1000000) only [go_sem], rfl⟩
  ·rintro i L t hi ⟨x, o2, rfl, h2, g2, hx, hst⟩
   have e0 : (i : Int) < g.length := by omega
   have hgr := rows_get (row := evRow m g regs) hi
   have hrl := evRow_len m g regs i
   have hsm := redAll_sm hsm0 g (opOf how) (evRow m g regs) i
   obtain ⟨hln, hol⟩ := redAll_len (delivM m (evL g regs)).1 g (opOf how) (evRow m g regs) i
   have hsmi : i * (g.length - 1) ≤ 64 := by
    have : i * (g.length - 1) ≤ 8 * 8 := Nat.mul_le_mul (by omega) (by omega)
    omega
   have hR : redAll (delivM m (evL g regs)).1 g (opOf how) (evRow m g regs) (i + 1) = ((redRow (redAll (delivM m (evL g regs)).1 g (opOf how) (evRow m g regs) i).1 (g.getD i 0) (opOf how) (evRow m g regs i) (g.length - 1)).1, (redAll (delivM m (evL g regs)).1 g (opOf how) (evRow m g regs) i).2 ++ [(redRow (redAll (delivM m (evL g regs)).1 g (opOf how) (evRow m g regs) i).1 (g.getD i 0) (opOf how) (evRow m g regs i) (g.length - 1)).2]) := rfl
   have hgi := natI_get hi
   have hdlt := hG.lt i hi
   rw [hln0] at hln
   generalize redAll (delivM m (evL g regs)).1 g (opOf how) (evRow m g regs) i = p at *
   obtain ⟨mm, outs⟩ := p
   simp only at h2 hx hsm hln hol hR
   generalize hrow : evRow m g regs i = row at hgr hrl hR
   generalize hd0 : g.getD i 0 = d at *
   have hr0 : ((row.map fun n => [AV.int .i64 n]).getD 0 []) = [I (row.getD 0 0)] := by
    have : 0 < row.length := by omega
    have := ints_get this
    rw [this]; simp [List.getD_eq_getElem?_getD, show 0 < row.length by omega]
   have e00 : (0 : Int) < (row.length : Int) := by omega
   have e01 : (1 : Int) ≤ (row.length : Int) := by omega
   have e02 : 0 < row.length := by omega
   have e03 : 1 ≤ row.length := by omega
   have hdr : List.take (row.length - 1) (List.drop 1 (row.map fun n => [AV.int .i64 n])) = (row.drop 1).map fun n => [AV.int .i64 n] := by
    rw [← List.map_drop, List.take_of_length_le (by simp)]
   have hdl : (row.drop 1).length = g.length - 1 := by rw [List.length_drop, hrl]
   refine .seq (.rg fun A hA K hK => ?_)
   simp (maxSteps := 1000000) only [go_sem, hA.nil, hA.go, hA.yes, hA.noT, hA.noF, hA.skp, rowsA, hgr, e0, hi, List.length_map, List.length_range]
   refine hK _ _ ?_; clear hK K hA A
   refine .seq (.rg fun A hA K hK => ?_)
   simp (maxSteps := 1000000) only [go_sem, hA.nil, hA.go, hA.yes, hA.noT, hA.noF, hA.skp, e00, e02, hr0, List.length_map]
   refine hK _ _ ?_; clear hK K hA A
   refine .midK (fun L u => ∃ o', L = [(0, .ptr b 0 0), (1, ints (natI g)), (3, I how), (12, x), (15, I (redRow mm d (opOf how) row (g.length - 1)).2), (43, rowsA ((List.range g.length).map (evRow m g regs))), (44, I g.length), (45, I i)] ∧ MkI o' u b bL bR (redRow mm d (opOf how) row (g.length - 1)).1 ∧ Grow o2 t o' u) ?_ ?_
   ·refine .seq (.rg fun A hA K hK => ?_)
    simp (maxSteps := 1000000) only [go_sem, hA.nil, hA.go, hA.yes, hA.noT, hA.noF, hA.skp, e01, e03, hdr, hdl, List.length_map, List.length_drop]
    refine hK _ _ ?_; clear hK K hA A
    refine .rangeK (N := g.length - 1) (fun j L u => ∃ o', L = [(0, .ptr b 0 0), (1, ints (natI g)), (3, I how), (12, x), (13, I i), (15, I (redRow mm d (opOf how) row j).2), (43, rowsA ((List.range g.length).map (evRow m g regs))), (44, I g.length), (45, I i), (54, ints (row.drop 1)), (55, I (g.length - 1 : Nat)), (56, I j)] ∧ MkI o' u b bL bR (redRow mm d (opOf how) row j).1 ∧ Grow o2 t o' u) (by simp only [most]; omega)
     ⟨_, ⟨o2, rfl, h2, .refl _ _⟩, by simp (maxSteps := 1000000) only [go_sem, hdr, hrl, rowsA, redRow, List.length_map, List.length_range, List.length_drop]; try rfl⟩ ?_ ?_ ?_
    ·rintro j L u ⟨o', rfl, _⟩
     exact ⟨by simp (maxSteps := 1000000) only [go_sem], by simp (maxSteps := 1000000) only [go_sem], rfl⟩
    ·rintro j L u hj ⟨o3, rfl, h3, g3⟩
     have e1 : (j : Int) < ((g.length - 1 : Nat) : Int) := by omega
     have hgj : ((row.drop 1).map fun n => [AV.int .i64 n]).getD j [] = [I (row.getD (j + 1) 0)] := by
      have : j < (row.drop 1).length := by omega
      have h9 := ints_get this
      rw [h9]; simp [List.getD_eq_getElem?_getD, show j + 1 < row.length by omega, Nat.add_comm]
     have hsm3 := redRow_sm hsm d (opOf how) row j
     have hln3 := redRow_len mm d (opOf how) row j
     have hR3 : redRow mm d (opOf how) row (j + 1) = (((redRow mm d (opOf how) row j).1.fresh d).put d (workF ((redRow mm d (opOf how) row j).1.rs.getD d 0) (redRow mm d (opOf how) row j).2 (row.getD (j + 1) 0) (opOf how)), (redRow mm d (opOf how) row j).1.rs.getD d 0) := rfl
     generalize redRow mm d (opOf how) row j = q at *
     obtain ⟨m3, r3⟩ := q
     simp only at h3 hsm3 hln3 hR3
     obtain ⟨z, hT, o4, h4, g4⟩ := work_T h3 hsm3 (by omega) d (by omega) (foldN (opOf how)) [r3, row.getD (j + 1) 0] (fun r => workF_sm r _ _ _)
     have hfo := folds_spec how u
     have e1' : j < g.length - 1 := by omega
     refine .seq (.rg fun A hA K hK => ?_)
     simp (maxSteps := 1000000) only [go_sem, hA.nil, hA.go, hA.yes, hA.noT, hA.noF, hA.skp, e1, e1', hgj, hdl, List.length_map]
     refine hK _ _ ?_; clear hK K hA A
     refine .rd fun A hA K hK => ?_
     simp (maxSteps := 1000000) only [go_sem, hA.nil, hA.go, hA.yes, hA.noT, hA.noF, hA.skp, natI_len, e0, hi, hgi]
     first
      | refine aop_call hfo (by simp (maxSteps := 1000000) only [go_sem]) ?_
      | refine aopq_call hfo (by simp (maxSteps := 1000000) only [go_sem]) ?_
     try simp (maxSteps := 1000000) only [go_sem, hA.nil, hA.go, hA.yes, hA.noT, hA.noF, hA.skp]
     refine aop_callF hT (by simp (maxSteps := 1000000) only [go_sem, nodeL, foldN]) ?_
     try simp (maxSteps := 1000000) only [go_sem, hA.nil, hA.go, hA.yes, hA.noT, hA.noF, hA.skp]
     refine hK _ _ ?_; clear hK K hA A
     refine ⟨by simp (maxSteps := 1000000) only [go_sem], _, ⟨o4, rfl, by rw [hR3]; exact h4, g3.trans g4⟩, by simp (maxSteps := 1000000) only [go_sem, hR3]; try rfl⟩
    ·rintro L u F ⟨o', rfl, h3, g3⟩ hf
     simp (maxSteps := 1000000) only [go_sem] at hf
     exact ⟨_, ⟨o', rfl, h3, g3⟩, by simp (maxSteps := 1000000) only [go_sem, hf]⟩
   rintro L u ⟨o3, rfl, h3, g3⟩
   have hx3 := hx.grow g3
   have g3n := g3.1
   have hno := h3.none
   generalize redRow mm d (opOf how) row (g.length - 1) = q at *
   obtain ⟨m3, r3⟩ := q
   simp only at h3 hR
   rcases hx3 with ⟨rfl, rfl⟩ | ⟨c, rfl, c1, c2, c3, c4⟩
   ·refine .rg fun A hA K hK => ?_
    simp (maxSteps := 1000000) only [go_sem, hA.nil, hA.go, hA.yes, hA.noT, hA.noF, hA.skp]
    refine ⟨by decide, by decide, ?_⟩
    refine hK _ _ ?_; clear hK K hA A
    refine ⟨by simp (maxSteps := 1000000) only [go_sem], _, ⟨.sl u.next 0 1, o3, rfl, by rw [hR]; exact h3.frame (by simp (maxSteps := 1000000) only [go_sem]; try omega) (fun y hy => by have := h3.lt y hy; simp (disch := omega) only [go_sem, if_neg]), (g2.trans g3).trans (growExt (by simp (maxSteps := 1000000) only [go_sem]; try omega) fun y hy => by simp (disch := omega) only [go_sem, if_neg]), ?_, by simp (maxSteps := 1000000) only [go_sem]; try omega⟩, by simp (maxSteps := 1000000) only [go_sem]; try rfl⟩
    rw [hR]
    exact .inr ⟨u.next, rfl, by omega, by simp (maxSteps := 1000000) only [go_sem]; try omega, hno, by simp (maxSteps := 1000000) only [go_sem]⟩
   ·have m1 : outs.length + 1 ≤ most := by simp only [most]; omega
    have m2 : (outs.length + 1) * 8 ≤ most := by simp only [most]; omega
    have m4 : List.take outs.length (outs.map fun n => [AV.int .i64 n]) = outs.map fun n => [AV.int .i64 n] := List.take_of_length_le (by simp)
    refine .rg fun A hA K hK => ?_
    simp (maxSteps := 1000000) only [go_sem, hA.nil, hA.go, hA.yes, hA.noT, hA.noF, hA.skp, c4, m1, m2, m4, List.length_map]
    refine hK _ _ ?_; clear hK K hA A
    have G := g2.trans g3
    refine ⟨by simp (maxSteps := 1000000) only [go_sem], _, ⟨.sl u.next 0 (outs.length + 1), o3, rfl, by rw [hR]; exact h3.frame (by simp (maxSteps := 1000000) only [go_sem]; try omega) (fun y hy => by have := h3.lt y hy; have : ¬ y = c := (by rintro rfl; exact hy c3); simp (disch := omega) only [go_sem, if_neg, this]), ⟨by have := G.1; simp (maxSteps := 1000000) only [go_sem]; try omega, G.2.1, fun y hy hoy => ?_⟩, ?_, by simp (maxSteps := 1000000) only [go_sem]; try omega⟩, by simp (maxSteps := 1000000) only [go_sem]; try rfl⟩
    ·have gn := gs.1
     rw [← G.2.2 y hy hoy]
     have := G.1
     simp (disch := omega) only [go_sem, if_neg]
    ·rw [hR]
     exact .inr ⟨u.next, by rw [List.length_append]; rfl, by omega, by simp (maxSteps := 1000000) only [go_sem]; try omega, hno, by simp (maxSteps := 1000000) only [go_sem, List.map_append]⟩
  ·rintro L t F ⟨x, o', rfl, h2, g2, hx, hst⟩ hf
   simp (maxSteps := 1000000) only [go_sem] at hf
   exact ⟨_, ⟨x, o', rfl, h2, g2, hx⟩, by simp (maxSteps := 1000000) only [go_sem, hf]⟩
 rintro L t ⟨x, o', rfl, h2, g2, hx⟩
 have gn := gs.1
 rcases hx with ⟨e, rfl⟩ | ⟨c, rfl, c1, c2, c3, c4⟩
 ·refine .ent (.sub 12 (by simp (maxSteps := 1000000) only [go_sem]) (.nils 1)) ?_
  refine .seq (.rg fun A hA K hK => ?_)
  simp (maxSteps := 1000000) only [go_sem, hA.nil, hA.go, hA.yes, hA.noT, hA.noF, hA.skp]
  refine hK _ _ ?_; clear hK K hA A
  exact .ret (retS2 (by simp (maxSteps := 1000000) only [go_sem]; try rfl) (by simp (maxSteps := 1000000) only [go_sem]; try rfl) ⟨by rw [e]; rfl, o', h2, g2⟩)
 ·refine .frz 12 (b := c) (n := (reduceM m g regs how).2.length) (by simp (maxSteps := 1000000) only [go_sem]) c4 (by simp) ?_
  refine .seq (.rg fun A hA K hK => ?_)
  simp (maxSteps := 1000000) only [go_sem, hA.nil, hA.go, hA.yes, hA.noT, hA.noF, hA.skp]
  refine hK _ _ ?_; clear hK K hA A
  refine .ret (retS2 (by simp (maxSteps := 1000000) only [go_sem]; try rfl) (by simp (maxSteps := 1000000) only [go_sem]; try rfl) ⟨rfl, o', h2.frame (by simp (maxSteps := 1000000) only [go_sem]; try omega) (fun y hy => ?_), by simp (maxSteps := 1000000) only [go_sem]; exact g2.1, g2.2.1, fun y hy hoy => ?_⟩)
  ·have : ¬ y = c := by rintro rfl; exact hy c3
   simp (maxSteps := 1000000) only [go_sem, this]
  ·rw [← g2.2.2 y hy hoy]; simp (disch := omega) only [go_sem, if_neg]
end mk
end Go.Proofs.Ytfjbabacpnnjmaa.Av
