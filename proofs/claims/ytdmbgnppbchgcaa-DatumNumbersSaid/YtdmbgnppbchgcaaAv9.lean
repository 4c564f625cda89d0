/- A logic of small values, and walks in it: Datum: known. Datum: Count. Datum: all. Datum: a tape's shape; DatumTells. Datum: DatumCopies. From what a row's arguments read as to what stands to them. The arguments of chapter 3's rows as small values. -/
import Derived.Test.YtdmbgnppbchgcaaAv8
import Derived.ChangeArms
import Derived.ChangeSlices
import Derived.SizedLaws
import Derived.DataReads
import Derived.Test.YtdmbgnppbchgcaaProg
import Derived.KernelRfl
import Derived.Below
set_option linter.unusedVariables false
set_option linter.unusedSimpArgs false
set_option linter.deprecated false
namespace Go.Proofs.Ytdmbgnppbchgcaa.Av
open Go Go.Av
set_option maxRecDepth 20000
set_option maxHeartbeats 4000000

attribute [local go_sem] step_apply stepD_apply stepE_apply
attribute [local go_sem] aopq_mv aopq_pk aopq_al aopq_bx aopq_bd aopq_bs aopq_ld aopq_st aopq_nc aopq_bin aopq_un aopq_cv aopq_mi aopq_mf aopq_mm aopq_ms aopq_sc aopq_fa aopq_fl aopq_ia aopq_lk aopq_mu aopq_lm aopq_rg aopq_rgs aopq_nxs aopq_msl aop_msl aop_rgs aop_nxs aopq_en aopq_ta aopq_ex aopq_ln aopq_ap aopq_mx aopq.eq_3 aop.eq_1 aop.eq_2 aop.eq_3 aop.eq_4 aop.eq_5 aop.eq_6 aop.eq_7 aop.eq_8 aop.eq_9 aop_bin atS_apply aop_un_not aop_un_neg aop.eq_14 aop.eq_15 aop.eq_16 aop.eq_17 aop.eq_18 aop_sc cutS_apply cutN_apply cutL_apply cutO_apply aop.eq_20 aop.eq_21 aop.eq_22 aop.eq_23 aop.eq_24 aop.eq_25 aop.eq_26 aop.eq_27 aop.eq_28 aop.eq_29 aop.eq_30 aop.eq_31 aop.eq_32 blk_push next_push blk_set next_set blk_kill next_kill frL_nil frL_cons Fits_nil Fits_cons Int.reduceBEq Int.reduceBNe Nat.sub_zero Option.map_some Option.map_none List.set_cons_succ true_or or_true false_or or_false Int.le_refl Int.cast_ofNat_Int decide_true decide_false List.cons_append fillA fillR rowsOf List.replicate_succ List.replicate_zero Nat.zero_mul getD_drop List.length_drop splice List.nil_append List.append_nil cond_true cond_false List.set_cons_zero List.length_set ev put_some put_none upd_apply abin asNat bounds row1 mk List.length_cons List.length_nil List.length_map List.drop_zero List.drop_succ_cons List.drop_nil List.getD_cons_zero List.getD_cons_succ Option.getD_none Option.getD_some List.take_succ_cons List.take_zero List.take_nil true_and and_true Int.toNat_natCast if_true if_false Nat.zero_add Nat.add_zero List.map_cons List.map_nil Nat.reduceEqDiff Nat.left_eq_add Nat.add_eq_left Nat.add_left_cancel_iff Nat.add_assoc Nat.reduceSub Nat.reduceAdd Nat.reduceLeDiff Nat.le_refl Nat.zero_le Nat.zero_lt_one Nat.lt_add_one Int.reduceLT Int.reduceLE Int.reduceToNat Nat.reduceLT Nat.reduceBEq Bool.false_eq_true Nat.reduceBNe ne_eq not_false_eq_true not_true_eq_false false_and and_false reduceIte Int.natCast_nonneg reduceCtorEq parts_agg parts_bool parts_int parts_str parts_lit parts_nils parts_sl parts_ptr parts_iface parts_nilp parts_niliface Int.natCast_nonneg Int.natCast_nonneg beq_self_eq_true bne_self_eq_false Bool.true_and Bool.false_and Bool.and_true Bool.and_false Bool.true_or Bool.false_or Bool.or_true Bool.or_false Bool.not_true Bool.not_false
attribute [local go_sem] I ints tenA

theorem TenW.own {σ t : St} {s d : List Int} {ok : Bool} {v : AV} (h : TenW σ s d ok v t) : ∃ b, v = .tup [.agg [ints s, b], .bool ok] ∧ OwnW σ.next t b d ∧ (∀ c, b = .sl c 0 d.length → σ.next ≤ c ∧ c < t.next) ∧ Ext σ t := by
  obtain ⟨b, h1, h2, h3⟩ := h
  refine ⟨b, h1, h2, fun c hc => ?_, h3⟩
  rcases h2 with h | ⟨c', h1, _, h3, h4⟩
  · rw [h] at hc; cases hc
  · rw [h1] at hc; cases hc; exact ⟨h3, h4⟩
/-- A tensor that a call has left, laid into a new variable and made plain. -/
theorem laid {n0 : Nat} {F : Fr} {σ t u : St} {s d : List Int} {b : AV} (ho : OwnW t.next u b d) (hxu : Ext t u) (hx : Ext σ t) :
    ∃ z, Ent n0 F ((u.push (.cells 2 [[.lit 1 [], .lit 1 []]])).set u.next (.cells 2 [[ints s, b]])) F z ∧ z.blk u.next = some (.cells 2 [[ints s, ints d]]) ∧ Ext σ z ∧ z.next = u.next + 1 ∧ ∀ c, c < t.next → z.blk c = t.blk c := by
  have hn := hxu.1
  have hn2 := hx.1
  have own : ∀ c, b = .sl c 0 d.length → t.next ≤ c ∧ c < u.next := fun c hc => by
    rcases ho with h | ⟨c', h1, _, h3, h4⟩
    · rw [h] at hc; cases hc
    · rw [h1] at hc; cases hc; exact ⟨h3, h4⟩
  generalize hy : (u.push (.cells 2 [[.lit 1 [], .lit 1 []]])).set u.next (.cells 2 [[ints s, b]]) = y
  have hy9 : y.blk u.next = some (.cells 2 [[ints s, b]]) := by subst hy; rw [blk_set, if_pos rfl]
  have hyn : y.next = u.next + 1 := by subst hy; rfl
  have hyx : ∀ c, c < u.next → y.blk c = u.blk c := fun c hc => by subst hy; rw [blk_set, if_neg (by omega), blk_push, if_neg (by omega)]
  have hxy : Ext σ y := ⟨by omega, fun c hc => by rw [hyx c (by omega), hxu.2 c (by omega)]; exact hx.2 c hc⟩
  have hoy : OwnW t.next y b d := by
    rcases ho with h | ⟨c, h1, h2, h3, h4⟩
    · exact .inl h
    · exact .inr ⟨c, h1, by rw [hyx c h4]; exact h2, h3, by omega⟩
  obtain ⟨z, e1, e2, e3, e4, e5⟩ := plain_box (n0 := n0) (F := F) hy9 (.inr ⟨_, hoy, fun c hc => by have := own c hc; omega⟩) (by omega) hxy
  exact ⟨z, e1, e2, e3, by omega, fun c hc => by rw [e5 c (by omega) (fun h => by have := own c h; omega), hyx c (by omega), hxu.2 c hc]⟩

theorem ab_runes : runesE ⟨#[97, 98]⟩ = [97, 98] := by decide +kernel
/-- parquetrylaw3.known -/
theorem known_spec (σ : St) : T Try.prog 11 [] σ (.bool true) σ := by
  refine in11 (by simp) fun wf hab => ?_
  clear hab
  unfold c11
  first | refine .seq (.rg fun A hA K hK => ?_) | refine .seq (.seq (.rg fun A hA K hK => ?_)) | refine .rg fun A hA K hK => ?_ | refine .seq (.rd fun A hA K hK => ?_) | refine .seq (.seq (.rd fun A hA K hK => ?_)) | refine .rd fun A hA K hK => ?_
  simp (maxSteps := 1000000) only [go_sem, hA.nil, hA.go, hA.yes, hA.noT, hA.noF, hA.skp]
  refine hK _ _ ?_; clear hK K hA A
  have hT1 := tensor_text ⟨#[97, 98]⟩ (by decide) (s := [2]) (d := [97, 98]) (ok := true) (fun u => by rw [ab_runes]; exact row_yes [97, 98] (by decide) u)
  refine .midK (fun L t => ∃ b1, L = [(1, .ptr b1 0 0), (2, .bool true)] ∧ t.blk b1 = some (.cells 2 [[ints [2], ints [97, 98]]]) ∧ b1 < t.next ∧ Ext σ t) (.entQ ?_) ?_
  · first | refine .seq (.rg fun A hA K hK => ?_) | refine .seq (.seq (.rg fun A hA K hK => ?_)) | refine .rg fun A hA K hK => ?_ | refine .seq (.rd fun A hA K hK => ?_) | refine .seq (.seq (.rd fun A hA K hK => ?_)) | refine .rd fun A hA K hK => ?_
    simp (maxSteps := 1000000) only [go_sem, hA.nil, hA.go, hA.yes, hA.noT, hA.noF, hA.skp]
    refine aopq_callQ (hT1 σ) (by simp (maxSteps := 1000000) only [go_sem]) ?_
    rintro r u h
    obtain ⟨b, rfl, ho, _, hxu⟩ := h.w.own
    try simp (maxSteps := 1000000) only [go_sem, hA.nil, hA.go, hA.yes, hA.noT, hA.noF, hA.skp]
    refine hK _ _ ?_; clear hK K hA A
    obtain ⟨z, e1, e2, e3, e4, e5⟩ := laid (n0 := σ.next) (F := upd (upd (upd (upd (upd (upd (upd (upd (fun i => ([] : List AV).getD i .undef) 0 (.bool false)) 6 (.iface 9 (.str ⟨#[97, 98]⟩))) 7 (.tup [.agg [ints [2], b], .bool true])) 5 (.tup [.agg [ints [2], b], .bool true])) 8 (.agg [ints [2], b])) 9 (.bool true)) 1 (.ptr u.next 0 0)) 2 (.bool true)) (s := [2]) ho hxu (Ext.refl σ)
    exact ⟨_, z, e1, _, ⟨u.next, rfl, e2, by omega, e3⟩, by simp (maxSteps := 1000000) only [go_sem]⟩
  rintro L t ⟨b1, rfl, h1, k1, hx⟩
  refine .midK (fun L u => L = [(1, .ptr b1 0 0), (2, .bool true), (4, .bool false)] ∧ u.blk b1 = some (.cells 2 [[ints [2], ints [97, 98]]]) ∧ b1 < u.next ∧ Ext σ u) ?_ ?_
  · first | refine .seq (.rg fun A hA K hK => ?_) | refine .seq (.seq (.rg fun A hA K hK => ?_)) | refine .rg fun A hA K hK => ?_ | refine .seq (.rd fun A hA K hK => ?_) | refine .seq (.seq (.rd fun A hA K hK => ?_)) | refine .rd fun A hA K hK => ?_
    simp (maxSteps := 1000000) only [go_sem, hA.nil, hA.go, hA.yes, hA.noT, hA.noF, hA.skp]
    refine aopq_callQ (tensor_none (.iface 4 (.bool true)) 0 (.inl rfl) (fun u => kind_o4 _ u) t) (by simp (maxSteps := 1000000) only [go_sem]) ?_
    rintro r u ⟨b, rfl, ho, hxu⟩
    have hn' := hxu.1
    have hn2 := hx.1
    have u1 : u.blk b1 = some (.cells 2 [[ints [2], ints [97, 98]]]) := by rw [hxu.2 _ k1]; exact h1
    try simp (maxSteps := 1000000) only [go_sem, hA.nil, hA.go, hA.yes, hA.noT, hA.noF, hA.skp]
    refine hK _ _ ?_; clear hK K hA A
    exact ⟨_, ⟨rfl, by simp (disch := omega) only [go_sem, if_neg, u1], by simp (maxSteps := 1000000) only [go_sem]; omega, ⟨by simp (maxSteps := 1000000) only [go_sem]; omega, fun c hc => by simp (disch := omega) only [go_sem, if_neg, hxu.2 c (show c < t.next by omega), hx.2 c hc]⟩⟩, by simp (maxSteps := 1000000) only [go_sem]⟩
  rintro L u ⟨rfl, u1, k2, hxu⟩
  have hM := must_no (.iface 4 (.bool true)) u fun u' h' => sure_no _ u' fun u'' h'' => tensor_none (.iface 4 (.bool true)) 0 (.inl rfl) (fun u => kind_o4 _ u) u''
  first | refine .seq (.rg fun A hA K hK => ?_) | refine .seq (.seq (.rg fun A hA K hK => ?_)) | refine .rg fun A hA K hK => ?_ | refine .seq (.rd fun A hA K hK => ?_) | refine .seq (.seq (.rd fun A hA K hK => ?_)) | refine .rd fun A hA K hK => ?_
  simp (maxSteps := 1000000) only [go_sem, hA.nil, hA.go, hA.yes, hA.noT, hA.noF, hA.skp, u1]
  first | refine aopq_call (kind_none u) (by simp (maxSteps := 1000000) only [go_sem, u1]) ?_ | refine aop_call (kind_none u) (by simp (maxSteps := 1000000) only [go_sem, u1]) ?_
  try simp (maxSteps := 1000000) only [go_sem, hA.nil, hA.go, hA.yes, hA.noT, hA.noF, hA.skp, u1]
  refine aopq_callQ (hM) (by simp (maxSteps := 1000000) only [go_sem]) ?_
  rintro r y ⟨rfl, hxy⟩
  have y1 : y.blk b1 = some (.cells 2 [[ints [2], ints [97, 98]]]) := by rw [hxy.2 b1 k2]; exact u1
  try simp (maxSteps := 1000000) only [go_sem, hA.nil, hA.go, hA.yes, hA.noT, hA.noF, hA.skp, y1, tenA]
  first | refine aopq_call (whole24_spec (-1) y) (by simp (maxSteps := 1000000) only [go_sem, y1, tenA]) ?_ | refine aop_call (whole24_spec (-1) y) (by simp (maxSteps := 1000000) only [go_sem, y1, tenA]) ?_
  try simp (maxSteps := 1000000) only [go_sem, hA.nil, hA.go, hA.yes, hA.noT, hA.noF, hA.skp, y1, tenA]
  first | refine aopq_call (kind_many (.emp true 1) y) (by simp (maxSteps := 1000000) only [go_sem, y1]) ?_ | refine aop_call (kind_many (.emp true 1) y) (by simp (maxSteps := 1000000) only [go_sem, y1]) ?_
  try simp (maxSteps := 1000000) only [go_sem, hA.nil, hA.go, hA.yes, hA.noT, hA.noF, hA.skp, y1]
  refine hK _ _ ?_; clear hK K hA A
  exact .ret (retB (by simp (maxSteps := 1000000) only [go_sem]) wf (fun c hc => by rw [hxy.2 c (Nat.lt_of_lt_of_le hc hxu.1)]; exact hxu.2 c hc) (.bool _) ⟨rfl, rfl⟩)
end Go.Proofs.Ytdmbgnppbchgcaa.Av

namespace Go.Proofs.Ytdmbgnppbchgcaa.Av
open Go Go.Av
set_option maxRecDepth 20000
set_option maxHeartbeats 4000000

attribute [local go_sem] step_apply stepD_apply stepE_apply
attribute [local go_sem] aopq_mv aopq_pk aopq_al aopq_bx aopq_bd aopq_bs aopq_ld aopq_st aopq_nc aopq_bin aopq_un aopq_cv aopq_mi aopq_mf aopq_mm aopq_ms aopq_sc aopq_fa aopq_fl aopq_ia aopq_lk aopq_mu aopq_lm aopq_rg aopq_rgs aopq_nxs aopq_msl aop_msl aop_rgs aop_nxs aopq_en aopq_ta aopq_ex aopq_ln aopq_ap aopq_mx aopq.eq_3 aop.eq_1 aop.eq_2 aop.eq_3 aop.eq_4 aop.eq_5 aop.eq_6 aop.eq_7 aop.eq_8 aop.eq_9 aop_bin atS_apply aop_un_not aop_un_neg aop.eq_14 aop.eq_15 aop.eq_16 aop.eq_17 aop.eq_18 aop_sc cutS_apply cutN_apply cutL_apply cutO_apply aop.eq_20 aop.eq_21 aop.eq_22 aop.eq_23 aop.eq_24 aop.eq_25 aop.eq_26 aop.eq_27 aop.eq_28 aop.eq_29 aop.eq_30 aop.eq_31 aop.eq_32 blk_push next_push blk_set next_set blk_kill next_kill frL_nil frL_cons Fits_nil Fits_cons Int.reduceBEq Int.reduceBNe Nat.sub_zero Option.map_some Option.map_none List.set_cons_succ true_or or_true false_or or_false Int.le_refl Int.cast_ofNat_Int decide_true decide_false List.cons_append fillA fillR rowsOf List.replicate_succ List.replicate_zero Nat.zero_mul getD_drop List.length_drop splice List.nil_append List.append_nil cond_true cond_false List.set_cons_zero List.length_set ev put_some put_none upd_apply abin asNat bounds row1 mk List.length_cons List.length_nil List.length_map List.drop_zero List.drop_succ_cons List.drop_nil List.getD_cons_zero List.getD_cons_succ Option.getD_none Option.getD_some List.take_succ_cons List.take_zero List.take_nil true_and and_true Int.toNat_natCast if_true if_false Nat.zero_add Nat.add_zero List.map_cons List.map_nil Nat.reduceEqDiff Nat.left_eq_add Nat.add_eq_left Nat.add_left_cancel_iff Nat.add_assoc Nat.reduceSub Nat.reduceAdd Nat.reduceLeDiff Nat.le_refl Nat.zero_le Nat.zero_lt_one Nat.lt_add_one Int.reduceLT Int.reduceLE Int.reduceToNat Nat.reduceLT Nat.reduceBEq Bool.false_eq_true Nat.reduceBNe ne_eq not_false_eq_true not_true_eq_false false_and and_false reduceIte Int.natCast_nonneg reduceCtorEq parts_agg parts_bool parts_int parts_str parts_lit parts_nils parts_sl parts_ptr parts_iface parts_nilp parts_niliface Int.natCast_nonneg Int.natCast_nonneg beq_self_eq_true bne_self_eq_false Bool.true_and Bool.false_and Bool.and_true Bool.and_false Bool.true_or Bool.false_or Bool.or_true Bool.or_false Bool.not_true Bool.not_false
attribute [local go_sem] I ints tenA

def addC (c : List Int) (k : Nat) : List Int := c.set k (c.getD k 0 + 1)
def cntF (ks : List Nat) : List Int := ks.foldl addC [0, 0, 0, 0, 0, 0]
theorem cntF_len (ks : List Nat) : (cntF ks).length = 6 := by
  have : ∀ (ks : List Nat) (c : List Int), (ks.foldl addC c).length = c.length := by
    intro ks
    induction ks with
    | nil => intro c; rfl
    | cons k ks ih => intro c; rw [List.foldl_cons, ih]; simp [addC]
  exact this ks _
theorem cntF_in (ks : List Nat) : ∀ d, 0 ≤ (cntF ks).getD d 0 ∧ (cntF ks).getD d 0 ≤ ks.length := by
  have : ∀ (ks : List Nat) (c : List Int) (m : Nat), (∀ d, 0 ≤ c.getD d 0 ∧ c.getD d 0 ≤ m) → ∀ d, 0 ≤ (ks.foldl addC c).getD d 0 ∧ (ks.foldl addC c).getD d 0 ≤ (m + ks.length : Nat) := by
    intro ks
    induction ks with
    | nil => intro c m h d; simpa using h d
    | cons k ks ih =>
      intro c m h d
      rw [List.foldl_cons]
      have := ih (addC c k) (m + 1) (fun d => ?_) d
      · simp only [List.length_cons]; omega
      · have h1 := h d
        have h2 := h k
        by_cases hk : k < c.length
        · by_cases hd : d = k
          · subst hd; simp only [addC]; rw [getD_set_eq _ _ hk]; omega
          · simp only [addC]; rw [getD_set_ne _ _ hd]; omega
        · simp only [addC]; rw [List.set_eq_of_length_le (by omega)]; omega
  intro d
  have := this ks [0, 0, 0, 0, 0, 0] 0 (fun d => by
    rcases d with _ | _ | _ | _ | _ | _ | d <;> simp) d
  simpa [cntF] using this
theorem cntF_snoc (ks : List Nat) (k : Nat) : cntF (ks ++ [k]) = addC (cntF ks) k := by simp [cntF]
theorem row_get1 {vs : List AV} {i : Nat} (h : i < vs.length) : (vs.map fun v => [v]).getD i [] = [vs[i]] := by simp [h]
theorem regs_set (rs : List Int) (d : Nat) (x : Int) : (rs.map fun r => [I r]).set d [I x] = (rs.set d x).map fun r => [I r] := by rw [List.map_set]
/-- datum.Count -/
theorem count_spec (vs : List AV) (ks : List Nat) (hl : vs.length = ks.length) (hk : ∀ i (h : i < vs.length), ks.getD i 0 < 6 ∧ ∀ u, T Try.prog 16 [vs[i]] u (I (ks.getD i 0)) u) (σ : St) : T Try.prog 15 [.lit 1 (vs.map fun v => [v])] σ (ints (cntF ks)) σ := by
  refine in15 (by simp) fun wf hab => ?_
  have hm : vs.length ≤ most := by simpa using (hab 0 (by simp)).lit.1
  clear hab
  unfold c15
  first | refine .seq (.rg fun A hA K hK => ?_) | refine .seq (.seq (.rg fun A hA K hK => ?_)) | refine .rg fun A hA K hK => ?_ | refine .seq (.rd fun A hA K hK => ?_) | refine .seq (.seq (.rd fun A hA K hK => ?_)) | refine .rd fun A hA K hK => ?_
  simp (maxSteps := 1000000) only [go_sem, hA.nil, hA.go, hA.yes, hA.noT, hA.noF, hA.skp]
  refine hK _ _ ?_; clear hK K hA A
  first | refine .seq (.rg fun A hA K hK => ?_) | refine .seq (.seq (.rg fun A hA K hK => ?_)) | refine .rg fun A hA K hK => ?_ | refine .seq (.rd fun A hA K hK => ?_) | refine .seq (.seq (.rd fun A hA K hK => ?_)) | refine .rd fun A hA K hK => ?_
  simp (maxSteps := 1000000) only [go_sem, hA.nil, hA.go, hA.yes, hA.noT, hA.noF, hA.skp]
  refine ⟨by decide, by decide, ?_⟩
  refine hK _ _ ?_; clear hK K hA A
  first | refine .seq (.rg fun A hA K hK => ?_) | refine .seq (.seq (.rg fun A hA K hK => ?_)) | refine .rg fun A hA K hK => ?_ | refine .seq (.rd fun A hA K hK => ?_) | refine .seq (.seq (.rd fun A hA K hK => ?_)) | refine .rd fun A hA K hK => ?_
  simp (maxSteps := 1000000) only [go_sem, hA.nil, hA.go, hA.yes, hA.noT, hA.noF, hA.skp]
  refine hK _ _ ?_; clear hK K hA A
  refine .rangeK (N := vs.length) (fun i L t => L = [(3, .sl σ.next 0 6), (7, .lit 1 (vs.map fun v => [v])), (8, I vs.length), (9, I i)] ∧ t.blk σ.next = some (.cells 1 ((cntF (ks.take i)).map fun n => [I n])) ∧ t.next = σ.next + 1 ∧ ∀ b, b < σ.next → t.blk b = σ.blk b) hm
    ⟨_, ⟨rfl, by simp (maxSteps := 1000000) only [go_sem, cntF, List.foldl_nil], by simp (maxSteps := 1000000) only [go_sem], fun b hb => by simp (disch := omega) only [go_sem, if_neg]⟩, by simp (maxSteps := 1000000) only [go_sem]; try rfl⟩ ?_ ?_ ?_
  · rintro i L t ⟨rfl, _⟩
    exact ⟨by simp (maxSteps := 1000000) only [go_sem], by simp (maxSteps := 1000000) only [go_sem], rfl⟩
  · rintro i L t hi ⟨rfl, hb, hn, hx⟩
    have e0 : (i : Int) < vs.length := by omega
    have hg := row_get1 hi
    obtain ⟨k6, kt⟩ := hk i hi
    have hks : ks.take (i + 1) = ks.take i ++ [ks.getD i 0] := by rw [List.take_add_one]; simp [List.getD_eq_getElem?_getD, show i < ks.length by omega]
    generalize ks.getD i 0 = k at k6 kt hks
    have hlen := cntF_len (ks.take i)
    have hin := cntF_in (ks.take i) k
    have htl : (ks.take i).length ≤ i := by rw [List.length_take]; omega
    have e1 : (k : Int) < 6 := by omega
    have hgk : ((cntF (ks.take i)).map fun n => [I n]).getD k [] = [I ((cntF (ks.take i)).getD k 0)] := by
      rw [ints_get (by omega)]; simp [List.getD_eq_getElem?_getD, show k < (cntF (ks.take i)).length by omega]
    have hst : cntF (ks.take (i + 1)) = (cntF (ks.take i)).set k ((cntF (ks.take i)).getD k 0 + 1) := by rw [hks, cntF_snoc]; rfl
    have w1 : IntKind.i64.wrap ((cntF (ks.take i)).getD k 0 + 1) = (cntF (ks.take i)).getD k 0 + 1 := IntWalk.i64_in _ (by simp only [most] at hm; omega)
    have ek : k < (cntF (ks.take i)).length := by omega
    first | refine .seq (.rg fun A hA K hK => ?_) | refine .seq (.seq (.rg fun A hA K hK => ?_)) | refine .rg fun A hA K hK => ?_ | refine .seq (.rd fun A hA K hK => ?_) | refine .seq (.seq (.rd fun A hA K hK => ?_)) | refine .rd fun A hA K hK => ?_
    simp (maxSteps := 1000000) only [go_sem, hA.nil, hA.go, hA.yes, hA.noT, hA.noF, hA.skp, e0, hg, hi]
    refine hK _ _ ?_; clear hK K hA A
    first | refine .seq (.rg fun A hA K hK => ?_) | refine .seq (.seq (.rg fun A hA K hK => ?_)) | refine .rg fun A hA K hK => ?_ | refine .seq (.rd fun A hA K hK => ?_) | refine .seq (.seq (.rd fun A hA K hK => ?_)) | refine .rd fun A hA K hK => ?_
    simp (maxSteps := 1000000) only [go_sem, hA.nil, hA.go, hA.yes, hA.noT, hA.noF, hA.skp]
    first | refine aopq_call (kt t) (by simp (maxSteps := 1000000) only [go_sem, hb, hgk, e1, w1, ek, hlen, regs_set]) ?_ | refine aop_call (kt t) (by simp (maxSteps := 1000000) only [go_sem, hb, hgk, e1, w1, ek, hlen, regs_set]) ?_
    try simp (maxSteps := 1000000) only [go_sem, hA.nil, hA.go, hA.yes, hA.noT, hA.noF, hA.skp, hb, hgk, e1, w1, ek, hlen, regs_set]
    refine ⟨k6, k6, ?_⟩
    refine hK _ _ ?_; clear hK K hA A
    exact ⟨by simp (maxSteps := 1000000) only [go_sem], _, ⟨rfl, by simp (maxSteps := 1000000) only [go_sem, hst], by simp (maxSteps := 1000000) only [go_sem, hn], fun b hb => by simp (disch := omega) only [go_sem, if_neg, hx b hb]⟩, by simp (maxSteps := 1000000) only [go_sem]; try rfl⟩
  · rintro L t F ⟨rfl, hb, hn, hx⟩ hf
    simp (maxSteps := 1000000) only [go_sem] at hf
    rw [hl, List.take_length] at hb
    first | refine .seq (.rg fun A hA K hK => ?_) | refine .seq (.seq (.rg fun A hA K hK => ?_)) | refine .rg fun A hA K hK => ?_ | refine .seq (.rd fun A hA K hK => ?_) | refine .seq (.seq (.rd fun A hA K hK => ?_)) | refine .rd fun A hA K hK => ?_
    simp (maxSteps := 1000000) only [go_sem, hA.nil, hA.go, hA.yes, hA.noT, hA.noF, hA.skp, hf]
    refine hK _ _ ?_; clear hK K hA A
    refine frz 2 (b := σ.next) (n := 6) (sz := 1) (rows := (cntF ks).map fun n => [I n]) (by simp (maxSteps := 1000000) only [go_sem]) hb (by simp [cntF_len]) ?_
    exact .ret (retB (by simp (maxSteps := 1000000) only [go_sem]) wf (fun c hc => by rw [blk_kill, if_neg (by omega)]; exact hx c hc) (ints_lt _) ⟨rfl, rfl⟩)
end Go.Proofs.Ytdmbgnppbchgcaa.Av

namespace Go.Proofs.Ytdmbgnppbchgcaa.Av
open Go Go.Av
set_option maxRecDepth 20000
set_option maxHeartbeats 4000000

attribute [local go_sem] step_apply stepD_apply stepE_apply
attribute [local go_sem] aopq_mv aopq_pk aopq_al aopq_bx aopq_bd aopq_bs aopq_ld aopq_st aopq_nc aopq_bin aopq_un aopq_cv aopq_mi aopq_mf aopq_mm aopq_ms aopq_sc aopq_fa aopq_fl aopq_ia aopq_lk aopq_mu aopq_lm aopq_rg aopq_rgs aopq_nxs aopq_msl aop_msl aop_rgs aop_nxs aopq_en aopq_ta aopq_ex aopq_ln aopq_ap aopq_mx aopq.eq_3 aop.eq_1 aop.eq_2 aop.eq_3 aop.eq_4 aop.eq_5 aop.eq_6 aop.eq_7 aop.eq_8 aop.eq_9 aop_bin atS_apply aop_un_not aop_un_neg aop.eq_14 aop.eq_15 aop.eq_16 aop.eq_17 aop.eq_18 aop_sc cutS_apply cutN_apply cutL_apply cutO_apply aop.eq_20 aop.eq_21 aop.eq_22 aop.eq_23 aop.eq_24 aop.eq_25 aop.eq_26 aop.eq_27 aop.eq_28 aop.eq_29 aop.eq_30 aop.eq_31 aop.eq_32 blk_push next_push blk_set next_set blk_kill next_kill frL_nil frL_cons Fits_nil Fits_cons Int.reduceBEq Int.reduceBNe Nat.sub_zero Option.map_some Option.map_none List.set_cons_succ true_or or_true false_or or_false Int.le_refl Int.cast_ofNat_Int decide_true decide_false List.cons_append fillA fillR rowsOf List.replicate_succ List.replicate_zero Nat.zero_mul getD_drop List.length_drop splice List.nil_append List.append_nil cond_true cond_false List.set_cons_zero List.length_set ev put_some put_none upd_apply abin asNat bounds row1 mk List.length_cons List.length_nil List.length_map List.drop_zero List.drop_succ_cons List.drop_nil List.getD_cons_zero List.getD_cons_succ Option.getD_none Option.getD_some List.take_succ_cons List.take_zero List.take_nil true_and and_true Int.toNat_natCast if_true if_false Nat.zero_add Nat.add_zero List.map_cons List.map_nil Nat.reduceEqDiff Nat.left_eq_add Nat.add_eq_left Nat.add_left_cancel_iff Nat.add_assoc Nat.reduceSub Nat.reduceAdd Nat.reduceLeDiff Nat.le_refl Nat.zero_le Nat.zero_lt_one Nat.lt_add_one Int.reduceLT Int.reduceLE Int.reduceToNat Nat.reduceLT Nat.reduceBEq Bool.false_eq_true Nat.reduceBNe ne_eq not_false_eq_true not_true_eq_false false_and and_false reduceIte Int.natCast_nonneg reduceCtorEq parts_agg parts_bool parts_int parts_str parts_lit parts_nils parts_sl parts_ptr parts_iface parts_nilp parts_niliface Int.natCast_nonneg Int.natCast_nonneg beq_self_eq_true bne_self_eq_false Bool.true_and Bool.false_and Bool.and_true Bool.and_false Bool.true_or Bool.false_or Bool.or_true Bool.or_false Bool.not_true Bool.not_false
attribute [local go_sem] I ints tenA

def noneV (b : Nat) : List AV := [.iface 33 .nilp, .niliface, .iface 4 (.bool true), .iface 58 (.raw (.float .f64 4609434218613702656)), .iface 60 (.agg [I 5]), .iface 61 (.ptr b 0 0), .iface 23 (ints [1]), .iface 21 (.int .i32 3), .iface 5 (.int .u8 4), .iface 64 (I 0), .iface 21 (.int .i32 120)]
theorem none_kind (b : Nat) : ∀ v ∈ noneV b, ∀ u, T Try.prog 16 [v] u (I 0) u := by
  intro v hv u
  simp only [noneV, List.mem_cons, List.not_mem_nil, or_false] at hv
  rcases hv with rfl | rfl | rfl | rfl | rfl | rfl | rfl | rfl | rfl | rfl | rfl
  · exact kind_nilp u
  · exact kind_none u
  · exact kind_o4 _ u
  · exact kind_o58 _ u
  · exact kind_o60 _ u
  · exact kind_o61 _ u
  · exact kind_o23 _ u
  · exact kind_o21 _ u
  · exact kind_o5 _ u
  · exact kind_o64 _ u
  · exact kind_o21 _ u

/-- What a row of numbers is told of. -/
theorem tells_row (l : List Int) (σ : St) : T Try.prog 28 [.iface 22 (ints l), I 2, tenA [(l.length : Int)] l, .bool (decide ((l.length : Int) ≤ 32))] σ (.bool true) σ := by
  by_cases h : l.length ≤ 32
  · rw [decide_eq_true (show (l.length : Int) ≤ 32 by omega)]
    exact tells_yes _ 2 _ _ σ (kind_row l) fun u _ => (tensor_row (row_yes l h) u).mono fun r t h => h.w
  · rw [decide_eq_false (show ¬ (l.length : Int) ≤ 32 by omega)]
    exact tells_no _ 2 _ _ σ (kind_row l) fun u _ => tensor_row (row_no l (by omega)) u
theorem tells_text (s : ByteArray) (hs : s.size ≤ 2 ^ 20) (σ : St) : T Try.prog 28 [.iface 9 (.str s), I 4, tenA [((runesE s).length : Int)] (runesE s), .bool (decide (((runesE s).length : Int) ≤ 32))] σ (.bool true) σ := by
  by_cases h : (runesE s).length ≤ 32
  · rw [decide_eq_true (show ((runesE s).length : Int) ≤ 32 by omega)]
    exact tells_yes _ 4 _ _ σ (kind_text s) fun u _ => (tensor_text s hs (row_yes _ h) u).mono fun r t h => h.w
  · rw [decide_eq_false (show ¬ ((runesE s).length : Int) ≤ 32 by omega)]
    exact tells_no _ 4 _ _ σ (kind_text s) fun u _ => tensor_text s hs (row_no _ (by omega)) u
theorem tells_tensor (v : AV) (s d : List Int) (σ : St) (hk : ∀ u, T Try.prog 16 [v] u (I 3) u) (hf : ∀ u, Ext σ u → T Try.prog 21 [v] u (tenA s d) u) : T Try.prog 28 [v, I 3, tenA s d, .bool (rightT s d)] σ (.bool true) σ := by
  by_cases h : rightT s d = true
  · rw [h]
    refine tells_yes _ 3 _ _ σ hk fun u hu => (tensor_full v s d hk u fun u' hu' => hf u' (hu.trans hu')).mono fun r t h' => ?_
    rw [if_pos h] at h'; exact h'.w
  · have h : rightT s d = false := by simpa using h
    rw [h]
    refine tells_no _ 3 _ _ σ hk fun u hu => (tensor_full v s d hk u fun u' hu' => hf u' (hu.trans hu')).mono fun r t h' => ?_
    rw [if_neg (by rw [h]; simp)] at h'; exact h'
theorem tells_whole (v : AV) (n : Int) (σ : St) (hk : ∀ u, T Try.prog 16 [v] u (I 1) u) (hw : ∀ u, T Try.prog 19 [v] u (I n) u) : T Try.prog 28 [v, I 1, tenA [] [n], .bool true] σ (.bool true) σ :=
  tells_yes _ 1 _ _ σ hk fun u _ => (tensor_whole v n hk hw u).mono fun r t ⟨h1, h2⟩ => ⟨_, h1, .inl rfl, h2⟩

/-- parquetrylaw3.all -/
theorem all_spec (n : Int) (l : List Int) (str : ByteArray) (s d : List Int) (hl : l.length * 8 ≤ most) (hs : str.size ≤ 2 ^ 20) (σ : St) : T Try.prog 12 [I n, ints l, .str str, tenA s d] σ (.bool true) σ := by
  refine in12 (by simp) fun wf hab => ?_
  clear hab
  unfold c12
  refine .midK (fun L t => L = [(0, I n), (1, ints l), (2, .str str), (7, .ptr σ.next 0 0)] ∧ t.blk σ.next = some (.cells 2 [[ints s, ints d]]) ∧ t.next = σ.next + 1 ∧ Ext σ t) ?_ ?_
  · first | refine .seq (.rg fun A hA K hK => ?_) | refine .seq (.seq (.rg fun A hA K hK => ?_)) | refine .rg fun A hA K hK => ?_ | refine .seq (.rd fun A hA K hK => ?_) | refine .seq (.seq (.rd fun A hA K hK => ?_)) | refine .rd fun A hA K hK => ?_
    simp (maxSteps := 1000000) only [go_sem, hA.nil, hA.go, hA.yes, hA.noT, hA.noF, hA.skp, tenA]
    refine hK _ _ ?_; clear hK K hA A
    exact ⟨_, ⟨rfl, by simp (maxSteps := 1000000) only [go_sem], by simp (maxSteps := 1000000) only [go_sem], ⟨by simp (maxSteps := 1000000) only [go_sem]; try omega, fun b hb => by simp (disch := omega) only [go_sem, if_neg]⟩⟩, by simp (maxSteps := 1000000) only [go_sem]⟩
  rintro L t ⟨rfl, h7, hn, hx⟩
  have n7 : ¬ σ.next = t.next := by omega
  refine .midK (fun L u => L = [(0, I n), (1, ints l), (2, .str str), (7, .ptr σ.next 0 0), (9, .ptr (σ.next + 1) 0 0)] ∧ u.blk σ.next = some (.cells 2 [[ints s, ints d]]) ∧ u.blk (σ.next + 1) = some (.cells 2 [[ints [], ints [n]]]) ∧ u.next = σ.next + 2 ∧ Ext σ u) ?_ ?_
  · first | refine .seq (.rg fun A hA K hK => ?_) | refine .seq (.seq (.rg fun A hA K hK => ?_)) | refine .rg fun A hA K hK => ?_ | refine .seq (.rd fun A hA K hK => ?_) | refine .seq (.seq (.rd fun A hA K hK => ?_)) | refine .rd fun A hA K hK => ?_
    simp (maxSteps := 1000000) only [go_sem, hA.nil, hA.go, hA.yes, hA.noT, hA.noF, hA.skp]
    refine hK _ _ ?_; clear hK K hA A
    exact ⟨_, ⟨rfl, by simp (disch := omega) only [go_sem, if_neg, h7], by rw [← hn]; simp (maxSteps := 1000000) only [go_sem], by simp (maxSteps := 1000000) only [go_sem, hn], ⟨by simp (maxSteps := 1000000) only [go_sem]; omega, fun c hc => by simp (disch := omega) only [go_sem, if_neg, hx.2 c hc]⟩⟩, by simp (maxSteps := 1000000) only [go_sem, hn]⟩
  rintro L u ⟨rfl, u7, u9, un, hxu⟩
  clear h7 hn hx n7
  first | refine .seq (.rg fun A hA K hK => ?_) | refine .seq (.seq (.rg fun A hA K hK => ?_)) | refine .rg fun A hA K hK => ?_ | refine .seq (.rd fun A hA K hK => ?_) | refine .seq (.seq (.rd fun A hA K hK => ?_)) | refine .rd fun A hA K hK => ?_
  simp (maxSteps := 1000000) only [go_sem, hA.nil, hA.go, hA.yes, hA.noT, hA.noF, hA.skp, u7]
  first | refine aopq_call (refTensor_spec s d u) (by simp (maxSteps := 1000000) only [go_sem, u7, tenA]) ?_ | refine aop_call (refTensor_spec s d u) (by simp (maxSteps := 1000000) only [go_sem, u7, tenA]) ?_
  try simp (maxSteps := 1000000) only [go_sem, hA.nil, hA.go, hA.yes, hA.noT, hA.noF, hA.skp, u7, tenA]
  refine hK _ _ ?_; clear hK K hA A
  first | refine .seq (.rg fun A hA K hK => ?_) | refine .seq (.seq (.rg fun A hA K hK => ?_)) | refine .rg fun A hA K hK => ?_ | refine .seq (.rd fun A hA K hK => ?_) | refine .seq (.seq (.rd fun A hA K hK => ?_)) | refine .rd fun A hA K hK => ?_
  simp (maxSteps := 1000000) only [go_sem, hA.nil, hA.go, hA.yes, hA.noT, hA.noF, hA.skp]
  refine hK _ _ ?_; clear hK K hA A
  first | refine .seq (.rg fun A hA K hK => ?_) | refine .seq (.seq (.rg fun A hA K hK => ?_)) | refine .rg fun A hA K hK => ?_ | refine .seq (.rd fun A hA K hK => ?_) | refine .seq (.seq (.rd fun A hA K hK => ?_)) | refine .rd fun A hA K hK => ?_
  simp (maxSteps := 1000000) only [go_sem, hA.nil, hA.go, hA.yes, hA.noT, hA.noF, hA.skp]
  first | refine aopq_call (runes_spec str hs u) (by simp (maxSteps := 1000000) only [go_sem, rA_len]) ?_ | refine aop_call (runes_spec str hs u) (by simp (maxSteps := 1000000) only [go_sem, rA_len]) ?_
  try simp (maxSteps := 1000000) only [go_sem, hA.nil, hA.go, hA.yes, hA.noT, hA.noF, hA.skp, rA_len]
  refine hK _ _ ?_; clear hK K hA A
  first | refine .seq (.rg fun A hA K hK => ?_) | refine .seq (.seq (.rg fun A hA K hK => ?_)) | refine .rg fun A hA K hK => ?_ | refine .seq (.rd fun A hA K hK => ?_) | refine .seq (.seq (.rd fun A hA K hK => ?_)) | refine .rd fun A hA K hK => ?_
  simp (maxSteps := 1000000) only [go_sem, hA.nil, hA.go, hA.yes, hA.noT, hA.noF, hA.skp]
  refine hK _ _ ?_; clear hK K hA A
  refine .keep [(0, I n), (1, ints l), (2, .str str), (7, .ptr σ.next 0 0), (9, .ptr (σ.next + 1) 0 0), (10, .bool (rightT s d)), (11, .bool (decide ((l.length : Int) ≤ 32))), (12, .bool (decide (((runesE str).length : Int) ≤ 32))), (13, .nilp)] (by simp (maxSteps := 1000000) only [go_sem, rA_len]) ?_
  have t1 := tells_whole (.iface 2 (I n)) n u (kind_whole2 n) (whole2 n)
  have t2 := tells_whole (.iface 3 (I n)) n u (kind_whole3 n) (whole3 n)
  have t3 := tells_row l u
  have t4 := tells_text str hs u
  have t5 := tells_tensor (.iface 28 (tenA s d)) s d u (kind_full s d) fun u' _ => full_ten s d u'
  have t6 := tells_tensor (.iface 33 (.ptr σ.next 0 0)) s d u (kind_ptr σ.next) fun u' hu' => full_ptr s d (by rw [hu'.2 _ (by omega)]; exact u7)
  have t29 := row29_spec l hl u
  have t30 := runes30_spec str hs u
  generalize decide ((l.length : Int) ≤ 32) = k1 at t3 ⊢
  generalize decide (((runesE str).length : Int) ≤ 32) = k2 at t4 ⊢
  generalize rightT s d = k3 at t5 t6 ⊢
  generalize runesE str = rs at t4 t30
  first | refine .seq (.rg fun A hA K hK => ?_) | refine .seq (.seq (.rg fun A hA K hK => ?_)) | refine .rg fun A hA K hK => ?_ | refine .seq (.rd fun A hA K hK => ?_) | refine .seq (.seq (.rd fun A hA K hK => ?_)) | refine .rd fun A hA K hK => ?_
  simp (maxSteps := 1000000) only [go_sem, hA.nil, hA.go, hA.yes, hA.noT, hA.noF, hA.skp, u7, u9]
  first | refine aopq_call (t1) (by simp (maxSteps := 1000000) only [go_sem, u7, u9, tenA]) ?_ | refine aop_call (t1) (by simp (maxSteps := 1000000) only [go_sem, u7, u9, tenA]) ?_
  try simp (maxSteps := 1000000) only [go_sem, hA.nil, hA.go, hA.yes, hA.noT, hA.noF, hA.skp, u7, u9, tenA]
  first | refine aopq_call (t2) (by simp (maxSteps := 1000000) only [go_sem, u7, u9, tenA]) ?_ | refine aop_call (t2) (by simp (maxSteps := 1000000) only [go_sem, u7, u9, tenA]) ?_
  try simp (maxSteps := 1000000) only [go_sem, hA.nil, hA.go, hA.yes, hA.noT, hA.noF, hA.skp, u7, u9, tenA]
  first | refine aopq_call (t29) (by simp (maxSteps := 1000000) only [go_sem, u7, u9, tenA]) ?_ | refine aop_call (t29) (by simp (maxSteps := 1000000) only [go_sem, u7, u9, tenA]) ?_
  try simp (maxSteps := 1000000) only [go_sem, hA.nil, hA.go, hA.yes, hA.noT, hA.noF, hA.skp, u7, u9, tenA]
  first | refine aopq_call (t3) (by simp (maxSteps := 1000000) only [go_sem, u7, u9, tenA]) ?_ | refine aop_call (t3) (by simp (maxSteps := 1000000) only [go_sem, u7, u9, tenA]) ?_
  try simp (maxSteps := 1000000) only [go_sem, hA.nil, hA.go, hA.yes, hA.noT, hA.noF, hA.skp, u7, u9, tenA]
  first | refine aopq_call (t30) (by simp (maxSteps := 1000000) only [go_sem, u7, u9, tenA]) ?_ | refine aop_call (t30) (by simp (maxSteps := 1000000) only [go_sem, u7, u9, tenA]) ?_
  try simp (maxSteps := 1000000) only [go_sem, hA.nil, hA.go, hA.yes, hA.noT, hA.noF, hA.skp, u7, u9, tenA]
  first | refine aopq_call (t4) (by simp (maxSteps := 1000000) only [go_sem, u7, u9, tenA]) ?_ | refine aop_call (t4) (by simp (maxSteps := 1000000) only [go_sem, u7, u9, tenA]) ?_
  try simp (maxSteps := 1000000) only [go_sem, hA.nil, hA.go, hA.yes, hA.noT, hA.noF, hA.skp, u7, u9, tenA]
  first | refine aopq_call (t5) (by simp (maxSteps := 1000000) only [go_sem, u7, u9, tenA]) ?_ | refine aop_call (t5) (by simp (maxSteps := 1000000) only [go_sem, u7, u9, tenA]) ?_
  try simp (maxSteps := 1000000) only [go_sem, hA.nil, hA.go, hA.yes, hA.noT, hA.noF, hA.skp, u7, u9, tenA]
  first | refine aopq_call (t6) (by simp (maxSteps := 1000000) only [go_sem, u7, u9, tenA]) ?_ | refine aop_call (t6) (by simp (maxSteps := 1000000) only [go_sem, u7, u9, tenA]) ?_
  try simp (maxSteps := 1000000) only [go_sem, hA.nil, hA.go, hA.yes, hA.noT, hA.noF, hA.skp, u7, u9, tenA]
  refine hK _ _ ?_; clear hK K hA A
  refine .cond (t := false) (by simp (maxSteps := 1000000) only [go_sem]) (fun h => by cases h) (fun _ => .skip ?_)
  clear t1 t2 t3 t4 t5 t6 t29 t30
  refine .keep [(0, I n), (1, ints l), (2, .str str), (7, .ptr σ.next 0 0), (13, .nilp)] (by simp (maxSteps := 1000000) only [go_sem]) ?_
  first | refine .seq (.rg fun A hA K hK => ?_) | refine .seq (.seq (.rg fun A hA K hK => ?_)) | refine .rg fun A hA K hK => ?_ | refine .seq (.rd fun A hA K hK => ?_) | refine .seq (.seq (.rd fun A hA K hK => ?_)) | refine .rd fun A hA K hK => ?_
  simp (maxSteps := 1000000) only [go_sem, hA.nil, hA.go, hA.yes, hA.noT, hA.noF, hA.skp]
  refine hK _ _ ?_; clear hK K hA A
  have hx1 : Ext σ (u.push (.cells 1 [[I 0]])) := ⟨by simp (maxSteps := 1000000) only [go_sem]; omega, fun c hc => by simp (disch := omega) only [go_sem, if_neg, hxu.2 c hc]⟩
  have y7 : (u.push (.cells 1 [[I 0]])).blk σ.next = some (.cells 2 [[ints s, ints d]]) := by simp (disch := omega) only [go_sem, if_neg, u7]
  refine .rangeK (N := 11) (fun i L t => L = [(0, I n), (1, ints l), (2, .str str), (7, .ptr σ.next 0 0), (13, .nilp), (89, .lit 1 ((noneV u.next).map fun v => [v])), (90, I (11 : Nat)), (91, I i)] ∧ t = u.push (.cells 1 [[I 0]])) (by decide) ⟨_, ⟨rfl, rfl⟩, by simp (maxSteps := 1000000) only [go_sem, noneV]; try rfl⟩ ?_ ?_ ?_
  · rintro i L t ⟨rfl, _⟩
    exact ⟨by simp (maxSteps := 1000000) only [go_sem], by simp (maxSteps := 1000000) only [go_sem], rfl⟩
  · rintro i L t hi ⟨rfl, rfl⟩
    have e0 : (i : Int) < 11 := by omega
    have hnl : (noneV u.next).length = 11 := rfl
    have hi' : i < (noneV u.next).length := hi
    have hg := row_get1 hi'
    have hk := none_kind u.next _ (List.getElem_mem hi')
    generalize (noneV u.next)[i] = v at hg hk
    have tn := tells_no v 0 [] [] (u.push (.cells 1 [[I 0]])) hk fun u _ => tensor_none v 0 (.inl rfl) hk u
    first | refine .seq (.rg fun A hA K hK => ?_) | refine .seq (.seq (.rg fun A hA K hK => ?_)) | refine .rg fun A hA K hK => ?_ | refine .seq (.rd fun A hA K hK => ?_) | refine .seq (.seq (.rd fun A hA K hK => ?_)) | refine .rd fun A hA K hK => ?_
    simp (maxSteps := 1000000) only [go_sem, hA.nil, hA.go, hA.yes, hA.noT, hA.noF, hA.skp, e0, hg, hnl, hi]
    refine hK _ _ ?_; clear hK K hA A
    first | refine .seq (.rg fun A hA K hK => ?_) | refine .seq (.seq (.rg fun A hA K hK => ?_)) | refine .rg fun A hA K hK => ?_ | refine .seq (.rd fun A hA K hK => ?_) | refine .seq (.seq (.rd fun A hA K hK => ?_)) | refine .rd fun A hA K hK => ?_
    simp (maxSteps := 1000000) only [go_sem, hA.nil, hA.go, hA.yes, hA.noT, hA.noF, hA.skp]
    first | refine aopq_call (tn) (by simp (maxSteps := 1000000) only [go_sem, tenA]) ?_ | refine aop_call (tn) (by simp (maxSteps := 1000000) only [go_sem, tenA]) ?_
    try simp (maxSteps := 1000000) only [go_sem, hA.nil, hA.go, hA.yes, hA.noT, hA.noF, hA.skp, tenA]
    refine hK _ _ ?_; clear hK K hA A
    refine .cond (t := false) (by simp (maxSteps := 1000000) only [go_sem]) (fun h => by cases h) (fun _ => .skip ?_)
    exact ⟨by simp (maxSteps := 1000000) only [go_sem], _, ⟨rfl, rfl⟩, by simp (maxSteps := 1000000) only [go_sem]; try rfl⟩
  · rintro L t F ⟨rfl, rfl⟩ hf
    refine .keep [(0, I n), (1, ints l), (2, .str str), (7, .ptr σ.next 0 0), (13, .nilp)] (by simp (maxSteps := 1000000) only [go_sem] at hf; simp (maxSteps := 1000000) only [go_sem, hf]) ?_
    clear hf
    generalize u.push (.cells 1 [[I 0]]) = y at hx1 y7 ⊢
    have tc := count_spec [.iface 2 (I n), .iface 3 (I n), .iface 22 (ints l), .iface 28 (tenA s d), .iface 33 (.ptr σ.next 0 0), .iface 9 (.str str), .iface 9 (.str str), .iface 42 (.lit 1 [[.iface 2 (I n)]]), .niliface, .iface 60 (.agg [I 1]), .iface 33 .nilp] [1, 1, 2, 3, 3, 4, 4, 5, 0, 0, 0] rfl (fun i h => by
      have h : i < 11 := h
      rcases i with _ | _ | _ | _ | _ | _ | _ | _ | _ | _ | _ | i
      · exact ⟨by decide, kind_whole2 n⟩
      · exact ⟨by decide, kind_whole3 n⟩
      · exact ⟨by decide, kind_row l⟩
      · exact ⟨by decide, kind_full s d⟩
      · exact ⟨by decide, kind_ptr σ.next⟩
      · exact ⟨by decide, kind_text str⟩
      · exact ⟨by decide, kind_text str⟩
      · exact ⟨by decide, kind_many _⟩
      · exact ⟨by decide, kind_none⟩
      · exact ⟨by decide, kind_o60 _⟩
      · exact ⟨by decide, kind_nilp⟩
      · omega) y
    rw [show cntF [1, 1, 2, 3, 3, 4, 4, 5, 0, 0, 0] = [3, 2, 1, 2, 2, 1] from rfl] at tc
    first | refine .seq (.rg fun A hA K hK => ?_) | refine .seq (.seq (.rg fun A hA K hK => ?_)) | refine .rg fun A hA K hK => ?_ | refine .seq (.rd fun A hA K hK => ?_) | refine .seq (.seq (.rd fun A hA K hK => ?_)) | refine .rd fun A hA K hK => ?_
    simp (maxSteps := 1000000) only [go_sem, hA.nil, hA.go, hA.yes, hA.noT, hA.noF, hA.skp, y7]
    first | refine aopq_call (tc) (by simp (maxSteps := 1000000) only [go_sem, y7, tenA]) ?_ | refine aop_call (tc) (by simp (maxSteps := 1000000) only [go_sem, y7, tenA]) ?_
    try simp (maxSteps := 1000000) only [go_sem, hA.nil, hA.go, hA.yes, hA.noT, hA.noF, hA.skp, y7, tenA]
    refine hK _ _ ?_; clear hK K hA A
    refine .keep [(0, I n), (1, ints l), (16, ints [3, 2, 1, 2, 2, 1])] (by simp (maxSteps := 1000000) only [go_sem]) ?_
    have tm := tells_no (.iface 42 (.lit 1 [[.iface 2 (I n)], [.iface 22 (ints l)]])) 5 [] [] y (kind_many _) fun u _ => tensor_none _ 5 (.inr rfl) (kind_many _) u
    first | refine .seq (.rg fun A hA K hK => ?_) | refine .seq (.seq (.rg fun A hA K hK => ?_)) | refine .rg fun A hA K hK => ?_ | refine .seq (.rd fun A hA K hK => ?_) | refine .seq (.seq (.rd fun A hA K hK => ?_)) | refine .rd fun A hA K hK => ?_
    simp (maxSteps := 1000000) only [go_sem, hA.nil, hA.go, hA.yes, hA.noT, hA.noF, hA.skp]
    first | refine aopq_call (tm) (by simp (maxSteps := 1000000) only [go_sem, tenA]) ?_ | refine aop_call (tm) (by simp (maxSteps := 1000000) only [go_sem, tenA]) ?_
    try simp (maxSteps := 1000000) only [go_sem, hA.nil, hA.go, hA.yes, hA.noT, hA.noF, hA.skp, tenA]
    refine aopq_callT (same14_spec [3, 2, 1, 2, 2, 1] [3, 2, 1, 2, 2, 1] y) (by simp (maxSteps := 1000000) only [go_sem]) ?_
    try simp (maxSteps := 1000000) only [go_sem, hA.nil, hA.go, hA.yes, hA.noT, hA.noF, hA.skp]
    refine hK _ _ ?_; clear hK K hA A
    exact .ret (retB (by simp (maxSteps := 1000000) only [go_sem]) wf hx1.2 (.bool _) ⟨rfl, rfl⟩)
end Go.Proofs.Ytdmbgnppbchgcaa.Av

namespace Go.Proofs.Ytdmbgnppbchgcaa.Av
open Go Go.Av
set_option maxRecDepth 20000
set_option maxHeartbeats 4000000

attribute [local go_sem] step_apply stepD_apply stepE_apply
attribute [local go_sem] aopq_mv aopq_pk aopq_al aopq_bx aopq_bd aopq_bs aopq_ld aopq_st aopq_nc aopq_bin aopq_un aopq_cv aopq_mi aopq_mf aopq_mm aopq_ms aopq_sc aopq_fa aopq_fl aopq_ia aopq_lk aopq_mu aopq_lm aopq_rg aopq_rgs aopq_nxs aopq_msl aop_msl aop_rgs aop_nxs aopq_en aopq_ta aopq_ex aopq_ln aopq_ap aopq_mx aopq.eq_3 aop.eq_1 aop.eq_2 aop.eq_3 aop.eq_4 aop.eq_5 aop.eq_6 aop.eq_7 aop.eq_8 aop.eq_9 aop_bin atS_apply aop_un_not aop_un_neg aop.eq_14 aop.eq_15 aop.eq_16 aop.eq_17 aop.eq_18 aop_sc cutS_apply cutN_apply cutL_apply cutO_apply aop.eq_20 aop.eq_21 aop.eq_22 aop.eq_23 aop.eq_24 aop.eq_25 aop.eq_26 aop.eq_27 aop.eq_28 aop.eq_29 aop.eq_30 aop.eq_31 aop.eq_32 blk_push next_push blk_set next_set blk_kill next_kill frL_nil frL_cons Fits_nil Fits_cons Int.reduceBEq Int.reduceBNe Nat.sub_zero Option.map_some Option.map_none List.set_cons_succ true_or or_true false_or or_false Int.le_refl Int.cast_ofNat_Int decide_true decide_false List.cons_append fillA fillR rowsOf List.replicate_succ List.replicate_zero Nat.zero_mul getD_drop List.length_drop splice List.nil_append List.append_nil cond_true cond_false List.set_cons_zero List.length_set ev put_some put_none upd_apply abin asNat bounds row1 mk List.length_cons List.length_nil List.length_map List.drop_zero List.drop_succ_cons List.drop_nil List.getD_cons_zero List.getD_cons_succ Option.getD_none Option.getD_some List.take_succ_cons List.take_zero List.take_nil true_and and_true Int.toNat_natCast if_true if_false Nat.zero_add Nat.add_zero List.map_cons List.map_nil Nat.reduceEqDiff Nat.left_eq_add Nat.add_eq_left Nat.add_left_cancel_iff Nat.add_assoc Nat.reduceSub Nat.reduceAdd Nat.reduceLeDiff Nat.le_refl Nat.zero_le Nat.zero_lt_one Nat.lt_add_one Int.reduceLT Int.reduceLE Int.reduceToNat Nat.reduceLT Nat.reduceBEq Bool.false_eq_true Nat.reduceBNe ne_eq not_false_eq_true not_true_eq_false false_and and_false reduceIte Int.natCast_nonneg reduceCtorEq parts_agg parts_bool parts_int parts_str parts_lit parts_nils parts_sl parts_ptr parts_iface parts_nilp parts_niliface Int.natCast_nonneg Int.natCast_nonneg beq_self_eq_true bne_self_eq_false Bool.true_and Bool.false_and Bool.and_true Bool.and_false Bool.true_or Bool.false_or Bool.or_true Bool.or_false Bool.not_true Bool.not_false
attribute [local go_sem] I ints tenA

def tab8 : List Int := [1, 2, 3, 4, 5, 0, 7, 2]
/-- Tape.Shape -/
theorem shape_spec {σ : St} {l : List Int} {p bT : Nat} (hb : σ.blk bT = some (tapeB l p)) (hp : p ≤ l.length) (hl : l.length ≤ most) :
    TQ Try.prog 8 [.ptr bT 0 0] σ fun v t => ∃ sh p', v = ints sh ∧ sh.length ≤ 3 ∧ (∀ x ∈ sh, 0 ≤ x ∧ x ≤ 7) ∧ p' ≤ l.length ∧ t.blk bT = some (tapeB l p') ∧ σ.next ≤ t.next ∧ ∀ b, b < σ.next → b ≠ bT → t.blk b = σ.blk b := by
  refine in8 (by simp) fun wf hab => ?_
  clear hab
  have hbT : bT < σ.next := Nat.lt_of_not_le fun h => by rw [wf.1 bT h] at hb; cases hb
  unfold c8
  first | refine .seq (.rg fun A hA K hK => ?_) | refine .seq (.seq (.rg fun A hA K hK => ?_)) | refine .rg fun A hA K hK => ?_ | refine .seq (.rd fun A hA K hK => ?_) | refine .seq (.seq (.rd fun A hA K hK => ?_)) | refine .rd fun A hA K hK => ?_
  simp (maxSteps := 1000000) only [go_sem, hA.nil, hA.go, hA.yes, hA.noT, hA.noF, hA.skp]
  refine hK _ _ ?_; clear hK K hA A
  first | refine .seq (.rg fun A hA K hK => ?_) | refine .seq (.seq (.rg fun A hA K hK => ?_)) | refine .rg fun A hA K hK => ?_ | refine .seq (.rd fun A hA K hK => ?_) | refine .seq (.seq (.rd fun A hA K hK => ?_)) | refine .rd fun A hA K hK => ?_
  simp (maxSteps := 1000000) only [go_sem, hA.nil, hA.go, hA.yes, hA.noT, hA.noF, hA.skp]
  refine hK _ _ ?_; clear hK K hA A
  first | refine .seq (.rg fun A hA K hK => ?_) | refine .seq (.seq (.rg fun A hA K hK => ?_)) | refine .rg fun A hA K hK => ?_ | refine .seq (.rd fun A hA K hK => ?_) | refine .seq (.seq (.rd fun A hA K hK => ?_)) | refine .rd fun A hA K hK => ?_
  simp (maxSteps := 1000000) only [go_sem, hA.nil, hA.go, hA.yes, hA.noT, hA.noF, hA.skp]
  refine aopq_callT (next_ok hb hp hl 4) (by simp (maxSteps := 1000000) only [go_sem]) ?_
  have hn := nxE_in l p 4
  obtain ⟨k0, hk0⟩ := Int.eq_ofNat_of_zero_le hn.1
  have hk3 : k0 ≤ 3 := by have := hn.2.1 (by decide); omega
  rw [hk0]
  have hp1 := nxP_le hp 4
  try simp (maxSteps := 1000000) only [go_sem, hA.nil, hA.go, hA.yes, hA.noT, hA.noF, hA.skp]
  refine hK _ _ ?_; clear hK K hA A
  refine .loopK (fun m L t => ∃ acc v q, L = [(0, .ptr bT 0 0), (3, v), (4, I (m : Nat))] ∧ acc.length + m ≤ 3 ∧ (∀ x ∈ acc, 0 ≤ x ∧ x ≤ 7) ∧ q ≤ l.length ∧ t.blk bT = some (tapeB l q) ∧ σ.next ≤ t.next ∧ (∀ b, b < σ.next → b ≠ bT → t.blk b = σ.blk b) ∧ OwnR σ.next bT t (fun n => [I n]) v acc) k0
    ⟨_, ⟨[], .nils, nxP l p 4, rfl, by simpa using hk3, by simp, hp1, by rw [blk_set, if_pos rfl], by rw [next_set]; exact Nat.le_refl _, fun b hb hne => by rw [blk_set, if_neg hne], .inl ⟨rfl, rfl⟩⟩, by simp (maxSteps := 1000000) only [go_sem]; try rfl⟩ ?_
  clear hp1 hk0 hn
  rintro m L t ⟨acc, v, q, rfl, hm, hin, hq, hbt, hnt, hx, ho⟩
  first | refine .seq (.rg fun A hA K hK => ?_) | refine .seq (.seq (.rg fun A hA K hK => ?_)) | refine .rg fun A hA K hK => ?_ | refine .seq (.rd fun A hA K hK => ?_) | refine .seq (.seq (.rd fun A hA K hK => ?_)) | refine .rd fun A hA K hK => ?_
  simp (maxSteps := 1000000) only [go_sem, hA.nil, hA.go, hA.yes, hA.noT, hA.noF, hA.skp]
  refine hK _ _ ?_; clear hK K hA A
  refine .cond (t := decide ((m : Int) > 0)) (by simp (maxSteps := 1000000) only [go_sem]) (fun ht => .skip ?_) (fun ht => .exit ?_)
  · have hm0 : 0 < m := by have := of_decide_eq_true ht; omega
    refine .seq (.block ?_)
    first | refine .seq (.rg fun A hA K hK => ?_) | refine .seq (.seq (.rg fun A hA K hK => ?_)) | refine .rg fun A hA K hK => ?_ | refine .seq (.rd fun A hA K hK => ?_) | refine .seq (.seq (.rd fun A hA K hK => ?_)) | refine .rd fun A hA K hK => ?_
    simp (maxSteps := 1000000) only [go_sem, hA.nil, hA.go, hA.yes, hA.noT, hA.noF, hA.skp]
    refine aopq_callT (next_ok hbt hq hl 8) (by simp (maxSteps := 1000000) only [go_sem]) ?_
    have hj := nxE_in l q 8
    obtain ⟨j, hj'⟩ := Int.eq_ofNat_of_zero_le hj.1
    have hj8 : j < 8 := by have := hj.2.1 (by decide); omega
    rw [hj']
    have hq1 := nxP_le hq 8
    generalize nxP l q 8 = q1 at hq1
    have hjl : j < tab8.length := hj8
    have hg := ints_get hjl
    have htx : 0 ≤ tab8[j] ∧ tab8[j] ≤ 7 := by
      have : ∀ x ∈ tab8, (0 : Int) ≤ x ∧ x ≤ 7 := by decide
      exact this _ (List.getElem_mem hjl)
    generalize tab8[j] = x at hg htx
    simp only [tab8, List.map_cons, List.map_nil] at hg
    have hj9 : (j : Int) < ((8 : Nat) : Int) := by omega
    have hj10 : (j : Int) < 8 := by omega
    have w1 : IntKind.i64.wrap ((m : Int) - 1) = ((m - 1 : Nat) : Int) := by rw [IntWalk.i64_in _ (by omega)]; omega
    have hin' : ∀ y ∈ acc ++ [x], 0 ≤ y ∧ y ≤ 7 := fun y hy => by
      rcases List.mem_append.1 hy with hy | hy
      · exact hin y hy
      · rw [List.mem_singleton.1 hy]; exact htx
    rcases ho with ⟨rfl, rfl⟩ | ⟨c, rfl, o2, o3, o4, o5⟩
    · have nT : ¬ bT = t.next := by omega
      try simp (maxSteps := 1000000) only [go_sem, hA.nil, hA.go, hA.yes, hA.noT, hA.noF, hA.skp, hg, hj9, hj10]
      refine ⟨by decide, by decide, ?_⟩
      refine hK _ _ ?_; clear hK K hA A
      first | refine .seq (.rg fun A hA K hK => ?_) | refine .seq (.seq (.rg fun A hA K hK => ?_)) | refine .rg fun A hA K hK => ?_ | refine .seq (.rd fun A hA K hK => ?_) | refine .seq (.seq (.rd fun A hA K hK => ?_)) | refine .rd fun A hA K hK => ?_
      simp (maxSteps := 1000000) only [go_sem, hA.nil, hA.go, hA.yes, hA.noT, hA.noF, hA.skp, w1]
      refine hK _ _ ?_; clear hK K hA A
      refine ⟨m - 1, by omega, _, ⟨[x], .sl t.next 0 1, q1, rfl, by simp at hm ⊢; omega, by simpa using hin', hq1, by simp (disch := omega) only [go_sem, if_neg, if_true], by simp (maxSteps := 1000000) only [go_sem]; omega, fun b hb hne => by simp (disch := omega) only [go_sem, if_neg, hx b hb hne], .inr ⟨t.next, rfl, by simp (maxSteps := 1000000) only [go_sem], by omega, by simp (maxSteps := 1000000) only [go_sem], by omega⟩⟩, by simp (maxSteps := 1000000) only [go_sem]⟩
    · have m1 : acc.length + 1 ≤ most := by simp only [most]; omega
      have m2 : (acc.length + 1) * 8 ≤ most := by simp only [most]; omega
      have htk : List.take acc.length (acc.map fun n => [AV.int .i64 n]) = acc.map fun n => [AV.int .i64 n] := List.take_of_length_le (by simp)
      have o5' : ¬ bT = c := fun h => o5 h.symm
      try simp (maxSteps := 1000000) only [go_sem, hA.nil, hA.go, hA.yes, hA.noT, hA.noF, hA.skp, hg, hj9, hj10, o2, o5, m1, m2, htk]
      refine hK _ _ ?_; clear hK K hA A
      first | refine .seq (.rg fun A hA K hK => ?_) | refine .seq (.seq (.rg fun A hA K hK => ?_)) | refine .rg fun A hA K hK => ?_ | refine .seq (.rd fun A hA K hK => ?_) | refine .seq (.seq (.rd fun A hA K hK => ?_)) | refine .rd fun A hA K hK => ?_
      simp (maxSteps := 1000000) only [go_sem, hA.nil, hA.go, hA.yes, hA.noT, hA.noF, hA.skp, w1]
      refine hK _ _ ?_; clear hK K hA A
      refine ⟨m - 1, by omega, _, ⟨acc ++ [x], .sl t.next 0 (acc.length + 1), q1, rfl, by simp; omega, hin', hq1, by simp (disch := omega) only [go_sem, if_neg, if_true], by simp (maxSteps := 1000000) only [go_sem]; omega, fun b hb hne => by simp (disch := omega) only [go_sem, if_neg, hx b hb hne], .inr ⟨t.next, by simp, by simp (disch := omega) only [go_sem, if_neg, if_true, List.map_append], by omega, by simp (maxSteps := 1000000) only [go_sem], by omega⟩⟩, by simp (maxSteps := 1000000) only [go_sem]⟩
  · simp only [thenQ, loopQ, if_true]
    rcases ho with ⟨rfl, rfl⟩ | ⟨c, rfl, o2, o3, o4, o5⟩
    · first | refine .seq (.rg fun A hA K hK => ?_) | refine .seq (.seq (.rg fun A hA K hK => ?_)) | refine .rg fun A hA K hK => ?_ | refine .seq (.rd fun A hA K hK => ?_) | refine .seq (.seq (.rd fun A hA K hK => ?_)) | refine .rd fun A hA K hK => ?_
      simp (maxSteps := 1000000) only [go_sem, hA.nil, hA.go, hA.yes, hA.noT, hA.noF, hA.skp]
      refine hK _ _ ?_; clear hK K hA A
      refine .ent (.lit0 (i := 2) 1 (by simp (maxSteps := 1000000) only [go_sem])) ?_
      exact .ret (retS (by simp (maxSteps := 1000000) only [go_sem]; try rfl) ⟨[], q, rfl, by simp, by simp, hq, hbt, hnt, hx⟩)
    · first | refine .seq (.rg fun A hA K hK => ?_) | refine .seq (.seq (.rg fun A hA K hK => ?_)) | refine .rg fun A hA K hK => ?_ | refine .seq (.rd fun A hA K hK => ?_) | refine .seq (.seq (.rd fun A hA K hK => ?_)) | refine .rd fun A hA K hK => ?_
      simp (maxSteps := 1000000) only [go_sem, hA.nil, hA.go, hA.yes, hA.noT, hA.noF, hA.skp]
      refine hK _ _ ?_; clear hK K hA A
      refine frz 2 (b := c) (n := acc.length) (sz := 1) (rows := acc.map fun n => [I n]) (by simp (maxSteps := 1000000) only [go_sem]) o2 (by simp) ?_
      exact .ret (retS (by simp (maxSteps := 1000000) only [go_sem]; try rfl) ⟨acc, q, rfl, by omega, hin, hq, by rw [blk_kill, if_neg (fun h => o5 h.symm)]; exact hbt, by rw [next_kill]; exact hnt, fun b hb hne => by rw [blk_kill, if_neg (by omega)]; exact hx b hb hne⟩)

theorem shape_right {s : List Int} (h3 : s.length ≤ 3) (hs : ∀ x ∈ s, 0 ≤ x ∧ x ≤ 7) : rightS s = true := by
  have hd : (List.range s.length).all (okDim s) = true := by
    rw [List.all_eq_true]; intro i hi
    have hi : i < s.length := List.mem_range.1 hi
    have := hs _ (List.getElem_mem hi)
    have e : s.getD i 0 = s[i] := by simp [List.getD_eq_getElem?_getD, hi]
    simp only [okDim, Bool.and_eq_true, decide_eq_true_eq]
    rw [e]; omega
  have hp : ∀ l : List Int, (∀ x ∈ l, 0 ≤ x ∧ x ≤ 7) → ∀ a, 0 ≤ a → 0 ≤ l.foldl (fun n x => n * x) a ∧ l.foldl (fun n x => n * x) a ≤ a * 7 ^ l.length := by
    intro l
    induction l with
    | nil => intro _ a ha; simp [ha]
    | cons x l ih =>
      intro h a ha
      have hx := h x (by simp)
      have := ih (fun y hy => h y (by simp [hy])) (a * x) (Int.mul_nonneg ha hx.1)
      rw [List.foldl_cons]
      refine ⟨this.1, Int.le_trans this.2 ?_⟩
      rw [List.length_cons, Int.pow_succ, Int.mul_comm (7 ^ l.length) 7, ← Int.mul_assoc]
      exact Int.mul_le_mul_of_nonneg_right (Int.mul_le_mul_of_nonneg_left hx.2 ha) (Int.pow_nonneg (by decide))
  have h7 := (hp s hs 1 (by decide)).2
  have h8 : (7 : Int) ^ s.length ≤ 7 ^ 3 := by
    rcases (by omega : s.length = 0 ∨ s.length = 1 ∨ s.length = 2 ∨ s.length = 3) with h | h | h | h <;> rw [h] <;> decide
  have h9 : prodI s ≤ 1 * 7 ^ s.length := h7
  rw [rightS, hd, Bool.true_and]
  exact decide_eq_true (by rw [Int.one_mul] at h9; have : (7 : Int) ^ 3 = 343 := rfl; omega)

/-- law3.DatumTells -/
theorem datumTells_spec (n : Int) (l : List Int) (str : ByteArray) (tape rs rd : List Int) (hl : l.length * 8 ≤ most) (σ : St) : T Try.prog 5 [I n, ints l, .str str, ints tape, tenA rs rd] σ (.bool true) σ := by
  refine in5 (by simp) fun wf hab => ?_
  have htl := hab_ints (hab 3 (by simp))
  clear hab
  unfold c5
  refine .midK (fun L t => L = [(0, I n), (1, ints l), (2, .str str), (3, ints tape), (9, .ptr σ.next 0 0)] ∧ t.blk σ.next = some (.cells 2 [[ints rs, ints rd]]) ∧ t.next = σ.next + 1 ∧ Ext σ t) ?_ ?_
  · first | refine .seq (.rg fun A hA K hK => ?_) | refine .seq (.seq (.rg fun A hA K hK => ?_)) | refine .rg fun A hA K hK => ?_ | refine .seq (.rd fun A hA K hK => ?_) | refine .seq (.seq (.rd fun A hA K hK => ?_)) | refine .rd fun A hA K hK => ?_
    simp (maxSteps := 1000000) only [go_sem, hA.nil, hA.go, hA.yes, hA.noT, hA.noF, hA.skp, tenA]
    refine hK _ _ ?_; clear hK K hA A
    exact ⟨_, ⟨rfl, by simp (maxSteps := 1000000) only [go_sem], by simp (maxSteps := 1000000) only [go_sem], ⟨by simp (maxSteps := 1000000) only [go_sem]; try omega, fun b hb => by simp (disch := omega) only [go_sem, if_neg]⟩⟩, by simp (maxSteps := 1000000) only [go_sem]⟩
  rintro L t ⟨rfl, h9, hn, hx⟩
  refine .midK (fun L u => L = [(0, I n), (1, ints l), (2, .str str), (9, .ptr σ.next 0 0), (11, .ptr (σ.next + 1) 0 0)] ∧ u.blk σ.next = some (.cells 2 [[ints rs, ints rd]]) ∧ u.blk (σ.next + 1) = some (tapeB tape 0) ∧ u.next = σ.next + 2 ∧ Ext σ u) ?_ ?_
  · first | refine .seq (.rg fun A hA K hK => ?_) | refine .seq (.seq (.rg fun A hA K hK => ?_)) | refine .rg fun A hA K hK => ?_ | refine .seq (.rd fun A hA K hK => ?_) | refine .seq (.seq (.rd fun A hA K hK => ?_)) | refine .rd fun A hA K hK => ?_
    simp (maxSteps := 1000000) only [go_sem, hA.nil, hA.go, hA.yes, hA.noT, hA.noF, hA.skp]
    refine hK _ _ ?_; clear hK K hA A
    exact ⟨_, ⟨rfl, by simp (disch := omega) only [go_sem, if_neg, h9], by rw [← hn]; simp (maxSteps := 1000000) only [go_sem]; try rfl, by simp (maxSteps := 1000000) only [go_sem, hn], ⟨by simp (maxSteps := 1000000) only [go_sem]; omega, fun c hc => by simp (disch := omega) only [go_sem, if_neg, hx.2 c hc]⟩⟩, by simp (maxSteps := 1000000) only [go_sem, hn]⟩
  rintro L u ⟨rfl, u9, u11, un, hxu⟩
  clear h9 hn hx
  refine .midK (fun L y => ∃ s : ByteArray, L = [(0, I n), (1, ints l), (2, .str s), (9, .ptr σ.next 0 0), (11, .ptr (σ.next + 1) 0 0)] ∧ s.size ≤ 60 ∧ y = u) ?_ ?_
  · by_cases h60 : (str.size : Int) > 60
    · have b1 : (60 : Int) ≤ str.size := by omega
      first | refine .seq (.rg fun A hA K hK => ?_) | refine .seq (.seq (.rg fun A hA K hK => ?_)) | refine .rg fun A hA K hK => ?_ | refine .seq (.rd fun A hA K hK => ?_) | refine .seq (.seq (.rd fun A hA K hK => ?_)) | refine .rd fun A hA K hK => ?_
      simp (maxSteps := 1000000) only [go_sem, hA.nil, hA.go, hA.yes, hA.noT, hA.noF, hA.skp, h60]
      refine hK _ _ ?_; clear hK K hA A
      refine .cond (t := true) (by simp (maxSteps := 1000000) only [go_sem, h60]) (fun _ => ?_) (fun h => by cases h)
      first | refine .seq (.rg fun A hA K hK => ?_) | refine .seq (.seq (.rg fun A hA K hK => ?_)) | refine .rg fun A hA K hK => ?_ | refine .seq (.rd fun A hA K hK => ?_) | refine .seq (.seq (.rd fun A hA K hK => ?_)) | refine .rd fun A hA K hK => ?_
      simp (maxSteps := 1000000) only [go_sem, hA.nil, hA.go, hA.yes, hA.noT, hA.noF, hA.skp, b1, Option.isNone_none]
      refine hK _ _ ?_; clear hK K hA A
      exact ⟨_, ⟨str.extract 0 60, rfl, by rw [ByteArray.size_extract]; omega, rfl⟩, by simp (maxSteps := 1000000) only [go_sem]⟩
    · first | refine .seq (.rg fun A hA K hK => ?_) | refine .seq (.seq (.rg fun A hA K hK => ?_)) | refine .rg fun A hA K hK => ?_ | refine .seq (.rd fun A hA K hK => ?_) | refine .seq (.seq (.rd fun A hA K hK => ?_)) | refine .rd fun A hA K hK => ?_
      simp (maxSteps := 1000000) only [go_sem, hA.nil, hA.go, hA.yes, hA.noT, hA.noF, hA.skp, h60]
      refine hK _ _ ?_; clear hK K hA A
      refine .cond (t := false) (by simp (maxSteps := 1000000) only [go_sem, h60]) (fun h => by cases h) (fun _ => .skip ?_)
      exact ⟨_, ⟨str, rfl, by omega, rfl⟩, by simp (maxSteps := 1000000) only [go_sem]⟩
  rintro L y ⟨s, rfl, hs, rfl⟩
  first | refine .seq (.rg fun A hA K hK => ?_) | refine .seq (.seq (.rg fun A hA K hK => ?_)) | refine .rg fun A hA K hK => ?_ | refine .seq (.rd fun A hA K hK => ?_) | refine .seq (.seq (.rd fun A hA K hK => ?_)) | refine .rd fun A hA K hK => ?_
  simp (maxSteps := 1000000) only [go_sem, hA.nil, hA.go, hA.yes, hA.noT, hA.noF, hA.skp]
  refine aopq_callQ (shape_spec u11 (Nat.zero_le _) htl) (by simp (maxSteps := 1000000) only [go_sem]) ?_
  rintro v t ⟨sh, q, rfl, h3, hin, hq, ht, hnt, hxt⟩
  try simp (maxSteps := 1000000) only [go_sem, hA.nil, hA.go, hA.yes, hA.noT, hA.noF, hA.skp]
  refine aopq_callQ (tensor_spec ht hq htl sh (by omega)) (by simp (maxSteps := 1000000) only [go_sem]) ?_
  rintro v z ⟨data, q2, rfl, hdl, hq2, hz, hnz, hxz⟩
  have z9 : z.blk σ.next = some (.cells 2 [[ints rs, ints rd]]) := by rw [hxz _ (by omega) (by omega), hxt _ (by omega) (by omega)]; exact u9
  try simp (maxSteps := 1000000) only [go_sem, hA.nil, hA.go, hA.yes, hA.noT, hA.noF, hA.skp]
  refine aopq_callT (all_spec n l s sh data hl (by omega) z) (by simp (maxSteps := 1000000) only [go_sem, tenA]) ?_
  try simp (maxSteps := 1000000) only [go_sem, hA.nil, hA.go, hA.yes, hA.noT, hA.noF, hA.skp, z9]
  refine aopq_callT (all_spec n l s rs rd hl (by omega) z) (by simp (maxSteps := 1000000) only [go_sem, tenA]) ?_
  try simp (maxSteps := 1000000) only [go_sem, hA.nil, hA.go, hA.yes, hA.noT, hA.noF, hA.skp, z9]
  first | refine aopq_call (known_spec z) (by simp (maxSteps := 1000000) only [go_sem, z9]) ?_ | refine aop_call (known_spec z) (by simp (maxSteps := 1000000) only [go_sem, z9]) ?_
  try simp (maxSteps := 1000000) only [go_sem, hA.nil, hA.go, hA.yes, hA.noT, hA.noF, hA.skp, z9]
  refine hK _ _ ?_; clear hK K hA A
  exact .ret (retB (by simp (maxSteps := 1000000) only [go_sem]) wf (fun c hc => by rw [hxz _ (by omega) (by omega), hxt _ (by omega) (by omega)]; exact hxu.2 c hc) (.bool _) ⟨rfl, rfl⟩)
end Go.Proofs.Ytdmbgnppbchgcaa.Av

namespace Go.Proofs.Ytdmbgnppbchgcaa.Av
open Go Go.Av
set_option maxRecDepth 20000
set_option maxHeartbeats 4000000

attribute [local go_sem] step_apply stepD_apply stepE_apply
attribute [local go_sem] aopq_mv aopq_pk aopq_al aopq_bx aopq_bd aopq_bs aopq_ld aopq_st aopq_nc aopq_bin aopq_un aopq_cv aopq_mi aopq_mf aopq_mm aopq_ms aopq_sc aopq_fa aopq_fl aopq_ia aopq_lk aopq_mu aopq_lm aopq_rg aopq_rgs aopq_nxs aopq_msl aop_msl aop_rgs aop_nxs aopq_en aopq_ta aopq_ex aopq_ln aopq_ap aopq_mx aopq.eq_3 aop.eq_1 aop.eq_2 aop.eq_3 aop.eq_4 aop.eq_5 aop.eq_6 aop.eq_7 aop.eq_8 aop.eq_9 aop_bin atS_apply aop_un_not aop_un_neg aop.eq_14 aop.eq_15 aop.eq_16 aop.eq_17 aop.eq_18 aop_sc cutS_apply cutN_apply cutL_apply cutO_apply aop.eq_20 aop.eq_21 aop.eq_22 aop.eq_23 aop.eq_24 aop.eq_25 aop.eq_26 aop.eq_27 aop.eq_28 aop.eq_29 aop.eq_30 aop.eq_31 aop.eq_32 blk_push next_push blk_set next_set blk_kill next_kill frL_nil frL_cons Fits_nil Fits_cons Int.reduceBEq Int.reduceBNe Nat.sub_zero Option.map_some Option.map_none List.set_cons_succ true_or or_true false_or or_false Int.le_refl Int.cast_ofNat_Int decide_true decide_false List.cons_append fillA fillR rowsOf List.replicate_succ List.replicate_zero Nat.zero_mul getD_drop List.length_drop splice List.nil_append List.append_nil cond_true cond_false List.set_cons_zero List.length_set ev put_some put_none upd_apply abin asNat bounds row1 mk List.length_cons List.length_nil List.length_map List.drop_zero List.drop_succ_cons List.drop_nil List.getD_cons_zero List.getD_cons_succ Option.getD_none Option.getD_some List.take_succ_cons List.take_zero List.take_nil true_and and_true Int.toNat_natCast if_true if_false Nat.zero_add Nat.add_zero List.map_cons List.map_nil Nat.reduceEqDiff Nat.left_eq_add Nat.add_eq_left Nat.add_left_cancel_iff Nat.add_assoc Nat.reduceSub Nat.reduceAdd Nat.reduceLeDiff Nat.le_refl Nat.zero_le Nat.zero_lt_one Nat.lt_add_one Int.reduceLT Int.reduceLE Int.reduceToNat Nat.reduceLT Nat.reduceBEq Bool.false_eq_true Nat.reduceBNe ne_eq not_false_eq_true not_true_eq_false false_and and_false reduceIte Int.natCast_nonneg reduceCtorEq parts_agg parts_bool parts_int parts_str parts_lit parts_nils parts_sl parts_ptr parts_iface parts_nilp parts_niliface Int.natCast_nonneg Int.natCast_nonneg beq_self_eq_true bne_self_eq_false Bool.true_and Bool.false_and Bool.and_true Bool.and_false Bool.true_or Bool.false_or Bool.or_true Bool.or_false Bool.not_true Bool.not_false
attribute [local go_sem] I ints tenA

/-- So many numbers in a block of the walk's own, whatever they are. -/
def OwnN (m b : Nat) (t : St) (v : AV) (N : Nat) : Prop := (v = ints [] ∧ N = 0) ∨ ∃ (c : Nat) (xs : List Int), v = .sl c 0 N ∧ xs.length = N ∧ t.blk c = some (.cells 1 (xs.map fun n => [I n])) ∧ m ≤ c ∧ c < b
theorem OwnN.frame {m b : Nat} {t u : St} {v : AV} {N : Nat} (h : OwnN m b t v N) (hs : ∀ c, m ≤ c → c < b → u.blk c = t.blk c) : OwnN m b u v N := by
  rcases h with h | ⟨c, xs, h1, h2, h3, h4, h5⟩
  · exact .inl h
  · exact .inr ⟨c, xs, h1, h2, by rw [hs c h4 h5]; exact h3, h4, h5⟩
/-- What is kept, besides what is turned. -/
structure PreC (s0 : St) (b6 k : Nat) (sh data l : List Int) (t : St) : Prop where
  f6 : t.blk b6 = some (.cells 2 [[ints sh, ints data]])
  f7 : t.blk k = some (.cells 1 (l.map fun n => [I n]))
  f8 : t.blk (k + 1) = some (.cells 1 (data.map fun n => [I n]))
  lt : b6 < k
  nx : k + 2 ≤ t.next
  lo : s0.next ≤ k
  ex : Ext s0 t
theorem PreC.ext {s0 : St} {b6 k : Nat} {sh data l : List Int} {t u : St} (h : PreC s0 b6 k sh data l t) (hn : k + 2 ≤ u.next) (hs : ∀ c, c < k + 2 → u.blk c = t.blk c) : PreC s0 b6 k sh data l u := by
  have h1 := h.lt
  have h2 := h.lo
  exact ⟨by rw [hs _ (by omega)]; exact h.f6, by rw [hs _ (by omega)]; exact h.f7, by rw [hs _ (by omega)]; exact h.f8, h.lt, hn, h.lo, ⟨by omega, fun c hc => by rw [hs c (by omega)]; exact h.ex.2 c hc⟩⟩
theorem OwnI.n {m : Nat} {t : St} {v : AV} {l : List Int} (h : OwnI m t v l) : OwnN m t.next t v l.length := by
  rcases h with ⟨h1, h2⟩ | ⟨c, h1, h2, h3, h4⟩
  · exact .inl ⟨by rw [h1, h2], by rw [h2]; rfl⟩
  · exact .inr ⟨c, l, h1, rfl, h2, h3, h4⟩
/-- law3.DatumCopies -/
theorem datumCopies_spec (l tape : List Int) (σ : St) : T Try.prog 3 [ints l, ints tape] σ (.bool true) σ := by
  refine in3 (by simp) fun wf hab => ?_
  have hll := hab_ints (hab 0 (by simp))
  have htl := hab_ints (hab 1 (by simp))
  clear hab
  unfold c3
  refine .seq (.mono (Q := fun ex F t => ex = .normal ∧ Fits F [(0, ints l), (1, ints tape)] ∧ t = σ) ?_ ?_)
  · first | refine .seq (.rg fun A hA K hK => ?_) | refine .seq (.seq (.rg fun A hA K hK => ?_)) | refine .rg fun A hA K hK => ?_ | refine .seq (.rd fun A hA K hK => ?_) | refine .seq (.seq (.rd fun A hA K hK => ?_)) | refine .rd fun A hA K hK => ?_
    simp (maxSteps := 1000000) only [go_sem, hA.nil, hA.go, hA.yes, hA.noT, hA.noF, hA.skp]
    refine hK _ _ ?_; clear hK K hA A
    exact ⟨rfl, by simp (maxSteps := 1000000) only [go_sem], rfl⟩
  rintro ex F t ⟨rfl, hf, rfl⟩
  refine .keep _ hf ?_
  clear hf
  -- a tensor of the tape
  refine .midK (fun L u => L = [(0, ints l), (5, .ptr t.next 0 0)] ∧ u.blk t.next = some (tapeB tape 0) ∧ u.next = t.next + 1 ∧ Ext t u) ?_ ?_
  · first | refine .seq (.rg fun A hA K hK => ?_) | refine .seq (.seq (.rg fun A hA K hK => ?_)) | refine .rg fun A hA K hK => ?_ | refine .seq (.rd fun A hA K hK => ?_) | refine .seq (.seq (.rd fun A hA K hK => ?_)) | refine .rd fun A hA K hK => ?_
    simp (maxSteps := 1000000) only [go_sem, hA.nil, hA.go, hA.yes, hA.noT, hA.noF, hA.skp]
    refine hK _ _ ?_; clear hK K hA A
    exact ⟨_, ⟨rfl, by simp (maxSteps := 1000000) only [go_sem]; try rfl, by simp (maxSteps := 1000000) only [go_sem], ⟨by simp (maxSteps := 1000000) only [go_sem]; omega, fun c hc => by simp (disch := omega) only [go_sem, if_neg]⟩⟩, by simp (maxSteps := 1000000) only [go_sem]⟩
  rintro L u ⟨rfl, h5, hn, hx⟩
  refine .midK (fun L y => ∃ sh data b6, L = [(0, ints l), (6, .ptr b6 0 0)] ∧ rightT sh data = true ∧ y.blk b6 = some (.cells 2 [[ints sh, ints data]]) ∧ b6 < y.next ∧ t.next ≤ b6 ∧ data.length ≤ 4096 ∧ Ext t y) ?_ ?_
  · first | refine .seq (.rg fun A hA K hK => ?_) | refine .seq (.seq (.rg fun A hA K hK => ?_)) | refine .rg fun A hA K hK => ?_ | refine .seq (.rd fun A hA K hK => ?_) | refine .seq (.seq (.rd fun A hA K hK => ?_)) | refine .rd fun A hA K hK => ?_
    simp (maxSteps := 1000000) only [go_sem, hA.nil, hA.go, hA.yes, hA.noT, hA.noF, hA.skp]
    refine aopq_callQ (shape_spec h5 (Nat.zero_le _) htl) (by simp (maxSteps := 1000000) only [go_sem]) ?_
    rintro v t1 ⟨sh, q, rfl, h3, hin, hq, ht1, hn1, hx1⟩
    try simp (maxSteps := 1000000) only [go_sem, hA.nil, hA.go, hA.yes, hA.noT, hA.noF, hA.skp]
    refine aopq_callQ (tensor_spec ht1 hq htl sh (by omega)) (by simp (maxSteps := 1000000) only [go_sem]) ?_
    rintro v z ⟨data, q2, rfl, hdl, hq2, hz, hnz, hxz⟩
    have hr := shape_right h3 hin
    have hsz := sizeE_in sh
    have hrt : rightT sh data = true := by
      simp only [rightT, hr, Bool.true_and, beq_iff_eq]; omega
    try simp (maxSteps := 1000000) only [go_sem, hA.nil, hA.go, hA.yes, hA.noT, hA.noF, hA.skp]
    refine hK _ _ ?_; clear hK K hA A
    exact ⟨_, ⟨sh, data, z.next, rfl, hrt, by simp (maxSteps := 1000000) only [go_sem], by simp (maxSteps := 1000000) only [go_sem], by omega, by omega, ⟨by simp (maxSteps := 1000000) only [go_sem]; omega, fun c hc => by simp (disch := omega) only [go_sem, if_neg, hxz c (show c < t1.next by omega) (show c ≠ t.next by omega), hx1 c (show c < u.next by omega) (show c ≠ t.next by omega), hx.2 c hc]⟩⟩, by simp (maxSteps := 1000000) only [go_sem]⟩
  rintro L y ⟨sh, data, b6, rfl, hrt, y6, k6, n6, hd, hxy⟩
  clear h5 hn hx
  -- a few numbers
  refine .midK (fun L z => ∃ l', L = [(0, ints l'), (6, .ptr b6 0 0)] ∧ l'.length ≤ 20 ∧ z = y) ?_ ?_
  · by_cases h20 : (l.length : Int) > 20
    · have b1 : (20 : Int) ≤ l.length := by omega
      first | refine .seq (.rg fun A hA K hK => ?_) | refine .seq (.seq (.rg fun A hA K hK => ?_)) | refine .rg fun A hA K hK => ?_ | refine .seq (.rd fun A hA K hK => ?_) | refine .seq (.seq (.rd fun A hA K hK => ?_)) | refine .rd fun A hA K hK => ?_
      simp (maxSteps := 1000000) only [go_sem, hA.nil, hA.go, hA.yes, hA.noT, hA.noF, hA.skp, h20]
      refine hK _ _ ?_; clear hK K hA A
      refine .cond (t := true) (by simp (maxSteps := 1000000) only [go_sem, h20]) (fun _ => ?_) (fun h => by cases h)
      first | refine .seq (.rg fun A hA K hK => ?_) | refine .seq (.seq (.rg fun A hA K hK => ?_)) | refine .rg fun A hA K hK => ?_ | refine .seq (.rd fun A hA K hK => ?_) | refine .seq (.seq (.rd fun A hA K hK => ?_)) | refine .rd fun A hA K hK => ?_
      simp (maxSteps := 1000000) only [go_sem, hA.nil, hA.go, hA.yes, hA.noT, hA.noF, hA.skp, b1, Option.isNone_none]
      refine hK _ _ ?_; clear hK K hA A
      exact ⟨_, ⟨l.take 20, rfl, by rw [List.length_take]; omega, rfl⟩, by simp (maxSteps := 1000000) only [go_sem, List.map_take]⟩
    · first | refine .seq (.rg fun A hA K hK => ?_) | refine .seq (.seq (.rg fun A hA K hK => ?_)) | refine .rg fun A hA K hK => ?_ | refine .seq (.rd fun A hA K hK => ?_) | refine .seq (.seq (.rd fun A hA K hK => ?_)) | refine .rd fun A hA K hK => ?_
      simp (maxSteps := 1000000) only [go_sem, hA.nil, hA.go, hA.yes, hA.noT, hA.noF, hA.skp, h20]
      refine hK _ _ ?_; clear hK K hA A
      refine .cond (t := false) (by simp (maxSteps := 1000000) only [go_sem, h20]) (fun h => by cases h) (fun _ => .skip ?_)
      exact ⟨_, ⟨l, rfl, by omega, rfl⟩, by simp (maxSteps := 1000000) only [go_sem]⟩
  rintro L z ⟨l', rfl, hl', rfl⟩
  generalize l' = l at hl'
  clear hll
  have m1 : l.length ≤ most := by simp only [most]; omega
  have m2 : l.length * 8 ≤ most := by simp only [most]; omega
  have m3 : data.length ≤ most := by simp only [most]; omega
  have m4 : data.length * 8 ≤ most := by simp only [most]; omega
  have n6' : ¬ b6 = z.next := by omega
  refine .midK (fun L y => L = [(0, ints l), (6, .ptr b6 0 0), (7, .sl z.next 0 l.length), (8, .sl (z.next + 1) 0 data.length)] ∧ y.blk b6 = some (.cells 2 [[ints sh, ints data]]) ∧ y.blk z.next = some (.cells 1 (l.map fun n => [I n])) ∧ y.blk (z.next + 1) = some (.cells 1 (data.map fun n => [I n])) ∧ y.next = z.next + 2 ∧ Ext t y) ?_ ?_
  · refine .rdx fun A hA K hK => ?_
    simp (maxSteps := 200000) only [go_sem, hA.nil, hA.pur, hA.go, hA.yes, hA.noT, hA.noF, hA.skp, pure_mv, eff_mv, pure_pk, eff_pk, pure_al, eff_al, pure_bx, eff_bx, pure_bd, eff_bd, pure_bs, eff_bs, pure_ld, eff_ld, pure_st, eff_st, pure_nc, eff_nc, pure_bin, eff_bin, pure_un, eff_un, pure_cv, eff_cv, pure_mi, eff_mi, pure_mf, eff_mf, pure_mm, eff_mm, pure_ms, eff_ms, pure_msl, eff_msl, pure_sc, eff_sc, pure_fa, eff_fa, pure_fl, eff_fl, pure_ia, eff_ia, pure_lk, eff_lk, pure_mu, eff_mu, pure_lm, eff_lm, pure_rg, eff_rg, pure_nx, eff_nx, pure_en, eff_en, pure_ta, eff_ta, pure_ex, eff_ex, pure_ln, eff_ln, pure_ap, eff_ap, pure_mx, eff_mx, pure_call, eff_call, pure_callv, eff_callv, chk_nil, chk_cons, again, List.contains_cons, List.contains_nil, m1, m2, m3, m4, y6, n6']
    refine hK _ _ ?_; clear hK K hA A
    refine ⟨_, ⟨rfl, by simp (disch := omega) only [go_sem, if_neg, y6], by simp (disch := omega) only [go_sem, if_neg, if_true], by simp (maxSteps := 1000000) only [go_sem], by simp (maxSteps := 1000000) only [go_sem], ⟨by simp (maxSteps := 1000000) only [go_sem]; have := hxy.1; omega, fun c hc => by have := hxy.1; simp (disch := omega) only [go_sem, if_neg, hxy.2 c hc]⟩⟩, by simp (maxSteps := 1000000) only [go_sem]⟩
  rintro L y ⟨rfl, w6, w7, w8, yn, hxw⟩
  have pre : PreC t b6 z.next sh data l y := ⟨w6, w7, w8, k6, by omega, by omega, hxw⟩
  clear m1 m2 m3 m4 n6' w6 w7 w8 hxw y6 hxy
  generalize z.next = k at *
  have hlk := pre.lo
  have h6k := pre.lt
  clear n6 k6
  -- its tensor
  refine .midK (fun L u => ∃ b9 bU, L = [(0, ints l), (6, .ptr b6 0 0), (7, .sl k 0 l.length), (8, .sl (k + 1) 0 data.length), (9, .ptr b9 0 0), (10, .bool true)] ∧ PreC t b6 k sh data l u ∧ u.blk b9 = some (.cells 2 [[ints [(l.length : Int)], bU]]) ∧ OwnN (k + 2) b9 u bU l.length ∧ k + 2 ≤ b9 ∧ b9 < u.next) ?_ ?_
  · first | refine .seq (.rg fun A hA K hK => ?_) | refine .seq (.seq (.rg fun A hA K hK => ?_)) | refine .rg fun A hA K hK => ?_ | refine .seq (.rd fun A hA K hK => ?_) | refine .seq (.seq (.rd fun A hA K hK => ?_)) | refine .rd fun A hA K hK => ?_
    simp (maxSteps := 1000000) only [go_sem, hA.nil, hA.go, hA.yes, hA.noT, hA.noF, hA.skp]
    refine aopq_callQ (tensor_row (row_yes l (by omega)) y) (by simp (maxSteps := 1000000) only [go_sem]) ?_
    rintro r u ⟨bU, rfl, ho, hxu⟩
    have hun := hxu.1
    try simp (maxSteps := 1000000) only [go_sem, hA.nil, hA.go, hA.yes, hA.noT, hA.noF, hA.skp]
    refine hK _ _ ?_; clear hK K hA A
    refine ⟨_, ⟨u.next, bU, rfl, pre.ext (by simp (maxSteps := 1000000) only [go_sem]; omega) fun c hc => by simp (disch := omega) only [go_sem, if_neg, hxu.2 c (show c < y.next by omega)], by simp (maxSteps := 1000000) only [go_sem], ?_, by omega, by simp (maxSteps := 1000000) only [go_sem]⟩, by simp (maxSteps := 1000000) only [go_sem]⟩
    have := ho.n
    rw [yn] at this
    exact this.frame fun c h1 h2 => by simp (disch := omega) only [go_sem, if_neg]
  clear pre yn
  rintro L u ⟨b9, bU, rfl, pre, u9, uo, n9, l9⟩
  -- the tensor's own
  refine .midK (fun L z => ∃ b11 bW, L = [(0, ints l), (6, .ptr b6 0 0), (7, .sl k 0 l.length), (8, .sl (k + 1) 0 data.length), (9, .ptr b9 0 0), (10, .bool true), (11, .ptr b11 0 0), (12, .bool true)] ∧ PreC t b6 k sh data l z ∧ z.blk b9 = some (.cells 2 [[ints [(l.length : Int)], bU]]) ∧ OwnN (k + 2) b9 z bU l.length ∧
      z.blk b11 = some (.cells 2 [[ints sh, bW]]) ∧ OwnN (b9 + 1) b11 z bW data.length ∧ b9 < b11 ∧ b11 < z.next) ?_ ?_
  · have ht := tensor_full (.iface 33 (.ptr b6 0 0)) sh data (kind_ptr b6) u fun u' hu' => full_ptr sh data (by rw [hu'.2 b6 (by have := pre.nx; omega)]; exact pre.f6)
    rw [if_pos hrt] at ht
    first | refine .seq (.rg fun A hA K hK => ?_) | refine .seq (.seq (.rg fun A hA K hK => ?_)) | refine .rg fun A hA K hK => ?_ | refine .seq (.rd fun A hA K hK => ?_) | refine .seq (.seq (.rd fun A hA K hK => ?_)) | refine .rd fun A hA K hK => ?_
    simp (maxSteps := 1000000) only [go_sem, hA.nil, hA.go, hA.yes, hA.noT, hA.noF, hA.skp]
    refine aopq_callQ (ht) (by simp (maxSteps := 1000000) only [go_sem]) ?_
    rintro r z ⟨bW, rfl, ho, hxz⟩
    have hzn := hxz.1
    have hun := pre.nx
    try simp (maxSteps := 1000000) only [go_sem, hA.nil, hA.go, hA.yes, hA.noT, hA.noF, hA.skp]
    refine hK _ _ ?_; clear hK K hA A
    refine ⟨_, ⟨z.next, bW, rfl, pre.ext (by simp (maxSteps := 1000000) only [go_sem]; omega) fun c hc => by simp (disch := omega) only [go_sem, if_neg, hxz.2 c (show c < u.next by omega)], by simp (disch := omega) only [go_sem, if_neg, hxz.2 b9 l9, u9], uo.frame fun c h1 h2 => by simp (disch := omega) only [go_sem, if_neg, hxz.2 c (show c < u.next by omega)], by simp (maxSteps := 1000000) only [go_sem], ?_, by omega, by simp (maxSteps := 1000000) only [go_sem]⟩, by simp (maxSteps := 1000000) only [go_sem]⟩
    have hon : OwnN (b9 + 1) z.next z bW data.length := by
      rcases ho.n with h | ⟨c, xs, h1, h2, h3, h4, h5⟩
      · exact .inl h
      · exact .inr ⟨c, xs, h1, h2, h3, by omega, h5⟩
    exact hon.frame fun c h1 h2 => by simp (disch := omega) only [go_sem, if_neg]
  clear pre u9 uo l9
  rintro L z ⟨b11, bW, rfl, pre, z9, zo, z11, zw, n11, l11⟩
  -- one's numbers are turned
  refine .midK (fun L z => L = [(0, ints l), (6, .ptr b6 0 0), (7, .sl k 0 l.length), (8, .sl (k + 1) 0 data.length), (9, .ptr b9 0 0), (10, .bool true), (11, .ptr b11 0 0), (12, .bool true)] ∧ PreC t b6 k sh data l z ∧ z.blk b9 = some (.cells 2 [[ints [(l.length : Int)], bU]]) ∧ OwnN (k + 2) b9 z bU l.length ∧
      z.blk b11 = some (.cells 2 [[ints sh, bW]]) ∧ OwnN (b9 + 1) b11 z bW data.length ∧ b11 < z.next) ?_ ?_
  · refine .midK (fun L u => L = [(0, ints l), (6, .ptr b6 0 0), (7, .sl k 0 l.length), (8, .sl (k + 1) 0 data.length), (9, .ptr b9 0 0), (10, .bool true), (11, .ptr b11 0 0), (12, .bool true), (47, I l.length), (48, I (0 : Nat))] ∧ u = z) ?_ ?_
    · rcases zo with ⟨rfl, h2⟩ | ⟨c, xs, rfl, h2, h3, h4, h5⟩
      · first | refine .seq (.rg fun A hA K hK => ?_) | refine .seq (.seq (.rg fun A hA K hK => ?_)) | refine .rg fun A hA K hK => ?_ | refine .seq (.rd fun A hA K hK => ?_) | refine .seq (.seq (.rd fun A hA K hK => ?_)) | refine .rd fun A hA K hK => ?_
        simp (maxSteps := 1000000) only [go_sem, hA.nil, hA.go, hA.yes, hA.noT, hA.noF, hA.skp, z9]
        refine hK _ _ ?_; clear hK K hA A
        exact ⟨_, ⟨rfl, rfl⟩, by simp (maxSteps := 1000000) only [go_sem, h2]⟩
      · first | refine .seq (.rg fun A hA K hK => ?_) | refine .seq (.seq (.rg fun A hA K hK => ?_)) | refine .rg fun A hA K hK => ?_ | refine .seq (.rd fun A hA K hK => ?_) | refine .seq (.seq (.rd fun A hA K hK => ?_)) | refine .rd fun A hA K hK => ?_
        simp (maxSteps := 1000000) only [go_sem, hA.nil, hA.go, hA.yes, hA.noT, hA.noF, hA.skp, z9, h3]
        refine hK _ _ ?_; clear hK K hA A
        exact ⟨_, ⟨rfl, rfl⟩, by simp (maxSteps := 1000000) only [go_sem]⟩
    rintro L u ⟨rfl, rfl⟩
    refine .rangeK (N := l.length) (fun i L z => L = [(0, ints l), (6, .ptr b6 0 0), (7, .sl k 0 l.length), (8, .sl (k + 1) 0 data.length), (9, .ptr b9 0 0), (10, .bool true), (11, .ptr b11 0 0), (12, .bool true), (47, I l.length), (48, I i)] ∧ PreC t b6 k sh data l z ∧ z.blk b9 = some (.cells 2 [[ints [(l.length : Int)], bU]]) ∧ OwnN (k + 2) b9 z bU l.length ∧
      z.blk b11 = some (.cells 2 [[ints sh, bW]]) ∧ OwnN (b9 + 1) b11 z bW data.length ∧ b11 < z.next) (by simp only [most]; omega) ⟨_, ⟨rfl, pre, z9, zo, z11, zw, l11⟩, by simp (maxSteps := 1000000) only [go_sem]; try rfl⟩ ?_ ?_ ?_
    · rintro i L z ⟨rfl, _⟩
      exact ⟨by simp (maxSteps := 1000000) only [go_sem], by simp (maxSteps := 1000000) only [go_sem], rfl⟩
    · clear pre z9 zo z11 zw l11
      rintro i L z hi ⟨rfl, pre, z9, zo, z11, zw, l11⟩
      have e0 : (i : Int) < l.length := by omega
      have zn := pre.nx
      rcases zo with ⟨_, h2⟩ | ⟨c, xs, rfl, h2, h3, h4, h5⟩
      · omega
      have hix : i < xs.length := by omega
      have hg := ints_get hix
      have n9c : ¬ b9 = c := by omega
      first | refine .seq (.rg fun A hA K hK => ?_) | refine .seq (.seq (.rg fun A hA K hK => ?_)) | refine .rg fun A hA K hK => ?_ | refine .seq (.rd fun A hA K hK => ?_) | refine .seq (.seq (.rd fun A hA K hK => ?_)) | refine .rd fun A hA K hK => ?_
      simp (maxSteps := 1000000) only [go_sem, hA.nil, hA.go, hA.yes, hA.noT, hA.noF, hA.skp]
      refine hK _ _ ?_; clear hK K hA A
      first | refine .seq (.rg fun A hA K hK => ?_) | refine .seq (.seq (.rg fun A hA K hK => ?_)) | refine .rg fun A hA K hK => ?_ | refine .seq (.rd fun A hA K hK => ?_) | refine .seq (.seq (.rd fun A hA K hK => ?_)) | refine .rd fun A hA K hK => ?_
      simp (maxSteps := 1000000) only [go_sem, hA.nil, hA.go, hA.yes, hA.noT, hA.noF, hA.skp, z9, h3, e0, hg, hi, hix, regs_set]
      refine hK _ _ ?_; clear hK K hA A
      refine ⟨by simp (maxSteps := 1000000) only [go_sem], _, ⟨rfl, pre.ext (by simp (maxSteps := 1000000) only [go_sem]; omega) fun b hb => by simp (disch := omega) only [go_sem, if_neg], by simp (disch := omega) only [go_sem, if_neg, z9], .inr ⟨c, xs.set i (IntKind.i64.wrap (xs[i] + 1)), rfl, by rw [List.length_set]; exact h2, by rw [blk_set, if_pos rfl], h4, h5⟩, by simp (disch := omega) only [go_sem, if_neg, z11], zw.frame fun b hb hb' => by simp (disch := omega) only [go_sem, if_neg], by simp (maxSteps := 1000000) only [go_sem]; omega⟩, by simp (maxSteps := 1000000) only [go_sem]; try rfl⟩
    · rintro L z F ⟨rfl, pre, z9, zo, z11, zw, l11⟩ hf
      simp (maxSteps := 1000000) only [go_sem] at hf
      exact ⟨_, ⟨rfl, pre, z9, zo, z11, zw, l11⟩, by simp (maxSteps := 1000000) only [go_sem, hf]⟩
  clear pre z9 zo z11 zw l11
  rintro L z ⟨rfl, pre, z9, zo, z11, zw, l11⟩
  -- the other one's
  refine .midK (fun L z => L = [(0, ints l), (6, .ptr b6 0 0), (7, .sl k 0 l.length), (8, .sl (k + 1) 0 data.length), (9, .ptr b9 0 0), (10, .bool true), (11, .ptr b11 0 0), (12, .bool true)] ∧ PreC t b6 k sh data l z ∧ z.blk b9 = some (.cells 2 [[ints [(l.length : Int)], bU]]) ∧ OwnN (k + 2) b9 z bU l.length ∧
      z.blk b11 = some (.cells 2 [[ints sh, bW]]) ∧ OwnN (b9 + 1) b11 z bW data.length ∧ b11 < z.next) ?_ ?_
  · refine .midK (fun L u => L = [(0, ints l), (6, .ptr b6 0 0), (7, .sl k 0 l.length), (8, .sl (k + 1) 0 data.length), (9, .ptr b9 0 0), (10, .bool true), (11, .ptr b11 0 0), (12, .bool true), (61, I data.length), (62, I (0 : Nat))] ∧ u = z) ?_ ?_
    · rcases zw with ⟨rfl, h2⟩ | ⟨c, xs, rfl, h2, h3, h4, h5⟩
      · first | refine .seq (.rg fun A hA K hK => ?_) | refine .seq (.seq (.rg fun A hA K hK => ?_)) | refine .rg fun A hA K hK => ?_ | refine .seq (.rd fun A hA K hK => ?_) | refine .seq (.seq (.rd fun A hA K hK => ?_)) | refine .rd fun A hA K hK => ?_
        simp (maxSteps := 1000000) only [go_sem, hA.nil, hA.go, hA.yes, hA.noT, hA.noF, hA.skp, z11]
        refine hK _ _ ?_; clear hK K hA A
        exact ⟨_, ⟨rfl, rfl⟩, by simp (maxSteps := 1000000) only [go_sem, h2]⟩
      · first | refine .seq (.rg fun A hA K hK => ?_) | refine .seq (.seq (.rg fun A hA K hK => ?_)) | refine .rg fun A hA K hK => ?_ | refine .seq (.rd fun A hA K hK => ?_) | refine .seq (.seq (.rd fun A hA K hK => ?_)) | refine .rd fun A hA K hK => ?_
        simp (maxSteps := 1000000) only [go_sem, hA.nil, hA.go, hA.yes, hA.noT, hA.noF, hA.skp, z11, h3]
        refine hK _ _ ?_; clear hK K hA A
        exact ⟨_, ⟨rfl, rfl⟩, by simp (maxSteps := 1000000) only [go_sem]⟩
    rintro L u ⟨rfl, rfl⟩
    refine .rangeK (N := data.length) (fun i L z => L = [(0, ints l), (6, .ptr b6 0 0), (7, .sl k 0 l.length), (8, .sl (k + 1) 0 data.length), (9, .ptr b9 0 0), (10, .bool true), (11, .ptr b11 0 0), (12, .bool true), (61, I data.length), (62, I i)] ∧ PreC t b6 k sh data l z ∧ z.blk b9 = some (.cells 2 [[ints [(l.length : Int)], bU]]) ∧ OwnN (k + 2) b9 z bU l.length ∧
      z.blk b11 = some (.cells 2 [[ints sh, bW]]) ∧ OwnN (b9 + 1) b11 z bW data.length ∧ b11 < z.next) (by simp only [most]; omega) ⟨_, ⟨rfl, pre, z9, zo, z11, zw, l11⟩, by simp (maxSteps := 1000000) only [go_sem]; try rfl⟩ ?_ ?_ ?_
    · rintro i L z ⟨rfl, _⟩
      exact ⟨by simp (maxSteps := 1000000) only [go_sem], by simp (maxSteps := 1000000) only [go_sem], rfl⟩
    · clear pre z9 zo z11 zw l11
      rintro i L z hi ⟨rfl, pre, z9, zo, z11, zw, l11⟩
      have e0 : (i : Int) < data.length := by omega
      have zn := pre.nx
      rcases zw with ⟨_, h2⟩ | ⟨c, xs, rfl, h2, h3, h4, h5⟩
      · omega
      have hix : i < xs.length := by omega
      have hg := ints_get hix
      have n9c : ¬ b11 = c := by omega
      first | refine .seq (.rg fun A hA K hK => ?_) | refine .seq (.seq (.rg fun A hA K hK => ?_)) | refine .rg fun A hA K hK => ?_ | refine .seq (.rd fun A hA K hK => ?_) | refine .seq (.seq (.rd fun A hA K hK => ?_)) | refine .rd fun A hA K hK => ?_
      simp (maxSteps := 1000000) only [go_sem, hA.nil, hA.go, hA.yes, hA.noT, hA.noF, hA.skp]
      refine hK _ _ ?_; clear hK K hA A
      first | refine .seq (.rg fun A hA K hK => ?_) | refine .seq (.seq (.rg fun A hA K hK => ?_)) | refine .rg fun A hA K hK => ?_ | refine .seq (.rd fun A hA K hK => ?_) | refine .seq (.seq (.rd fun A hA K hK => ?_)) | refine .rd fun A hA K hK => ?_
      simp (maxSteps := 1000000) only [go_sem, hA.nil, hA.go, hA.yes, hA.noT, hA.noF, hA.skp, z11, h3, e0, hg, hi, hix, regs_set]
      refine hK _ _ ?_; clear hK K hA A
      refine ⟨by simp (maxSteps := 1000000) only [go_sem], _, ⟨rfl, pre.ext (by simp (maxSteps := 1000000) only [go_sem]; omega) fun b hb => by simp (disch := omega) only [go_sem, if_neg], by simp (disch := omega) only [go_sem, if_neg, z9], zo.frame fun b hb hb' => by simp (disch := omega) only [go_sem, if_neg], by simp (disch := omega) only [go_sem, if_neg, z11], .inr ⟨c, xs.set i (IntKind.i64.wrap (xs[i] + 1)), rfl, by rw [List.length_set]; exact h2, by rw [blk_set, if_pos rfl], h4, h5⟩, by simp (maxSteps := 1000000) only [go_sem]; omega⟩, by simp (maxSteps := 1000000) only [go_sem]; try rfl⟩
    · rintro L z F ⟨rfl, pre, z9, zo, z11, zw, l11⟩ hf
      simp (maxSteps := 1000000) only [go_sem] at hf
      exact ⟨_, ⟨rfl, pre, z9, zo, z11, zw, l11⟩, by simp (maxSteps := 1000000) only [go_sem, hf]⟩
  clear pre z9 zo z11 zw l11
  rintro L z ⟨rfl, pre, z9, zo, z11, zw, l11⟩
  -- what was copied ahead is the same yet
  have zn := pre.nx
  refine frz 7 (b := k) (n := l.length) (sz := 1) (rows := l.map fun n => [I n]) (by simp (maxSteps := 1000000) only [go_sem]) pre.f7 (by simp) ?_
  refine frz 8 (b := k + 1) (n := data.length) (sz := 1) (rows := data.map fun n => [I n]) (by simp (maxSteps := 1000000) only [go_sem]) (by rw [blk_kill, if_neg (by omega)]; exact pre.f8) (by simp) ?_
  have y6 : ((z.kill k).kill (k + 1)).blk b6 = some (.cells 2 [[ints sh, ints data]]) := by rw [blk_kill, if_neg (by omega), blk_kill, if_neg (by omega)]; exact pre.f6
  have y9 : ((z.kill k).kill (k + 1)).blk b9 = some (.cells 2 [[ints [(l.length : Int)], bU]]) := by rw [blk_kill, if_neg (by omega), blk_kill, if_neg (by omega)]; exact z9
  have y11 : ((z.kill k).kill (k + 1)).blk b11 = some (.cells 2 [[ints sh, bW]]) := by rw [blk_kill, if_neg (by omega), blk_kill, if_neg (by omega)]; exact z11
  have yo : OwnN (k + 2) b9 ((z.kill k).kill (k + 1)) bU l.length := zo.frame fun c h1 h2 => by rw [blk_kill, if_neg (by omega), blk_kill, if_neg (by omega)]
  have yw : OwnN (b9 + 1) b11 ((z.kill k).kill (k + 1)) bW data.length := zw.frame fun c h1 h2 => by rw [blk_kill, if_neg (by omega), blk_kill, if_neg (by omega)]
  have yx : ∀ c, c < t.next → ((z.kill k).kill (k + 1)).blk c = t.blk c := fun c hc => by rw [blk_kill, if_neg (by omega), blk_kill, if_neg (by omega)]; exact pre.ex.2 c hc
  generalize (z.kill k).kill (k + 1) = y at y6 y9 y11 yo yw yx ⊢
  refine .keep [(0, ints l), (6, .ptr b6 0 0), (7, ints l), (8, ints data), (9, .ptr b9 0 0), (10, .bool true), (11, .ptr b11 0 0), (12, .bool true)] (by simp (maxSteps := 1000000) only [go_sem]) ?_
  have s1 := same10_spec l l y
  have s2 := same10_spec data data y
  have bl : ((l.length : Int) == l.length) = true := by simp
  have bd : ((data.length : Int) == data.length) = true := by simp
  rw [beq_self_eq_true] at s1 s2
  rcases yo with ⟨rfl, h2⟩ | ⟨c, xs, rfl, h2, h3, h4, h5⟩ <;> rcases yw with ⟨rfl, g2⟩ | ⟨c', xs', rfl, g2, g3, g4, g5⟩
  · have bl : ((0 : Int) == l.length) = true := by rw [h2]; rfl
    have bd : ((0 : Int) == data.length) = true := by rw [g2]; rfl
    first | refine .seq (.rg fun A hA K hK => ?_) | refine .seq (.seq (.rg fun A hA K hK => ?_)) | refine .rg fun A hA K hK => ?_ | refine .seq (.rd fun A hA K hK => ?_) | refine .seq (.seq (.rd fun A hA K hK => ?_)) | refine .rd fun A hA K hK => ?_
    simp (maxSteps := 1000000) only [go_sem, hA.nil, hA.go, hA.yes, hA.noT, hA.noF, hA.skp, y6, y9, y11, bl, bd]
    refine aopq_callT s1 (by simp (maxSteps := 1000000) only [go_sem]) ?_
    try simp (maxSteps := 1000000) only [go_sem, hA.nil, hA.go, hA.yes, hA.noT, hA.noF, hA.skp, y6, y9, y11, bl, bd]
    refine aopq_callT s2 (by simp (maxSteps := 1000000) only [go_sem]) ?_
    try simp (maxSteps := 1000000) only [go_sem, hA.nil, hA.go, hA.yes, hA.noT, hA.noF, hA.skp, y6, y9, y11, bl, bd]
    first | refine aopq_call (known_spec y) (by simp (maxSteps := 1000000) only [go_sem, y6, y9, y11]) ?_ | refine aop_call (known_spec y) (by simp (maxSteps := 1000000) only [go_sem, y6, y9, y11]) ?_
    try simp (maxSteps := 1000000) only [go_sem, hA.nil, hA.go, hA.yes, hA.noT, hA.noF, hA.skp, y6, y9, y11]
    refine hK _ _ ?_; clear hK K hA A
    exact .ret (retB (by simp (maxSteps := 1000000) only [go_sem]) wf yx (.bool _) ⟨rfl, rfl⟩)
  · have bl : ((0 : Int) == l.length) = true := by rw [h2]; rfl
    first | refine .seq (.rg fun A hA K hK => ?_) | refine .seq (.seq (.rg fun A hA K hK => ?_)) | refine .rg fun A hA K hK => ?_ | refine .seq (.rd fun A hA K hK => ?_) | refine .seq (.seq (.rd fun A hA K hK => ?_)) | refine .rd fun A hA K hK => ?_
    simp (maxSteps := 1000000) only [go_sem, hA.nil, hA.go, hA.yes, hA.noT, hA.noF, hA.skp, y6, y9, y11, bl, bd, g3]
    refine aopq_callT s1 (by simp (maxSteps := 1000000) only [go_sem]) ?_
    try simp (maxSteps := 1000000) only [go_sem, hA.nil, hA.go, hA.yes, hA.noT, hA.noF, hA.skp, y6, y9, y11, bl, bd]
    refine aopq_callT s2 (by simp (maxSteps := 1000000) only [go_sem]) ?_
    try simp (maxSteps := 1000000) only [go_sem, hA.nil, hA.go, hA.yes, hA.noT, hA.noF, hA.skp, y6, y9, y11, bl, bd]
    first | refine aopq_call (known_spec y) (by simp (maxSteps := 1000000) only [go_sem, y6, y9, y11]) ?_ | refine aop_call (known_spec y) (by simp (maxSteps := 1000000) only [go_sem, y6, y9, y11]) ?_
    try simp (maxSteps := 1000000) only [go_sem, hA.nil, hA.go, hA.yes, hA.noT, hA.noF, hA.skp, y6, y9, y11]
    refine hK _ _ ?_; clear hK K hA A
    exact .ret (retB (by simp (maxSteps := 1000000) only [go_sem]) wf yx (.bool _) ⟨rfl, rfl⟩)
  · have bd : ((0 : Int) == data.length) = true := by rw [g2]; rfl
    first | refine .seq (.rg fun A hA K hK => ?_) | refine .seq (.seq (.rg fun A hA K hK => ?_)) | refine .rg fun A hA K hK => ?_ | refine .seq (.rd fun A hA K hK => ?_) | refine .seq (.seq (.rd fun A hA K hK => ?_)) | refine .rd fun A hA K hK => ?_
    simp (maxSteps := 1000000) only [go_sem, hA.nil, hA.go, hA.yes, hA.noT, hA.noF, hA.skp, y6, y9, y11, bl, bd, h3]
    refine aopq_callT s1 (by simp (maxSteps := 1000000) only [go_sem]) ?_
    try simp (maxSteps := 1000000) only [go_sem, hA.nil, hA.go, hA.yes, hA.noT, hA.noF, hA.skp, y6, y9, y11, bl, bd]
    refine aopq_callT s2 (by simp (maxSteps := 1000000) only [go_sem]) ?_
    try simp (maxSteps := 1000000) only [go_sem, hA.nil, hA.go, hA.yes, hA.noT, hA.noF, hA.skp, y6, y9, y11, bl, bd]
    first | refine aopq_call (known_spec y) (by simp (maxSteps := 1000000) only [go_sem, y6, y9, y11]) ?_ | refine aop_call (known_spec y) (by simp (maxSteps := 1000000) only [go_sem, y6, y9, y11]) ?_
    try simp (maxSteps := 1000000) only [go_sem, hA.nil, hA.go, hA.yes, hA.noT, hA.noF, hA.skp, y6, y9, y11]
    refine hK _ _ ?_; clear hK K hA A
    exact .ret (retB (by simp (maxSteps := 1000000) only [go_sem]) wf yx (.bool _) ⟨rfl, rfl⟩)
  · first | refine .seq (.rg fun A hA K hK => ?_) | refine .seq (.seq (.rg fun A hA K hK => ?_)) | refine .rg fun A hA K hK => ?_ | refine .seq (.rd fun A hA K hK => ?_) | refine .seq (.seq (.rd fun A hA K hK => ?_)) | refine .rd fun A hA K hK => ?_
    simp (maxSteps := 1000000) only [go_sem, hA.nil, hA.go, hA.yes, hA.noT, hA.noF, hA.skp, y6, y9, y11, bl, bd, h3, g3]
    refine aopq_callT s1 (by simp (maxSteps := 1000000) only [go_sem]) ?_
    try simp (maxSteps := 1000000) only [go_sem, hA.nil, hA.go, hA.yes, hA.noT, hA.noF, hA.skp, y6, y9, y11, bl, bd]
    refine aopq_callT s2 (by simp (maxSteps := 1000000) only [go_sem]) ?_
    try simp (maxSteps := 1000000) only [go_sem, hA.nil, hA.go, hA.yes, hA.noT, hA.noF, hA.skp, y6, y9, y11, bl, bd]
    first | refine aopq_call (known_spec y) (by simp (maxSteps := 1000000) only [go_sem, y6, y9, y11]) ?_ | refine aop_call (known_spec y) (by simp (maxSteps := 1000000) only [go_sem, y6, y9, y11]) ?_
    try simp (maxSteps := 1000000) only [go_sem, hA.nil, hA.go, hA.yes, hA.noT, hA.noF, hA.skp, y6, y9, y11]
    refine hK _ _ ?_; clear hK K hA A
    exact .ret (retB (by simp (maxSteps := 1000000) only [go_sem]) wf yx (.bool _) ⟨rfl, rfl⟩)
end Go.Proofs.Ytdmbgnppbchgcaa.Av

namespace Go.Av
open Go

/-- All blocks as they stand. -/
def eH (w : World) : Env := ⟨fun k => match w.heap[k]? with
  | some (.cells c _ _) => some c
  | _ => none, fun _ => none⟩

theorem eH_cell {w : World} {a : Addr} {v : Value} (h : w.cell? a = some v) : a.spot = none ∧ ∃ c, (eH w).H a.block = some c ∧ c[a.off]? = some v := by
  unfold World.cell? at h
  split at h
  · rename_i c t fr hc
    split at h
    · cases h
    · rename_i hs
      refine ⟨by simpa using hs, c, by simp [eH, hc], h⟩
  · cases h

theorem addr_block (a : Addr) (n : Nat) : (a.add n).block = a.block := by unfold Addr.add; split <;> rfl
theorem addr_off (a : Addr) (n : Nat) : (a.add n).off = a.off + n := by
  unfold Addr.add; split
  · rename_i h; subst h; rfl
  · rfl

/-- A row of small values stands to a row of cells. -/
def RowVR (e : Env) (row : List AV) (cs : List Value) : Prop :=
  row.length = cs.length ∧ ∀ i, i < cs.length → VR e (row.getD i .undef) (cs.getD i Go.undef) ∧ (cs.getD i Go.undef).oneCell' = true

section
variable {H : Type} {enc : TypeId × Value → H} {P : Program} {w : World} {base : Nat} {spare : Nat → Bool} {held : Bool}

/-- What reads as data of a type has small values of a form. -/
def Opens (enc : TypeId × Value → H) (P : Program) (w : World) (base : Nat) (spare : Nat → Bool) (held : Bool) (t : TypeId) (Enc : List AV → Prop) : Prop :=
  ∀ fuel cs d ps, DataW.trod enc P w base spare held fuel t cs = some (d, ps) → (∀ n ∈ DataW.weights P t d, n ≤ reachBytes) → ∃ row, Enc row ∧ RowVR (eH w) row cs

theorem opens_int {t : TypeId} (ht : P.underlying t = some (.int .i64)) : Opens enc P w base spare held t (fun row => ∃ n, row = [.int .i64 n]) := by
  intro fuel cs d ps h _
  obtain ⟨n, rfl, _, _⟩ := DataW.trod_int ht h
  refine ⟨_, ⟨n, rfl⟩, rfl, fun i hi => ?_⟩
  obtain rfl : i = 0 := by simpa using hi
  exact ⟨.int _ _, rfl⟩
theorem opens_str {t : TypeId} (ht : P.underlying t = some .string) : Opens enc P w base spare held t (fun row => ∃ s, row = [.str s]) := by
  intro fuel cs d ps h _
  obtain ⟨s, rfl, _, _⟩ := DataW.trod_string ht h
  refine ⟨_, ⟨s, rfl⟩, rfl, fun i hi => ?_⟩
  obtain rfl : i = 0 := by simpa using hi
  exact ⟨.str _, rfl⟩

theorem choose_list {α : Type} {n : Nat} {Q : Nat → α → Prop} (h : ∀ i, i < n → ∃ x, Q i x) : ∃ l : List α, l.length = n ∧ ∀ i (hi : i < l.length), Q i l[i] := by
  induction n with
  | zero => exact ⟨[], rfl, fun i hi => absurd hi (by simp)⟩
  | succ n ih =>
    obtain ⟨l, h1, h2⟩ := ih fun i hi => h i (by omega)
    obtain ⟨x, hx⟩ := h n (by omega)
    refine ⟨l ++ [x], by simp [h1], fun i hi => ?_⟩
    by_cases hil : i < l.length
    · rw [List.getElem_append_left hil]; exact h2 i hil
    · have : i = n := by simp at hi; omega
      subst this
      rw [List.getElem_append_right (by omega)]
      simpa [h1] using hx

theorem weightsAll_mem {e : TypeId} : ∀ {ds : List (DataW H)} {d : DataW H} {n : Nat}, d ∈ ds → n ∈ DataW.weights P e d → n ∈ DataW.weightsAll P e ds
  | _ :: _, _, _, h, hn => by
    simp only [DataW.weightsAll, List.mem_append]
    rcases List.mem_cons.1 h with rfl | h
    · exact .inl hn
    · exact .inr (weightsAll_mem h hn)

theorem opens_slice {t e : TypeId} {Enc : List AV → Prop} {sz B : Nat} (ht : P.underlying t = some (.slice e)) (hsz : P.cellsOf e = sz) (hsz0 : 0 < sz) (hB : P.bytesOf e = B) (hB0 : 0 < B) (ho : Opens enc P w base spare held e Enc) :
    Opens enc P w base spare held t (fun row => ∃ rows, row = [.lit sz rows] ∧ (∀ r ∈ rows, Enc r) ∧ rows.length * B ≤ most) := by
  intro fuel cs d ps h hw
  rcases DataW.trod_slice ht h with ⟨rfl, _⟩ | ⟨a, len, cap, elems, rest, n, rfl, rfl, hx, hb, hl, hm, hlen, hel, hsp, hns⟩
  · refine ⟨_, ⟨[], rfl, by simp, by simp⟩, rfl, fun i hi => ?_⟩
    obtain rfl : i = 0 := by simpa using hi
    exact ⟨.lit0 sz none 0 (fun _ => rfl), rfl⟩
  obtain ⟨rfl, _⟩ := Prod.mk.inj hx
  have hbytes : (elems.length + rest.length) * B ≤ reachBytes := by
    have := hw ((elems.length + rest.length) * P.bytesOf e) (by simp [DataW.weights, ht])
    rwa [hB] at this
  have hmost : elems.length * B ≤ most := by
    have := Nat.mul_le_mul_right B (show elems.length ≤ elems.length + rest.length by omega)
    simp only [reachBytes] at hbytes; simp only [most]; omega
  have each : ∀ i, i < elems.length → ∃ row : List AV, Enc row ∧ ∃ cs', w.cells? base (a.add (i * sz)) sz = some cs' ∧ RowVR (eH w) row cs' := by
    intro i hi
    have h1 := hel i (by omega)
    rw [hsz, List.getElem?_eq_getElem hi, Option.bind_eq_some_iff] at h1
    obtain ⟨cs', h2, h3⟩ := h1
    obtain ⟨row, h4, h5⟩ := ho n cs' elems[i].1 elems[i].2 h3 fun m hm => hw m (by
      simp only [DataW.weights, ht, List.mem_cons, List.mem_append]
      exact .inr (.inl (weightsAll_mem (List.mem_map.2 ⟨_, List.getElem_mem hi, rfl⟩) hm)))
    exact ⟨row, h4, cs', h2, h5⟩
  obtain ⟨rows, hrl, hrows⟩ := choose_list each
  refine ⟨_, ⟨rows, rfl, fun r hr => ?_, by rw [hrl]; exact hmost⟩, rfl, fun i hi => ?_⟩
  · obtain ⟨i, hi, rfl⟩ := List.getElem_of_mem hr
    exact (hrows i hi).1
  obtain rfl : i = 0 := by simpa using hi
  refine ⟨?_, rfl⟩
  show VR (eH w) (.lit sz rows) (.slice (some a) len cap)
  by_cases h0 : rows = []
  · subst h0
    have : len = 0 := by simp at hrl; omega
    subst this
    exact .lit0 sz (some a) cap (fun h => by cases h)
  have hpos : 0 < rows.length := List.length_pos_iff.2 h0
  have cell : ∀ i j (hi : i < rows.length), j < sz → ((a.add (i * sz)).add j).spot = none ∧ (∃ c, (eH w).H a.block = some c ∧ ∃ v, c[a.off + i * sz + j]? = some v ∧ VR (eH w) (rows[i].getD j .undef) v ∧ v.oneCell' = true) ∧ rows[i].length = sz := by
    intro i j hi hj
    obtain ⟨_, cs', h1, h2⟩ := hrows i hi
    obtain ⟨_, h3, h4⟩ := World.cells?_some h1
    have h5 := h4 j hj
    rw [List.getElem?_eq_getElem (by omega)] at h5
    obtain ⟨h6, c, h7, h8⟩ := eH_cell h5
    rw [addr_block, addr_block] at h7
    rw [addr_off, addr_off] at h8
    have hv := h2.2 j (by omega)
    have hg : cs'.getD j Go.undef = cs'[j]'(by omega) := by rw [List.getD_eq_getElem?_getD, List.getElem?_eq_getElem (show j < cs'.length by omega)]; rfl
    rw [hg] at hv
    exact ⟨h6, ⟨c, h7, _, h8, hv.1, hv.2⟩, by rw [h2.1, h3]⟩
  obtain ⟨hs, ⟨c, hc, _⟩, _⟩ := cell 0 0 hpos hsz0
  have hspot : a.spot = none := by simpa [Addr.add] using hs
  have e : (.slice (some a) len cap : Value) = .slice (some ⟨a.block, a.off, none⟩) rows.length cap := by
    rw [hrl, hlen]
    cases a; simp only at hspot; subst hspot; rfl
  rw [e]
  have get : ∀ i (hi : i < rows.length), rows.getD i [] = rows[i] := fun i hi => by rw [List.getD_eq_getElem?_getD, List.getElem?_eq_getElem hi]; rfl
  have at_ : ∀ i j (hi : i < rows.length), j < sz → ∃ v, c[a.off + i * sz + j]? = some v ∧ VR (eH w) (rows[i].getD j .undef) v ∧ v.oneCell' = true := by
    intro i j hi hj
    obtain ⟨_, ⟨c', h1, h2⟩, _⟩ := cell i j hi hj
    rw [hc] at h1; cases h1
    exact h2
  have gd : ∀ {k : Nat} {v : Value}, c[k]? = some v → c.getD k Go.undef = v := fun h => by rw [Array.getD_eq_getD_getElem?, h]; rfl
  refine .lit sz rows a.block a.off cap c hc (by omega) ?_ (fun i hi => ?_) ?_ (fun i j hi hj => ?_) (fun i j hi hj => ?_)
  · have := Nat.mul_le_mul_left rows.length (show 1 ≤ B by omega)
    rw [← hrl] at hmost; omega
  · rw [get i hi]; exact (cell i 0 hi hsz0).2.2
  · obtain ⟨v, h1, _⟩ := at_ (rows.length - 1) (sz - 1) (by omega) (by omega)
    have := (Array.getElem?_eq_some_iff.1 h1).1
    have h2 : rows.length * sz = (rows.length - 1) * sz + sz := by
      rw [← Nat.succ_mul]; congr 1; omega
    omega
  · obtain ⟨v, h1, _, h3⟩ := at_ i j hi hj
    rw [gd h1]; exact h3
  · obtain ⟨v, h1, h2, _⟩ := at_ i j hi hj
    rw [gd h1, get i hi]; exact h2

theorem RowVR.append {e : Env} {r R : List AV} {a b : List Value} (h : RowVR e r a) (h' : RowVR e R b) : RowVR e (r ++ R) (a ++ b) := by
  refine ⟨by rw [List.length_append, List.length_append, h.1, h'.1], fun i hi => ?_⟩
  simp only [List.length_append] at hi
  by_cases hl : i < a.length
  · rw [List.getD_eq_getElem?_getD, List.getElem?_append_left (by rw [h.1]; exact hl), ← List.getD_eq_getElem?_getD, List.getD_eq_getElem?_getD (l := a ++ b), List.getElem?_append_left hl, ← List.getD_eq_getElem?_getD]
    exact h.2 i hl
  · rw [List.getD_eq_getElem?_getD, List.getElem?_append_right (by rw [h.1]; omega), ← List.getD_eq_getElem?_getD, List.getD_eq_getElem?_getD (l := a ++ b), List.getElem?_append_right (by omega), ← List.getD_eq_getElem?_getD, h.1]
    exact h'.2 (i - a.length) (by omega)

/-- Fields that lie one behind the other. -/
def offOk (P : Program) : Nat → List Field → Nat → Bool
  | o, [], tot => o == tot
  | o, f :: fs, tot => f.offset == o && offOk P (o + P.cellsOf f.type) fs tot

theorem rows_join {e : Env} {cs : List Value} : ∀ (fs : List Field) (Encs : List (List AV → Prop)) (o : Nat), offOk P o fs cs.length = true → Encs.length = fs.length →
    (∀ (i : Nat) f E, fs[i]? = some f → Encs[i]? = some E → ∃ r, E r ∧ RowVR e r ((cs.drop f.offset).take (P.cellsOf f.type))) →
    ∃ rs : List (List AV), rs.length = Encs.length ∧ (∀ (i : Nat) r E, rs[i]? = some r → Encs[i]? = some E → E r) ∧ RowVR e rs.flatten (cs.drop o)
  | [], Encs, o, ho, hl, _ => by
    have : Encs = [] := List.length_eq_zero_iff.1 (by simpa using hl)
    subst this
    simp only [offOk, beq_iff_eq] at ho
    subst ho
    exact ⟨[], rfl, fun i r E h => by simp at h, by simp [RowVR]⟩
  | f :: fs, E :: Encs, o, ho, hl, h => by
    simp only [offOk, Bool.and_eq_true, beq_iff_eq] at ho
    obtain ⟨rfl, ho⟩ := ho
    obtain ⟨r, h1, h2⟩ := h 0 f E rfl rfl
    obtain ⟨rs, h3, h4, h5⟩ := rows_join fs Encs _ ho (by simpa using hl) fun i g E' hg hE => h (i + 1) g E' (by simpa using hg) (by simpa using hE)
    refine ⟨r :: rs, by simp [h3], fun i r' E' hr hE => ?_, ?_⟩
    · cases i with
      | zero => simp at hr hE; subst hr; subst hE; exact h1
      | succ i => exact h4 i r' E' (by simpa using hr) (by simpa using hE)
    · have := h2.append h5
      rwa [← List.drop_drop, List.take_append_drop] at this
  | f :: fs, [], _, _, hl, _ => by simp at hl

theorem opens_struct {t : TypeId} {fs : Array Field} (ht : P.underlying t = some (.struct fs)) (Encs : List (List AV → Prop)) (hl : Encs.length = fs.toList.length) (hoff : offOk P 0 fs.toList (P.cellsOf t) = true)
    (ho : ∀ (i : Nat) f E, fs.toList[i]? = some f → Encs[i]? = some E → Opens enc P w base spare held f.type E) :
    Opens enc P w base spare held t (fun row => ∃ rs : List (List AV), rs.length = Encs.length ∧ (∀ (i : Nat) r E, rs[i]? = some r → Encs[i]? = some E → E r) ∧ row = rs.flatten) := by
  intro fuel cs d ps h hw
  obtain ⟨xs, n, rfl, hx, hcl, hxl, hf⟩ := DataW.trod_struct ht h
  obtain ⟨rfl, _⟩ := Prod.mk.inj hx
  obtain ⟨rs, h1, h2, h3⟩ := rows_join (P := P) (e := eH w) (cs := cs) fs.toList Encs 0 (by rw [hcl]; exact hoff) hl fun i f E hi hE => by
    have hfi : fs[i]? = some f := by simpa using hi
    have hil : i < fs.size := (Array.getElem?_eq_some_iff.1 hfi).1
    have := hf i f hfi
    rw [List.getElem?_eq_getElem (show i < xs.length by omega)] at this
    refine ho i f E hi hE n _ _ _ this fun m hm => hw m ?_
    simp only [DataW.weights, ht]
    exact DataW.weights_mem_each (j := i) (t := f.type) (d := xs[i].1) (by simp [hi]) (by simp [show i < xs.length by omega]) m hm
  exact ⟨_, ⟨rs, h1, h2, rfl⟩, by simpa using h3⟩
end
end Go.Av

namespace Go.Proofs.Ytdmbgnppbchgcaa.Av
open Go Go.Av

section
variable {H : Type} {enc : TypeId × Value → H} {w : World} {base : Nat} {spare : Nat → Bool} {held : Bool}
theorem opens_list {t e : TypeId} (ht : Try.prog.underlying t = some (.slice e)) (he : Try.prog.underlying e = some (.int .i64)) (hc : Try.prog.cellsOf e = 1) (hb : Try.prog.bytesOf e = 8) : Opens enc Try.prog w base spare held t (fun row => ∃ l : List Int, row = [ints l] ∧ l.length * 8 ≤ most) := by
  intro fuel cs d ps h hw
  obtain ⟨row, ⟨rows, rfl, hr, hm⟩, hv⟩ := opens_slice (sz := 1) (B := 8) ht hc (by decide) hb (by decide) (opens_int he) fuel cs d ps h hw
  obtain ⟨l, hl, hl2⟩ := choose_list (n := rows.length) (Q := fun i n => rows.getD i [] = [I n]) fun i hi => by
    obtain ⟨n, hn⟩ := hr _ (List.getElem_mem hi)
    exact ⟨n, by rw [getD_at' hi]; exact hn⟩
  have : rows = l.map fun n => [I n] := List.ext_getElem (by simpa using hl.symm) fun i h1 h2 => by
    have := hl2 i (by omega)
    rw [getD_at' h1] at this
    simpa using this
  subst this
  exact ⟨_, ⟨l, rfl, by simpa using hm⟩, hv⟩
theorem opens_ints64 : Opens enc Try.prog w base spare held 22 (fun row => ∃ l : List Int, row = [ints l] ∧ l.length * 8 ≤ most) := opens_list Try.underlying22 Try.underlying2 (by kernel_rfl) (by kernel_rfl)
theorem opens_ints : Opens enc Try.prog w base spare held 23 (fun row => ∃ l : List Int, row = [ints l] ∧ l.length * 8 ≤ most) := opens_list Try.underlying23 Try.underlying3 (by kernel_rfl) (by kernel_rfl)
abbrev EL : List AV → Prop := fun row => ∃ l : List Int, row = [ints l] ∧ l.length * 8 ≤ most
theorem opens_ten : Opens enc Try.prog w base spare held 28 (fun row => ∃ s d : List Int, row = [ints s, ints d]) := by
  intro fuel cs d ps h hw
  obtain ⟨row, ⟨rs, h1, h2, rfl⟩, hv⟩ := opens_struct Try.underlying28 [EL, EL] rfl (by kernel_rfl) (fun i f E hf hE => by
    match i, hf, hE with
    | 0, hf, hE => cases hf; cases hE; exact opens_ints
    | 1, hf, hE => cases hf; cases hE; exact opens_ints64
    | i + 2, hf, hE => simp at hE) fuel cs d ps h hw
  refine ⟨_, ?_, hv⟩
  match rs, h1 with
  | [r0, r1], _ =>
    obtain ⟨a0, rfl, _⟩ := h2 0 _ _ rfl rfl
    obtain ⟨a1, rfl, _⟩ := h2 1 _ _ rfl rfl
    exact ⟨a0, a1, rfl⟩
/-- An argument's small value. -/
theorem opens_arg {t : TypeId} {Enc : List AV → Prop} (ho : Opens enc Try.prog w base spare held t Enc) {v : Value} {d : DataW H} {ps : List MemPlace} (h : DataW.Trod enc Try.prog w base spare held t v d ps) (hw : ∀ n ∈ DataW.weights Try.prog t d, n ≤ reachBytes) :
    ∃ row, Enc row ∧ RowVR (eH w) row v.cells.toList := by
  obtain ⟨fuel, hf⟩ := h
  exact ho fuel _ d ps hf hw
theorem row_agg {row : List AV} {cs : Array Value} (h : RowVR (eH w) row (Value.agg cs).cells.toList) : VR (eH w) (.agg row) (.agg cs) := by
  have hc : (Value.agg cs).cells.toList = cs.toList := rfl
  rw [hc] at h
  obtain ⟨h1, h2⟩ := h
  refine .agg row cs (by simpa using h1) (fun i hi => ?_) (fun i hi => ?_)
  · have := (h2 i (by omega)).2
    simpa [Array.getD_eq_getD_getElem?, List.getD_eq_getElem?_getD] using this
  · have := (h2 i (by omega)).1
    simpa [Array.getD_eq_getD_getElem?, List.getD_eq_getElem?_getD] using this
end
/-- No block of one's own yet. -/
def σ0 : St := ⟨0, fun _ => none⟩
theorem rel0 (w : World) : Rel w (eH w) σ0 w := by
  refine ⟨Go.RowKit.Below.refl _ _, (fun b x h => by cases h), fun k c h => ?_, (fun b x h => by cases h), (fun b B h => by cases h), (fun b b' B B' x x' h => by cases h)⟩
  simp only [eH] at h
  split at h
  · rename_i c' t fr hc; cases h; exact ⟨t, fr, hc⟩
  · cases h
end Go.Proofs.Ytdmbgnppbchgcaa.Av
