/- A logic of small values, and walks in it: The code of some functions in few words, and that it is the program's. Printed by a program. Datum: DatumNumbers. -/
import Derived.Test.YtdmbgnppbchgcaaAv9
import Derived.Test.YtdmbgnppbchgcaaProg
import Derived.KernelRfl
set_option linter.unusedVariables false
set_option linter.unusedSimpArgs false
set_option linter.deprecated false
namespace Go.Proofs.Ytdmbgnppbchgcaa.Av.B4
open Go Go.Av

def cfg : Cfg := { data := fun t => ([27, 28] : List Nat).contains t, quiet := fun f => !([7, 8, 9, 17, 18, 20, 23, 25, 35, 36, 38] : List Nat).contains f, quietv := fun _ => true, own := fun _ => false }
theorem mixed : Try.prog.follows .mixedOrders = true := by kernel_rfl

/-! parquetry/parquetrylaw3.DatumNumbers -/
def c4 : C :=
  (.seq (.reg [⟨some 0, none, .mv (.k (.bool false))⟩])
  (.seq (.reg [⟨some 1, none, .mv (.k (.str ⟨#[]⟩))⟩])
  (.seq (.seq (.reg [⟨some 2, none, .mv (.k (.int .i64 0))⟩])
  (.block 0
    (.loop
      (.seq (.seq (.reg [⟨some 3, none, .mv (.t 2)⟩, ⟨some 4, none, .bin .lss 0 (.t 3) (.k (.int .i64 35))⟩])
      (.cond (.t 4)
        .skip
        (.exit 0)))
      (.seq (.block 1
        (.seq (.seq (.drs [⟨some 7, none, .mv (.t 2)⟩, ⟨some 8, none, .mv (.t 2)⟩, ⟨some 9, none, .msl 1 8 [.int .i64 0] (.t 8) (.t 8)⟩, ⟨some 10, none, .mv (.t 1)⟩, ⟨some 11, none, .mv (.t 2)⟩, ⟨some 12, none, .bs false 1 [.int .i64 0] 1 [(0, (.t 11))]⟩, ⟨some 13, none, .mv (.t 2)⟩, ⟨some 14, none, .mx true (.t 13) (.k (.int .i64 1))⟩, ⟨some 15, none, .msl 1 8 [.int .i64 0] (.t 14) (.t 14)⟩, ⟨some 16, none, .bd [.lit 1 [], .lit 1 []] [(0, 1, (.t 12)), (1, 1, (.t 15))]⟩, ⟨some 17, none, .call true 12 [(.t 7), (.t 9), (.t 10), (.t 16)]⟩, ⟨some 18, none, .un .not (.t 17)⟩])
        (.cond (.t 18)
          (.seq (.reg [⟨some 0, none, .mv (.k (.bool false))⟩])
          .ret)
          .skip))
        (.reg [⟨some 19, none, .mv (.t 1)⟩, ⟨some 20, none, .bin .add 0 (.t 19) (.k (.str ⟨#[195, 169]⟩))⟩, ⟨some 1, none, .mv (.t 20)⟩])))
      (.reg [⟨some 5, none, .mv (.t 2)⟩, ⟨some 6, none, .bin .add 0 (.t 5) (.k (.int .i64 1))⟩, ⟨some 2, none, .mv (.t 6)⟩]))))))
  (.seq (.drs [⟨some 21, none, .bs false 1 [.int .i64 0] 2 [(0, (.k (.int .i64 1))), (1, (.k (.int .i64 (-1))))]⟩, ⟨some 22, none, .bs false 1 [.int .i64 0] 2 [(0, (.k (.int .i64 2))), (1, (.k (.int .i64 3)))]⟩, ⟨some 23, none, .call true 13 [(.t 22), (.k (.int .i64 4))]⟩, ⟨some 24, none, .call true 12 [(.k (.int .i64 (-9223372036854775808))), (.t 21), (.k (.str ⟨#[97, 255, 98, 228, 184, 150]⟩)), (.t 23)]⟩, ⟨some 25, none, .mv (.t 24)⟩, ⟨some 26, (some (25, true)), .call true 15 [(.k (.nils))]⟩, ⟨some 27, (some (25, true)), .msl 1 8 [.int .i64 0] (.k (.int .i64 6)) (.k (.int .i64 6))⟩, ⟨some 28, (some (25, true)), .call true 14 [(.t 26), (.t 27)]⟩, ⟨some 29, none, .pk (.t 25) (.t 28) (.k (.bool false))⟩, ⟨some 30, none, .mv (.t 29)⟩, ⟨some 31, (some (30, true)), .call true 11 []⟩, ⟨some 32, none, .pk (.t 30) (.t 31) (.k (.bool false))⟩, ⟨some 0, none, .mv (.t 32)⟩])
  .ret))))
set_option maxRecDepth 100000 in
theorem er4 : (Try.f4.body.bind (erC Try.prog ({ cfg with lit := fun d => ([9, 15, 27] : List Nat).contains d }) 33)) = some c4 := by kernel_rfl
theorem in4 {args : List AV} {σ : St} {Q : AV → St → Prop} (hlen : args.length ≤ 33) (h : σ.Wf → (∀ i, i < args.length → Hab (args.getD i .undef)) → SWP Try.prog σ.next c4 (retQ σ.next [.t 0] Q) (fun i => args.getD i .undef) σ) : TQ Try.prog 4 args σ Q := by
  obtain ⟨k, hb, hk⟩ := Option.bind_eq_some_iff.1 er4
  exact TQ_of (fn := Try.f4) Try.func4 (by kernel_rfl) hb (erC_is mixed hk) (by kernel_rfl) hlen h

end Go.Proofs.Ytdmbgnppbchgcaa.Av.B4

namespace Go.Proofs.Ytdmbgnppbchgcaa.Av
open Go Go.Av
set_option maxRecDepth 20000
set_option maxHeartbeats 4000000

attribute [local go_sem] step_apply stepD_apply stepE_apply
attribute [local go_sem] aopq_mv aopq_pk aopq_al aopq_bx aopq_bd aopq_bs aopq_ld aopq_st aopq_nc aopq_bin aopq_un aopq_cv aopq_mi aopq_mf aopq_mm aopq_ms aopq_sc aopq_fa aopq_fl aopq_ia aopq_lk aopq_mu aopq_lm aopq_rg aopq_rgs aopq_nxs aopq_msl aop_msl aop_rgs aop_nxs aopq_en aopq_ta aopq_ex aopq_ln aopq_ap aopq_mx aopq.eq_3 aop.eq_1 aop.eq_2 aop.eq_3 aop.eq_4 aop.eq_5 aop.eq_6 aop.eq_7 aop.eq_8 aop.eq_9 aop_bin atS_apply aop_un_not aop_un_neg aop.eq_14 aop.eq_15 aop.eq_16 aop.eq_17 aop.eq_18 aop_sc cutS_apply cutN_apply cutL_apply cutO_apply aop.eq_20 aop.eq_21 aop.eq_22 aop.eq_23 aop.eq_24 aop.eq_25 aop.eq_26 aop.eq_27 aop.eq_28 aop.eq_29 aop.eq_30 aop.eq_31 aop.eq_32 blk_push next_push blk_set next_set blk_kill next_kill frL_nil frL_cons Fits_nil Fits_cons Int.reduceBEq Int.reduceBNe Nat.sub_zero Option.map_some Option.map_none List.set_cons_succ true_or or_true false_or or_false Int.le_refl Int.cast_ofNat_Int decide_true decide_false List.cons_append fillA fillR rowsOf List.replicate_succ List.replicate_zero Nat.zero_mul getD_drop List.length_drop splice List.nil_append List.append_nil cond_true cond_false List.set_cons_zero List.length_set ev put_some put_none upd_apply abin asNat bounds row1 mk List.length_cons List.length_nil List.length_map List.drop_zero List.drop_succ_cons List.drop_nil List.getD_cons_zero List.getD_cons_succ Option.getD_none Option.getD_some List.take_succ_cons List.take_zero List.take_nil true_and and_true Int.toNat_natCast if_true if_false Nat.zero_add Nat.add_zero List.map_cons List.map_nil Nat.reduceEqDiff Nat.left_eq_add Nat.add_eq_left Nat.add_left_cancel_iff Nat.add_assoc Nat.reduceSub Nat.reduceAdd Nat.reduceLeDiff Nat.le_refl Nat.zero_le Nat.zero_lt_one Nat.lt_add_one Int.reduceLT Int.reduceLE Int.reduceToNat Nat.reduceLT Nat.reduceBEq Bool.false_eq_true Nat.reduceBNe ne_eq not_false_eq_true not_true_eq_false false_and and_false reduceIte Int.natCast_nonneg reduceCtorEq parts_agg parts_bool parts_int parts_str parts_lit parts_nils parts_sl parts_ptr parts_iface parts_nilp parts_niliface Int.natCast_nonneg Int.natCast_nonneg beq_self_eq_true bne_self_eq_false Bool.true_and Bool.false_and Bool.and_true Bool.and_false Bool.true_or Bool.false_or Bool.or_true Bool.or_false Bool.not_true Bool.not_false
attribute [local go_sem] I ints tenA

/-- A tensor whose numbers are the caller's own, as a plain one. -/
theorem TQ.plainT {f : FuncId} {args : List AV} {σ : St} {s : List Int} {rows : List (List AV)} (hr : ∀ r ∈ rows, ∀ x ∈ r, x.Lt σ.next)
    (h : TQ Try.prog f args σ fun v t => ∃ b, v = .agg [ints s, .sl b 0 rows.length] ∧ t.blk b = some (.cells 1 rows) ∧ σ.next ≤ b ∧ b < t.next ∧ Ext σ t) : T Try.prog f args σ (.agg [ints s, .lit 1 rows]) σ := by
  refine ⟨h.1, fun W0 e w cargs hrel hlen hv => ?_⟩
  refine (h.2 W0 e w cargs hrel hlen hv).mono fun en w' ⟨e', cv, v, t, h1, h2, h3, h4, b, h5, h6, h7, h8, h9⟩ => ?_
  subst h5
  obtain ⟨x, hx, _⟩ := h4.own b _ h6
  obtain ⟨e2, l2, hR, hcut⟩ := h4.freeze h6 hx
  have hv2 : VR e2 (.agg [ints s, .lit 1 rows]) cv := by
    cases h3 with
    | agg _ vs hl ho hh =>
      refine .agg _ vs hl ho fun i hi => ?_
      rcases i with _ | _ | i
      · exact (hh 0 (by simp)).mono l2
      · have q := hcut 0 rows.length _ (hh 1 (by simp)) (by omega)
        simpa using q
      · have : i + 1 + 1 < 2 := hi; omega
  obtain ⟨e3, g1, g2, g3⟩ := EntV.back (n0 := σ.next) (σ' := σ) rfl hrel.wf (fun c hc => by rw [blk_kill, if_neg (by omega)]; exact h9.2 c hc) (lt_agg (by
    simp only [List.forall_mem_cons, List.not_mem_nil, false_imp_iff, implies_true, and_true]; exact ⟨ints_lt s, lt_lit hr⟩)) W0 e e2 w' cv hrel.dom (h2.trans l2) hR hv2
  exact ⟨e3, cv, _, σ, h1, g1, g3, g2, rfl, rfl⟩
theorem fill_lit (s : List Int) (hs : s.length ≤ 2 ^ 20) (n : Int) (σ : St) : T Try.prog 13 [ints s, I n] σ (tenA s (List.replicate (sizeE s).toNat n)) σ := by
  have e : (List.replicate (sizeE s).toNat n).map (fun n => [I n]) = List.replicate (sizeE s).toNat [I n] := by rw [List.map_replicate]
  unfold tenA
  unfold ints
  rw [e]
  refine TQ.plainT (fun r hr x hx => ?_) ((fill_spec s hs n σ).mono fun v t ⟨b, h1, h2, h3, h4, h5⟩ => ⟨b, by rw [h1]; simp, h2, h3, h4, h5⟩)
  rw [(List.mem_replicate.1 hr).2] at hx
  rw [List.mem_singleton.1 hx]; exact .int _ _
theorem count_nil (σ : St) : T Try.prog 15 [.nils] σ (ints [0, 0, 0, 0, 0, 0]) σ := by
  refine TQ.sub (args' := [.lit 1 []]) rfl (fun i hi => ?_) (count_spec [] [] rfl (fun i h => by simp at h) σ)
  obtain rfl : i = 0 := by simpa using hi
  exact .nils 1
/-- law3.DatumNumbers -/
theorem datumNumbers_spec (σ : St) : T Try.prog 4 [] σ (.bool true) σ := by
  refine B4.in4 (by simp) fun wf hab => ?_
  clear hab
  unfold B4.c4
  first | refine .seq (.rg fun A hA K hK => ?_) | refine .seq (.seq (.rg fun A hA K hK => ?_)) | refine .rg fun A hA K hK => ?_ | refine .seq (.rd fun A hA K hK => ?_) | refine .seq (.seq (.rd fun A hA K hK => ?_)) | refine .rd fun A hA K hK => ?_
  simp (maxSteps := 1000000) only [go_sem, hA.nil, hA.go, hA.yes, hA.noT, hA.noF, hA.skp]
  refine hK _ _ ?_; clear hK K hA A
  first | refine .seq (.rg fun A hA K hK => ?_) | refine .seq (.seq (.rg fun A hA K hK => ?_)) | refine .rg fun A hA K hK => ?_ | refine .seq (.rd fun A hA K hK => ?_) | refine .seq (.seq (.rd fun A hA K hK => ?_)) | refine .rd fun A hA K hK => ?_
  simp (maxSteps := 1000000) only [go_sem, hA.nil, hA.go, hA.yes, hA.noT, hA.noF, hA.skp]
  refine hK _ _ ?_; clear hK K hA A
  first | refine .seq (.rg fun A hA K hK => ?_) | refine .seq (.seq (.rg fun A hA K hK => ?_)) | refine .rg fun A hA K hK => ?_ | refine .seq (.rd fun A hA K hK => ?_) | refine .seq (.seq (.rd fun A hA K hK => ?_)) | refine .rd fun A hA K hK => ?_
  simp (maxSteps := 1000000) only [go_sem, hA.nil, hA.go, hA.yes, hA.noT, hA.noF, hA.skp]
  refine hK _ _ ?_; clear hK K hA A
  refine .countK (N := 35) (fun i L t => ∃ s : ByteArray, L = [(1, .str s), (2, I i)] ∧ s.size ≤ 2 * i ∧ t = σ) (by decide) ⟨_, ⟨⟨#[]⟩, rfl, by decide, rfl⟩, by simp (maxSteps := 1000000) only [go_sem]; try rfl⟩ ?_ ?_ ?_
  · rintro i L t hi ⟨s, rfl, hs, rfl⟩
    first | refine .seq (.rg fun A hA K hK => ?_) | refine .seq (.seq (.rg fun A hA K hK => ?_)) | refine .rg fun A hA K hK => ?_ | refine .seq (.rd fun A hA K hK => ?_) | refine .seq (.seq (.rd fun A hA K hK => ?_)) | refine .rd fun A hA K hK => ?_
    simp (maxSteps := 1000000) only [go_sem, hA.nil, hA.go, hA.yes, hA.noT, hA.noF, hA.skp]
    refine hK _ _ ?_; clear hK K hA A
    exact ⟨rfl, by simp (maxSteps := 1000000) only [go_sem, show ((i : Int) < 35) = (i < 35) by simp; omega], _, ⟨s, rfl, hs, rfl⟩, by simp (maxSteps := 1000000) only [go_sem]⟩
  · rintro i L t hi ⟨s, rfl, hs, rfl⟩
    have m1 : (i : Int) ≤ most := by simp only [most]; omega
    have m2 : (i : Int) * 8 ≤ most := by simp only [most]; omega
    have hmx : max (i : Int) 1 = ((max i 1 : Nat) : Int) := by omega
    have m3 : ((max i 1 : Nat) : Int) ≤ most := by simp only [most]; omega
    have m4 : ((max i 1 : Nat) : Int) * 8 ≤ most := by simp only [most]; omega
    have ta := all_spec i (List.replicate i 0) s [(i : Int)] (List.replicate (max i 1) 0) (by simp only [List.length_replicate, most]; omega) (by omega) t
    simp only [ints, tenA, List.map_replicate] at ta
    have sz : s.size + ByteArray.size ⟨#[195, 169]⟩ ≤ most := by show s.size + 2 ≤ most; simp only [most]; omega
    first | refine .seq (.rg fun A hA K hK => ?_) | refine .seq (.seq (.rg fun A hA K hK => ?_)) | refine .rg fun A hA K hK => ?_ | refine .seq (.rd fun A hA K hK => ?_) | refine .seq (.seq (.rd fun A hA K hK => ?_)) | refine .rd fun A hA K hK => ?_
    simp (maxSteps := 1000000) only [go_sem, hA.nil, hA.go, hA.yes, hA.noT, hA.noF, hA.skp, m1, m2, hmx, m3, m4]
    first | refine aopq_call (ta) (by simp (maxSteps := 1000000) only [go_sem]) ?_ | refine aop_call (ta) (by simp (maxSteps := 1000000) only [go_sem]) ?_
    try simp (maxSteps := 1000000) only [go_sem, hA.nil, hA.go, hA.yes, hA.noT, hA.noF, hA.skp]
    refine hK _ _ ?_; clear hK K hA A
    refine .cond (t := false) (by simp (maxSteps := 1000000) only [go_sem]) (fun h => by cases h) (fun _ => .skip ?_)
    first | refine .seq (.rg fun A hA K hK => ?_) | refine .seq (.seq (.rg fun A hA K hK => ?_)) | refine .rg fun A hA K hK => ?_ | refine .seq (.rd fun A hA K hK => ?_) | refine .seq (.seq (.rd fun A hA K hK => ?_)) | refine .rd fun A hA K hK => ?_
    simp (maxSteps := 1000000) only [go_sem, hA.nil, hA.go, hA.yes, hA.noT, hA.noF, hA.skp, sz]
    refine hK _ _ ?_; clear hK K hA A
    exact ⟨by simp (maxSteps := 1000000) only [go_sem], _, ⟨s ++ ⟨#[195, 169]⟩, rfl, by rw [ByteArray.size_append]; show s.size + 2 ≤ 2 * (i + 1); omega, rfl⟩, by simp (maxSteps := 1000000) only [go_sem]; try rfl⟩
  · rintro L t F ⟨s, rfl, hs, rfl⟩ hf
    clear hf
    have tf := fill_lit [2, 3] (by decide) 4 t
    have e6 : (sizeE [2, 3]).toNat = 6 := by decide +kernel
    rw [e6] at tf
    have ta := all_spec (-9223372036854775808) [1, -1] ⟨#[97, 255, 98, 228, 184, 150]⟩ [2, 3] (List.replicate 6 4) (by decide) (by decide) t
    have s6 := same14_spec [0, 0, 0, 0, 0, 0] [0, 0, 0, 0, 0, 0] t
    first | refine .seq (.rg fun A hA K hK => ?_) | refine .seq (.seq (.rg fun A hA K hK => ?_)) | refine .rg fun A hA K hK => ?_ | refine .seq (.rd fun A hA K hK => ?_) | refine .seq (.seq (.rd fun A hA K hK => ?_)) | refine .rd fun A hA K hK => ?_
    simp (maxSteps := 1000000) only [go_sem, hA.nil, hA.go, hA.yes, hA.noT, hA.noF, hA.skp]
    first | refine aopq_call (tf) (by simp (maxSteps := 1000000) only [go_sem]) ?_ | refine aop_call (tf) (by simp (maxSteps := 1000000) only [go_sem]) ?_
    try simp (maxSteps := 1000000) only [go_sem, hA.nil, hA.go, hA.yes, hA.noT, hA.noF, hA.skp]
    first | refine aopq_call (ta) (by simp (maxSteps := 1000000) only [go_sem, tenA]) ?_ | refine aop_call (ta) (by simp (maxSteps := 1000000) only [go_sem, tenA]) ?_
    try simp (maxSteps := 1000000) only [go_sem, hA.nil, hA.go, hA.yes, hA.noT, hA.noF, hA.skp, tenA]
    first | refine aopq_call (count_nil t) (by simp (maxSteps := 1000000) only [go_sem]) ?_ | refine aop_call (count_nil t) (by simp (maxSteps := 1000000) only [go_sem]) ?_
    try simp (maxSteps := 1000000) only [go_sem, hA.nil, hA.go, hA.yes, hA.noT, hA.noF, hA.skp]
    refine ⟨by decide, by decide, ?_⟩
    first | refine aopq_call (s6) (by simp (maxSteps := 1000000) only [go_sem]) ?_ | refine aop_call (s6) (by simp (maxSteps := 1000000) only [go_sem]) ?_
    try simp (maxSteps := 1000000) only [go_sem, hA.nil, hA.go, hA.yes, hA.noT, hA.noF, hA.skp]
    first | refine aopq_call (known_spec t) (by simp (maxSteps := 1000000) only [go_sem]) ?_ | refine aop_call (known_spec t) (by simp (maxSteps := 1000000) only [go_sem]) ?_
    try simp (maxSteps := 1000000) only [go_sem, hA.nil, hA.go, hA.yes, hA.noT, hA.noF, hA.skp]
    refine hK _ _ ?_; clear hK K hA A
    exact .ret (ret1 (by simp (maxSteps := 1000000) only [go_sem]) rfl)
end Go.Proofs.Ytdmbgnppbchgcaa.Av
