/- A logic of small values, and walks in it: The code of some functions in few words, and that it is the program's. Printed by a program. Datum: DatumCounts. -/
import Derived.Test.YtdmbgnppbchgcaaAv9
import Derived.Test.YtdmbgnppbchgcaaProg
import Derived.KernelRfl
set_option linter.unusedVariables false
set_option linter.unusedSimpArgs false
set_option linter.deprecated false
namespace Go.Proofs.Ytdmbgnppbchgcaa.Av.B
open Go Go.Av

def cfg : Cfg := { data := fun t => ([27, 28] : List Nat).contains t, quiet := fun f => !([7, 8, 9, 10, 12, 13, 14, 15, 17, 18, 20, 23, 25, 35, 36, 38] : List Nat).contains f, quietv := fun _ => true, own := fun _ => false }
theorem mixed : Try.prog.follows .mixedOrders = true := by kernel_rfl

/-! parquetry/parquetrylaw3.DatumCounts -/
def c6 : C :=
  (.seq (.reg [⟨some 6, none, .mv (.k (.bool false))⟩])
  (.seq (.reg [⟨some 15, none, .mv (.t 2)⟩, ⟨some 16, none, .bin .and 0 (.t 15) (.k (.int .i64 7))⟩, ⟨some 7, none, .mv (.t 16)⟩])
  (.seq (.reg [⟨some 8, none, .mv (.k (.nils))⟩])
  (.seq (.seq (.reg [⟨some 9, none, .mv (.k (.int .i64 0))⟩])
  (.block 0
    (.loop
      (.seq (.seq (.reg [⟨some 17, none, .mv (.t 9)⟩, ⟨some 18, none, .mv (.t 7)⟩, ⟨some 19, none, .bin .lss 0 (.t 17) (.t 18)⟩])
      (.cond (.t 19)
        .skip
        (.exit 0)))
      (.seq (.block 1
        (.reg [⟨some 22, none, .mv (.t 8)⟩, ⟨some 23, none, .mv (.t 9)⟩, ⟨some 24, none, .mi 2 (.t 23)⟩, ⟨some 25, none, .mv (.t 0)⟩, ⟨some 26, none, .mi 22 (.t 25)⟩, ⟨some 27, none, .mv (.t 1)⟩, ⟨some 28, none, .mi 9 (.t 27)⟩, ⟨some 29, none, .mi 4 (.k (.bool true))⟩, ⟨some 30, none, .mv (.t 0)⟩, ⟨some 31, none, .bd [.lit 1 [], .lit 1 []] [(1, 1, (.t 30))]⟩, ⟨some 32, none, .mi 28 (.t 31)⟩, ⟨some 33, none, .bs false 1 [.niliface] 0 []⟩, ⟨some 34, none, .mi 42 (.t 33)⟩, ⟨some 35, none, .bs false 1 [.niliface] 7 [(0, (.t 24)), (1, (.t 26)), (2, (.t 28)), (3, (.k (.niliface))), (4, (.t 29)), (5, (.t 32)), (6, (.t 34))]⟩, ⟨some 36, none, .mv (.t 9)⟩, ⟨some 37, none, .bin .rem 0 (.t 36) (.k (.int .i64 7))⟩, ⟨some 38, none, .ia 1 (.t 35) (.t 37)⟩, ⟨some 39, none, .ld none (.t 38)⟩, ⟨some 40, none, .bs false 1 [.niliface] 1 [(0, (.t 39))]⟩, ⟨some 41, none, .ap 1 16 (.t 22) (.t 40)⟩, ⟨some 8, none, .mv (.t 41)⟩]))
      (.reg [⟨some 20, none, .mv (.t 9)⟩, ⟨some 21, none, .bin .add 0 (.t 20) (.k (.int .i64 1))⟩, ⟨some 9, none, .mv (.t 21)⟩]))))))
  (.seq (.reg [⟨some 42, none, .mv (.t 8)⟩, ⟨some 43, none, .call false 15 [(.t 42)]⟩, ⟨some 44, none, .bs false 1 [.niliface] 0 []⟩, ⟨some 45, none, .mv (.t 8)⟩, ⟨some 46, none, .ap 1 16 (.t 44) (.t 45)⟩, ⟨some 47, none, .mv (.t 8)⟩, ⟨some 48, none, .ap 1 16 (.t 46) (.t 47)⟩, ⟨some 49, none, .call false 15 [(.t 48)]⟩, ⟨some 10, none, .mv (.t 43)⟩, ⟨some 11, none, .mv (.t 49)⟩])
  (.seq (.seq (.reg [⟨some 50, none, .mv (.t 10)⟩, ⟨some 51, none, .ln false (.t 50)⟩, ⟨some 52, none, .bin .neq 0 (.t 51) (.k (.int .i64 6))⟩, ⟨some 53, none, .mv (.t 52)⟩, ⟨some 54, (some (53, false)), .mv (.t 11)⟩, ⟨some 55, (some (53, false)), .ln false (.t 54)⟩, ⟨some 56, (some (53, false)), .bin .neq 0 (.t 55) (.k (.int .i64 6))⟩, ⟨some 57, none, .pk (.t 53) (.k (.bool true)) (.t 56)⟩])
  (.cond (.t 57)
    (.seq (.reg [⟨some 6, none, .mv (.k (.bool false))⟩])
    .ret)
    .skip))
  (.seq (.reg [⟨some 12, none, .mv (.k (.int .i64 0))⟩])
  (.seq (.seq (.reg [⟨some 58, none, .mv (.t 10)⟩, ⟨some 59, none, .ln false (.t 58)⟩, ⟨some 60, none, .mv (.k (.int .i64 0))⟩])
  (.block 2
    (.loop
      (.seq (.reg [⟨some 61, none, .bin .lss 0 (.t 60) (.t 59)⟩])
      (.seq (.cond (.t 61)
        .skip
        (.exit 2))
      (.seq (.block 3
        (.seq (.reg [⟨some 62, none, .mv (.t 60)⟩, ⟨some 13, none, .mv (.t 62)⟩])
        (.seq (.reg [⟨some 63, none, .mv (.t 12)⟩, ⟨some 64, none, .mv (.t 10)⟩, ⟨some 65, none, .mv (.t 13)⟩, ⟨some 66, none, .ia 1 (.t 64) (.t 65)⟩, ⟨some 67, none, .ld none (.t 66)⟩, ⟨some 68, none, .bin .add 0 (.t 63) (.t 67)⟩, ⟨some 12, none, .mv (.t 68)⟩])
        (.seq (.drs [⟨some 69, none, .mv (.t 11)⟩, ⟨some 70, none, .mv (.t 13)⟩, ⟨some 71, none, .ia 1 (.t 69) (.t 70)⟩, ⟨some 72, none, .ld none (.t 71)⟩, ⟨some 73, none, .mv (.t 10)⟩, ⟨some 74, none, .mv (.t 13)⟩, ⟨some 75, none, .ia 1 (.t 73) (.t 74)⟩, ⟨some 76, none, .ld none (.t 75)⟩, ⟨some 77, none, .bin .mul 0 (.k (.int .i64 2)) (.t 76)⟩, ⟨some 78, none, .bin .neq 0 (.t 72) (.t 77)⟩])
        (.cond (.t 78)
          (.seq (.reg [⟨some 6, none, .mv (.k (.bool false))⟩])
          .ret)
          .skip)))))
      (.reg [⟨some 79, none, .bin .add 0 (.t 60) (.k (.int .i64 1))⟩, ⟨some 60, none, .mv (.t 79)⟩])))))))
  (.seq (.seq (.reg [⟨some 80, none, .mv (.t 8)⟩, ⟨some 81, none, .ln false (.t 80)⟩, ⟨some 82, none, .mv (.k (.int .i64 0))⟩])
  (.block 4
    (.loop
      (.seq (.reg [⟨some 83, none, .bin .lss 0 (.t 82) (.t 81)⟩])
      (.seq (.cond (.t 83)
        .skip
        (.exit 4))
      (.seq (.block 5
        (.seq (.reg [⟨some 84, none, .mv (.t 82)⟩, ⟨some 14, none, .mv (.t 84)⟩])
        (.seq (.reg [⟨some 85, none, .mv (.t 8)⟩, ⟨some 86, none, .mv (.t 14)⟩, ⟨some 87, none, .ia 1 (.t 85) (.t 86)⟩, ⟨some 88, none, .ld none (.t 87)⟩, ⟨some 89, none, .call true 16 [(.t 88)]⟩, ⟨some 90, none, .bin .lss 0 (.t 89) (.k (.int .i64 0))⟩, ⟨some 91, none, .mv (.t 90)⟩, ⟨some 92, (some (91, false)), .mv (.t 8)⟩, ⟨some 93, (some (91, false)), .mv (.t 14)⟩, ⟨some 94, (some (91, false)), .ia 1 (.t 92) (.t 93)⟩, ⟨some 95, (some (91, false)), .ld none (.t 94)⟩, ⟨some 96, (some (91, false)), .call true 16 [(.t 95)]⟩, ⟨some 97, (some (91, false)), .bin .gtr 0 (.t 96) (.k (.int .i64 5))⟩, ⟨some 98, none, .pk (.t 91) (.k (.bool true)) (.t 97)⟩, ⟨some 99, none, .mv (.t 98)⟩, ⟨some 100, (some (99, false)), .mv (.t 10)⟩, ⟨some 101, (some (99, false)), .mv (.t 8)⟩, ⟨some 102, (some (99, false)), .mv (.t 14)⟩, ⟨some 103, (some (99, false)), .ia 1 (.t 101) (.t 102)⟩, ⟨some 104, (some (99, false)), .ld none (.t 103)⟩, ⟨some 105, (some (99, false)), .call true 16 [(.t 104)]⟩, ⟨some 106, (some (99, false)), .ia 1 (.t 100) (.t 105)⟩, ⟨some 107, (some (99, false)), .ld none (.t 106)⟩, ⟨some 108, (some (99, false)), .bin .lss 0 (.t 107) (.k (.int .i64 1))⟩, ⟨some 109, none, .pk (.t 99) (.k (.bool true)) (.t 108)⟩])
        (.cond (.t 109)
          (.seq (.reg [⟨some 6, none, .mv (.k (.bool false))⟩])
          .ret)
          .skip))))
      (.reg [⟨some 110, none, .bin .add 0 (.t 82) (.k (.int .i64 1))⟩, ⟨some 82, none, .mv (.t 110)⟩])))))))
  (.seq (.reg [⟨some 111, none, .mv (.t 12)⟩, ⟨some 112, none, .mv (.t 7)⟩, ⟨some 113, none, .bin .eql 0 (.t 111) (.t 112)⟩, ⟨some 114, none, .mv (.t 113)⟩, ⟨some 115, (some (114, true)), .call true 11 []⟩, ⟨some 116, none, .pk (.t 114) (.t 115) (.k (.bool false))⟩, ⟨some 6, none, .mv (.t 116)⟩])
  .ret))))))))))
set_option maxRecDepth 100000 in
theorem er6 : (Try.f6.body.bind (erC Try.prog cfg 117)) = some c6 := by kernel_rfl
theorem in6 {args : List AV} {σ : St} {Q : AV → St → Prop} (hlen : args.length ≤ 117) (h : σ.Wf → (∀ i, i < args.length → Hab (args.getD i .undef)) → SWP Try.prog σ.next c6 (retQ σ.next [.t 6] Q) (fun i => args.getD i .undef) σ) : TQ Try.prog 6 args σ Q := by
  obtain ⟨k, hb, hk⟩ := Option.bind_eq_some_iff.1 er6
  exact TQ_of (fn := Try.f6) Try.func6 (by kernel_rfl) hb (erC_is mixed hk) (by kernel_rfl) hlen h

end Go.Proofs.Ytdmbgnppbchgcaa.Av.B

namespace Go.Proofs.Ytdmbgnppbchgcaa.Av
open Go Go.Av
set_option maxRecDepth 20000
set_option maxHeartbeats 4000000

attribute [local go_sem] step_apply stepD_apply stepE_apply
attribute [local go_sem] aopq_mv aopq_pk aopq_al aopq_bx aopq_bd aopq_bs aopq_ld aopq_st aopq_nc aopq_bin aopq_un aopq_cv aopq_mi aopq_mf aopq_mm aopq_ms aopq_sc aopq_fa aopq_fl aopq_ia aopq_lk aopq_mu aopq_lm aopq_rg aopq_rgs aopq_nxs aop_rgs aop_nxs aopq_en aopq_ta aopq_ex aopq_ln aopq_ap aopq_mx aopq.eq_3 aop.eq_1 aop.eq_2 aop.eq_3 aop.eq_4 aop.eq_5 aop.eq_6 aop.eq_7 aop.eq_8 aop.eq_9 aop_bin atS_apply aop_un_not aop_un_neg aop.eq_14 aop.eq_15 aop.eq_16 aop.eq_17 aop.eq_18 aop_sc cutS_apply cutN_apply cutL_apply cutO_apply aop.eq_20 aop.eq_21 aop.eq_22 aop.eq_23 aop.eq_24 aop.eq_25 aop.eq_26 aop.eq_27 aop.eq_28 aop.eq_29 aop.eq_30 aop.eq_31 aop.eq_32 blk_push next_push blk_set next_set blk_kill next_kill frL_nil frL_cons Fits_nil Fits_cons Int.reduceBEq Int.reduceBNe Nat.sub_zero Option.map_some Option.map_none List.set_cons_succ true_or or_true false_or or_false Int.le_refl Int.cast_ofNat_Int decide_true decide_false List.cons_append fillA fillR rowsOf List.replicate_succ List.replicate_zero Nat.zero_mul getD_drop List.length_drop splice List.nil_append List.append_nil cond_true cond_false List.set_cons_zero List.length_set ev put_some put_none upd_apply abin asNat bounds row1 mk List.length_cons List.length_nil List.length_map List.drop_zero List.drop_succ_cons List.drop_nil List.getD_cons_zero List.getD_cons_succ Option.getD_none Option.getD_some List.take_succ_cons List.take_zero List.take_nil true_and and_true Int.toNat_natCast if_true if_false Nat.zero_add Nat.add_zero List.map_cons List.map_nil Nat.reduceEqDiff Nat.left_eq_add Nat.add_eq_left Nat.add_left_cancel_iff Nat.add_assoc Nat.reduceSub Nat.reduceAdd Nat.reduceLeDiff Nat.le_refl Nat.zero_le Nat.zero_lt_one Nat.lt_add_one Int.reduceLT Int.reduceLE Int.reduceToNat Nat.reduceLT Nat.reduceBEq Bool.false_eq_true Nat.reduceBNe ne_eq not_false_eq_true not_true_eq_false false_and and_false reduceIte Int.natCast_nonneg reduceCtorEq parts_agg parts_bool parts_int parts_str parts_lit parts_nils parts_sl parts_ptr parts_iface parts_nilp parts_niliface Int.natCast_nonneg Int.natCast_nonneg beq_self_eq_true bne_self_eq_false Bool.true_and Bool.false_and Bool.and_true Bool.and_false Bool.true_or Bool.false_or Bool.or_true Bool.or_false Bool.not_true Bool.not_false
attribute [local go_sem] I ints tenA

def rows7 (l : List Int) (s : ByteArray) (i : Nat) : List (List AV) := [[.iface 2 (I i)], [.iface 22 (ints l)], [.iface 9 (.str s)], [.niliface], [.iface 4 (.bool true)], [.iface 28 (tenA [] l)], [.iface 42 (.emp true 1)]]
def V7 (l : List Int) (s : ByteArray) (i : Nat) : AV := ((rows7 l s i).getD i []).getD 0 .undef
def K7 (i : Nat) : Nat := [1, 2, 4, 0, 0, 3, 5].getD i 0
theorem rows7_get (l : List Int) (s : ByteArray) {i : Nat} (h : i < 7) : (rows7 l s i).getD i [] = [V7 l s i] := by
  rcases i with _ | _ | _ | _ | _ | _ | _ | i <;> first | rfl | omega
theorem V7_parts (l : List Int) (s : ByteArray) {i : Nat} (h : i < 7) : (V7 l s i).parts = true ∧ row1 (V7 l s i) = [V7 l s i] := by
  rcases i with _ | _ | _ | _ | _ | _ | _ | i <;> first | exact ⟨rfl, rfl⟩ | omega
theorem V7_kind (l : List Int) (s : ByteArray) {i : Nat} (h : i < 7) (u : St) : T Try.prog 16 [V7 l s i] u (I (K7 i)) u := by
  rcases i with _ | _ | _ | _ | _ | _ | _ | i
  · exact kind_whole2 _ u
  · exact kind_row l u
  · exact kind_text s u
  · exact kind_none u
  · exact kind_o4 _ u
  · exact kind_full [] l u
  · exact kind_many _ u
  · omega
def VS (l : List Int) (s : ByteArray) (k : Nat) : List AV := (List.range k).map (V7 l s)
def KS (k : Nat) : List Nat := (List.range k).map K7
theorem VS_len (l : List Int) (s : ByteArray) (k : Nat) : (VS l s k).length = k := by simp [VS]
theorem VS_snoc (l : List Int) (s : ByteArray) (k : Nat) : VS l s (k + 1) = VS l s k ++ [V7 l s k] := by simp [VS, List.range_succ]
theorem VS_get (l : List Int) (s : ByteArray) {k i : Nat} (h : i < k) : ((VS l s k).map fun v => [v]).getD i [] = [V7 l s i] := by
  simp [VS, List.getD_eq_getElem?_getD, h]
theorem and_nat (x : Int) (k : Nat) (hk : k ≤ 1000) : 0 ≤ bits .and .i64 x k ∧ bits .and .i64 x k ≤ k := by
  have e : bits .and .i64 x k = IntKind.i64.wrap (((BitVec.ofInt IntKind.i64.bits x &&& BitVec.ofInt IntKind.i64.bits (k : Int)).toNat : Nat) : Int) := rfl
  have h : (BitVec.ofInt IntKind.i64.bits x &&& BitVec.ofInt IntKind.i64.bits (k : Int)).toNat ≤ k := by
    rw [BitVec.toNat_and]
    refine Nat.le_trans Nat.and_le_right ?_
    rw [BitVec.ofInt_natCast, BitVec.toNat_ofNat]
    exact Nat.mod_le _ _
  rw [e, IntWalk.i64_in _ (by omega)]
  omega
/-- What the counts are. -/
def cA (k : Nat) : List Int := cntF (KS k)
def cB (k : Nat) : List Int := cntF (KS k ++ KS k)
def sumI (l : List Int) : Int := l.foldl (· + ·) 0
theorem count_facts : ∀ k : Fin 8, (∀ d : Fin 6, (cB k).getD d 0 = 2 * (cA k).getD d 0 ∧ 0 ≤ (cA k).getD d 0 ∧ (cA k).getD d 0 ≤ 7 ∧ 0 ≤ sumI ((cA k).take d) ∧ sumI ((cA k).take d) ≤ 7 ∧ sumI ((cA k).take (d + 1)) = sumI ((cA k).take d) + (cA k).getD d 0) ∧ sumI ((cA k).take 6) = k ∧ ∀ i : Fin 7, i.1 < k.1 → 1 ≤ (cA k).getD (K7 i) 0 := by decide +kernel
theorem K7_lt : ∀ i : Fin 7, K7 i < 6 := by decide
/-- law3.DatumCounts -/
theorem datumCounts_spec (l : List Int) (s : ByteArray) (n : Int) (σ : St) : T Try.prog 6 [ints l, .str s, I n] σ (.bool true) σ := by
  refine B.in6 (by simp) fun wf hab => ?_
  clear hab
  unfold B.c6
  first | refine .seq (.rg fun A hA K hK => ?_) | refine .seq (.seq (.rg fun A hA K hK => ?_)) | refine .rg fun A hA K hK => ?_ | refine .seq (.rd fun A hA K hK => ?_) | refine .seq (.seq (.rd fun A hA K hK => ?_)) | refine .rd fun A hA K hK => ?_
  simp (maxSteps := 1000000) only [go_sem, hA.nil, hA.go, hA.yes, hA.noT, hA.noF, hA.skp]
  refine hK _ _ ?_; clear hK K hA A
  have ha : 0 ≤ bits .and .i64 n 7 ∧ bits .and .i64 n 7 ≤ 7 := and_nat n 7 (by decide)
  obtain ⟨k, hk⟩ := Int.eq_ofNat_of_zero_le ha.1
  have hk7 : k ≤ 7 := by omega
  first | refine .seq (.rg fun A hA K hK => ?_) | refine .seq (.seq (.rg fun A hA K hK => ?_)) | refine .rg fun A hA K hK => ?_ | refine .seq (.rd fun A hA K hK => ?_) | refine .seq (.seq (.rd fun A hA K hK => ?_)) | refine .rd fun A hA K hK => ?_
  simp (maxSteps := 1000000) only [go_sem, hA.nil, hA.go, hA.yes, hA.noT, hA.noF, hA.skp, hk]
  refine hK _ _ ?_; clear hK K hA A
  first | refine .seq (.rg fun A hA K hK => ?_) | refine .seq (.seq (.rg fun A hA K hK => ?_)) | refine .rg fun A hA K hK => ?_ | refine .seq (.rd fun A hA K hK => ?_) | refine .seq (.seq (.rd fun A hA K hK => ?_)) | refine .rd fun A hA K hK => ?_
  simp (maxSteps := 1000000) only [go_sem, hA.nil, hA.go, hA.yes, hA.noT, hA.noF, hA.skp]
  refine hK _ _ ?_; clear hK K hA A
  first | refine .seq (.rg fun A hA K hK => ?_) | refine .seq (.seq (.rg fun A hA K hK => ?_)) | refine .rg fun A hA K hK => ?_ | refine .seq (.rd fun A hA K hK => ?_) | refine .seq (.seq (.rd fun A hA K hK => ?_)) | refine .rd fun A hA K hK => ?_
  simp (maxSteps := 1000000) only [go_sem, hA.nil, hA.go, hA.yes, hA.noT, hA.noF, hA.skp]
  refine hK _ _ ?_; clear hK K hA A
  refine .countK (N := k) (fun i L t => ∃ v, L = [(0, ints l), (1, .str s), (7, I k), (8, v), (9, I i)] ∧ ((v = .nils ∧ i = 0) ∨ ∃ c, v = .sl c 0 i ∧ t.blk c = some (.cells 1 ((VS l s i).map fun v => [v])) ∧ σ.next ≤ c ∧ c < t.next) ∧ Ext σ t) (by simp only [most]; omega)
    ⟨_, ⟨.nils, rfl, .inl ⟨rfl, rfl⟩, .refl σ⟩, by simp (maxSteps := 1000000) only [go_sem, hk]; try rfl⟩ ?_ ?_ ?_
  · rintro i L t hi ⟨v, rfl, ho, hx⟩
    first | refine .seq (.rg fun A hA K hK => ?_) | refine .seq (.seq (.rg fun A hA K hK => ?_)) | refine .rg fun A hA K hK => ?_ | refine .seq (.rd fun A hA K hK => ?_) | refine .seq (.seq (.rd fun A hA K hK => ?_)) | refine .rd fun A hA K hK => ?_
    simp (maxSteps := 1000000) only [go_sem, hA.nil, hA.go, hA.yes, hA.noT, hA.noF, hA.skp]
    refine hK _ _ ?_; clear hK K hA A
    exact ⟨rfl, by simp (maxSteps := 1000000) only [go_sem, Int.ofNat_lt], _, ⟨v, rfl, ho, hx⟩, by simp (maxSteps := 1000000) only [go_sem]⟩
  · rintro i L t hi ⟨v, rfl, ho, hx⟩
    have w0 : ¬ ((7 : Int) = 0) := by decide
    rcases (by omega : i = 0 ∨ i = 1 ∨ i = 2 ∨ i = 3 ∨ i = 4 ∨ i = 5 ∨ i = 6) with rfl | rfl | rfl | rfl | rfl | rfl | rfl
    · have w1 : Int.tmod 0 7 = 0 := by decide
      have m00 : 1 ≤ most := by decide
      have m10 : 16 ≤ most := by decide
      have hvs := VS_snoc l s 0
      rcases ho with ⟨rfl, hz⟩ | ⟨c, rfl, h2, h3, h4⟩
      · first | refine .seq (.rg fun A hA K hK => ?_) | refine .seq (.seq (.rg fun A hA K hK => ?_)) | refine .rg fun A hA K hK => ?_ | refine .seq (.rd fun A hA K hK => ?_) | refine .seq (.seq (.rd fun A hA K hK => ?_)) | refine .rd fun A hA K hK => ?_
        simp (maxSteps := 1000000) only [go_sem, hA.nil, hA.go, hA.yes, hA.noT, hA.noF, hA.skp, w0, w1]
        refine ⟨by decide, by decide, ?_⟩
        refine hK _ _ ?_; clear hK K hA A
        exact ⟨by simp (maxSteps := 1000000) only [go_sem], _, ⟨_, rfl, .inr ⟨t.next, rfl, by simp (maxSteps := 1000000) only [go_sem, VS, List.range_succ]; try rfl, by have := hx.1; omega, by simp (maxSteps := 1000000) only [go_sem]⟩, ⟨by have := hx.1; simp (maxSteps := 1000000) only [go_sem]; omega, fun b hb => by have := hx.1; simp (disch := omega) only [go_sem, if_neg, hx.2 b hb]⟩⟩, by simp (maxSteps := 1000000) only [go_sem]; try rfl⟩
      · have ht : List.take 0 ((VS l s 0).map fun v => [v]) = (VS l s 0).map fun v => [v] := List.take_of_length_le (by simp [VS])
        have hvl := VS_len l s 0
        first | refine .seq (.rg fun A hA K hK => ?_) | refine .seq (.seq (.rg fun A hA K hK => ?_)) | refine .rg fun A hA K hK => ?_ | refine .seq (.rd fun A hA K hK => ?_) | refine .seq (.seq (.rd fun A hA K hK => ?_)) | refine .rd fun A hA K hK => ?_
        simp (maxSteps := 1000000) only [go_sem, hA.nil, hA.go, hA.yes, hA.noT, hA.noF, hA.skp, w0, w1, h2, ht, hvl, m00, m10]
        refine hK _ _ ?_; clear hK K hA A
        exact ⟨by simp (maxSteps := 1000000) only [go_sem], _, ⟨_, rfl, .inr ⟨t.next, by simp (maxSteps := 1000000) only [go_sem]; try rfl, by rw [hvs]; simp (disch := omega) only [go_sem, if_neg, if_true, List.map_append]; try rfl, by have := hx.1; omega, by simp (maxSteps := 1000000) only [go_sem]⟩, ⟨by have := hx.1; simp (maxSteps := 1000000) only [go_sem]; omega, fun b hb => by have := hx.1; simp (disch := omega) only [go_sem, if_neg, hx.2 b hb]⟩⟩, by simp (maxSteps := 1000000) only [go_sem]; try rfl⟩
    · have w1 : Int.tmod 1 7 = 1 := by decide
      have m01 : 2 ≤ most := by decide
      have m11 : 32 ≤ most := by decide
      have hvs := VS_snoc l s 1
      rcases ho with ⟨rfl, hz⟩ | ⟨c, rfl, h2, h3, h4⟩
      · omega
      · have ht : List.take 1 ((VS l s 1).map fun v => [v]) = (VS l s 1).map fun v => [v] := List.take_of_length_le (by simp [VS])
        have hvl := VS_len l s 1
        first | refine .seq (.rg fun A hA K hK => ?_) | refine .seq (.seq (.rg fun A hA K hK => ?_)) | refine .rg fun A hA K hK => ?_ | refine .seq (.rd fun A hA K hK => ?_) | refine .seq (.seq (.rd fun A hA K hK => ?_)) | refine .rd fun A hA K hK => ?_
        simp (maxSteps := 1000000) only [go_sem, hA.nil, hA.go, hA.yes, hA.noT, hA.noF, hA.skp, w0, w1, h2, ht, hvl, m01, m11]
        refine hK _ _ ?_; clear hK K hA A
        exact ⟨by simp (maxSteps := 1000000) only [go_sem], _, ⟨_, rfl, .inr ⟨t.next, by simp (maxSteps := 1000000) only [go_sem]; try rfl, by rw [hvs]; simp (disch := omega) only [go_sem, if_neg, if_true, List.map_append]; try rfl, by have := hx.1; omega, by simp (maxSteps := 1000000) only [go_sem]⟩, ⟨by have := hx.1; simp (maxSteps := 1000000) only [go_sem]; omega, fun b hb => by have := hx.1; simp (disch := omega) only [go_sem, if_neg, hx.2 b hb]⟩⟩, by simp (maxSteps := 1000000) only [go_sem]; try rfl⟩
    · have w1 : Int.tmod 2 7 = 2 := by decide
      have m02 : 3 ≤ most := by decide
      have m12 : 48 ≤ most := by decide
      have hvs := VS_snoc l s 2
      rcases ho with ⟨rfl, hz⟩ | ⟨c, rfl, h2, h3, h4⟩
      · omega
      · have ht : List.take 2 ((VS l s 2).map fun v => [v]) = (VS l s 2).map fun v => [v] := List.take_of_length_le (by simp [VS])
        have hvl := VS_len l s 2
        first | refine .seq (.rg fun A hA K hK => ?_) | refine .seq (.seq (.rg fun A hA K hK => ?_)) | refine .rg fun A hA K hK => ?_ | refine .seq (.rd fun A hA K hK => ?_) | refine .seq (.seq (.rd fun A hA K hK => ?_)) | refine .rd fun A hA K hK => ?_
        simp (maxSteps := 1000000) only [go_sem, hA.nil, hA.go, hA.yes, hA.noT, hA.noF, hA.skp, w0, w1, h2, ht, hvl, m02, m12]
        refine hK _ _ ?_; clear hK K hA A
        exact ⟨by simp (maxSteps := 1000000) only [go_sem], _, ⟨_, rfl, .inr ⟨t.next, by simp (maxSteps := 1000000) only [go_sem]; try rfl, by rw [hvs]; simp (disch := omega) only [go_sem, if_neg, if_true, List.map_append]; try rfl, by have := hx.1; omega, by simp (maxSteps := 1000000) only [go_sem]⟩, ⟨by have := hx.1; simp (maxSteps := 1000000) only [go_sem]; omega, fun b hb => by have := hx.1; simp (disch := omega) only [go_sem, if_neg, hx.2 b hb]⟩⟩, by simp (maxSteps := 1000000) only [go_sem]; try rfl⟩
    · have w1 : Int.tmod 3 7 = 3 := by decide
      have m03 : 4 ≤ most := by decide
      have m13 : 64 ≤ most := by decide
      have hvs := VS_snoc l s 3
      rcases ho with ⟨rfl, hz⟩ | ⟨c, rfl, h2, h3, h4⟩
      · omega
      · have ht : List.take 3 ((VS l s 3).map fun v => [v]) = (VS l s 3).map fun v => [v] := List.take_of_length_le (by simp [VS])
        have hvl := VS_len l s 3
        first | refine .seq (.rg fun A hA K hK => ?_) | refine .seq (.seq (.rg fun A hA K hK => ?_)) | refine .rg fun A hA K hK => ?_ | refine .seq (.rd fun A hA K hK => ?_) | refine .seq (.seq (.rd fun A hA K hK => ?_)) | refine .rd fun A hA K hK => ?_
        simp (maxSteps := 1000000) only [go_sem, hA.nil, hA.go, hA.yes, hA.noT, hA.noF, hA.skp, w0, w1, h2, ht, hvl, m03, m13]
        refine hK _ _ ?_; clear hK K hA A
        exact ⟨by simp (maxSteps := 1000000) only [go_sem], _, ⟨_, rfl, .inr ⟨t.next, by simp (maxSteps := 1000000) only [go_sem]; try rfl, by rw [hvs]; simp (disch := omega) only [go_sem, if_neg, if_true, List.map_append]; try rfl, by have := hx.1; omega, by simp (maxSteps := 1000000) only [go_sem]⟩, ⟨by have := hx.1; simp (maxSteps := 1000000) only [go_sem]; omega, fun b hb => by have := hx.1; simp (disch := omega) only [go_sem, if_neg, hx.2 b hb]⟩⟩, by simp (maxSteps := 1000000) only [go_sem]; try rfl⟩
    · have w1 : Int.tmod 4 7 = 4 := by decide
      have m04 : 5 ≤ most := by decide
      have m14 : 80 ≤ most := by decide
      have hvs := VS_snoc l s 4
      rcases ho with ⟨rfl, hz⟩ | ⟨c, rfl, h2, h3, h4⟩
      · omega
      · have ht : List.take 4 ((VS l s 4).map fun v => [v]) = (VS l s 4).map fun v => [v] := List.take_of_length_le (by simp [VS])
        have hvl := VS_len l s 4
        first | refine .seq (.rg fun A hA K hK => ?_) | refine .seq (.seq (.rg fun A hA K hK => ?_)) | refine .rg fun A hA K hK => ?_ | refine .seq (.rd fun A hA K hK => ?_) | refine .seq (.seq (.rd fun A hA K hK => ?_)) | refine .rd fun A hA K hK => ?_
        simp (maxSteps := 1000000) only [go_sem, hA.nil, hA.go, hA.yes, hA.noT, hA.noF, hA.skp, w0, w1, h2, ht, hvl, m04, m14]
        refine hK _ _ ?_; clear hK K hA A
        exact ⟨by simp (maxSteps := 1000000) only [go_sem], _, ⟨_, rfl, .inr ⟨t.next, by simp (maxSteps := 1000000) only [go_sem]; try rfl, by rw [hvs]; simp (disch := omega) only [go_sem, if_neg, if_true, List.map_append]; try rfl, by have := hx.1; omega, by simp (maxSteps := 1000000) only [go_sem]⟩, ⟨by have := hx.1; simp (maxSteps := 1000000) only [go_sem]; omega, fun b hb => by have := hx.1; simp (disch := omega) only [go_sem, if_neg, hx.2 b hb]⟩⟩, by simp (maxSteps := 1000000) only [go_sem]; try rfl⟩
    · have w1 : Int.tmod 5 7 = 5 := by decide
      have m05 : 6 ≤ most := by decide
      have m15 : 96 ≤ most := by decide
      have hvs := VS_snoc l s 5
      rcases ho with ⟨rfl, hz⟩ | ⟨c, rfl, h2, h3, h4⟩
      · omega
      · have ht : List.take 5 ((VS l s 5).map fun v => [v]) = (VS l s 5).map fun v => [v] := List.take_of_length_le (by simp [VS])
        have hvl := VS_len l s 5
        first | refine .seq (.rg fun A hA K hK => ?_) | refine .seq (.seq (.rg fun A hA K hK => ?_)) | refine .rg fun A hA K hK => ?_ | refine .seq (.rd fun A hA K hK => ?_) | refine .seq (.seq (.rd fun A hA K hK => ?_)) | refine .rd fun A hA K hK => ?_
        simp (maxSteps := 1000000) only [go_sem, hA.nil, hA.go, hA.yes, hA.noT, hA.noF, hA.skp, w0, w1, h2, ht, hvl, m05, m15]
        refine hK _ _ ?_; clear hK K hA A
        exact ⟨by simp (maxSteps := 1000000) only [go_sem], _, ⟨_, rfl, .inr ⟨t.next, by simp (maxSteps := 1000000) only [go_sem]; try rfl, by rw [hvs]; simp (disch := omega) only [go_sem, if_neg, if_true, List.map_append]; try rfl, by have := hx.1; omega, by simp (maxSteps := 1000000) only [go_sem]⟩, ⟨by have := hx.1; simp (maxSteps := 1000000) only [go_sem]; omega, fun b hb => by have := hx.1; simp (disch := omega) only [go_sem, if_neg, hx.2 b hb]⟩⟩, by simp (maxSteps := 1000000) only [go_sem]; try rfl⟩
    · have w1 : Int.tmod 6 7 = 6 := by decide
      have m06 : 7 ≤ most := by decide
      have m16 : 112 ≤ most := by decide
      have hvs := VS_snoc l s 6
      rcases ho with ⟨rfl, hz⟩ | ⟨c, rfl, h2, h3, h4⟩
      · omega
      · have ht : List.take 6 ((VS l s 6).map fun v => [v]) = (VS l s 6).map fun v => [v] := List.take_of_length_le (by simp [VS])
        have hvl := VS_len l s 6
        first | refine .seq (.rg fun A hA K hK => ?_) | refine .seq (.seq (.rg fun A hA K hK => ?_)) | refine .rg fun A hA K hK => ?_ | refine .seq (.rd fun A hA K hK => ?_) | refine .seq (.seq (.rd fun A hA K hK => ?_)) | refine .rd fun A hA K hK => ?_
        simp (maxSteps := 1000000) only [go_sem, hA.nil, hA.go, hA.yes, hA.noT, hA.noF, hA.skp, w0, w1, h2, ht, hvl, m06, m16]
        refine hK _ _ ?_; clear hK K hA A
        exact ⟨by simp (maxSteps := 1000000) only [go_sem], _, ⟨_, rfl, .inr ⟨t.next, by simp (maxSteps := 1000000) only [go_sem]; try rfl, by rw [hvs]; simp (disch := omega) only [go_sem, if_neg, if_true, List.map_append]; try rfl, by have := hx.1; omega, by simp (maxSteps := 1000000) only [go_sem]⟩, ⟨by have := hx.1; simp (maxSteps := 1000000) only [go_sem]; omega, fun b hb => by have := hx.1; simp (disch := omega) only [go_sem, if_neg, hx.2 b hb]⟩⟩, by simp (maxSteps := 1000000) only [go_sem]; try rfl⟩
  · rintro L t F ⟨v, rfl, ho, hx⟩ hf
    have hl := VS_len l s k
    obtain ⟨F', u, en, hf', hxu⟩ : ∃ F' u, Ent σ.next F t F' u ∧ Fits F' [(0, ints l), (1, .str s), (7, I k), (8, .lit 1 ((VS l s k).map fun v => [v]))] ∧ Ext σ u := by
      simp (maxSteps := 1000000) only [go_sem] at hf
      rcases ho with ⟨rfl, hz⟩ | ⟨c, rfl, h2, h3, h4⟩
      · refine ⟨_, _, .lit0 (i := 8) 1 (by simp (maxSteps := 1000000) only [go_sem, hf]), by subst hz; simp (maxSteps := 1000000) only [go_sem, hf, VS, List.range_zero], hx⟩
      · refine ⟨_, _, .freeze (i := 8) (by simp (maxSteps := 1000000) only [go_sem, hf]; try rfl) h2 (by simp [hl]), ?_, ⟨by rw [next_kill]; exact hx.1, fun b hb => by rw [blk_kill, if_neg (by omega)]; exact hx.2 b hb⟩⟩
        have : ((((VS l s k).map fun v => [v]).drop 0).take k) = (VS l s k).map fun v => [v] := List.take_of_length_le (by simp [hl])
        rw [this]
        simp (maxSteps := 1000000) only [go_sem, hf]
    refine .ent en (.keep _ hf' ?_)
    clear en hf' hf hx ho
    have hk1 : KS k = KS k := rfl
    have hkl : (KS k).length = k := by simp [KS]
    have kin : ∀ i, i < k → (KS k).getD i 0 = K7 i := fun i hi => by simp [KS, List.getD_eq_getElem?_getD, hi]
    have vin : ∀ i (h : i < (VS l s k).length), (VS l s k)[i] = V7 l s i := fun i h => by simp [VS]
    have c1 := count_spec (VS l s k) (KS k) (by rw [hl, hkl]) (fun i h => by
      have hi : i < k := by omega
      rw [kin i hi, vin i h]
      exact ⟨K7_lt ⟨i, by omega⟩, V7_kind l s (by omega)⟩) u
    have c2 := fun u => count_spec (VS l s k ++ VS l s k) (KS k ++ KS k) (by simp [hl, hkl]) (fun i h => by
      have hi : i < k + k := by simp [hl] at h; exact h
      by_cases hik : i < k
      · rw [List.getElem_append_left (by omega), vin i (by omega), List.getD_eq_getElem?_getD, List.getElem?_append_left (by omega), ← List.getD_eq_getElem?_getD, kin i hik]
        exact ⟨K7_lt ⟨i, by omega⟩, V7_kind l s (by omega)⟩
      · rw [List.getElem_append_right (by omega), vin _ (by omega), List.getD_eq_getElem?_getD, List.getElem?_append_right (by omega), ← List.getD_eq_getElem?_getD, hkl, kin _ (by omega), hl]
        exact ⟨K7_lt ⟨i - k, by omega⟩, V7_kind l s (by omega)⟩) u
    have c1 : T Try.prog 15 [.lit 1 ((VS l s k).map fun v => [v])] u (ints (cA k)) u := c1
    have c2 : ∀ u b, u.blk b = some (.cells 1 ((VS l s k).map (fun v => [v]) ++ (VS l s k).map fun v => [v])) → TQ Try.prog 15 [.sl b 0 (k + k)] u fun v t => v = ints (cB k) ∧ t = u.kill b := fun u b hb => by
      refine TQ.frz 0 rfl hb (by simp [hl]) ?_
      have := c2 (u.kill b)
      rw [List.map_append] at this
      exact this
    have cf := count_facts ⟨k, by omega⟩
    simp only at cf
    have vg : ∀ i, i < k → ((VS l s k).map fun v => [v]).getD i [] = [V7 l s i] := fun i hi => VS_get l s hi
    have la : (cA k).length = 6 := cntF_len _
    have lb : (cB k).length = 6 := cntF_len _
    clear hkl kin vin hk1
    generalize cA k = cs at c1 cf la
    generalize cB k = ds at c2 cf lb
    have hl' : ((VS l s k).map fun v => [v]).length = k := by simp [hl]
    generalize hR : ((VS l s k).map fun v => [v]) = R at c1 c2 vg hl' ⊢
    have m1 : k ≤ most := by simp only [most]; omega
    have m2 : k * 16 ≤ most := by simp only [most]; omega
    have m3 : k + k ≤ most := by simp only [most]; omega
    have m4 : (k + k) * 16 ≤ most := by simp only [most]; omega
    have htk : List.take k R = R := List.take_of_length_le (by omega)
    first | refine .seq (.rg fun A hA K hK => ?_) | refine .seq (.seq (.rg fun A hA K hK => ?_)) | refine .rg fun A hA K hK => ?_ | refine .seq (.rd fun A hA K hK => ?_) | refine .seq (.seq (.rd fun A hA K hK => ?_)) | refine .rd fun A hA K hK => ?_
    simp (maxSteps := 1000000) only [go_sem, hA.nil, hA.go, hA.yes, hA.noT, hA.noF, hA.skp]
    refine aopq_callT c1 (by simp (maxSteps := 1000000) only [go_sem]) ?_
    try simp (maxSteps := 1000000) only [go_sem, hA.nil, hA.go, hA.yes, hA.noT, hA.noF, hA.skp, hl', m1, m2, m3, m4, htk]
    have hb2 : (((u.push (.cells 1 R)).kill u.next).push (.cells 1 (R ++ R))).blk (u.next + 1) = some (.cells 1 (R ++ R)) := by simp (maxSteps := 1000000) only [go_sem]
    refine aopq_callQ (c2 _ _ hb2) (by simp (maxSteps := 1000000) only [go_sem]) ?_
    rintro _ _ ⟨rfl, rfl⟩
    try simp (maxSteps := 1000000) only [go_sem, hA.nil, hA.go, hA.yes, hA.noT, hA.noF, hA.skp]
    refine hK _ _ ?_; clear hK K hA A
    have hxy : Ext σ ((((u.push (.cells 1 R)).kill u.next).push (.cells 1 (R ++ R))).kill (u.next + 1)) := ⟨by have := hxu.1; simp (maxSteps := 1000000) only [go_sem]; omega, fun b hb => by have := hxu.1; simp (disch := omega) only [go_sem, if_neg, hxu.2 b hb]⟩
    generalize (((u.push (.cells 1 R)).kill u.next).push (.cells 1 (R ++ R))).kill (u.next + 1) = y at hxy ⊢
    refine .keep [(7, I k), (8, .lit 1 R), (10, ints cs), (11, ints ds)] (by simp (maxSteps := 1000000) only [go_sem]) ?_
    clear c1 c2 hb2 hxu
    first | refine .seq (.rg fun A hA K hK => ?_) | refine .seq (.seq (.rg fun A hA K hK => ?_)) | refine .rg fun A hA K hK => ?_ | refine .seq (.rd fun A hA K hK => ?_) | refine .seq (.seq (.rd fun A hA K hK => ?_)) | refine .rd fun A hA K hK => ?_
    simp (maxSteps := 1000000) only [go_sem, hA.nil, hA.go, hA.yes, hA.noT, hA.noF, hA.skp, la, lb]
    refine hK _ _ ?_; clear hK K hA A
    refine .cond (t := false) (by simp (maxSteps := 1000000) only [go_sem]) (fun h => by cases h) (fun _ => .skip ?_)
    first | refine .seq (.rg fun A hA K hK => ?_) | refine .seq (.seq (.rg fun A hA K hK => ?_)) | refine .rg fun A hA K hK => ?_ | refine .seq (.rd fun A hA K hK => ?_) | refine .seq (.seq (.rd fun A hA K hK => ?_)) | refine .rd fun A hA K hK => ?_
    simp (maxSteps := 1000000) only [go_sem, hA.nil, hA.go, hA.yes, hA.noT, hA.noF, hA.skp]
    refine hK _ _ ?_; clear hK K hA A
    first | refine .seq (.rg fun A hA K hK => ?_) | refine .seq (.seq (.rg fun A hA K hK => ?_)) | refine .rg fun A hA K hK => ?_ | refine .seq (.rd fun A hA K hK => ?_) | refine .seq (.seq (.rd fun A hA K hK => ?_)) | refine .rd fun A hA K hK => ?_
    simp (maxSteps := 1000000) only [go_sem, hA.nil, hA.go, hA.yes, hA.noT, hA.noF, hA.skp, la]
    refine hK _ _ ?_; clear hK K hA A
    obtain ⟨cf1, cf2, cf3⟩ := cf
    refine .rangeK (N := 6) (fun i L t => L = [(7, I k), (8, .lit 1 R), (10, ints cs), (11, ints ds), (12, I (sumI (cs.take i))), (58, ints cs), (59, I (6 : Nat)), (60, I i)] ∧ t = y) (by decide) ⟨_, ⟨rfl, rfl⟩, by simp (maxSteps := 1000000) only [go_sem, sumI, List.foldl_nil]; try rfl⟩ ?_ ?_ ?_
    · rintro i L t ⟨rfl, _⟩
      exact ⟨by simp (maxSteps := 1000000) only [go_sem], by simp (maxSteps := 1000000) only [go_sem], rfl⟩
    · rintro i L t hi ⟨rfl, rfl⟩
      obtain ⟨f1, f2, f3, f4, f5, f6⟩ := cf1 ⟨i, hi⟩
      simp only at f1 f2 f3 f4 f5 f6
      have ga : (cs.map fun n => [I n]).getD i [] = [I (cs.getD i 0)] := by rw [ints_get (by omega)]; simp [List.getD_eq_getElem?_getD, show i < cs.length by omega]
      have gb : (ds.map fun n => [I n]).getD i [] = [I (2 * cs.getD i 0)] := by rw [← f1, ints_get (by omega)]; simp [List.getD_eq_getElem?_getD, show i < ds.length by omega]
      have e0 : (i : Int) < ((6 : Nat) : Int) := by omega
      have e1 : (i : Int) < 6 := by omega
      have w1 : IntKind.i64.wrap (sumI (cs.take i) + cs.getD i 0) = sumI (cs.take (i + 1)) := by rw [f6]; exact IntWalk.i64_in _ (by omega)
      have w2 : IntKind.i64.wrap (2 * cs.getD i 0) = 2 * cs.getD i 0 := IntWalk.i64_in _ (by omega)
      first | refine .seq (.rg fun A hA K hK => ?_) | refine .seq (.seq (.rg fun A hA K hK => ?_)) | refine .rg fun A hA K hK => ?_ | refine .seq (.rd fun A hA K hK => ?_) | refine .seq (.seq (.rd fun A hA K hK => ?_)) | refine .rd fun A hA K hK => ?_
      simp (maxSteps := 1000000) only [go_sem, hA.nil, hA.go, hA.yes, hA.noT, hA.noF, hA.skp]
      refine hK _ _ ?_; clear hK K hA A
      first | refine .seq (.rg fun A hA K hK => ?_) | refine .seq (.seq (.rg fun A hA K hK => ?_)) | refine .rg fun A hA K hK => ?_ | refine .seq (.rd fun A hA K hK => ?_) | refine .seq (.seq (.rd fun A hA K hK => ?_)) | refine .rd fun A hA K hK => ?_
      simp (maxSteps := 1000000) only [go_sem, hA.nil, hA.go, hA.yes, hA.noT, hA.noF, hA.skp, la, lb, ga, e0, e1, w1, hi]
      refine hK _ _ ?_; clear hK K hA A
      first | refine .seq (.rg fun A hA K hK => ?_) | refine .seq (.seq (.rg fun A hA K hK => ?_)) | refine .rg fun A hA K hK => ?_ | refine .seq (.rd fun A hA K hK => ?_) | refine .seq (.seq (.rd fun A hA K hK => ?_)) | refine .rd fun A hA K hK => ?_
      simp (maxSteps := 1000000) only [go_sem, hA.nil, hA.go, hA.yes, hA.noT, hA.noF, hA.skp, la, lb, ga, gb, e0, e1, w2, hi]
      refine hK _ _ ?_; clear hK K hA A
      refine .cond (t := false) (by simp (maxSteps := 1000000) only [go_sem]) (fun h => by cases h) (fun _ => .skip ?_)
      exact ⟨by simp (maxSteps := 1000000) only [go_sem], _, ⟨rfl, rfl⟩, by simp (maxSteps := 1000000) only [go_sem]; try rfl⟩
    · rintro L t F ⟨rfl, rfl⟩ hf
      rw [cf2] at hf
      simp (maxSteps := 1000000) only [go_sem] at hf
      refine .keep [(7, I k), (8, .lit 1 R), (10, ints cs), (12, I k)] (by simp (maxSteps := 1000000) only [go_sem, hf]) ?_
      clear hf
      first | refine .seq (.rg fun A hA K hK => ?_) | refine .seq (.seq (.rg fun A hA K hK => ?_)) | refine .rg fun A hA K hK => ?_ | refine .seq (.rd fun A hA K hK => ?_) | refine .seq (.seq (.rd fun A hA K hK => ?_)) | refine .rd fun A hA K hK => ?_
      simp (maxSteps := 1000000) only [go_sem, hA.nil, hA.go, hA.yes, hA.noT, hA.noF, hA.skp, hl']
      refine hK _ _ ?_; clear hK K hA A
      refine .rangeK (N := k) (fun i L y => L = [(7, I k), (8, .lit 1 R), (10, ints cs), (12, I k), (80, .lit 1 R), (81, I k), (82, I i)] ∧ y = t) m1 ⟨_, ⟨rfl, rfl⟩, by simp (maxSteps := 1000000) only [go_sem, hl']; try rfl⟩ ?_ ?_ ?_
      · rintro i L y ⟨rfl, _⟩
        exact ⟨by simp (maxSteps := 1000000) only [go_sem], by simp (maxSteps := 1000000) only [go_sem], rfl⟩
      · rintro i L y hi ⟨rfl, rfl⟩
        have hi7 : i < 7 := by omega
        have gv := vg i hi
        have kd := V7_kind l s hi7 y
        have k6 := K7_lt ⟨i, hi7⟩
        have g1 := cf3 ⟨i, hi7⟩ hi
        simp only at k6 g1
        have gk : (cs.map fun n => [I n]).getD (K7 i) [] = [I (cs.getD (K7 i) 0)] := by rw [ints_get (by omega)]; simp [List.getD_eq_getElem?_getD, show K7 i < cs.length by omega]
        generalize V7 l s i = x at gv kd
        generalize cs.getD (K7 i) 0 = ck at gk g1
        generalize K7 i = q at kd k6 gk
        have e0 : (i : Int) < k := by omega
        have z1 : ¬ ((q : Int) < 0) := by omega
        have z2 : ¬ ((q : Int) > 5) := by omega
        have z3 : ¬ (ck < 1) := by omega
        have z4 : (q : Int) < ((6 : Nat) : Int) := by omega
        have z5 : (q : Int) < 6 := by omega
        first | refine .seq (.rg fun A hA K hK => ?_) | refine .seq (.seq (.rg fun A hA K hK => ?_)) | refine .rg fun A hA K hK => ?_ | refine .seq (.rd fun A hA K hK => ?_) | refine .seq (.seq (.rd fun A hA K hK => ?_)) | refine .rd fun A hA K hK => ?_
        simp (maxSteps := 1000000) only [go_sem, hA.nil, hA.go, hA.yes, hA.noT, hA.noF, hA.skp]
        refine hK _ _ ?_; clear hK K hA A
        first | refine .seq (.rg fun A hA K hK => ?_) | refine .seq (.seq (.rg fun A hA K hK => ?_)) | refine .rg fun A hA K hK => ?_ | refine .seq (.rd fun A hA K hK => ?_) | refine .seq (.seq (.rd fun A hA K hK => ?_)) | refine .rd fun A hA K hK => ?_
        simp (maxSteps := 1000000) only [go_sem, hA.nil, hA.go, hA.yes, hA.noT, hA.noF, hA.skp, hl', gv, e0, hi]
        first | refine aopq_call (kd) (by simp (maxSteps := 1000000) only [go_sem, hl', gv, e0, hi, z1]) ?_ | refine aop_call (kd) (by simp (maxSteps := 1000000) only [go_sem, hl', gv, e0, hi, z1]) ?_
        try simp (maxSteps := 1000000) only [go_sem, hA.nil, hA.go, hA.yes, hA.noT, hA.noF, hA.skp, hl', gv, e0, hi, z1]
        first | refine aopq_call (kd) (by simp (maxSteps := 1000000) only [go_sem, hl', gv, e0, hi, z1, z2]) ?_ | refine aop_call (kd) (by simp (maxSteps := 1000000) only [go_sem, hl', gv, e0, hi, z1, z2]) ?_
        try simp (maxSteps := 1000000) only [go_sem, hA.nil, hA.go, hA.yes, hA.noT, hA.noF, hA.skp, hl', gv, e0, hi, z1, z2]
        first | refine aopq_call (kd) (by simp (maxSteps := 1000000) only [go_sem, hl', gv, e0, hi, z1, z2, z3, z4, z5, gk, la, k6]) ?_ | refine aop_call (kd) (by simp (maxSteps := 1000000) only [go_sem, hl', gv, e0, hi, z1, z2, z3, z4, z5, gk, la, k6]) ?_
        try simp (maxSteps := 1000000) only [go_sem, hA.nil, hA.go, hA.yes, hA.noT, hA.noF, hA.skp, hl', gv, e0, hi, z1, z2, z3, z4, z5, gk, la, k6]
        refine hK _ _ ?_; clear hK K hA A
        refine .cond (t := false) (by simp (maxSteps := 1000000) only [go_sem, z1, z2, z3]) (fun h => by cases h) (fun _ => .skip ?_)
        exact ⟨by simp (maxSteps := 1000000) only [go_sem], _, ⟨rfl, rfl⟩, by simp (maxSteps := 1000000) only [go_sem]; try rfl⟩
      · rintro L y F ⟨rfl, rfl⟩ hf
        simp (maxSteps := 1000000) only [go_sem] at hf
        first | refine .seq (.rg fun A hA K hK => ?_) | refine .seq (.seq (.rg fun A hA K hK => ?_)) | refine .rg fun A hA K hK => ?_ | refine .seq (.rd fun A hA K hK => ?_) | refine .seq (.seq (.rd fun A hA K hK => ?_)) | refine .rd fun A hA K hK => ?_
        simp (maxSteps := 1000000) only [go_sem, hA.nil, hA.go, hA.yes, hA.noT, hA.noF, hA.skp, hf]
        first | refine aopq_call (known_spec y) (by simp (maxSteps := 1000000) only [go_sem, hf]) ?_ | refine aop_call (known_spec y) (by simp (maxSteps := 1000000) only [go_sem, hf]) ?_
        try simp (maxSteps := 1000000) only [go_sem, hA.nil, hA.go, hA.yes, hA.noT, hA.noF, hA.skp, hf]
        refine hK _ _ ?_; clear hK K hA A
        exact .ret (retB (by simp (maxSteps := 1000000) only [go_sem]) wf hxy.2 (.bool _) ⟨rfl, rfl⟩)
end Go.Proofs.Ytdmbgnppbchgcaa.Av
