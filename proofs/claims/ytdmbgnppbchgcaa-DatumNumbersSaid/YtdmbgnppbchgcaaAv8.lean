/- A logic of small values, and walks in it: Datum: a text's signs; Tensor. Datum: Tensor. The code of some functions in few words, and that it is the program's. Printed by a program. A function that ends in a panic: a type assertion that does not hold. Datum: sure. Datum: Must's closure. Datum: Must. Datum: tells. -/
import Derived.Test.YtdmbgnppbchgcaaAv7
import Derived.Test.YtdmbgnppbchgcaaProg
import Derived.KernelRfl
import Derived.Recover
import Derived.Tactics
import Derived.Tactics2
import Derived.Defers
import Derived.Laws.Pointers
set_option linter.unusedVariables false
set_option linter.unusedSimpArgs false
set_option linter.deprecated false
namespace Go.Proofs.Ytdmbgnppbchgcaa.Av
open Go Go.Av
set_option maxRecDepth 20000
set_option maxHeartbeats 4000000

attribute [local go_sem] step_apply stepD_apply stepE_apply
attribute [local go_sem] aopq_mv aopq_pk aopq_al aopq_bx aopq_bd aopq_bs aopq_ld aopq_st aopq_nc aopq_bin aopq_un aopq_cv aopq_mi aopq_mf aopq_mm aopq_ms aopq_sc aopq_fa aopq_fl aopq_ia aopq_lk aopq_mu aopq_lm aopq_rg aopq_rgs aopq_nxs aopq_msl aop_msl aop_rgs aop_nxs aopq_en aopq_ta aopq_ex aopq_ln aopq_ap aopq_mx aopq.eq_3 aop.eq_1 aop.eq_2 aop.eq_3 aop.eq_4 aop.eq_5 aop.eq_6 aop.eq_7 aop.eq_8 aop.eq_9 aop_bin atS_apply aop_un_not aop_un_neg aop.eq_14 aop.eq_15 aop.eq_16 aop.eq_17 aop.eq_18 aop_sc cutS_apply cutN_apply cutL_apply cutO_apply aop.eq_20 aop.eq_21 aop.eq_22 aop.eq_23 aop.eq_24 aop.eq_25 aop.eq_26 aop.eq_27 aop.eq_28 aop.eq_29 aop.eq_30 aop.eq_31 aop.eq_32 blk_push next_push blk_set next_set blk_kill next_kill frL_nil frL_cons Fits_nil Fits_cons Int.reduceBEq Int.reduceBNe Nat.sub_zero Option.map_some Option.map_none List.set_cons_succ true_or or_true false_or or_false Int.le_refl Int.cast_ofNat_Int decide_true decide_false List.cons_append fillA fillR rowsOf List.replicate_succ List.replicate_zero Nat.zero_mul getD_drop List.length_drop splice List.nil_append List.append_nil cond_true cond_false List.set_cons_zero List.length_set ev put_some put_none upd_apply abin asNat bounds row1 mk List.length_cons List.length_nil List.length_map List.drop_zero List.drop_succ_cons List.drop_nil List.getD_cons_zero List.getD_cons_succ Option.getD_none Option.getD_some List.take_succ_cons List.take_zero List.take_nil true_and and_true Int.toNat_natCast if_true if_false Nat.zero_add Nat.add_zero List.map_cons List.map_nil Nat.reduceEqDiff Nat.left_eq_add Nat.add_eq_left Nat.add_left_cancel_iff Nat.add_assoc Nat.reduceSub Nat.reduceAdd Nat.reduceLeDiff Nat.le_refl Nat.zero_le Nat.zero_lt_one Nat.lt_add_one Int.reduceLT Int.reduceLE Int.reduceToNat Nat.reduceLT Nat.reduceBEq Bool.false_eq_true Nat.reduceBNe ne_eq not_false_eq_true not_true_eq_false false_and and_false reduceIte Int.natCast_nonneg reduceCtorEq parts_agg parts_bool parts_int parts_str parts_lit parts_nils parts_sl parts_ptr parts_iface parts_nilp parts_niliface Int.natCast_nonneg Int.natCast_nonneg beq_self_eq_true bne_self_eq_false Bool.true_and Bool.false_and Bool.and_true Bool.and_false Bool.true_or Bool.false_or Bool.or_true Bool.or_false Bool.not_true Bool.not_false
attribute [local go_sem] I ints tenA

/-- A text's signs, from a place on (so many at most). -/
def runesF (s : ByteArray) : Nat → Nat → List Int
  | 0, _ => []
  | f + 1, p => if p < s.size then ((Utf8.decode s p).1 : Int) :: runesF s f (p + (Utf8.decode s p).2) else []
theorem dec_pos (s : ByteArray) (p : Nat) : 1 ≤ (Utf8.decode s p).2 := by
  unfold Utf8.decode
  simp only
  repeat' split
  all_goals simp
theorem runesF_more (s : ByteArray) : ∀ f p, s.size ≤ p + f → ∀ g, runesF s (f + g) p = runesF s f p
  | 0, p, h, g => by
    cases g with
    | zero => rfl
    | succ g => simp only [runesF, Nat.zero_add]; rw [if_neg (by omega)]
  | f + 1, p, h, g => by
    have := dec_pos s p
    rw [show f + 1 + g = (f + g) + 1 by omega]
    simp only [runesF]
    rw [runesF_more s f _ (by omega) g]
def runesE (s : ByteArray) : List Int := runesF s s.size 0
theorem dec_le (s : ByteArray) (p : Nat) : (Utf8.decode s p).1 < 2 ^ 40 := by
  unfold Utf8.decode
  simp only [Utf8.runeError]
  repeat' split
  all_goals (try simp only)
  all_goals (rename_i h; try simp only [Bool.and_eq_true, decide_eq_true_eq, beq_iff_eq] at h)
  all_goals omega
def restR (s : ByteArray) (p : Nat) : List Int := runesF s s.size p
theorem restR_lt {s : ByteArray} {p : Nat} (h : p < s.size) : restR s p = ((Utf8.decode s p).1 : Int) :: restR s (p + (Utf8.decode s p).2) := by
  have hw := dec_pos s p
  unfold restR
  obtain ⟨f, hf⟩ : ∃ f, s.size = f + 1 := ⟨s.size - 1, by omega⟩
  conv => lhs; rw [hf]
  simp only [runesF]
  rw [if_pos h]
  have := runesF_more s f (p + (Utf8.decode s p).2) (by omega) 1
  rw [hf, this]
theorem restR_ge {s : ByteArray} {p : Nat} (h : ¬ p < s.size) : restR s p = [] := by
  unfold restR
  generalize hn : s.size = n
  cases n with
  | zero => rfl
  | succ f => simp only [runesF]; exact if_neg h
def rA (l : List Int) : List (List AV) := l.map fun n => [.int .i32 n]
/-- Signs in a block of the walk's own, or none yet. -/
def OwnR (n b : Nat) (t : St) (f : Int → List AV) (v : AV) (l : List Int) : Prop := (v = .nils ∧ l = []) ∨ ∃ c, v = .sl c 0 l.length ∧ t.blk c = some (.cells 1 (l.map f)) ∧ n ≤ c ∧ c < t.next ∧ c ≠ b

/-- parquetryref9.Runes -/
theorem runes_spec (s : ByteArray) (hs : s.size ≤ 2 ^ 20) (σ : St) : T Try.prog 27 [.str s] σ (.lit 1 (rA (runesE s))) σ := by
  refine in27 (by simp) fun wf hab => ?_
  clear hab
  unfold c27
  first | refine .seq (.rg fun A hA K hK => ?_) | refine .seq (.seq (.rg fun A hA K hK => ?_)) | refine .rg fun A hA K hK => ?_ | refine .seq (.rd fun A hA K hK => ?_) | refine .seq (.seq (.rd fun A hA K hK => ?_)) | refine .rd fun A hA K hK => ?_
  simp (maxSteps := 1000000) only [go_sem, hA.nil, hA.go, hA.yes, hA.noT, hA.noF, hA.skp]
  refine hK _ _ ?_; clear hK K hA A
  first | refine .seq (.rg fun A hA K hK => ?_) | refine .seq (.seq (.rg fun A hA K hK => ?_)) | refine .rg fun A hA K hK => ?_ | refine .seq (.rd fun A hA K hK => ?_) | refine .seq (.seq (.rd fun A hA K hK => ?_)) | refine .rd fun A hA K hK => ?_
  simp (maxSteps := 1000000) only [go_sem, hA.nil, hA.go, hA.yes, hA.noT, hA.noF, hA.skp]
  refine hK _ _ ?_; clear hK K hA A
  first | refine .seq (.rg fun A hA K hK => ?_) | refine .seq (.seq (.rg fun A hA K hK => ?_)) | refine .rg fun A hA K hK => ?_ | refine .seq (.rd fun A hA K hK => ?_) | refine .seq (.seq (.rd fun A hA K hK => ?_)) | refine .rd fun A hA K hK => ?_
  simp (maxSteps := 1000000) only [go_sem, hA.nil, hA.go, hA.yes, hA.noT, hA.noF, hA.skp]
  refine hK _ _ ?_; clear hK K hA A
  refine .loopK (fun n L t => ∃ p acc v, n = s.size - p ∧ acc ++ restR s p = runesE s ∧ acc.length ≤ p ∧ L = [(3, v), (7, .iter σ.next)] ∧ t.blk σ.next = some (.siter s p) ∧ σ.next < t.next ∧ OwnR σ.next σ.next t (fun n => [.int .i32 n]) v acc ∧ ∀ b, b < σ.next → t.blk b = σ.blk b) s.size
    ⟨_, ⟨0, [], .nils, by omega, rfl, by simp, rfl, by simp (maxSteps := 1000000) only [go_sem], by simp (maxSteps := 1000000) only [go_sem], .inl ⟨rfl, rfl⟩, fun b hb => by simp (disch := omega) only [go_sem, if_neg]⟩, by simp (maxSteps := 1000000) only [go_sem]; try rfl⟩ ?_
  rintro n L t ⟨p, acc, v, rfl, hacc, hlen, rfl, hb, hlt, ho, hx⟩
  by_cases hp : p < s.size
  · first | refine .seq (.rg fun A hA K hK => ?_) | refine .seq (.seq (.rg fun A hA K hK => ?_)) | refine .rg fun A hA K hK => ?_ | refine .seq (.rd fun A hA K hK => ?_) | refine .seq (.seq (.rd fun A hA K hK => ?_)) | refine .rd fun A hA K hK => ?_
    simp (maxSteps := 1000000) only [go_sem, hA.nil, hA.go, hA.yes, hA.noT, hA.noF, hA.skp, hb, hp]
    refine hK _ _ ?_; clear hK K hA A
    refine .seq (.cond (t := true) (by simp (maxSteps := 1000000) only [go_sem]) (fun _ => .skip ?_) (fun h => by cases h))
    have hc' := restR_lt hp
    have hw := dec_pos s p
    generalize ((Utf8.decode s p).1 : Int) = c at hc' ⊢
    generalize (Utf8.decode s p).2 = w at hc' hw ⊢
    rw [hc'] at hacc
    have hacc' : (acc ++ [c]) ++ restR s (p + w) = runesE s := by rw [← hacc]; simp
    refine .block ?_
    first | refine .seq (.rg fun A hA K hK => ?_) | refine .seq (.seq (.rg fun A hA K hK => ?_)) | refine .rg fun A hA K hK => ?_ | refine .seq (.rd fun A hA K hK => ?_) | refine .seq (.seq (.rd fun A hA K hK => ?_)) | refine .rd fun A hA K hK => ?_
    simp (maxSteps := 1000000) only [go_sem, hA.nil, hA.go, hA.yes, hA.noT, hA.noF, hA.skp]
    refine hK _ _ ?_; clear hK K hA A
    have m1 : acc.length + 1 ≤ most := by simp only [most]; omega
    have m2 : (acc.length + 1) * 4 ≤ most := by simp only [most]; omega
    rcases ho with ⟨rfl, rfl⟩ | ⟨b, rfl, o2, o3, o4, o5⟩
    · first | refine .seq (.rg fun A hA K hK => ?_) | refine .seq (.seq (.rg fun A hA K hK => ?_)) | refine .rg fun A hA K hK => ?_ | refine .seq (.rd fun A hA K hK => ?_) | refine .seq (.seq (.rd fun A hA K hK => ?_)) | refine .rd fun A hA K hK => ?_
      simp (maxSteps := 1000000) only [go_sem, hA.nil, hA.go, hA.yes, hA.noT, hA.noF, hA.skp]
      refine ⟨by decide, by decide, ?_⟩
      refine hK _ _ ?_; clear hK K hA A
      refine ⟨s.size - (p + w), by omega, _, ⟨p + w, [c], .sl t.next 0 1, rfl, hacc', by simp; omega, rfl, by simp (disch := omega) only [go_sem, if_neg], by simp (maxSteps := 1000000) only [go_sem]; omega, .inr ⟨t.next, rfl, by simp (maxSteps := 1000000) only [go_sem], by omega, by simp (maxSteps := 1000000) only [go_sem], by omega⟩, fun b hb => by simp (disch := omega) only [go_sem, if_neg, hx b hb]⟩, by simp (maxSteps := 1000000) only [go_sem]⟩
    · have ht : List.take acc.length (acc.map fun n => [AV.int .i32 n]) = acc.map fun n => [AV.int .i32 n] := List.take_of_length_le (by simp)
      first | refine .seq (.rg fun A hA K hK => ?_) | refine .seq (.seq (.rg fun A hA K hK => ?_)) | refine .rg fun A hA K hK => ?_ | refine .seq (.rd fun A hA K hK => ?_) | refine .seq (.seq (.rd fun A hA K hK => ?_)) | refine .rd fun A hA K hK => ?_
      simp (maxSteps := 1000000) only [go_sem, hA.nil, hA.go, hA.yes, hA.noT, hA.noF, hA.skp, o2, o5, m1, m2, ht]
      refine hK _ _ ?_; clear hK K hA A
      refine ⟨s.size - (p + w), by omega, _, ⟨p + w, acc ++ [c], .sl t.next 0 (acc.length + 1), rfl, hacc', by simp; omega, rfl, by simp (disch := omega) only [go_sem, if_neg, if_true], by simp (maxSteps := 1000000) only [go_sem]; omega, .inr ⟨t.next, by simp, by simp (disch := omega) only [go_sem, if_neg, if_pos, List.map_append], by omega, by simp (maxSteps := 1000000) only [go_sem], by omega⟩, fun b hb => by simp (disch := omega) only [go_sem, if_neg, hx b hb]⟩, by simp (maxSteps := 1000000) only [go_sem]⟩
  · first | refine .seq (.rg fun A hA K hK => ?_) | refine .seq (.seq (.rg fun A hA K hK => ?_)) | refine .rg fun A hA K hK => ?_ | refine .seq (.rd fun A hA K hK => ?_) | refine .seq (.seq (.rd fun A hA K hK => ?_)) | refine .rd fun A hA K hK => ?_
    simp (maxSteps := 1000000) only [go_sem, hA.nil, hA.go, hA.yes, hA.noT, hA.noF, hA.skp, hb, hp]
    refine hK _ _ ?_; clear hK K hA A
    refine .seq (.cond (t := false) (by simp (maxSteps := 1000000) only [go_sem]) (fun h => by cases h) (fun _ => .exit ?_))
    simp only [thenQ, loopQ, if_true]
    rw [restR_ge hp, List.append_nil] at hacc
    rcases ho with ⟨rfl, rfl⟩ | ⟨b, rfl, o2, o3, o4, o5⟩
    · first | refine .seq (.rg fun A hA K hK => ?_) | refine .seq (.seq (.rg fun A hA K hK => ?_)) | refine .rg fun A hA K hK => ?_ | refine .seq (.rd fun A hA K hK => ?_) | refine .seq (.seq (.rd fun A hA K hK => ?_)) | refine .rd fun A hA K hK => ?_
      simp (maxSteps := 1000000) only [go_sem, hA.nil, hA.go, hA.yes, hA.noT, hA.noF, hA.skp]
      refine hK _ _ ?_; clear hK K hA A
      refine .ent (.lit0 (i := 2) 1 (by simp (maxSteps := 1000000) only [go_sem])) ?_
      rw [← hacc]
      exact .ret (retB (by simp (maxSteps := 1000000) only [go_sem, rA]) wf hx (lt_lit (by simp [rA])) ⟨rfl, rfl⟩)
    · first | refine .seq (.rg fun A hA K hK => ?_) | refine .seq (.seq (.rg fun A hA K hK => ?_)) | refine .rg fun A hA K hK => ?_ | refine .seq (.rd fun A hA K hK => ?_) | refine .seq (.seq (.rd fun A hA K hK => ?_)) | refine .rd fun A hA K hK => ?_
      simp (maxSteps := 1000000) only [go_sem, hA.nil, hA.go, hA.yes, hA.noT, hA.noF, hA.skp]
      refine hK _ _ ?_; clear hK K hA A
      refine frz 2 (b := b) (n := acc.length) (sz := 1) (rows := rA acc) (by simp (maxSteps := 1000000) only [go_sem]) o2 (by simp [rA]) ?_
      rw [← hacc]
      exact .ret (retB (by simp (maxSteps := 1000000) only [go_sem]) wf (fun c hc => by rw [blk_kill, if_neg (by omega)]; exact hx c hc) (lt_lit (by simp only [rA, List.mem_map]; rintro r ⟨n, _, rfl⟩ x hx; rw [List.mem_singleton.1 hx]; exact .int _ _)) ⟨rfl, rfl⟩)

/-- parquetrylaw3.row -/
theorem row29_spec (l : List Int) (hl : l.length * 8 ≤ most) (σ : St) : T Try.prog 29 [ints l] σ (tenA [(l.length : Int)] l) σ := by
  refine in29 (by simp) fun wf hab => ?_
  clear hab
  unfold c29
  have m1 : l.length ≤ most := by omega
  first | refine .seq (.rg fun A hA K hK => ?_) | refine .seq (.seq (.rg fun A hA K hK => ?_)) | refine .rg fun A hA K hK => ?_ | refine .seq (.rd fun A hA K hK => ?_) | refine .seq (.seq (.rd fun A hA K hK => ?_)) | refine .rd fun A hA K hK => ?_
  simp (maxSteps := 1000000) only [go_sem, hA.nil, hA.go, hA.yes, hA.noT, hA.noF, hA.skp]
  refine hK _ _ ?_; clear hK K hA A
  first | refine .seq (.rg fun A hA K hK => ?_) | refine .seq (.seq (.rg fun A hA K hK => ?_)) | refine .rg fun A hA K hK => ?_ | refine .seq (.rd fun A hA K hK => ?_) | refine .seq (.seq (.rd fun A hA K hK => ?_)) | refine .rd fun A hA K hK => ?_
  simp (maxSteps := 1000000) only [go_sem, hA.nil, hA.go, hA.yes, hA.noT, hA.noF, hA.skp, m1, hl]
  refine hK _ _ ?_; clear hK K hA A
  refine frz1 σ.next 1 (sz' := 2) (row := [ints [(l.length : Int)], .sl (σ.next + 1) 0 l.length]) (c' := σ.next + 1) (n := l.length) (sz := 1) (rows := l.map fun n => [I n]) (by simp (maxSteps := 1000000) only [go_sem]) (by simp) rfl (by simp (maxSteps := 1000000) only [go_sem]) (by omega) (by simp) ?_
  exact .ret (retBc (b := σ.next) (sz := 2) (row := [ints [(l.length : Int)], ints l]) (by simp (maxSteps := 1000000) only [go_sem]) (by simp (maxSteps := 1000000) only [go_sem]) (by simp) rfl wf (fun b hb => by simp (disch := omega) only [go_sem, if_neg]) (tenA_lt _ l) ⟨rfl, rfl⟩)

theorem rA_get {l : List Int} {i : Nat} (h : i < l.length) : (rA l).getD i [] = [.int .i32 l[i]] := by simp [rA, h]
theorem rA_len (l : List Int) : (rA l).length = l.length := by simp [rA]
theorem runesF_in (s : ByteArray) : ∀ f p, ∀ x ∈ runesF s f p, 0 ≤ x ∧ x < 2 ^ 40
  | 0, _, x, hx => by simp [runesF] at hx
  | f + 1, p, x, hx => by
    simp only [runesF] at hx
    split at hx
    · rcases List.mem_cons.1 hx with rfl | hx
      · have := dec_le s p; omega
      · exact runesF_in s f _ x hx
    · simp at hx
theorem runesF_len (s : ByteArray) : ∀ f p, (runesF s f p).length ≤ f
  | 0, _ => by simp [runesF]
  | f + 1, p => by
    simp only [runesF]; split
    · have := runesF_len s f (p + (Utf8.decode s p).2); simp; omega
    · simp
/-- parquetrylaw3.runes -/
theorem runes30_spec (s : ByteArray) (hs : s.size ≤ 2 ^ 20) (σ : St) : T Try.prog 30 [.str s] σ (tenA [((runesE s).length : Int)] (runesE s)) σ := by
  refine in30 (by simp) fun wf hab => ?_
  clear hab
  unfold c30
  have hlen : (runesE s).length ≤ s.size := runesF_len s s.size 0
  have hin : ∀ x ∈ runesE s, 0 ≤ x ∧ x < 2 ^ 40 := runesF_in s s.size 0
  have tr := runes_spec s hs
  have t29 := row29_spec (runesE s) (by simp only [most]; omega)
  generalize runesE s = l at hlen hin tr t29 ⊢
  first | refine .seq (.rg fun A hA K hK => ?_) | refine .seq (.seq (.rg fun A hA K hK => ?_)) | refine .rg fun A hA K hK => ?_ | refine .seq (.rd fun A hA K hK => ?_) | refine .seq (.seq (.rd fun A hA K hK => ?_)) | refine .rd fun A hA K hK => ?_
  simp (maxSteps := 1000000) only [go_sem, hA.nil, hA.go, hA.yes, hA.noT, hA.noF, hA.skp]
  refine hK _ _ ?_; clear hK K hA A
  first | refine .seq (.rg fun A hA K hK => ?_) | refine .seq (.seq (.rg fun A hA K hK => ?_)) | refine .rg fun A hA K hK => ?_ | refine .seq (.rd fun A hA K hK => ?_) | refine .seq (.seq (.rd fun A hA K hK => ?_)) | refine .rd fun A hA K hK => ?_
  simp (maxSteps := 1000000) only [go_sem, hA.nil, hA.go, hA.yes, hA.noT, hA.noF, hA.skp]
  refine hK _ _ ?_; clear hK K hA A
  first | refine .seq (.rg fun A hA K hK => ?_) | refine .seq (.seq (.rg fun A hA K hK => ?_)) | refine .rg fun A hA K hK => ?_ | refine .seq (.rd fun A hA K hK => ?_) | refine .seq (.seq (.rd fun A hA K hK => ?_)) | refine .rd fun A hA K hK => ?_
  simp (maxSteps := 1000000) only [go_sem, hA.nil, hA.go, hA.yes, hA.noT, hA.noF, hA.skp]
  first | refine aopq_call (tr _) (by simp (maxSteps := 1000000) only [go_sem, rA_len]) ?_ | refine aop_call (tr _) (by simp (maxSteps := 1000000) only [go_sem, rA_len]) ?_
  try simp (maxSteps := 1000000) only [go_sem, hA.nil, hA.go, hA.yes, hA.noT, hA.noF, hA.skp, rA_len]
  refine hK _ _ ?_; clear hK K hA A
  refine .rangeK (N := l.length) (fun i L t => ∃ v, L = [(2, .ptr σ.next 0 0), (3, v), (7, .lit 1 (rA l)), (8, I l.length), (9, I i)] ∧ t.blk σ.next = some (.cells 2 [[ints [], ints []]]) ∧ σ.next < t.next ∧ OwnR (σ.next + 1) σ.next t (fun n => [I n]) v (l.take i) ∧ ∀ b, b < σ.next → t.blk b = σ.blk b) (by simp only [most]; omega)
    ⟨_, ⟨.nils, rfl, by simp (maxSteps := 1000000) only [go_sem], by simp (maxSteps := 1000000) only [go_sem], .inl ⟨rfl, by simp⟩, fun b hb => by simp (disch := omega) only [go_sem, if_neg]⟩, by simp (maxSteps := 1000000) only [go_sem]; try rfl⟩ ?_ ?_ ?_
  · rintro i L t ⟨v, rfl, _⟩
    exact ⟨by simp (maxSteps := 1000000) only [go_sem], by simp (maxSteps := 1000000) only [go_sem], rfl⟩
  · rintro i L t hi ⟨v, rfl, hb, hlt, ho, hx⟩
    have e0 : (i : Int) < l.length := by omega
    have hg := rA_get hi
    have hli := hin _ (List.getElem_mem hi)
    have w1 : IntKind.i64.wrap l[i] = l[i] := IntWalk.i64_in _ (by omega)
    have htk : l.take (i + 1) = l.take i ++ [l[i]] := by rw [List.take_add_one]; simp [hi]
    have hti : (l.take i).length = i := by rw [List.length_take]; omega
    first | refine .seq (.rg fun A hA K hK => ?_) | refine .seq (.seq (.rg fun A hA K hK => ?_)) | refine .rg fun A hA K hK => ?_ | refine .seq (.rd fun A hA K hK => ?_) | refine .seq (.seq (.rd fun A hA K hK => ?_)) | refine .rd fun A hA K hK => ?_
    simp (maxSteps := 1000000) only [go_sem, hA.nil, hA.go, hA.yes, hA.noT, hA.noF, hA.skp, e0, hg, rA_len, hi]
    refine hK _ _ ?_; clear hK K hA A
    have m1 : i + 1 ≤ most := by simp only [most]; omega
    have m2 : (i + 1) * 8 ≤ most := by simp only [most]; omega
    have hti2 : (l.take (i + 1)).length = i + 1 := by rw [List.length_take]; omega
    rcases ho with ⟨rfl, hz⟩ | ⟨b, hv, o2, o3, o4, o5⟩
    · have hi0 : i = 0 := by rw [← hti, hz]; rfl
      subst hi0
      first | refine .seq (.rg fun A hA K hK => ?_) | refine .seq (.seq (.rg fun A hA K hK => ?_)) | refine .rg fun A hA K hK => ?_ | refine .seq (.rd fun A hA K hK => ?_) | refine .seq (.seq (.rd fun A hA K hK => ?_)) | refine .rd fun A hA K hK => ?_
      simp (maxSteps := 1000000) only [go_sem, hA.nil, hA.go, hA.yes, hA.noT, hA.noF, hA.skp, w1]
      refine ⟨by decide, by decide, ?_⟩
      refine hK _ _ ?_; clear hK K hA A
      exact ⟨by simp (maxSteps := 1000000) only [go_sem], _, ⟨.sl t.next 0 1, rfl, by simp (disch := omega) only [go_sem, if_neg, hb], by simp (maxSteps := 1000000) only [go_sem]; omega, .inr ⟨t.next, by rw [htk]; rfl, by rw [htk]; simp (maxSteps := 1000000) only [go_sem], by omega, by simp (maxSteps := 1000000) only [go_sem], by omega⟩, fun b hb => by simp (disch := omega) only [go_sem, if_neg, hx b hb]⟩, by simp (maxSteps := 1000000) only [go_sem]; try rfl⟩
    · have ht : List.take i ((l.take i).map fun n => [AV.int .i64 n]) = (l.take i).map fun n => [AV.int .i64 n] := List.take_of_length_le (by rw [List.length_map, hti]; exact Nat.le_refl _)
      rw [hti] at hv
      subst hv
      have o5' : ¬ σ.next = b := fun e => o5 e.symm
      first | refine .seq (.rg fun A hA K hK => ?_) | refine .seq (.seq (.rg fun A hA K hK => ?_)) | refine .rg fun A hA K hK => ?_ | refine .seq (.rd fun A hA K hK => ?_) | refine .seq (.seq (.rd fun A hA K hK => ?_)) | refine .rd fun A hA K hK => ?_
      simp (maxSteps := 1000000) only [go_sem, hA.nil, hA.go, hA.yes, hA.noT, hA.noF, hA.skp, w1, o2, o5, m1, m2, ht, hti]
      refine hK _ _ ?_; clear hK K hA A
      exact ⟨by simp (maxSteps := 1000000) only [go_sem], _, ⟨.sl t.next 0 (i + 1), rfl, by simp (disch := omega) only [go_sem, if_neg, hb], by simp (maxSteps := 1000000) only [go_sem]; omega, .inr ⟨t.next, by rw [hti2], by rw [htk]; simp (disch := omega) only [go_sem, if_neg, if_pos, List.map_append], by omega, by simp (maxSteps := 1000000) only [go_sem], by omega⟩, fun b hb => by simp (disch := omega) only [go_sem, if_neg, hx b hb]⟩, by simp (maxSteps := 1000000) only [go_sem]; try rfl⟩
  · rintro L t F ⟨v, rfl, hb, hlt, ho, hx⟩ hf
    rw [List.take_length] at ho
    simp (maxSteps := 1000000) only [go_sem] at hf
    rcases ho with ⟨rfl, hz⟩ | ⟨b, rfl, o2, o3, o4, o5⟩
    · refine .ent (.lit0 (i := 3) 1 (by simp (maxSteps := 1000000) only [go_sem, hf])) ?_
      subst hz
      first | refine .seq (.rg fun A hA K hK => ?_) | refine .seq (.seq (.rg fun A hA K hK => ?_)) | refine .rg fun A hA K hK => ?_ | refine .seq (.rd fun A hA K hK => ?_) | refine .seq (.seq (.rd fun A hA K hK => ?_)) | refine .rd fun A hA K hK => ?_
      simp (maxSteps := 1000000) only [go_sem, hA.nil, hA.go, hA.yes, hA.noT, hA.noF, hA.skp, hf, hb]
      first | refine aopq_call (t29 t) (by simp (maxSteps := 1000000) only [go_sem, hf, hb]) ?_ | refine aop_call (t29 t) (by simp (maxSteps := 1000000) only [go_sem, hf, hb]) ?_
      try simp (maxSteps := 1000000) only [go_sem, hA.nil, hA.go, hA.yes, hA.noT, hA.noF, hA.skp, hf, hb]
      refine hK _ _ ?_; clear hK K hA A
      exact .ret (retBc (b := σ.next) (sz := 2) (row := [ints [0], ints []]) (by simp (maxSteps := 1000000) only [go_sem, hf]) (by simp (maxSteps := 1000000) only [go_sem]) (by simp) rfl wf (fun c hc => by simp (disch := omega) only [go_sem, if_neg, hx c hc]) (tenA_lt [0] []) ⟨rfl, rfl⟩)
    · have o5' : ¬ σ.next = b := fun e => o5 e.symm
      refine frz 3 (b := b) (n := l.length) (sz := 1) (rows := l.map fun n => [I n]) (by simp (maxSteps := 1000000) only [go_sem, hf]) o2 (by simp) ?_
      first | refine .seq (.rg fun A hA K hK => ?_) | refine .seq (.seq (.rg fun A hA K hK => ?_)) | refine .rg fun A hA K hK => ?_ | refine .seq (.rd fun A hA K hK => ?_) | refine .seq (.seq (.rd fun A hA K hK => ?_)) | refine .rd fun A hA K hK => ?_
      simp (maxSteps := 1000000) only [go_sem, hA.nil, hA.go, hA.yes, hA.noT, hA.noF, hA.skp, hf, hb, o5']
      first | refine aopq_call (t29 _) (by simp (maxSteps := 1000000) only [go_sem, hf, hb, o5']) ?_ | refine aop_call (t29 _) (by simp (maxSteps := 1000000) only [go_sem, hf, hb, o5']) ?_
      try simp (maxSteps := 1000000) only [go_sem, hA.nil, hA.go, hA.yes, hA.noT, hA.noF, hA.skp, hf, hb, o5']
      refine hK _ _ ?_; clear hK K hA A
      exact .ret (retBc (b := σ.next) (sz := 2) (row := [ints [(l.length : Int)], ints l]) (by simp (maxSteps := 1000000) only [go_sem, hf]) (by simp (maxSteps := 1000000) only [go_sem]) (by simp) rfl wf (fun c hc => by simp (disch := omega) only [go_sem, if_neg, hx c hc]) (tenA_lt _ l) ⟨rfl, rfl⟩)
end Go.Proofs.Ytdmbgnppbchgcaa.Av

namespace Go.Proofs.Ytdmbgnppbchgcaa.Av
open Go Go.Av
set_option maxRecDepth 20000
set_option maxHeartbeats 4000000

attribute [local go_sem] step_apply stepD_apply stepE_apply
attribute [local go_sem] aopq_mv aopq_pk aopq_al aopq_bx aopq_bd aopq_bs aopq_ld aopq_st aopq_nc aopq_bin aopq_un aopq_cv aopq_mi aopq_mf aopq_mm aopq_ms aopq_sc aopq_fa aopq_fl aopq_ia aopq_lk aopq_mu aopq_lm aopq_rg aopq_rgs aopq_nxs aopq_msl aop_msl aop_rgs aop_nxs aopq_en aopq_ta aopq_ex aopq_ln aopq_ap aopq_mx aopq.eq_3 aop.eq_1 aop.eq_2 aop.eq_3 aop.eq_4 aop.eq_5 aop.eq_6 aop.eq_7 aop.eq_8 aop.eq_9 aop_bin atS_apply aop_un_not aop_un_neg aop.eq_14 aop.eq_15 aop.eq_16 aop.eq_17 aop.eq_18 aop_sc cutS_apply cutN_apply cutL_apply cutO_apply aop.eq_20 aop.eq_21 aop.eq_22 aop.eq_23 aop.eq_24 aop.eq_25 aop.eq_26 aop.eq_27 aop.eq_28 aop.eq_29 aop.eq_30 aop.eq_31 aop.eq_32 blk_push next_push blk_set next_set blk_kill next_kill frL_nil frL_cons Fits_nil Fits_cons Int.reduceBEq Int.reduceBNe Nat.sub_zero Option.map_some Option.map_none List.set_cons_succ true_or or_true false_or or_false Int.le_refl Int.cast_ofNat_Int decide_true decide_false List.cons_append fillA fillR rowsOf List.replicate_succ List.replicate_zero Nat.zero_mul getD_drop List.length_drop splice List.nil_append List.append_nil cond_true cond_false List.set_cons_zero List.length_set ev put_some put_none upd_apply abin asNat bounds row1 mk List.length_cons List.length_nil List.length_map List.drop_zero List.drop_succ_cons List.drop_nil List.getD_cons_zero List.getD_cons_succ Option.getD_none Option.getD_some List.take_succ_cons List.take_zero List.take_nil true_and and_true Int.toNat_natCast if_true if_false Nat.zero_add Nat.add_zero List.map_cons List.map_nil Nat.reduceEqDiff Nat.left_eq_add Nat.add_eq_left Nat.add_left_cancel_iff Nat.add_assoc Nat.reduceSub Nat.reduceAdd Nat.reduceLeDiff Nat.le_refl Nat.zero_le Nat.zero_lt_one Nat.lt_add_one Int.reduceLT Int.reduceLE Int.reduceToNat Nat.reduceLT Nat.reduceBEq Bool.false_eq_true Nat.reduceBNe ne_eq not_false_eq_true not_true_eq_false false_and and_false reduceIte Int.natCast_nonneg reduceCtorEq parts_agg parts_bool parts_int parts_str parts_lit parts_nils parts_sl parts_ptr parts_iface parts_nilp parts_niliface Int.natCast_nonneg Int.natCast_nonneg beq_self_eq_true bne_self_eq_false Bool.true_and Bool.false_and Bool.and_true Bool.and_false Bool.true_or Bool.false_or Bool.or_true Bool.or_false Bool.not_true Bool.not_false
attribute [local go_sem] I ints tenA

/-- datum.Tensor of a whole number -/
theorem tensor_whole (v : AV) (n : Int) (hk : ∀ σ, T Try.prog 16 [v] σ (I 1) σ) (hw : ∀ σ, T Try.prog 19 [v] σ (I n) σ) (σ : St) : TQ Try.prog 9 [v] σ fun r t => r = .tup [tenA [] [n], .bool true] ∧ Ext σ t := by
  refine in9 (by simp) fun wf hab => ?_
  clear hab
  unfold c9
  first | refine .seq (.rg fun A hA K hK => ?_) | refine .seq (.seq (.rg fun A hA K hK => ?_)) | refine .rg fun A hA K hK => ?_ | refine .seq (.rd fun A hA K hK => ?_) | refine .seq (.seq (.rd fun A hA K hK => ?_)) | refine .rd fun A hA K hK => ?_
  simp (maxSteps := 1000000) only [go_sem, hA.nil, hA.go, hA.yes, hA.noT, hA.noF, hA.skp]
  refine hK _ _ ?_; clear hK K hA A
  first | refine .seq (.rg fun A hA K hK => ?_) | refine .seq (.seq (.rg fun A hA K hK => ?_)) | refine .rg fun A hA K hK => ?_ | refine .seq (.rd fun A hA K hK => ?_) | refine .seq (.seq (.rd fun A hA K hK => ?_)) | refine .rd fun A hA K hK => ?_
  simp (maxSteps := 1000000) only [go_sem, hA.nil, hA.go, hA.yes, hA.noT, hA.noF, hA.skp]
  first | refine aopq_call (hk _) (by simp (maxSteps := 1000000) only [go_sem]) ?_ | refine aop_call (hk _) (by simp (maxSteps := 1000000) only [go_sem]) ?_
  try simp (maxSteps := 1000000) only [go_sem, hA.nil, hA.go, hA.yes, hA.noT, hA.noF, hA.skp]
  refine hK _ _ ?_; clear hK K hA A
  refine .block ?_
  first | refine .seq (.rg fun A hA K hK => ?_) | refine .seq (.seq (.rg fun A hA K hK => ?_)) | refine .rg fun A hA K hK => ?_ | refine .seq (.rd fun A hA K hK => ?_) | refine .seq (.seq (.rd fun A hA K hK => ?_)) | refine .rd fun A hA K hK => ?_
  simp (maxSteps := 1000000) only [go_sem, hA.nil, hA.go, hA.yes, hA.noT, hA.noF, hA.skp]
  refine hK _ _ ?_; clear hK K hA A
  refine .cond (t := true) (by simp (maxSteps := 1000000) only [go_sem]) (fun _ => ?_) (fun h => by cases h)
  first | refine .seq (.rg fun A hA K hK => ?_) | refine .seq (.seq (.rg fun A hA K hK => ?_)) | refine .rg fun A hA K hK => ?_ | refine .seq (.rd fun A hA K hK => ?_) | refine .seq (.seq (.rd fun A hA K hK => ?_)) | refine .rd fun A hA K hK => ?_
  simp (maxSteps := 1000000) only [go_sem, hA.nil, hA.go, hA.yes, hA.noT, hA.noF, hA.skp]
  first | refine aopq_call (hw _) (by simp (maxSteps := 1000000) only [go_sem]) ?_ | refine aop_call (hw _) (by simp (maxSteps := 1000000) only [go_sem]) ?_
  try simp (maxSteps := 1000000) only [go_sem, hA.nil, hA.go, hA.yes, hA.noT, hA.noF, hA.skp]
  refine hK _ _ ?_; clear hK K hA A
  exact .ret (retC2 (b := σ.next) (sz := 2) (row := [ints [], ints [n]]) (by simp (maxSteps := 1000000) only [go_sem]) (by simp (maxSteps := 1000000) only [go_sem]) (by simp) rfl (by simp (maxSteps := 1000000) only [go_sem]; try rfl) ⟨rfl, ⟨by simp (maxSteps := 1000000) only [go_sem]; omega, fun b hb => by simp (disch := omega) only [go_sem, if_neg]⟩⟩)

/-- datum.Tensor of what has none -/
theorem tensor_none (v : AV) (k : Int) (h : k = 0 ∨ k = 5) (hk : ∀ σ, T Try.prog 16 [v] σ (I k) σ) (σ : St) : TQ Try.prog 9 [v] σ (TenQ σ [] [] false) := by
  refine in9 (by simp) fun wf hab => ?_
  clear hab
  unfold c9
  have k1 : (k == 1) = false := by rcases h with rfl | rfl <;> rfl
  have k2 : (k == 2) = false := by rcases h with rfl | rfl <;> rfl
  have k3 : (k == 3) = false := by rcases h with rfl | rfl <;> rfl
  have k4 : (k == 4) = false := by rcases h with rfl | rfl <;> rfl
  first | refine .seq (.rg fun A hA K hK => ?_) | refine .seq (.seq (.rg fun A hA K hK => ?_)) | refine .rg fun A hA K hK => ?_ | refine .seq (.rd fun A hA K hK => ?_) | refine .seq (.seq (.rd fun A hA K hK => ?_)) | refine .rd fun A hA K hK => ?_
  simp (maxSteps := 1000000) only [go_sem, hA.nil, hA.go, hA.yes, hA.noT, hA.noF, hA.skp]
  refine hK _ _ ?_; clear hK K hA A
  first | refine .seq (.rg fun A hA K hK => ?_) | refine .seq (.seq (.rg fun A hA K hK => ?_)) | refine .rg fun A hA K hK => ?_ | refine .seq (.rd fun A hA K hK => ?_) | refine .seq (.seq (.rd fun A hA K hK => ?_)) | refine .rd fun A hA K hK => ?_
  simp (maxSteps := 1000000) only [go_sem, hA.nil, hA.go, hA.yes, hA.noT, hA.noF, hA.skp]
  first | refine aopq_call (hk _) (by simp (maxSteps := 1000000) only [go_sem]) ?_ | refine aop_call (hk _) (by simp (maxSteps := 1000000) only [go_sem]) ?_
  try simp (maxSteps := 1000000) only [go_sem, hA.nil, hA.go, hA.yes, hA.noT, hA.noF, hA.skp]
  refine hK _ _ ?_; clear hK K hA A
  refine .block ?_
  first | refine .seq (.rg fun A hA K hK => ?_) | refine .seq (.seq (.rg fun A hA K hK => ?_)) | refine .rg fun A hA K hK => ?_ | refine .seq (.rd fun A hA K hK => ?_) | refine .seq (.seq (.rd fun A hA K hK => ?_)) | refine .rd fun A hA K hK => ?_
  simp (maxSteps := 1000000) only [go_sem, hA.nil, hA.go, hA.yes, hA.noT, hA.noF, hA.skp, k1]
  refine hK _ _ ?_; clear hK K hA A
  refine .cond (t := false) (by simp (maxSteps := 1000000) only [go_sem]) (fun h => by cases h) (fun _ => ?_)
  first | refine .seq (.rg fun A hA K hK => ?_) | refine .seq (.seq (.rg fun A hA K hK => ?_)) | refine .rg fun A hA K hK => ?_ | refine .seq (.rd fun A hA K hK => ?_) | refine .seq (.seq (.rd fun A hA K hK => ?_)) | refine .rd fun A hA K hK => ?_
  simp (maxSteps := 1000000) only [go_sem, hA.nil, hA.go, hA.yes, hA.noT, hA.noF, hA.skp, k2]
  refine hK _ _ ?_; clear hK K hA A
  refine .cond (t := false) (by simp (maxSteps := 1000000) only [go_sem]) (fun h => by cases h) (fun _ => ?_)
  first | refine .seq (.rg fun A hA K hK => ?_) | refine .seq (.seq (.rg fun A hA K hK => ?_)) | refine .rg fun A hA K hK => ?_ | refine .seq (.rd fun A hA K hK => ?_) | refine .seq (.seq (.rd fun A hA K hK => ?_)) | refine .rd fun A hA K hK => ?_
  simp (maxSteps := 1000000) only [go_sem, hA.nil, hA.go, hA.yes, hA.noT, hA.noF, hA.skp, k3]
  refine hK _ _ ?_; clear hK K hA A
  refine .cond (t := false) (by simp (maxSteps := 1000000) only [go_sem]) (fun h => by cases h) (fun _ => ?_)
  first | refine .seq (.rg fun A hA K hK => ?_) | refine .seq (.seq (.rg fun A hA K hK => ?_)) | refine .rg fun A hA K hK => ?_ | refine .seq (.rd fun A hA K hK => ?_) | refine .seq (.seq (.rd fun A hA K hK => ?_)) | refine .rd fun A hA K hK => ?_
  simp (maxSteps := 1000000) only [go_sem, hA.nil, hA.go, hA.yes, hA.noT, hA.noF, hA.skp, k4]
  refine hK _ _ ?_; clear hK K hA A
  refine .cond (t := false) (by simp (maxSteps := 1000000) only [go_sem]) (fun h => by cases h) (fun _ => .skip ?_)
  first | refine .seq (.rg fun A hA K hK => ?_) | refine .seq (.seq (.rg fun A hA K hK => ?_)) | refine .rg fun A hA K hK => ?_ | refine .seq (.rd fun A hA K hK => ?_) | refine .seq (.seq (.rd fun A hA K hK => ?_)) | refine .rd fun A hA K hK => ?_
  simp (maxSteps := 1000000) only [go_sem, hA.nil, hA.go, hA.yes, hA.noT, hA.noF, hA.skp]
  refine hK _ _ ?_; clear hK K hA A
  exact .ret (retC2 (b := σ.next) (sz := 2) (row := [ints [], ints []]) (by simp (maxSteps := 1000000) only [go_sem]) (by simp (maxSteps := 1000000) only [go_sem]) (by simp) rfl (by simp (maxSteps := 1000000) only [go_sem]; try rfl) ⟨ints [], rfl, .inl ⟨rfl, rfl⟩, ⟨by simp (maxSteps := 1000000) only [go_sem]; omega, fun b hb => by simp (disch := omega) only [go_sem, if_neg]⟩⟩)

/-- What a call of row leaves, laid into the result. -/
theorem tenQ_store {σ u t : St} {s d : List Int} {ok : Bool} {v : AV} (hu : Ext σ u) (hn : u.next = σ.next + 1) (h : TenQ u s d ok v t) :
    ∃ b, v = .tup [.agg [ints s, b], .bool ok] ∧ row1 b = [b] ∧ b.parts = true ∧ t.blk σ.next = u.blk σ.next ∧ TenQ σ s d ok v (t.set σ.next (.cells 2 [[ints s, b]])) := by
  obtain ⟨b, rfl, ho, hx⟩ := h
  have hn' := hx.1
  have e : Ext σ (t.set σ.next (.cells 2 [[ints s, b]])) := ⟨by rw [next_set]; omega, fun c hc => by rw [blk_set, if_neg (by omega), hx.2 c (by omega)]; exact hu.2 c hc⟩
  rcases ho with ⟨rfl, h2⟩ | ⟨c, rfl, o2, o3, o4⟩
  · exact ⟨_, rfl, rfl, rfl, hx.2 _ (by omega), _, rfl, .inl ⟨rfl, h2⟩, e⟩
  · exact ⟨_, rfl, rfl, rfl, hx.2 _ (by omega), _, rfl, .inr ⟨c, rfl, by rw [blk_set, if_neg (by omega)]; exact o2, by omega, o4⟩, e⟩

/-- datum.Tensor of numbers -/
theorem tensor_row {l s d : List Int} {ok : Bool} (hrow : ∀ σ, TQ Try.prog 20 [ints l] σ (TenQ σ s d ok)) (σ : St) : TQ Try.prog 9 [.iface 22 (ints l)] σ (TenQ σ s d ok) := by
  refine in9 (by simp) fun wf hab => ?_
  clear hab
  unfold c9
  first | refine .seq (.rg fun A hA K hK => ?_) | refine .seq (.seq (.rg fun A hA K hK => ?_)) | refine .rg fun A hA K hK => ?_ | refine .seq (.rd fun A hA K hK => ?_) | refine .seq (.seq (.rd fun A hA K hK => ?_)) | refine .rd fun A hA K hK => ?_
  simp (maxSteps := 1000000) only [go_sem, hA.nil, hA.go, hA.yes, hA.noT, hA.noF, hA.skp]
  refine hK _ _ ?_; clear hK K hA A
  first | refine .seq (.rg fun A hA K hK => ?_) | refine .seq (.seq (.rg fun A hA K hK => ?_)) | refine .rg fun A hA K hK => ?_ | refine .seq (.rd fun A hA K hK => ?_) | refine .seq (.seq (.rd fun A hA K hK => ?_)) | refine .rd fun A hA K hK => ?_
  simp (maxSteps := 1000000) only [go_sem, hA.nil, hA.go, hA.yes, hA.noT, hA.noF, hA.skp]
  first | refine aopq_call (kind_row l _) (by simp (maxSteps := 1000000) only [go_sem]) ?_ | refine aop_call (kind_row l _) (by simp (maxSteps := 1000000) only [go_sem]) ?_
  try simp (maxSteps := 1000000) only [go_sem, hA.nil, hA.go, hA.yes, hA.noT, hA.noF, hA.skp]
  refine hK _ _ ?_; clear hK K hA A
  refine .block ?_
  first | refine .seq (.rg fun A hA K hK => ?_) | refine .seq (.seq (.rg fun A hA K hK => ?_)) | refine .rg fun A hA K hK => ?_ | refine .seq (.rd fun A hA K hK => ?_) | refine .seq (.seq (.rd fun A hA K hK => ?_)) | refine .rd fun A hA K hK => ?_
  simp (maxSteps := 1000000) only [go_sem, hA.nil, hA.go, hA.yes, hA.noT, hA.noF, hA.skp]
  refine hK _ _ ?_; clear hK K hA A
  refine .cond (t := false) (by simp (maxSteps := 1000000) only [go_sem]) (fun h => by cases h) (fun _ => ?_)
  first | refine .seq (.rg fun A hA K hK => ?_) | refine .seq (.seq (.rg fun A hA K hK => ?_)) | refine .rg fun A hA K hK => ?_ | refine .seq (.rd fun A hA K hK => ?_) | refine .seq (.seq (.rd fun A hA K hK => ?_)) | refine .rd fun A hA K hK => ?_
  simp (maxSteps := 1000000) only [go_sem, hA.nil, hA.go, hA.yes, hA.noT, hA.noF, hA.skp]
  refine hK _ _ ?_; clear hK K hA A
  refine .cond (t := true) (by simp (maxSteps := 1000000) only [go_sem]) (fun _ => ?_) (fun h => by cases h)
  first | refine .seq (.rg fun A hA K hK => ?_) | refine .seq (.seq (.rg fun A hA K hK => ?_)) | refine .rg fun A hA K hK => ?_ | refine .seq (.rd fun A hA K hK => ?_) | refine .seq (.seq (.rd fun A hA K hK => ?_)) | refine .rd fun A hA K hK => ?_
  simp (maxSteps := 1000000) only [go_sem, hA.nil, hA.go, hA.yes, hA.noT, hA.noF, hA.skp]
  refine aopq_callQ (hrow _) (by simp (maxSteps := 1000000) only [go_sem]) ?_
  rintro v t h
  have hu : Ext σ (σ.push (.cells 2 [[ints [], ints []]])) := ⟨by rw [next_push]; omega, fun c hc => by rw [blk_push, if_neg (by omega)]⟩
  obtain ⟨b, rfl, r1, r2, r3, r4⟩ := tenQ_store hu rfl h
  rw [blk_push, if_pos rfl] at r3
  try simp (maxSteps := 1000000) only [go_sem, hA.nil, hA.go, hA.yes, hA.noT, hA.noF, hA.skp, r3]
  refine hK _ _ ?_; clear hK K hA A
  exact .ret (retC2 (b := σ.next) (sz := 2) (row := [ints s, b]) (by simp (maxSteps := 1000000) only [go_sem]) (by simp (maxSteps := 1000000) only [go_sem]) (by simp) rfl (by simp (maxSteps := 1000000) only [go_sem]; try rfl) r4)

/-- datum.Tensor of a tensor -/
theorem tensor_full (v : AV) (s d : List Int) (hk : ∀ σ, T Try.prog 16 [v] σ (I 3) σ) (σ : St) (hf : ∀ u, Ext σ u → T Try.prog 21 [v] u (tenA s d) u) :
    TQ Try.prog 9 [v] σ (if rightT s d = true then TenQ σ s d true else TenQ σ [] [] false) := by
  refine in9 (by simp) fun wf hab => ?_
  clear hab
  unfold c9
  have hu : Ext σ (σ.push (.cells 2 [[ints [], ints []]])) := ⟨by rw [next_push]; omega, fun c hc => by rw [blk_push, if_neg (by omega)]⟩
  have hf' := hf _ hu
  first | refine .seq (.rg fun A hA K hK => ?_) | refine .seq (.seq (.rg fun A hA K hK => ?_)) | refine .rg fun A hA K hK => ?_ | refine .seq (.rd fun A hA K hK => ?_) | refine .seq (.seq (.rd fun A hA K hK => ?_)) | refine .rd fun A hA K hK => ?_
  simp (maxSteps := 1000000) only [go_sem, hA.nil, hA.go, hA.yes, hA.noT, hA.noF, hA.skp]
  refine hK _ _ ?_; clear hK K hA A
  first | refine .seq (.rg fun A hA K hK => ?_) | refine .seq (.seq (.rg fun A hA K hK => ?_)) | refine .rg fun A hA K hK => ?_ | refine .seq (.rd fun A hA K hK => ?_) | refine .seq (.seq (.rd fun A hA K hK => ?_)) | refine .rd fun A hA K hK => ?_
  simp (maxSteps := 1000000) only [go_sem, hA.nil, hA.go, hA.yes, hA.noT, hA.noF, hA.skp]
  first | refine aopq_call (hk _) (by simp (maxSteps := 1000000) only [go_sem]) ?_ | refine aop_call (hk _) (by simp (maxSteps := 1000000) only [go_sem]) ?_
  try simp (maxSteps := 1000000) only [go_sem, hA.nil, hA.go, hA.yes, hA.noT, hA.noF, hA.skp]
  refine hK _ _ ?_; clear hK K hA A
  refine .block ?_
  first | refine .seq (.rg fun A hA K hK => ?_) | refine .seq (.seq (.rg fun A hA K hK => ?_)) | refine .rg fun A hA K hK => ?_ | refine .seq (.rd fun A hA K hK => ?_) | refine .seq (.seq (.rd fun A hA K hK => ?_)) | refine .rd fun A hA K hK => ?_
  simp (maxSteps := 1000000) only [go_sem, hA.nil, hA.go, hA.yes, hA.noT, hA.noF, hA.skp]
  refine hK _ _ ?_; clear hK K hA A
  refine .cond (t := false) (by simp (maxSteps := 1000000) only [go_sem]) (fun h => by cases h) (fun _ => ?_)
  first | refine .seq (.rg fun A hA K hK => ?_) | refine .seq (.seq (.rg fun A hA K hK => ?_)) | refine .rg fun A hA K hK => ?_ | refine .seq (.rd fun A hA K hK => ?_) | refine .seq (.seq (.rd fun A hA K hK => ?_)) | refine .rd fun A hA K hK => ?_
  simp (maxSteps := 1000000) only [go_sem, hA.nil, hA.go, hA.yes, hA.noT, hA.noF, hA.skp]
  refine hK _ _ ?_; clear hK K hA A
  refine .cond (t := false) (by simp (maxSteps := 1000000) only [go_sem]) (fun h => by cases h) (fun _ => ?_)
  first | refine .seq (.rg fun A hA K hK => ?_) | refine .seq (.seq (.rg fun A hA K hK => ?_)) | refine .rg fun A hA K hK => ?_ | refine .seq (.rd fun A hA K hK => ?_) | refine .seq (.seq (.rd fun A hA K hK => ?_)) | refine .rd fun A hA K hK => ?_
  simp (maxSteps := 1000000) only [go_sem, hA.nil, hA.go, hA.yes, hA.noT, hA.noF, hA.skp]
  refine hK _ _ ?_; clear hK K hA A
  refine .cond (t := true) (by simp (maxSteps := 1000000) only [go_sem]) (fun _ => ?_) (fun h => by cases h)
  refine .midK (fun L t => L = [(2, .ptr σ.next 0 0), (4, .ptr (σ.next + 1) 0 0)] ∧ t.next = σ.next + 2 ∧ t.blk σ.next = some (.cells 2 [[ints [], ints []]]) ∧ t.blk (σ.next + 1) = some (.cells 2 [[ints s, ints d]]) ∧ Ext σ t) ?_ ?_
  · first | refine .seq (.rg fun A hA K hK => ?_) | refine .seq (.seq (.rg fun A hA K hK => ?_)) | refine .rg fun A hA K hK => ?_ | refine .seq (.rd fun A hA K hK => ?_) | refine .seq (.seq (.rd fun A hA K hK => ?_)) | refine .rd fun A hA K hK => ?_
    simp (maxSteps := 1000000) only [go_sem, hA.nil, hA.go, hA.yes, hA.noT, hA.noF, hA.skp]
    first | refine aopq_call (hf') (by simp (maxSteps := 1000000) only [go_sem, tenA]) ?_ | refine aop_call (hf') (by simp (maxSteps := 1000000) only [go_sem, tenA]) ?_
    try simp (maxSteps := 1000000) only [go_sem, hA.nil, hA.go, hA.yes, hA.noT, hA.noF, hA.skp, tenA]
    refine hK _ _ ?_; clear hK K hA A
    exact ⟨_, ⟨rfl, by simp (maxSteps := 1000000) only [go_sem], by simp (maxSteps := 1000000) only [go_sem], by simp (maxSteps := 1000000) only [go_sem], ⟨by simp (maxSteps := 1000000) only [go_sem]; omega, fun b hb => by simp (disch := omega) only [go_sem, if_neg]⟩⟩, by simp (maxSteps := 1000000) only [go_sem]⟩
  rintro L t ⟨rfl, tn, t2, t4, hx⟩
  clear hf hf' hu
  by_cases hr : rightT s d = true
  · rw [if_pos hr]
    have hr' := hr
    simp only [rightT, Bool.and_eq_true, beq_iff_eq] at hr'
    have hsz := sizeE_in s
    have hs4 : s.length ≤ 4 := by
      have := hr'.1
      simp only [rightS, Bool.and_eq_true, decide_eq_true_eq] at this
      exact (prodI_bound s.length (Nat.le_refl _) this.1).1
    first | refine .seq (.rg fun A hA K hK => ?_) | refine .seq (.seq (.rg fun A hA K hK => ?_)) | refine .rg fun A hA K hK => ?_ | refine .seq (.rd fun A hA K hK => ?_) | refine .seq (.seq (.rd fun A hA K hK => ?_)) | refine .rd fun A hA K hK => ?_
    simp (maxSteps := 1000000) only [go_sem, hA.nil, hA.go, hA.yes, hA.noT, hA.noF, hA.skp, t4]
    first | refine aopq_call (tenRight_spec s d t) (by simp (maxSteps := 1000000) only [go_sem, t4, tenA, hr]) ?_ | refine aop_call (tenRight_spec s d t) (by simp (maxSteps := 1000000) only [go_sem, t4, tenA, hr]) ?_
    try simp (maxSteps := 1000000) only [go_sem, hA.nil, hA.go, hA.yes, hA.noT, hA.noF, hA.skp, t4, tenA, hr]
    refine hK _ _ ?_; clear hK K hA A
    refine .cond (t := true) (by simp (maxSteps := 1000000) only [go_sem, hr]) (fun _ => ?_) (fun h => by cases h)
    first | refine .seq (.rg fun A hA K hK => ?_) | refine .seq (.seq (.rg fun A hA K hK => ?_)) | refine .rg fun A hA K hK => ?_ | refine .seq (.rd fun A hA K hK => ?_) | refine .seq (.seq (.rd fun A hA K hK => ?_)) | refine .rd fun A hA K hK => ?_
    simp (maxSteps := 1000000) only [go_sem, hA.nil, hA.go, hA.yes, hA.noT, hA.noF, hA.skp, t4]
    refine aopq_callQ (copy_spec s d (by omega) (by omega) t) (by simp (maxSteps := 1000000) only [go_sem, t4, tenA]) ?_
    rintro v u ⟨b, rfl, ho, hxu⟩
    have u2 : u.blk σ.next = some (.cells 2 [[ints [], ints []]]) := by rw [hxu.2 _ (by omega)]; exact t2
    have hn := hxu.1
    have e : Ext σ (u.set σ.next (.cells 2 [[ints s, b]])) := ⟨by rw [next_set]; omega, fun c hc => by rw [blk_set, if_neg (by omega), hxu.2 c (by omega)]; exact hx.2 c hc⟩
    have fin : OwnI σ.next (u.set σ.next (.cells 2 [[ints s, b]])) b d := by
      rcases ho with ⟨rfl, h2⟩ | ⟨c, rfl, o2, o3, o4⟩
      · exact .inl ⟨rfl, h2⟩
      · exact .inr ⟨c, rfl, by rw [blk_set, if_neg (by omega)]; exact o2, by omega, o4⟩
    try simp (maxSteps := 1000000) only [go_sem, hA.nil, hA.go, hA.yes, hA.noT, hA.noF, hA.skp, u2]
    refine hK _ _ ?_; clear hK K hA A
    exact .ret (retC2 (b := σ.next) (sz := 2) (row := [ints s, b]) (by simp (maxSteps := 1000000) only [go_sem]) (by simp (maxSteps := 1000000) only [go_sem]) (by simp) rfl (by simp (maxSteps := 1000000) only [go_sem]; try rfl) ⟨b, rfl, fin, e⟩)
  · have hr : rightT s d = false := by simpa using hr
    rw [if_neg (by rw [hr]; simp)]
    first | refine .seq (.rg fun A hA K hK => ?_) | refine .seq (.seq (.rg fun A hA K hK => ?_)) | refine .rg fun A hA K hK => ?_ | refine .seq (.rd fun A hA K hK => ?_) | refine .seq (.seq (.rd fun A hA K hK => ?_)) | refine .rd fun A hA K hK => ?_
    simp (maxSteps := 1000000) only [go_sem, hA.nil, hA.go, hA.yes, hA.noT, hA.noF, hA.skp, t4]
    first | refine aopq_call (tenRight_spec s d t) (by simp (maxSteps := 1000000) only [go_sem, t4, tenA, hr]) ?_ | refine aop_call (tenRight_spec s d t) (by simp (maxSteps := 1000000) only [go_sem, t4, tenA, hr]) ?_
    try simp (maxSteps := 1000000) only [go_sem, hA.nil, hA.go, hA.yes, hA.noT, hA.noF, hA.skp, t4, tenA, hr]
    refine hK _ _ ?_; clear hK K hA A
    refine .cond (t := false) (by simp (maxSteps := 1000000) only [go_sem, hr]) (fun h => by cases h) (fun _ => .skip ?_)
    first | refine .seq (.rg fun A hA K hK => ?_) | refine .seq (.seq (.rg fun A hA K hK => ?_)) | refine .rg fun A hA K hK => ?_ | refine .seq (.rd fun A hA K hK => ?_) | refine .seq (.seq (.rd fun A hA K hK => ?_)) | refine .rd fun A hA K hK => ?_
    simp (maxSteps := 1000000) only [go_sem, hA.nil, hA.go, hA.yes, hA.noT, hA.noF, hA.skp, t2]
    refine hK _ _ ?_; clear hK K hA A
    exact .ret (retC2 (b := σ.next) (sz := 2) (row := [ints [], ints []]) (by simp (maxSteps := 1000000) only [go_sem]) (by simp (maxSteps := 1000000) only [go_sem]) (by simp) rfl (by simp (maxSteps := 1000000) only [go_sem]; try rfl) ⟨ints [], rfl, .inl ⟨rfl, rfl⟩, ⟨by rw [next_set]; omega, fun b hb => by rw [blk_set, if_neg (by omega)]; exact hx.2 b hb⟩⟩)

/-- datum.Tensor of a text -/
theorem tensor_text (str : ByteArray) (hs : str.size ≤ 2 ^ 20) {s d : List Int} {ok : Bool} (hrow : ∀ σ, TQ Try.prog 20 [ints (runesE str)] σ (TenQ σ s d ok)) (σ : St) : TQ Try.prog 9 [.iface 9 (.str str)] σ (TenQ σ s d ok) := by
  refine in9 (by simp) fun wf hab => ?_
  clear hab
  unfold c9
  first | refine .seq (.rg fun A hA K hK => ?_) | refine .seq (.seq (.rg fun A hA K hK => ?_)) | refine .rg fun A hA K hK => ?_ | refine .seq (.rd fun A hA K hK => ?_) | refine .seq (.seq (.rd fun A hA K hK => ?_)) | refine .rd fun A hA K hK => ?_
  simp (maxSteps := 1000000) only [go_sem, hA.nil, hA.go, hA.yes, hA.noT, hA.noF, hA.skp]
  refine hK _ _ ?_; clear hK K hA A
  first | refine .seq (.rg fun A hA K hK => ?_) | refine .seq (.seq (.rg fun A hA K hK => ?_)) | refine .rg fun A hA K hK => ?_ | refine .seq (.rd fun A hA K hK => ?_) | refine .seq (.seq (.rd fun A hA K hK => ?_)) | refine .rd fun A hA K hK => ?_
  simp (maxSteps := 1000000) only [go_sem, hA.nil, hA.go, hA.yes, hA.noT, hA.noF, hA.skp]
  first | refine aopq_call (kind_text str _) (by simp (maxSteps := 1000000) only [go_sem]) ?_ | refine aop_call (kind_text str _) (by simp (maxSteps := 1000000) only [go_sem]) ?_
  try simp (maxSteps := 1000000) only [go_sem, hA.nil, hA.go, hA.yes, hA.noT, hA.noF, hA.skp]
  refine hK _ _ ?_; clear hK K hA A
  refine .block ?_
  first | refine .seq (.rg fun A hA K hK => ?_) | refine .seq (.seq (.rg fun A hA K hK => ?_)) | refine .rg fun A hA K hK => ?_ | refine .seq (.rd fun A hA K hK => ?_) | refine .seq (.seq (.rd fun A hA K hK => ?_)) | refine .rd fun A hA K hK => ?_
  simp (maxSteps := 1000000) only [go_sem, hA.nil, hA.go, hA.yes, hA.noT, hA.noF, hA.skp]
  refine hK _ _ ?_; clear hK K hA A
  refine .cond (t := false) (by simp (maxSteps := 1000000) only [go_sem]) (fun h => by cases h) (fun _ => ?_)
  first | refine .seq (.rg fun A hA K hK => ?_) | refine .seq (.seq (.rg fun A hA K hK => ?_)) | refine .rg fun A hA K hK => ?_ | refine .seq (.rd fun A hA K hK => ?_) | refine .seq (.seq (.rd fun A hA K hK => ?_)) | refine .rd fun A hA K hK => ?_
  simp (maxSteps := 1000000) only [go_sem, hA.nil, hA.go, hA.yes, hA.noT, hA.noF, hA.skp]
  refine hK _ _ ?_; clear hK K hA A
  refine .cond (t := false) (by simp (maxSteps := 1000000) only [go_sem]) (fun h => by cases h) (fun _ => ?_)
  first | refine .seq (.rg fun A hA K hK => ?_) | refine .seq (.seq (.rg fun A hA K hK => ?_)) | refine .rg fun A hA K hK => ?_ | refine .seq (.rd fun A hA K hK => ?_) | refine .seq (.seq (.rd fun A hA K hK => ?_)) | refine .rd fun A hA K hK => ?_
  simp (maxSteps := 1000000) only [go_sem, hA.nil, hA.go, hA.yes, hA.noT, hA.noF, hA.skp]
  refine hK _ _ ?_; clear hK K hA A
  refine .cond (t := false) (by simp (maxSteps := 1000000) only [go_sem]) (fun h => by cases h) (fun _ => ?_)
  first | refine .seq (.rg fun A hA K hK => ?_) | refine .seq (.seq (.rg fun A hA K hK => ?_)) | refine .rg fun A hA K hK => ?_ | refine .seq (.rd fun A hA K hK => ?_) | refine .seq (.seq (.rd fun A hA K hK => ?_)) | refine .rd fun A hA K hK => ?_
  simp (maxSteps := 1000000) only [go_sem, hA.nil, hA.go, hA.yes, hA.noT, hA.noF, hA.skp]
  refine hK _ _ ?_; clear hK K hA A
  refine .cond (t := true) (by simp (maxSteps := 1000000) only [go_sem]) (fun _ => ?_) (fun h => by cases h)
  first | refine .seq (.rg fun A hA K hK => ?_) | refine .seq (.seq (.rg fun A hA K hK => ?_)) | refine .rg fun A hA K hK => ?_ | refine .seq (.rd fun A hA K hK => ?_) | refine .seq (.seq (.rd fun A hA K hK => ?_)) | refine .rd fun A hA K hK => ?_
  simp (maxSteps := 1000000) only [go_sem, hA.nil, hA.go, hA.yes, hA.noT, hA.noF, hA.skp]
  refine hK _ _ ?_; clear hK K hA A
  first | refine .seq (.rg fun A hA K hK => ?_) | refine .seq (.seq (.rg fun A hA K hK => ?_)) | refine .rg fun A hA K hK => ?_ | refine .seq (.rd fun A hA K hK => ?_) | refine .seq (.seq (.rd fun A hA K hK => ?_)) | refine .rd fun A hA K hK => ?_
  simp (maxSteps := 1000000) only [go_sem, hA.nil, hA.go, hA.yes, hA.noT, hA.noF, hA.skp]
  refine hK _ _ ?_; clear hK K hA A
  refine .loopK (fun n L t => ∃ p acc v, n = str.size - p ∧ acc ++ restR str p = runesE str ∧ acc.length ≤ p ∧ L = [(2, .ptr σ.next 0 0), (5, v), (35, .iter (σ.next + 1))] ∧ t.blk σ.next = some (.cells 2 [[ints [], ints []]]) ∧ t.blk (σ.next + 1) = some (.siter str p) ∧ σ.next + 1 < t.next ∧ OwnR (σ.next + 2) (σ.next + 1) t (fun n => [I n]) v acc ∧ ∀ b, b < σ.next → t.blk b = σ.blk b) str.size
    ⟨_, ⟨0, [], .nils, by omega, rfl, by simp, rfl, by simp (maxSteps := 1000000) only [go_sem], by simp (maxSteps := 1000000) only [go_sem], by simp (maxSteps := 1000000) only [go_sem], .inl ⟨rfl, rfl⟩, fun b hb => by simp (disch := omega) only [go_sem, if_neg]⟩, by simp (maxSteps := 1000000) only [go_sem]; try rfl⟩ ?_
  rintro n L t ⟨p, acc, v, rfl, hacc, hlen, rfl, hr, hb, hlt, ho, hx⟩
  by_cases hp : p < str.size
  · first | refine .seq (.rg fun A hA K hK => ?_) | refine .seq (.seq (.rg fun A hA K hK => ?_)) | refine .rg fun A hA K hK => ?_ | refine .seq (.rd fun A hA K hK => ?_) | refine .seq (.seq (.rd fun A hA K hK => ?_)) | refine .rd fun A hA K hK => ?_
    simp (maxSteps := 1000000) only [go_sem, hA.nil, hA.go, hA.yes, hA.noT, hA.noF, hA.skp, hb, hp]
    refine hK _ _ ?_; clear hK K hA A
    refine .seq (.cond (t := true) (by simp (maxSteps := 1000000) only [go_sem]) (fun _ => .skip ?_) (fun h => by cases h))
    have hc' := restR_lt hp
    have hw := dec_pos str p
    have hle := dec_le str p
    generalize (Utf8.decode str p).1 = c at hc' hle ⊢
    generalize (Utf8.decode str p).2 = w at hc' hw ⊢
    rw [hc'] at hacc
    have hacc' : (acc ++ [(c : Int)]) ++ restR str (p + w) = runesE str := by rw [← hacc]; simp
    have w1 : IntKind.i64.wrap (c : Int) = c := IntWalk.i64_in _ (by omega)
    refine .block ?_
    first | refine .seq (.rg fun A hA K hK => ?_) | refine .seq (.seq (.rg fun A hA K hK => ?_)) | refine .rg fun A hA K hK => ?_ | refine .seq (.rd fun A hA K hK => ?_) | refine .seq (.seq (.rd fun A hA K hK => ?_)) | refine .rd fun A hA K hK => ?_
    simp (maxSteps := 1000000) only [go_sem, hA.nil, hA.go, hA.yes, hA.noT, hA.noF, hA.skp]
    refine hK _ _ ?_; clear hK K hA A
    have m1 : acc.length + 1 ≤ most := by simp only [most]; omega
    have m2 : (acc.length + 1) * 8 ≤ most := by simp only [most]; omega
    rcases ho with ⟨rfl, rfl⟩ | ⟨b, rfl, o2, o3, o4, o5⟩
    · first | refine .seq (.rg fun A hA K hK => ?_) | refine .seq (.seq (.rg fun A hA K hK => ?_)) | refine .rg fun A hA K hK => ?_ | refine .seq (.rd fun A hA K hK => ?_) | refine .seq (.seq (.rd fun A hA K hK => ?_)) | refine .rd fun A hA K hK => ?_
      simp (maxSteps := 1000000) only [go_sem, hA.nil, hA.go, hA.yes, hA.noT, hA.noF, hA.skp, w1]
      refine ⟨by decide, by decide, ?_⟩
      refine hK _ _ ?_; clear hK K hA A
      refine ⟨str.size - (p + w), by omega, _, ⟨p + w, [(c : Int)], .sl t.next 0 1, rfl, hacc', by simp; omega, rfl, by simp (disch := omega) only [go_sem, if_neg, hr], by simp (disch := omega) only [go_sem, if_neg], by simp (maxSteps := 1000000) only [go_sem]; omega, .inr ⟨t.next, rfl, by simp (maxSteps := 1000000) only [go_sem], by omega, by simp (maxSteps := 1000000) only [go_sem], by omega⟩, fun b hb => by simp (disch := omega) only [go_sem, if_neg, hx b hb]⟩, by simp (maxSteps := 1000000) only [go_sem]⟩
    · have ht : List.take acc.length (acc.map fun n => [AV.int .i64 n]) = acc.map fun n => [AV.int .i64 n] := List.take_of_length_le (by simp)
      first | refine .seq (.rg fun A hA K hK => ?_) | refine .seq (.seq (.rg fun A hA K hK => ?_)) | refine .rg fun A hA K hK => ?_ | refine .seq (.rd fun A hA K hK => ?_) | refine .seq (.seq (.rd fun A hA K hK => ?_)) | refine .rd fun A hA K hK => ?_
      simp (maxSteps := 1000000) only [go_sem, hA.nil, hA.go, hA.yes, hA.noT, hA.noF, hA.skp, w1, o2, o5, m1, m2, ht]
      refine hK _ _ ?_; clear hK K hA A
      refine ⟨str.size - (p + w), by omega, _, ⟨p + w, acc ++ [(c : Int)], .sl t.next 0 (acc.length + 1), rfl, hacc', by simp; omega, rfl, by simp (disch := omega) only [go_sem, if_neg, hr], by simp (disch := omega) only [go_sem, if_neg, if_true], by simp (maxSteps := 1000000) only [go_sem]; omega, .inr ⟨t.next, by simp, by simp (disch := omega) only [go_sem, if_neg, if_pos, List.map_append], by omega, by simp (maxSteps := 1000000) only [go_sem], by omega⟩, fun b hb => by simp (disch := omega) only [go_sem, if_neg, hx b hb]⟩, by simp (maxSteps := 1000000) only [go_sem]⟩
  · first | refine .seq (.rg fun A hA K hK => ?_) | refine .seq (.seq (.rg fun A hA K hK => ?_)) | refine .rg fun A hA K hK => ?_ | refine .seq (.rd fun A hA K hK => ?_) | refine .seq (.seq (.rd fun A hA K hK => ?_)) | refine .rd fun A hA K hK => ?_
    simp (maxSteps := 1000000) only [go_sem, hA.nil, hA.go, hA.yes, hA.noT, hA.noF, hA.skp, hb, hp]
    refine hK _ _ ?_; clear hK K hA A
    refine .seq (.cond (t := false) (by simp (maxSteps := 1000000) only [go_sem]) (fun h => by cases h) (fun _ => .exit ?_))
    simp only [thenQ, loopQ, if_true]
    rw [restR_ge hp, List.append_nil] at hacc
    rw [← hacc] at hrow
    have put : ∀ u r t', Ext u t' → TenQ u s d ok r t' → u.next = t.next → (∀ c, c ≤ σ.next → u.blk c = t.blk c) → ∃ b, r = .tup [.agg [ints s, b], .bool ok] ∧ t'.blk σ.next = some (.cells 2 [[ints [], ints []]]) ∧ TenQ σ s d ok r (t'.set σ.next (.cells 2 [[ints s, b]])) := by
      rintro u r t' hx' ⟨b, rfl, ho, _⟩ hn hu
      have hn' := hx'.1
      refine ⟨b, rfl, by rw [hx'.2 _ (by omega), hu _ (Nat.le_refl _)]; exact hr, b, rfl, ?_, ⟨by rw [next_set]; omega, fun c hc => by rw [blk_set, if_neg (by omega), hx'.2 c (by omega), hu c (by omega)]; exact hx c hc⟩⟩
      rcases ho with h | ⟨c, h1, o2, o3, o4⟩
      · exact .inl h
      · exact .inr ⟨c, h1, by rw [blk_set, if_neg (by omega)]; exact o2, by omega, o4⟩
    rcases ho with ⟨rfl, rfl⟩ | ⟨c, rfl, o2, o3, o4, o5⟩
    · refine .ent (.lit0 (i := 5) 1 (by simp (maxSteps := 1000000) only [go_sem])) ?_
      first | refine .seq (.rg fun A hA K hK => ?_) | refine .seq (.seq (.rg fun A hA K hK => ?_)) | refine .rg fun A hA K hK => ?_ | refine .seq (.rd fun A hA K hK => ?_) | refine .seq (.seq (.rd fun A hA K hK => ?_)) | refine .rd fun A hA K hK => ?_
      simp (maxSteps := 1000000) only [go_sem, hA.nil, hA.go, hA.yes, hA.noT, hA.noF, hA.skp]
      refine aopq_callQ (hrow t) (by simp (maxSteps := 1000000) only [go_sem]) ?_
      rintro r t' h
      have hx' : Ext t t' := by obtain ⟨_, _, _, h⟩ := h; exact h
      obtain ⟨b, rfl, r3, r4⟩ := put t r t' hx' h rfl (fun _ _ => rfl)
      try simp (maxSteps := 1000000) only [go_sem, hA.nil, hA.go, hA.yes, hA.noT, hA.noF, hA.skp, r3]
      refine hK _ _ ?_; clear hK K hA A
      exact .ret (retC2 (b := σ.next) (sz := 2) (row := [ints s, b]) (by simp (maxSteps := 1000000) only [go_sem]) (by simp (maxSteps := 1000000) only [go_sem]) (by simp) rfl (by simp (maxSteps := 1000000) only [go_sem]; try rfl) r4)
    · refine frz 5 (b := c) (n := acc.length) (sz := 1) (rows := acc.map fun n => [I n]) (by simp (maxSteps := 1000000) only [go_sem]) o2 (by simp) ?_
      first | refine .seq (.rg fun A hA K hK => ?_) | refine .seq (.seq (.rg fun A hA K hK => ?_)) | refine .rg fun A hA K hK => ?_ | refine .seq (.rd fun A hA K hK => ?_) | refine .seq (.seq (.rd fun A hA K hK => ?_)) | refine .rd fun A hA K hK => ?_
      simp (maxSteps := 1000000) only [go_sem, hA.nil, hA.go, hA.yes, hA.noT, hA.noF, hA.skp]
      refine aopq_callQ (hrow (t.kill c)) (by simp (maxSteps := 1000000) only [go_sem]) ?_
      rintro r t' h
      have hx' : Ext (t.kill c) t' := by obtain ⟨_, _, _, h⟩ := h; exact h
      obtain ⟨b, rfl, r3, r4⟩ := put (t.kill c) r t' hx' h rfl (fun x hx => by rw [blk_kill, if_neg (by omega)])
      try simp (maxSteps := 1000000) only [go_sem, hA.nil, hA.go, hA.yes, hA.noT, hA.noF, hA.skp, r3]
      refine hK _ _ ?_; clear hK K hA A
      exact .ret (retC2 (b := σ.next) (sz := 2) (row := [ints s, b]) (by simp (maxSteps := 1000000) only [go_sem]) (by simp (maxSteps := 1000000) only [go_sem]) (by simp) rfl (by simp (maxSteps := 1000000) only [go_sem]; try rfl) r4)
end Go.Proofs.Ytdmbgnppbchgcaa.Av

namespace Go.Proofs.Ytdmbgnppbchgcaa.Av
open Go Go.Av

/-! parquetry/datum.sure -/
def c38 : C :=
  (.seq (.reg [⟨some 2, none, .al [.lit 1 [], .lit 1 []]⟩])
  (.seq (.reg [⟨some 6, none, .mv (.t 0)⟩, ⟨some 7, none, .call false 9 [(.t 6)]⟩, ⟨some 5, none, .mv (.t 7)⟩, ⟨some 8, none, .ex (.t 5) 0⟩, ⟨some 9, none, .ex (.t 5) 1⟩, ⟨some 3, none, .al [.lit 1 [], .lit 1 []]⟩, ⟨none, none, .st 2 (.t 3) (.t 8)⟩, ⟨some 4, none, .mv (.t 9)⟩])
  (.seq (.seq (.reg [⟨some 10, none, .mv (.t 4)⟩, ⟨some 11, none, .un .not (.t 10)⟩])
  (.cond (.t 11)
    (.seq (.reg [⟨some 12, none, .mv (.t 4)⟩, ⟨some 13, none, .mi 4 (.t 12)⟩, ⟨some 14, none, .ta (.t 13) 28 false (.agg [.lit 1 [], .lit 1 []])⟩, ⟨none, none, .st 2 (.t 2) (.t 14)⟩])
    .ret)
    .skip))
  (.seq (.reg [⟨some 15, none, .ld (some 2) (.t 3)⟩, ⟨none, none, .st 2 (.t 2) (.t 15)⟩])
  .ret))))
set_option maxRecDepth 100000 in
theorem er38 : (Try.f38.body.bind (erC Try.prog cfg 16)) = some c38 := by kernel_rfl
theorem in38 {args : List AV} {σ : St} {Q : AV → St → Prop} (hlen : args.length ≤ 16) (h : σ.Wf → (∀ i, i < args.length → Hab (args.getD i .undef)) → SWP Try.prog σ.next c38 (retQ σ.next [.c (some 2) 2] Q) (fun i => args.getD i .undef) σ) : TQ Try.prog 38 args σ Q := by
  obtain ⟨k, hb, hk⟩ := Option.bind_eq_some_iff.1 er38
  exact TQ_of (fn := Try.f38) Try.func38 (by kernel_rfl) hb (erC_is mixed hk) (by kernel_rfl) hlen h

end Go.Proofs.Ytdmbgnppbchgcaa.Av

namespace Go.Av
section
variable {P : Program} {c : Cfg}

/-- A function that panics with an error of the runtime's, whatever its text. -/
def TP (P : Program) (f : FuncId) (args : List AV) (σ : St) (Q : St → Prop) : Prop :=
  ∀ (W0 : World) (e : Env) (w : World) (cargs : Array Value), Rel W0 e σ w → cargs.size = args.length →
    (∀ i, i < args.length → VR e (args.getD i .undef) (cargs.getD i Go.undef)) →
    Calls P f cargs w fun en w' => ∃ u x e' t, en = .panicked [{ v := .iface u x, recovered := false }] ∧ e.le e' ∧ Rel W0 e' t w' ∧ Q t

theorem TP_of {f : FuncId} {fn : Func} {k : Code} {k' : C} (hf : P.funcs[f]? = some fn) (hb : fn.body = some k) (hk : Is P c fn.ntmps k k')
    {args : List AV} {σ : St} {Q : St → Prop} (hlen : args.length ≤ fn.ntmps) (h : σ.Wf → SWP P σ.next k' (fun ex _ t => ∃ u x, ex = .panic [{ v := .iface u x, recovered := false }] ∧ Q t) (fun i => args.getD i .undef) σ) : TP P f args σ Q := by
  intro W0 e w cargs hrel hl hv
  refine calls_of_wp hf hb (wp_mono (h hrel.wf _ _ _ hk W0 e _ _ ⟨hrel.dom, e, .refl e, hrel, fun t => ?_, ?_, rfl⟩) fun ex a w' hq => ?_)
  · by_cases ht : t < args.length
    · have := hv t ht
      rw [Array.getD_eq_getD_getElem?, Array.getElem?_append_left (by omega), ← Array.getD_eq_getD_getElem?]
      exact this
    · simp only [List.getD_eq_getElem?_getD, List.getElem?_eq_none (Nat.le_of_not_lt ht)]
      exact .undef _
  · simp [hl]; omega
  · obtain ⟨F, t, ⟨u, x, rfl, hq⟩, hn0, e1, hle, hrel1, hf1, _, hd⟩ := hq
    exact ⟨hd, u, x, e1, t, rfl, hle, hrel1, hq⟩

theorem er_ta {o : Oper} {x : Od} {t : TypeId} {ok : Bool} {z : AV} (h : er P c o = some (.ta x t ok z)) : ∃ y s, o.op = .typeAssert y s t ok ∧ od y = some x := by
  unfold er at h
  split at h
  case h_27 x' s t' ok' ho =>
    split at h
    · cases h
    · cases h
    · obtain ⟨ti, _, h⟩ := bind_some h
      obtain ⟨z', _, h⟩ := bind_some h
      split at h
      · obtain ⟨y, hy, h⟩ := bind_some h
        cases h
        exact ⟨x', s, ho, hy⟩
      · cases h
  all_goals (repeat' (split at h)) <;> simp [Option.bind_eq_some_iff] at h

/-- One of another type is asserted to be one. -/
theorem SWP.pan3 {n0 : Nat} {Q : Exit → Fr → St → Prop} {F : Fr} {σ : St} {d1 d2 d3 u t : Nat} {x : Od} {z : AV} {rest : List RO} {b : Bool} (hx : ev F x = .bool b)
    (hrun : ∀ (v : Value) (s : TypeId) (w : World), ∃ e obj p, (Instr.typeAssert (.iface u v) s t false).run P w = .halt (.panic (.iface e p)) { w with heap := w.heap.push obj })
    (hQ : ∀ v y F', Q (.panic [{ v := .iface v y, recovered := false }]) F' σ) :
    SWP P n0 (.reg (⟨some d1, none, .mv x⟩ :: ⟨some d2, none, .mi u (.t d1)⟩ :: ⟨some d3, none, .ta (.t d2) t false z⟩ :: rest)) Q F σ := by
  intro c N k hk W0 e0 a w hr
  cases hk with
  | reg id ops ros h =>
    obtain ⟨o1, l1, hl1⟩ : ∃ o l, ops.toList = o :: l := by
      cases hh : ops.toList with
      | nil => rw [hh] at h; simp at h
      | cons o l => exact ⟨o, l, rfl⟩
    rw [hl1] at h
    obtain ⟨r1, rs1, g1, h, hrs⟩ := mapM_cons' _ _ _ h
    obtain ⟨rfl, rfl⟩ : _ = r1 ∧ _ = rs1 := by simpa using hrs
    obtain ⟨o2, l2, rfl⟩ : ∃ o l, l1 = o :: l := by
      cases l1 with
      | nil => simp at h
      | cons o l => exact ⟨o, l, rfl⟩
    obtain ⟨r2, rs2, g2, h, hrs⟩ := mapM_cons' _ _ _ h
    obtain ⟨rfl, rfl⟩ : _ = r2 ∧ _ = rs2 := by simpa using hrs
    obtain ⟨o3, l3, rfl⟩ : ∃ o l, l2 = o :: l := by
      cases l2 with
      | nil => simp at h
      | cons o l => exact ⟨o, l, rfl⟩
    obtain ⟨r3, rs3, g3, h, hrs⟩ := mapM_cons' _ _ _ h
    obtain ⟨rfl, rfl⟩ : _ = r3 ∧ _ = rs3 := by simpa using hrs
    have inv : ∀ {o : Oper} {d : Nat} {co : CO}, erO P c N ops o = some ⟨some d, none, co⟩ → er P c o = some co ∧ o.dst = some d ∧ o.guard = none ∧ d < N := by
      intro o d co g
      unfold erO at g
      obtain ⟨co', hco, g⟩ := bind_some g
      split at g
      · rename_i hdst
        split at g
        · rename_i hg
          simp only [Option.some.injEq, RO.mk.injEq, true_and] at g
          obtain ⟨g1, g2⟩ := g
          rw [g1] at hdst
          exact ⟨by rw [hco, g2], g1, hg, by simpa using hdst⟩
        · obtain ⟨_, _, g⟩ := bind_some g
          simp only [Option.some.injEq, RO.mk.injEq, reduceCtorEq, false_and, and_false] at g
      · cases g
    obtain ⟨p1, q1, s1, n1⟩ := inv g1
    obtain ⟨p2, q2, s2, n2⟩ := inv g2
    obtain ⟨p3, q3, s3, n3⟩ := inv g3
    have a1 : ops[0]? = some o1 := by rw [← Array.getElem?_toList, hl1]; rfl
    have a2 : ops[1]? = some o2 := by rw [← Array.getElem?_toList, hl1]; rfl
    have a3 : ops[2]? = some o3 := by rw [← Array.getElem?_toList, hl1]; rfl
    have hsz : ops.size = l3.length + 3 := by rw [← Array.length_toList, hl1]; rfl
    have wnt : ∀ {o : Oper} {tm}, o.guard = none → Region.wanted o tm = true := fun hg => by simp [Region.wanted, hg]
    refine wp_region ?_
    have hrange : List.range ops.size = 0 :: 1 :: 2 :: (List.range l3.length).map (· + 3) := by
      rw [hsz, List.range_succ_eq_map, List.range_succ_eq_map, List.range_succ_eq_map]; simp [Function.comp]
    rw [hrange]
    obtain ⟨hn0, e, hle, hrel, hf, hN, hdf⟩ := hr
    -- one
    simp only [wpOps, a1]
    rw [if_pos (wnt s1)]
    refine .inl (opq_ok p1 (K := fun v σ' => v = .bool b ∧ σ' = σ) (by simp only [aopq, aop]; exact ⟨hx, trivial⟩) W0 e a w _ _ hrel (fun t _ => hf t) fun e1 v1 w1 v σ' hk hle1 hrel1 hv1 => ?_)
    obtain ⟨rfl, rfl⟩ := hk
    obtain ⟨f1, k1, d1'⟩ := tmps_put hN (d := o1.dst) (by rw [q1]; simpa using n1) (fun t => (hf t).mono hle1) hv1
    -- two
    simp only [wpOps, a2]
    rw [if_pos (wnt s2)]
    refine .inl (opq_ok p2 (F := put F o1.dst (.bool b)) (K := fun v σ'' => v = .iface u (.bool b) ∧ σ'' = σ') (by simp only [aopq, aop, q1, put, upd, ev, if_true]; exact ⟨trivial, trivial⟩) W0 e1 _ w1 _ _ hrel1 (fun t _ => f1 t) fun e2 v2 w2 v σ'' hk hle2 hrel2 hv2 => ?_)
    obtain ⟨rfl, rfl⟩ := hk
    obtain ⟨f2, k2, d2'⟩ := tmps_put k1 (d := o2.dst) (by rw [q2]; simpa using n2) (fun t => (f1 t).mono hle2) hv2
    -- three
    simp only [wpOps, a3]
    rw [if_pos (wnt s3)]
    refine .inl ?_
    obtain ⟨y, s, ho, hy⟩ := er_ta p3
    have hv := od_ok (F := put (put F o1.dst (.bool b)) o2.dst (.iface u (.bool b))) (e := e2) hy (fun t _ => f2 t)
    have hev : ev (put (put F o1.dst (.bool b)) o2.dst (.iface u (.bool b))) (.t d2) = .iface u (.bool b) := by simp [ev, q2, put, upd]
    rw [hev] at hv
    generalize hva : ((a.put o1.dst v1).put o2.dst v2).eval y = cv at hv
    cases hv with
    | iface _ _ v' _ =>
      obtain ⟨en, obj, p, hrun'⟩ := hrun v' s w2
      have hex : (execOp ((a.put o1.dst v1).put o2.dst v2).eval o3).run P w2 = .halt (.panic (.iface en p)) { w2 with heap := w2.heap.push obj } := by
        simp [execOp, ho, hva, hrun']
      unfold Oper.wp
      rw [hex, Oper.upon_panic]
      have hm := More.alloc w2 obj
      exact ⟨_, _, hQ en p _, hn0, e2, (hle.trans hle1).trans hle2, hrel2.same hm.old (by rw [hm.size]; omega) (hm.below hrel2.below), f2, k2, by rw [d2', d1']; exact hdf⟩
end
end Go.Av

namespace Go.Proofs.Ytdmbgnppbchgcaa.Av
open Go Go.Av
set_option maxRecDepth 20000
set_option maxHeartbeats 4000000

attribute [local go_sem] step_apply stepD_apply stepE_apply
attribute [local go_sem] aopq_mv aopq_pk aopq_al aopq_bx aopq_bd aopq_bs aopq_ld aopq_st aopq_nc aopq_bin aopq_un aopq_cv aopq_mi aopq_mf aopq_mm aopq_ms aopq_sc aopq_fa aopq_fl aopq_ia aopq_lk aopq_mu aopq_lm aopq_rg aopq_rgs aopq_nxs aopq_msl aop_msl aop_rgs aop_nxs aopq_en aopq_ta aopq_ex aopq_ln aopq_ap aopq_mx aopq.eq_3 aop.eq_1 aop.eq_2 aop.eq_3 aop.eq_4 aop.eq_5 aop.eq_6 aop.eq_7 aop.eq_8 aop.eq_9 aop_bin atS_apply aop_un_not aop_un_neg aop.eq_14 aop.eq_15 aop.eq_16 aop.eq_17 aop.eq_18 aop_sc cutS_apply cutN_apply cutL_apply cutO_apply aop.eq_20 aop.eq_21 aop.eq_22 aop.eq_23 aop.eq_24 aop.eq_25 aop.eq_26 aop.eq_27 aop.eq_28 aop.eq_29 aop.eq_30 aop.eq_31 aop.eq_32 blk_push next_push blk_set next_set blk_kill next_kill frL_nil frL_cons Fits_nil Fits_cons Int.reduceBEq Int.reduceBNe Nat.sub_zero Option.map_some Option.map_none List.set_cons_succ true_or or_true false_or or_false Int.le_refl Int.cast_ofNat_Int decide_true decide_false List.cons_append fillA fillR rowsOf List.replicate_succ List.replicate_zero Nat.zero_mul getD_drop List.length_drop splice List.nil_append List.append_nil cond_true cond_false List.set_cons_zero List.length_set ev put_some put_none upd_apply abin asNat bounds row1 mk List.length_cons List.length_nil List.length_map List.drop_zero List.drop_succ_cons List.drop_nil List.getD_cons_zero List.getD_cons_succ Option.getD_none Option.getD_some List.take_succ_cons List.take_zero List.take_nil true_and and_true Int.toNat_natCast if_true if_false Nat.zero_add Nat.add_zero List.map_cons List.map_nil Nat.reduceEqDiff Nat.left_eq_add Nat.add_eq_left Nat.add_left_cancel_iff Nat.add_assoc Nat.reduceSub Nat.reduceAdd Nat.reduceLeDiff Nat.le_refl Nat.zero_le Nat.zero_lt_one Nat.lt_add_one Int.reduceLT Int.reduceLE Int.reduceToNat Nat.reduceLT Nat.reduceBEq Bool.false_eq_true Nat.reduceBNe ne_eq not_false_eq_true not_true_eq_false false_and and_false reduceIte Int.natCast_nonneg reduceCtorEq parts_agg parts_bool parts_int parts_str parts_lit parts_nils parts_sl parts_ptr parts_iface parts_nilp parts_niliface Int.natCast_nonneg Int.natCast_nonneg beq_self_eq_true bne_self_eq_false Bool.true_and Bool.false_and Bool.and_true Bool.and_false Bool.true_or Bool.false_or Bool.or_true Bool.or_false Bool.not_true Bool.not_false
attribute [local go_sem] I ints tenA

/-- Numbers in a plain list, or in a block of the walk's own. -/
def OwnW (n : Nat) (t : St) (v : AV) (l : List Int) : Prop := v = ints l ∨ ∃ c, v = .sl c 0 l.length ∧ t.blk c = some (.cells 1 (l.map fun n => [I n])) ∧ n ≤ c ∧ c < t.next
/-- As TenQ, but the numbers may be plain. -/
def TenW (σ : St) (s d : List Int) (ok : Bool) (v : AV) (t : St) : Prop := ∃ b, v = .tup [.agg [ints s, b], .bool ok] ∧ OwnW σ.next t b d ∧ Ext σ t
theorem TenQ.w {σ t : St} {s d : List Int} {ok : Bool} {v : AV} (h : TenQ σ s d ok v t) : TenW σ s d ok v t := by
  obtain ⟨b, h1, h2, h3⟩ := h
  exact ⟨b, h1, h2.imp (fun h => by rw [h.1, h.2]) id, h3⟩

/-- datum.sure of what has one -/
theorem sure_yes (v : AV) (s d : List Int) (σ : St) (ht : ∀ u, Ext σ u → TQ Try.prog 9 [v] u (TenW u s d true)) : TQ Try.prog 38 [v] σ fun r t => ∃ b, r = .agg [ints s, b] ∧ OwnW σ.next t b d ∧ Ext σ t := by
  refine in38 (by simp) fun wf hab => ?_
  clear hab
  unfold c38
  have hu : Ext σ (σ.push (.cells 2 [[ints [], ints []]])) := ⟨by rw [next_push]; omega, fun c hc => by rw [blk_push, if_neg (by omega)]⟩
  first | refine .seq (.rg fun A hA K hK => ?_) | refine .seq (.seq (.rg fun A hA K hK => ?_)) | refine .rg fun A hA K hK => ?_ | refine .seq (.rd fun A hA K hK => ?_) | refine .seq (.seq (.rd fun A hA K hK => ?_)) | refine .rd fun A hA K hK => ?_
  simp (maxSteps := 1000000) only [go_sem, hA.nil, hA.go, hA.yes, hA.noT, hA.noF, hA.skp]
  refine hK _ _ ?_; clear hK K hA A
  first | refine .seq (.rg fun A hA K hK => ?_) | refine .seq (.seq (.rg fun A hA K hK => ?_)) | refine .rg fun A hA K hK => ?_ | refine .seq (.rd fun A hA K hK => ?_) | refine .seq (.seq (.rd fun A hA K hK => ?_)) | refine .rd fun A hA K hK => ?_
  simp (maxSteps := 1000000) only [go_sem, hA.nil, hA.go, hA.yes, hA.noT, hA.noF, hA.skp]
  refine aopq_callQ (ht _ hu) (by simp (maxSteps := 1000000) only [go_sem]) ?_
  rintro r t ⟨b, rfl, ho, hx⟩
  have hn := hx.1
  rw [next_push] at hn
  have h2 : t.blk σ.next = some (.cells 2 [[ints [], ints []]]) := by rw [hx.2 σ.next (by rw [next_push]; omega), blk_push, if_pos rfl]; rfl
  have hx' : ∀ c, c < σ.next → t.blk c = σ.blk c := fun c hc => by rw [hx.2 c (by rw [next_push]; omega), blk_push, if_neg (by omega)]
  rw [next_push] at ho
  try simp (maxSteps := 1000000) only [go_sem, hA.nil, hA.go, hA.yes, hA.noT, hA.noF, hA.skp]
  refine hK _ _ ?_; clear hK K hA A
  first | refine .seq (.rg fun A hA K hK => ?_) | refine .seq (.seq (.rg fun A hA K hK => ?_)) | refine .rg fun A hA K hK => ?_ | refine .seq (.rd fun A hA K hK => ?_) | refine .seq (.seq (.rd fun A hA K hK => ?_)) | refine .rd fun A hA K hK => ?_
  simp (maxSteps := 1000000) only [go_sem, hA.nil, hA.go, hA.yes, hA.noT, hA.noF, hA.skp]
  refine hK _ _ ?_; clear hK K hA A
  refine .cond (t := false) (by simp (maxSteps := 1000000) only [go_sem]) (fun h => by cases h) (fun _ => .skip ?_)
  have n2 : ¬ σ.next = t.next := by omega
  first | refine .seq (.rg fun A hA K hK => ?_) | refine .seq (.seq (.rg fun A hA K hK => ?_)) | refine .rg fun A hA K hK => ?_ | refine .seq (.rd fun A hA K hK => ?_) | refine .seq (.seq (.rd fun A hA K hK => ?_)) | refine .rd fun A hA K hK => ?_
  simp (maxSteps := 1000000) only [go_sem, hA.nil, hA.go, hA.yes, hA.noT, hA.noF, hA.skp, h2, n2]
  refine hK _ _ ?_; clear hK K hA A
  refine .ret (retC1 (b := σ.next) (sz := 2) (row := [ints s, b]) (by simp (maxSteps := 1000000) only [go_sem]) (by simp (maxSteps := 1000000) only [go_sem]) (by simp) rfl ⟨b, rfl, ?_, ⟨by simp (maxSteps := 1000000) only [go_sem]; omega, fun c hc => by simp (disch := omega) only [go_sem, if_neg, hx' c hc]⟩⟩)
  rcases ho with h | ⟨c, h1, o2, o3, o4⟩
  · exact .inl h
  · exact .inr ⟨c, h1, by simp (disch := omega) only [go_sem, if_neg, o2], by omega, by simp (maxSteps := 1000000) only [go_sem]; omega⟩

theorem ta_run (v : Value) (s : TypeId) (w : World) : ∃ e obj p, (Instr.typeAssert (.iface 4 v) s 28 false).run Try.prog w = .halt (.panic (.iface e p)) { w with heap := w.heap.push obj } := by
  have h : (Instr.typeAssert (.iface 4 v) s 28 false).run Try.prog w = (runtimePanic (α := Value) (.typeAssertion (some s) (some 4) 28 "")).run Try.prog w := by simp [Instr.typeAssert, run_underlying Try.underlying28]
  rw [h]
  have he : (elemOf 15).run Try.prog w = .ok 79 w := by simp [elemOf, run_underlying (show Try.prog.underlying 15 = some (.pointer 79) by kernel_rfl)]
  simp [runtimePanic, he, newVar, newRow]
  exact ⟨_, rfl⟩

/-- datum.sure of what has none: it panics -/
theorem sure_no (v : AV) (σ : St) (ht : ∀ u, Ext σ u → TQ Try.prog 9 [v] u (TenQ u [] [] false)) : TP Try.prog 38 [v] σ fun t => Ext σ t := by
  obtain ⟨k, hb, hk⟩ := Option.bind_eq_some_iff.1 er38
  refine TP_of (fn := Try.f38) Try.func38 hb (erC_is mixed hk) (show 1 ≤ Try.f38.ntmps by decide) fun wf => ?_
  unfold c38
  have hu : Ext σ (σ.push (.cells 2 [[ints [], ints []]])) := ⟨by rw [next_push]; omega, fun c hc => by rw [blk_push, if_neg (by omega)]⟩
  first | refine .seq (.rg fun A hA K hK => ?_) | refine .seq (.seq (.rg fun A hA K hK => ?_)) | refine .rg fun A hA K hK => ?_ | refine .seq (.rd fun A hA K hK => ?_) | refine .seq (.seq (.rd fun A hA K hK => ?_)) | refine .rd fun A hA K hK => ?_
  simp (maxSteps := 1000000) only [go_sem, hA.nil, hA.go, hA.yes, hA.noT, hA.noF, hA.skp]
  refine hK _ _ ?_; clear hK K hA A
  first | refine .seq (.rg fun A hA K hK => ?_) | refine .seq (.seq (.rg fun A hA K hK => ?_)) | refine .rg fun A hA K hK => ?_ | refine .seq (.rd fun A hA K hK => ?_) | refine .seq (.seq (.rd fun A hA K hK => ?_)) | refine .rd fun A hA K hK => ?_
  simp (maxSteps := 1000000) only [go_sem, hA.nil, hA.go, hA.yes, hA.noT, hA.noF, hA.skp]
  refine aopq_callQ (ht _ hu) (by simp (maxSteps := 1000000) only [go_sem]) ?_
  rintro r t ⟨b, rfl, ho, hx⟩
  have hn := hx.1
  rw [next_push] at hn
  have hx' : ∀ c, c < σ.next → t.blk c = σ.blk c := fun c hc => by rw [hx.2 c (by rw [next_push]; omega), blk_push, if_neg (by omega)]
  try simp (maxSteps := 1000000) only [go_sem, hA.nil, hA.go, hA.yes, hA.noT, hA.noF, hA.skp]
  refine hK _ _ ?_; clear hK K hA A
  first | refine .seq (.rg fun A hA K hK => ?_) | refine .seq (.seq (.rg fun A hA K hK => ?_)) | refine .rg fun A hA K hK => ?_ | refine .seq (.rd fun A hA K hK => ?_) | refine .seq (.seq (.rd fun A hA K hK => ?_)) | refine .rd fun A hA K hK => ?_
  simp (maxSteps := 1000000) only [go_sem, hA.nil, hA.go, hA.yes, hA.noT, hA.noF, hA.skp]
  refine hK _ _ ?_; clear hK K hA A
  refine .cond (t := true) (by simp (maxSteps := 1000000) only [go_sem]) (fun _ => ?_) (fun h => by cases h)
  refine .seq (.pan3 (b := false) (by simp (maxSteps := 1000000) only [go_sem]) (fun v s w => ta_run v s w) fun v y F' => ⟨v, y, rfl, ⟨by simp (maxSteps := 1000000) only [go_sem]; omega, fun c hc => by simp (disch := omega) only [go_sem, if_neg, hx' c hc]⟩⟩)

def clos1 : List RO := [⟨some 3, none, .bs false 1 [I 0] 1 [(0, .k (I (-1)))]⟩, ⟨some 4, none, .bd [.lit 1 [], .lit 1 []] [(1, 1, .t 3)]⟩, ⟨none, none, .st 2 (.t 0) (.t 4)⟩]
theorem clos1_swp {n0 b : Nat} {F : Fr} {σ : St} {x0 x1 : AV} (h0 : F 0 = .ptr b 0 0) (hb : σ.blk b = some (.cells 2 [[x0, x1]])) : SWP Try.prog n0 (.reg clos1) (fun ex _ t => ex = .normal ∧ t = σ.set b (.cells 2 [[ints [], ints [-1]]])) F σ := by
  unfold clos1
  first | refine .seq (.rg fun A hA K hK => ?_) | refine .seq (.seq (.rg fun A hA K hK => ?_)) | refine .rg fun A hA K hK => ?_ | refine .seq (.rd fun A hA K hK => ?_) | refine .seq (.seq (.rd fun A hA K hK => ?_)) | refine .rd fun A hA K hK => ?_
  simp (maxSteps := 1000000) only [go_sem, hA.nil, hA.go, hA.yes, hA.noT, hA.noF, hA.skp, h0, hb]
  refine hK _ _ ?_; clear hK K hA A
  exact ⟨rfl, rfl⟩
end Go.Proofs.Ytdmbgnppbchgcaa.Av

namespace Go.Proofs.Ytdmbgnppbchgcaa.Av
open Go Go.Av
set_option maxRecDepth 20000
set_option maxHeartbeats 4000000

theorem catch_idle (p : Value) (w : World) : CallsD Try.prog 37 #[p] .returning w fun e u' w' => e = .returned (.tuple #[]) ∧ u' = .returning ∧ w' = w := by
  refine callsD_of_wpS Try.func37 rfl fun c₀ cs hu => ?_
  apply wpS_seq
  apply wpS_region
  simp [wpOpsS, go_sem, recoverD, hu, Try.ntmps37, Exit.thenS]
  refine wpS_cond (t := false) (by simp [Act.eval, Array.replicate]) ?_
  simp only [Bool.false_eq_true, if_false]
  refine wpS_of_wp (wp_skip ?_)
  cases c₀
  simp_all [bodyPostS, results, Try.results37]

theorem catch_panicking {W0 : World} {e : Env} {σ : St} {w : World} {b : Nat} {x0 x1 : AV} {pv : Value} {u : TypeId} {y : Value} (hr : Rel W0 e σ w) (hb : σ.blk b = some (.cells 2 [[x0, x1]])) (hp : VR e (.ptr b 0 0) pv) :
    CallsD Try.prog 37 #[pv] (.panicking [{ v := .iface u y, recovered := false }]) w fun en u' w' =>
      en = .returned (.tuple #[]) ∧ u' = .panicking [{ v := .iface u y, recovered := true }] ∧ ∃ e', e.le e' ∧ Rel W0 e' (σ.set b (.cells 2 [[ints [], ints [-1]]])) w' := by
  refine callsD_of_wpS Try.func37 rfl fun c₀ cs hu => ?_
  apply wpS_seq
  apply wpS_region
  simp [wpOpsS, go_sem, recoverD, hu, Try.ntmps37, Exit.thenS]
  refine wpS_cond (t := true) (by simp [Act.eval, Array.replicate]) ?_
  simp only [if_true]
  refine wpS_of_wp ?_
  refine wp_mono (clos1_swp (n0 := σ.next) (F := fun i => if i = 0 then .ptr b 0 0 else .undef) rfl hb cfg 5 _ (Is.reg 1 _ clos1 (by kernel_rfl)) W0 e _ w ⟨hr.dom, e, .refl e, hr, fun t => ?_, by simp, rfl⟩) fun ex a' w' hq => ?_
  · cases t with
    | zero => simpa using hp
    | succ t => exact .undef _
  · obtain ⟨F, t, ⟨rfl, rfl⟩, _, e1, hle, hrel1, _, _, hd⟩ := hq
    exact ⟨hd, _, rfl, .tuple #[], by simp [results, Try.results37], rfl, rfl, e1, hle, hrel1⟩
end Go.Proofs.Ytdmbgnppbchgcaa.Av

namespace Go.Proofs.Ytdmbgnppbchgcaa.Av
open Go Go.Av
set_option maxRecDepth 20000
set_option maxHeartbeats 4000000

/-- A result out of a variable in memory. -/
theorem res_cell {W0 : World} {e : Env} {t : St} {w : World} {tmps : Array Value} {p : Value} {b : Nat} {x0 x1 : AV} (hr : Rel W0 e t w) (hp : VR e (.ptr b 0 0) p) (htm : tmps.getD 2 Go.undef = p) (hb : t.blk b = some (.cells 2 [[x0, x1]])) :
    ∃ cv, (results Try.f25 tmps).run Try.prog w = .ok cv w ∧ VR e (.agg [x0, x1]) cv := by
  obtain ⟨cvs, k1, k2, k3⟩ := res_ok (P := Try.prog) hr (F := fun i => if i = 2 then .ptr b 0 0 else .undef) (tmps := tmps) (fun i => by
    by_cases hi : i = 2
    · subst hi; rw [if_pos rfl, htm]; exact hp
    · rw [if_neg hi]; exact .undef _) Try.f25.results.toList [.c (some 2) 2] [.agg [x0, x1]] (by kernel_rfl) (by simp [resOne, hb, mk])
  obtain ⟨x, rfl⟩ := List.length_eq_one_iff.1 (show cvs.length = 1 by simpa using k2)
  refine ⟨x, ?_, k3 0 (by simp)⟩
  rw [results_eq, Array.mapM_eq_mapM_toList]
  simp only [Sem.run_bind, Sem.run_map, k1, Result.andThen_ok]
  rfl
/-- datum.Must of what has none -/
theorem must_no (v : AV) (σ : St) (ht : ∀ u, Ext σ u → TP Try.prog 38 [v] u fun t => Ext u t) : TQ Try.prog 25 [v] σ fun r t => r = tenA [] [-1] ∧ Ext σ t := by
  refine ⟨⟨Try.f25, Try.func25, by kernel_rfl, by kernel_rfl⟩, fun W0 e w cargs hr hl hv => ?_⟩
  obtain ⟨cv, rfl⟩ : ∃ cv, cargs = #[cv] := Array.size_eq_one_iff.1 (by simpa using hl)
  have hv0 : VR e v cv := by simpa using hv 0 (by simp)
  have hmf : ∀ (fn : Fn) (first cap : Array Value) (w : World), (Instr.makeFunc fn first cap).run Try.prog w = .ok (.func fn first cap) w := fun _ _ _ _ => rfl
  go_enter_defers Try.func25, Try.ntmps25
  refine wp_seq (wp_region ?_)
  simp only [List.size_toArray, List.length_cons, List.length_nil, Nat.zero_add, show List.range 1 = [0] from rfl, wpOps, Region.wanted, if_true, List.getElem?_toArray, List.getElem?_cons_zero]
  refine .inl (opq_ok (c := cfg) (co := .al [.lit 1 [], .lit 1 []]) (F := fun i => if i = 0 then v else .undef) (K := fun r u => r = .ptr σ.next 0 0 ∧ u = σ.push (.cells 2 [[.lit 1 [], .lit 1 []]])) (by kernel_rfl) ⟨rfl, rfl⟩ W0 e _ w _ _ hr (fun t ht => ?_) fun e1 p w1 r u hk hle1 hr1 hp => ?_)
  · match t with
    | 0 => exact hv0
    | t + 1 => exact .undef _
  obtain ⟨rfl, rfl⟩ := hk
  refine wp_seq (wp_region ?_)
  simp [wpOps, Region.wanted, Oper.wp, Oper.upon, go_sem, hmf, show List.range 2 = [0, 1] from rfl, Exit.then]
  refine .inl (.inl (wp_seq (wp_region ?_)))
  have hcf : ∀ w, (callFunc 38 #[cv]).run Try.prog w = .ok (.enter 38 #[cv]) w := fun w => run_callFunc_body Try.func38 (by kernel_rfl) rfl _ w
  simp [wpOps, Region.wanted, Oper.wp, go_sem, hcf, show List.range 3 = [0, 1, 2] from rfl]
  refine .inl (.inl ?_)
  have hu : Ext σ (σ.push (.cells 2 [[.lit 1 [], .lit 1 []]])) := ⟨by rw [next_push]; omega, fun c hc => by rw [blk_push, if_neg (by omega)]⟩
  refine (ht _ hu W0 e1 w1 #[cv] hr1 rfl (fun i hi => ?_)).mono ?_
  · obtain rfl : i = 0 := by simpa using hi
    simpa using hv0.mono hle1
  rintro en w2 ⟨u, x, e2, t, rfl, hle2, hr2, hx⟩
  have hn := hx.1
  rw [next_push] at hn
  have hb : t.blk σ.next = some (.cells 2 [[.lit 1 [], .lit 1 []]]) := by rw [hx.2 σ.next (by rw [next_push]; omega), blk_push, if_pos rfl]
  show Leaves _ _ _ _ _ _ _
  refine leaves_cons (f := 37) (args := #[p]) (by simp) (by simp [go_sem]) ?_
  refine (catch_panicking hr2 hb (hp.mono hle2)).mono ?_
  rintro en u' w3 ⟨rfl, rfl, e3, hle3, hr3⟩
  obtain ⟨cv', h1, h2⟩ := res_cell (tmps := #[cv, undef, p, Value.func (Fn.func 37) #[] #[p], cv, undef]) hr3 ((hp.mono hle2).mono hle3) rfl (by rw [blk_set, if_pos rfl])
  refine ⟨cv', h1, e3, cv', rfl, (hle1.trans hle2).trans hle3, _, h2, _, hr3, rfl, ⟨by rw [next_set]; omega, fun c hc => by rw [blk_set, if_neg (by omega), hx.2 c (by rw [next_push]; omega), blk_push, if_neg (by omega)]⟩⟩

/-- datum.Must of what has one -/
theorem must_yes (v : AV) (s d : List Int) (σ : St) (ht : ∀ u, Ext σ u → TQ Try.prog 38 [v] u fun r t => ∃ b, r = .agg [ints s, b] ∧ OwnW u.next t b d ∧ Ext u t) :
    TQ Try.prog 25 [v] σ fun r t => ∃ b, r = .agg [ints s, b] ∧ OwnW σ.next t b d ∧ Ext σ t := by
  refine ⟨⟨Try.f25, Try.func25, by kernel_rfl, by kernel_rfl⟩, fun W0 e w cargs hr hl hv => ?_⟩
  obtain ⟨cv, rfl⟩ : ∃ cv, cargs = #[cv] := Array.size_eq_one_iff.1 (by simpa using hl)
  have hv0 : VR e v cv := by simpa using hv 0 (by simp)
  have hmf : ∀ (fn : Fn) (first cap : Array Value) (w : World), (Instr.makeFunc fn first cap).run Try.prog w = .ok (.func fn first cap) w := fun _ _ _ _ => rfl
  go_enter_defers Try.func25, Try.ntmps25
  refine wp_seq (wp_region ?_)
  simp only [List.size_toArray, List.length_cons, List.length_nil, Nat.zero_add, show List.range 1 = [0] from rfl, wpOps, Region.wanted, if_true, List.getElem?_toArray, List.getElem?_cons_zero]
  refine .inl (opq_ok (c := cfg) (co := .al [.lit 1 [], .lit 1 []]) (F := fun i => if i = 0 then v else .undef) (K := fun r u => r = .ptr σ.next 0 0 ∧ u = σ.push (.cells 2 [[.lit 1 [], .lit 1 []]])) (by kernel_rfl) ⟨rfl, rfl⟩ W0 e _ w _ _ hr (fun t ht => ?_) fun e1 p w1 r u hk hle1 hr1 hp => ?_)
  · match t with
    | 0 => exact hv0
    | t + 1 => exact .undef _
  obtain ⟨rfl, rfl⟩ := hk
  refine wp_seq (wp_region ?_)
  simp [wpOps, Region.wanted, Oper.wp, Oper.upon, go_sem, hmf, show List.range 2 = [0, 1] from rfl, Exit.then]
  refine .inl (.inl (wp_seq (wp_region ?_)))
  have hu : Ext σ (σ.push (.cells 2 [[.lit 1 [], .lit 1 []]])) := ⟨by rw [next_push]; omega, fun c hc => by rw [blk_push, if_neg (by omega)]⟩
  simp only [List.size_toArray, List.length_cons, List.length_nil, Nat.zero_add, Nat.reduceAdd, show List.range 3 = [0, 1, 2] from rfl, wpOps, Region.wanted, if_true, List.getElem?_toArray, List.getElem?_cons_zero, List.getElem?_cons_succ]
  refine .inl (opq_ok (c := cfg) (co := .mv (.t 0)) (F := fun i => if i = 0 then v else .undef) (K := fun r u => r = v ∧ u = σ.push (.cells 2 [[.lit 1 [], .lit 1 []]])) (by kernel_rfl) ⟨rfl, rfl⟩ W0 e1 _ w1 _ _ hr1 (fun t ht => ?_) fun e2 v2 w2 r u hk hle2 hr2 hv2 => ?_)
  · match t with
    | 0 => exact hv0.mono hle1
    | t + 1 => exact .undef _
  obtain ⟨rfl, rfl⟩ := hk
  refine .inl (opq_ok (c := cfg) (co := .call false 38 [.t 4]) (F := fun i => if i = 4 then r else .undef) (K := fun x t => ∃ b, x = .agg [ints s, b] ∧ OwnW (σ.next + 1) t b d ∧ Ext (σ.push (.cells 2 [[.lit 1 [], .lit 1 []]])) t) (by kernel_rfl) ⟨_, ht _ hu, fun _ _ h => h⟩ W0 e2 _ w2 _ _ hr2 (fun t ht => ?_) fun e3 v3 w3 x t hk hle3 hr3 hv3 => ?_)
  · match t with
    | 4 => exact hv2
    | 0 => exact .undef _
    | 1 => exact .undef _
    | 2 => exact .undef _
    | 3 => exact .undef _
    | t + 5 => exact .undef _
  obtain ⟨b, rfl, ho, hx⟩ := hk
  have hn := hx.1
  rw [next_push] at hn
  have hb : t.blk σ.next = some (.cells 2 [[.lit 1 [], .lit 1 []]]) := by rw [hx.2 σ.next (by rw [next_push]; omega), blk_push, if_pos rfl]
  have hp3 := ((hp.mono hle2).mono hle3)
  refine .inl (opq_ok (c := cfg) (co := .st 2 (.t 2) (.t 5)) (F := fun i => if i = 2 then .ptr σ.next 0 0 else if i = 5 then .agg [ints s, b] else .undef) (K := fun x u => u = t.set σ.next (.cells 2 [[ints s, b]])) (by kernel_rfl) ?_ W0 e3 _ w3 _ _ hr3 (fun t ht => ?_) fun e4 v4 w4 x u hk hle4 hr4 hv4 => ?_)
  · simp [aopq, aop, ev, hb, row1, splice, AV.parts]
  · match t with
    | 2 => exact hp3
    | 5 => exact hv3
    | 0 => exact .undef _
    | 1 => exact .undef _
    | 3 => exact .undef _
    | 4 => exact .undef _
    | t + 6 => exact .undef _
  subst hk
  refine wp_ret ?_
  show Leaves _ _ _ _ _ _ _
  refine leaves_cons (f := 37) (args := #[p]) (by simp) (by simp [go_sem]) ?_
  refine (catch_idle p w4).mono ?_
  rintro en u' w5 ⟨rfl, rfl, rfl⟩
  obtain ⟨cv', h1, h2⟩ := res_cell (tmps := #[cv, undef, p, Value.func (Fn.func 37) #[] #[p], v2, v3]) hr4 (hp3.mono hle4) rfl (by rw [blk_set, if_pos rfl])
  refine ⟨cv', h1, e4, cv', rfl, ((hle1.trans hle2).trans hle3).trans hle4, _, h2, _, hr4, b, rfl, ?_, ⟨by rw [next_set]; omega, fun c hc => by rw [blk_set, if_neg (by omega), hx.2 c (by rw [next_push]; omega), blk_push, if_neg (by omega)]⟩⟩
  rcases ho with h | ⟨c, g1, o2, o3, o4⟩
  · exact .inl h
  · exact .inr ⟨c, g1, by rw [blk_set, if_neg (by omega)]; exact o2, by omega, o4⟩
end Go.Proofs.Ytdmbgnppbchgcaa.Av

namespace Go.Proofs.Ytdmbgnppbchgcaa.Av
open Go Go.Av
set_option maxRecDepth 20000
set_option maxHeartbeats 4000000

attribute [local go_sem] step_apply stepD_apply stepE_apply
attribute [local go_sem] aopq_mv aopq_pk aopq_al aopq_bx aopq_bd aopq_bs aopq_ld aopq_st aopq_nc aopq_bin aopq_un aopq_cv aopq_mi aopq_mf aopq_mm aopq_ms aopq_sc aopq_fa aopq_fl aopq_ia aopq_lk aopq_mu aopq_lm aopq_rg aopq_rgs aopq_nxs aopq_msl aop_msl aop_rgs aop_nxs aopq_en aopq_ta aopq_ex aopq_ln aopq_ap aopq_mx aopq.eq_3 aop.eq_1 aop.eq_2 aop.eq_3 aop.eq_4 aop.eq_5 aop.eq_6 aop.eq_7 aop.eq_8 aop.eq_9 aop_bin atS_apply aop_un_not aop_un_neg aop.eq_14 aop.eq_15 aop.eq_16 aop.eq_17 aop.eq_18 aop_sc cutS_apply cutN_apply cutL_apply cutO_apply aop.eq_20 aop.eq_21 aop.eq_22 aop.eq_23 aop.eq_24 aop.eq_25 aop.eq_26 aop.eq_27 aop.eq_28 aop.eq_29 aop.eq_30 aop.eq_31 aop.eq_32 blk_push next_push blk_set next_set blk_kill next_kill frL_nil frL_cons Fits_nil Fits_cons Int.reduceBEq Int.reduceBNe Nat.sub_zero Option.map_some Option.map_none List.set_cons_succ true_or or_true false_or or_false Int.le_refl Int.cast_ofNat_Int decide_true decide_false List.cons_append fillA fillR rowsOf List.replicate_succ List.replicate_zero Nat.zero_mul getD_drop List.length_drop splice List.nil_append List.append_nil cond_true cond_false List.set_cons_zero List.length_set ev put_some put_none upd_apply abin asNat bounds row1 mk List.length_cons List.length_nil List.length_map List.drop_zero List.drop_succ_cons List.drop_nil List.getD_cons_zero List.getD_cons_succ Option.getD_none Option.getD_some List.take_succ_cons List.take_zero List.take_nil true_and and_true Int.toNat_natCast if_true if_false Nat.zero_add Nat.add_zero List.map_cons List.map_nil Nat.reduceEqDiff Nat.left_eq_add Nat.add_eq_left Nat.add_left_cancel_iff Nat.add_assoc Nat.reduceSub Nat.reduceAdd Nat.reduceLeDiff Nat.le_refl Nat.zero_le Nat.zero_lt_one Nat.lt_add_one Int.reduceLT Int.reduceLE Int.reduceToNat Nat.reduceLT Nat.reduceBEq Bool.false_eq_true Nat.reduceBNe ne_eq not_false_eq_true not_true_eq_false false_and and_false reduceIte Int.natCast_nonneg reduceCtorEq parts_agg parts_bool parts_int parts_str parts_lit parts_nils parts_sl parts_ptr parts_iface parts_nilp parts_niliface Int.natCast_nonneg Int.natCast_nonneg beq_self_eq_true bne_self_eq_false Bool.true_and Bool.false_and Bool.and_true Bool.and_false Bool.true_or Bool.false_or Bool.or_true Bool.or_false Bool.not_true Bool.not_false
attribute [local go_sem] I ints tenA

/-- parquetrylaw3.whole -/
theorem whole24_spec (n : Int) (σ : St) : T Try.prog 24 [tenA [] [n], I n] σ (.bool true) σ := by
  refine in24 (by simp) fun wf hab => ?_
  clear hab
  unfold c24
  first | refine .seq (.rg fun A hA K hK => ?_) | refine .seq (.seq (.rg fun A hA K hK => ?_)) | refine .rg fun A hA K hK => ?_ | refine .seq (.rd fun A hA K hK => ?_) | refine .seq (.seq (.rd fun A hA K hK => ?_)) | refine .rd fun A hA K hK => ?_
  simp (maxSteps := 1000000) only [go_sem, hA.nil, hA.go, hA.yes, hA.noT, hA.noF, hA.skp, tenA]
  refine hK _ _ ?_; clear hK K hA A
  first | refine .seq (.rg fun A hA K hK => ?_) | refine .seq (.seq (.rg fun A hA K hK => ?_)) | refine .rg fun A hA K hK => ?_ | refine .seq (.rd fun A hA K hK => ?_) | refine .seq (.seq (.rd fun A hA K hK => ?_)) | refine .rd fun A hA K hK => ?_
  simp (maxSteps := 1000000) only [go_sem, hA.nil, hA.go, hA.yes, hA.noT, hA.noF, hA.skp]
  refine hK _ _ ?_; clear hK K hA A
  exact .ret (retB (by simp (maxSteps := 1000000) only [go_sem]) wf (fun b hb => by simp (disch := omega) only [go_sem, if_neg]) (.bool _) ⟨rfl, rfl⟩)

theorem Ent.frz1 {n0 : Nat} {F : Fr} {σ : St} (b' j : Nat) {c' n sz sz' : Nat} {row : List AV} {rows : List (List AV)} (hb' : σ.blk b' = some (.cells sz' [row])) (hj : j < row.length) (hc : row.getD j .undef = .sl c' 0 n) (hb : σ.blk c' = some (.cells sz rows)) (hne : b' ≠ c') (hn : n = rows.length) :
    Ent n0 F σ F ((σ.kill c').set b' (.cells sz' [row.set j (.lit sz rows)])) := by
  have := Ent.freezeAt (n0 := n0) (F := F) (i := 0) (j := j) hb' (by simp) (by simpa using hj) (by simpa using hc) hb hne (by omega)
  subst hn; simpa using this

/-- A tensor in a variable, its numbers made plain. -/
theorem plain_box {n0 : Nat} {F : Fr} {σ t : St} {b9 : Nat} {s d : List Int} {b : AV} (hb : t.blk b9 = some (.cells 2 [[ints s, b]])) (ho : OwnW b9 t b d ∨ ∃ m, OwnW m t b d ∧ ∀ c, b = .sl c 0 d.length → c ≠ b9 ∧ σ.next ≤ c) (hlt : σ.next ≤ b9) (hx : Ext σ t) :
    ∃ t', Ent n0 F t F t' ∧ t'.blk b9 = some (.cells 2 [[ints s, ints d]]) ∧ Ext σ t' ∧ t'.next = t.next ∧ ∀ c, c ≠ b9 → b ≠ .sl c 0 d.length → t'.blk c = t.blk c := by
  have key : b = ints d ∨ ∃ c, b = .sl c 0 d.length ∧ t.blk c = some (.cells 1 (d.map fun n => [I n])) ∧ c ≠ b9 ∧ σ.next ≤ c := by
    rcases ho with (h | ⟨c, h1, h2, h3, h4⟩) | ⟨m, h | ⟨c, h1, h2, h3, h4⟩, h5⟩
    · exact .inl h
    · refine .inr ⟨c, h1, h2, ?_, by omega⟩
      rintro rfl
      rw [hb] at h2; simp at h2
    · exact .inl h
    · exact .inr ⟨c, h1, h2, h5 c h1⟩
  rcases key with rfl | ⟨c, rfl, h2, h3, h4⟩
  · exact ⟨t, .refl _ _ _, hb, hx, rfl, fun _ _ _ => rfl⟩
  · refine ⟨_, Ent.frz1 b9 1 hb (by simp) rfl h2 (Ne.symm h3) (by simp), by rw [blk_set, if_pos rfl]; rfl, ⟨by rw [next_set, next_kill]; exact hx.1, fun x hx' => ?_⟩, by rw [next_set, next_kill], fun x hx1 hx2 => ?_⟩
    · rw [blk_set, if_neg (by omega), blk_kill, if_neg (by omega)]; exact hx.2 x hx'
    · rw [blk_set, if_neg hx1, blk_kill, if_neg]
      rintro rfl; exact hx2 rfl

/-- parquetrylaw3.tells, where there is a tensor -/
theorem tells_yes (v : AV) (k : Int) (s d : List Int) (σ : St) (hKd : ∀ u, T Try.prog 16 [v] u (I k) u) (hT : ∀ u, Ext σ u → TQ Try.prog 9 [v] u (TenW u s d true)) : T Try.prog 28 [v, I k, tenA s d, .bool true] σ (.bool true) σ := by
  refine in28 (by simp) fun wf hab => ?_
  clear hab
  unfold c28
  refine .midK (fun L t => L = [(0, v), (1, I k), (3, .bool true), (6, .ptr σ.next 0 0)] ∧ t.blk σ.next = some (.cells 2 [[ints s, ints d]]) ∧ t.next = σ.next + 1 ∧ Ext σ t) ?_ ?_
  · first | refine .seq (.rg fun A hA K hK => ?_) | refine .seq (.seq (.rg fun A hA K hK => ?_)) | refine .rg fun A hA K hK => ?_ | refine .seq (.rd fun A hA K hK => ?_) | refine .seq (.seq (.rd fun A hA K hK => ?_)) | refine .rd fun A hA K hK => ?_
    simp (maxSteps := 1000000) only [go_sem, hA.nil, hA.go, hA.yes, hA.noT, hA.noF, hA.skp, tenA]
    refine hK _ _ ?_; clear hK K hA A
    exact ⟨_, ⟨rfl, by simp (maxSteps := 1000000) only [go_sem], by simp (maxSteps := 1000000) only [go_sem], ⟨by simp (maxSteps := 1000000) only [go_sem]; try omega, fun b hb => by simp (disch := omega) only [go_sem, if_neg]⟩⟩, by simp (maxSteps := 1000000) only [go_sem]⟩
  rintro L t ⟨rfl, h6, hn, hx⟩
  refine .midK (fun L u => ∃ b9, L = [(0, v), (1, I k), (3, .bool true), (6, .ptr σ.next 0 0), (9, .ptr b9 0 0), (10, .bool true)] ∧ u.blk σ.next = some (.cells 2 [[ints s, ints d]]) ∧ u.blk b9 = some (.cells 2 [[ints s, ints d]]) ∧ σ.next < b9 ∧ b9 < u.next ∧ Ext σ u) (.entQ ?_) ?_
  · first | refine .seq (.rg fun A hA K hK => ?_) | refine .seq (.seq (.rg fun A hA K hK => ?_)) | refine .rg fun A hA K hK => ?_ | refine .seq (.rd fun A hA K hK => ?_) | refine .seq (.seq (.rd fun A hA K hK => ?_)) | refine .rd fun A hA K hK => ?_
    simp (maxSteps := 1000000) only [go_sem, hA.nil, hA.go, hA.yes, hA.noT, hA.noF, hA.skp]
    refine aopq_callQ (hT t hx) (by simp (maxSteps := 1000000) only [go_sem]) ?_
    rintro r u ⟨b, rfl, ho, hxu⟩
    have hn' := hxu.1
    have hu6 : u.blk σ.next = some (.cells 2 [[ints s, ints d]]) := by rw [hxu.2 _ (by omega)]; exact h6
    try simp (maxSteps := 1000000) only [go_sem, hA.nil, hA.go, hA.yes, hA.noT, hA.noF, hA.skp]
    refine hK _ _ ?_; clear hK K hA A
    generalize hy : (u.push (.cells 2 [[.lit 1 [], .lit 1 []]])).set u.next _ = y
    have hy9 : y.blk u.next = some (.cells 2 [[ints s, b]]) := by subst hy; simp (maxSteps := 1000000) only [go_sem]
    have hyn : y.next = u.next + 1 := by subst hy; simp (maxSteps := 1000000) only [go_sem]
    have hyx : ∀ c, c < u.next → y.blk c = u.blk c := fun c hc => by subst hy; simp (disch := omega) only [go_sem, if_neg]
    have hxy : Ext σ y := ⟨by omega, fun c hc => by rw [hyx c (by omega), hxu.2 c (by omega)]; exact hx.2 c hc⟩
    have hoy : OwnW t.next y b d := by
      rcases ho with h | ⟨c, h1, h2, h3, h4⟩
      · exact .inl h
      · exact .inr ⟨c, h1, by rw [hyx c h4]; exact h2, h3, by omega⟩
    obtain ⟨z, e1, e2, e3, e4, e5⟩ := plain_box (n0 := σ.next) (F := upd (upd (upd (upd (upd (upd (upd (frL [(0, v), (1, I k), (3, .bool true), (6, .ptr σ.next 0 0)]) 13 v) 14 (.tup [.agg [ints s, b], .bool true])) 12 (.tup [.agg [ints s, b], .bool true])) 15 (.agg [ints s, b])) 16 (.bool true)) 9 (.ptr u.next 0 0)) 10 (.bool true)) hy9 (.inr ⟨_, hoy, fun c hc => by
      rcases ho with h | ⟨c', h1, h2, h3, h4⟩
      · rw [h] at hc; cases hc
      · rw [h1] at hc; cases hc; exact ⟨by omega, by omega⟩⟩) (by omega) hxy
    clear hy
    refine ⟨_, z, e1, _, ⟨u.next, rfl, ?_, e2, by omega, by omega, e3⟩, by simp (maxSteps := 1000000) only [go_sem]⟩
    rw [e5 _ (by omega) (fun h => ?_), hyx _ (by omega)]; exact hu6
    rcases ho with h' | ⟨c', h1, h2, h3, h4⟩
    · rw [h'] at h; cases h
    · rw [h1] at h; injection h; omega
  rintro L u ⟨b9, rfl, h6, h9, k1, k2, hx⟩
  have hM := must_yes v s d u fun u' h' => sure_yes v s d u' fun u'' h'' => hT u'' ((hx.trans h').trans h'')
  clear hT hn
  refine .midK (fun L y => ∃ b11, L = [(0, v), (1, I k), (3, .bool true), (6, .ptr σ.next 0 0), (9, .ptr b9 0 0), (10, .bool true), (11, .ptr b11 0 0)] ∧ y.blk σ.next = some (.cells 2 [[ints s, ints d]]) ∧ y.blk b9 = some (.cells 2 [[ints s, ints d]]) ∧ y.blk b11 = some (.cells 2 [[ints s, ints d]]) ∧ Ext σ y) (.entQ ?_) ?_
  · first | refine .seq (.rg fun A hA K hK => ?_) | refine .seq (.seq (.rg fun A hA K hK => ?_)) | refine .rg fun A hA K hK => ?_ | refine .seq (.rd fun A hA K hK => ?_) | refine .seq (.seq (.rd fun A hA K hK => ?_)) | refine .rd fun A hA K hK => ?_
    simp (maxSteps := 1000000) only [go_sem, hA.nil, hA.go, hA.yes, hA.noT, hA.noF, hA.skp]
    refine aopq_callQ (hM) (by simp (maxSteps := 1000000) only [go_sem]) ?_
    rintro r t ⟨b, rfl, ho, hxt⟩
    have hn' := hxt.1
    have t6 : t.blk σ.next = some (.cells 2 [[ints s, ints d]]) := by rw [hxt.2 _ (by omega)]; assumption
    have t9 : t.blk b9 = some (.cells 2 [[ints s, ints d]]) := by rw [hxt.2 _ (by omega)]; exact h9
    try simp (maxSteps := 1000000) only [go_sem, hA.nil, hA.go, hA.yes, hA.noT, hA.noF, hA.skp]
    refine hK _ _ ?_; clear hK K hA A
    generalize hy : (t.push (.cells 2 [[.lit 1 [], .lit 1 []]])).set t.next _ = y
    have hyb : y.blk t.next = some (.cells 2 [[ints s, b]]) := by subst hy; simp (maxSteps := 1000000) only [go_sem]
    have hyn : y.next = t.next + 1 := by subst hy; simp (maxSteps := 1000000) only [go_sem]
    have hyx : ∀ c, c < t.next → y.blk c = t.blk c := fun c hc => by subst hy; simp (disch := omega) only [go_sem, if_neg]
    have hx1 := hx.1
    have hxy : Ext σ y := ⟨by omega, fun c hc => by rw [hyx c (by omega), hxt.2 c (by omega)]; exact hx.2 c hc⟩
    have hoy : OwnW u.next y b d := by
      rcases ho with h | ⟨c, h1, h2, h3, h4⟩
      · exact .inl h
      · exact .inr ⟨c, h1, by rw [hyx c h4]; exact h2, h3, by omega⟩
    have own : ∀ c, b = .sl c 0 d.length → u.next ≤ c ∧ c < t.next := fun c hc => by
      rcases ho with h | ⟨c', h1, h2, h3, h4⟩
      · rw [h] at hc; cases hc
      · rw [h1] at hc; cases hc; exact ⟨h3, h4⟩
    obtain ⟨z, e1, e2, e3, e4, e5⟩ := plain_box (n0 := σ.next) (F := upd (upd (upd (frL [(0, v), (1, I k), (3, .bool true), (6, .ptr σ.next 0 0), (9, .ptr b9 0 0), (10, .bool true)]) 17 v) 18 (.agg [ints s, b])) 11 (.ptr t.next 0 0)) hyb (.inr ⟨_, hoy, fun c hc => by have := own c hc; omega⟩) (by omega) hxy
    clear hy
    refine ⟨_, z, e1, _, ⟨t.next, rfl, ?_, ?_, e2, e3⟩, by simp (maxSteps := 1000000) only [go_sem]⟩
    · rw [e5 _ (by omega) (fun h => by have := own _ h; omega), hyx _ (by omega)]; exact t6
    · rw [e5 _ (by omega) (fun h => by have := own _ h; omega), hyx _ (by omega)]; exact t9
  rintro L y ⟨b11, rfl, y6, y9, y11, hxy⟩
  have kk : (k != k) = false := by simp
  first | refine .seq (.rg fun A hA K hK => ?_) | refine .seq (.seq (.rg fun A hA K hK => ?_)) | refine .rg fun A hA K hK => ?_ | refine .seq (.rd fun A hA K hK => ?_) | refine .seq (.seq (.rd fun A hA K hK => ?_)) | refine .rd fun A hA K hK => ?_
  simp (maxSteps := 1000000) only [go_sem, hA.nil, hA.go, hA.yes, hA.noT, hA.noF, hA.skp]
  first | refine aopq_call (hKd y) (by simp (maxSteps := 1000000) only [go_sem, kk]) ?_ | refine aop_call (hKd y) (by simp (maxSteps := 1000000) only [go_sem, kk]) ?_
  try simp (maxSteps := 1000000) only [go_sem, hA.nil, hA.go, hA.yes, hA.noT, hA.noF, hA.skp, kk]
  refine hK _ _ ?_; clear hK K hA A
  refine .cond (t := false) (by simp (maxSteps := 1000000) only [go_sem, kk]) (fun h => by cases h) (fun _ => .skip ?_)
  first | refine .seq (.rg fun A hA K hK => ?_) | refine .seq (.seq (.rg fun A hA K hK => ?_)) | refine .rg fun A hA K hK => ?_ | refine .seq (.rd fun A hA K hK => ?_) | refine .seq (.seq (.rd fun A hA K hK => ?_)) | refine .rd fun A hA K hK => ?_
  simp (maxSteps := 1000000) only [go_sem, hA.nil, hA.go, hA.yes, hA.noT, hA.noF, hA.skp]
  refine hK _ _ ?_; clear hK K hA A
  refine .cond (t := false) (by simp (maxSteps := 1000000) only [go_sem]) (fun h => by cases h) (fun _ => .skip ?_)
  first | refine .seq (.rg fun A hA K hK => ?_) | refine .seq (.seq (.rg fun A hA K hK => ?_)) | refine .rg fun A hA K hK => ?_ | refine .seq (.rd fun A hA K hK => ?_) | refine .seq (.seq (.rd fun A hA K hK => ?_)) | refine .rd fun A hA K hK => ?_
  simp (maxSteps := 1000000) only [go_sem, hA.nil, hA.go, hA.yes, hA.noT, hA.noF, hA.skp, y6, y9, y11]
  first | refine aopq_call (sameT_spec s d y) (by simp (maxSteps := 1000000) only [go_sem, y6, y9, y11, tenA]) ?_ | refine aop_call (sameT_spec s d y) (by simp (maxSteps := 1000000) only [go_sem, y6, y9, y11, tenA]) ?_
  try simp (maxSteps := 1000000) only [go_sem, hA.nil, hA.go, hA.yes, hA.noT, hA.noF, hA.skp, y6, y9, y11, tenA]
  first | refine aopq_call (sameT_spec s d y) (by simp (maxSteps := 1000000) only [go_sem, y6, y9, y11, tenA]) ?_ | refine aop_call (sameT_spec s d y) (by simp (maxSteps := 1000000) only [go_sem, y6, y9, y11, tenA]) ?_
  try simp (maxSteps := 1000000) only [go_sem, hA.nil, hA.go, hA.yes, hA.noT, hA.noF, hA.skp, y6, y9, y11, tenA]
  refine hK _ _ ?_; clear hK K hA A
  exact .ret (retB (by simp (maxSteps := 1000000) only [go_sem]) wf hxy.2 (.bool _) ⟨rfl, rfl⟩)

/-- parquetrylaw3.tells, where there is none -/
theorem tells_no (v : AV) (k : Int) (ws wd : List Int) (σ : St) (hKd : ∀ u, T Try.prog 16 [v] u (I k) u) (hT : ∀ u, Ext σ u → TQ Try.prog 9 [v] u (TenQ u [] [] false)) : T Try.prog 28 [v, I k, tenA ws wd, .bool false] σ (.bool true) σ := by
  refine in28 (by simp) fun wf hab => ?_
  clear hab
  unfold c28
  refine .midK (fun L t => L = [(0, v), (1, I k), (3, .bool false)] ∧ t.next = σ.next + 1 ∧ Ext σ t) ?_ ?_
  · first | refine .seq (.rg fun A hA K hK => ?_) | refine .seq (.seq (.rg fun A hA K hK => ?_)) | refine .rg fun A hA K hK => ?_ | refine .seq (.rd fun A hA K hK => ?_) | refine .seq (.seq (.rd fun A hA K hK => ?_)) | refine .rd fun A hA K hK => ?_
    simp (maxSteps := 1000000) only [go_sem, hA.nil, hA.go, hA.yes, hA.noT, hA.noF, hA.skp, tenA]
    refine hK _ _ ?_; clear hK K hA A
    exact ⟨_, ⟨rfl, by simp (maxSteps := 1000000) only [go_sem], ⟨by simp (maxSteps := 1000000) only [go_sem]; try omega, fun b hb => by simp (disch := omega) only [go_sem, if_neg]⟩⟩, by simp (maxSteps := 1000000) only [go_sem]⟩
  rintro L t ⟨rfl, hn, hx⟩
  refine .midK (fun L u => ∃ b9, L = [(0, v), (1, I k), (3, .bool false), (9, .ptr b9 0 0), (10, .bool false)] ∧ u.blk b9 = some (.cells 2 [[ints [], ints []]]) ∧ σ.next ≤ b9 ∧ b9 < u.next ∧ Ext σ u) (.entQ ?_) ?_
  · first | refine .seq (.rg fun A hA K hK => ?_) | refine .seq (.seq (.rg fun A hA K hK => ?_)) | refine .rg fun A hA K hK => ?_ | refine .seq (.rd fun A hA K hK => ?_) | refine .seq (.seq (.rd fun A hA K hK => ?_)) | refine .rd fun A hA K hK => ?_
    simp (maxSteps := 1000000) only [go_sem, hA.nil, hA.go, hA.yes, hA.noT, hA.noF, hA.skp]
    refine aopq_callQ (hT t hx) (by simp (maxSteps := 1000000) only [go_sem]) ?_
    rintro r u ⟨b, rfl, ho, hxu⟩
    have hn' := hxu.1
    try simp (maxSteps := 1000000) only [go_sem, hA.nil, hA.go, hA.yes, hA.noT, hA.noF, hA.skp]
    refine hK _ _ ?_; clear hK K hA A
    generalize hy : (u.push (.cells 2 [[.lit 1 [], .lit 1 []]])).set u.next _ = y
    have hy9 : y.blk u.next = some (.cells 2 [[ints [], b]]) := by subst hy; simp (maxSteps := 1000000) only [go_sem]
    have hyn : y.next = u.next + 1 := by subst hy; simp (maxSteps := 1000000) only [go_sem]
    have hyx : ∀ c, c < u.next → y.blk c = u.blk c := fun c hc => by subst hy; simp (disch := omega) only [go_sem, if_neg]
    have hxy : Ext σ y := ⟨by omega, fun c hc => by rw [hyx c (by omega), hxu.2 c (by omega)]; exact hx.2 c hc⟩
    have hoy : OwnW t.next y b [] ∧ ∀ c, b = .sl c 0 ([] : List Int).length → c ≠ u.next ∧ σ.next ≤ c := by
      rcases ho with ⟨h, _⟩ | ⟨c, h1, h2, h3, h4⟩
      · exact ⟨.inl h, fun c hc => by rw [h] at hc; cases hc⟩
      · exact ⟨.inr ⟨c, h1, by rw [hyx c h4]; exact h2, h3, by omega⟩, fun c' hc => by rw [h1] at hc; cases hc; exact ⟨by omega, by omega⟩⟩
    obtain ⟨z, e1, e2, e3, e4, e5⟩ := plain_box (n0 := σ.next) (F := upd (upd (upd (upd (upd (upd (upd (frL [(0, v), (1, I k), (3, .bool false)]) 13 v) 14 (.tup [.agg [ints [], b], .bool false])) 12 (.tup [.agg [ints [], b], .bool false])) 15 (.agg [ints [], b])) 16 (.bool false)) 9 (.ptr u.next 0 0)) 10 (.bool false)) hy9 (.inr ⟨_, hoy.1, hoy.2⟩) (by omega) hxy
    clear hy
    exact ⟨_, z, e1, _, ⟨u.next, rfl, e2, by omega, by omega, e3⟩, by simp (maxSteps := 1000000) only [go_sem]⟩
  rintro L u ⟨b9, rfl, h9, k1, k2, hx⟩
  have hM := must_no v u fun u' h' => sure_no v u' fun u'' h'' => hT u'' ((hx.trans h').trans h'')
  refine .midK (fun L y => ∃ b11, L = [(0, v), (1, I k), (3, .bool false), (9, .ptr b9 0 0), (10, .bool false), (11, .ptr b11 0 0)] ∧ y.blk b9 = some (.cells 2 [[ints [], ints []]]) ∧ y.blk b11 = some (.cells 2 [[ints [], ints [-1]]]) ∧ Ext σ y) ?_ ?_
  · first | refine .seq (.rg fun A hA K hK => ?_) | refine .seq (.seq (.rg fun A hA K hK => ?_)) | refine .rg fun A hA K hK => ?_ | refine .seq (.rd fun A hA K hK => ?_) | refine .seq (.seq (.rd fun A hA K hK => ?_)) | refine .rd fun A hA K hK => ?_
    simp (maxSteps := 1000000) only [go_sem, hA.nil, hA.go, hA.yes, hA.noT, hA.noF, hA.skp]
    refine aopq_callQ (hM) (by simp (maxSteps := 1000000) only [go_sem]) ?_
    rintro r t ⟨rfl, hxt⟩
    have hn' := hxt.1
    have hx1 := hx.1
    have t9 : t.blk b9 = some (.cells 2 [[ints [], ints []]]) := by rw [hxt.2 _ (by omega)]; exact h9
    try simp (maxSteps := 1000000) only [go_sem, hA.nil, hA.go, hA.yes, hA.noT, hA.noF, hA.skp, tenA]
    refine hK _ _ ?_; clear hK K hA A
    exact ⟨_, ⟨t.next, rfl, by simp (disch := omega) only [go_sem, if_neg, t9], by simp (maxSteps := 1000000) only [go_sem], ⟨by simp (maxSteps := 1000000) only [go_sem]; omega, fun c hc => by simp (disch := omega) only [go_sem, if_neg, hxt.2 c (show c < u.next by omega), hx.2 c hc]⟩⟩, by simp (maxSteps := 1000000) only [go_sem]⟩
  rintro L y ⟨b11, rfl, y9, y11, hxy⟩
  have kk : (k != k) = false := by simp
  first | refine .seq (.rg fun A hA K hK => ?_) | refine .seq (.seq (.rg fun A hA K hK => ?_)) | refine .rg fun A hA K hK => ?_ | refine .seq (.rd fun A hA K hK => ?_) | refine .seq (.seq (.rd fun A hA K hK => ?_)) | refine .rd fun A hA K hK => ?_
  simp (maxSteps := 1000000) only [go_sem, hA.nil, hA.go, hA.yes, hA.noT, hA.noF, hA.skp]
  first | refine aopq_call (hKd y) (by simp (maxSteps := 1000000) only [go_sem, kk]) ?_ | refine aop_call (hKd y) (by simp (maxSteps := 1000000) only [go_sem, kk]) ?_
  try simp (maxSteps := 1000000) only [go_sem, hA.nil, hA.go, hA.yes, hA.noT, hA.noF, hA.skp, kk]
  refine hK _ _ ?_; clear hK K hA A
  refine .cond (t := false) (by simp (maxSteps := 1000000) only [go_sem, kk]) (fun h => by cases h) (fun _ => .skip ?_)
  first | refine .seq (.rg fun A hA K hK => ?_) | refine .seq (.seq (.rg fun A hA K hK => ?_)) | refine .rg fun A hA K hK => ?_ | refine .seq (.rd fun A hA K hK => ?_) | refine .seq (.seq (.rd fun A hA K hK => ?_)) | refine .rd fun A hA K hK => ?_
  simp (maxSteps := 1000000) only [go_sem, hA.nil, hA.go, hA.yes, hA.noT, hA.noF, hA.skp]
  refine hK _ _ ?_; clear hK K hA A
  refine .cond (t := true) (by simp (maxSteps := 1000000) only [go_sem]) (fun _ => ?_) (fun h => by cases h)
  first | refine .seq (.rg fun A hA K hK => ?_) | refine .seq (.seq (.rg fun A hA K hK => ?_)) | refine .rg fun A hA K hK => ?_ | refine .seq (.rd fun A hA K hK => ?_) | refine .seq (.seq (.rd fun A hA K hK => ?_)) | refine .rd fun A hA K hK => ?_
  simp (maxSteps := 1000000) only [go_sem, hA.nil, hA.go, hA.yes, hA.noT, hA.noF, hA.skp, y9, y11]
  first | refine aopq_call (whole24_spec (-1) y) (by simp (maxSteps := 1000000) only [go_sem, y9, y11, tenA]) ?_ | refine aop_call (whole24_spec (-1) y) (by simp (maxSteps := 1000000) only [go_sem, y9, y11, tenA]) ?_
  try simp (maxSteps := 1000000) only [go_sem, hA.nil, hA.go, hA.yes, hA.noT, hA.noF, hA.skp, y9, y11, tenA]
  refine hK _ _ ?_; clear hK K hA A
  exact .ret (retB (by simp (maxSteps := 1000000) only [go_sem]) wf hxy.2 (.bool _) ⟨rfl, rfl⟩)
end Go.Proofs.Ytdmbgnppbchgcaa.Av
