/- A logic of small values, and walks in it: Counting loops. The functions that read programs: what they come to. For the walks: steps that stop at calls; frames told by the slots that are looked at later; states told by what lies in them. More steps that turn nothing: rows in rows. From what a row's arguments read as to what stands to them. Arguments of rows, lists of numbers, as small values. ref18.Right: one number for programs. -/
import Derived.Test.YtfjbabacpnnjmaaAv4
import Derived.ChangeArms
import Derived.ChangeSlices
import Derived.SizedLaws
import Derived.DataReads
import Derived.Test.YtfjbabacpnnjmaaProg
import Derived.KernelRfl
import Derived.Below
set_option linter.unusedVariables false
set_option linter.unusedSimpArgs false
set_option linter.deprecated false
namespace Go.Av

section
variable {P : Program} {n0 : Nat} {Q : Exit → Fr → St → Prop} {F : Fr} {σ : St}

/-- What the body of a counting loop is to bring about. 'id': the loop's end, 'id2': the next round. -/
def roundQ (id id2 ti tx i : Nat) (J : Nat → Fr → St → Prop) (Q : Exit → Fr → St → Prop) : Exit → Fr → St → Prop
 | .normal, F, σ => F ti = .int .i64 i ∧ J (i + 1) (upd (upd F tx (.int .i64 ((i + 1 : Nat) : Int))) ti (.int .i64 ((i + 1 : Nat) : Int))) σ
 | .exit k, F, σ => if k = id2 then F ti = .int .i64 i ∧ J (i + 1) (upd (upd F tx (.int .i64 ((i + 1 : Nat) : Int))) ti (.int .i64 ((i + 1 : Nat) : Int))) σ else if k = id then Q .normal F σ else Q (.exit k) F σ
 | ex, F, σ => Q ex F σ

theorem wrap_succ {i : Nat} (h : i < most) : IntKind.i64.wrap (i + 1) = ((i + 1 : Nat) : Int) := by
 rw [IntWalk.i64_in _ (by simp only [most] at h; omega)]; rfl

theorem SWP.range {id id2 t ti tn tx N : Nat} {body : C} (J : Nat → Fr → St → Prop) (hN : N ≤ most) (h0 : J 0 F σ) (hF : ∀ i F σ, J i F σ → F ti = .int .i64 i ∧ F tn = .int .i64 N)
  (hstep : ∀ i F σ, i < N → J i F σ → SWP P n0 body (roundQ id id2 ti tx i J Q) (upd F t (.bool true)) σ)
  (hend : ∀ F σ, J N F σ → Q .normal (upd F t (.bool false)) σ) :
  SWP P n0 (.block id (.loop (.seq (.reg [⟨some t, none, .bin .lss 0 (.t ti) (.t tn)⟩]) (.seq (.cond (.t t) .skip (.exit id))
   (.seq (.block id2 body) (.reg [⟨some tx, none, .bin .add 0 (.t ti) (.k (.int .i64 1))⟩, ⟨some ti, none, .mv (.t tx)⟩])))))) Q F σ := by
 refine .block (.loop (fun m F σ => ∃ i, i ≤ N ∧ m = N - i ∧ J i F σ) N ⟨0, Nat.zero_le _, by simp, h0⟩ ?_)
 rintro m F σ ⟨i, hi, rfl, hJ⟩
 obtain ⟨hi1, hi2⟩ := hF i F σ hJ
 refine .seq (.reg ?_)
 simp only [aops, aopq, aop, ev, hi1, hi2, abin, put, true_and]
 refine .seq (.cond (t := decide ((i : Int) < N)) (by simp [ev, upd]) (fun ht => .skip ?_) (fun ht => .exit ?_))
 ·have hlt : i < N := by simpa using ht
  rw [show decide ((i : Int) < N) = true from ht]
  refine .seq (.block ?_)
  refine (hstep i F σ hlt hJ).mono fun ex F' σ' hq => ?_
  have key : (F' ti = .int .i64 i ∧ J (i + 1) (upd (upd F' tx (.int .i64 ((i + 1 : Nat) : Int))) ti (.int .i64 ((i + 1 : Nat) : Int))) σ') → SWP P n0 (.reg [⟨some tx, none, .bin .add 0 (.t ti) (.k (.int .i64 1))⟩, ⟨some ti, none, .mv (.t tx)⟩])
    (thenQ (fun F σ => ∃ m, m < N - i ∧ ∃ i, i ≤ N ∧ m = N - i ∧ J i F σ) (blockQ id Q)) F' σ' := by
   rintro ⟨h1, h2⟩
   refine .reg ?_
   simp only [aops, aopq, aop, ev, h1, abin, put, true_and]
   refine ⟨N - (i + 1), by omega, i + 1, by omega, rfl, ?_⟩
   rw [wrap_succ (by omega)]
   have e : upd F' tx (.int .i64 ((i + 1 : Nat) : Int)) tx = .int .i64 ((i + 1 : Nat) : Int) := by simp [upd]
   rw [e]; exact h2
  cases ex with
  | normal => exact key hq
  | exit k =>
   simp only [roundQ] at hq
   simp only [blockQ]
   split
   ·rename_i h; rw [if_pos h] at hq; exact key hq
   ·rename_i h; rw [if_neg h] at hq
    split at hq
    ·rename_i h'; subst h'
     show blockQ k Q (.exit k) F' σ'
     simp only [blockQ, if_true]; exact hq
    ·rename_i h'
     show blockQ id Q (.exit k) F' σ'
     simp only [blockQ]; rw [if_neg h']; exact hq
  | _ => exact hq
 ·have : i = N := by have := of_decide_eq_false ht; omega
  subst this
  rw [show decide ((i : Int) < i) = false from ht]
  show blockQ id Q (.exit id) _ _
  simp only [blockQ, if_true]
  exact hend F σ hJ

/-- The same for a loop whose head is anything that turns out as 'i < N'. -/
theorem SWP.count {id id2 t ti ta tx N : Nat} {hd body : C} (J : Nat → Fr → St → Prop) (hN : N ≤ most) (h0 : J 0 F σ)
  (hhd : ∀ i F σ, i ≤ N → J i F σ → SWP P n0 hd (fun ex F' σ' => ex = .normal ∧ F' t = .bool (decide (i < N)) ∧ J i F' σ') F σ)
  (hstep : ∀ i F σ, i < N → J i F σ → F t = .bool true → SWP P n0 body (fun ex F' σ' => match ex with
   | .normal => F' ti = .int .i64 i ∧ J (i + 1) (upd (upd (upd F' ta (.int .i64 i)) tx (.int .i64 ((i + 1 : Nat) : Int))) ti (.int .i64 ((i + 1 : Nat) : Int))) σ'
   | .exit k => if k = id2 then F' ti = .int .i64 i ∧ J (i + 1) (upd (upd (upd F' ta (.int .i64 i)) tx (.int .i64 ((i + 1 : Nat) : Int))) ti (.int .i64 ((i + 1 : Nat) : Int))) σ' else if k = id then Q .normal F' σ' else Q (.exit k) F' σ'
   | ex => Q ex F' σ') F σ)
  (hend : ∀ F σ, J N F σ → F t = .bool false → Q .normal F σ) :
  SWP P n0 (.block id (.loop (.seq (.seq hd (.cond (.t t) .skip (.exit id)))
   (.seq (.block id2 body) (.reg [⟨some ta, none, .mv (.t ti)⟩, ⟨some tx, none, .bin .add 0 (.t ta) (.k (.int .i64 1))⟩, ⟨some ti, none, .mv (.t tx)⟩]))))) Q F σ := by
 refine .block (.loop (fun m F σ => ∃ i, i ≤ N ∧ m = N - i ∧ J i F σ) N ⟨0, Nat.zero_le _, by simp, h0⟩ ?_)
 rintro m F σ ⟨i, hi, rfl, hJ⟩
 refine .seq (.seq ((hhd i F σ hi hJ).mono ?_))
 rintro ex F1 σ1 ⟨rfl, ht1, hJ1⟩
 refine .cond (t := decide (i < N)) ht1 (fun ht => .skip ?_) (fun ht => .exit ?_)
 ·have hlt : i < N := by simpa using ht
  refine .seq (.block ?_)
  refine (hstep i F1 σ1 hlt hJ1 (by rw [ht1, ht])).mono fun ex F' σ' hq => ?_
  have key : (F' ti = .int .i64 i ∧ J (i + 1) (upd (upd (upd F' ta (.int .i64 i)) tx (.int .i64 ((i + 1 : Nat) : Int))) ti (.int .i64 ((i + 1 : Nat) : Int))) σ') → SWP P n0 (.reg [⟨some ta, none, .mv (.t ti)⟩, ⟨some tx, none, .bin .add 0 (.t ta) (.k (.int .i64 1))⟩, ⟨some ti, none, .mv (.t tx)⟩])
    (thenQ (fun F σ => ∃ m, m < N - i ∧ ∃ i, i ≤ N ∧ m = N - i ∧ J i F σ) (blockQ id Q)) F' σ' := by
   rintro ⟨h1, h2⟩
   have e0 : upd F' ta (.int .i64 i) ta = .int .i64 i := by simp [upd]
   have e : upd (upd F' ta (.int .i64 i)) tx (.int .i64 ((i + 1 : Nat) : Int)) tx = .int .i64 ((i + 1 : Nat) : Int) := by simp [upd]
   refine .reg ?_
   simp only [aops, aopq, aop, ev, h1, abin, put, true_and, e0, wrap_succ (show i < most by omega)]
   refine ⟨N - (i + 1), by omega, i + 1, by omega, rfl, ?_⟩
   rw [e]; exact h2
  cases ex with
  | normal => exact key hq
  | exit k =>
   simp only at hq
   simp only [blockQ]
   split
   ·rename_i h; rw [if_pos h] at hq; exact key hq
   ·rename_i h; rw [if_neg h] at hq
    split at hq
    ·rename_i h'; subst h'
     show blockQ k Q (.exit k) F' σ'
     simp only [blockQ, if_true]; exact hq
    ·rename_i h'
     show blockQ id Q (.exit k) F' σ'
     simp only [blockQ]; rw [if_neg h']; exact hq
  | _ => exact hq
 ·have hn : i = N := by have := of_decide_eq_false ht; omega
  subst hn
  show blockQ id Q (.exit id) _ _
  simp only [blockQ, if_true]
  exact hend F1 σ1 hJ1 (by rw [ht1, ht])
end
end Go.Av
namespace Go.Proofs.Ytfjbabacpnnjmaa.Av
open Go Go.Av

set_option maxRecDepth 20000
set_option maxHeartbeats 4000000

section ret
variable {n0 : Nat} {F : Fr} {σ σ0 : St}
theorem ret1 {n : Nat} {v : AV} (h : F n = v) (hs : σ = σ0) : retQ n0 [.t n] (fun v' s' => v' = v ∧ s' = σ0) .ret F σ :=
 ⟨[v], by simp [resOne, h], v, σ, .refl _ _ _, rfl, hs⟩
theorem ret1b {n : Nat} {v : AV} (h : F n = v) (wf : σ0.Wf) (hs : ∀ b, b < σ0.next → σ.blk b = σ0.blk b) (hv : v.Lt σ0.next) : retQ σ0.next [.t n] (fun v' s' => v' = v ∧ s' = σ0) .ret F σ :=
 ⟨[v], by simp [resOne, h], v, σ0, .back rfl wf hs hv, rfl, rfl⟩
end ret

abbrev I (n : Int) : AV := .int .i64 n
def ints (l : List Int) : AV := .lit 1 (l.map fun n => [I n])

structure Node where
 op : Int
 ins : List Int
 shape : List Int
 a : List Int
 n : Int
 how : Int
 note : ByteArray
structure Instr where
 kind : Int
 out : Int
 ins : List Int
 node : Node
 n : Int
 dev : Int
 tag : Int

def nodeL (x : Node) : List AV := [I x.op, ints x.ins, ints x.shape, ints x.a, I x.n, I x.how, .str x.note]
def instrL (x : Instr) : List AV := [I x.kind, I x.out, ints x.ins, I x.node.op, ints x.node.ins, ints x.node.shape, ints x.node.a, I x.node.n, I x.node.how, .str x.node.note, I x.n, I x.dev, I x.tag]
def progA (p : List Instr) : AV := .lit 13 (p.map instrL)
def progsA (l : List (List Instr)) : AV := .lit 1 (l.map fun p => [progA p])

theorem ints_get {l : List Int} {i : Nat} (h : i < l.length) : (l.map fun n => [I n]).getD i [] = [I l[i]] := by simp [h]
theorem prog_get {l : List Instr} {i : Nat} (h : i < l.length) : (l.map instrL).getD i [] = instrL l[i] := by simp [h]
theorem progs_get {l : List (List Instr)} {i : Nat} (h : i < l.length) : (l.map fun p => [progA p]).getD i [] = [progA l[i]] := by simp [h]

theorem progs_get' {l : List (List Instr)} {i : Nat} (h : i < l.length) : (l.map fun p => [AV.lit 13 (p.map instrL)]).getD i [] = [progA l[i]] := by simp [h, progA]

theorem hab_ints {l : List Int} (h : Hab (ints l)) : l.length ≤ most := by simpa using h.lit.1
theorem hab_prog {p : List Instr} (h : Hab (progA p)) : p.length ≤ most := by simpa using h.lit.1
theorem hab_progs {l : List (List Instr)} (h : Hab (progsA l)) : l.length ≤ most ∧ ∀ p ∈ l, Hab (progA p) := by
 refine ⟨by simpa using h.lit.1, fun p hp => ?_⟩
 obtain ⟨i, hi, rfl⟩ := List.getElem_of_mem hp
 have := h.lit.2.2 i 0 (by simpa using hi) (by simp)
 rwa [progs_get hi] at this

theorem parts_agg (cs : List AV) : (AV.agg cs).parts = true := rfl
theorem parts_bool (b : Bool) : (AV.bool b).parts = true := rfl
theorem parts_int (k : IntKind) (b : Int) : (AV.int k b).parts = true := rfl
theorem parts_str (b : ByteArray) : (AV.str b).parts = true := rfl
theorem parts_lit (n : Nat) (b : List (List AV)) : (AV.lit n b).parts = true := rfl
theorem parts_nils : (AV.nils).parts = true := rfl
theorem parts_sl (b o n : Nat) : (AV.sl b o n).parts = true := rfl
theorem parts_ptr (b o n : Nat) : (AV.ptr b o n).parts = true := rfl
theorem instr0 (i : Instr) : (instrL i).getD 0 .undef = I i.kind := rfl
theorem instr1 (i : Instr) : (instrL i).getD 1 .undef = I i.out := rfl
theorem instr2 (i : Instr) : (instrL i).getD 2 .undef = ints i.ins := rfl
theorem instr10 (i : Instr) : (instrL i).getD 10 .undef = I i.n := rfl
theorem instr11 (i : Instr) : (instrL i).getD 11 .undef = I i.dev := rfl
theorem instr12 (i : Instr) : (instrL i).getD 12 .undef = I i.tag := rfl
theorem instrN (i : Instr) : ((instrL i).drop 3).take 7 = nodeL i.node := rfl
theorem instrA (i : Instr) : (instrL i).take 13 = instrL i := rfl
theorem instr_len (i : Instr) : (instrL i).length = 13 := rfl
theorem node0 (x : Node) : (nodeL x).getD 0 .undef = I x.op := rfl
theorem node1 (x : Node) : (nodeL x).getD 1 .undef = ints x.ins := rfl
theorem node2 (x : Node) : (nodeL x).getD 2 .undef = ints x.shape := rfl
theorem node3 (x : Node) : (nodeL x).getD 3 .undef = ints x.a := rfl
theorem node4 (x : Node) : (nodeL x).getD 4 .undef = I x.n := rfl
theorem node5 (x : Node) : (nodeL x).getD 5 .undef = I x.how := rfl
theorem node6 (x : Node) : (nodeL x).getD 6 .undef = .str x.note := rfl
theorem nodeA (x : Node) : (nodeL x).take 7 = nodeL x := rfl
theorem node_len (x : Node) : (nodeL x).length = 7 := rfl
theorem getD_drop (l : List AV) (k j : Nat) : (l.drop k).getD j .undef = l.getD (k + j) .undef := by simp [List.getD_eq_getElem?_getD]

attribute [local go_sem] step_apply
attribute [local go_sem] instr0 instr1 instr2 instr10 instr11 instr12 instrN instrA instr_len node0 node1 node2 node3 node4 node5 node6 nodeA node_len getD_drop List.length_drop splice List.nil_append List.append_nil cond_true cond_false List.set_cons_zero List.length_set aopq aop ev put_some put_none upd_apply abin asNat bounds row1 mk I ints progA progsA List.length_cons List.length_nil List.length_map List.drop_zero List.drop_succ_cons List.drop_nil List.getD_cons_zero List.getD_cons_succ Option.getD_none Option.getD_some
 List.take_succ_cons List.take_zero List.take_nil true_and and_true Int.toNat_natCast if_true if_false Nat.zero_add Nat.add_zero List.map_cons List.map_nil Nat.reduceEqDiff Nat.reduceSub Nat.reduceAdd Nat.reduceLeDiff Nat.le_refl Nat.zero_le Nat.zero_lt_one Nat.lt_add_one Int.reduceLT Int.reduceLE Int.reduceToNat Nat.reduceLT Nat.reduceBEq Bool.false_eq_true Nat.reduceBNe ne_eq not_false_eq_true not_true_eq_false false_and and_false reduceIte Int.natCast_nonneg reduceCtorEq parts_agg parts_bool parts_int parts_str parts_lit parts_nils parts_sl parts_ptr Int.natCast_nonneg Int.natCast_nonneg beq_self_eq_true bne_self_eq_false St.push St.set St.kill Bool.true_and Bool.false_and Bool.and_true Bool.and_false Bool.true_or Bool.false_or Bool.or_true Bool.or_false Bool.not_true Bool.not_false

/-- parquetryref1.Ints -/
theorem ints_spec (a b : List Int) (σ : St) : T Try.prog 63 [ints a, ints b] σ (.bool (a == b)) σ := by
 refine in63 (by simp) fun wf hab => ?_
 have ha := hab_ints (hab 0 (by simp))
 unfold c63
 refine .seq (.rg fun A hA K hK => ?_)
 simp (maxSteps := 1000000) only [go_sem, hA.nil, hA.go, hA.yes, hA.noT, hA.noF, hA.skp]
 refine hK _ _ ?_; clear hK K hA A
 refine .seq (.seq (.rg fun A hA K hK => ?_))
 simp (maxSteps := 1000000) only [go_sem, hA.nil, hA.go, hA.yes, hA.noT, hA.noF, hA.skp]
 refine hK _ _ ?_; clear hK K hA A
 refine .cond (t := _) (by simp (maxSteps := 1000000) only [go_sem]; try rfl) (fun ht => ?_) (fun ht => .skip ?_)
 ·refine .seq (.rg fun A hA K hK => ?_)
  simp (maxSteps := 1000000) only [go_sem, hA.nil, hA.go, hA.yes, hA.noT, hA.noF, hA.skp]
  refine hK _ _ ?_; clear hK K hA A
  refine .ret (ret1 (by simp (maxSteps := 1000000) only [go_sem]; simp; rintro rfl; simp at ht) rfl)
 have hl : a.length = b.length := by simp at ht; omega
 refine .seq (.seq (.rg fun A hA K hK => ?_))
 simp (maxSteps := 1000000) only [go_sem, hA.nil, hA.go, hA.yes, hA.noT, hA.noF, hA.skp]
 refine hK _ _ ?_; clear hK K hA A
 refine .count (N := a.length) (fun i F σ' => F 0 = ints a ∧ F 1 = ints b ∧ F 5 = I i ∧ σ' = σ ∧ ∀ j, j < i → a.getD j 0 = b.getD j 0) ha ?_ ?_ ?_ ?_
 ·refine ⟨by simp (maxSteps := 1000000) only [go_sem], by simp (maxSteps := 1000000) only [go_sem], by simp (maxSteps := 1000000) only [go_sem]; try rfl, rfl, by simp⟩
 ·rintro i F σ' hi ⟨hF0, hF1, hF5, rfl, hj⟩
  refine .rg fun A hA K hK => ?_
  simp (maxSteps := 1000000) only [go_sem, hA.nil, hA.go, hA.yes, hA.noT, hA.noF, hA.skp, hF0, hF1, hF5]
  refine hK _ _ ?_; clear hK K hA A
  exact ⟨rfl, by simp (maxSteps := 1000000) only [go_sem, Int.ofNat_lt], by simp (maxSteps := 1000000) only [go_sem, hF0], by simp (maxSteps := 1000000) only [go_sem, hF1], by simp (maxSteps := 1000000) only [go_sem, hF5], rfl, hj⟩
 ·rintro i F σ' hlt ⟨hF0, hF1, hF5, rfl, hj⟩ -
  have hlt' : i < b.length := by omega
  have e1 : (i : Int) < a.length := by omega
  have e2 : (i : Int) < b.length := by omega
  refine .seq (.rd fun A hA K hK => ?_)
  simp (maxSteps := 1000000) only [go_sem, hA.nil, hA.go, hA.yes, hA.noT, hA.noF, hA.skp, hF0, hF1, hF5, ints_get hlt, ints_get hlt', e1, e2]
  refine hK _ _ ?_; clear hK K hA A
  refine .cond (t := _) (by simp (maxSteps := 1000000) only [go_sem]; try rfl)  (fun ht => ?_) (fun ht => .skip ?_)
  ·have hne : (a == b) = false := by
    simp only [beq_eq_false_iff_ne]; rintro rfl; simp at ht
   refine .seq (.rg fun A hA K hK => ?_)
   simp (maxSteps := 1000000) only [go_sem, hA.nil, hA.go, hA.yes, hA.noT, hA.noF, hA.skp]
   refine hK _ _ ?_; clear hK K hA A
   refine .ret (ret1 (by simp (maxSteps := 1000000) only [go_sem, hne]) rfl)
  ·refine ⟨by simp (maxSteps := 1000000) only [go_sem, hF5], by simp (maxSteps := 1000000) only [go_sem, hF0], by simp (maxSteps := 1000000) only [go_sem, hF1], by simp (maxSteps := 1000000) only [go_sem, hF5], rfl, fun j h => ?_⟩
   rcases Nat.lt_succ_iff_lt_or_eq.1 h with h | rfl
   ·exact hj j h
   ·simp at ht; simp [List.getD_eq_getElem?_getD, hlt, hlt', ht]
 ·rintro F σ' ⟨hF0, hF1, hF5, rfl, hj⟩ -
  have he : (a == b) = true := by
   simp only [beq_iff_eq]
   refine List.ext_getElem hl fun j h1 h2 => ?_
   have := hj j h1
   simpa [List.getD_eq_getElem?_getD, h1, h2] using this
  refine .seq (.rg fun A hA K hK => ?_)
  simp (maxSteps := 1000000) only [go_sem, hA.nil, hA.go, hA.yes, hA.noT, hA.noF, hA.skp]
  refine hK _ _ ?_; clear hK K hA A
  refine .ret (ret1 (by simp (maxSteps := 1000000) only [go_sem, he]) rfl)

def bareB (x : Node) : Bool := x.op == 0 && (((x.ins.length + x.shape.length + x.a.length : Nat) : Int) == 0 && (x.n == 0 && (x.how == 0 && x.note.toList == (⟨#[]⟩ : ByteArray).toList)))

theorem wrap_nat {n : Nat} (h : n < 2 ^ 62) : IntKind.i64.wrap n = n := IntWalk.i64_in _ (by omega)

theorem hab_node {x : Node} (h : Hab (.agg (nodeL x))) : x.ins.length ≤ most ∧ x.shape.length ≤ most ∧ x.a.length ≤ most :=
 ⟨hab_ints (h.agg 1 (by simp [nodeL])), hab_ints (h.agg 2 (by simp [nodeL])), hab_ints (h.agg 3 (by simp [nodeL]))⟩

/-- parquetryref18.bare -/
theorem bare_spec (x : Node) (σ : St) : T Try.prog 124 [.agg (nodeL x)] σ (.bool (bareB x)) σ := by
 refine in124 (by simp) fun wf hab => ?_
 have hx := hab_node (hab 0 (by simp))
 have e1 : IntKind.i64.wrap ((x.ins.length : Int) + x.shape.length) = ((x.ins.length + x.shape.length : Nat) : Int) := by rw [← wrap_nat (n := x.ins.length + x.shape.length) (by simp only [most] at hx; omega)]; simp
 have e2 : IntKind.i64.wrap (((x.ins.length + x.shape.length : Nat) : Int) + x.a.length) = ((x.ins.length + x.shape.length + x.a.length : Nat) : Int) := by rw [← wrap_nat (n := x.ins.length + x.shape.length + x.a.length) (by simp only [most] at hx; omega)]; simp
 unfold c124
 clear hab
 refine .seq (.rg fun A hA K hK => ?_)
 simp (maxSteps := 1000000) only [go_sem, hA.nil, hA.go, hA.yes, hA.noT, hA.noF, hA.skp]
 refine hK _ _ ?_; clear hK K hA A
 refine .mid (fun F' σ' => F' 2 = .bool (bareB x) ∧ ∀ b, b < σ.next → σ'.blk b = σ.blk b) ?_ ?_
 ·refine .rg fun A hA K hK => ?_
  simp (maxSteps := 1000000) only [go_sem, hA.nil, hA.go, hA.yes, hA.noT, hA.noF, hA.skp, e1, e2]
  repeat' (first | (refine hK _ _ ?_; (refine ⟨by simp only [go_sem, bareB, *], fun b hb => ?_⟩; simp; intro h; omega); done) | (refine hA.cut (by simp (maxSteps := 1000000) only [go_sem]; with_reducible rfl) (fun hs => ?_) (fun hs => ?_) <;> simp (maxSteps := 1000000) only [go_sem, hA.nil, hA.go, hA.yes, hA.noT, hA.noF, hA.skp, *]))
 ·rintro F' σ' ⟨h1, h2⟩
  exact .ret (ret1b h1 wf h2 (.bool _))

def formB (i : Instr) : Bool :=
 cond (i.kind == 1) ((i.ins.length : Int) == 0 && (bareB i.node && (i.dev == 0 && i.tag == 0)))
  (cond (i.kind == 2) (i.n == 0 && (i.dev == 0 && i.tag == 0))
   (cond (i.kind == 3) (i.out == 0 && ((i.ins.length : Int) == 1 && (bareB i.node && i.n == 0)))
    (cond (i.kind == 4) ((i.ins.length : Int) == 0 && (bareB i.node && i.n == 0)) false)))

/-- parquetryref18.form -/
theorem form_spec (i : Instr) (σ : St) : T Try.prog 98 [.agg (instrL i)] σ (.bool (formB i)) σ := by
 refine in98 (by simp) fun wf hab => ?_
 clear hab
 unfold c98
 repeat' (first | (refine hK _ _ ?_; clear hK K hA A) | (refine ⟨_, bare_spec i.node _, ?_⟩; try simp (maxSteps := 1000000) only [go_sem, hA.nil, hA.go, hA.yes, hA.noT, hA.noF, hA.skp, *]) | (refine hA.cut (by simp (maxSteps := 1000000) only [go_sem, *]; with_reducible rfl) (fun hs => ?_) (fun hs => ?_) <;> simp (maxSteps := 1000000) only [go_sem, hA.nil, hA.go, hA.yes, hA.noT, hA.noF, hA.skp, *]) | (refine .seq (.rg fun A hA K hK => ?_); simp (maxSteps := 1000000) only [go_sem, hA.nil, hA.go, hA.yes, hA.noT, hA.noF, hA.skp, *]) | (refine .seq (.seq (.rg fun A hA K hK => ?_)); simp (maxSteps := 1000000) only [go_sem, hA.nil, hA.go, hA.yes, hA.noT, hA.noF, hA.skp, *]) | (refine .rg fun A hA K hK => ?_; simp (maxSteps := 1000000) only [go_sem, hA.nil, hA.go, hA.yes, hA.noT, hA.noF, hA.skp, *]) | (refine .seq (.rd fun A hA K hK => ?_); simp (maxSteps := 1000000) only [go_sem, hA.nil, hA.go, hA.yes, hA.noT, hA.noF, hA.skp, *]) | (refine .seq (.seq (.rd fun A hA K hK => ?_)); simp (maxSteps := 1000000) only [go_sem, hA.nil, hA.go, hA.yes, hA.noT, hA.noF, hA.skp, *]) | (refine .rd fun A hA K hK => ?_; simp (maxSteps := 1000000) only [go_sem, hA.nil, hA.go, hA.yes, hA.noT, hA.noF, hA.skp, *]) | (refine .cond (t := _) (by simp (maxSteps := 1000000) only [go_sem, *]; with_reducible rfl) (fun hs => ?_) (fun hs => ?_) <;> (first | (cases hs; done) | skip)) | (refine .seq (.cond (t := _) (by simp (maxSteps := 1000000) only [go_sem, *]; with_reducible rfl) (fun hs => ?_) (fun hs => ?_)) <;> (first | (cases hs; done) | skip)) | refine .skip ?_ | refine .seq (.block ?_) | refine .block ?_ | refine .exit ?_ | ((refine .ret (ret1b (by simp only [go_sem, formB, *]) wf (fun b hb => by simp; intro h; omega) (.bool _))); done))

def wrote (p : List Instr) (r : Int) : Bool := p.any fun i => i.kind != 3 && i.out == r

/-- parquetryref18.written -/
theorem written_spec (p : List Instr) (n : Nat) (r : Int) (hn : n ≤ p.length) (σ : St) : T Try.prog 125 [progA p, I n, I r] σ (.bool (wrote (p.take n) r)) σ := by
 refine in125 (by simp) fun wf hab => ?_
 have hp := hab_prog (hab 0 (by simp))
 clear hab
 unfold c125
 refine .seq (.rg fun A hA K hK => ?_)
 simp (maxSteps := 1000000) only [go_sem, hA.nil, hA.go, hA.yes, hA.noT, hA.noF, hA.skp]
 refine hK _ _ ?_; clear hK K hA A
 refine .seq (.seq (.rg fun A hA K hK => ?_))
 simp (maxSteps := 1000000) only [go_sem, hA.nil, hA.go, hA.yes, hA.noT, hA.noF, hA.skp]
 refine hK _ _ ?_; clear hK K hA A
 refine .count (N := n) (fun i F σ' => F 0 = progA p ∧ F 1 = I n ∧ F 2 = I r ∧ F 7 = I i ∧ σ' = σ ∧ wrote (p.take i) r = false) (by omega) ?_ ?_ ?_ ?_
 ·refine ⟨by simp (maxSteps := 1000000) only [go_sem], by simp (maxSteps := 1000000) only [go_sem], by simp (maxSteps := 1000000) only [go_sem], by simp (maxSteps := 1000000) only [go_sem]; try rfl, rfl, by simp [wrote]⟩
 ·rintro i F σ' hi ⟨hF0, hF1, hF2, hF7, rfl, hj⟩
  refine .rg fun A hA K hK => ?_
  simp (maxSteps := 1000000) only [go_sem, hA.nil, hA.go, hA.yes, hA.noT, hA.noF, hA.skp, hF0, hF1, hF7]
  refine hK _ _ ?_; clear hK K hA A
  exact ⟨rfl, by simp (maxSteps := 1000000) only [go_sem, Int.ofNat_lt], by simp (maxSteps := 1000000) only [go_sem, hF0], by simp (maxSteps := 1000000) only [go_sem, hF1], by simp (maxSteps := 1000000) only [go_sem, hF2], by simp (maxSteps := 1000000) only [go_sem, hF7], rfl, hj⟩
 ·rintro i F σ' hlt ⟨hF0, hF1, hF2, hF7, rfl, hj⟩ -
  have hlt' : i < p.length := by omega
  have e1 : (i : Int) < p.length := by omega
  have et : wrote (p.take (i + 1)) r = (p[i].kind != 3 && p[i].out == r) := by
   rw [List.take_add_one]
   simp only [wrote, List.any_append] at hj ⊢
   rw [hj]; simp [hlt']
  refine .mid (fun F' σ2 => F' 27 = .bool (p[i].kind != 3 && p[i].out == r) ∧ F' 0 = progA p ∧ F' 1 = I n ∧ F' 2 = I r ∧ F' 7 = I i ∧ σ2 = σ') ?_ ?_
  ·refine .rg fun A hA K hK => ?_
   simp (maxSteps := 1000000) only [go_sem, hA.nil, hA.go, hA.yes, hA.noT, hA.noF, hA.skp, hF0, hF1, hF2, hF7, prog_get hlt', e1]
   repeat' (first | (refine hK _ _ ?_; (refine ⟨by simp (maxSteps := 1000000) only [go_sem, *], by simp (maxSteps := 1000000) only [go_sem, *], by simp (maxSteps := 1000000) only [go_sem, *], by simp (maxSteps := 1000000) only [go_sem, *], by simp (maxSteps := 1000000) only [go_sem, *], by first | rfl | trivial⟩); done) | (refine hA.cut (by simp (maxSteps := 1000000) only [go_sem, hF0, hF1, hF2, hF7, prog_get hlt', e1]; with_reducible rfl) (fun hs => ?_) (fun hs => ?_) <;> simp (maxSteps := 1000000) only [go_sem, hA.nil, hA.go, hA.yes, hA.noT, hA.noF, hA.skp, *, hF0, hF1, hF2, hF7, prog_get hlt', e1]))
  ·rintro F' σ2 ⟨hG, h0, h1, h2, h7, rfl⟩
   refine .cond hG (fun ht => ?_) (fun ht => .skip ?_)
   ·have hw : wrote (p.take n) r = true := by
     rw [ht] at et
     simp only [wrote, List.any_eq_true] at et ⊢
     obtain ⟨x, hx, hy⟩ := et
     exact ⟨x, List.take_subset_take_left p (by omega) hx, hy⟩
    refine .seq (.rg fun A hA K hK => ?_)
    simp (maxSteps := 1000000) only [go_sem, hA.nil, hA.go, hA.yes, hA.noT, hA.noF, hA.skp]
    refine hK _ _ ?_; clear hK K hA A
    refine .ret (ret1 (by simp (maxSteps := 1000000) only [go_sem, hw]) rfl)
   ·rw [ht] at et
    exact ⟨by simp (maxSteps := 1000000) only [go_sem, h7], by simp (maxSteps := 1000000) only [go_sem, h0], by simp (maxSteps := 1000000) only [go_sem, h1], by simp (maxSteps := 1000000) only [go_sem, h2], by simp (maxSteps := 1000000) only [go_sem], rfl, et⟩
 ·rintro F σ' ⟨hF0, hF1, hF2, hF7, rfl, hj⟩ -
  refine .seq (.rg fun A hA K hK => ?_)
  simp (maxSteps := 1000000) only [go_sem, hA.nil, hA.go, hA.yes, hA.noT, hA.noF, hA.skp]
  refine hK _ _ ?_; clear hK K hA A
  refine .ret (ret1 (by simp (maxSteps := 1000000) only [go_sem, hj]) rfl)

/-- What stood in memory stands there. -/
def Ext (σ σ' : St) : Prop := σ.next ≤ σ'.next ∧ ∀ b, b < σ.next → σ'.blk b = σ.blk b
theorem Ext.refl (σ : St) : Ext σ σ := ⟨Nat.le_refl _, fun _ _ => rfl⟩

def namedB (q : List Instr) (dev : Int) (i : Instr) : Bool :=
 i.ins.all (wrote q) && (!(i.kind != 3 && (decide (i.out < 0) || (decide (i.out > 65536) || wrote q i.out))) &&
  (decide (i.dev ≥ 0) && (decide (i.dev < dev) && (decide (i.n ≥ 0) && (decide (i.tag ≥ 0) && decide (i.tag ≤ 1073741824))))))

theorem take_all {p : Int → Bool} {l : List Int} {i : Nat} (h : i < l.length) (ht : (l.take i).all p = true) : (l.take (i + 1)).all p = p l[i] := by
 rw [List.take_add_one, List.all_append, ht]; simp [h]

/-- parquetryref18.named -/
theorem named_spec (p : List Instr) (n : Nat) (dev : Int) (hn : n < p.length) (σ : St) : T Try.prog 99 [progA p, I n, I dev] σ (.bool (namedB (p.take n) dev p[n])) σ := by
 refine in99 (by simp) fun wf hab => ?_
 have hp := hab_prog (hab 0 (by simp))
 have hin : p[n].ins.length ≤ most := by
  have := (hab 0 (by simp)).lit.2.2 n 2 (by simpa using hn) (by simp)
  rw [prog_get hn] at this
  exact hab_ints this
 have e1 : (n : Int) < p.length := by omega
 clear hab
 unfold c99
 refine .seq (.rg fun A hA K hK => ?_)
 simp (maxSteps := 1000000) only [go_sem, hA.nil, hA.go, hA.yes, hA.noT, hA.noF, hA.skp]
 refine hK _ _ ?_; clear hK K hA A
 refine .seq (.rg fun A hA K hK => ?_)
 simp (maxSteps := 1000000) only [go_sem, hA.nil, hA.go, hA.yes, hA.noT, hA.noF, hA.skp, prog_get hn, e1]
 refine hK _ _ ?_; clear hK K hA A
 refine .seq (.seq (.rg fun A hA K hK => ?_))
 simp (maxSteps := 1000000) only [go_sem, hA.nil, hA.go, hA.yes, hA.noT, hA.noF, hA.skp]
 refine hK _ _ ?_; clear hK K hA A
 refine .range (N := p[n].ins.length) (fun i F σ' => F 0 = progA p ∧ F 1 = I n ∧ F 2 = I dev ∧ F 7 = .ptr σ.next 0 0 ∧ F 15 = ints p[n].ins ∧ F 16 = I p[n].ins.length ∧ F 17 = I i ∧ σ'.blk σ.next = some (.cells 13 [instrL p[n]]) ∧ Ext σ σ' ∧ (p[n].ins.take i).all (wrote (p.take n)) = true) hin ?_ ?_ ?_ ?_
 ·refine ⟨by simp (maxSteps := 1000000) only [go_sem], by simp (maxSteps := 1000000) only [go_sem], by simp (maxSteps := 1000000) only [go_sem], by simp (maxSteps := 1000000) only [go_sem], by simp (maxSteps := 1000000) only [go_sem], by simp (maxSteps := 1000000) only [go_sem], by simp (maxSteps := 1000000) only [go_sem]; try rfl, by simp (maxSteps := 1000000) only [go_sem], ⟨by simp, fun b hb => ?_⟩, by simp⟩
  simp only []
  rw [if_neg (by omega), if_neg (by omega)]
 ·rintro i F σ' ⟨_, _, _, _, _, h16, h17, _⟩
  exact ⟨h17, h16⟩
 ·rintro i F σ' hlt ⟨h0, h1, h2, h7, h15, h16, h17, hb, hx, hj⟩
  have e2 : (i : Int) < p[n].ins.length := by omega
  have et := take_all hlt hj
  refine .seq (.rg fun A hA K hK => ?_)
  simp (maxSteps := 1000000) only [go_sem, hA.nil, hA.go, hA.yes, hA.noT, hA.noF, hA.skp, h0, h1, h2, h7, h15, h16, h17, ints_get hlt, e2]
  refine hK _ _ ?_; clear hK K hA A
  refine .seq (.rg fun A hA K hK => ?_)
  simp (maxSteps := 1000000) only [go_sem, hA.nil, hA.go, hA.yes, hA.noT, hA.noF, hA.skp, h0, h1, h2, h7, h15, h16, h17, e2]
  refine ⟨_, written_spec p n p[n].ins[i] (by omega) _, ?_⟩
  simp (maxSteps := 1000000) only [go_sem, hA.nil, hA.go]
  refine hK _ _ ?_; clear hK K hA A
  refine .cond (t := _) (by simp (maxSteps := 1000000) only [go_sem]; try rfl) (fun ht => ?_) (fun ht => .skip ?_)
  ·have hw : namedB (p.take n) dev p[n] = false := by
    have : p[n].ins.all (wrote (p.take n)) = false := by
     rw [Bool.eq_false_iff]; intro h
     rw [List.all_eq_true] at h
     have := h _ (List.getElem_mem hlt)
     rw [this] at ht; cases ht
    rw [namedB, this]; rfl
   refine .seq (.rg fun A hA K hK => ?_)
   simp (maxSteps := 1000000) only [go_sem, hA.nil, hA.go, hA.yes, hA.noT, hA.noF, hA.skp]
   refine hK _ _ ?_; clear hK K hA A
   exact .ret (ret1b (by simp (maxSteps := 1000000) only [go_sem, hw]) wf hx.2 (.bool _))
  ·have hw : wrote (p.take n) p[n].ins[i] = true := by simpa using ht
   rw [hw] at et
   exact ⟨by simp (maxSteps := 1000000) only [go_sem, h17], by simp (maxSteps := 1000000) only [go_sem, h0], by simp (maxSteps := 1000000) only [go_sem, h1], by simp (maxSteps := 1000000) only [go_sem, h2], by simp (maxSteps := 1000000) only [go_sem, h7], by simp (maxSteps := 1000000) only [go_sem, h15], by simp (maxSteps := 1000000) only [go_sem, h16], by simp (maxSteps := 1000000) only [go_sem], hb, hx, et⟩
 ·rintro F σ' ⟨h0, h1, h2, h7, h15, h16, h17, hb, hx, hj⟩
  rw [List.take_length] at hj
  have hy := hx.2
  clear hp e1 h15 h16 h17 hx
  repeat' (first | (refine hK _ _ ?_; clear hK K hA A) | (refine ⟨_, written_spec p n _ (by omega) _, ?_⟩; try simp (maxSteps := 1000000) only [go_sem, hA.nil, hA.go, hA.yes, hA.noT, hA.noF, hA.skp, *, h0, h1, h2, h7, hb]) | (refine hA.cut (by simp (maxSteps := 1000000) only [go_sem, *, h0, h1, h2, h7, hb]; with_reducible rfl) (fun hs => ?_) (fun hs => ?_) <;> simp (maxSteps := 1000000) only [go_sem, hA.nil, hA.go, hA.yes, hA.noT, hA.noF, hA.skp, *, h0, h1, h2, h7, hb]) | (refine .seq (.rg fun A hA K hK => ?_); simp (maxSteps := 1000000) only [go_sem, hA.nil, hA.go, hA.yes, hA.noT, hA.noF, hA.skp, *, h0, h1, h2, h7, hb]) | (refine .seq (.seq (.rg fun A hA K hK => ?_)); simp (maxSteps := 1000000) only [go_sem, hA.nil, hA.go, hA.yes, hA.noT, hA.noF, hA.skp, *, h0, h1, h2, h7, hb]) | (refine .rg fun A hA K hK => ?_; simp (maxSteps := 1000000) only [go_sem, hA.nil, hA.go, hA.yes, hA.noT, hA.noF, hA.skp, *, h0, h1, h2, h7, hb]) | (refine .seq (.rd fun A hA K hK => ?_); simp (maxSteps := 1000000) only [go_sem, hA.nil, hA.go, hA.yes, hA.noT, hA.noF, hA.skp, *, h0, h1, h2, h7, hb]) | (refine .seq (.seq (.rd fun A hA K hK => ?_)); simp (maxSteps := 1000000) only [go_sem, hA.nil, hA.go, hA.yes, hA.noT, hA.noF, hA.skp, *, h0, h1, h2, h7, hb]) | (refine .rd fun A hA K hK => ?_; simp (maxSteps := 1000000) only [go_sem, hA.nil, hA.go, hA.yes, hA.noT, hA.noF, hA.skp, *, h0, h1, h2, h7, hb]) | (refine .cond (t := _) (by simp (maxSteps := 1000000) only [go_sem, *, h0, h1, h2, h7, hb]; with_reducible rfl) (fun hs => ?_) (fun hs => ?_) <;> (first | (cases hs; done) | skip)) | (refine .seq (.cond (t := _) (by simp (maxSteps := 1000000) only [go_sem, *, h0, h1, h2, h7, hb]; with_reducible rfl) (fun hs => ?_) (fun hs => ?_)) <;> (first | (cases hs; done) | skip)) | refine .skip ?_ | refine .seq (.block ?_) | refine .block ?_ | refine .exit ?_ | ((exact .ret (ret1b (by simp only [go_sem, namedB, *]) wf hy (.bool _))); done))
  trace_state

end Go.Proofs.Ytfjbabacpnnjmaa.Av
namespace Go.Av

section ops
variable {P : Program} {F : Fr} {σ σ' : St} {K : AV → St → Prop}
/-- Not a call, nor a step through a map. -/
def CO.plain : CO → Bool
 | .call .. | .callv .. | .nx _ => false
 | _ => true
theorem aopq_call {f : FuncId} {xs : List Od} {args : List AV} {v : AV} (h : T P f args σ v σ) (ha : xs.map (ev F) = args) (k : K v σ) : aopq P (.call true f xs) F σ K := by
 subst ha; simp only [aopq, aop, if_true]; exact ⟨v, h, k⟩
theorem aop_call {f : FuncId} {xs : List Od} {args : List AV} {v : AV} (h : T P f args σ v σ) (ha : xs.map (ev F) = args) (k : K v σ) : aop P (.call true f xs) F σ K := by
 subst ha; simp only [aop, if_true]; exact ⟨v, h, k⟩
theorem aopq_callQ {f : FuncId} {xs : List Od} {args : List AV} {Q : AV → St → Prop} (h : TQ P f args σ Q) (ha : xs.map (ev F) = args) (k : ∀ v σ', Q v σ' → K v σ') : aopq P (.call false f xs) F σ K := by
 subst ha; simp only [aopq, Bool.false_eq_true, if_false]; exact ⟨Q, h, k⟩
theorem aop_callF {f : FuncId} {xs : List Od} {args : List AV} {v : AV} (h : T P f args σ v σ') (ha : xs.map (ev F) = args) (k : K v σ') : aop P (.call false f xs) F σ K := by
 subst ha; simp only [aop, Bool.false_eq_true, if_false]; exact ⟨v, σ', h, k⟩
theorem aopq_callv {x : Od} {f : FuncId} {cs : List AV} {xs : List Od} {args : List AV} {v : AV} (hx : ev F x = .func f cs) (h : T P f args σ v σ) (ha : xs.map (ev F) ++ cs = args) (k : K v σ) : aopq P (.callv true x xs) F σ K := by
 subst ha; simp only [aopq, aop, hx, if_true]; exact ⟨v, h, k⟩
theorem T.to {f : FuncId} {args : List AV} {v v' : AV} {s s' : St} (h : T P f args σ v s) (hv : v = v') (hs : s = s') : T P f args σ v' s' := by subst hv hs; exact h
theorem TQ.mono {f : FuncId} {args : List AV} {Q Q' : AV → St → Prop} (h : TQ P f args σ Q) (hq : ∀ v s, Q v s → Q' v s) : TQ P f args σ Q' :=
 ⟨h.1, fun W0 e w cargs hr hl hv => (h.2 W0 e w cargs hr hl hv).mono fun en w' ⟨e', cv, v, s, h1, h2, h3, h4, h5⟩ => ⟨e', cv, v, s, h1, h2, h3, h4, hq _ _ h5⟩⟩
theorem aopq_callT {f : FuncId} {xs : List Od} {args : List AV} {v : AV} (h : T P f args σ v σ') (ha : xs.map (ev F) = args) (k : K v σ') : aopq P (.call false f xs) F σ K :=
 aopq_callQ h ha fun v' s' hq => by obtain ⟨rfl, rfl⟩ := hq; exact k
end ops

section
variable {P : Program} {F : Fr} {σ : St} {K : AV → St → Prop}
theorem aopq_mv (x : Od) : aopq P (.mv x) F σ K = aop P (.mv x) F σ K := rfl
theorem aopq_pk (c a b : Od) : aopq P (.pk c a b) F σ K = aop P (.pk c a b) F σ K := rfl
theorem aopq_al (z : List AV) : aopq P (.al z) F σ K = aop P (.al z) F σ K := rfl
theorem aopq_bx (x : Od) : aopq P (.bx x) F σ K = aop P (.bx x) F σ K := rfl
theorem aopq_bd (z : List AV) (ps : List (Nat × Nat × Od)) : aopq P (.bd z ps) F σ K = aop P (.bd z ps) F σ K := rfl
theorem aopq_bs (own : Bool) (sz : Nat) (z : List AV) (len : Nat) (ps : List (Nat × Od)) : aopq P (.bs own sz z len ps) F σ K = aop P (.bs own sz z len ps) F σ K := rfl
theorem aopq_ld (g : Option Nat) (x : Od) : aopq P (.ld g x) F σ K = aop P (.ld g x) F σ K := rfl
theorem aopq_st (n : Nat) (a v : Od) : aopq P (.st n a v) F σ K = aop P (.st n a v) F σ K := rfl
theorem aopq_nc (x : Od) : aopq P (.nc x) F σ K = aop P (.nc x) F σ K := rfl
theorem aopq_bin (op : BinOp) (tg : Nat) (x y : Od) : aopq P (.bin op tg x y) F σ K = aop P (.bin op tg x y) F σ K := rfl
theorem aopq_un (op : UnOp) (x : Od) : aopq P (.un op x) F σ K = aop P (.un op x) F σ K := rfl
theorem aopq_cv (k : IntKind) (x : Od) : aopq P (.cv k x) F σ K = aop P (.cv k x) F σ K := rfl
theorem aopq_mi (t : TypeId) (x : Od) : aopq P (.mi t x) F σ K = aop P (.mi t x) F σ K := rfl
theorem aopq_mf (f : FuncId) (cs : List Od) : aopq P (.mf f cs) F σ K = aop P (.mf f cs) F σ K := rfl
theorem aopq_mm (kt : Option Nat) : aopq P (.mm kt) F σ K = aop P (.mm kt) F σ K := rfl
theorem aopq_ms (sz bytes : Nat) (z : List AV) (len cap : Od) : aopq P (.ms sz bytes z len cap) F σ K = aop P (.ms sz bytes z len cap) F σ K := rfl
theorem aopq_sc (sz : Nat) (x : Od) (lo hi mx : Option Od) : aopq P (.sc sz x lo hi mx) F σ K = aop P (.sc sz x lo hi mx) F σ K := rfl
theorem aopq_fa (off : Nat) (x : Od) : aopq P (.fa off x) F σ K = aop P (.fa off x) F σ K := rfl
theorem aopq_fl (off : Nat) (g : Option Nat) (x : Od) : aopq P (.fl off g x) F σ K = aop P (.fl off g x) F σ K := rfl
theorem aopq_ia (sz : Nat) (x ix : Od) : aopq P (.ia sz x ix) F σ K = aop P (.ia sz x ix) F σ K := rfl
theorem aopq_lk (ok : Bool) (kt : Option Nat) (z : AV) (m k : Od) : aopq P (.lk ok kt z m k) F σ K = aop P (.lk ok kt z m k) F σ K := rfl
theorem aopq_mu (kt : Option Nat) (m k v : Od) : aopq P (.mu kt m k v) F σ K = aop P (.mu kt m k v) F σ K := rfl
theorem aopq_lm (m : Od) : aopq P (.lm m) F σ K = aop P (.lm m) F σ K := rfl
theorem aopq_rg (m : Od) : aopq P (.rg m) F σ K = aop P (.rg m) F σ K := rfl
theorem aopq_en (x : Od) : aopq P (.en x) F σ K = aop P (.en x) F σ K := rfl
theorem aopq_ta (x : Od) (t : TypeId) (ok : Bool) (z : AV) : aopq P (.ta x t ok z) F σ K = aop P (.ta x t ok z) F σ K := rfl
theorem aopq_ex (x : Od) (i : Nat) : aopq P (.ex x i) F σ K = aop P (.ex x i) F σ K := rfl
theorem aopq_ln (str : Bool) (x : Od) : aopq P (.ln str x) F σ K = aop P (.ln str x) F σ K := rfl
theorem aopq_ap (sz bytes : Nat) (x y : Od) : aopq P (.ap sz bytes x y) F σ K = aop P (.ap sz bytes x y) F σ K := rfl
theorem aopq_mx (m : Bool) (x y : Od) : aopq P (.mx m x y) F σ K = aop P (.mx m x y) F σ K := rfl
end

def atS (K : AV → St → Prop) (σ : St) : AV → Prop := fun v => K v σ
theorem atS_apply (K : AV → St → Prop) (σ : St) (v : AV) : atS K σ v = K v σ := by simp only [atS]
theorem aop_bin {P : Program} {F : Fr} {σ : St} {K : AV → St → Prop} (op : BinOp) (tg : Nat) (x y : Od) : aop P (.bin op tg x y) F σ K = abin op tg (ev F x) (ev F y) (atS K σ) := by simp only [aop]; rfl
def cutS (K : AV → St → Prop) (σ : St) (s : ByteArray) : Nat → Nat → Bool → Prop := fun l h _ => K (.str (s.extract l h)) σ
def cutN (K : AV → St → Prop) (σ : St) : Nat → Nat → Bool → Prop := fun _ _ _ => K .nils σ
def cutL (K : AV → St → Prop) (σ : St) (s : Nat) (rows : List (List AV)) : Nat → Nat → Bool → Prop := fun l h _ => K (.lit s ((rows.drop l).take (h - l))) σ
def cutO (K : AV → St → Prop) (σ : St) (b o : Nat) : Nat → Nat → Bool → Prop := fun l h _ => K (.sl b (o + l) (h - l)) σ
theorem cutS_apply (K : AV → St → Prop) (σ : St) (s : ByteArray) (l h : Nat) (t : Bool) : cutS K σ s l h t = K (.str (s.extract l h)) σ := by simp only [cutS]
theorem cutN_apply (K : AV → St → Prop) (σ : St) (l h : Nat) (t : Bool) : cutN K σ l h t = K .nils σ := by simp only [cutN]
theorem cutL_apply (K : AV → St → Prop) (σ : St) (s : Nat) (rows : List (List AV)) (l h : Nat) (t : Bool) : cutL K σ s rows l h t = K (.lit s ((rows.drop l).take (h - l))) σ := by simp only [cutL]
theorem cutO_apply (K : AV → St → Prop) (σ : St) (b o : Nat) (l h : Nat) (t : Bool) : cutO K σ b o l h t = K (.sl b (o + l) (h - l)) σ := by simp only [cutO]
theorem aop_sc {P : Program} {F : Fr} {σ : St} {K : AV → St → Prop} (sz : Nat) (x : Od) (lo hi mx : Option Od) : aop P (.sc sz x lo hi mx) F σ K = (match ev F x with
  | .str s => sz = 0 ∧ mx.isNone = true ∧ bounds F s.size lo hi mx (cutS K σ s)
  | .nils => sz ≠ 0 ∧ bounds F 0 lo hi mx (cutN K σ)
  | .lit s rows => sz ≠ 0 ∧ s = sz ∧ bounds F rows.length lo hi mx (cutL K σ s rows)
  | .sl b o n => match σ.blk b with
   | some (.cells s _) => sz ≠ 0 ∧ s = sz ∧ bounds F n lo hi mx (cutO K σ b o)
   | _ => False
  | _ => False) := by simp only [aop]; rfl
theorem aop_un_not {P : Program} {F : Fr} {σ : St} {K : AV → St → Prop} (x : Od) : aop P (.un .not x) F σ K = match ev F x with
  | .bool b => K (.bool !b) σ
  | _ => False := by
 cases h : ev F x <;> simp [aop, h]
theorem aop_un_neg {P : Program} {F : Fr} {σ : St} {K : AV → St → Prop} (x : Od) : aop P (.un .neg x) F σ K = match ev F x with
  | .int k n => K (.int k (k.wrap (0 - n))) σ
  | _ => False := by
 cases h : ev F x <;> simp [aop, h]

theorem pure_mv (x : Od) : CO.pure (.mv x) = true := by simp only [CO.pure]
theorem eff_mv (x : Od) : CO.eff (.mv x) = false := by simp [CO.eff, CO.pure]
theorem pure_pk (c a b : Od) : CO.pure (.pk c a b) = true := by simp only [CO.pure]
theorem eff_pk (c a b : Od) : CO.eff (.pk c a b) = false := by simp [CO.eff, CO.pure]
theorem pure_al (z : List AV) : CO.pure (.al z) = false := by simp only [CO.pure]
theorem eff_al (z : List AV) : CO.eff (.al z) = true := by simp [CO.eff, CO.pure]
theorem pure_bx (x : Od) : CO.pure (.bx x) = false := by simp only [CO.pure]
theorem eff_bx (x : Od) : CO.eff (.bx x) = true := by simp [CO.eff, CO.pure]
theorem pure_bd (z : List AV) (ps : List (Nat × Nat × Od)) : CO.pure (.bd z ps) = true := by simp only [CO.pure]
theorem eff_bd (z : List AV) (ps : List (Nat × Nat × Od)) : CO.eff (.bd z ps) = false := by simp [CO.eff, CO.pure]
theorem pure_bs (own : Bool) (sz : Nat) (z : List AV) (len : Nat) (ps : List (Nat × Od)) : CO.pure (.bs own sz z len ps) = !own := by simp only [CO.pure]
theorem eff_bs (own : Bool) (sz : Nat) (z : List AV) (len : Nat) (ps : List (Nat × Od)) : CO.eff (.bs own sz z len ps) = own := by simp [CO.eff, CO.pure]
theorem pure_ld (g : Option Nat) (x : Od) : CO.pure (.ld g x) = false := by simp only [CO.pure]
theorem eff_ld (g : Option Nat) (x : Od) : CO.eff (.ld g x) = false := by simp [CO.eff, CO.pure]
theorem pure_st (n : Nat) (a v : Od) : CO.pure (.st n a v) = false := by simp only [CO.pure]
theorem eff_st (n : Nat) (a v : Od) : CO.eff (.st n a v) = true := by simp [CO.eff, CO.pure]
theorem pure_nc (x : Od) : CO.pure (.nc x) = true := by simp only [CO.pure]
theorem eff_nc (x : Od) : CO.eff (.nc x) = false := by simp [CO.eff, CO.pure]
theorem pure_bin (op : BinOp) (tg : Nat) (x y : Od) : CO.pure (.bin op tg x y) = true := by simp only [CO.pure]
theorem eff_bin (op : BinOp) (tg : Nat) (x y : Od) : CO.eff (.bin op tg x y) = false := by simp [CO.eff, CO.pure]
theorem pure_un (op : UnOp) (x : Od) : CO.pure (.un op x) = true := by simp only [CO.pure]
theorem eff_un (op : UnOp) (x : Od) : CO.eff (.un op x) = false := by simp [CO.eff, CO.pure]
theorem pure_cv (k : IntKind) (x : Od) : CO.pure (.cv k x) = true := by simp only [CO.pure]
theorem eff_cv (k : IntKind) (x : Od) : CO.eff (.cv k x) = false := by simp [CO.eff, CO.pure]
theorem pure_mi (t : TypeId) (x : Od) : CO.pure (.mi t x) = true := by simp only [CO.pure]
theorem eff_mi (t : TypeId) (x : Od) : CO.eff (.mi t x) = false := by simp [CO.eff, CO.pure]
theorem pure_mf (f : FuncId) (cs : List Od) : CO.pure (.mf f cs) = true := by simp only [CO.pure]
theorem eff_mf (f : FuncId) (cs : List Od) : CO.eff (.mf f cs) = false := by simp [CO.eff, CO.pure]
theorem pure_mm (kt : Option Nat) : CO.pure (.mm kt) = false := by simp only [CO.pure]
theorem eff_mm (kt : Option Nat) : CO.eff (.mm kt) = true := by simp [CO.eff, CO.pure]
theorem pure_ms (sz bytes : Nat) (z : List AV) (len cap : Od) : CO.pure (.ms sz bytes z len cap) = false := by simp only [CO.pure]
theorem eff_ms (sz bytes : Nat) (z : List AV) (len cap : Od) : CO.eff (.ms sz bytes z len cap) = true := by simp [CO.eff, CO.pure]
theorem pure_sc (sz : Nat) (x : Od) (lo hi mx : Option Od) : CO.pure (.sc sz x lo hi mx) = false := by simp only [CO.pure]
theorem eff_sc (sz : Nat) (x : Od) (lo hi mx : Option Od) : CO.eff (.sc sz x lo hi mx) = false := by simp [CO.eff, CO.pure]
theorem pure_fa (off : Nat) (x : Od) : CO.pure (.fa off x) = true := by simp only [CO.pure]
theorem eff_fa (off : Nat) (x : Od) : CO.eff (.fa off x) = false := by simp [CO.eff, CO.pure]
theorem pure_fl (off : Nat) (g : Option Nat) (x : Od) : CO.pure (.fl off g x) = true := by simp only [CO.pure]
theorem eff_fl (off : Nat) (g : Option Nat) (x : Od) : CO.eff (.fl off g x) = false := by simp [CO.eff, CO.pure]
theorem pure_ia (sz : Nat) (x ix : Od) : CO.pure (.ia sz x ix) = false := by simp only [CO.pure]
theorem eff_ia (sz : Nat) (x ix : Od) : CO.eff (.ia sz x ix) = false := by simp [CO.eff, CO.pure]
theorem pure_lk (ok : Bool) (kt : Option Nat) (z : AV) (m k : Od) : CO.pure (.lk ok kt z m k) = false := by simp only [CO.pure]
theorem eff_lk (ok : Bool) (kt : Option Nat) (z : AV) (m k : Od) : CO.eff (.lk ok kt z m k) = false := by simp [CO.eff, CO.pure]
theorem pure_mu (kt : Option Nat) (m k v : Od) : CO.pure (.mu kt m k v) = false := by simp only [CO.pure]
theorem eff_mu (kt : Option Nat) (m k v : Od) : CO.eff (.mu kt m k v) = true := by simp [CO.eff, CO.pure]
theorem pure_lm (m : Od) : CO.pure (.lm m) = false := by simp only [CO.pure]
theorem eff_lm (m : Od) : CO.eff (.lm m) = false := by simp [CO.eff, CO.pure]
theorem pure_rg (m : Od) : CO.pure (.rg m) = false := by simp only [CO.pure]
theorem eff_rg (m : Od) : CO.eff (.rg m) = true := by simp [CO.eff, CO.pure]
theorem pure_nx (x : Od) : CO.pure (.nx x) = false := by simp only [CO.pure]
theorem eff_nx (x : Od) : CO.eff (.nx x) = true := by simp [CO.eff, CO.pure]
theorem pure_en (x : Od) : CO.pure (.en x) = false := by simp only [CO.pure]
theorem eff_en (x : Od) : CO.eff (.en x) = false := by simp [CO.eff, CO.pure]
theorem pure_ta (x : Od) (t : TypeId) (ok : Bool) (z : AV) : CO.pure (.ta x t ok z) = true := by simp only [CO.pure]
theorem eff_ta (x : Od) (t : TypeId) (ok : Bool) (z : AV) : CO.eff (.ta x t ok z) = false := by simp [CO.eff, CO.pure]
theorem pure_ex (x : Od) (i : Nat) : CO.pure (.ex x i) = true := by simp only [CO.pure]
theorem eff_ex (x : Od) (i : Nat) : CO.eff (.ex x i) = false := by simp [CO.eff, CO.pure]
theorem pure_ln (str : Bool) (x : Od) : CO.pure (.ln str x) = true := by simp only [CO.pure]
theorem eff_ln (str : Bool) (x : Od) : CO.eff (.ln str x) = false := by simp [CO.eff, CO.pure]
theorem pure_ap (sz bytes : Nat) (x y : Od) : CO.pure (.ap sz bytes x y) = false := by simp only [CO.pure]
theorem eff_ap (sz bytes : Nat) (x y : Od) : CO.eff (.ap sz bytes x y) = true := by simp [CO.eff, CO.pure]
theorem pure_mx (m : Bool) (x y : Od) : CO.pure (.mx m x y) = true := by simp only [CO.pure]
theorem eff_mx (m : Bool) (x y : Od) : CO.eff (.mx m x y) = false := by simp [CO.eff, CO.pure]
theorem pure_call (q : Bool) (f : FuncId) (args : List Od) : CO.pure (.call q f args) = false := by simp only [CO.pure]
theorem eff_call (q : Bool) (f : FuncId) (args : List Od) : CO.eff (.call q f args) = !q := by simp [CO.eff, CO.pure]
theorem pure_callv (q : Bool) (x : Od) (args : List Od) : CO.pure (.callv q x args) = false := by simp only [CO.pure]
theorem eff_callv (q : Bool) (x : Od) (args : List Od) : CO.eff (.callv q x args) = !q := by simp [CO.eff, CO.pure]

section states
theorem blk_push (σ : St) (B : Blk) (b : Nat) : (σ.push B).blk b = if b = σ.next then some B else σ.blk b := rfl
theorem next_push (σ : St) (B : Blk) : (σ.push B).next = σ.next + 1 := rfl
theorem blk_set (σ : St) (c : Nat) (B : Blk) (b : Nat) : (σ.set c B).blk b = if b = c then some B else σ.blk b := rfl
theorem next_set (σ : St) (c : Nat) (B : Blk) : (σ.set c B).next = σ.next := rfl
theorem blk_kill (σ : St) (c : Nat) (b : Nat) : (σ.kill c).blk b = if b = c then none else σ.blk b := rfl
theorem next_kill (σ : St) (c : Nat) : (σ.kill c).next = σ.next := rfl
end states

/-- A frame of a few slots. -/
def frL : List (Nat × AV) → Fr
 | [] => fun _ => .undef
 | p :: r => fun t => if t = p.1 then p.2 else frL r t
theorem frL_nil (t : Nat) : frL [] t = .undef := rfl
theorem frL_cons (k : Nat) (v : AV) (r : List (Nat × AV)) (t : Nat) : frL ((k, v) :: r) t = if t = k then v else frL r t := rfl
def Fits (F : Fr) : List (Nat × AV) → Prop
 | [] => True
 | p :: r => F p.1 = p.2 ∧ Fits F r
theorem Fits_nil (F : Fr) : Fits F [] = True := rfl
theorem Fits_cons (F : Fr) (k : Nat) (v : AV) (r : List (Nat × AV)) : Fits F ((k, v) :: r) = (F k = v ∧ Fits F r) := rfl
theorem Fits.frL {F : Fr} {L : List (Nat × AV)} (h : Fits F L) (t : Nat) : frL L t = .undef ∨ Av.frL L t = F t := by
 induction L with
 | nil => exact .inl rfl
 | cons p r ih =>
  simp only [Av.frL]
  split
  ·rename_i ht; subst ht; exact .inr h.1.symm
  ·exact ih h.2
theorem Fits.ent {n0 : Nat} {F : Fr} {σ : St} {L : List (Nat × AV)} (h : Fits F L) : Ent n0 F σ (Av.frL L) σ := by
 rintro W0 e0 N a w ⟨hn, e, hle, hrel, hf, hN, hd⟩
 refine ⟨hn, e, hle, hrel, fun t => ?_, hN, hd⟩
 rcases h.frL t with h' | h' <;> rw [h']
 ·exact .undef _
 ·exact hf t
section
variable {P : Program} {n0 : Nat} {Q : Exit → Fr → St → Prop} {F : Fr} {σ : St}
theorem SWP.keep {c : C} (L : List (Nat × AV)) (h : Fits F L) (k : SWP P n0 c Q (frL L) σ) : SWP P n0 c Q F σ := .ent h.ent k
/-- What holds between two parts, told by slots. -/
theorem SWP.midK {a b : C} (J : List (Nat × AV) → St → Prop) (h : SWP P n0 a (thenQ (fun F' σ' => ∃ L, J L σ' ∧ Fits F' L) Q) F σ) (h' : ∀ L σ', J L σ' → SWP P n0 b Q (frL L) σ') : SWP P n0 (.seq a b) Q F σ :=
 .mid (fun F' σ' => ∃ L, J L σ' ∧ Fits F' L) h fun _ _ ⟨L, hJ, hL⟩ => .keep L hL (h' L _ hJ)

def loopQ (id : Nat) (m : Nat) (J : Nat → List (Nat × AV) → St → Prop) (Q : Exit → Fr → St → Prop) : Exit → Fr → St → Prop
 | .normal, F, σ => ∃ m', m' < m ∧ ∃ L, J m' L σ ∧ Fits F L
 | .exit k, F, σ => if k = id then Q .normal F σ else Q (.exit k) F σ
 | ex, F, σ => Q ex F σ
theorem SWP.loopK {id : Nat} {body : C} (J : Nat → List (Nat × AV) → St → Prop) (m : Nat) (h0 : ∃ L, J m L σ ∧ Fits F L) (h : ∀ m L σ, J m L σ → SWP P n0 body (loopQ id m J Q) (frL L) σ) : SWP P n0 (.block id (.loop body)) Q F σ := by
 refine .block (.loop (fun m F σ => ∃ L, J m L σ ∧ Fits F L) m h0 fun m F σ ⟨L, hJ, hL⟩ => .keep L hL ((h m L σ hJ).mono fun ex F' σ' hq => ?_))
 cases ex with
 | normal => exact hq
 | exit k => exact hq
 | _ => exact hq

def roundK (id id2 ti tx i : Nat) (J : Nat → List (Nat × AV) → St → Prop) (Q : Exit → Fr → St → Prop) : Exit → Fr → St → Prop
 | .normal, F, σ => F ti = .int .i64 i ∧ ∃ L, J (i + 1) L σ ∧ Fits (upd (upd F tx (.int .i64 ((i + 1 : Nat) : Int))) ti (.int .i64 ((i + 1 : Nat) : Int))) L
 | .exit k, F, σ => if k = id2 then F ti = .int .i64 i ∧ ∃ L, J (i + 1) L σ ∧ Fits (upd (upd F tx (.int .i64 ((i + 1 : Nat) : Int))) ti (.int .i64 ((i + 1 : Nat) : Int))) L else if k = id then Q .normal F σ else Q (.exit k) F σ
 | ex, F, σ => Q ex F σ

/-- The slots of a counting loop's head. -/
structure Heads (ti tn t : Nat) (i N : Nat) (L : List (Nat × AV)) : Prop where
 i : frL L ti = .int .i64 i
 n : frL L tn = .int .i64 N
 t : (L.all fun p => p.1 != t) = true

theorem Fits.upd {F : Fr} {L : List (Nat × AV)} {t : Nat} (h : Fits F L) (ht : (L.all fun p => p.1 != t) = true) (v : AV) : Fits (Av.upd F t v) L := by
 induction L with
 | nil => trivial
 | cons p r ih =>
  simp only [List.all_cons, Bool.and_eq_true, bne_iff_ne, ne_eq] at ht
  refine ⟨?_, ih h.2 ht.2⟩
  rw [Av.upd, if_neg ht.1]; exact h.1
theorem Fits.int {F : Fr} {L : List (Nat × AV)} {t : Nat} {n : Int} (h : Fits F L) (hl : Av.frL L t = .int .i64 n) : F t = .int .i64 n := by
 rcases h.frL t with h' | h' <;> rw [hl] at h'
 ·cases h'
 ·exact h'.symm

theorem SWP.rangeK {id id2 t ti tn tx N : Nat} {body : C} (J : Nat → List (Nat × AV) → St → Prop) (hN : N ≤ most) (h0 : ∃ L, J 0 L σ ∧ Fits F L) (hF : ∀ i L σ, J i L σ → Heads ti tn t i N L)
  (hstep : ∀ i L σ, i < N → J i L σ → SWP P n0 body (roundK id id2 ti tx i J Q) (frL L) σ)
  (hend : ∀ L σ F, J N L σ → Fits F L → Q .normal F σ) :
  SWP P n0 (.block id (.loop (.seq (.reg [⟨some t, none, .bin .lss 0 (.t ti) (.t tn)⟩]) (.seq (.cond (.t t) .skip (.exit id))
   (.seq (.block id2 body) (.reg [⟨some tx, none, .bin .add 0 (.t ti) (.k (.int .i64 1))⟩, ⟨some ti, none, .mv (.t tx)⟩])))))) Q F σ := by
 refine .range (N := N) (fun i F σ => ∃ L, J i L σ ∧ Fits F L) hN h0 (fun i F σ ⟨L, hJ, hL⟩ => ⟨hL.int (hF i L σ hJ).i, hL.int (hF i L σ hJ).n⟩) ?_ ?_
 ·rintro i F σ hi ⟨L, hJ, hL⟩
  refine .keep L (hL.upd (hF i L σ hJ).t _) ((hstep i L σ hi hJ).mono fun ex F' σ' hq => ?_)
  cases ex with
  | normal => exact hq
  | exit k => exact hq
  | _ => exact hq
 ·rintro F σ ⟨L, hJ, hL⟩
  exact hend L σ _ hJ (hL.upd (hF N L σ hJ).t _)

def roundC (id id2 ti ta tx i : Nat) (J : Nat → List (Nat × AV) → St → Prop) (Q : Exit → Fr → St → Prop) : Exit → Fr → St → Prop
 | .normal, F, σ => F ti = .int .i64 i ∧ ∃ L, J (i + 1) L σ ∧ Fits (upd (upd (upd F ta (.int .i64 i)) tx (.int .i64 ((i + 1 : Nat) : Int))) ti (.int .i64 ((i + 1 : Nat) : Int))) L
 | .exit k, F, σ => if k = id2 then F ti = .int .i64 i ∧ ∃ L, J (i + 1) L σ ∧ Fits (upd (upd (upd F ta (.int .i64 i)) tx (.int .i64 ((i + 1 : Nat) : Int))) ti (.int .i64 ((i + 1 : Nat) : Int))) L else if k = id then Q .normal F σ else Q (.exit k) F σ
 | ex, F, σ => Q ex F σ

theorem SWP.countK {id id2 t ti ta tx N : Nat} {hd body : C} (J : Nat → List (Nat × AV) → St → Prop) (hN : N ≤ most) (h0 : ∃ L, J 0 L σ ∧ Fits F L)
  (hhd : ∀ i L σ, i ≤ N → J i L σ → SWP P n0 hd (fun ex F' σ' => ex = .normal ∧ F' t = .bool (decide (i < N)) ∧ ∃ L', J i L' σ' ∧ Fits F' L') (frL L) σ)
  (hstep : ∀ i L σ, i < N → J i L σ → SWP P n0 body (roundC id id2 ti ta tx i J Q) (frL L) σ)
  (hend : ∀ L σ F, J N L σ → Fits F L → Q .normal F σ) :
  SWP P n0 (.block id (.loop (.seq (.seq hd (.cond (.t t) .skip (.exit id)))
   (.seq (.block id2 body) (.reg [⟨some ta, none, .mv (.t ti)⟩, ⟨some tx, none, .bin .add 0 (.t ta) (.k (.int .i64 1))⟩, ⟨some ti, none, .mv (.t tx)⟩]))))) Q F σ := by
 refine .count (N := N) (fun i F σ => ∃ L, J i L σ ∧ Fits F L) hN h0 (fun i F σ hi ⟨L, hJ, hL⟩ => .keep L hL (hhd i L σ hi hJ)) ?_ ?_
 ·rintro i F σ hi ⟨L, hJ, hL⟩ -
  refine .keep L hL ((hstep i L σ hi hJ).mono fun ex F' σ' hq => ?_)
  cases ex with
  | normal => exact hq
  | exit k => exact hq
  | _ => exact hq
 ·rintro F σ ⟨L, hJ, hL⟩ -
  exact hend L σ F hJ hL
end

section ret
variable {n0 : Nat} {F : Fr} {σ σ0 : St}
/-- One value, in a state that may have grown. -/
theorem retS {n : Nat} {v : AV} {Q : AV → St → Prop} (h : F n = v) (hq : Q v σ) : retQ n0 [.t n] Q .ret F σ :=
 ⟨[v], by simp [resOne, h], v, σ, .refl _ _ _, hq⟩
/-- One value; the state is told anew, without what has come since. -/
theorem retB {n : Nat} {v : AV} {Q : AV → St → Prop} (h : F n = v) (wf : σ0.Wf) (hs : ∀ b, b < σ0.next → σ.blk b = σ0.blk b) (hv : v.Lt σ0.next) (hq : Q v σ0) : retQ σ0.next [.t n] Q .ret F σ :=
 ⟨[v], by simp [resOne, h], v, σ0, .back rfl wf hs hv, hq⟩
theorem retS2 {n m : Nat} {v u : AV} {Q : AV → St → Prop} (h : F n = v) (h' : F m = u) (hq : Q (.tup [v, u]) σ) : retQ n0 [.t n, .t m] Q .ret F σ :=
 ⟨[v, u], by simp [resOne, h, h'], .tup [v, u], σ, .refl _ _ _, hq⟩
end ret

def stepD (A : Nat → List (Nat × CO × Tr) → List RO → Fr → St → (Fr → St → Prop) → Prop) (i : Nat) (h : List (Nat × CO × Tr)) (os : List RO) (d : Option Nat) (F : Fr) (K : Fr → St → Prop) : AV → St → Prop := fun v σ' => A i h os (put F d v) σ' K
theorem stepD_apply (A : Nat → List (Nat × CO × Tr) → List RO → Fr → St → (Fr → St → Prop) → Prop) (i : Nat) (h : List (Nat × CO × Tr)) (os : List RO) (d : Option Nat) (F : Fr) (K : Fr → St → Prop) (v : AV) (σ : St) : stepD A i h os d F K v σ = A i h os (put F d v) σ K := by simp only [stepD]
def stepE (P : Program) (tbl : List (List Nat)) (A : Nat → List (Nat × CO × Tr) → List RO → Fr → St → (Fr → St → Prop) → Prop) (i : Nat) (h : List (Nat × CO × Tr)) (o : CO) (σ : St) (os : List RO) (d : Option Nat) (F : Fr) (K : Fr → St → Prop) : AV → St → Prop :=
 fun v σ' => (o.eff = true ∨ σ' = σ) ∧ chk P (tbl.getD i []) o F v σ' h ∧ A (i + 1) ((i, o, ⟨F, σ, v, σ', true⟩) :: h) os (put F d v) σ' K
theorem stepE_apply (P : Program) (tbl : List (List Nat)) (A : Nat → List (Nat × CO × Tr) → List RO → Fr → St → (Fr → St → Prop) → Prop) (i : Nat) (h : List (Nat × CO × Tr)) (o : CO) (σ : St) (os : List RO) (d : Option Nat) (F : Fr) (K : Fr → St → Prop) (v : AV) (σ' : St) :
  stepE P tbl A i h o σ os d F K v σ' = ((o.eff = true ∨ σ' = σ) ∧ chk P (tbl.getD i []) o F v σ' h ∧ A (i + 1) ((i, o, ⟨F, σ, v, σ', true⟩) :: h) os (put F d v) σ' K) := by simp only [stepE]

/-- What a drawn region's formula does, told by equations alone. -/
structure RLD (P : Program) (tbl : List (List Nat)) (A : Nat → List (Nat × CO × Tr) → List RO → Fr → St → (Fr → St → Prop) → Prop) : Prop where
 nil : ∀ i h F σ K, A i h [] F σ K = K F σ
 pur : ∀ i h d o os F σ K, o.pure = true → A i h (⟨d, none, o⟩ :: os) F σ K = aop P o F σ (stepD A (i + 1) h os d F K)
 go : ∀ i h d o os F σ K, o.pure = false → A i h (⟨d, none, o⟩ :: os) F σ K = aop P o F σ (stepE P tbl A i h o σ os d F K)
 yes : ∀ i h d t want o os F σ K, F t = .bool want → A i h (⟨d, some (t, want), o⟩ :: os) F σ K = A i h (⟨d, none, o⟩ :: os) F σ K
 noT : ∀ i h d t o os F σ K, F t = .bool false → A i h (⟨d, some (t, true), o⟩ :: os) F σ K = A (i + 1) h os (put F d (.raw (.tuple #[]))) σ K
 noF : ∀ i h d t o os F σ K, F t = .bool true → A i h (⟨d, some (t, false), o⟩ :: os) F σ K = A (i + 1) h os (put F d (.raw (.tuple #[]))) σ K
 skp : ∀ i h d t want o os F σ K, F t = .raw (.tuple #[]) → A i h (⟨d, some (t, want), o⟩ :: os) F σ K = A (i + 1) h os (put F d (.raw (.tuple #[]))) σ K

theorem chk_nil (P : Program) (b : List Nat) (o : CO) (F : Fr) (v : AV) (σ : St) : chk P b o F v σ [] = True := rfl
theorem chk_cons (P : Program) (b : List Nat) (o : CO) (F : Fr) (v : AV) (σ : St) (j : Nat) (o' : CO) (t : Tr) (hs : List (Nat × CO × Tr)) : chk P b o F v σ ((j, o', t) :: hs) = ((b.contains j = true ∨ (if o.eff = true then (o'.eff = true ∨ again P o' t.F t.v σ) else (o'.eff = false ∨ again P o F v t.s))) ∧ chk P b o F v σ hs) := rfl
theorem chk_pure {P : Program} {b : List Nat} {o : CO} (hp : o.pure = true) (he : o.eff = false) {F : Fr} {v : AV} {σ' : St} : ∀ h, chk P b o F v σ' h
 | [] => trivial
 | (j, o', t) :: hs => ⟨.inr (by rw [if_neg (by rw [he]; simp)]; exact .inr (.inl hp)), chk_pure hp he hs⟩

theorem RLD.adr (P : Program) (tbl : List (List Nat)) : RLD P tbl (Av.adr P tbl) := by
 refine ⟨fun _ _ _ _ _ => rfl, fun i h d o os F σ K hp => ?_, fun i h d o os F σ K hp => ?_, fun i h d t want o os F σ K hf => ?_, fun i h d t o os F σ K hf => ?_, fun i h d t o os F σ K hf => ?_, fun i h d t want o os F σ K hf => ?_⟩
 ·have he := pure_eff hp
  unfold stepD
  simp only [Av.adr]
  refine propext ⟨fun hh => ?_, fun hh => ?_⟩
  ·obtain ⟨v, h1, h2⟩ := aop_det hp hh
   refine h2 σ _ ?_
   have := h1.2.2
   rwa [if_pos hp] at this
  ·obtain ⟨v, h1, h2⟩ := aop_det hp hh
   refine h2 σ _ ⟨.inr rfl, chk_pure hp he h, ?_⟩
   rw [if_pos hp]; exact h1
 ·unfold stepE
  simp only [Av.adr]
  simp only [hp, Bool.false_eq_true, if_false]
 ·simp [Av.adr, hf]
 ·simp [Av.adr, hf]
 ·simp [Av.adr, hf]
 ·simp [Av.adr, hf]

theorem SWP.rdx {P : Program} {n0 : Nat} {Q : Exit → Fr → St → Prop} {F : Fr} {σ : St} {tbl : List (List Nat)} {ops : List RO} (h : ∀ A, RLD P tbl A → ∀ K : Fr → St → Prop, (∀ F' σ', Q .normal F' σ' → K F' σ') → A 0 [] ops F σ K) : SWP P n0 (.dr tbl ops) Q F σ :=
 .rx fun K hK => h _ (.adr P tbl) K hK
theorem SWP.rdx2 {P : Program} {n0 : Nat} {Q : Exit → Fr → St → Prop} {F : Fr} {σ : St} {tA tB : List (List Nat)} {oA oB : List RO} (h1 : ∀ A, RLD P tA A → ∀ K : Fr → St → Prop, (∀ F' σ', Q .normal F' σ' → K F' σ') → A 0 [] oA F σ K)
  (h2 : ∀ A, RLD P tB A → ∀ K : Fr → St → Prop, (∀ F' σ', Q .normal F' σ' → K F' σ') → A 0 [] oB F σ K) : SWP P n0 (.dr2 tA oA tB oB) Q F σ :=
 .rx2 fun K hK => ⟨h1 _ (.adr P tA) K hK, h2 _ (.adr P tB) K hK⟩
theorem SWP.nilK {P : Program} {n0 : Nat} {c : C} {Q : Exit → Fr → St → Prop} {F : Fr} {σ : St} (i : Nat) {sz : Nat} (hF : F i = .lit sz []) (h1 : ∀ F', (∀ t, t ≠ i → F' t = F t) → F' i = .nils → SWP P n0 c Q F' σ)
  (h2 : ∀ F', (∀ t, t ≠ i → F' t = F t) → F' i = .emp false sz → SWP P n0 c Q F' σ) : SWP P n0 c Q F σ :=
 .nilOr i hF (h1 _ (fun t ht => by simp [Av.upd, ht]) (by simp [Av.upd])) (h2 _ (fun t ht => by simp [Av.upd, ht]) (by simp [Av.upd]))
section
variable {n0 : Nat} {F : Fr} {σ : St}
theorem Ent.lit0At {b' sz' i j sz : Nat} {rows' : List (List AV)} (hb' : σ.blk b' = some (.cells sz' rows')) (hi : i < rows'.length) (hj : j < (rows'.getD i []).length)
  (hc : (rows'.getD i []).getD j .undef = .nils) :
  Ent n0 F σ F (σ.set b' (.cells sz' (rows'.set i ((rows'.getD i []).set j (.lit sz []))))) := by
 rintro W0 e0 N a w ⟨hn, e, hle, hrel, hf, hN, hd⟩
 obtain ⟨x', hx', _⟩ := hrel.own b' _ hb'
 obtain ⟨r1, r2, r3, r4⟩ := hrel.cellsAt hb' hx'
 have hv : x'.v = false := by
  cases h : x'.v with
  | false => rfl
  | true =>
   obtain ⟨y, h1, _, h3⟩ := hrel.own b' _ hb'
   rw [hx'] at h1; cases h1
   have := h3.2.2.2.1 h
   subst this; simp at hi
 obtain ⟨c, t, s5, s6, s7, s8⟩ := r4 hv
 refine ⟨hn, e, hle, hrel.set hb' hx' hv (fun _ _ => rfl) (Nat.le_refl _) hrel.below _ ?_, hf, hN, hd⟩
 have hlen : ((rows'.getD i []).set j (.lit sz [])).length = sz' := by rw [List.length_set]; exact r2 i hi
 refine ⟨r1, fun k hk => ?_, by simpa using r3, (fun h => by rw [hv] at h; cases h), fun _ => ⟨c, t, s5, s6, by simpa using s7, fun k m hk hm => ?_⟩⟩
 ·rw [lset_get]; split
  ·exact hlen
  ·exact r2 k (by simpa using hk)
 ·have hk' : k < rows'.length := by simpa using hk
  refine ⟨(s8 k m hk' hm).1, ?_⟩
  rw [lset_get]
  split
  ·rename_i hki; obtain ⟨rfl, _⟩ := hki
   by_cases hmj : m = j
   ·subst hmj
    have := (s8 k m hk' hm).2
    rw [hc] at this
    rw [List.getD_eq_getElem?_getD, List.getElem?_set, if_pos rfl, if_pos hj]
    simp only [Option.getD_some]
    generalize c.getD (x'.o + k * sz' + m) Go.undef = v at this
    cases this
    exact .lit0 sz none 0 (fun _ => rfl)
   ·rw [List.getD_eq_getElem?_getD, List.getElem?_set, if_neg (by omega), ← List.getD_eq_getElem?_getD]; exact (s8 k m hk' hm).2
  ·exact (s8 k m hk' hm).2

theorem Ent.virtAt {b' sz' i j : Nat} (sz : Nat) {rows' : List (List AV)} (hb' : σ.blk b' = some (.cells sz' rows')) (hi : i < rows'.length) (hj : j < (rows'.getD i []).length)
  (hc : (rows'.getD i []).getD j .undef = .nils) :
  Ent n0 F σ F ((σ.push (.cells sz [])).set b' (.cells sz' (rows'.set i ((rows'.getD i []).set j (.sl σ.next 0 0))))) := by
 rintro W0 e0 N a w ⟨hn, e, hle, hrel, hf, hN, hd⟩
 obtain ⟨x', hx', _⟩ := hrel.own b' _ hb'
 obtain ⟨l, hxv, hR⟩ := hrel.virt sz
 have hlt : b' < σ.next := hrel.lt hb'
 have hb2 : (σ.push (.cells sz [])).blk b' = some (.cells sz' rows') := by simp only [St.push]; rw [if_neg (by omega)]; exact hb'
 obtain ⟨r1, r2, r3, r4⟩ := hR.cellsAt hb2 (l.ι _ _ hx')
 have hv : x'.v = false := by
  cases h : x'.v with
  | false => rfl
  | true =>
   obtain ⟨y, h1, _, h3⟩ := hrel.own b' _ hb'
   rw [hx'] at h1; cases h1
   have := h3.2.2.2.1 h
   subst this; simp at hi
 obtain ⟨c, t, s5, s6, s7, s8⟩ := r4 hv
 refine ⟨hn, _, hle.trans l, hR.set hb2 (l.ι _ _ hx') hv (fun _ _ => rfl) (Nat.le_refl _) hR.below _ ?_, fun t => (hf t).mono l, hN, hd⟩
 have hlen : ((rows'.getD i []).set j (.sl σ.next 0 0)).length = sz' := by rw [List.length_set]; exact r2 i hi
 refine ⟨r1, fun k hk => ?_, by simpa using r3, (fun h => by rw [hv] at h; cases h), fun _ => ⟨c, t, s5, s6, by simpa using s7, fun k m hk hm => ?_⟩⟩
 ·rw [lset_get]; split
  ·exact hlen
  ·exact r2 k (by simpa using hk)
 ·have hk' : k < rows'.length := by simpa using hk
  refine ⟨(s8 k m hk' hm).1, ?_⟩
  rw [lset_get]
  split
  ·rename_i hki; obtain ⟨rfl, _⟩ := hki
   by_cases hmj : m = j
   ·subst hmj
    have := (s8 k m hk' hm).2
    rw [hc] at this
    rw [List.getD_eq_getElem?_getD, List.getElem?_set, if_pos rfl, if_pos hj]
    simp only [Option.getD_some]
    generalize c.getD (x'.o + k * sz' + m) Go.undef = v at this
    cases this
    exact .sl0 _ _ _ _ hxv
   ·rw [List.getD_eq_getElem?_getD, List.getElem?_set, if_neg (by omega), ← List.getD_eq_getElem?_getD]; exact (s8 k m hk' hm).2
  ·exact (s8 k m hk' hm).2

variable {P : Program} {c : C} {Q : Exit → Fr → St → Prop}
theorem SWP.frz (i : Nat) {b n sz : Nat} {rows : List (List AV)} (hF : F i = .sl b 0 n) (hb : σ.blk b = some (.cells sz rows)) (hn : n = rows.length)
  (h : SWP P n0 c Q (upd F i (.lit sz rows)) (σ.kill b)) : SWP P n0 c Q F σ := by
 refine .ent (.freeze (i := i) hF hb (by omega)) ?_
 subst hn; simpa using h
theorem SWP.frzAt (b' i : Nat) {c' n sz : Nat} {rows' rows : List (List AV)} (hb' : σ.blk b' = some (.cells 1 rows')) (hi : i < rows'.length) (hc : rows'.getD i [] = [.sl c' 0 n]) (hb : σ.blk c' = some (.cells sz rows)) (hne : b' ≠ c') (hn : n = rows.length)
  (h : SWP P n0 c Q F ((σ.kill c').set b' (.cells 1 (rows'.set i [.lit sz rows])))) : SWP P n0 c Q F σ := by
 refine .ent (.freezeAt (j := 0) hb' hi (by rw [hc]; simp) (by rw [hc]; rfl) hb hne (by omega)) ?_
 rw [hc]; subst hn; simpa using h
/-- What comes behind may be told another way. -/
theorem SWP.entQ (h : SWP P n0 c (fun ex F σ => ∃ F' σ', Ent n0 F σ F' σ' ∧ Q ex F' σ') F σ) : SWP P n0 c Q F σ := by
 intro cc N k hk W0 e0 a w hr
 refine wp_mono (h cc N k hk W0 e0 a w hr) fun ex a w ⟨F, σ, ⟨F', σ', h1, h2⟩, h3⟩ => ⟨F', σ', h2, h1 _ _ _ _ _ h3⟩
theorem Ent.frzAt (b' i : Nat) {c' n sz : Nat} {rows' rows : List (List AV)} (hb' : σ.blk b' = some (.cells 1 rows')) (hi : i < rows'.length) (hc : rows'.getD i [] = [.sl c' 0 n]) (hb : σ.blk c' = some (.cells sz rows)) (hne : b' ≠ c') (hn : n = rows.length) :
  Ent n0 F σ F ((σ.kill c').set b' (.cells 1 (rows'.set i [.lit sz rows]))) := by
 have := Ent.freezeAt (n0 := n0) (F := F) (j := 0) hb' hi (by rw [hc]; simp) (by rw [hc]; rfl) hb hne (by omega)
 rw [hc] at this; subst hn; simpa using this
theorem Ent.litAt (b' i sz : Nat) {rows' : List (List AV)} (hb' : σ.blk b' = some (.cells 1 rows')) (hi : i < rows'.length) (hc : rows'.getD i [] = [.nils]) :
  Ent n0 F σ F (σ.set b' (.cells 1 (rows'.set i [.lit sz []]))) := by
 have := Ent.lit0At (n0 := n0) (F := F) (sz := sz) (j := 0) hb' hi (by rw [hc]; simp) (by rw [hc]; rfl)
 rw [hc] at this; simpa using this
theorem SWP.litAt (b' i : Nat) {sz : Nat} {rows' : List (List AV)} (hb' : σ.blk b' = some (.cells 1 rows')) (hi : i < rows'.length) (hc : rows'.getD i [] = [.nils])
  (h : SWP P n0 c Q F (σ.set b' (.cells 1 (rows'.set i [.lit sz []])))) : SWP P n0 c Q F σ := by
 refine .ent (.lit0At (sz := sz) (j := 0) hb' hi (by rw [hc]; simp) (by rw [hc]; rfl)) ?_
 rw [hc]; simpa using h
end

theorem SWP.thenK {P : Program} {n0 : Nat} {Q : Exit → Fr → St → Prop} {F : Fr} {σ : St} {a b : C} (J : List (Nat × AV) → St → Prop) (h : SWP P n0 a (thenQ (fun F' σ' => ∃ L, J L σ' ∧ Fits F' L) Q) F σ) (h' : ∀ L σ', J L σ' → SWP P n0 b Q (frL L) σ') :
  SWP P n0 a (thenQ (fun F' σ' => SWP P n0 b Q F' σ') Q) F σ :=
 h.mono fun ex F' σ' hq => by
  cases ex with
  | normal => obtain ⟨L, hJ, hL⟩ := hq; exact SWP.keep L hL (h' L _ hJ)
  | _ => exact hq

/-- What stands to the one stands to the other. -/
def Sub (a a' : AV) : Prop := ∀ e v, VR e a v → VR e a' v
theorem Sub.refl (a : AV) : Sub a a := fun _ _ h => h
theorem Sub.nils (sz : Nat) : Sub .nils (.lit sz []) := fun e v h => by cases h; exact .lit0 sz none 0 (fun _ => rfl)
theorem Sub.undef (a : AV) : Sub a .undef := fun e v _ => .undef v
theorem Sub.lit {sz : Nat} {rows rows' : List (List AV)} (hl : rows.length = rows'.length) (hr : ∀ i, i < rows.length → (rows.getD i []).length = (rows'.getD i []).length)
  (h : ∀ i j, i < rows.length → j < (rows.getD i []).length → Sub ((rows.getD i []).getD j .undef) ((rows'.getD i []).getD j .undef)) : Sub (.lit sz rows) (.lit sz rows') := by
 intro e v hv
 cases hv with
 | lit0 _ a cap hz =>
  have : rows' = [] := List.length_eq_zero_iff.1 (by simpa using hl.symm)
  subst this; exact .lit0 sz a cap hz
 | lit _ _ k off cap c hk hc hm hrr hs ho hh =>
  have q : VR e (.lit sz rows') (.slice (some ⟨k, off, none⟩) rows'.length cap) := ?_
  ·rwa [← hl] at q
  exact .lit sz rows' k off cap c hk (by omega) (by omega) (fun i hi => by rw [← hr i (by omega)]; exact hrr i (by omega)) (by rw [← hl]; exact hs) (fun i j hi hj => ho i j (by omega) hj)
   (fun i j hi hj => h i j (by omega) (by rw [hrr i (by omega)]; exact hj) _ _ (hh i j (by omega) hj))
theorem TQ.sub {P : Program} {f : FuncId} {args args' : List AV} {σ : St} {Q : AV → St → Prop} (hl : args.length = args'.length) (hs : ∀ i, i < args.length → Sub (args.getD i .undef) (args'.getD i .undef)) (h : TQ P f args' σ Q) : TQ P f args σ Q :=
 ⟨h.1, fun W0 e w cargs hr hlen hv => h.2 W0 e w cargs hr (by omega) fun i hi => hs i (by omega) _ _ (hv i (by omega))⟩
theorem Sub.agg {cs cs' : List AV} (hl : cs.length = cs'.length) (h : ∀ i, i < cs.length → Sub (cs.getD i .undef) (cs'.getD i .undef)) : Sub (.agg cs) (.agg cs') := by
 intro e v hv
 cases hv with
 | agg _ vs hl' ho hh => exact .agg cs' vs (by omega) (fun i hi => ho i (by omega)) fun i hi => h i (by omega) _ _ (hh i (by omega))
theorem Ent.sub {n0 : Nat} {F : Fr} {σ : St} (i : Nat) {a a' : AV} (hF : F i = a) (hs : Sub a a') : Ent n0 F σ (upd F i a') σ := by
 rintro W0 e0 N ac w ⟨hn, e, hle, hrel, hf, hN, hd⟩
 refine ⟨hn, e, hle, hrel, fun t => ?_, hN, hd⟩
 unfold upd; split
 ·rename_i ht; subst ht; exact hs _ _ (by rw [← hF]; exact hf t)
 ·exact hf t
end Go.Av
namespace Go.Av
open Go

/-- All blocks as they stand. -/
def eH (w : World) : Env := ⟨fun k => match w.heap[k]? with
 | some (.cells c _ _) => some c
 | _ => none, fun _ => none⟩

theorem eH_cell {w : World} {a : Addr} {v : Value} (h : w.cell? a = some v) : a.spot = none ∧ ∃ c, (eH w).H a.block = some c ∧ c[a.off]? = some v := by
 unfold World.cell? at h
 split at h
 ·rename_i c t fr hc
  split at h
  ·cases h
  ·rename_i hs
   refine ⟨by simpa using hs, c, by simp [eH, hc], h⟩
 ·cases h

theorem addr_block (a : Addr) (n : Nat) : (a.add n).block = a.block := by unfold Addr.add; split <;> rfl
theorem addr_off (a : Addr) (n : Nat) : (a.add n).off = a.off + n := by
 unfold Addr.add; split
 ·rename_i h; subst h; rfl
 ·rfl

/-- A row of small values stands to a row of cells. -/
def RowVR (e : Env) (row : List AV) (cs : List Value) : Prop :=
 row.length = cs.length ∧ ∀ i, i < cs.length → VR e (row.getD i .undef) (cs.getD i Go.undef) ∧ (cs.getD i Go.undef).oneCell' = true

section
variable {H : Type} {enc : TypeId × Value → H} {P : Program} {w : World} {base : Nat} {spare : Nat → Bool} {held : Bool}

/-- What reads as data of a type has small values of a form. -/
def Opens (enc : TypeId × Value → H) (P : Program) (w : World) (base : Nat) (spare : Nat → Bool) (held : Bool) (t : TypeId) (Enc : List AV → Prop) : Prop :=
 ∀ fuel cs d ps, DataW.trod enc P w base spare held fuel t cs = some (d, ps) → (∀ n ∈ DataW.weights P t d, n ≤ reachBytes) → ∃ row, Enc row ∧ RowVR (eH w) row cs

theorem opens_int {t : TypeId} (ht : P.underlying t = some (.int .i64)) : Opens enc P w base spare held t (fun row => ∃ n, row = [.int .i64 n]) := by
 intro fuel cs d ps h _
 obtain ⟨n, rfl, _, _⟩ := DataW.trod_int ht h
 refine ⟨_, ⟨n, rfl⟩, rfl, fun i hi => ?_⟩
 obtain rfl : i = 0 := by simpa using hi
 exact ⟨.int _ _, rfl⟩
theorem choose_list {α : Type} {n : Nat} {Q : Nat → α → Prop} (h : ∀ i, i < n → ∃ x, Q i x) : ∃ l : List α, l.length = n ∧ ∀ i (hi : i < l.length), Q i l[i] := by
 induction n with
 | zero => exact ⟨[], rfl, fun i hi => absurd hi (by simp)⟩
 | succ n ih =>
  obtain ⟨l, h1, h2⟩ := ih fun i hi => h i (by omega)
  obtain ⟨x, hx⟩ := h n (by omega)
  refine ⟨l ++ [x], by simp [h1], fun i hi => ?_⟩
  by_cases hil : i < l.length
  ·rw [List.getElem_append_left hil]; exact h2 i hil
  ·have : i = n := by simp at hi; omega
   subst this
   rw [List.getElem_append_right (by omega)]
   simpa [h1] using hx

theorem weightsAll_mem {e : TypeId} : ∀ {ds : List (DataW H)} {d : DataW H} {n : Nat}, d ∈ ds → n ∈ DataW.weights P e d → n ∈ DataW.weightsAll P e ds
 | _ :: _, _, _, h, hn => by
  simp only [DataW.weightsAll, List.mem_append]
  rcases List.mem_cons.1 h with rfl | h
  ·exact .inl hn
  ·exact .inr (weightsAll_mem h hn)

theorem opens_slice {t e : TypeId} {Enc : List AV → Prop} {sz B : Nat} (ht : P.underlying t = some (.slice e)) (hsz : P.cellsOf e = sz) (hsz0 : 0 < sz) (hB : P.bytesOf e = B) (hB0 : 0 < B) (ho : Opens enc P w base spare held e Enc) :
  Opens enc P w base spare held t (fun row => ∃ rows, row = [.lit sz rows] ∧ (∀ r ∈ rows, Enc r) ∧ rows.length * B ≤ most) := by
 intro fuel cs d ps h hw
 rcases DataW.trod_slice ht h with ⟨rfl, _⟩ | ⟨a, len, cap, elems, rest, n, rfl, rfl, hx, hb, hl, hm, hlen, hel, hsp, hns⟩
 ·refine ⟨_, ⟨[], rfl, by simp, by simp⟩, rfl, fun i hi => ?_⟩
  obtain rfl : i = 0 := by simpa using hi
  exact ⟨.lit0 sz none 0 (fun _ => rfl), rfl⟩
 obtain ⟨rfl, _⟩ := Prod.mk.inj hx
 have hbytes : (elems.length + rest.length) * B ≤ reachBytes := by
  have := hw ((elems.length + rest.length) * P.bytesOf e) (by simp [DataW.weights, ht])
  rwa [hB] at this
 have hmost : elems.length * B ≤ most := by
  have := Nat.mul_le_mul_right B (show elems.length ≤ elems.length + rest.length by omega)
  simp only [reachBytes] at hbytes; simp only [most]; omega
 have each : ∀ i, i < elems.length → ∃ row : List AV, Enc row ∧ ∃ cs', w.cells? base (a.add (i * sz)) sz = some cs' ∧ RowVR (eH w) row cs' := by
  intro i hi
  have h1 := hel i (by omega)
  rw [hsz, List.getElem?_eq_getElem hi, Option.bind_eq_some_iff] at h1
  obtain ⟨cs', h2, h3⟩ := h1
  obtain ⟨row, h4, h5⟩ := ho n cs' elems[i].1 elems[i].2 h3 fun m hm => hw m (by
   simp only [DataW.weights, ht, List.mem_cons, List.mem_append]
   exact .inr (.inl (weightsAll_mem (List.mem_map.2 ⟨_, List.getElem_mem hi, rfl⟩) hm)))
  exact ⟨row, h4, cs', h2, h5⟩
 obtain ⟨rows, hrl, hrows⟩ := choose_list each
 refine ⟨_, ⟨rows, rfl, fun r hr => ?_, by rw [hrl]; exact hmost⟩, rfl, fun i hi => ?_⟩
 ·obtain ⟨i, hi, rfl⟩ := List.getElem_of_mem hr
  exact (hrows i hi).1
 obtain rfl : i = 0 := by simpa using hi
 refine ⟨?_, rfl⟩
 show VR (eH w) (.lit sz rows) (.slice (some a) len cap)
 by_cases h0 : rows = []
 ·subst h0
  have : len = 0 := by simp at hrl; omega
  subst this
  exact .lit0 sz (some a) cap (fun h => by cases h)
 have hpos : 0 < rows.length := List.length_pos_iff.2 h0
 have cell : ∀ i j (hi : i < rows.length), j < sz → ((a.add (i * sz)).add j).spot = none ∧ (∃ c, (eH w).H a.block = some c ∧ ∃ v, c[a.off + i * sz + j]? = some v ∧ VR (eH w) (rows[i].getD j .undef) v ∧ v.oneCell' = true) ∧ rows[i].length = sz := by
  intro i j hi hj
  obtain ⟨_, cs', h1, h2⟩ := hrows i hi
  obtain ⟨_, h3, h4⟩ := World.cells?_some h1
  have h5 := h4 j hj
  rw [List.getElem?_eq_getElem (by omega)] at h5
  obtain ⟨h6, c, h7, h8⟩ := eH_cell h5
  rw [addr_block, addr_block] at h7
  rw [addr_off, addr_off] at h8
  have hv := h2.2 j (by omega)
  have hg : cs'.getD j Go.undef = cs'[j]'(by omega) := by rw [List.getD_eq_getElem?_getD, List.getElem?_eq_getElem (show j < cs'.length by omega)]; rfl
  rw [hg] at hv
  exact ⟨h6, ⟨c, h7, _, h8, hv.1, hv.2⟩, by rw [h2.1, h3]⟩
 obtain ⟨hs, ⟨c, hc, _⟩, _⟩ := cell 0 0 hpos hsz0
 have hspot : a.spot = none := by simpa [Addr.add] using hs
 have e : (.slice (some a) len cap : Value) = .slice (some ⟨a.block, a.off, none⟩) rows.length cap := by
  rw [hrl, hlen]
  cases a; simp only at hspot; subst hspot; rfl
 rw [e]
 have get : ∀ i (hi : i < rows.length), rows.getD i [] = rows[i] := fun i hi => by rw [List.getD_eq_getElem?_getD, List.getElem?_eq_getElem hi]; rfl
 have at_ : ∀ i j (hi : i < rows.length), j < sz → ∃ v, c[a.off + i * sz + j]? = some v ∧ VR (eH w) (rows[i].getD j .undef) v ∧ v.oneCell' = true := by
  intro i j hi hj
  obtain ⟨_, ⟨c', h1, h2⟩, _⟩ := cell i j hi hj
  rw [hc] at h1; cases h1
  exact h2
 have gd : ∀ {k : Nat} {v : Value}, c[k]? = some v → c.getD k Go.undef = v := fun h => by rw [Array.getD_eq_getD_getElem?, h]; rfl
 refine .lit sz rows a.block a.off cap c hc (by omega) ?_ (fun i hi => ?_) ?_ (fun i j hi hj => ?_) (fun i j hi hj => ?_)
 ·have := Nat.mul_le_mul_left rows.length (show 1 ≤ B by omega)
  rw [← hrl] at hmost; omega
 ·rw [get i hi]; exact (cell i 0 hi hsz0).2.2
 ·obtain ⟨v, h1, _⟩ := at_ (rows.length - 1) (sz - 1) (by omega) (by omega)
  have := (Array.getElem?_eq_some_iff.1 h1).1
  have h2 : rows.length * sz = (rows.length - 1) * sz + sz := by
   rw [← Nat.succ_mul]; congr 1; omega
  omega
 ·obtain ⟨v, h1, _, h3⟩ := at_ i j hi hj
  rw [gd h1]; exact h3
 ·obtain ⟨v, h1, h2, _⟩ := at_ i j hi hj
  rw [gd h1, get i hi]; exact h2

theorem RowVR.append {e : Env} {r R : List AV} {a b : List Value} (h : RowVR e r a) (h' : RowVR e R b) : RowVR e (r ++ R) (a ++ b) := by
 refine ⟨by rw [List.length_append, List.length_append, h.1, h'.1], fun i hi => ?_⟩
 simp only [List.length_append] at hi
 by_cases hl : i < a.length
 ·rw [List.getD_eq_getElem?_getD, List.getElem?_append_left (by rw [h.1]; exact hl), ← List.getD_eq_getElem?_getD, List.getD_eq_getElem?_getD (l := a ++ b), List.getElem?_append_left hl, ← List.getD_eq_getElem?_getD]
  exact h.2 i hl
 ·rw [List.getD_eq_getElem?_getD, List.getElem?_append_right (by rw [h.1]; omega), ← List.getD_eq_getElem?_getD, List.getD_eq_getElem?_getD (l := a ++ b), List.getElem?_append_right (by omega), ← List.getD_eq_getElem?_getD, h.1]
  exact h'.2 (i - a.length) (by omega)

end
end Go.Av
namespace Go.Proofs.Ytfjbabacpnnjmaa.Av
open Go Go.Av

section
variable {H : Type} {enc : TypeId × Value → H} {w : World} {base : Nat} {spare : Nat → Bool} {held : Bool}
theorem getD_at0 {α : Type} {l : List α} {i : Nat} {d : α} (h : i < l.length) : l.getD i d = l[i] := by simp [List.getD_eq_getElem?_getD, h]
theorem opens_ints : Opens enc Try.prog w base spare held 22 (fun row => ∃ l : List Int, row = [ints l] ∧ l.length * 8 ≤ most) := by
 intro fuel cs d ps h hw
 obtain ⟨row, ⟨rows, rfl, hr, hm⟩, hv⟩ := opens_slice (sz := 1) (B := 8) Try.underlying22 (by kernel_rfl) (by decide) (by kernel_rfl) (by decide) (opens_int Try.underlying3) fuel cs d ps h hw
 obtain ⟨l, hl, hl2⟩ := choose_list (n := rows.length) (Q := fun i n => rows.getD i [] = [I n]) fun i hi => by
  obtain ⟨n, hn⟩ := hr _ (List.getElem_mem hi)
  exact ⟨n, by rw [getD_at0 hi]; exact hn⟩
 have : rows = l.map fun n => [I n] := List.ext_getElem (by simpa using hl.symm) fun i h1 h2 => by
  have := hl2 i (by omega)
  rw [getD_at0 h1] at this
  simpa using this
 subst this
 exact ⟨_, ⟨l, rfl, by simpa using hm⟩, hv⟩

/-- An argument's small value. -/
theorem opens_arg {t : TypeId} {Enc : List AV → Prop} (ho : Opens enc Try.prog w base spare held t Enc) {v : Value} {d : DataW H} {ps : List MemPlace} (h : DataW.Trod enc Try.prog w base spare held t v d ps) (hw : ∀ n ∈ DataW.weights Try.prog t d, n ≤ reachBytes) :
  ∃ row, Enc row ∧ RowVR (eH w) row v.cells.toList := by
 obtain ⟨fuel, hf⟩ := h
 exact ho fuel _ d ps hf hw
end

def σ0 : St := ⟨0, fun _ => none⟩
theorem rel0 (w : World) : Rel w (eH w) σ0 w := by
 refine ⟨Go.RowKit.Below.refl _ _, (fun b x h => by cases h), fun k c h => ?_, (fun b x h => by cases h), (fun b B h => by cases h), (fun b b' B B' x x' h => by cases h)⟩
 simp only [eH] at h
 split at h
 ·rename_i c' t fr hc; cases h; exact ⟨t, fr, hc⟩
 ·cases h
end Go.Proofs.Ytfjbabacpnnjmaa.Av
namespace Go.Proofs.Ytfjbabacpnnjmaa.Av
open Go Go.Av
set_option maxRecDepth 20000
set_option maxHeartbeats 4000000

attribute [local go_sem] step_apply
attribute [local go_sem] instr0 instr1 instr2 instr10 instr11 instr12 instrN instrA instr_len node0 node1 node2 node3 node4 node5 node6 nodeA node_len getD_drop List.length_drop splice List.nil_append List.append_nil cond_true cond_false List.set_cons_zero List.length_set aopq aop ev put_some put_none upd_apply abin asNat bounds row1 mk I ints progA progsA List.length_cons List.length_nil List.length_map List.drop_zero List.drop_succ_cons List.drop_nil List.getD_cons_zero List.getD_cons_succ Option.getD_none Option.getD_some
 List.take_succ_cons List.take_zero List.take_nil true_and and_true Int.toNat_natCast if_true if_false Nat.zero_add Nat.add_zero List.map_cons List.map_nil Nat.reduceEqDiff Nat.left_eq_add Nat.add_eq_left Nat.add_left_cancel_iff Nat.add_assoc Nat.reduceSub Nat.reduceAdd Nat.reduceLeDiff Nat.le_refl Nat.zero_le Nat.zero_lt_one Nat.lt_add_one Int.reduceLT Int.reduceLE Int.reduceToNat Nat.reduceLT Nat.reduceBEq Bool.false_eq_true Nat.reduceBNe ne_eq not_false_eq_true not_true_eq_false false_and and_false reduceIte Int.natCast_nonneg reduceCtorEq parts_agg parts_bool parts_int parts_str parts_lit parts_nils parts_sl parts_ptr Int.natCast_nonneg Int.natCast_nonneg beq_self_eq_true bne_self_eq_false St.push St.set St.kill Bool.true_and Bool.false_and Bool.and_true Bool.and_false Bool.true_or Bool.false_or Bool.or_true Bool.or_false Bool.not_true Bool.not_false


def firstNZ : List Int → Int
 | [] => 0
 | x :: xs => if x = 0 then firstNZ xs else x

theorem firstNZ_take {xs : List Int} {i : Nat} (h : i < xs.length) (h0 : firstNZ (xs.take i) = 0) : firstNZ (xs.take (i + 1)) = xs[i] ∧ (xs[i] ≠ 0 → firstNZ xs = xs[i]) := by
 induction xs generalizing i with
 | nil => simp at h
 | cons x xs ih =>
  cases i with
  | zero =>
   simp only [List.take_zero, List.take_succ_cons, firstNZ, List.getElem_cons_zero, Nat.zero_add]
   constructor
   ·split <;> simp_all
   ·intro hx; rw [if_neg hx]
  | succ i =>
   simp only [List.take_succ_cons, firstNZ, List.getElem_cons_succ] at h0 ⊢
   split at h0
   ·rename_i hx
    rw [if_pos hx, if_pos hx]
    exact ih (by simpa using h) h0
   ·rename_i hx; exact absurd h0 hx

def stepE (p : List Instr) (dev : Int) (n : Nat) : Int :=
 match p[n]? with
 | some i => if formB i = false then 1 else if namedB (p.take n) dev i = false then 23 else 0
 | none => 0
def progE (p : List Instr) (dev : Int) : Int := firstNZ ((List.range p.length).map (stepE p dev))
def rightE (l : List (List Instr)) : Int :=
 if (decide ((l.length : Int) < 1) || decide ((l.length : Int) > 8)) = true then 15 else
 if l.any (fun p => decide ((p.length : Int) > 65536)) = true then 3 else firstNZ (l.map fun p => progE p l.length)

theorem any_take {p : List Instr → Bool} {l : List (List Instr)} {i : Nat} (h : i < l.length) (h0 : (l.take i).any p = false) : (l.take (i + 1)).any p = p l[i] ∧ (p l[i] = true → l.any p = true) := by
 refine ⟨by rw [List.take_add_one, List.any_append, h0]; simp [h], fun hp => List.any_eq_true.2 ⟨_, List.getElem_mem h, hp⟩⟩

/-- parquetryref18.Right -/
theorem refRight_spec (l : List (List Instr)) (σ : St) : T Try.prog 57 [progsA l] σ (I (rightE l)) σ := by
 refine in57 (by simp) fun wf hab => ?_
 obtain ⟨hl, hps⟩ := hab_progs (hab 0 (by simp))
 clear hab
 unfold c57
 refine .seq (.rg fun A hA K hK => ?_)
 simp (maxSteps := 1000000) only [go_sem, hA.nil, hA.go, hA.yes, hA.noT, hA.noF, hA.skp]
 refine hK _ _ ?_; clear hK K hA A
 refine .mid (fun F' σ' => F' 0 = progsA l ∧ (decide ((l.length : Int) < 1) || decide ((l.length : Int) > 8)) = false ∧ σ' = σ) ?_ ?_
 ·repeat' (first | (refine hK _ _ ?_; clear hK K hA A) | (refine hA.cut (by simp (maxSteps := 1000000) only [go_sem, *]; with_reducible rfl) (fun hs => ?_) (fun hs => ?_) <;> simp (maxSteps := 1000000) only [go_sem, hA.nil, hA.go, hA.yes, hA.noT, hA.noF, hA.skp, *]) | (refine .seq (.rg fun A hA K hK => ?_); simp (maxSteps := 1000000) only [go_sem, hA.nil, hA.go, hA.yes, hA.noT, hA.noF, hA.skp, *]) | (refine .seq (.seq (.rg fun A hA K hK => ?_)); simp (maxSteps := 1000000) only [go_sem, hA.nil, hA.go, hA.yes, hA.noT, hA.noF, hA.skp, *]) | (refine .rg fun A hA K hK => ?_; simp (maxSteps := 1000000) only [go_sem, hA.nil, hA.go, hA.yes, hA.noT, hA.noF, hA.skp, *]) | (refine .seq (.rd fun A hA K hK => ?_); simp (maxSteps := 1000000) only [go_sem, hA.nil, hA.go, hA.yes, hA.noT, hA.noF, hA.skp, *]) | (refine .seq (.seq (.rd fun A hA K hK => ?_)); simp (maxSteps := 1000000) only [go_sem, hA.nil, hA.go, hA.yes, hA.noT, hA.noF, hA.skp, *]) | (refine .rd fun A hA K hK => ?_; simp (maxSteps := 1000000) only [go_sem, hA.nil, hA.go, hA.yes, hA.noT, hA.noF, hA.skp, *]) | (refine .cond (t := _) (by simp (maxSteps := 1000000) only [go_sem, *]; with_reducible rfl) (fun hs => ?_) (fun hs => ?_) <;> (first | (cases hs; done) | skip)) | (refine .seq (.cond (t := _) (by simp (maxSteps := 1000000) only [go_sem, *]; with_reducible rfl) (fun hs => ?_) (fun hs => ?_)) <;> (first | (cases hs; done) | skip)) | refine .skip ?_ | refine .seq (.block ?_) | refine .block ?_ | refine .exit ?_ | ((first | exact ⟨by simp only [go_sem, *], by simp only [go_sem, *], by first | rfl | trivial⟩ | exact .ret (ret1 (by simp only [go_sem, rightE, *]) rfl)); done))
 rintro F σ' ⟨h0, hb, rfl⟩
 -- no program is too long
 refine .seq (.seq (.rg fun A hA K hK => ?_))
 simp (maxSteps := 1000000) only [go_sem, hA.nil, hA.go, hA.yes, hA.noT, hA.noF, hA.skp, h0]
 refine hK _ _ ?_; clear hK K hA A
 refine .range (N := l.length) (fun i F s => F 0 = progsA l ∧ F 15 = I l.length ∧ F 16 = I i ∧ s = σ' ∧ (l.take i).any (fun p => decide ((p.length : Int) > 65536)) = false) hl ?_ ?_ ?_ ?_
 ·exact ⟨by simp (maxSteps := 1000000) only [go_sem, h0], by simp (maxSteps := 1000000) only [go_sem], by simp (maxSteps := 1000000) only [go_sem]; try rfl, rfl, by simp⟩
 ·rintro i F s ⟨_, h1, h2, _⟩
  exact ⟨h2, h1⟩
 ·rintro i F s hlt ⟨h0, h15, h16, rfl, hj⟩
  have e1 : (i : Int) < l.length := by omega
  obtain ⟨et, ex⟩ := any_take hlt hj
  refine .seq (.rg fun A hA K hK => ?_)
  simp (maxSteps := 1000000) only [go_sem, hA.nil, hA.go, hA.yes, hA.noT, hA.noF, hA.skp, h0, h15, h16]
  refine hK _ _ ?_; clear hK K hA A
  refine .seq (.rg fun A hA K hK => ?_)
  simp (maxSteps := 1000000) only [go_sem, hA.nil, hA.go, hA.yes, hA.noT, hA.noF, hA.skp, h0, h15, h16, progs_get' hlt, e1]
  refine hK _ _ ?_; clear hK K hA A
  refine .cond (t := _) (by simp (maxSteps := 1000000) only [go_sem]; try rfl) (fun ht => ?_) (fun ht => .skip ?_)
  ·have hw : rightE l = 3 := by
    rw [rightE, if_neg (by rw [hb]; simp), if_pos (ex ht)]
   refine .seq (.rg fun A hA K hK => ?_)
   simp (maxSteps := 1000000) only [go_sem, hA.nil, hA.go, hA.yes, hA.noT, hA.noF, hA.skp]
   refine hK _ _ ?_; clear hK K hA A
   exact .ret (ret1 (by simp (maxSteps := 1000000) only [go_sem, hw]) rfl)
  ·rw [ht] at et
   exact ⟨by simp (maxSteps := 1000000) only [go_sem, h16], by simp (maxSteps := 1000000) only [go_sem, h0], by simp (maxSteps := 1000000) only [go_sem, h15], by simp (maxSteps := 1000000) only [go_sem], rfl, et⟩
 rintro F s ⟨h0, h15, h16, rfl, hlong⟩
 rw [List.take_length] at hlong
 -- each one
 have hright : rightE l = firstNZ (l.map fun p => progE p l.length) := by
  rw [rightE, if_neg (by rw [hb]; simp), if_neg (by rw [hlong]; simp)]
 clear h15 h16
 refine .seq (.seq (.rg fun A hA K hK => ?_))
 simp (maxSteps := 1000000) only [go_sem, hA.nil, hA.go, hA.yes, hA.noT, hA.noF, hA.skp, h0]
 refine hK _ _ ?_; clear hK K hA A
 refine .range (N := l.length) (fun i F s' => F 0 = progsA l ∧ F 27 = I l.length ∧ F 28 = I i ∧ s' = s ∧ firstNZ ((l.map fun p => progE p l.length).take i) = 0) hl ?_ ?_ ?_ ?_
 ·exact ⟨by simp (maxSteps := 1000000) only [go_sem, h0], by simp (maxSteps := 1000000) only [go_sem], by simp (maxSteps := 1000000) only [go_sem]; try rfl, rfl, by simp [firstNZ]⟩
 ·rintro i F s' ⟨_, h1, h2, _⟩
  exact ⟨h2, h1⟩
 ·rintro i F s' hlt ⟨h0, h27, h28, rfl, hj⟩
  have e1 : (i : Int) < l.length := by omega
  obtain ⟨et, ex⟩ := firstNZ_take (by simpa using hlt) hj
  rw [List.getElem_map] at et ex
  refine .seq (.rg fun A hA K hK => ?_)
  simp (maxSteps := 1000000) only [go_sem, hA.nil, hA.go, hA.yes, hA.noT, hA.noF, hA.skp, h0, h27, h28]
  refine hK _ _ ?_; clear hK K hA A
  refine .seq (.rg fun A hA K hK => ?_)
  simp (maxSteps := 1000000) only [go_sem, hA.nil, hA.go, hA.yes, hA.noT, hA.noF, hA.skp, h0, h27, h28, progs_get' hlt, e1]
  refine hK _ _ ?_; clear hK K hA A
  have hp : l[i].length ≤ most := hab_prog (hps _ (List.getElem_mem hlt))
  refine .range (N := l[i].length) (fun n F s => F 0 = progsA l ∧ F 27 = I l.length ∧ F 28 = I i ∧ F 4 = I i ∧ F 35 = I l[i].length ∧ F 36 = I n ∧ s = s' ∧ firstNZ (((List.range l[i].length).map (stepE l[i] l.length)).take n) = 0) hp ?_ ?_ ?_ ?_
  ·exact ⟨by simp (maxSteps := 1000000) only [go_sem, h0], by simp (maxSteps := 1000000) only [go_sem, h27], by simp (maxSteps := 1000000) only [go_sem, h28], by simp (maxSteps := 1000000) only [go_sem], by simp (maxSteps := 1000000) only [go_sem], by simp (maxSteps := 1000000) only [go_sem]; try rfl, rfl, by simp [firstNZ]⟩
  ·rintro n F s ⟨_, _, _, _, h1, h2, _⟩
   exact ⟨h2, h1⟩
  ·rintro n F s hn ⟨h0, h27, h28, h4, h35, h36, rfl, hj2⟩
   have e2 : (n : Int) < l[i].length := by omega
   obtain ⟨et2, ex2⟩ := firstNZ_take (by simpa using hn) hj2
   rw [List.getElem_map, List.getElem_range] at et2 ex2
   have hst : stepE l[i] l.length n = if formB l[i][n] = false then 1 else if namedB (l[i].take n) l.length l[i][n] = false then 23 else 0 := by simp only [stepE, List.getElem?_eq_getElem hn]
   refine .seq (.rg fun A hA K hK => ?_)
   simp (maxSteps := 1000000) only [go_sem, hA.nil, hA.go, hA.yes, hA.noT, hA.noF, hA.skp, h0, h4, h36, h35]
   refine hK _ _ ?_; clear hK K hA A
   refine .seq (.seq (.rg fun A hA K hK => ?_))
   simp (maxSteps := 1000000) only [go_sem, hA.nil, hA.go, hA.yes, hA.noT, hA.noF, hA.skp, h0, h4, h36, h35, progs_get' hlt, prog_get hn, e1, e2]
   refine ⟨_, form_spec _ _, ?_⟩
   simp (maxSteps := 1000000) only [go_sem, hA.nil, hA.go]
   refine hK _ _ ?_; clear hK K hA A
   refine .cond (t := _) (by simp (maxSteps := 1000000) only [go_sem]; try rfl) (fun ht => ?_) (fun ht => .skip ?_)
   ·have hw : rightE l = 1 := by
     have h1 : stepE l[i] l.length n = 1 := by rw [hst, if_pos (by simpa using ht)]
     rw [hright, ex (by rw [progE, ex2 (by rw [h1]; decide), h1]; decide), progE, ex2 (by rw [h1]; decide), h1]
    refine .seq (.rg fun A hA K hK => ?_)
    simp (maxSteps := 1000000) only [go_sem, hA.nil, hA.go, hA.yes, hA.noT, hA.noF, hA.skp]
    refine hK _ _ ?_; clear hK K hA A
    exact .ret (ret1 (by simp (maxSteps := 1000000) only [go_sem, hw]) rfl)
   refine .seq (.rg fun A hA K hK => ?_)
   simp (maxSteps := 1000000) only [go_sem, hA.nil, hA.go, hA.yes, hA.noT, hA.noF, hA.skp, h0, h4, h36, h35, progs_get' hlt, prog_get hn, e1, e2]
   refine ⟨_, named_spec l[i] n l.length hn _, ?_⟩
   simp (maxSteps := 1000000) only [go_sem, hA.nil, hA.go]
   refine hK _ _ ?_; clear hK K hA A
   have hf : ¬ formB l[i][n] = false := by intro h; rw [h] at ht; cases ht
   refine .cond (t := _) (by simp (maxSteps := 1000000) only [go_sem]; try rfl) (fun ht2 => ?_) (fun ht2 => .skip ?_)
   ·have hw : rightE l = 23 := by
     have h1 : stepE l[i] l.length n = 23 := by rw [hst, if_neg hf, if_pos (by simpa using ht2)]
     rw [hright, ex (by rw [progE, ex2 (by rw [h1]; decide), h1]; decide), progE, ex2 (by rw [h1]; decide), h1]
    refine .seq (.rg fun A hA K hK => ?_)
    simp (maxSteps := 1000000) only [go_sem, hA.nil, hA.go, hA.yes, hA.noT, hA.noF, hA.skp]
    refine hK _ _ ?_; clear hK K hA A
    exact .ret (ret1 (by simp (maxSteps := 1000000) only [go_sem, hw]) rfl)
   ·have h1 : stepE l[i] l.length n = 0 := by rw [hst, if_neg hf, if_neg (by intro h; rw [h] at ht2; cases ht2)]
    rw [h1] at et2
    exact ⟨by simp (maxSteps := 1000000) only [go_sem, h36], by simp (maxSteps := 1000000) only [go_sem, h0], by simp (maxSteps := 1000000) only [go_sem, h27], by simp (maxSteps := 1000000) only [go_sem, h28], by simp (maxSteps := 1000000) only [go_sem, h4], by simp (maxSteps := 1000000) only [go_sem, h35], by simp (maxSteps := 1000000) only [go_sem], rfl, et2⟩
  ·rintro F s ⟨h0, h27, h28, h4, h35, h36, rfl, hj2⟩
   rw [List.take_of_length_le (by simp)] at hj2
   rw [show progE l[i] l.length = 0 from hj2] at et
   exact ⟨by simp (maxSteps := 1000000) only [go_sem, h28], by simp (maxSteps := 1000000) only [go_sem, h0], by simp (maxSteps := 1000000) only [go_sem, h27], by simp (maxSteps := 1000000) only [go_sem], rfl, et⟩
 rintro F s' ⟨h0, h27, h28, rfl, hj⟩
 rw [List.take_of_length_le (by simp)] at hj
 refine .seq (.rg fun A hA K hK => ?_)
 simp (maxSteps := 1000000) only [go_sem, hA.nil, hA.go, hA.yes, hA.noT, hA.noF, hA.skp]
 refine hK _ _ ?_; clear hK K hA A
 exact .ret (ret1 (by simp (maxSteps := 1000000) only [go_sem, hright, hj]) rfl)

end Go.Proofs.Ytfjbabacpnnjmaa.Av
