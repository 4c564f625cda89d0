/- A logic of small values, and walks in it: Counting loops. The functions that read programs: what they come to. ref18.Right: one number for programs. ref18.Pairs. code.shaped: what an instruction is to be. -/
import Derived.Test.YtfjbabacpnnjmaaAv4
set_option linter.unusedVariables false
set_option linter.unusedSimpArgs false
set_option linter.deprecated false
namespace Go.Av

section
variable {P : Program} {n0 : Nat} {Q : Exit → Fr → St → Prop} {F : Fr} {σ : St}

/-- What the body of a counting loop is to bring about. 'id': the loop's end, 'id2': the next round. -/
def roundQ (id id2 ti tx i : Nat) (J : Nat → Fr → St → Prop) (Q : Exit → Fr → St → Prop) : Exit → Fr → St → Prop
  | .normal, F, σ => F ti = .int .i64 i ∧ J (i + 1) (upd (upd F tx (.int .i64 ((i + 1 : Nat) : Int))) ti (.int .i64 ((i + 1 : Nat) : Int))) σ
  | .exit k, F, σ => if k = id2 then F ti = .int .i64 i ∧ J (i + 1) (upd (upd F tx (.int .i64 ((i + 1 : Nat) : Int))) ti (.int .i64 ((i + 1 : Nat) : Int))) σ else if k = id then Q .normal F σ else Q (.exit k) F σ
  | ex, F, σ => Q ex F σ

theorem wrap_succ {i : Nat} (h : i < most) : IntKind.i64.wrap (i + 1) = ((i + 1 : Nat) : Int) := by
  rw [IntWalk.i64_in _ (by simp only [most] at h; omega)]; rfl

theorem SWP.range {id id2 t ti tn tx N : Nat} {body : C} (J : Nat → Fr → St → Prop) (hN : N ≤ most) (h0 : J 0 F σ) (hF : ∀ i F σ, J i F σ → F ti = .int .i64 i ∧ F tn = .int .i64 N)
    (hstep : ∀ i F σ, i < N → J i F σ → SWP P n0 body (roundQ id id2 ti tx i J Q) (upd F t (.bool true)) σ)
    (hend : ∀ F σ, J N F σ → Q .normal (upd F t (.bool false)) σ) :
    SWP P n0 (.block id (.loop (.seq (.reg [⟨some t, none, .bin .lss 0 (.t ti) (.t tn)⟩]) (.seq (.cond (.t t) .skip (.exit id))
      (.seq (.block id2 body) (.reg [⟨some tx, none, .bin .add 0 (.t ti) (.k (.int .i64 1))⟩, ⟨some ti, none, .mv (.t tx)⟩])))))) Q F σ := by
  refine .block (.loop (fun m F σ => ∃ i, i ≤ N ∧ m = N - i ∧ J i F σ) N ⟨0, Nat.zero_le _, by simp, h0⟩ ?_)
  rintro m F σ ⟨i, hi, rfl, hJ⟩
  obtain ⟨hi1, hi2⟩ := hF i F σ hJ
  refine .seq (.reg ?_)
  simp only [aops, aopq, aop, ev, hi1, hi2, abin, put, true_and]
  refine .seq (.cond (t := decide ((i : Int) < N)) (by simp [ev, upd]) (fun ht => .skip ?_) (fun ht => .exit ?_))
  · have hlt : i < N := by simpa using ht
    rw [show decide ((i : Int) < N) = true from ht]
    refine .seq (.block ?_)
    refine (hstep i F σ hlt hJ).mono fun ex F' σ' hq => ?_
    have key : (F' ti = .int .i64 i ∧ J (i + 1) (upd (upd F' tx (.int .i64 ((i + 1 : Nat) : Int))) ti (.int .i64 ((i + 1 : Nat) : Int))) σ') → SWP P n0 (.reg [⟨some tx, none, .bin .add 0 (.t ti) (.k (.int .i64 1))⟩, ⟨some ti, none, .mv (.t tx)⟩])
        (thenQ (fun F σ => ∃ m, m < N - i ∧ ∃ i, i ≤ N ∧ m = N - i ∧ J i F σ) (blockQ id Q)) F' σ' := by
      rintro ⟨h1, h2⟩
      refine .reg ?_
      simp only [aops, aopq, aop, ev, h1, abin, put, true_and]
      refine ⟨N - (i + 1), by omega, i + 1, by omega, rfl, ?_⟩
      rw [wrap_succ (by omega)]
      have e : upd F' tx (.int .i64 ((i + 1 : Nat) : Int)) tx = .int .i64 ((i + 1 : Nat) : Int) := by simp [upd]
      rw [e]; exact h2
    cases ex with
    | normal => exact key hq
    | exit k =>
      simp only [roundQ] at hq
      simp only [blockQ]
      split
      · rename_i h; rw [if_pos h] at hq; exact key hq
      · rename_i h; rw [if_neg h] at hq
        split at hq
        · rename_i h'; subst h'
          show blockQ k Q (.exit k) F' σ'
          simp only [blockQ, if_true]; exact hq
        · rename_i h'
          show blockQ id Q (.exit k) F' σ'
          simp only [blockQ]; rw [if_neg h']; exact hq
    | _ => exact hq
  · have : i = N := by have := of_decide_eq_false ht; omega
    subst this
    rw [show decide ((i : Int) < i) = false from ht]
    show blockQ id Q (.exit id) _ _
    simp only [blockQ, if_true]
    exact hend F σ hJ

/-- The same for a loop whose head is anything that turns out as 'i < N'. -/
theorem SWP.count {id id2 t ti ta tx N : Nat} {hd body : C} (J : Nat → Fr → St → Prop) (hN : N ≤ most) (h0 : J 0 F σ)
    (hhd : ∀ i F σ, i ≤ N → J i F σ → SWP P n0 hd (fun ex F' σ' => ex = .normal ∧ F' t = .bool (decide (i < N)) ∧ J i F' σ') F σ)
    (hstep : ∀ i F σ, i < N → J i F σ → F t = .bool true → SWP P n0 body (fun ex F' σ' => match ex with
      | .normal => F' ti = .int .i64 i ∧ J (i + 1) (upd (upd (upd F' ta (.int .i64 i)) tx (.int .i64 ((i + 1 : Nat) : Int))) ti (.int .i64 ((i + 1 : Nat) : Int))) σ'
      | .exit k => if k = id2 then F' ti = .int .i64 i ∧ J (i + 1) (upd (upd (upd F' ta (.int .i64 i)) tx (.int .i64 ((i + 1 : Nat) : Int))) ti (.int .i64 ((i + 1 : Nat) : Int))) σ' else if k = id then Q .normal F' σ' else Q (.exit k) F' σ'
      | ex => Q ex F' σ') F σ)
    (hend : ∀ F σ, J N F σ → F t = .bool false → Q .normal F σ) :
    SWP P n0 (.block id (.loop (.seq (.seq hd (.cond (.t t) .skip (.exit id)))
      (.seq (.block id2 body) (.reg [⟨some ta, none, .mv (.t ti)⟩, ⟨some tx, none, .bin .add 0 (.t ta) (.k (.int .i64 1))⟩, ⟨some ti, none, .mv (.t tx)⟩]))))) Q F σ := by
  refine .block (.loop (fun m F σ => ∃ i, i ≤ N ∧ m = N - i ∧ J i F σ) N ⟨0, Nat.zero_le _, by simp, h0⟩ ?_)
  rintro m F σ ⟨i, hi, rfl, hJ⟩
  refine .seq (.seq ((hhd i F σ hi hJ).mono ?_))
  rintro ex F1 σ1 ⟨rfl, ht1, hJ1⟩
  refine .cond (t := decide (i < N)) ht1 (fun ht => .skip ?_) (fun ht => .exit ?_)
  · have hlt : i < N := by simpa using ht
    refine .seq (.block ?_)
    refine (hstep i F1 σ1 hlt hJ1 (by rw [ht1, ht])).mono fun ex F' σ' hq => ?_
    have key : (F' ti = .int .i64 i ∧ J (i + 1) (upd (upd (upd F' ta (.int .i64 i)) tx (.int .i64 ((i + 1 : Nat) : Int))) ti (.int .i64 ((i + 1 : Nat) : Int))) σ') → SWP P n0 (.reg [⟨some ta, none, .mv (.t ti)⟩, ⟨some tx, none, .bin .add 0 (.t ta) (.k (.int .i64 1))⟩, ⟨some ti, none, .mv (.t tx)⟩])
        (thenQ (fun F σ => ∃ m, m < N - i ∧ ∃ i, i ≤ N ∧ m = N - i ∧ J i F σ) (blockQ id Q)) F' σ' := by
      rintro ⟨h1, h2⟩
      have e0 : upd F' ta (.int .i64 i) ta = .int .i64 i := by simp [upd]
      have e : upd (upd F' ta (.int .i64 i)) tx (.int .i64 ((i + 1 : Nat) : Int)) tx = .int .i64 ((i + 1 : Nat) : Int) := by simp [upd]
      refine .reg ?_
      simp only [aops, aopq, aop, ev, h1, abin, put, true_and, e0, wrap_succ (show i < most by omega)]
      refine ⟨N - (i + 1), by omega, i + 1, by omega, rfl, ?_⟩
      rw [e]; exact h2
    cases ex with
    | normal => exact key hq
    | exit k =>
      simp only at hq
      simp only [blockQ]
      split
      · rename_i h; rw [if_pos h] at hq; exact key hq
      · rename_i h; rw [if_neg h] at hq
        split at hq
        · rename_i h'; subst h'
          show blockQ k Q (.exit k) F' σ'
          simp only [blockQ, if_true]; exact hq
        · rename_i h'
          show blockQ id Q (.exit k) F' σ'
          simp only [blockQ]; rw [if_neg h']; exact hq
    | _ => exact hq
  · have hn : i = N := by have := of_decide_eq_false ht; omega
    subst hn
    show blockQ id Q (.exit id) _ _
    simp only [blockQ, if_true]
    exact hend F1 σ1 hJ1 (by rw [ht1, ht])
end
end Go.Av

namespace Go.Proofs.Ytfjbabacpnnjmaa.Av
open Go Go.Av

set_option maxRecDepth 20000
set_option maxHeartbeats 4000000

section ret
variable {n0 : Nat} {F : Fr} {σ σ0 : St}
theorem ret1 {n : Nat} {v : AV} (h : F n = v) (hs : σ = σ0) : retQ n0 [.t n] (fun v' s' => v' = v ∧ s' = σ0) .ret F σ :=
  ⟨[v], by simp [resOne, h], v, σ, .refl _ _ _, rfl, hs⟩
theorem ret1n {n : Nat} {v : AV} (h : F n = v) (hs : σ = σ0) : retQ n0 [.t n] (fun v' s' => v' = v ∧ s' = σ0) .normal F σ :=
  ⟨[v], by simp [resOne, h], v, σ, .refl _ _ _, rfl, hs⟩
theorem ret1b {n : Nat} {v : AV} (h : F n = v) (wf : σ0.Wf) (hs : ∀ b, b < σ0.next → σ.blk b = σ0.blk b) (hv : v.Lt σ0.next) : retQ σ0.next [.t n] (fun v' s' => v' = v ∧ s' = σ0) .ret F σ :=
  ⟨[v], by simp [resOne, h], v, σ0, .back rfl wf hs hv, rfl, rfl⟩
end ret

abbrev I (n : Int) : AV := .int .i64 n
def ints (l : List Int) : AV := .lit 1 (l.map fun n => [I n])

structure Node where
  op : Int
  ins : List Int
  shape : List Int
  a : List Int
  n : Int
  how : Int
  note : ByteArray
structure Instr where
  kind : Int
  out : Int
  ins : List Int
  node : Node
  n : Int
  dev : Int
  tag : Int

def nodeL (x : Node) : List AV := [I x.op, ints x.ins, ints x.shape, ints x.a, I x.n, I x.how, .str x.note]
def instrL (x : Instr) : List AV := [I x.kind, I x.out, ints x.ins, I x.node.op, ints x.node.ins, ints x.node.shape, ints x.node.a, I x.node.n, I x.node.how, .str x.node.note, I x.n, I x.dev, I x.tag]
def progA (p : List Instr) : AV := .lit 13 (p.map instrL)
def progsA (l : List (List Instr)) : AV := .lit 1 (l.map fun p => [progA p])

theorem ints_get {l : List Int} {i : Nat} (h : i < l.length) : (l.map fun n => [I n]).getD i [] = [I l[i]] := by simp [h]
theorem prog_get {l : List Instr} {i : Nat} (h : i < l.length) : (l.map instrL).getD i [] = instrL l[i] := by simp [h]
theorem progs_get {l : List (List Instr)} {i : Nat} (h : i < l.length) : (l.map fun p => [progA p]).getD i [] = [progA l[i]] := by simp [h]

theorem progs_get' {l : List (List Instr)} {i : Nat} (h : i < l.length) : (l.map fun p => [AV.lit 13 (p.map instrL)]).getD i [] = [progA l[i]] := by simp [h, progA]

theorem hab_ints {l : List Int} (h : Hab (ints l)) : l.length ≤ most := by simpa using h.lit.1
theorem hab_prog {p : List Instr} (h : Hab (progA p)) : p.length ≤ most := by simpa using h.lit.1
theorem hab_progs {l : List (List Instr)} (h : Hab (progsA l)) : l.length ≤ most ∧ ∀ p ∈ l, Hab (progA p) := by
  refine ⟨by simpa using h.lit.1, fun p hp => ?_⟩
  obtain ⟨i, hi, rfl⟩ := List.getElem_of_mem hp
  have := h.lit.2.2 i 0 (by simpa using hi) (by simp)
  rwa [progs_get hi] at this

theorem parts_agg (cs : List AV) : (AV.agg cs).parts = true := rfl
theorem parts_bool (b : Bool) : (AV.bool b).parts = true := rfl
theorem parts_int (k : IntKind) (b : Int) : (AV.int k b).parts = true := rfl
theorem parts_str (b : ByteArray) : (AV.str b).parts = true := rfl
theorem parts_lit (n : Nat) (b : List (List AV)) : (AV.lit n b).parts = true := rfl
theorem parts_nils : (AV.nils).parts = true := rfl
theorem parts_sl (b o n : Nat) : (AV.sl b o n).parts = true := rfl
theorem parts_ptr (b o n : Nat) : (AV.ptr b o n).parts = true := rfl
theorem instr0 (i : Instr) : (instrL i).getD 0 .undef = I i.kind := rfl
theorem instr1 (i : Instr) : (instrL i).getD 1 .undef = I i.out := rfl
theorem instr2 (i : Instr) : (instrL i).getD 2 .undef = ints i.ins := rfl
theorem instr10 (i : Instr) : (instrL i).getD 10 .undef = I i.n := rfl
theorem instr11 (i : Instr) : (instrL i).getD 11 .undef = I i.dev := rfl
theorem instr12 (i : Instr) : (instrL i).getD 12 .undef = I i.tag := rfl
theorem instrN (i : Instr) : ((instrL i).drop 3).take 7 = nodeL i.node := rfl
theorem instrA (i : Instr) : (instrL i).take 13 = instrL i := rfl
theorem instr_len (i : Instr) : (instrL i).length = 13 := rfl
theorem node0 (x : Node) : (nodeL x).getD 0 .undef = I x.op := rfl
theorem node1 (x : Node) : (nodeL x).getD 1 .undef = ints x.ins := rfl
theorem node2 (x : Node) : (nodeL x).getD 2 .undef = ints x.shape := rfl
theorem node3 (x : Node) : (nodeL x).getD 3 .undef = ints x.a := rfl
theorem node4 (x : Node) : (nodeL x).getD 4 .undef = I x.n := rfl
theorem node5 (x : Node) : (nodeL x).getD 5 .undef = I x.how := rfl
theorem node6 (x : Node) : (nodeL x).getD 6 .undef = .str x.note := rfl
theorem nodeA (x : Node) : (nodeL x).take 7 = nodeL x := rfl
theorem node_len (x : Node) : (nodeL x).length = 7 := rfl
theorem getD_drop (l : List AV) (k j : Nat) : (l.drop k).getD j .undef = l.getD (k + j) .undef := by simp [List.getD_eq_getElem?_getD]

attribute [local go_sem] step_apply
attribute [local go_sem] instr0 instr1 instr2 instr10 instr11 instr12 instrN instrA instr_len node0 node1 node2 node3 node4 node5 node6 nodeA node_len getD_drop List.length_drop splice List.nil_append List.append_nil cond_true cond_false List.set_cons_zero List.length_set aopq aop ev put_some put_none upd_apply abin asNat bounds row1 mk I ints progA progsA List.length_cons List.length_nil List.length_map List.drop_zero List.drop_succ_cons List.drop_nil List.getD_cons_zero List.getD_cons_succ Option.getD_none Option.getD_some
  List.take_succ_cons List.take_zero List.take_nil true_and and_true Int.toNat_natCast if_true if_false Nat.zero_add Nat.add_zero List.map_cons List.map_nil Nat.reduceEqDiff Nat.reduceSub Nat.reduceAdd Nat.reduceLeDiff Nat.le_refl Nat.zero_le Nat.zero_lt_one Nat.lt_add_one Int.reduceLT Int.reduceLE Int.reduceToNat Nat.reduceLT Nat.reduceBEq Bool.false_eq_true Nat.reduceBNe ne_eq not_false_eq_true not_true_eq_false false_and and_false reduceIte Int.natCast_nonneg reduceCtorEq parts_agg parts_bool parts_int parts_str parts_lit parts_nils parts_sl parts_ptr Int.natCast_nonneg Int.natCast_nonneg beq_self_eq_true bne_self_eq_false St.push St.set St.kill Bool.true_and Bool.false_and Bool.and_true Bool.and_false Bool.true_or Bool.false_or Bool.or_true Bool.or_false Bool.not_true Bool.not_false

/-- parquetryref1.Ints -/
theorem ints_spec (a b : List Int) (σ : St) : T Try.prog 63 [ints a, ints b] σ (.bool (a == b)) σ := by
  refine in63 (by simp) fun wf hab => ?_
  have ha := hab_ints (hab 0 (by simp))
  unfold c63
  first | refine .seq (.rg fun A hA K hK => ?_) | refine .seq (.seq (.rg fun A hA K hK => ?_)) | refine .rg fun A hA K hK => ?_ | refine .seq (.rd fun A hA K hK => ?_) | refine .seq (.seq (.rd fun A hA K hK => ?_)) | refine .rd fun A hA K hK => ?_
  simp (maxSteps := 1000000) only [go_sem, hA.nil, hA.go, hA.yes, hA.noT, hA.noF, hA.skp]
  refine hK _ _ ?_; clear hK K hA A
  first | refine .seq (.rg fun A hA K hK => ?_) | refine .seq (.seq (.rg fun A hA K hK => ?_)) | refine .rg fun A hA K hK => ?_ | refine .seq (.rd fun A hA K hK => ?_) | refine .seq (.seq (.rd fun A hA K hK => ?_)) | refine .rd fun A hA K hK => ?_
  simp (maxSteps := 1000000) only [go_sem, hA.nil, hA.go, hA.yes, hA.noT, hA.noF, hA.skp]
  refine hK _ _ ?_; clear hK K hA A
  refine .cond (t := _) (by simp (maxSteps := 1000000) only [go_sem]; try rfl) (fun ht => ?_) (fun ht => .skip ?_)
  · first | refine .seq (.rg fun A hA K hK => ?_) | refine .seq (.seq (.rg fun A hA K hK => ?_)) | refine .rg fun A hA K hK => ?_ | refine .seq (.rd fun A hA K hK => ?_) | refine .seq (.seq (.rd fun A hA K hK => ?_)) | refine .rd fun A hA K hK => ?_
    simp (maxSteps := 1000000) only [go_sem, hA.nil, hA.go, hA.yes, hA.noT, hA.noF, hA.skp]
    refine hK _ _ ?_; clear hK K hA A
    refine .ret (ret1 (by simp (maxSteps := 1000000) only [go_sem]; simp; rintro rfl; simp at ht) rfl)
  have hl : a.length = b.length := by simp at ht; omega
  first | refine .seq (.rg fun A hA K hK => ?_) | refine .seq (.seq (.rg fun A hA K hK => ?_)) | refine .rg fun A hA K hK => ?_ | refine .seq (.rd fun A hA K hK => ?_) | refine .seq (.seq (.rd fun A hA K hK => ?_)) | refine .rd fun A hA K hK => ?_
  simp (maxSteps := 1000000) only [go_sem, hA.nil, hA.go, hA.yes, hA.noT, hA.noF, hA.skp]
  refine hK _ _ ?_; clear hK K hA A
  refine .count (N := a.length) (fun i F σ' => F 0 = ints a ∧ F 1 = ints b ∧ F 5 = I i ∧ σ' = σ ∧ ∀ j, j < i → a.getD j 0 = b.getD j 0) ha ?_ ?_ ?_ ?_
  · refine ⟨by simp (maxSteps := 1000000) only [go_sem], by simp (maxSteps := 1000000) only [go_sem], by simp (maxSteps := 1000000) only [go_sem]; try rfl, rfl, by simp⟩
  · rintro i F σ' hi ⟨hF0, hF1, hF5, rfl, hj⟩
    first | refine .seq (.rg fun A hA K hK => ?_) | refine .seq (.seq (.rg fun A hA K hK => ?_)) | refine .rg fun A hA K hK => ?_ | refine .seq (.rd fun A hA K hK => ?_) | refine .seq (.seq (.rd fun A hA K hK => ?_)) | refine .rd fun A hA K hK => ?_
    simp (maxSteps := 1000000) only [go_sem, hA.nil, hA.go, hA.yes, hA.noT, hA.noF, hA.skp, hF0, hF1, hF5]
    refine hK _ _ ?_; clear hK K hA A
    exact ⟨rfl, by simp (maxSteps := 1000000) only [go_sem, Int.ofNat_lt], by simp (maxSteps := 1000000) only [go_sem, hF0], by simp (maxSteps := 1000000) only [go_sem, hF1], by simp (maxSteps := 1000000) only [go_sem, hF5], rfl, hj⟩
  · rintro i F σ' hlt ⟨hF0, hF1, hF5, rfl, hj⟩ -
    have hlt' : i < b.length := by omega
    have e1 : (i : Int) < a.length := by omega
    have e2 : (i : Int) < b.length := by omega
    first | refine .seq (.rg fun A hA K hK => ?_) | refine .seq (.seq (.rg fun A hA K hK => ?_)) | refine .rg fun A hA K hK => ?_ | refine .seq (.rd fun A hA K hK => ?_) | refine .seq (.seq (.rd fun A hA K hK => ?_)) | refine .rd fun A hA K hK => ?_
    simp (maxSteps := 1000000) only [go_sem, hA.nil, hA.go, hA.yes, hA.noT, hA.noF, hA.skp, hF0, hF1, hF5, ints_get hlt, ints_get hlt', e1, e2]
    refine hK _ _ ?_; clear hK K hA A
    refine .cond (t := _) (by simp (maxSteps := 1000000) only [go_sem]; try rfl)  (fun ht => ?_) (fun ht => .skip ?_)
    · have hne : (a == b) = false := by
        simp only [beq_eq_false_iff_ne]; rintro rfl; simp at ht
      first | refine .seq (.rg fun A hA K hK => ?_) | refine .seq (.seq (.rg fun A hA K hK => ?_)) | refine .rg fun A hA K hK => ?_ | refine .seq (.rd fun A hA K hK => ?_) | refine .seq (.seq (.rd fun A hA K hK => ?_)) | refine .rd fun A hA K hK => ?_
      simp (maxSteps := 1000000) only [go_sem, hA.nil, hA.go, hA.yes, hA.noT, hA.noF, hA.skp]
      refine hK _ _ ?_; clear hK K hA A
      refine .ret (ret1 (by simp (maxSteps := 1000000) only [go_sem, hne]) rfl)
    · refine ⟨by simp (maxSteps := 1000000) only [go_sem, hF5], by simp (maxSteps := 1000000) only [go_sem, hF0], by simp (maxSteps := 1000000) only [go_sem, hF1], by simp (maxSteps := 1000000) only [go_sem, hF5], rfl, fun j h => ?_⟩
      rcases Nat.lt_succ_iff_lt_or_eq.1 h with h | rfl
      · exact hj j h
      · simp at ht; simp [List.getD_eq_getElem?_getD, hlt, hlt', ht]
  · rintro F σ' ⟨hF0, hF1, hF5, rfl, hj⟩ -
    have he : (a == b) = true := by
      simp only [beq_iff_eq]
      refine List.ext_getElem hl fun j h1 h2 => ?_
      have := hj j h1
      simpa [List.getD_eq_getElem?_getD, h1, h2] using this
    first | refine .seq (.rg fun A hA K hK => ?_) | refine .seq (.seq (.rg fun A hA K hK => ?_)) | refine .rg fun A hA K hK => ?_ | refine .seq (.rd fun A hA K hK => ?_) | refine .seq (.seq (.rd fun A hA K hK => ?_)) | refine .rd fun A hA K hK => ?_
    simp (maxSteps := 1000000) only [go_sem, hA.nil, hA.go, hA.yes, hA.noT, hA.noF, hA.skp]
    refine hK _ _ ?_; clear hK K hA A
    refine .ret (ret1 (by simp (maxSteps := 1000000) only [go_sem, he]) rfl)

def bareB (x : Node) : Bool := x.op == 0 && (((x.ins.length + x.shape.length + x.a.length : Nat) : Int) == 0 && (x.n == 0 && (x.how == 0 && x.note.toList == (⟨#[]⟩ : ByteArray).toList)))

theorem wrap_nat {n : Nat} (h : n < 2 ^ 62) : IntKind.i64.wrap n = n := IntWalk.i64_in _ (by omega)

theorem hab_node {x : Node} (h : Hab (.agg (nodeL x))) : x.ins.length ≤ most ∧ x.shape.length ≤ most ∧ x.a.length ≤ most :=
  ⟨hab_ints (h.agg 1 (by simp [nodeL])), hab_ints (h.agg 2 (by simp [nodeL])), hab_ints (h.agg 3 (by simp [nodeL]))⟩

/-- parquetryref18.bare -/
theorem bare_spec (x : Node) (σ : St) : T Try.prog 124 [.agg (nodeL x)] σ (.bool (bareB x)) σ := by
  refine in124 (by simp) fun wf hab => ?_
  have hx := hab_node (hab 0 (by simp))
  have e1 : IntKind.i64.wrap ((x.ins.length : Int) + x.shape.length) = ((x.ins.length + x.shape.length : Nat) : Int) := by rw [← wrap_nat (n := x.ins.length + x.shape.length) (by simp only [most] at hx; omega)]; simp
  have e2 : IntKind.i64.wrap (((x.ins.length + x.shape.length : Nat) : Int) + x.a.length) = ((x.ins.length + x.shape.length + x.a.length : Nat) : Int) := by rw [← wrap_nat (n := x.ins.length + x.shape.length + x.a.length) (by simp only [most] at hx; omega)]; simp
  unfold c124
  clear hab
  first | refine .seq (.rg fun A hA K hK => ?_) | refine .seq (.seq (.rg fun A hA K hK => ?_)) | refine .rg fun A hA K hK => ?_ | refine .seq (.rd fun A hA K hK => ?_) | refine .seq (.seq (.rd fun A hA K hK => ?_)) | refine .rd fun A hA K hK => ?_
  simp (maxSteps := 1000000) only [go_sem, hA.nil, hA.go, hA.yes, hA.noT, hA.noF, hA.skp]
  refine hK _ _ ?_; clear hK K hA A
  refine .mid (fun F' σ' => F' 2 = .bool (bareB x) ∧ ∀ b, b < σ.next → σ'.blk b = σ.blk b) ?_ ?_
  · first | refine .seq (.rg fun A hA K hK => ?_) | refine .seq (.seq (.rg fun A hA K hK => ?_)) | refine .rg fun A hA K hK => ?_ | refine .seq (.rd fun A hA K hK => ?_) | refine .seq (.seq (.rd fun A hA K hK => ?_)) | refine .rd fun A hA K hK => ?_
    simp (maxSteps := 1000000) only [go_sem, hA.nil, hA.go, hA.yes, hA.noT, hA.noF, hA.skp, e1, e2]
    repeat' (first | (refine hK _ _ ?_; (refine ⟨by simp only [go_sem, bareB, *], fun b hb => ?_⟩; simp; intro h; omega); done) | (refine hA.cut (by simp (maxSteps := 1000000) only [go_sem]; with_reducible rfl) (fun hs => ?_) (fun hs => ?_) <;> simp (maxSteps := 1000000) only [go_sem, hA.nil, hA.go, hA.yes, hA.noT, hA.noF, hA.skp, *]))
  · rintro F' σ' ⟨h1, h2⟩
    exact .ret (ret1b h1 wf h2 (.bool _))

def formB (i : Instr) : Bool :=
  cond (i.kind == 1) ((i.ins.length : Int) == 0 && (bareB i.node && (i.dev == 0 && i.tag == 0)))
    (cond (i.kind == 2) (i.n == 0 && (i.dev == 0 && i.tag == 0))
      (cond (i.kind == 3) (i.out == 0 && ((i.ins.length : Int) == 1 && (bareB i.node && i.n == 0)))
        (cond (i.kind == 4) ((i.ins.length : Int) == 0 && (bareB i.node && i.n == 0)) false)))

/-- parquetryref18.form -/
theorem form_spec (i : Instr) (σ : St) : T Try.prog 98 [.agg (instrL i)] σ (.bool (formB i)) σ := by
  refine in98 (by simp) fun wf hab => ?_
  clear hab
  unfold c98
  repeat' (first | (refine hK _ _ ?_; clear hK K hA A) | (refine ⟨_, bare_spec i.node _, ?_⟩; try simp (maxSteps := 1000000) only [go_sem, hA.nil, hA.go, hA.yes, hA.noT, hA.noF, hA.skp, *]) | (refine hA.cut (by simp (maxSteps := 1000000) only [go_sem, *]; with_reducible rfl) (fun hs => ?_) (fun hs => ?_) <;> simp (maxSteps := 1000000) only [go_sem, hA.nil, hA.go, hA.yes, hA.noT, hA.noF, hA.skp, *]) | (refine .seq (.rg fun A hA K hK => ?_); simp (maxSteps := 1000000) only [go_sem, hA.nil, hA.go, hA.yes, hA.noT, hA.noF, hA.skp, *]) | (refine .seq (.seq (.rg fun A hA K hK => ?_)); simp (maxSteps := 1000000) only [go_sem, hA.nil, hA.go, hA.yes, hA.noT, hA.noF, hA.skp, *]) | (refine .rg fun A hA K hK => ?_; simp (maxSteps := 1000000) only [go_sem, hA.nil, hA.go, hA.yes, hA.noT, hA.noF, hA.skp, *]) | (refine .seq (.rd fun A hA K hK => ?_); simp (maxSteps := 1000000) only [go_sem, hA.nil, hA.go, hA.yes, hA.noT, hA.noF, hA.skp, *]) | (refine .seq (.seq (.rd fun A hA K hK => ?_)); simp (maxSteps := 1000000) only [go_sem, hA.nil, hA.go, hA.yes, hA.noT, hA.noF, hA.skp, *]) | (refine .rd fun A hA K hK => ?_; simp (maxSteps := 1000000) only [go_sem, hA.nil, hA.go, hA.yes, hA.noT, hA.noF, hA.skp, *]) | (refine .cond (t := _) (by simp (maxSteps := 1000000) only [go_sem, *]; with_reducible rfl) (fun hs => ?_) (fun hs => ?_) <;> (first | (cases hs; done) | skip)) | (refine .seq (.cond (t := _) (by simp (maxSteps := 1000000) only [go_sem, *]; with_reducible rfl) (fun hs => ?_) (fun hs => ?_)) <;> (first | (cases hs; done) | skip)) | refine .skip ?_ | refine .seq (.block ?_) | refine .block ?_ | refine .exit ?_ | ((refine .ret (ret1b (by simp only [go_sem, formB, *]) wf (fun b hb => by simp; intro h; omega) (.bool _))); done))

def regsOf (p : List Instr) : List Int := (p.filter fun i => i.kind != 3).map (·.out)
def wrote (p : List Instr) (r : Int) : Bool := p.any fun i => i.kind != 3 && i.out == r

/-- parquetryref18.written -/
theorem written_spec (p : List Instr) (n : Nat) (r : Int) (hn : n ≤ p.length) (σ : St) : T Try.prog 125 [progA p, I n, I r] σ (.bool (wrote (p.take n) r)) σ := by
  refine in125 (by simp) fun wf hab => ?_
  have hp := hab_prog (hab 0 (by simp))
  clear hab
  unfold c125
  first | refine .seq (.rg fun A hA K hK => ?_) | refine .seq (.seq (.rg fun A hA K hK => ?_)) | refine .rg fun A hA K hK => ?_ | refine .seq (.rd fun A hA K hK => ?_) | refine .seq (.seq (.rd fun A hA K hK => ?_)) | refine .rd fun A hA K hK => ?_
  simp (maxSteps := 1000000) only [go_sem, hA.nil, hA.go, hA.yes, hA.noT, hA.noF, hA.skp]
  refine hK _ _ ?_; clear hK K hA A
  first | refine .seq (.rg fun A hA K hK => ?_) | refine .seq (.seq (.rg fun A hA K hK => ?_)) | refine .rg fun A hA K hK => ?_ | refine .seq (.rd fun A hA K hK => ?_) | refine .seq (.seq (.rd fun A hA K hK => ?_)) | refine .rd fun A hA K hK => ?_
  simp (maxSteps := 1000000) only [go_sem, hA.nil, hA.go, hA.yes, hA.noT, hA.noF, hA.skp]
  refine hK _ _ ?_; clear hK K hA A
  refine .count (N := n) (fun i F σ' => F 0 = progA p ∧ F 1 = I n ∧ F 2 = I r ∧ F 7 = I i ∧ σ' = σ ∧ wrote (p.take i) r = false) (by omega) ?_ ?_ ?_ ?_
  · refine ⟨by simp (maxSteps := 1000000) only [go_sem], by simp (maxSteps := 1000000) only [go_sem], by simp (maxSteps := 1000000) only [go_sem], by simp (maxSteps := 1000000) only [go_sem]; try rfl, rfl, by simp [wrote]⟩
  · rintro i F σ' hi ⟨hF0, hF1, hF2, hF7, rfl, hj⟩
    first | refine .seq (.rg fun A hA K hK => ?_) | refine .seq (.seq (.rg fun A hA K hK => ?_)) | refine .rg fun A hA K hK => ?_ | refine .seq (.rd fun A hA K hK => ?_) | refine .seq (.seq (.rd fun A hA K hK => ?_)) | refine .rd fun A hA K hK => ?_
    simp (maxSteps := 1000000) only [go_sem, hA.nil, hA.go, hA.yes, hA.noT, hA.noF, hA.skp, hF0, hF1, hF7]
    refine hK _ _ ?_; clear hK K hA A
    exact ⟨rfl, by simp (maxSteps := 1000000) only [go_sem, Int.ofNat_lt], by simp (maxSteps := 1000000) only [go_sem, hF0], by simp (maxSteps := 1000000) only [go_sem, hF1], by simp (maxSteps := 1000000) only [go_sem, hF2], by simp (maxSteps := 1000000) only [go_sem, hF7], rfl, hj⟩
  · rintro i F σ' hlt ⟨hF0, hF1, hF2, hF7, rfl, hj⟩ -
    have hlt' : i < p.length := by omega
    have e1 : (i : Int) < p.length := by omega
    have et : wrote (p.take (i + 1)) r = (p[i].kind != 3 && p[i].out == r) := by
      rw [List.take_add_one]
      simp only [wrote, List.any_append] at hj ⊢
      rw [hj]; simp [hlt']
    refine .mid (fun F' σ2 => F' 27 = .bool (p[i].kind != 3 && p[i].out == r) ∧ F' 0 = progA p ∧ F' 1 = I n ∧ F' 2 = I r ∧ F' 7 = I i ∧ σ2 = σ') ?_ ?_
    · first | refine .seq (.rg fun A hA K hK => ?_) | refine .seq (.seq (.rg fun A hA K hK => ?_)) | refine .rg fun A hA K hK => ?_ | refine .seq (.rd fun A hA K hK => ?_) | refine .seq (.seq (.rd fun A hA K hK => ?_)) | refine .rd fun A hA K hK => ?_
      simp (maxSteps := 1000000) only [go_sem, hA.nil, hA.go, hA.yes, hA.noT, hA.noF, hA.skp, hF0, hF1, hF2, hF7, prog_get hlt', e1]
      repeat' (first | (refine hK _ _ ?_; (refine ⟨by simp (maxSteps := 1000000) only [go_sem, *], by simp (maxSteps := 1000000) only [go_sem, *], by simp (maxSteps := 1000000) only [go_sem, *], by simp (maxSteps := 1000000) only [go_sem, *], by simp (maxSteps := 1000000) only [go_sem, *], by first | rfl | trivial⟩); done) | (refine hA.cut (by simp (maxSteps := 1000000) only [go_sem, hF0, hF1, hF2, hF7, prog_get hlt', e1]; with_reducible rfl) (fun hs => ?_) (fun hs => ?_) <;> simp (maxSteps := 1000000) only [go_sem, hA.nil, hA.go, hA.yes, hA.noT, hA.noF, hA.skp, *, hF0, hF1, hF2, hF7, prog_get hlt', e1]))
    · rintro F' σ2 ⟨hG, h0, h1, h2, h7, rfl⟩
      refine .cond hG (fun ht => ?_) (fun ht => .skip ?_)
      · have hw : wrote (p.take n) r = true := by
          rw [ht] at et
          simp only [wrote, List.any_eq_true] at et ⊢
          obtain ⟨x, hx, hy⟩ := et
          exact ⟨x, List.take_subset_take_left p (by omega) hx, hy⟩
        first | refine .seq (.rg fun A hA K hK => ?_) | refine .seq (.seq (.rg fun A hA K hK => ?_)) | refine .rg fun A hA K hK => ?_ | refine .seq (.rd fun A hA K hK => ?_) | refine .seq (.seq (.rd fun A hA K hK => ?_)) | refine .rd fun A hA K hK => ?_
        simp (maxSteps := 1000000) only [go_sem, hA.nil, hA.go, hA.yes, hA.noT, hA.noF, hA.skp]
        refine hK _ _ ?_; clear hK K hA A
        refine .ret (ret1 (by simp (maxSteps := 1000000) only [go_sem, hw]) rfl)
      · rw [ht] at et
        exact ⟨by simp (maxSteps := 1000000) only [go_sem, h7], by simp (maxSteps := 1000000) only [go_sem, h0], by simp (maxSteps := 1000000) only [go_sem, h1], by simp (maxSteps := 1000000) only [go_sem, h2], by simp (maxSteps := 1000000) only [go_sem], rfl, et⟩
  · rintro F σ' ⟨hF0, hF1, hF2, hF7, rfl, hj⟩ -
    first | refine .seq (.rg fun A hA K hK => ?_) | refine .seq (.seq (.rg fun A hA K hK => ?_)) | refine .rg fun A hA K hK => ?_ | refine .seq (.rd fun A hA K hK => ?_) | refine .seq (.seq (.rd fun A hA K hK => ?_)) | refine .rd fun A hA K hK => ?_
    simp (maxSteps := 1000000) only [go_sem, hA.nil, hA.go, hA.yes, hA.noT, hA.noF, hA.skp]
    refine hK _ _ ?_; clear hK K hA A
    refine .ret (ret1 (by simp (maxSteps := 1000000) only [go_sem, hj]) rfl)

/-- What stood in memory stands there. -/
def Ext (σ σ' : St) : Prop := σ.next ≤ σ'.next ∧ ∀ b, b < σ.next → σ'.blk b = σ.blk b
theorem Ext.refl (σ : St) : Ext σ σ := ⟨Nat.le_refl _, fun _ _ => rfl⟩

def namedB (q : List Instr) (dev : Int) (i : Instr) : Bool :=
  i.ins.all (wrote q) && (!(i.kind != 3 && (decide (i.out < 0) || (decide (i.out > 65536) || wrote q i.out))) &&
    (decide (i.dev ≥ 0) && (decide (i.dev < dev) && (decide (i.n ≥ 0) && (decide (i.tag ≥ 0) && decide (i.tag ≤ 1073741824))))))

theorem take_all {p : Int → Bool} {l : List Int} {i : Nat} (h : i < l.length) (ht : (l.take i).all p = true) : (l.take (i + 1)).all p = p l[i] := by
  rw [List.take_add_one, List.all_append, ht]; simp [h]

/-- parquetryref18.named -/
theorem named_spec (p : List Instr) (n : Nat) (dev : Int) (hn : n < p.length) (σ : St) : T Try.prog 99 [progA p, I n, I dev] σ (.bool (namedB (p.take n) dev p[n])) σ := by
  refine in99 (by simp) fun wf hab => ?_
  have hp := hab_prog (hab 0 (by simp))
  have hin : p[n].ins.length ≤ most := by
    have := (hab 0 (by simp)).lit.2.2 n 2 (by simpa using hn) (by simp)
    rw [prog_get hn] at this
    exact hab_ints this
  have e1 : (n : Int) < p.length := by omega
  clear hab
  unfold c99
  first | refine .seq (.rg fun A hA K hK => ?_) | refine .seq (.seq (.rg fun A hA K hK => ?_)) | refine .rg fun A hA K hK => ?_ | refine .seq (.rd fun A hA K hK => ?_) | refine .seq (.seq (.rd fun A hA K hK => ?_)) | refine .rd fun A hA K hK => ?_
  simp (maxSteps := 1000000) only [go_sem, hA.nil, hA.go, hA.yes, hA.noT, hA.noF, hA.skp]
  refine hK _ _ ?_; clear hK K hA A
  first | refine .seq (.rg fun A hA K hK => ?_) | refine .seq (.seq (.rg fun A hA K hK => ?_)) | refine .rg fun A hA K hK => ?_ | refine .seq (.rd fun A hA K hK => ?_) | refine .seq (.seq (.rd fun A hA K hK => ?_)) | refine .rd fun A hA K hK => ?_
  simp (maxSteps := 1000000) only [go_sem, hA.nil, hA.go, hA.yes, hA.noT, hA.noF, hA.skp, prog_get hn, e1]
  refine hK _ _ ?_; clear hK K hA A
  first | refine .seq (.rg fun A hA K hK => ?_) | refine .seq (.seq (.rg fun A hA K hK => ?_)) | refine .rg fun A hA K hK => ?_ | refine .seq (.rd fun A hA K hK => ?_) | refine .seq (.seq (.rd fun A hA K hK => ?_)) | refine .rd fun A hA K hK => ?_
  simp (maxSteps := 1000000) only [go_sem, hA.nil, hA.go, hA.yes, hA.noT, hA.noF, hA.skp]
  refine hK _ _ ?_; clear hK K hA A
  refine .range (N := p[n].ins.length) (fun i F σ' => F 0 = progA p ∧ F 1 = I n ∧ F 2 = I dev ∧ F 7 = .ptr σ.next 0 0 ∧ F 15 = ints p[n].ins ∧ F 16 = I p[n].ins.length ∧ F 17 = I i ∧ σ'.blk σ.next = some (.cells 13 [instrL p[n]]) ∧ Ext σ σ' ∧ (p[n].ins.take i).all (wrote (p.take n)) = true) hin ?_ ?_ ?_ ?_
  · refine ⟨by simp (maxSteps := 1000000) only [go_sem], by simp (maxSteps := 1000000) only [go_sem], by simp (maxSteps := 1000000) only [go_sem], by simp (maxSteps := 1000000) only [go_sem], by simp (maxSteps := 1000000) only [go_sem], by simp (maxSteps := 1000000) only [go_sem], by simp (maxSteps := 1000000) only [go_sem]; try rfl, by simp (maxSteps := 1000000) only [go_sem], ⟨by simp, fun b hb => ?_⟩, by simp⟩
    simp only []
    rw [if_neg (by omega), if_neg (by omega)]
  · rintro i F σ' ⟨_, _, _, _, _, h16, h17, _⟩
    exact ⟨h17, h16⟩
  · rintro i F σ' hlt ⟨h0, h1, h2, h7, h15, h16, h17, hb, hx, hj⟩
    have e2 : (i : Int) < p[n].ins.length := by omega
    have et := take_all hlt hj
    first | refine .seq (.rg fun A hA K hK => ?_) | refine .seq (.seq (.rg fun A hA K hK => ?_)) | refine .rg fun A hA K hK => ?_ | refine .seq (.rd fun A hA K hK => ?_) | refine .seq (.seq (.rd fun A hA K hK => ?_)) | refine .rd fun A hA K hK => ?_
    simp (maxSteps := 1000000) only [go_sem, hA.nil, hA.go, hA.yes, hA.noT, hA.noF, hA.skp, h0, h1, h2, h7, h15, h16, h17, ints_get hlt, e2]
    refine hK _ _ ?_; clear hK K hA A
    first | refine .seq (.rg fun A hA K hK => ?_) | refine .seq (.seq (.rg fun A hA K hK => ?_)) | refine .rg fun A hA K hK => ?_ | refine .seq (.rd fun A hA K hK => ?_) | refine .seq (.seq (.rd fun A hA K hK => ?_)) | refine .rd fun A hA K hK => ?_
    simp (maxSteps := 1000000) only [go_sem, hA.nil, hA.go, hA.yes, hA.noT, hA.noF, hA.skp, h0, h1, h2, h7, h15, h16, h17, e2]
    refine ⟨_, written_spec p n p[n].ins[i] (by omega) _, ?_⟩
    simp (maxSteps := 1000000) only [go_sem, hA.nil, hA.go]
    refine hK _ _ ?_; clear hK K hA A
    refine .cond (t := _) (by simp (maxSteps := 1000000) only [go_sem]; try rfl) (fun ht => ?_) (fun ht => .skip ?_)
    · have hw : namedB (p.take n) dev p[n] = false := by
        have : p[n].ins.all (wrote (p.take n)) = false := by
          rw [Bool.eq_false_iff]; intro h
          rw [List.all_eq_true] at h
          have := h _ (List.getElem_mem hlt)
          rw [this] at ht; cases ht
        rw [namedB, this]; rfl
      first | refine .seq (.rg fun A hA K hK => ?_) | refine .seq (.seq (.rg fun A hA K hK => ?_)) | refine .rg fun A hA K hK => ?_ | refine .seq (.rd fun A hA K hK => ?_) | refine .seq (.seq (.rd fun A hA K hK => ?_)) | refine .rd fun A hA K hK => ?_
      simp (maxSteps := 1000000) only [go_sem, hA.nil, hA.go, hA.yes, hA.noT, hA.noF, hA.skp]
      refine hK _ _ ?_; clear hK K hA A
      exact .ret (ret1b (by simp (maxSteps := 1000000) only [go_sem, hw]) wf hx.2 (.bool _))
    · have hw : wrote (p.take n) p[n].ins[i] = true := by simpa using ht
      rw [hw] at et
      exact ⟨by simp (maxSteps := 1000000) only [go_sem, h17], by simp (maxSteps := 1000000) only [go_sem, h0], by simp (maxSteps := 1000000) only [go_sem, h1], by simp (maxSteps := 1000000) only [go_sem, h2], by simp (maxSteps := 1000000) only [go_sem, h7], by simp (maxSteps := 1000000) only [go_sem, h15], by simp (maxSteps := 1000000) only [go_sem, h16], by simp (maxSteps := 1000000) only [go_sem], hb, hx, et⟩
  · rintro F σ' ⟨h0, h1, h2, h7, h15, h16, h17, hb, hx, hj⟩
    rw [List.take_length] at hj
    have hy := hx.2
    clear hp e1 h15 h16 h17 hx
    repeat' (first | (refine hK _ _ ?_; clear hK K hA A) | (refine ⟨_, written_spec p n _ (by omega) _, ?_⟩; try simp (maxSteps := 1000000) only [go_sem, hA.nil, hA.go, hA.yes, hA.noT, hA.noF, hA.skp, *, h0, h1, h2, h7, hb]) | (refine hA.cut (by simp (maxSteps := 1000000) only [go_sem, *, h0, h1, h2, h7, hb]; with_reducible rfl) (fun hs => ?_) (fun hs => ?_) <;> simp (maxSteps := 1000000) only [go_sem, hA.nil, hA.go, hA.yes, hA.noT, hA.noF, hA.skp, *, h0, h1, h2, h7, hb]) | (refine .seq (.rg fun A hA K hK => ?_); simp (maxSteps := 1000000) only [go_sem, hA.nil, hA.go, hA.yes, hA.noT, hA.noF, hA.skp, *, h0, h1, h2, h7, hb]) | (refine .seq (.seq (.rg fun A hA K hK => ?_)); simp (maxSteps := 1000000) only [go_sem, hA.nil, hA.go, hA.yes, hA.noT, hA.noF, hA.skp, *, h0, h1, h2, h7, hb]) | (refine .rg fun A hA K hK => ?_; simp (maxSteps := 1000000) only [go_sem, hA.nil, hA.go, hA.yes, hA.noT, hA.noF, hA.skp, *, h0, h1, h2, h7, hb]) | (refine .seq (.rd fun A hA K hK => ?_); simp (maxSteps := 1000000) only [go_sem, hA.nil, hA.go, hA.yes, hA.noT, hA.noF, hA.skp, *, h0, h1, h2, h7, hb]) | (refine .seq (.seq (.rd fun A hA K hK => ?_)); simp (maxSteps := 1000000) only [go_sem, hA.nil, hA.go, hA.yes, hA.noT, hA.noF, hA.skp, *, h0, h1, h2, h7, hb]) | (refine .rd fun A hA K hK => ?_; simp (maxSteps := 1000000) only [go_sem, hA.nil, hA.go, hA.yes, hA.noT, hA.noF, hA.skp, *, h0, h1, h2, h7, hb]) | (refine .cond (t := _) (by simp (maxSteps := 1000000) only [go_sem, *, h0, h1, h2, h7, hb]; with_reducible rfl) (fun hs => ?_) (fun hs => ?_) <;> (first | (cases hs; done) | skip)) | (refine .seq (.cond (t := _) (by simp (maxSteps := 1000000) only [go_sem, *, h0, h1, h2, h7, hb]; with_reducible rfl) (fun hs => ?_) (fun hs => ?_)) <;> (first | (cases hs; done) | skip)) | refine .skip ?_ | refine .seq (.block ?_) | refine .block ?_ | refine .exit ?_ | ((exact .ret (ret1b (by simp only [go_sem, namedB, *]) wf hy (.bool _))); done))
    trace_state

end Go.Proofs.Ytfjbabacpnnjmaa.Av

namespace Go.Proofs.Ytfjbabacpnnjmaa.Av
open Go Go.Av
set_option maxRecDepth 20000
set_option maxHeartbeats 4000000

attribute [local go_sem] step_apply
attribute [local go_sem] instr0 instr1 instr2 instr10 instr11 instr12 instrN instrA instr_len node0 node1 node2 node3 node4 node5 node6 nodeA node_len getD_drop List.length_drop splice List.nil_append List.append_nil cond_true cond_false List.set_cons_zero List.length_set aopq aop ev put_some put_none upd_apply abin asNat bounds row1 mk I ints progA progsA List.length_cons List.length_nil List.length_map List.drop_zero List.drop_succ_cons List.drop_nil List.getD_cons_zero List.getD_cons_succ Option.getD_none Option.getD_some
  List.take_succ_cons List.take_zero List.take_nil true_and and_true Int.toNat_natCast if_true if_false Nat.zero_add Nat.add_zero List.map_cons List.map_nil Nat.reduceEqDiff Nat.left_eq_add Nat.add_eq_left Nat.add_left_cancel_iff Nat.add_assoc Nat.reduceSub Nat.reduceAdd Nat.reduceLeDiff Nat.le_refl Nat.zero_le Nat.zero_lt_one Nat.lt_add_one Int.reduceLT Int.reduceLE Int.reduceToNat Nat.reduceLT Nat.reduceBEq Bool.false_eq_true Nat.reduceBNe ne_eq not_false_eq_true not_true_eq_false false_and and_false reduceIte Int.natCast_nonneg reduceCtorEq parts_agg parts_bool parts_int parts_str parts_lit parts_nils parts_sl parts_ptr Int.natCast_nonneg Int.natCast_nonneg beq_self_eq_true bne_self_eq_false St.push St.set St.kill Bool.true_and Bool.false_and Bool.and_true Bool.and_false Bool.true_or Bool.false_or Bool.or_true Bool.or_false Bool.not_true Bool.not_false


def firstNZ : List Int → Int
  | [] => 0
  | x :: xs => if x = 0 then firstNZ xs else x

theorem firstNZ_take {xs : List Int} {i : Nat} (h : i < xs.length) (h0 : firstNZ (xs.take i) = 0) : firstNZ (xs.take (i + 1)) = xs[i] ∧ (xs[i] ≠ 0 → firstNZ xs = xs[i]) := by
  induction xs generalizing i with
  | nil => simp at h
  | cons x xs ih =>
    cases i with
    | zero =>
      simp only [List.take_zero, List.take_succ_cons, firstNZ, List.getElem_cons_zero, Nat.zero_add]
      constructor
      · split <;> simp_all
      · intro hx; rw [if_neg hx]
    | succ i =>
      simp only [List.take_succ_cons, firstNZ, List.getElem_cons_succ] at h0 ⊢
      split at h0
      · rename_i hx
        rw [if_pos hx, if_pos hx]
        exact ih (by simpa using h) h0
      · rename_i hx; exact absurd h0 hx

def stepE (p : List Instr) (dev : Int) (n : Nat) : Int :=
  match p[n]? with
  | some i => if formB i = false then 1 else if namedB (p.take n) dev i = false then 23 else 0
  | none => 0
def progE (p : List Instr) (dev : Int) : Int := firstNZ ((List.range p.length).map (stepE p dev))
def rightE (l : List (List Instr)) : Int :=
  if (decide ((l.length : Int) < 1) || decide ((l.length : Int) > 8)) = true then 15 else
  if l.any (fun p => decide ((p.length : Int) > 65536)) = true then 3 else firstNZ (l.map fun p => progE p l.length)

theorem any_take {p : List Instr → Bool} {l : List (List Instr)} {i : Nat} (h : i < l.length) (h0 : (l.take i).any p = false) : (l.take (i + 1)).any p = p l[i] ∧ (p l[i] = true → l.any p = true) := by
  refine ⟨by rw [List.take_add_one, List.any_append, h0]; simp [h], fun hp => List.any_eq_true.2 ⟨_, List.getElem_mem h, hp⟩⟩

/-- parquetryref18.Right -/
theorem refRight_spec (l : List (List Instr)) (σ : St) : T Try.prog 57 [progsA l] σ (I (rightE l)) σ := by
  refine in57 (by simp) fun wf hab => ?_
  obtain ⟨hl, hps⟩ := hab_progs (hab 0 (by simp))
  clear hab
  unfold c57
  first | refine .seq (.rg fun A hA K hK => ?_) | refine .seq (.seq (.rg fun A hA K hK => ?_)) | refine .rg fun A hA K hK => ?_ | refine .seq (.rd fun A hA K hK => ?_) | refine .seq (.seq (.rd fun A hA K hK => ?_)) | refine .rd fun A hA K hK => ?_
  simp (maxSteps := 1000000) only [go_sem, hA.nil, hA.go, hA.yes, hA.noT, hA.noF, hA.skp]
  refine hK _ _ ?_; clear hK K hA A
  refine .mid (fun F' σ' => F' 0 = progsA l ∧ (decide ((l.length : Int) < 1) || decide ((l.length : Int) > 8)) = false ∧ σ' = σ) ?_ ?_
  · repeat' (first | (refine hK _ _ ?_; clear hK K hA A) | (refine hA.cut (by simp (maxSteps := 1000000) only [go_sem, *]; with_reducible rfl) (fun hs => ?_) (fun hs => ?_) <;> simp (maxSteps := 1000000) only [go_sem, hA.nil, hA.go, hA.yes, hA.noT, hA.noF, hA.skp, *]) | (refine .seq (.rg fun A hA K hK => ?_); simp (maxSteps := 1000000) only [go_sem, hA.nil, hA.go, hA.yes, hA.noT, hA.noF, hA.skp, *]) | (refine .seq (.seq (.rg fun A hA K hK => ?_)); simp (maxSteps := 1000000) only [go_sem, hA.nil, hA.go, hA.yes, hA.noT, hA.noF, hA.skp, *]) | (refine .rg fun A hA K hK => ?_; simp (maxSteps := 1000000) only [go_sem, hA.nil, hA.go, hA.yes, hA.noT, hA.noF, hA.skp, *]) | (refine .seq (.rd fun A hA K hK => ?_); simp (maxSteps := 1000000) only [go_sem, hA.nil, hA.go, hA.yes, hA.noT, hA.noF, hA.skp, *]) | (refine .seq (.seq (.rd fun A hA K hK => ?_)); simp (maxSteps := 1000000) only [go_sem, hA.nil, hA.go, hA.yes, hA.noT, hA.noF, hA.skp, *]) | (refine .rd fun A hA K hK => ?_; simp (maxSteps := 1000000) only [go_sem, hA.nil, hA.go, hA.yes, hA.noT, hA.noF, hA.skp, *]) | (refine .cond (t := _) (by simp (maxSteps := 1000000) only [go_sem, *]; with_reducible rfl) (fun hs => ?_) (fun hs => ?_) <;> (first | (cases hs; done) | skip)) | (refine .seq (.cond (t := _) (by simp (maxSteps := 1000000) only [go_sem, *]; with_reducible rfl) (fun hs => ?_) (fun hs => ?_)) <;> (first | (cases hs; done) | skip)) | refine .skip ?_ | refine .seq (.block ?_) | refine .block ?_ | refine .exit ?_ | ((first | exact ⟨by simp only [go_sem, *], by simp only [go_sem, *], by first | rfl | trivial⟩ | exact .ret (ret1 (by simp only [go_sem, rightE, *]) rfl)); done))
  rintro F σ' ⟨h0, hb, rfl⟩
  -- no program is too long
  first | refine .seq (.rg fun A hA K hK => ?_) | refine .seq (.seq (.rg fun A hA K hK => ?_)) | refine .rg fun A hA K hK => ?_ | refine .seq (.rd fun A hA K hK => ?_) | refine .seq (.seq (.rd fun A hA K hK => ?_)) | refine .rd fun A hA K hK => ?_
  simp (maxSteps := 1000000) only [go_sem, hA.nil, hA.go, hA.yes, hA.noT, hA.noF, hA.skp, h0]
  refine hK _ _ ?_; clear hK K hA A
  refine .range (N := l.length) (fun i F s => F 0 = progsA l ∧ F 15 = I l.length ∧ F 16 = I i ∧ s = σ' ∧ (l.take i).any (fun p => decide ((p.length : Int) > 65536)) = false) hl ?_ ?_ ?_ ?_
  · exact ⟨by simp (maxSteps := 1000000) only [go_sem, h0], by simp (maxSteps := 1000000) only [go_sem], by simp (maxSteps := 1000000) only [go_sem]; try rfl, rfl, by simp⟩
  · rintro i F s ⟨_, h1, h2, _⟩
    exact ⟨h2, h1⟩
  · rintro i F s hlt ⟨h0, h15, h16, rfl, hj⟩
    have e1 : (i : Int) < l.length := by omega
    obtain ⟨et, ex⟩ := any_take hlt hj
    first | refine .seq (.rg fun A hA K hK => ?_) | refine .seq (.seq (.rg fun A hA K hK => ?_)) | refine .rg fun A hA K hK => ?_ | refine .seq (.rd fun A hA K hK => ?_) | refine .seq (.seq (.rd fun A hA K hK => ?_)) | refine .rd fun A hA K hK => ?_
    simp (maxSteps := 1000000) only [go_sem, hA.nil, hA.go, hA.yes, hA.noT, hA.noF, hA.skp, h0, h15, h16]
    refine hK _ _ ?_; clear hK K hA A
    first | refine .seq (.rg fun A hA K hK => ?_) | refine .seq (.seq (.rg fun A hA K hK => ?_)) | refine .rg fun A hA K hK => ?_ | refine .seq (.rd fun A hA K hK => ?_) | refine .seq (.seq (.rd fun A hA K hK => ?_)) | refine .rd fun A hA K hK => ?_
    simp (maxSteps := 1000000) only [go_sem, hA.nil, hA.go, hA.yes, hA.noT, hA.noF, hA.skp, h0, h15, h16, progs_get' hlt, e1]
    refine hK _ _ ?_; clear hK K hA A
    refine .cond (t := _) (by simp (maxSteps := 1000000) only [go_sem]; try rfl) (fun ht => ?_) (fun ht => .skip ?_)
    · have hw : rightE l = 3 := by
        rw [rightE, if_neg (by rw [hb]; simp), if_pos (ex ht)]
      first | refine .seq (.rg fun A hA K hK => ?_) | refine .seq (.seq (.rg fun A hA K hK => ?_)) | refine .rg fun A hA K hK => ?_ | refine .seq (.rd fun A hA K hK => ?_) | refine .seq (.seq (.rd fun A hA K hK => ?_)) | refine .rd fun A hA K hK => ?_
      simp (maxSteps := 1000000) only [go_sem, hA.nil, hA.go, hA.yes, hA.noT, hA.noF, hA.skp]
      refine hK _ _ ?_; clear hK K hA A
      exact .ret (ret1 (by simp (maxSteps := 1000000) only [go_sem, hw]) rfl)
    · rw [ht] at et
      exact ⟨by simp (maxSteps := 1000000) only [go_sem, h16], by simp (maxSteps := 1000000) only [go_sem, h0], by simp (maxSteps := 1000000) only [go_sem, h15], by simp (maxSteps := 1000000) only [go_sem], rfl, et⟩
  rintro F s ⟨h0, h15, h16, rfl, hlong⟩
  rw [List.take_length] at hlong
  -- each one
  have hright : rightE l = firstNZ (l.map fun p => progE p l.length) := by
    rw [rightE, if_neg (by rw [hb]; simp), if_neg (by rw [hlong]; simp)]
  clear h15 h16
  first | refine .seq (.rg fun A hA K hK => ?_) | refine .seq (.seq (.rg fun A hA K hK => ?_)) | refine .rg fun A hA K hK => ?_ | refine .seq (.rd fun A hA K hK => ?_) | refine .seq (.seq (.rd fun A hA K hK => ?_)) | refine .rd fun A hA K hK => ?_
  simp (maxSteps := 1000000) only [go_sem, hA.nil, hA.go, hA.yes, hA.noT, hA.noF, hA.skp, h0]
  refine hK _ _ ?_; clear hK K hA A
  refine .range (N := l.length) (fun i F s' => F 0 = progsA l ∧ F 27 = I l.length ∧ F 28 = I i ∧ s' = s ∧ firstNZ ((l.map fun p => progE p l.length).take i) = 0) hl ?_ ?_ ?_ ?_
  · exact ⟨by simp (maxSteps := 1000000) only [go_sem, h0], by simp (maxSteps := 1000000) only [go_sem], by simp (maxSteps := 1000000) only [go_sem]; try rfl, rfl, by simp [firstNZ]⟩
  · rintro i F s' ⟨_, h1, h2, _⟩
    exact ⟨h2, h1⟩
  · rintro i F s' hlt ⟨h0, h27, h28, rfl, hj⟩
    have e1 : (i : Int) < l.length := by omega
    obtain ⟨et, ex⟩ := firstNZ_take (by simpa using hlt) hj
    rw [List.getElem_map] at et ex
    first | refine .seq (.rg fun A hA K hK => ?_) | refine .seq (.seq (.rg fun A hA K hK => ?_)) | refine .rg fun A hA K hK => ?_ | refine .seq (.rd fun A hA K hK => ?_) | refine .seq (.seq (.rd fun A hA K hK => ?_)) | refine .rd fun A hA K hK => ?_
    simp (maxSteps := 1000000) only [go_sem, hA.nil, hA.go, hA.yes, hA.noT, hA.noF, hA.skp, h0, h27, h28]
    refine hK _ _ ?_; clear hK K hA A
    first | refine .seq (.rg fun A hA K hK => ?_) | refine .seq (.seq (.rg fun A hA K hK => ?_)) | refine .rg fun A hA K hK => ?_ | refine .seq (.rd fun A hA K hK => ?_) | refine .seq (.seq (.rd fun A hA K hK => ?_)) | refine .rd fun A hA K hK => ?_
    simp (maxSteps := 1000000) only [go_sem, hA.nil, hA.go, hA.yes, hA.noT, hA.noF, hA.skp, h0, h27, h28, progs_get' hlt, e1]
    refine hK _ _ ?_; clear hK K hA A
    have hp : l[i].length ≤ most := hab_prog (hps _ (List.getElem_mem hlt))
    refine .range (N := l[i].length) (fun n F s => F 0 = progsA l ∧ F 27 = I l.length ∧ F 28 = I i ∧ F 4 = I i ∧ F 35 = I l[i].length ∧ F 36 = I n ∧ s = s' ∧ firstNZ (((List.range l[i].length).map (stepE l[i] l.length)).take n) = 0) hp ?_ ?_ ?_ ?_
    · exact ⟨by simp (maxSteps := 1000000) only [go_sem, h0], by simp (maxSteps := 1000000) only [go_sem, h27], by simp (maxSteps := 1000000) only [go_sem, h28], by simp (maxSteps := 1000000) only [go_sem], by simp (maxSteps := 1000000) only [go_sem], by simp (maxSteps := 1000000) only [go_sem]; try rfl, rfl, by simp [firstNZ]⟩
    · rintro n F s ⟨_, _, _, _, h1, h2, _⟩
      exact ⟨h2, h1⟩
    · rintro n F s hn ⟨h0, h27, h28, h4, h35, h36, rfl, hj2⟩
      have e2 : (n : Int) < l[i].length := by omega
      obtain ⟨et2, ex2⟩ := firstNZ_take (by simpa using hn) hj2
      rw [List.getElem_map, List.getElem_range] at et2 ex2
      have hst : stepE l[i] l.length n = if formB l[i][n] = false then 1 else if namedB (l[i].take n) l.length l[i][n] = false then 23 else 0 := by simp only [stepE, List.getElem?_eq_getElem hn]
      first | refine .seq (.rg fun A hA K hK => ?_) | refine .seq (.seq (.rg fun A hA K hK => ?_)) | refine .rg fun A hA K hK => ?_ | refine .seq (.rd fun A hA K hK => ?_) | refine .seq (.seq (.rd fun A hA K hK => ?_)) | refine .rd fun A hA K hK => ?_
      simp (maxSteps := 1000000) only [go_sem, hA.nil, hA.go, hA.yes, hA.noT, hA.noF, hA.skp, h0, h4, h36, h35]
      refine hK _ _ ?_; clear hK K hA A
      first | refine .seq (.rg fun A hA K hK => ?_) | refine .seq (.seq (.rg fun A hA K hK => ?_)) | refine .rg fun A hA K hK => ?_ | refine .seq (.rd fun A hA K hK => ?_) | refine .seq (.seq (.rd fun A hA K hK => ?_)) | refine .rd fun A hA K hK => ?_
      simp (maxSteps := 1000000) only [go_sem, hA.nil, hA.go, hA.yes, hA.noT, hA.noF, hA.skp, h0, h4, h36, h35, progs_get' hlt, prog_get hn, e1, e2]
      refine ⟨_, form_spec _ _, ?_⟩
      simp (maxSteps := 1000000) only [go_sem, hA.nil, hA.go]
      refine hK _ _ ?_; clear hK K hA A
      refine .cond (t := _) (by simp (maxSteps := 1000000) only [go_sem]; try rfl) (fun ht => ?_) (fun ht => .skip ?_)
      · have hw : rightE l = 1 := by
          have h1 : stepE l[i] l.length n = 1 := by rw [hst, if_pos (by simpa using ht)]
          rw [hright, ex (by rw [progE, ex2 (by rw [h1]; decide), h1]; decide), progE, ex2 (by rw [h1]; decide), h1]
        first | refine .seq (.rg fun A hA K hK => ?_) | refine .seq (.seq (.rg fun A hA K hK => ?_)) | refine .rg fun A hA K hK => ?_ | refine .seq (.rd fun A hA K hK => ?_) | refine .seq (.seq (.rd fun A hA K hK => ?_)) | refine .rd fun A hA K hK => ?_
        simp (maxSteps := 1000000) only [go_sem, hA.nil, hA.go, hA.yes, hA.noT, hA.noF, hA.skp]
        refine hK _ _ ?_; clear hK K hA A
        exact .ret (ret1 (by simp (maxSteps := 1000000) only [go_sem, hw]) rfl)
      first | refine .seq (.rg fun A hA K hK => ?_) | refine .seq (.seq (.rg fun A hA K hK => ?_)) | refine .rg fun A hA K hK => ?_ | refine .seq (.rd fun A hA K hK => ?_) | refine .seq (.seq (.rd fun A hA K hK => ?_)) | refine .rd fun A hA K hK => ?_
      simp (maxSteps := 1000000) only [go_sem, hA.nil, hA.go, hA.yes, hA.noT, hA.noF, hA.skp, h0, h4, h36, h35, progs_get' hlt, prog_get hn, e1, e2]
      refine ⟨_, named_spec l[i] n l.length hn _, ?_⟩
      simp (maxSteps := 1000000) only [go_sem, hA.nil, hA.go]
      refine hK _ _ ?_; clear hK K hA A
      have hf : ¬ formB l[i][n] = false := by intro h; rw [h] at ht; cases ht
      refine .cond (t := _) (by simp (maxSteps := 1000000) only [go_sem]; try rfl) (fun ht2 => ?_) (fun ht2 => .skip ?_)
      · have hw : rightE l = 23 := by
          have h1 : stepE l[i] l.length n = 23 := by rw [hst, if_neg hf, if_pos (by simpa using ht2)]
          rw [hright, ex (by rw [progE, ex2 (by rw [h1]; decide), h1]; decide), progE, ex2 (by rw [h1]; decide), h1]
        first | refine .seq (.rg fun A hA K hK => ?_) | refine .seq (.seq (.rg fun A hA K hK => ?_)) | refine .rg fun A hA K hK => ?_ | refine .seq (.rd fun A hA K hK => ?_) | refine .seq (.seq (.rd fun A hA K hK => ?_)) | refine .rd fun A hA K hK => ?_
        simp (maxSteps := 1000000) only [go_sem, hA.nil, hA.go, hA.yes, hA.noT, hA.noF, hA.skp]
        refine hK _ _ ?_; clear hK K hA A
        exact .ret (ret1 (by simp (maxSteps := 1000000) only [go_sem, hw]) rfl)
      · have h1 : stepE l[i] l.length n = 0 := by rw [hst, if_neg hf, if_neg (by intro h; rw [h] at ht2; cases ht2)]
        rw [h1] at et2
        exact ⟨by simp (maxSteps := 1000000) only [go_sem, h36], by simp (maxSteps := 1000000) only [go_sem, h0], by simp (maxSteps := 1000000) only [go_sem, h27], by simp (maxSteps := 1000000) only [go_sem, h28], by simp (maxSteps := 1000000) only [go_sem, h4], by simp (maxSteps := 1000000) only [go_sem, h35], by simp (maxSteps := 1000000) only [go_sem], rfl, et2⟩
    · rintro F s ⟨h0, h27, h28, h4, h35, h36, rfl, hj2⟩
      rw [List.take_of_length_le (by simp)] at hj2
      rw [show progE l[i] l.length = 0 from hj2] at et
      exact ⟨by simp (maxSteps := 1000000) only [go_sem, h28], by simp (maxSteps := 1000000) only [go_sem, h0], by simp (maxSteps := 1000000) only [go_sem, h27], by simp (maxSteps := 1000000) only [go_sem], rfl, et⟩
  rintro F s' ⟨h0, h27, h28, rfl, hj⟩
  rw [List.take_of_length_le (by simp)] at hj
  first | refine .seq (.rg fun A hA K hK => ?_) | refine .seq (.seq (.rg fun A hA K hK => ?_)) | refine .rg fun A hA K hK => ?_ | refine .seq (.rd fun A hA K hK => ?_) | refine .seq (.seq (.rd fun A hA K hK => ?_)) | refine .rd fun A hA K hK => ?_
  simp (maxSteps := 1000000) only [go_sem, hA.nil, hA.go, hA.yes, hA.noT, hA.noF, hA.skp]
  refine hK _ _ ?_; clear hK K hA A
  exact .ret (ret1 (by simp (maxSteps := 1000000) only [go_sem, hright, hj]) rfl)

end Go.Proofs.Ytfjbabacpnnjmaa.Av

namespace Go.Proofs.Ytfjbabacpnnjmaa.Av
open Go Go.Av
set_option maxRecDepth 20000
set_option maxHeartbeats 4000000

attribute [local go_sem] step_apply
attribute [local go_sem] instr0 instr1 instr2 instr10 instr11 instr12 instrN instrA instr_len node0 node1 node2 node3 node4 node5 node6 nodeA node_len getD_drop List.length_drop splice List.nil_append List.append_nil cond_true cond_false List.set_cons_zero List.length_set aopq aop ev put_some put_none upd_apply abin asNat bounds row1 mk I ints progA progsA List.length_cons List.length_nil List.length_map List.drop_zero List.drop_succ_cons List.drop_nil List.getD_cons_zero List.getD_cons_succ Option.getD_none Option.getD_some
  List.take_succ_cons List.take_zero List.take_nil true_and and_true Int.toNat_natCast if_true if_false Nat.zero_add Nat.add_zero List.map_cons List.map_nil Nat.reduceEqDiff Nat.left_eq_add Nat.add_eq_left Nat.add_left_cancel_iff Nat.add_assoc Nat.reduceSub Nat.reduceAdd Nat.reduceLeDiff Nat.le_refl Nat.zero_le Nat.zero_lt_one Nat.lt_add_one Int.reduceLT Int.reduceLE Int.reduceToNat Nat.reduceLT Nat.reduceBEq Bool.false_eq_true Nat.reduceBNe ne_eq not_false_eq_true not_true_eq_false false_and and_false reduceIte Int.natCast_nonneg reduceCtorEq parts_agg parts_bool parts_int parts_str parts_lit parts_nils parts_sl parts_ptr Int.natCast_nonneg Int.natCast_nonneg beq_self_eq_true bne_self_eq_false St.push St.set St.kill Bool.true_and Bool.false_and Bool.and_true Bool.and_false Bool.true_or Bool.false_or Bool.or_true Bool.or_false Bool.not_true Bool.not_false


theorem firstNZ_zero {xs : List Int} (h : firstNZ xs = 0) : ∀ x ∈ xs, x = 0 := by
  induction xs with
  | nil => simp
  | cons y ys ih =>
    simp only [firstNZ] at h
    split at h
    · rename_i hy; intro x hx
      rcases List.mem_cons.1 hx with rfl | hx
      · exact hy
      · exact ih h x hx
    · rename_i hy; exact absurd h hy

theorem right_each {l : List (List Instr)} (h : rightE l = 0) : (1 ≤ l.length ∧ l.length ≤ 8) ∧ ∀ p ∈ l, p.length ≤ 65536 ∧ ∀ n (hn : n < p.length), formB p[n] = true ∧ namedB (p.take n) l.length p[n] = true := by
  unfold rightE at h
  split at h
  · cases h
  rename_i h1
  split at h
  · cases h
  rename_i h2
  refine ⟨by simp at h1; omega, fun p hp => ⟨?_, fun n hn => ?_⟩⟩
  · simp only [List.any_eq_true, not_exists, not_and] at h2
    have := h2 p hp
    simp at this; omega
  · have h3 := firstNZ_zero h (progE p l.length) (List.mem_map.2 ⟨p, hp, rfl⟩)
    have h4 := firstNZ_zero h3 (stepE p l.length n) (List.mem_map.2 ⟨n, by simpa using hn, rfl⟩)
    simp only [stepE, List.getElem?_eq_getElem hn] at h4
    split at h4
    · cases h4
    rename_i h5
    split at h4
    · cases h4
    rename_i h6
    exact ⟨by simpa using h5, by simpa using h6⟩

theorem right_dev {l : List (List Instr)} (h : rightE l = 0) : ∀ p ∈ l, ∀ i ∈ p, 0 ≤ i.dev ∧ i.dev < l.length := by
  intro p hp i hi
  obtain ⟨n, hn, rfl⟩ := List.getElem_of_mem hi
  have := (((right_each h).2 p hp).2 n hn).2
  simp only [namedB, Bool.and_eq_true, decide_eq_true_eq] at this
  exact ⟨this.2.2.1, this.2.2.2.1⟩

def hitB (kind dev tag : Int) (i : Instr) : Bool := i.kind == kind && (i.dev == dev && i.tag == tag)
def countB (p : List Instr) (kind dev tag : Int) : Nat := p.countP (hitB kind dev tag)

/-- parquetryref18.count -/
theorem count_spec (p : List Instr) (kind dev tag : Int) (σ : St) : T Try.prog 100 [progA p, I kind, I dev, I tag] σ (I (countB p kind dev tag)) σ := by
  refine in100 (by simp) fun wf hab => ?_
  have hp := hab_prog (hab 0 (by simp))
  clear hab
  unfold c100
  first | refine .seq (.rg fun A hA K hK => ?_) | refine .seq (.seq (.rg fun A hA K hK => ?_)) | refine .rg fun A hA K hK => ?_ | refine .seq (.rd fun A hA K hK => ?_) | refine .seq (.seq (.rd fun A hA K hK => ?_)) | refine .rd fun A hA K hK => ?_
  simp (maxSteps := 1000000) only [go_sem, hA.nil, hA.go, hA.yes, hA.noT, hA.noF, hA.skp]
  refine hK _ _ ?_; clear hK K hA A
  first | refine .seq (.rg fun A hA K hK => ?_) | refine .seq (.seq (.rg fun A hA K hK => ?_)) | refine .rg fun A hA K hK => ?_ | refine .seq (.rd fun A hA K hK => ?_) | refine .seq (.seq (.rd fun A hA K hK => ?_)) | refine .rd fun A hA K hK => ?_
  simp (maxSteps := 1000000) only [go_sem, hA.nil, hA.go, hA.yes, hA.noT, hA.noF, hA.skp]
  refine hK _ _ ?_; clear hK K hA A
  first | refine .seq (.rg fun A hA K hK => ?_) | refine .seq (.seq (.rg fun A hA K hK => ?_)) | refine .rg fun A hA K hK => ?_ | refine .seq (.rd fun A hA K hK => ?_) | refine .seq (.seq (.rd fun A hA K hK => ?_)) | refine .rd fun A hA K hK => ?_
  simp (maxSteps := 1000000) only [go_sem, hA.nil, hA.go, hA.yes, hA.noT, hA.noF, hA.skp]
  refine hK _ _ ?_; clear hK K hA A
  refine .range (N := p.length) (fun i F s => F 1 = I kind ∧ F 2 = I dev ∧ F 3 = I tag ∧ F 9 = I (countB (p.take i) kind dev tag) ∧ F 12 = progA p ∧ F 13 = I p.length ∧ F 14 = I i ∧ Ext σ s) hp ?_ ?_ ?_ ?_
  · exact ⟨by simp (maxSteps := 1000000) only [go_sem], by simp (maxSteps := 1000000) only [go_sem], by simp (maxSteps := 1000000) only [go_sem], by simp (maxSteps := 1000000) only [go_sem]; try rfl, by simp (maxSteps := 1000000) only [go_sem], by simp (maxSteps := 1000000) only [go_sem], by simp (maxSteps := 1000000) only [go_sem]; try rfl, .refl σ⟩
  · rintro i F s ⟨_, _, _, _, _, h1, h2, _⟩
    exact ⟨h2, h1⟩
  · rintro i F s hlt ⟨h1, h2, h3, h9, h12, h13, h14, hx⟩
    have e1 : (i : Int) < p.length := by omega
    have et : countB (p.take (i + 1)) kind dev tag = countB (p.take i) kind dev tag + if hitB kind dev tag p[i] = true then 1 else 0 := by
      simp only [countB]
      rw [List.take_add_one, List.countP_append]
      simp [hlt, List.countP_singleton]
    have hc : countB (p.take i) kind dev tag ≤ i := by
      have := List.countP_le_length (p := hitB kind dev tag) (l := p.take i)
      simp only [countB]; simp at this; omega
    first | refine .seq (.rg fun A hA K hK => ?_) | refine .seq (.seq (.rg fun A hA K hK => ?_)) | refine .rg fun A hA K hK => ?_ | refine .seq (.rd fun A hA K hK => ?_) | refine .seq (.seq (.rd fun A hA K hK => ?_)) | refine .rd fun A hA K hK => ?_
    simp (maxSteps := 1000000) only [go_sem, hA.nil, hA.go, hA.yes, hA.noT, hA.noF, hA.skp, h1, h2, h3, h9, h12, h13, h14, prog_get hlt, e1]
    refine hK _ _ ?_; clear hK K hA A
    refine .mid (fun F' s' => F' 33 = .bool (hitB kind dev tag p[i]) ∧ F' 1 = I kind ∧ F' 2 = I dev ∧ F' 3 = I tag ∧ F' 9 = I (countB (p.take i) kind dev tag) ∧ F' 12 = progA p ∧ F' 13 = I p.length ∧ F' 14 = I i ∧ Ext σ s') ?_ ?_
    · first | refine .seq (.rg fun A hA K hK => ?_) | refine .seq (.seq (.rg fun A hA K hK => ?_)) | refine .rg fun A hA K hK => ?_ | refine .seq (.rd fun A hA K hK => ?_) | refine .seq (.seq (.rd fun A hA K hK => ?_)) | refine .rd fun A hA K hK => ?_
      simp (maxSteps := 1000000) only [go_sem, hA.nil, hA.go, hA.yes, hA.noT, hA.noF, hA.skp, h1, h2, h3, h9, h12, h13, h14]
      have hfin : Ext σ { next := s.next + 1, blk := fun b => if b = s.next then some (Blk.cells 13 [instrL p[i]]) else if b = s.next then some (Blk.cells 13 [[I 0, I 0, .lit 1 [], I 0, .lit 1 [], .lit 1 [], .lit 1 [], I 0, I 0, .str ⟨#[]⟩, I 0, I 0, I 0]]) else s.blk b } := by
        refine ⟨by have := hx.1; simp only; omega, fun b hb => ?_⟩
        have := hx.1
        simp only
        rw [if_neg (by omega), if_neg (by omega)]; exact hx.2 b hb
      repeat' (first | (refine hK _ _ ?_; (exact ⟨by simp (maxSteps := 1000000) only [go_sem, hitB, *], by simp (maxSteps := 1000000) only [go_sem, h1], by simp (maxSteps := 1000000) only [go_sem, h2], by simp (maxSteps := 1000000) only [go_sem, h3], by simp (maxSteps := 1000000) only [go_sem, h9], by simp (maxSteps := 1000000) only [go_sem, h12], by simp (maxSteps := 1000000) only [go_sem, h13], by simp (maxSteps := 1000000) only [go_sem, h14], hfin⟩); done) | (refine hA.cut (by simp (maxSteps := 1000000) only [go_sem, h1, h2, h3, h9, h12, h13, h14]; with_reducible rfl) (fun hs => ?_) (fun hs => ?_) <;> simp (maxSteps := 1000000) only [go_sem, hA.nil, hA.go, hA.yes, hA.noT, hA.noF, hA.skp, *, h1, h2, h3, h9, h12, h13, h14]))
    · rintro F' s' ⟨hG, h1, h2, h3, h9, h12, h13, h14, hx⟩
      refine .cond hG (fun ht => ?_) (fun ht => .skip ?_)
      · rw [if_pos ht] at et
        have ew : IntKind.i64.wrap ((countB (p.take i) kind dev tag : Int) + 1) = ((countB (p.take i) kind dev tag + 1 : Nat) : Int) := wrap_succ (by omega)
        first | refine .seq (.rg fun A hA K hK => ?_) | refine .seq (.seq (.rg fun A hA K hK => ?_)) | refine .rg fun A hA K hK => ?_ | refine .seq (.rd fun A hA K hK => ?_) | refine .seq (.seq (.rd fun A hA K hK => ?_)) | refine .rd fun A hA K hK => ?_
        simp (maxSteps := 1000000) only [go_sem, hA.nil, hA.go, hA.yes, hA.noT, hA.noF, hA.skp, h9]
        refine hK _ _ ?_; clear hK K hA A
        exact ⟨by simp (maxSteps := 1000000) only [go_sem, h14], by simp (maxSteps := 1000000) only [go_sem, h1], by simp (maxSteps := 1000000) only [go_sem, h2], by simp (maxSteps := 1000000) only [go_sem, h3], by simp (maxSteps := 1000000) only [go_sem, et, ew], by simp (maxSteps := 1000000) only [go_sem, h12], by simp (maxSteps := 1000000) only [go_sem, h13], by simp (maxSteps := 1000000) only [go_sem], hx⟩
      · rw [if_neg (by rw [ht]; simp)] at et
        exact ⟨by simp (maxSteps := 1000000) only [go_sem, h14], by simp (maxSteps := 1000000) only [go_sem, h1], by simp (maxSteps := 1000000) only [go_sem, h2], by simp (maxSteps := 1000000) only [go_sem, h3], by simp (maxSteps := 1000000) only [go_sem, h9, et], by simp (maxSteps := 1000000) only [go_sem, h12], by simp (maxSteps := 1000000) only [go_sem, h13], by simp (maxSteps := 1000000) only [go_sem], hx⟩
  rintro F s ⟨h1, h2, h3, h9, h12, h13, h14, hx⟩
  rw [List.take_length] at h9
  first | refine .seq (.rg fun A hA K hK => ?_) | refine .seq (.seq (.rg fun A hA K hK => ?_)) | refine .rg fun A hA K hK => ?_ | refine .seq (.rd fun A hA K hK => ?_) | refine .seq (.seq (.rd fun A hA K hK => ?_)) | refine .rd fun A hA K hK => ?_
  simp (maxSteps := 1000000) only [go_sem, hA.nil, hA.go, hA.yes, hA.noT, hA.noF, hA.skp, h9]
  refine hK _ _ ?_; clear hK K hA A
  exact .ret (ret1b (by simp (maxSteps := 1000000) only [go_sem, h9]) wf hx.2 (.int _ _))

def dupB (p : List Instr) (i : Instr) : Bool := (i.kind == 3 || i.kind == 4) && decide ((countB p i.kind i.dev i.tag : Int) > 1)
def missB (l : List (List Instr)) (d : Nat) (i : Instr) : Bool :=
  (i.kind == 3 && ((countB (l.getD i.dev.toNat []) 4 d i.tag : Nat) : Int) != 1) || (i.kind == 4 && ((countB (l.getD i.dev.toNat []) 3 d i.tag : Nat) : Int) != 1)
def pairsE (l : List (List Instr)) : Int :=
  if rightE l ≠ 0 then rightE l else
  if l.any (fun p => p.any (dupB p)) = true then 25 else
  if (List.range l.length).any (fun d => (l.getD d []).any (missB l d)) = true then 22 else 0

theorem any_take' {α : Type} {p : α → Bool} {l : List α} {i : Nat} (h : i < l.length) (h0 : (l.take i).any p = false) : (l.take (i + 1)).any p = p l[i] ∧ (p l[i] = true → l.any p = true) := by
  refine ⟨by rw [List.take_add_one, List.any_append, h0]; simp [h], fun hp => List.any_eq_true.2 ⟨_, List.getElem_mem h, hp⟩⟩

theorem ext_two {σ s : St} {B B' : Blk} (hx : Ext σ s) : Ext σ { next := s.next + 1, blk := fun b => if b = s.next then some B else if b = s.next then some B' else s.blk b } := by
  refine ⟨by have := hx.1; simp only; omega, fun b hb => ?_⟩
  have := hx.1
  simp only
  rw [if_neg (by omega), if_neg (by omega)]; exact hx.2 b hb

/-- parquetryref18.Pairs -/
theorem refPairs_spec (l : List (List Instr)) (σ : St) : T Try.prog 58 [progsA l] σ (I (pairsE l)) σ := by
  refine in58 (by simp) fun wf hab => ?_
  obtain ⟨hl, hps⟩ := hab_progs (hab 0 (by simp))
  clear hab
  unfold c58
  first | refine .seq (.rg fun A hA K hK => ?_) | refine .seq (.seq (.rg fun A hA K hK => ?_)) | refine .rg fun A hA K hK => ?_ | refine .seq (.rd fun A hA K hK => ?_) | refine .seq (.seq (.rd fun A hA K hK => ?_)) | refine .rd fun A hA K hK => ?_
  simp (maxSteps := 1000000) only [go_sem, hA.nil, hA.go, hA.yes, hA.noT, hA.noF, hA.skp]
  refine hK _ _ ?_; clear hK K hA A
  first | refine .seq (.rg fun A hA K hK => ?_) | refine .seq (.seq (.rg fun A hA K hK => ?_)) | refine .rg fun A hA K hK => ?_ | refine .seq (.rd fun A hA K hK => ?_) | refine .seq (.seq (.rd fun A hA K hK => ?_)) | refine .rd fun A hA K hK => ?_
  simp (maxSteps := 1000000) only [go_sem, hA.nil, hA.go, hA.yes, hA.noT, hA.noF, hA.skp]
  refine ⟨_, refRight_spec l _, ?_⟩
  simp (maxSteps := 1000000) only [go_sem, hA.nil, hA.go]
  refine hK _ _ ?_; clear hK K hA A
  first | refine .seq (.rg fun A hA K hK => ?_) | refine .seq (.seq (.rg fun A hA K hK => ?_)) | refine .rg fun A hA K hK => ?_ | refine .seq (.rd fun A hA K hK => ?_) | refine .seq (.seq (.rd fun A hA K hK => ?_)) | refine .rd fun A hA K hK => ?_
  simp (maxSteps := 1000000) only [go_sem, hA.nil, hA.go, hA.yes, hA.noT, hA.noF, hA.skp]
  refine hK _ _ ?_; clear hK K hA A
  refine .cond (t := _) (by simp (maxSteps := 1000000) only [go_sem]; try rfl) (fun ht => ?_) (fun ht => .skip ?_)
  · have hw : pairsE l = rightE l := by rw [pairsE, if_pos (by simpa using ht)]
    first | refine .seq (.rg fun A hA K hK => ?_) | refine .seq (.seq (.rg fun A hA K hK => ?_)) | refine .rg fun A hA K hK => ?_ | refine .seq (.rd fun A hA K hK => ?_) | refine .seq (.seq (.rd fun A hA K hK => ?_)) | refine .rd fun A hA K hK => ?_
    simp (maxSteps := 1000000) only [go_sem, hA.nil, hA.go, hA.yes, hA.noT, hA.noF, hA.skp]
    refine hK _ _ ?_; clear hK K hA A
    exact .ret (ret1 (by simp (maxSteps := 1000000) only [go_sem, hw]) rfl)
  have hr : rightE l = 0 := by simpa using ht
  have hdev := right_dev hr
  have hP : pairsE l = if l.any (fun p => p.any (dupB p)) = true then 25 else if (List.range l.length).any (fun d => (l.getD d []).any (missB l d)) = true then 22 else 0 := by
    rw [pairsE, if_neg (by rw [hr]; simp)]
  first | refine .seq (.rg fun A hA K hK => ?_) | refine .seq (.seq (.rg fun A hA K hK => ?_)) | refine .rg fun A hA K hK => ?_ | refine .seq (.rd fun A hA K hK => ?_) | refine .seq (.seq (.rd fun A hA K hK => ?_)) | refine .rd fun A hA K hK => ?_
  simp (maxSteps := 1000000) only [go_sem, hA.nil, hA.go, hA.yes, hA.noT, hA.noF, hA.skp]
  refine hK _ _ ?_; clear hK K hA A
  refine .range (N := l.length) (fun i F s => F 0 = progsA l ∧ F 16 = I l.length ∧ F 17 = I i ∧ Ext σ s ∧ (l.take i).any (fun p => p.any (dupB p)) = false) hl ?_ ?_ ?_ ?_
  · exact ⟨by simp (maxSteps := 1000000) only [go_sem], by simp (maxSteps := 1000000) only [go_sem], by simp (maxSteps := 1000000) only [go_sem]; try rfl, .refl σ, by simp⟩
  · rintro i F s ⟨_, h1, h2, _⟩
    exact ⟨h2, h1⟩
  · rintro i F s hlt ⟨h0, h16, h17, hx, hj⟩
    have e1 : (i : Int) < l.length := by omega
    obtain ⟨et, ex⟩ := any_take' hlt hj
    have hp : l[i].length ≤ most := hab_prog (hps _ (List.getElem_mem hlt))
    first | refine .seq (.rg fun A hA K hK => ?_) | refine .seq (.seq (.rg fun A hA K hK => ?_)) | refine .rg fun A hA K hK => ?_ | refine .seq (.rd fun A hA K hK => ?_) | refine .seq (.seq (.rd fun A hA K hK => ?_)) | refine .rd fun A hA K hK => ?_
    simp (maxSteps := 1000000) only [go_sem, hA.nil, hA.go, hA.yes, hA.noT, hA.noF, hA.skp, h0, h16, h17]
    refine hK _ _ ?_; clear hK K hA A
    first | refine .seq (.rg fun A hA K hK => ?_) | refine .seq (.seq (.rg fun A hA K hK => ?_)) | refine .rg fun A hA K hK => ?_ | refine .seq (.rd fun A hA K hK => ?_) | refine .seq (.seq (.rd fun A hA K hK => ?_)) | refine .rd fun A hA K hK => ?_
    simp (maxSteps := 1000000) only [go_sem, hA.nil, hA.go, hA.yes, hA.noT, hA.noF, hA.skp, h0, h16, h17, progs_get' hlt, e1]
    refine hK _ _ ?_; clear hK K hA A
    refine .range (N := l[i].length) (fun n F s => F 0 = progsA l ∧ F 16 = I l.length ∧ F 17 = I i ∧ F 4 = I i ∧ F 23 = progA l[i] ∧ F 24 = I l[i].length ∧ F 25 = I n ∧ Ext σ s ∧ (l[i].take n).any (dupB l[i]) = false) hp ?_ ?_ ?_ ?_
    · exact ⟨by simp (maxSteps := 1000000) only [go_sem, h0], by simp (maxSteps := 1000000) only [go_sem, h16], by simp (maxSteps := 1000000) only [go_sem, h17], by simp (maxSteps := 1000000) only [go_sem], by simp (maxSteps := 1000000) only [go_sem], by simp (maxSteps := 1000000) only [go_sem], by simp (maxSteps := 1000000) only [go_sem]; try rfl, hx, by simp⟩
    · rintro n F s ⟨_, _, _, _, _, h1, h2, _⟩
      exact ⟨h2, h1⟩
    · rintro n F s hn ⟨h0, h16, h17, h4, h23, h24, h25, hx, hj2⟩
      have e2 : (n : Int) < l[i].length := by omega
      obtain ⟨et2, ex2⟩ := any_take' hn hj2
      first | refine .seq (.rg fun A hA K hK => ?_) | refine .seq (.seq (.rg fun A hA K hK => ?_)) | refine .rg fun A hA K hK => ?_ | refine .seq (.rd fun A hA K hK => ?_) | refine .seq (.seq (.rd fun A hA K hK => ?_)) | refine .rd fun A hA K hK => ?_
      simp (maxSteps := 1000000) only [go_sem, hA.nil, hA.go, hA.yes, hA.noT, hA.noF, hA.skp, h23, h25, prog_get hn, e2]
      refine hK _ _ ?_; clear hK K hA A
      refine .mid (fun F' s' => F' 50 = .bool (dupB l[i] l[i][n]) ∧ F' 0 = progsA l ∧ F' 16 = I l.length ∧ F' 17 = I i ∧ F' 4 = I i ∧ F' 23 = progA l[i] ∧ F' 24 = I l[i].length ∧ F' 25 = I n ∧ Ext σ s') ?_ ?_
      · have hx2 := fun B B' => ext_two (B := B) (B' := B') hx
        clear hx hps hdev hP hj hj2 et et2 ex ex2
        repeat' (first | (refine hK _ _ ?_; clear hK K hA A) | (refine ⟨_, count_spec _ _ _ _ _, ?_⟩; try simp (maxSteps := 1000000) only [go_sem, hA.nil, hA.go, hA.yes, hA.noT, hA.noF, hA.skp, *, h0, h4, progs_get' hlt, e1]) | (refine hA.cut (by simp (maxSteps := 1000000) only [go_sem, *, h0, h4, progs_get' hlt, e1]; with_reducible rfl) (fun hs => ?_) (fun hs => ?_) <;> simp (maxSteps := 1000000) only [go_sem, hA.nil, hA.go, hA.yes, hA.noT, hA.noF, hA.skp, *, h0, h4, progs_get' hlt, e1]) | (refine .seq (.rg fun A hA K hK => ?_); simp (maxSteps := 1000000) only [go_sem, hA.nil, hA.go, hA.yes, hA.noT, hA.noF, hA.skp, *, h0, h4, progs_get' hlt, e1]) | (refine .seq (.seq (.rg fun A hA K hK => ?_)); simp (maxSteps := 1000000) only [go_sem, hA.nil, hA.go, hA.yes, hA.noT, hA.noF, hA.skp, *, h0, h4, progs_get' hlt, e1]) | (refine .rg fun A hA K hK => ?_; simp (maxSteps := 1000000) only [go_sem, hA.nil, hA.go, hA.yes, hA.noT, hA.noF, hA.skp, *, h0, h4, progs_get' hlt, e1]) | (refine .seq (.rd fun A hA K hK => ?_); simp (maxSteps := 1000000) only [go_sem, hA.nil, hA.go, hA.yes, hA.noT, hA.noF, hA.skp, *, h0, h4, progs_get' hlt, e1]) | (refine .seq (.seq (.rd fun A hA K hK => ?_)); simp (maxSteps := 1000000) only [go_sem, hA.nil, hA.go, hA.yes, hA.noT, hA.noF, hA.skp, *, h0, h4, progs_get' hlt, e1]) | (refine .rd fun A hA K hK => ?_; simp (maxSteps := 1000000) only [go_sem, hA.nil, hA.go, hA.yes, hA.noT, hA.noF, hA.skp, *, h0, h4, progs_get' hlt, e1]) | (refine .cond (t := _) (by simp (maxSteps := 1000000) only [go_sem, *, h0, h4, progs_get' hlt, e1]; with_reducible rfl) (fun hs => ?_) (fun hs => ?_) <;> (first | (cases hs; done) | skip)) | (refine .seq (.cond (t := _) (by simp (maxSteps := 1000000) only [go_sem, *, h0, h4, progs_get' hlt, e1]; with_reducible rfl) (fun hs => ?_) (fun hs => ?_)) <;> (first | (cases hs; done) | skip)) | refine .skip ?_ | refine .seq (.block ?_) | refine .block ?_ | refine .exit ?_ | ((exact ⟨by simp (maxSteps := 1000000) only [go_sem, dupB, *], by simp (maxSteps := 1000000) only [go_sem, h0], by simp (maxSteps := 1000000) only [go_sem, h16], by simp (maxSteps := 1000000) only [go_sem, h17], by simp (maxSteps := 1000000) only [go_sem, h4], by simp (maxSteps := 1000000) only [go_sem, h23], by simp (maxSteps := 1000000) only [go_sem, h24], by simp (maxSteps := 1000000) only [go_sem, h25], hx2 _ _⟩); done))
      · rintro F' s' ⟨hG, h0, h16, h17, h4, h23, h24, h25, hx⟩
        refine .cond hG (fun ht => ?_) (fun ht => .skip ?_)
        · have hw : pairsE l = 25 := by rw [hP, if_pos (ex (ex2 ht))]
          first | refine .seq (.rg fun A hA K hK => ?_) | refine .seq (.seq (.rg fun A hA K hK => ?_)) | refine .rg fun A hA K hK => ?_ | refine .seq (.rd fun A hA K hK => ?_) | refine .seq (.seq (.rd fun A hA K hK => ?_)) | refine .rd fun A hA K hK => ?_
          simp (maxSteps := 1000000) only [go_sem, hA.nil, hA.go, hA.yes, hA.noT, hA.noF, hA.skp]
          refine hK _ _ ?_; clear hK K hA A
          exact .ret (ret1b (by simp (maxSteps := 1000000) only [go_sem, hw]) wf hx.2 (.int _ _))
        · rw [ht] at et2
          exact ⟨by simp (maxSteps := 1000000) only [go_sem, h25], by simp (maxSteps := 1000000) only [go_sem, h0], by simp (maxSteps := 1000000) only [go_sem, h16], by simp (maxSteps := 1000000) only [go_sem, h17], by simp (maxSteps := 1000000) only [go_sem, h4], by simp (maxSteps := 1000000) only [go_sem, h23], by simp (maxSteps := 1000000) only [go_sem, h24], by simp (maxSteps := 1000000) only [go_sem], hx, et2⟩
    · rintro F s ⟨h0, h16, h17, h4, h23, h24, h25, hx, hj2⟩
      rw [List.take_length] at hj2
      rw [hj2] at et
      exact ⟨by simp (maxSteps := 1000000) only [go_sem, h17], by simp (maxSteps := 1000000) only [go_sem, h0], by simp (maxSteps := 1000000) only [go_sem, h16], by simp (maxSteps := 1000000) only [go_sem], hx, et⟩
  rintro F s ⟨h0, h16, h17, hx, hj⟩
  rw [List.take_length] at hj
  have hP2 : pairsE l = if (List.range l.length).any (fun d => (l.getD d []).any (missB l d)) = true then 22 else 0 := by
    rw [hP, if_neg (by rw [hj]; simp)]
  clear hP hj h16 h17
  have hrl : (List.range l.length).length = l.length := by simp
  first | refine .seq (.rg fun A hA K hK => ?_) | refine .seq (.seq (.rg fun A hA K hK => ?_)) | refine .rg fun A hA K hK => ?_ | refine .seq (.rd fun A hA K hK => ?_) | refine .seq (.seq (.rd fun A hA K hK => ?_)) | refine .rd fun A hA K hK => ?_
  simp (maxSteps := 1000000) only [go_sem, hA.nil, hA.go, hA.yes, hA.noT, hA.noF, hA.skp, h0]
  refine hK _ _ ?_; clear hK K hA A
  refine .range (N := l.length) (fun i F s => F 0 = progsA l ∧ F 54 = I l.length ∧ F 55 = I i ∧ Ext σ s ∧ ((List.range l.length).take i).any (fun d => (l.getD d []).any (missB l d)) = false) hl ?_ ?_ ?_ ?_
  · exact ⟨by simp (maxSteps := 1000000) only [go_sem, h0], by simp (maxSteps := 1000000) only [go_sem], by simp (maxSteps := 1000000) only [go_sem]; try rfl, hx, by simp⟩
  · rintro i F s ⟨_, h1, h2, _⟩
    exact ⟨h2, h1⟩
  · rintro i F s hlt ⟨h0, h54, h55, hx, hj⟩
    have e1 : (i : Int) < l.length := by omega
    obtain ⟨et, ex⟩ := any_take' (by omega) hj
    rw [List.getElem_range] at et ex
    have hgl : l.getD i [] = l[i] := by simp [List.getD_eq_getElem?_getD, hlt]
    rw [hgl] at et ex
    have hp : l[i].length ≤ most := hab_prog (hps _ (List.getElem_mem hlt))
    first | refine .seq (.rg fun A hA K hK => ?_) | refine .seq (.seq (.rg fun A hA K hK => ?_)) | refine .rg fun A hA K hK => ?_ | refine .seq (.rd fun A hA K hK => ?_) | refine .seq (.seq (.rd fun A hA K hK => ?_)) | refine .rd fun A hA K hK => ?_
    simp (maxSteps := 1000000) only [go_sem, hA.nil, hA.go, hA.yes, hA.noT, hA.noF, hA.skp, h0, h54, h55]
    refine hK _ _ ?_; clear hK K hA A
    first | refine .seq (.rg fun A hA K hK => ?_) | refine .seq (.seq (.rg fun A hA K hK => ?_)) | refine .rg fun A hA K hK => ?_ | refine .seq (.rd fun A hA K hK => ?_) | refine .seq (.seq (.rd fun A hA K hK => ?_)) | refine .rd fun A hA K hK => ?_
    simp (maxSteps := 1000000) only [go_sem, hA.nil, hA.go, hA.yes, hA.noT, hA.noF, hA.skp, h0, h54, h55, progs_get' hlt, e1]
    refine hK _ _ ?_; clear hK K hA A
    refine .range (N := l[i].length) (fun n F s => F 0 = progsA l ∧ F 54 = I l.length ∧ F 55 = I i ∧ F 7 = I i ∧ F 61 = progA l[i] ∧ F 62 = I l[i].length ∧ F 63 = I n ∧ Ext σ s ∧ (l[i].take n).any (missB l i) = false) hp ?_ ?_ ?_ ?_
    · exact ⟨by simp (maxSteps := 1000000) only [go_sem, h0], by simp (maxSteps := 1000000) only [go_sem, h54], by simp (maxSteps := 1000000) only [go_sem, h55], by simp (maxSteps := 1000000) only [go_sem], by simp (maxSteps := 1000000) only [go_sem], by simp (maxSteps := 1000000) only [go_sem], by simp (maxSteps := 1000000) only [go_sem]; try rfl, hx, by simp⟩
    · rintro n F s ⟨_, _, _, _, _, h1, h2, _⟩
      exact ⟨h2, h1⟩
    · rintro n F s hn ⟨h0, h54, h55, h7, h61, h62, h63, hx, hj2⟩
      have e2 : (n : Int) < l[i].length := by omega
      obtain ⟨et2, ex2⟩ := any_take' hn hj2
      obtain ⟨hd0, hd1⟩ := hdev l[i] (List.getElem_mem hlt) l[i][n] (List.getElem_mem hn)
      have e3 : (l.map fun p => [AV.lit 13 (p.map instrL)]).getD l[i][n].dev.toNat [] = [progA (l.getD l[i][n].dev.toNat [])] := by
        have : l[i][n].dev.toNat < l.length := by omega
        rw [progs_get' this]; simp [List.getD_eq_getElem?_getD, this]
      first | refine .seq (.rg fun A hA K hK => ?_) | refine .seq (.seq (.rg fun A hA K hK => ?_)) | refine .rg fun A hA K hK => ?_ | refine .seq (.rd fun A hA K hK => ?_) | refine .seq (.seq (.rd fun A hA K hK => ?_)) | refine .rd fun A hA K hK => ?_
      simp (maxSteps := 1000000) only [go_sem, hA.nil, hA.go, hA.yes, hA.noT, hA.noF, hA.skp, h61, h63, prog_get hn, e2]
      refine hK _ _ ?_; clear hK K hA A
      refine .mid (fun F' s' => F' 98 = .bool (missB l i l[i][n]) ∧ F' 0 = progsA l ∧ F' 54 = I l.length ∧ F' 55 = I i ∧ F' 7 = I i ∧ F' 61 = progA l[i] ∧ F' 62 = I l[i].length ∧ F' 63 = I n ∧ Ext σ s') ?_ ?_
      · have hx2 := fun B B' => ext_two (B := B) (B' := B') hx
        clear hx hps hdev hP2 hj hj2 et et2 ex ex2 hgl
        repeat' (first | (refine hK _ _ ?_; clear hK K hA A) | (refine ⟨_, count_spec _ _ _ _ _, ?_⟩; try simp (maxSteps := 1000000) only [go_sem, hA.nil, hA.go, hA.yes, hA.noT, hA.noF, hA.skp, *, h0, h7, e3, hd0, hd1]) | (refine hA.cut (by simp (maxSteps := 1000000) only [go_sem, *, h0, h7, e3, hd0, hd1]; with_reducible rfl) (fun hs => ?_) (fun hs => ?_) <;> simp (maxSteps := 1000000) only [go_sem, hA.nil, hA.go, hA.yes, hA.noT, hA.noF, hA.skp, *, h0, h7, e3, hd0, hd1]) | (refine .seq (.rg fun A hA K hK => ?_); simp (maxSteps := 1000000) only [go_sem, hA.nil, hA.go, hA.yes, hA.noT, hA.noF, hA.skp, *, h0, h7, e3, hd0, hd1]) | (refine .seq (.seq (.rg fun A hA K hK => ?_)); simp (maxSteps := 1000000) only [go_sem, hA.nil, hA.go, hA.yes, hA.noT, hA.noF, hA.skp, *, h0, h7, e3, hd0, hd1]) | (refine .rg fun A hA K hK => ?_; simp (maxSteps := 1000000) only [go_sem, hA.nil, hA.go, hA.yes, hA.noT, hA.noF, hA.skp, *, h0, h7, e3, hd0, hd1]) | (refine .seq (.rd fun A hA K hK => ?_); simp (maxSteps := 1000000) only [go_sem, hA.nil, hA.go, hA.yes, hA.noT, hA.noF, hA.skp, *, h0, h7, e3, hd0, hd1]) | (refine .seq (.seq (.rd fun A hA K hK => ?_)); simp (maxSteps := 1000000) only [go_sem, hA.nil, hA.go, hA.yes, hA.noT, hA.noF, hA.skp, *, h0, h7, e3, hd0, hd1]) | (refine .rd fun A hA K hK => ?_; simp (maxSteps := 1000000) only [go_sem, hA.nil, hA.go, hA.yes, hA.noT, hA.noF, hA.skp, *, h0, h7, e3, hd0, hd1]) | (refine .cond (t := _) (by simp (maxSteps := 1000000) only [go_sem, *, h0, h7, e3, hd0, hd1]; with_reducible rfl) (fun hs => ?_) (fun hs => ?_) <;> (first | (cases hs; done) | skip)) | (refine .seq (.cond (t := _) (by simp (maxSteps := 1000000) only [go_sem, *, h0, h7, e3, hd0, hd1]; with_reducible rfl) (fun hs => ?_) (fun hs => ?_)) <;> (first | (cases hs; done) | skip)) | refine .skip ?_ | refine .seq (.block ?_) | refine .block ?_ | refine .exit ?_ | ((exact ⟨by simp (maxSteps := 1000000) only [go_sem, missB, *], by simp (maxSteps := 1000000) only [go_sem, h0], by simp (maxSteps := 1000000) only [go_sem, h54], by simp (maxSteps := 1000000) only [go_sem, h55], by simp (maxSteps := 1000000) only [go_sem, h7], by simp (maxSteps := 1000000) only [go_sem, h61], by simp (maxSteps := 1000000) only [go_sem, h62], by simp (maxSteps := 1000000) only [go_sem, h63], hx2 _ _⟩); done))
      · rintro F' s' ⟨hG, h0, h54, h55, h7, h61, h62, h63, hx⟩
        refine .cond hG (fun ht => ?_) (fun ht => .skip ?_)
        · have hw : pairsE l = 22 := by rw [hP2, if_pos (ex (ex2 ht))]
          first | refine .seq (.rg fun A hA K hK => ?_) | refine .seq (.seq (.rg fun A hA K hK => ?_)) | refine .rg fun A hA K hK => ?_ | refine .seq (.rd fun A hA K hK => ?_) | refine .seq (.seq (.rd fun A hA K hK => ?_)) | refine .rd fun A hA K hK => ?_
          simp (maxSteps := 1000000) only [go_sem, hA.nil, hA.go, hA.yes, hA.noT, hA.noF, hA.skp]
          refine hK _ _ ?_; clear hK K hA A
          exact .ret (ret1b (by simp (maxSteps := 1000000) only [go_sem, hw]) wf hx.2 (.int _ _))
        · rw [ht] at et2
          exact ⟨by simp (maxSteps := 1000000) only [go_sem, h63], by simp (maxSteps := 1000000) only [go_sem, h0], by simp (maxSteps := 1000000) only [go_sem, h54], by simp (maxSteps := 1000000) only [go_sem, h55], by simp (maxSteps := 1000000) only [go_sem, h7], by simp (maxSteps := 1000000) only [go_sem, h61], by simp (maxSteps := 1000000) only [go_sem, h62], by simp (maxSteps := 1000000) only [go_sem], hx, et2⟩
    · rintro F s ⟨h0, h54, h55, h7, h61, h62, h63, hx, hj2⟩
      rw [List.take_length] at hj2
      rw [hj2] at et
      exact ⟨by simp (maxSteps := 1000000) only [go_sem, h55], by simp (maxSteps := 1000000) only [go_sem, h0], by simp (maxSteps := 1000000) only [go_sem, h54], by simp (maxSteps := 1000000) only [go_sem], hx, et⟩
  rintro F s ⟨h0, h54, h55, hx, hj⟩
  rw [List.take_of_length_le (by omega)] at hj
  have hw : pairsE l = 0 := by rw [hP2, if_neg (by rw [hj]; simp)]
  first | refine .seq (.rg fun A hA K hK => ?_) | refine .seq (.seq (.rg fun A hA K hK => ?_)) | refine .rg fun A hA K hK => ?_ | refine .seq (.rd fun A hA K hK => ?_) | refine .seq (.seq (.rd fun A hA K hK => ?_)) | refine .rd fun A hA K hK => ?_
  simp (maxSteps := 1000000) only [go_sem, hA.nil, hA.go, hA.yes, hA.noT, hA.noF, hA.skp]
  refine hK _ _ ?_; clear hK K hA A
  exact .ret (ret1b (by simp (maxSteps := 1000000) only [go_sem, hw]) wf hx.2 (.int _ _))

end Go.Proofs.Ytfjbabacpnnjmaa.Av

namespace Go.Proofs.Ytfjbabacpnnjmaa.Av
open Go Go.Av
set_option maxRecDepth 20000
set_option maxHeartbeats 4000000

attribute [local go_sem] step_apply
attribute [local go_sem] instr0 instr1 instr2 instr10 instr11 instr12 instrN instrA instr_len node0 node1 node2 node3 node4 node5 node6 nodeA node_len getD_drop List.length_drop splice List.nil_append List.append_nil cond_true cond_false List.set_cons_zero List.length_set aopq aop ev put_some put_none upd_apply abin asNat bounds row1 mk I ints progA progsA List.length_cons List.length_nil List.length_map List.drop_zero List.drop_succ_cons List.drop_nil List.getD_cons_zero List.getD_cons_succ Option.getD_none Option.getD_some
  List.take_succ_cons List.take_zero List.take_nil true_and and_true Int.toNat_natCast if_true if_false Nat.zero_add Nat.add_zero List.map_cons List.map_nil Nat.reduceEqDiff Nat.left_eq_add Nat.add_eq_left Nat.add_left_cancel_iff Nat.add_assoc Nat.reduceSub Nat.reduceAdd Nat.reduceLeDiff Nat.le_refl Nat.zero_le Nat.zero_lt_one Nat.lt_add_one Int.reduceLT Int.reduceLE Int.reduceToNat Nat.reduceLT Nat.reduceBEq Bool.false_eq_true Nat.reduceBNe ne_eq not_false_eq_true not_true_eq_false false_and and_false reduceIte Int.natCast_nonneg reduceCtorEq parts_agg parts_bool parts_int parts_str parts_lit parts_nils parts_sl parts_ptr Int.natCast_nonneg Int.natCast_nonneg beq_self_eq_true bne_self_eq_false St.push St.set St.kill Bool.true_and Bool.false_and Bool.and_true Bool.and_false Bool.true_or Bool.false_or Bool.or_true Bool.or_false Bool.not_true Bool.not_false


/-- slices.Equal -/
theorem equal_spec (a b : List Int) (σ : St) : T Try.prog 150 [ints a, ints b] σ (.bool (a == b)) σ := by
  refine in150 (by simp) fun wf hab => ?_
  have ha := hab_ints (hab 0 (by simp))
  clear hab
  unfold c150
  first | refine .seq (.rg fun A hA K hK => ?_) | refine .seq (.seq (.rg fun A hA K hK => ?_)) | refine .rg fun A hA K hK => ?_ | refine .seq (.rd fun A hA K hK => ?_) | refine .seq (.seq (.rd fun A hA K hK => ?_)) | refine .rd fun A hA K hK => ?_
  simp (maxSteps := 1000000) only [go_sem, hA.nil, hA.go, hA.yes, hA.noT, hA.noF, hA.skp]
  refine hK _ _ ?_; clear hK K hA A
  first | refine .seq (.rg fun A hA K hK => ?_) | refine .seq (.seq (.rg fun A hA K hK => ?_)) | refine .rg fun A hA K hK => ?_ | refine .seq (.rd fun A hA K hK => ?_) | refine .seq (.seq (.rd fun A hA K hK => ?_)) | refine .rd fun A hA K hK => ?_
  simp (maxSteps := 1000000) only [go_sem, hA.nil, hA.go, hA.yes, hA.noT, hA.noF, hA.skp]
  refine hK _ _ ?_; clear hK K hA A
  refine .cond (t := _) (by simp (maxSteps := 1000000) only [go_sem]; try rfl) (fun ht => ?_) (fun ht => .skip ?_)
  · have hne : (a == b) = false := by
      simp only [beq_eq_false_iff_ne]; rintro rfl; simp at ht
    first | refine .seq (.rg fun A hA K hK => ?_) | refine .seq (.seq (.rg fun A hA K hK => ?_)) | refine .rg fun A hA K hK => ?_ | refine .seq (.rd fun A hA K hK => ?_) | refine .seq (.seq (.rd fun A hA K hK => ?_)) | refine .rd fun A hA K hK => ?_
    simp (maxSteps := 1000000) only [go_sem, hA.nil, hA.go, hA.yes, hA.noT, hA.noF, hA.skp]
    refine hK _ _ ?_; clear hK K hA A
    exact .ret (ret1 (by simp (maxSteps := 1000000) only [go_sem, hne]) rfl)
  have hl : a.length = b.length := by simp at ht; omega
  first | refine .seq (.rg fun A hA K hK => ?_) | refine .seq (.seq (.rg fun A hA K hK => ?_)) | refine .rg fun A hA K hK => ?_ | refine .seq (.rd fun A hA K hK => ?_) | refine .seq (.seq (.rd fun A hA K hK => ?_)) | refine .rd fun A hA K hK => ?_
  simp (maxSteps := 1000000) only [go_sem, hA.nil, hA.go, hA.yes, hA.noT, hA.noF, hA.skp]
  refine hK _ _ ?_; clear hK K hA A
  refine .range (N := a.length) (fun i F s => F 0 = ints a ∧ F 1 = ints b ∧ F 12 = I a.length ∧ F 13 = I i ∧ s = σ ∧ ∀ j, j < i → a.getD j 0 = b.getD j 0) ha ?_ ?_ ?_ ?_
  · refine ⟨by simp (maxSteps := 1000000) only [go_sem], by simp (maxSteps := 1000000) only [go_sem], by simp (maxSteps := 1000000) only [go_sem], by simp (maxSteps := 1000000) only [go_sem]; try rfl, rfl, by simp⟩
  · rintro i F s ⟨_, _, h1, h2, _⟩
    exact ⟨h2, h1⟩
  · rintro i F s hlt ⟨h0, h1, h12, h13, rfl, hj⟩
    have hlt' : i < b.length := by omega
    have e1 : (i : Int) < a.length := by omega
    have e2 : (i : Int) < b.length := by omega
    first | refine .seq (.rg fun A hA K hK => ?_) | refine .seq (.seq (.rg fun A hA K hK => ?_)) | refine .rg fun A hA K hK => ?_ | refine .seq (.rd fun A hA K hK => ?_) | refine .seq (.seq (.rd fun A hA K hK => ?_)) | refine .rd fun A hA K hK => ?_
    simp (maxSteps := 1000000) only [go_sem, hA.nil, hA.go, hA.yes, hA.noT, hA.noF, hA.skp, h13]
    refine hK _ _ ?_; clear hK K hA A
    first | refine .seq (.rg fun A hA K hK => ?_) | refine .seq (.seq (.rg fun A hA K hK => ?_)) | refine .rg fun A hA K hK => ?_ | refine .seq (.rd fun A hA K hK => ?_) | refine .seq (.seq (.rd fun A hA K hK => ?_)) | refine .rd fun A hA K hK => ?_
    simp (maxSteps := 1000000) only [go_sem, hA.nil, hA.go, hA.yes, hA.noT, hA.noF, hA.skp, h0, h1, h13, ints_get hlt, ints_get hlt', e1, e2]
    refine hK _ _ ?_; clear hK K hA A
    refine .cond (t := _) (by simp (maxSteps := 1000000) only [go_sem]; try rfl)  (fun ht => ?_) (fun ht => .skip ?_)
    · have hne : (a == b) = false := by
        simp only [beq_eq_false_iff_ne]; rintro rfl; simp at ht
      first | refine .seq (.rg fun A hA K hK => ?_) | refine .seq (.seq (.rg fun A hA K hK => ?_)) | refine .rg fun A hA K hK => ?_ | refine .seq (.rd fun A hA K hK => ?_) | refine .seq (.seq (.rd fun A hA K hK => ?_)) | refine .rd fun A hA K hK => ?_
      simp (maxSteps := 1000000) only [go_sem, hA.nil, hA.go, hA.yes, hA.noT, hA.noF, hA.skp]
      refine hK _ _ ?_; clear hK K hA A
      exact .ret (ret1 (by simp (maxSteps := 1000000) only [go_sem, hne]) rfl)
    · refine ⟨by simp (maxSteps := 1000000) only [go_sem, h13], by simp (maxSteps := 1000000) only [go_sem, h0], by simp (maxSteps := 1000000) only [go_sem, h1], by simp (maxSteps := 1000000) only [go_sem, h12], by simp (maxSteps := 1000000) only [go_sem], rfl, fun j h => ?_⟩
      rcases Nat.lt_succ_iff_lt_or_eq.1 h with h | rfl
      · exact hj j h
      · simp at ht; simp [List.getD_eq_getElem?_getD, hlt, hlt', ht]
  · rintro F s ⟨h0, h1, h12, h13, rfl, hj⟩
    have he : (a == b) = true := by
      simp only [beq_iff_eq]
      refine List.ext_getElem hl fun j h1 h2 => ?_
      have := hj j h1
      simpa [List.getD_eq_getElem?_getD, h1, h2] using this
    first | refine .seq (.rg fun A hA K hK => ?_) | refine .seq (.seq (.rg fun A hA K hK => ?_)) | refine .rg fun A hA K hK => ?_ | refine .seq (.rd fun A hA K hK => ?_) | refine .seq (.seq (.rd fun A hA K hK => ?_)) | refine .rd fun A hA K hK => ?_
    simp (maxSteps := 1000000) only [go_sem, hA.nil, hA.go, hA.yes, hA.noT, hA.noF, hA.skp]
    refine hK _ _ ?_; clear hK K hA A
    exact .ret (ret1 (by simp (maxSteps := 1000000) only [go_sem, he]) rfl)

def sameB (x y : Node) : Bool := x.op == y.op && ((x.ins == y.ins) && ((x.shape == y.shape) && ((x.a == y.a) && (x.n == y.n && (x.how == y.how && (x.note.toList == y.note.toList))))))

/-- graph.SameNode -/
theorem sameNode_spec (x y : Node) (σ : St) : T Try.prog 140 [.agg (nodeL x), .agg (nodeL y)] σ (.bool (sameB x y)) σ := by
  refine in140 (by simp) fun wf hab => ?_
  clear hab
  unfold c140
  repeat' (first | (refine hK _ _ ?_; clear hK K hA A) | (refine ⟨_, equal_spec x.ins y.ins _, ?_⟩; try simp (maxSteps := 1000000) only [go_sem, hA.nil, hA.go, hA.yes, hA.noT, hA.noF, hA.skp, *]) | (refine ⟨_, equal_spec x.shape y.shape _, ?_⟩; try simp (maxSteps := 1000000) only [go_sem, hA.nil, hA.go, hA.yes, hA.noT, hA.noF, hA.skp, *]) | (refine ⟨_, equal_spec x.a y.a _, ?_⟩; try simp (maxSteps := 1000000) only [go_sem, hA.nil, hA.go, hA.yes, hA.noT, hA.noF, hA.skp, *]) | (refine hA.cut (by simp (maxSteps := 1000000) only [go_sem, *]; with_reducible rfl) (fun hs => ?_) (fun hs => ?_) <;> simp (maxSteps := 1000000) only [go_sem, hA.nil, hA.go, hA.yes, hA.noT, hA.noF, hA.skp, *]) | (refine .seq (.rg fun A hA K hK => ?_); simp (maxSteps := 1000000) only [go_sem, hA.nil, hA.go, hA.yes, hA.noT, hA.noF, hA.skp, *]) | (refine .seq (.seq (.rg fun A hA K hK => ?_)); simp (maxSteps := 1000000) only [go_sem, hA.nil, hA.go, hA.yes, hA.noT, hA.noF, hA.skp, *]) | (refine .rg fun A hA K hK => ?_; simp (maxSteps := 1000000) only [go_sem, hA.nil, hA.go, hA.yes, hA.noT, hA.noF, hA.skp, *]) | (refine .seq (.rd fun A hA K hK => ?_); simp (maxSteps := 1000000) only [go_sem, hA.nil, hA.go, hA.yes, hA.noT, hA.noF, hA.skp, *]) | (refine .seq (.seq (.rd fun A hA K hK => ?_)); simp (maxSteps := 1000000) only [go_sem, hA.nil, hA.go, hA.yes, hA.noT, hA.noF, hA.skp, *]) | (refine .rd fun A hA K hK => ?_; simp (maxSteps := 1000000) only [go_sem, hA.nil, hA.go, hA.yes, hA.noT, hA.noF, hA.skp, *]) | (refine .cond (t := _) (by simp (maxSteps := 1000000) only [go_sem, *]; with_reducible rfl) (fun hs => ?_) (fun hs => ?_) <;> (first | (cases hs; done) | skip)) | (refine .seq (.cond (t := _) (by simp (maxSteps := 1000000) only [go_sem, *]; with_reducible rfl) (fun hs => ?_) (fun hs => ?_)) <;> (first | (cases hs; done) | skip)) | refine .skip ?_ | refine .seq (.block ?_) | refine .block ?_ | refine .exit ?_ | ((exact .ret (ret1b (by simp (maxSteps := 1000000) only [go_sem, sameB, *]) wf (fun b hb => by have q1 : b ≠ σ.next := (by omega); have q2 : b ≠ σ.next + 1 := (by omega); simp [q1, q2]) (.bool _))); done))

def emptyN : Node := ⟨0, [], [], [], 0, 0, ⟨#[]⟩⟩
theorem emptyN_L : nodeL emptyN = [.int .i64 0, .lit 1 [], .lit 1 [], .lit 1 [], .int .i64 0, .int .i64 0, .str ⟨#[]⟩] := rfl

theorem same_bare (x : Node) : sameB x emptyN = bareB x := by
  have e : ∀ l : List Int, (l == []) = decide (l.length = 0) := by intro l; cases l <;> simp
  have h3 : ((((x.ins.length + x.shape.length + x.a.length : Nat) : Int) == 0)) = (decide (x.ins.length = 0) && (decide (x.shape.length = 0) && decide (x.a.length = 0))) := by
    rw [Bool.eq_iff_iff]; simp only [beq_iff_eq, Bool.and_eq_true, decide_eq_true_eq]; omega
  simp only [sameB, bareB, emptyN, e, h3, Bool.and_assoc]

/-- code.zeroNode -/
theorem zeroNode_spec (x : Node) (σ : St) : T Try.prog 126 [.agg (nodeL x)] σ (.bool (bareB x)) σ := by
  refine in126 (by simp) fun wf hab => ?_
  clear hab
  unfold c126
  first | refine .seq (.rg fun A hA K hK => ?_) | refine .seq (.seq (.rg fun A hA K hK => ?_)) | refine .rg fun A hA K hK => ?_ | refine .seq (.rd fun A hA K hK => ?_) | refine .seq (.seq (.rd fun A hA K hK => ?_)) | refine .rd fun A hA K hK => ?_
  simp (maxSteps := 1000000) only [go_sem, hA.nil, hA.go, hA.yes, hA.noT, hA.noF, hA.skp]
  refine hK _ _ ?_; clear hK K hA A
  first | refine .seq (.rg fun A hA K hK => ?_) | refine .seq (.seq (.rg fun A hA K hK => ?_)) | refine .rg fun A hA K hK => ?_ | refine .seq (.rd fun A hA K hK => ?_) | refine .seq (.seq (.rd fun A hA K hK => ?_)) | refine .rd fun A hA K hK => ?_
  simp (maxSteps := 1000000) only [go_sem, hA.nil, hA.go, hA.yes, hA.noT, hA.noF, hA.skp]
  refine ⟨_, sameNode_spec x emptyN _, ?_⟩
  rw [same_bare]
  try simp (maxSteps := 1000000) only [go_sem, hA.nil, hA.go]
  refine hK _ _ ?_; clear hK K hA A
  exact .ret (ret1b (by simp (maxSteps := 1000000) only [go_sem]) wf (fun b hb => by have q1 : b ≠ σ.next := (by omega); have q2 : b ≠ σ.next + 1 := (by omega); simp [q1, q2]) (.bool _))

theorem and_out (i : Instr) (b c : Bool) : (i.out == 0 && (b && c)) = (b && (i.out == 0 && c)) := by cases (i.out == 0) <;> cases b <;> rfl

/-- code.shaped -/
theorem shaped_spec (i : Instr) (σ : St) : T Try.prog 104 [.agg (instrL i)] σ (.bool (formB i)) σ := by
  refine in104 (by simp) fun wf hab => ?_
  clear hab
  unfold c104
  repeat' (first | (refine hK _ _ ?_; clear hK K hA A) | (refine ⟨_, zeroNode_spec i.node _, ?_⟩; try simp (maxSteps := 1000000) only [go_sem, hA.nil, hA.go, hA.yes, hA.noT, hA.noF, hA.skp, *]) | (refine hA.cut (by simp (maxSteps := 1000000) only [go_sem, *]; with_reducible rfl) (fun hs => ?_) (fun hs => ?_) <;> simp (maxSteps := 1000000) only [go_sem, hA.nil, hA.go, hA.yes, hA.noT, hA.noF, hA.skp, *]) | (refine .seq (.rg fun A hA K hK => ?_); simp (maxSteps := 1000000) only [go_sem, hA.nil, hA.go, hA.yes, hA.noT, hA.noF, hA.skp, *]) | (refine .seq (.seq (.rg fun A hA K hK => ?_)); simp (maxSteps := 1000000) only [go_sem, hA.nil, hA.go, hA.yes, hA.noT, hA.noF, hA.skp, *]) | (refine .rg fun A hA K hK => ?_; simp (maxSteps := 1000000) only [go_sem, hA.nil, hA.go, hA.yes, hA.noT, hA.noF, hA.skp, *]) | (refine .seq (.rd fun A hA K hK => ?_); simp (maxSteps := 1000000) only [go_sem, hA.nil, hA.go, hA.yes, hA.noT, hA.noF, hA.skp, *]) | (refine .seq (.seq (.rd fun A hA K hK => ?_)); simp (maxSteps := 1000000) only [go_sem, hA.nil, hA.go, hA.yes, hA.noT, hA.noF, hA.skp, *]) | (refine .rd fun A hA K hK => ?_; simp (maxSteps := 1000000) only [go_sem, hA.nil, hA.go, hA.yes, hA.noT, hA.noF, hA.skp, *]) | (refine .cond (t := _) (by simp (maxSteps := 1000000) only [go_sem, *]; with_reducible rfl) (fun hs => ?_) (fun hs => ?_) <;> (first | (cases hs; done) | skip)) | (refine .seq (.cond (t := _) (by simp (maxSteps := 1000000) only [go_sem, *]; with_reducible rfl) (fun hs => ?_) (fun hs => ?_)) <;> (first | (cases hs; done) | skip)) | refine .skip ?_ | refine .seq (.block ?_) | refine .block ?_ | refine .exit ?_ | ((refine .ret (ret1b (by simp only [go_sem, formB, and_out i, *]) wf (fun b hb => by have q1 : b ≠ σ.next := (by omega); have q2 : b ≠ σ.next + 1 := (by omega); simp [q1, q2]) (.bool _))); done))

end Go.Proofs.Ytfjbabacpnnjmaa.Av
