/- A logic of small values, and walks in it: ref18.Pairs. code.shaped: what an instruction is to be. code.Right. code.program, code.Right. code.Count, code.Sends. code.ends: a kind's messages as a map. -/
import Derived.Test.YtfjbabacpnnjmaaAv5
set_option linter.unusedVariables false
set_option linter.unusedSimpArgs false
set_option linter.deprecated false
namespace Go.Proofs.Ytfjbabacpnnjmaa.Av
open Go Go.Av
set_option maxRecDepth 20000
set_option maxHeartbeats 4000000

attribute [local go_sem] step_apply
attribute [local go_sem] instr0 instr1 instr2 instr10 instr11 instr12 instrN instrA instr_len node0 node1 node2 node3 node4 node5 node6 nodeA node_len getD_drop List.length_drop splice List.nil_append List.append_nil cond_true cond_false List.set_cons_zero List.length_set aopq aop ev put_some put_none upd_apply abin asNat bounds row1 mk I ints progA progsA List.length_cons List.length_nil List.length_map List.drop_zero List.drop_succ_cons List.drop_nil List.getD_cons_zero List.getD_cons_succ Option.getD_none Option.getD_some
 List.take_succ_cons List.take_zero List.take_nil true_and and_true Int.toNat_natCast if_true if_false Nat.zero_add Nat.add_zero List.map_cons List.map_nil Nat.reduceEqDiff Nat.left_eq_add Nat.add_eq_left Nat.add_left_cancel_iff Nat.add_assoc Nat.reduceSub Nat.reduceAdd Nat.reduceLeDiff Nat.le_refl Nat.zero_le Nat.zero_lt_one Nat.lt_add_one Int.reduceLT Int.reduceLE Int.reduceToNat Nat.reduceLT Nat.reduceBEq Bool.false_eq_true Nat.reduceBNe ne_eq not_false_eq_true not_true_eq_false false_and and_false reduceIte Int.natCast_nonneg reduceCtorEq parts_agg parts_bool parts_int parts_str parts_lit parts_nils parts_sl parts_ptr Int.natCast_nonneg Int.natCast_nonneg beq_self_eq_true bne_self_eq_false St.push St.set St.kill Bool.true_and Bool.false_and Bool.and_true Bool.and_false Bool.true_or Bool.false_or Bool.or_true Bool.or_false Bool.not_true Bool.not_false


theorem firstNZ_zero {xs : List Int} (h : firstNZ xs = 0) : ∀ x ∈ xs, x = 0 := by
 induction xs with
 | nil => simp
 | cons y ys ih =>
  simp only [firstNZ] at h
  split at h
  ·rename_i hy; intro x hx
   rcases List.mem_cons.1 hx with rfl | hx
   ·exact hy
   ·exact ih h x hx
  ·rename_i hy; exact absurd h hy

theorem right_each {l : List (List Instr)} (h : rightE l = 0) : (1 ≤ l.length ∧ l.length ≤ 8) ∧ ∀ p ∈ l, p.length ≤ 65536 ∧ ∀ n (hn : n < p.length), formB p[n] = true ∧ namedB (p.take n) l.length p[n] = true := by
 unfold rightE at h
 split at h
 ·cases h
 rename_i h1
 split at h
 ·cases h
 rename_i h2
 refine ⟨by simp at h1; omega, fun p hp => ⟨?_, fun n hn => ?_⟩⟩
 ·simp only [List.any_eq_true, not_exists, not_and] at h2
  have := h2 p hp
  simp at this; omega
 ·have h3 := firstNZ_zero h (progE p l.length) (List.mem_map.2 ⟨p, hp, rfl⟩)
  have h4 := firstNZ_zero h3 (stepE p l.length n) (List.mem_map.2 ⟨n, by simpa using hn, rfl⟩)
  simp only [stepE, List.getElem?_eq_getElem hn] at h4
  split at h4
  ·cases h4
  rename_i h5
  split at h4
  ·cases h4
  rename_i h6
  exact ⟨by simpa using h5, by simpa using h6⟩

theorem right_dev {l : List (List Instr)} (h : rightE l = 0) : ∀ p ∈ l, ∀ i ∈ p, 0 ≤ i.dev ∧ i.dev < l.length := by
 intro p hp i hi
 obtain ⟨n, hn, rfl⟩ := List.getElem_of_mem hi
 have := (((right_each h).2 p hp).2 n hn).2
 simp only [namedB, Bool.and_eq_true, decide_eq_true_eq] at this
 exact ⟨this.2.2.1, this.2.2.2.1⟩

def hitB (kind dev tag : Int) (i : Instr) : Bool := i.kind == kind && (i.dev == dev && i.tag == tag)
def countB (p : List Instr) (kind dev tag : Int) : Nat := p.countP (hitB kind dev tag)

/-- parquetryref18.count -/
theorem count_spec (p : List Instr) (kind dev tag : Int) (σ : St) : T Try.prog 100 [progA p, I kind, I dev, I tag] σ (I (countB p kind dev tag)) σ := by
 refine in100 (by simp) fun wf hab => ?_
 have hp := hab_prog (hab 0 (by simp))
 clear hab
 unfold c100
 refine .seq (.rg fun A hA K hK => ?_)
 simp (maxSteps := 1000000) only [go_sem, hA.nil, hA.go, hA.yes, hA.noT, hA.noF, hA.skp]
 refine hK _ _ ?_; clear hK K hA A
 refine .seq (.rg fun A hA K hK => ?_)
 simp (maxSteps := 1000000) only [go_sem, hA.nil, hA.go, hA.yes, hA.noT, hA.noF, hA.skp]
 refine hK _ _ ?_; clear hK K hA A
 refine .seq (.seq (.rg fun A hA K hK => ?_))
 simp (maxSteps := 1000000) only [go_sem, hA.nil, hA.go, hA.yes, hA.noT, hA.noF, hA.skp]
 refine hK _ _ ?_; clear hK K hA A
 refine .range (N := p.length) (fun i F s => F 1 = I kind ∧ F 2 = I dev ∧ F 3 = I tag ∧ F 9 = I (countB (p.take i) kind dev tag) ∧ F 12 = progA p ∧ F 13 = I p.length ∧ F 14 = I i ∧ Ext σ s) hp ?_ ?_ ?_ ?_
 ·exact ⟨by simp (maxSteps := 1000000) only [go_sem], by simp (maxSteps := 1000000) only [go_sem], by simp (maxSteps := 1000000) only [go_sem], by simp (maxSteps := 1000000) only [go_sem]; try rfl, by simp (maxSteps := 1000000) only [go_sem], by simp (maxSteps := 1000000) only [go_sem], by simp (maxSteps := 1000000) only [go_sem]; try rfl, .refl σ⟩
 ·rintro i F s ⟨_, _, _, _, _, h1, h2, _⟩
  exact ⟨h2, h1⟩
 ·rintro i F s hlt ⟨h1, h2, h3, h9, h12, h13, h14, hx⟩
  have e1 : (i : Int) < p.length := by omega
  have et : countB (p.take (i + 1)) kind dev tag = countB (p.take i) kind dev tag + if hitB kind dev tag p[i] = true then 1 else 0 := by
   simp only [countB]
   rw [List.take_add_one, List.countP_append]
   simp [hlt, List.countP_singleton]
  have hc : countB (p.take i) kind dev tag ≤ i := by
   have := List.countP_le_length (p := hitB kind dev tag) (l := p.take i)
   simp only [countB]; simp at this; omega
  refine .seq (.rg fun A hA K hK => ?_)
  simp (maxSteps := 1000000) only [go_sem, hA.nil, hA.go, hA.yes, hA.noT, hA.noF, hA.skp, h1, h2, h3, h9, h12, h13, h14, prog_get hlt, e1]
  refine hK _ _ ?_; clear hK K hA A
  refine .mid (fun F' s' => F' 33 = .bool (hitB kind dev tag p[i]) ∧ F' 1 = I kind ∧ F' 2 = I dev ∧ F' 3 = I tag ∧ F' 9 = I (countB (p.take i) kind dev tag) ∧ F' 12 = progA p ∧ F' 13 = I p.length ∧ F' 14 = I i ∧ Ext σ s') ?_ ?_
  ·refine .rg fun A hA K hK => ?_
   simp (maxSteps := 1000000) only [go_sem, hA.nil, hA.go, hA.yes, hA.noT, hA.noF, hA.skp, h1, h2, h3, h9, h12, h13, h14]
   have hfin : Ext σ { next := s.next + 1, blk := fun b => if b = s.next then some (Blk.cells 13 [instrL p[i]]) else if b = s.next then some (Blk.cells 13 [[I 0, I 0, .lit 1 [], I 0, .lit 1 [], .lit 1 [], .lit 1 [], I 0, I 0, .str ⟨#[]⟩, I 0, I 0, I 0]]) else s.blk b } := by
    refine ⟨by have := hx.1; simp only; omega, fun b hb => ?_⟩
    have := hx.1
    simp only
    rw [if_neg (by omega), if_neg (by omega)]; exact hx.2 b hb
   repeat' (first | (refine hK _ _ ?_; (exact ⟨by simp (maxSteps := 1000000) only [go_sem, hitB, *], by simp (maxSteps := 1000000) only [go_sem, h1], by simp (maxSteps := 1000000) only [go_sem, h2], by simp (maxSteps := 1000000) only [go_sem, h3], by simp (maxSteps := 1000000) only [go_sem, h9], by simp (maxSteps := 1000000) only [go_sem, h12], by simp (maxSteps := 1000000) only [go_sem, h13], by simp (maxSteps := 1000000) only [go_sem, h14], hfin⟩); done) | (refine hA.cut (by simp (maxSteps := 1000000) only [go_sem, h1, h2, h3, h9, h12, h13, h14]; with_reducible rfl) (fun hs => ?_) (fun hs => ?_) <;> simp (maxSteps := 1000000) only [go_sem, hA.nil, hA.go, hA.yes, hA.noT, hA.noF, hA.skp, *, h1, h2, h3, h9, h12, h13, h14]))
  ·rintro F' s' ⟨hG, h1, h2, h3, h9, h12, h13, h14, hx⟩
   refine .cond hG (fun ht => ?_) (fun ht => .skip ?_)
   ·rw [if_pos ht] at et
    have ew : IntKind.i64.wrap ((countB (p.take i) kind dev tag : Int) + 1) = ((countB (p.take i) kind dev tag + 1 : Nat) : Int) := wrap_succ (by omega)
    refine .rg fun A hA K hK => ?_
    simp (maxSteps := 1000000) only [go_sem, hA.nil, hA.go, hA.yes, hA.noT, hA.noF, hA.skp, h9]
    refine hK _ _ ?_; clear hK K hA A
    exact ⟨by simp (maxSteps := 1000000) only [go_sem, h14], by simp (maxSteps := 1000000) only [go_sem, h1], by simp (maxSteps := 1000000) only [go_sem, h2], by simp (maxSteps := 1000000) only [go_sem, h3], by simp (maxSteps := 1000000) only [go_sem, et, ew], by simp (maxSteps := 1000000) only [go_sem, h12], by simp (maxSteps := 1000000) only [go_sem, h13], by simp (maxSteps := 1000000) only [go_sem], hx⟩
   ·rw [if_neg (by rw [ht]; simp)] at et
    exact ⟨by simp (maxSteps := 1000000) only [go_sem, h14], by simp (maxSteps := 1000000) only [go_sem, h1], by simp (maxSteps := 1000000) only [go_sem, h2], by simp (maxSteps := 1000000) only [go_sem, h3], by simp (maxSteps := 1000000) only [go_sem, h9, et], by simp (maxSteps := 1000000) only [go_sem, h12], by simp (maxSteps := 1000000) only [go_sem, h13], by simp (maxSteps := 1000000) only [go_sem], hx⟩
 rintro F s ⟨h1, h2, h3, h9, h12, h13, h14, hx⟩
 rw [List.take_length] at h9
 refine .seq (.rg fun A hA K hK => ?_)
 simp (maxSteps := 1000000) only [go_sem, hA.nil, hA.go, hA.yes, hA.noT, hA.noF, hA.skp, h9]
 refine hK _ _ ?_; clear hK K hA A
 exact .ret (ret1b (by simp (maxSteps := 1000000) only [go_sem, h9]) wf hx.2 (.int _ _))

def dupB (p : List Instr) (i : Instr) : Bool := (i.kind == 3 || i.kind == 4) && decide ((countB p i.kind i.dev i.tag : Int) > 1)
def missB (l : List (List Instr)) (d : Nat) (i : Instr) : Bool :=
 (i.kind == 3 && ((countB (l.getD i.dev.toNat []) 4 d i.tag : Nat) : Int) != 1) || (i.kind == 4 && ((countB (l.getD i.dev.toNat []) 3 d i.tag : Nat) : Int) != 1)
def pairsE (l : List (List Instr)) : Int :=
 if rightE l ≠ 0 then rightE l else
 if l.any (fun p => p.any (dupB p)) = true then 25 else
 if (List.range l.length).any (fun d => (l.getD d []).any (missB l d)) = true then 22 else 0

theorem any_take' {α : Type} {p : α → Bool} {l : List α} {i : Nat} (h : i < l.length) (h0 : (l.take i).any p = false) : (l.take (i + 1)).any p = p l[i] ∧ (p l[i] = true → l.any p = true) := by
 refine ⟨by rw [List.take_add_one, List.any_append, h0]; simp [h], fun hp => List.any_eq_true.2 ⟨_, List.getElem_mem h, hp⟩⟩

theorem ext_two {σ s : St} {B B' : Blk} (hx : Ext σ s) : Ext σ { next := s.next + 1, blk := fun b => if b = s.next then some B else if b = s.next then some B' else s.blk b } := by
 refine ⟨by have := hx.1; simp only; omega, fun b hb => ?_⟩
 have := hx.1
 simp only
 rw [if_neg (by omega), if_neg (by omega)]; exact hx.2 b hb

/-- parquetryref18.Pairs -/
theorem refPairs_spec (l : List (List Instr)) (σ : St) : T Try.prog 58 [progsA l] σ (I (pairsE l)) σ := by
 refine in58 (by simp) fun wf hab => ?_
 obtain ⟨hl, hps⟩ := hab_progs (hab 0 (by simp))
 clear hab
 unfold c58
 refine .seq (.rg fun A hA K hK => ?_)
 simp (maxSteps := 1000000) only [go_sem, hA.nil, hA.go, hA.yes, hA.noT, hA.noF, hA.skp]
 refine hK _ _ ?_; clear hK K hA A
 refine .seq (.seq (.rg fun A hA K hK => ?_))
 simp (maxSteps := 1000000) only [go_sem, hA.nil, hA.go, hA.yes, hA.noT, hA.noF, hA.skp]
 refine ⟨_, refRight_spec l _, ?_⟩
 simp (maxSteps := 1000000) only [go_sem, hA.nil, hA.go]
 refine hK _ _ ?_; clear hK K hA A
 refine .seq (.rg fun A hA K hK => ?_)
 simp (maxSteps := 1000000) only [go_sem, hA.nil, hA.go, hA.yes, hA.noT, hA.noF, hA.skp]
 refine hK _ _ ?_; clear hK K hA A
 refine .cond (t := _) (by simp (maxSteps := 1000000) only [go_sem]; try rfl) (fun ht => ?_) (fun ht => .skip ?_)
 ·have hw : pairsE l = rightE l := by rw [pairsE, if_pos (by simpa using ht)]
  refine .seq (.rg fun A hA K hK => ?_)
  simp (maxSteps := 1000000) only [go_sem, hA.nil, hA.go, hA.yes, hA.noT, hA.noF, hA.skp]
  refine hK _ _ ?_; clear hK K hA A
  exact .ret (ret1 (by simp (maxSteps := 1000000) only [go_sem, hw]) rfl)
 have hr : rightE l = 0 := by simpa using ht
 have hdev := right_dev hr
 have hP : pairsE l = if l.any (fun p => p.any (dupB p)) = true then 25 else if (List.range l.length).any (fun d => (l.getD d []).any (missB l d)) = true then 22 else 0 := by
  rw [pairsE, if_neg (by rw [hr]; simp)]
 refine .seq (.seq (.rg fun A hA K hK => ?_))
 simp (maxSteps := 1000000) only [go_sem, hA.nil, hA.go, hA.yes, hA.noT, hA.noF, hA.skp]
 refine hK _ _ ?_; clear hK K hA A
 refine .range (N := l.length) (fun i F s => F 0 = progsA l ∧ F 16 = I l.length ∧ F 17 = I i ∧ Ext σ s ∧ (l.take i).any (fun p => p.any (dupB p)) = false) hl ?_ ?_ ?_ ?_
 ·exact ⟨by simp (maxSteps := 1000000) only [go_sem], by simp (maxSteps := 1000000) only [go_sem], by simp (maxSteps := 1000000) only [go_sem]; try rfl, .refl σ, by simp⟩
 ·rintro i F s ⟨_, h1, h2, _⟩
  exact ⟨h2, h1⟩
 ·rintro i F s hlt ⟨h0, h16, h17, hx, hj⟩
  have e1 : (i : Int) < l.length := by omega
  obtain ⟨et, ex⟩ := any_take' hlt hj
  have hp : l[i].length ≤ most := hab_prog (hps _ (List.getElem_mem hlt))
  refine .seq (.rg fun A hA K hK => ?_)
  simp (maxSteps := 1000000) only [go_sem, hA.nil, hA.go, hA.yes, hA.noT, hA.noF, hA.skp, h0, h16, h17]
  refine hK _ _ ?_; clear hK K hA A
  refine .seq (.rg fun A hA K hK => ?_)
  simp (maxSteps := 1000000) only [go_sem, hA.nil, hA.go, hA.yes, hA.noT, hA.noF, hA.skp, h0, h16, h17, progs_get' hlt, e1]
  refine hK _ _ ?_; clear hK K hA A
  refine .range (N := l[i].length) (fun n F s => F 0 = progsA l ∧ F 16 = I l.length ∧ F 17 = I i ∧ F 4 = I i ∧ F 23 = progA l[i] ∧ F 24 = I l[i].length ∧ F 25 = I n ∧ Ext σ s ∧ (l[i].take n).any (dupB l[i]) = false) hp ?_ ?_ ?_ ?_
  ·exact ⟨by simp (maxSteps := 1000000) only [go_sem, h0], by simp (maxSteps := 1000000) only [go_sem, h16], by simp (maxSteps := 1000000) only [go_sem, h17], by simp (maxSteps := 1000000) only [go_sem], by simp (maxSteps := 1000000) only [go_sem], by simp (maxSteps := 1000000) only [go_sem], by simp (maxSteps := 1000000) only [go_sem]; try rfl, hx, by simp⟩
  ·rintro n F s ⟨_, _, _, _, _, h1, h2, _⟩
   exact ⟨h2, h1⟩
  ·rintro n F s hn ⟨h0, h16, h17, h4, h23, h24, h25, hx, hj2⟩
   have e2 : (n : Int) < l[i].length := by omega
   obtain ⟨et2, ex2⟩ := any_take' hn hj2
   refine .seq (.rg fun A hA K hK => ?_)
   simp (maxSteps := 1000000) only [go_sem, hA.nil, hA.go, hA.yes, hA.noT, hA.noF, hA.skp, h23, h25, prog_get hn, e2]
   refine hK _ _ ?_; clear hK K hA A
   refine .mid (fun F' s' => F' 50 = .bool (dupB l[i] l[i][n]) ∧ F' 0 = progsA l ∧ F' 16 = I l.length ∧ F' 17 = I i ∧ F' 4 = I i ∧ F' 23 = progA l[i] ∧ F' 24 = I l[i].length ∧ F' 25 = I n ∧ Ext σ s') ?_ ?_
   ·have hx2 := fun B B' => ext_two (B := B) (B' := B') hx
    clear hx hps hdev hP hj hj2 et et2 ex ex2
    repeat' (first | (refine hK _ _ ?_; clear hK K hA A) | (refine ⟨_, count_spec _ _ _ _ _, ?_⟩; try simp (maxSteps := 1000000) only [go_sem, hA.nil, hA.go, hA.yes, hA.noT, hA.noF, hA.skp, *, h0, h4, progs_get' hlt, e1]) | (refine hA.cut (by simp (maxSteps := 1000000) only [go_sem, *, h0, h4, progs_get' hlt, e1]; with_reducible rfl) (fun hs => ?_) (fun hs => ?_) <;> simp (maxSteps := 1000000) only [go_sem, hA.nil, hA.go, hA.yes, hA.noT, hA.noF, hA.skp, *, h0, h4, progs_get' hlt, e1]) | (refine .seq (.rg fun A hA K hK => ?_); simp (maxSteps := 1000000) only [go_sem, hA.nil, hA.go, hA.yes, hA.noT, hA.noF, hA.skp, *, h0, h4, progs_get' hlt, e1]) | (refine .seq (.seq (.rg fun A hA K hK => ?_)); simp (maxSteps := 1000000) only [go_sem, hA.nil, hA.go, hA.yes, hA.noT, hA.noF, hA.skp, *, h0, h4, progs_get' hlt, e1]) | (refine .rg fun A hA K hK => ?_; simp (maxSteps := 1000000) only [go_sem, hA.nil, hA.go, hA.yes, hA.noT, hA.noF, hA.skp, *, h0, h4, progs_get' hlt, e1]) | (refine .seq (.rd fun A hA K hK => ?_); simp (maxSteps := 1000000) only [go_sem, hA.nil, hA.go, hA.yes, hA.noT, hA.noF, hA.skp, *, h0, h4, progs_get' hlt, e1]) | (refine .seq (.seq (.rd fun A hA K hK => ?_)); simp (maxSteps := 1000000) only [go_sem, hA.nil, hA.go, hA.yes, hA.noT, hA.noF, hA.skp, *, h0, h4, progs_get' hlt, e1]) | (refine .rd fun A hA K hK => ?_; simp (maxSteps := 1000000) only [go_sem, hA.nil, hA.go, hA.yes, hA.noT, hA.noF, hA.skp, *, h0, h4, progs_get' hlt, e1]) | (refine .cond (t := _) (by simp (maxSteps := 1000000) only [go_sem, *, h0, h4, progs_get' hlt, e1]; with_reducible rfl) (fun hs => ?_) (fun hs => ?_) <;> (first | (cases hs; done) | skip)) | (refine .seq (.cond (t := _) (by simp (maxSteps := 1000000) only [go_sem, *, h0, h4, progs_get' hlt, e1]; with_reducible rfl) (fun hs => ?_) (fun hs => ?_)) <;> (first | (cases hs; done) | skip)) | refine .skip ?_ | refine .seq (.block ?_) | refine .block ?_ | refine .exit ?_ | ((exact ⟨by simp (maxSteps := 1000000) only [go_sem, dupB, *], by simp (maxSteps := 1000000) only [go_sem, h0], by simp (maxSteps := 1000000) only [go_sem, h16], by simp (maxSteps := 1000000) only [go_sem, h17], by simp (maxSteps := 1000000) only [go_sem, h4], by simp (maxSteps := 1000000) only [go_sem, h23], by simp (maxSteps := 1000000) only [go_sem, h24], by simp (maxSteps := 1000000) only [go_sem, h25], hx2 _ _⟩); done))
   ·rintro F' s' ⟨hG, h0, h16, h17, h4, h23, h24, h25, hx⟩
    refine .cond hG (fun ht => ?_) (fun ht => .skip ?_)
    ·have hw : pairsE l = 25 := by rw [hP, if_pos (ex (ex2 ht))]
     refine .seq (.rg fun A hA K hK => ?_)
     simp (maxSteps := 1000000) only [go_sem, hA.nil, hA.go, hA.yes, hA.noT, hA.noF, hA.skp]
     refine hK _ _ ?_; clear hK K hA A
     exact .ret (ret1b (by simp (maxSteps := 1000000) only [go_sem, hw]) wf hx.2 (.int _ _))
    ·rw [ht] at et2
     exact ⟨by simp (maxSteps := 1000000) only [go_sem, h25], by simp (maxSteps := 1000000) only [go_sem, h0], by simp (maxSteps := 1000000) only [go_sem, h16], by simp (maxSteps := 1000000) only [go_sem, h17], by simp (maxSteps := 1000000) only [go_sem, h4], by simp (maxSteps := 1000000) only [go_sem, h23], by simp (maxSteps := 1000000) only [go_sem, h24], by simp (maxSteps := 1000000) only [go_sem], hx, et2⟩
  ·rintro F s ⟨h0, h16, h17, h4, h23, h24, h25, hx, hj2⟩
   rw [List.take_length] at hj2
   rw [hj2] at et
   exact ⟨by simp (maxSteps := 1000000) only [go_sem, h17], by simp (maxSteps := 1000000) only [go_sem, h0], by simp (maxSteps := 1000000) only [go_sem, h16], by simp (maxSteps := 1000000) only [go_sem], hx, et⟩
 rintro F s ⟨h0, h16, h17, hx, hj⟩
 rw [List.take_length] at hj
 have hP2 : pairsE l = if (List.range l.length).any (fun d => (l.getD d []).any (missB l d)) = true then 22 else 0 := by
  rw [hP, if_neg (by rw [hj]; simp)]
 clear hP hj h16 h17
 have hrl : (List.range l.length).length = l.length := by simp
 refine .seq (.seq (.rg fun A hA K hK => ?_))
 simp (maxSteps := 1000000) only [go_sem, hA.nil, hA.go, hA.yes, hA.noT, hA.noF, hA.skp, h0]
 refine hK _ _ ?_; clear hK K hA A
 refine .range (N := l.length) (fun i F s => F 0 = progsA l ∧ F 54 = I l.length ∧ F 55 = I i ∧ Ext σ s ∧ ((List.range l.length).take i).any (fun d => (l.getD d []).any (missB l d)) = false) hl ?_ ?_ ?_ ?_
 ·exact ⟨by simp (maxSteps := 1000000) only [go_sem, h0], by simp (maxSteps := 1000000) only [go_sem], by simp (maxSteps := 1000000) only [go_sem]; try rfl, hx, by simp⟩
 ·rintro i F s ⟨_, h1, h2, _⟩
  exact ⟨h2, h1⟩
 ·rintro i F s hlt ⟨h0, h54, h55, hx, hj⟩
  have e1 : (i : Int) < l.length := by omega
  obtain ⟨et, ex⟩ := any_take' (by omega) hj
  rw [List.getElem_range] at et ex
  have hgl : l.getD i [] = l[i] := by simp [List.getD_eq_getElem?_getD, hlt]
  rw [hgl] at et ex
  have hp : l[i].length ≤ most := hab_prog (hps _ (List.getElem_mem hlt))
  refine .seq (.rg fun A hA K hK => ?_)
  simp (maxSteps := 1000000) only [go_sem, hA.nil, hA.go, hA.yes, hA.noT, hA.noF, hA.skp, h0, h54, h55]
  refine hK _ _ ?_; clear hK K hA A
  refine .seq (.rg fun A hA K hK => ?_)
  simp (maxSteps := 1000000) only [go_sem, hA.nil, hA.go, hA.yes, hA.noT, hA.noF, hA.skp, h0, h54, h55, progs_get' hlt, e1]
  refine hK _ _ ?_; clear hK K hA A
  refine .range (N := l[i].length) (fun n F s => F 0 = progsA l ∧ F 54 = I l.length ∧ F 55 = I i ∧ F 7 = I i ∧ F 61 = progA l[i] ∧ F 62 = I l[i].length ∧ F 63 = I n ∧ Ext σ s ∧ (l[i].take n).any (missB l i) = false) hp ?_ ?_ ?_ ?_
  ·exact ⟨by simp (maxSteps := 1000000) only [go_sem, h0], by simp (maxSteps := 1000000) only [go_sem, h54], by simp (maxSteps := 1000000) only [go_sem, h55], by simp (maxSteps := 1000000) only [go_sem], by simp (maxSteps := 1000000) only [go_sem], by simp (maxSteps := 1000000) only [go_sem], by simp (maxSteps := 1000000) only [go_sem]; try rfl, hx, by simp⟩
  ·rintro n F s ⟨_, _, _, _, _, h1, h2, _⟩
   exact ⟨h2, h1⟩
  ·rintro n F s hn ⟨h0, h54, h55, h7, h61, h62, h63, hx, hj2⟩
   have e2 : (n : Int) < l[i].length := by omega
   obtain ⟨et2, ex2⟩ := any_take' hn hj2
   obtain ⟨hd0, hd1⟩ := hdev l[i] (List.getElem_mem hlt) l[i][n] (List.getElem_mem hn)
   have e3 : (l.map fun p => [AV.lit 13 (p.map instrL)]).getD l[i][n].dev.toNat [] = [progA (l.getD l[i][n].dev.toNat [])] := by
    have : l[i][n].dev.toNat < l.length := by omega
    rw [progs_get' this]; simp [List.getD_eq_getElem?_getD, this]
   refine .seq (.rg fun A hA K hK => ?_)
   simp (maxSteps := 1000000) only [go_sem, hA.nil, hA.go, hA.yes, hA.noT, hA.noF, hA.skp, h61, h63, prog_get hn, e2]
   refine hK _ _ ?_; clear hK K hA A
   refine .mid (fun F' s' => F' 98 = .bool (missB l i l[i][n]) ∧ F' 0 = progsA l ∧ F' 54 = I l.length ∧ F' 55 = I i ∧ F' 7 = I i ∧ F' 61 = progA l[i] ∧ F' 62 = I l[i].length ∧ F' 63 = I n ∧ Ext σ s') ?_ ?_
   ·have hx2 := fun B B' => ext_two (B := B) (B' := B') hx
    clear hx hps hdev hP2 hj hj2 et et2 ex ex2 hgl
    repeat' (first | (refine hK _ _ ?_; clear hK K hA A) | (refine ⟨_, count_spec _ _ _ _ _, ?_⟩; try simp (maxSteps := 1000000) only [go_sem, hA.nil, hA.go, hA.yes, hA.noT, hA.noF, hA.skp, *, h0, h7, e3, hd0, hd1]) | (refine hA.cut (by simp (maxSteps := 1000000) only [go_sem, *, h0, h7, e3, hd0, hd1]; with_reducible rfl) (fun hs => ?_) (fun hs => ?_) <;> simp (maxSteps := 1000000) only [go_sem, hA.nil, hA.go, hA.yes, hA.noT, hA.noF, hA.skp, *, h0, h7, e3, hd0, hd1]) | (refine .seq (.rg fun A hA K hK => ?_); simp (maxSteps := 1000000) only [go_sem, hA.nil, hA.go, hA.yes, hA.noT, hA.noF, hA.skp, *, h0, h7, e3, hd0, hd1]) | (refine .seq (.seq (.rg fun A hA K hK => ?_)); simp (maxSteps := 1000000) only [go_sem, hA.nil, hA.go, hA.yes, hA.noT, hA.noF, hA.skp, *, h0, h7, e3, hd0, hd1]) | (refine .rg fun A hA K hK => ?_; simp (maxSteps := 1000000) only [go_sem, hA.nil, hA.go, hA.yes, hA.noT, hA.noF, hA.skp, *, h0, h7, e3, hd0, hd1]) | (refine .seq (.rd fun A hA K hK => ?_); simp (maxSteps := 1000000) only [go_sem, hA.nil, hA.go, hA.yes, hA.noT, hA.noF, hA.skp, *, h0, h7, e3, hd0, hd1]) | (refine .seq (.seq (.rd fun A hA K hK => ?_)); simp (maxSteps := 1000000) only [go_sem, hA.nil, hA.go, hA.yes, hA.noT, hA.noF, hA.skp, *, h0, h7, e3, hd0, hd1]) | (refine .rd fun A hA K hK => ?_; simp (maxSteps := 1000000) only [go_sem, hA.nil, hA.go, hA.yes, hA.noT, hA.noF, hA.skp, *, h0, h7, e3, hd0, hd1]) | (refine .cond (t := _) (by simp (maxSteps := 1000000) only [go_sem, *, h0, h7, e3, hd0, hd1]; with_reducible rfl) (fun hs => ?_) (fun hs => ?_) <;> (first | (cases hs; done) | skip)) | (refine .seq (.cond (t := _) (by simp (maxSteps := 1000000) only [go_sem, *, h0, h7, e3, hd0, hd1]; with_reducible rfl) (fun hs => ?_) (fun hs => ?_)) <;> (first | (cases hs; done) | skip)) | refine .skip ?_ | refine .seq (.block ?_) | refine .block ?_ | refine .exit ?_ | ((exact ⟨by simp (maxSteps := 1000000) only [go_sem, missB, *], by simp (maxSteps := 1000000) only [go_sem, h0], by simp (maxSteps := 1000000) only [go_sem, h54], by simp (maxSteps := 1000000) only [go_sem, h55], by simp (maxSteps := 1000000) only [go_sem, h7], by simp (maxSteps := 1000000) only [go_sem, h61], by simp (maxSteps := 1000000) only [go_sem, h62], by simp (maxSteps := 1000000) only [go_sem, h63], hx2 _ _⟩); done))
   ·rintro F' s' ⟨hG, h0, h54, h55, h7, h61, h62, h63, hx⟩
    refine .cond hG (fun ht => ?_) (fun ht => .skip ?_)
    ·have hw : pairsE l = 22 := by rw [hP2, if_pos (ex (ex2 ht))]
     refine .seq (.rg fun A hA K hK => ?_)
     simp (maxSteps := 1000000) only [go_sem, hA.nil, hA.go, hA.yes, hA.noT, hA.noF, hA.skp]
     refine hK _ _ ?_; clear hK K hA A
     exact .ret (ret1b (by simp (maxSteps := 1000000) only [go_sem, hw]) wf hx.2 (.int _ _))
    ·rw [ht] at et2
     exact ⟨by simp (maxSteps := 1000000) only [go_sem, h63], by simp (maxSteps := 1000000) only [go_sem, h0], by simp (maxSteps := 1000000) only [go_sem, h54], by simp (maxSteps := 1000000) only [go_sem, h55], by simp (maxSteps := 1000000) only [go_sem, h7], by simp (maxSteps := 1000000) only [go_sem, h61], by simp (maxSteps := 1000000) only [go_sem, h62], by simp (maxSteps := 1000000) only [go_sem], hx, et2⟩
  ·rintro F s ⟨h0, h54, h55, h7, h61, h62, h63, hx, hj2⟩
   rw [List.take_length] at hj2
   rw [hj2] at et
   exact ⟨by simp (maxSteps := 1000000) only [go_sem, h55], by simp (maxSteps := 1000000) only [go_sem, h0], by simp (maxSteps := 1000000) only [go_sem, h54], by simp (maxSteps := 1000000) only [go_sem], hx, et⟩
 rintro F s ⟨h0, h54, h55, hx, hj⟩
 rw [List.take_of_length_le (by omega)] at hj
 have hw : pairsE l = 0 := by rw [hP2, if_neg (by rw [hj]; simp)]
 refine .seq (.rg fun A hA K hK => ?_)
 simp (maxSteps := 1000000) only [go_sem, hA.nil, hA.go, hA.yes, hA.noT, hA.noF, hA.skp]
 refine hK _ _ ?_; clear hK K hA A
 exact .ret (ret1b (by simp (maxSteps := 1000000) only [go_sem, hw]) wf hx.2 (.int _ _))

def emptyN : Node := ⟨0, [], [], [], 0, 0, ⟨#[]⟩⟩
theorem foldl_take {α β : Type} (f : β → α → β) (a : β) (l : List α) (i : Nat) (h : i < l.length) : (l.take (i + 1)).foldl f a = f ((l.take i).foldl f a) l[i] := by
 rw [List.take_add_one, List.foldl_append]; simp [h]

def cntE (l : List (List Instr)) : Int := l.foldl (fun n p => IntKind.i64.wrap (n + p.length)) 0
abbrev Key := List Int
def addK (st : List Key × Bool) (k : Key) : List Key × Bool := (if st.1.contains k = true then st.1 else st.1 ++ [k], st.2 && !st.1.contains k)
def keyOf (kind : Int) (d : Nat) (i : Instr) : Key := if (kind == 4) = true then [i.dev, (d : Int), i.tag] else [(d : Int), i.dev, i.tag]
def keyP (kind : Int) (d : Nat) (st : List Key × Bool) (p : List Instr) : List Key × Bool := p.foldl (fun st i => if (i.kind != kind) = true then st else addK st (keyOf kind d i)) st
def endsE (kind : Int) (l : List (List Instr)) (n : Nat) : List Key × Bool := (List.range n).foldl (fun st d => keyP kind d st (l.getD d [])) ([], true)

theorem endsE_succ (kind : Int) (l : List (List Instr)) (n : Nat) : endsE kind l (n + 1) = keyP kind n (endsE kind l n) (l.getD n []) := by
 simp [endsE, List.range_succ]

end Go.Proofs.Ytfjbabacpnnjmaa.Av
