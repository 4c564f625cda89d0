/- A logic of small values, and walks in it: ref18.Pairs. code.shaped: what an instruction is to be. code.Right. code.program, code.Right. code.Count, code.Sends. -/
import Derived.Test.YtfjbabacpnnjmaaAv5
set_option linter.unusedVariables false
set_option linter.unusedSimpArgs false
set_option linter.deprecated false
namespace Go.Proofs.Ytfjbabacpnnjmaa.Av
open Go Go.Av
set_option maxRecDepth 20000
set_option maxHeartbeats 4000000

attribute [local go_sem] step_apply
attribute [local go_sem] instr0 instr1 instr2 instr10 instr11 instr12 instrN instrA instr_len node0 node1 node2 node3 node4 node5 node6 nodeA node_len getD_drop List.length_drop splice List.nil_append List.append_nil cond_true cond_false List.set_cons_zero List.length_set aopq aop ev put_some put_none upd_apply abin asNat bounds row1 mk I ints progA progsA List.length_cons List.length_nil List.length_map List.drop_zero List.drop_succ_cons List.drop_nil List.getD_cons_zero List.getD_cons_succ Option.getD_none Option.getD_some
  List.take_succ_cons List.take_zero List.take_nil true_and and_true Int.toNat_natCast if_true if_false Nat.zero_add Nat.add_zero List.map_cons List.map_nil Nat.reduceEqDiff Nat.left_eq_add Nat.add_eq_left Nat.add_left_cancel_iff Nat.add_assoc Nat.reduceSub Nat.reduceAdd Nat.reduceLeDiff Nat.le_refl Nat.zero_le Nat.zero_lt_one Nat.lt_add_one Int.reduceLT Int.reduceLE Int.reduceToNat Nat.reduceLT Nat.reduceBEq Bool.false_eq_true Nat.reduceBNe ne_eq not_false_eq_true not_true_eq_false false_and and_false reduceIte Int.natCast_nonneg reduceCtorEq parts_agg parts_bool parts_int parts_str parts_lit parts_nils parts_sl parts_ptr Int.natCast_nonneg Int.natCast_nonneg beq_self_eq_true bne_self_eq_false St.push St.set St.kill Bool.true_and Bool.false_and Bool.and_true Bool.and_false Bool.true_or Bool.false_or Bool.or_true Bool.or_false Bool.not_true Bool.not_false


theorem firstNZ_zero {xs : List Int} (h : firstNZ xs = 0) : ∀ x ∈ xs, x = 0 := by
  induction xs with
  | nil => simp
  | cons y ys ih =>
    simp only [firstNZ] at h
    split at h
    · rename_i hy; intro x hx
      rcases List.mem_cons.1 hx with rfl | hx
      · exact hy
      · exact ih h x hx
    · rename_i hy; exact absurd h hy

theorem right_each {l : List (List Instr)} (h : rightE l = 0) : (1 ≤ l.length ∧ l.length ≤ 8) ∧ ∀ p ∈ l, p.length ≤ 65536 ∧ ∀ n (hn : n < p.length), formB p[n] = true ∧ namedB (p.take n) l.length p[n] = true := by
  unfold rightE at h
  split at h
  · cases h
  rename_i h1
  split at h
  · cases h
  rename_i h2
  refine ⟨by simp at h1; omega, fun p hp => ⟨?_, fun n hn => ?_⟩⟩
  · simp only [List.any_eq_true, not_exists, not_and] at h2
    have := h2 p hp
    simp at this; omega
  · have h3 := firstNZ_zero h (progE p l.length) (List.mem_map.2 ⟨p, hp, rfl⟩)
    have h4 := firstNZ_zero h3 (stepE p l.length n) (List.mem_map.2 ⟨n, by simpa using hn, rfl⟩)
    simp only [stepE, List.getElem?_eq_getElem hn] at h4
    split at h4
    · cases h4
    rename_i h5
    split at h4
    · cases h4
    rename_i h6
    exact ⟨by simpa using h5, by simpa using h6⟩

theorem right_dev {l : List (List Instr)} (h : rightE l = 0) : ∀ p ∈ l, ∀ i ∈ p, 0 ≤ i.dev ∧ i.dev < l.length := by
  intro p hp i hi
  obtain ⟨n, hn, rfl⟩ := List.getElem_of_mem hi
  have := (((right_each h).2 p hp).2 n hn).2
  simp only [namedB, Bool.and_eq_true, decide_eq_true_eq] at this
  exact ⟨this.2.2.1, this.2.2.2.1⟩

def hitB (kind dev tag : Int) (i : Instr) : Bool := i.kind == kind && (i.dev == dev && i.tag == tag)
def countB (p : List Instr) (kind dev tag : Int) : Nat := p.countP (hitB kind dev tag)

/-- parquetryref18.count -/
theorem count_spec (p : List Instr) (kind dev tag : Int) (σ : St) : T Try.prog 100 [progA p, I kind, I dev, I tag] σ (I (countB p kind dev tag)) σ := by
  refine in100 (by simp) fun wf hab => ?_
  have hp := hab_prog (hab 0 (by simp))
  clear hab
  unfold c100
  first | refine .seq (.rg fun A hA K hK => ?_) | refine .seq (.seq (.rg fun A hA K hK => ?_)) | refine .rg fun A hA K hK => ?_ | refine .seq (.rd fun A hA K hK => ?_) | refine .seq (.seq (.rd fun A hA K hK => ?_)) | refine .rd fun A hA K hK => ?_
  simp (maxSteps := 1000000) only [go_sem, hA.nil, hA.go, hA.yes, hA.noT, hA.noF, hA.skp]
  refine hK _ _ ?_; clear hK K hA A
  first | refine .seq (.rg fun A hA K hK => ?_) | refine .seq (.seq (.rg fun A hA K hK => ?_)) | refine .rg fun A hA K hK => ?_ | refine .seq (.rd fun A hA K hK => ?_) | refine .seq (.seq (.rd fun A hA K hK => ?_)) | refine .rd fun A hA K hK => ?_
  simp (maxSteps := 1000000) only [go_sem, hA.nil, hA.go, hA.yes, hA.noT, hA.noF, hA.skp]
  refine hK _ _ ?_; clear hK K hA A
  first | refine .seq (.rg fun A hA K hK => ?_) | refine .seq (.seq (.rg fun A hA K hK => ?_)) | refine .rg fun A hA K hK => ?_ | refine .seq (.rd fun A hA K hK => ?_) | refine .seq (.seq (.rd fun A hA K hK => ?_)) | refine .rd fun A hA K hK => ?_
  simp (maxSteps := 1000000) only [go_sem, hA.nil, hA.go, hA.yes, hA.noT, hA.noF, hA.skp]
  refine hK _ _ ?_; clear hK K hA A
  refine .range (N := p.length) (fun i F s => F 1 = I kind ∧ F 2 = I dev ∧ F 3 = I tag ∧ F 9 = I (countB (p.take i) kind dev tag) ∧ F 12 = progA p ∧ F 13 = I p.length ∧ F 14 = I i ∧ Ext σ s) hp ?_ ?_ ?_ ?_
  · exact ⟨by simp (maxSteps := 1000000) only [go_sem], by simp (maxSteps := 1000000) only [go_sem], by simp (maxSteps := 1000000) only [go_sem], by simp (maxSteps := 1000000) only [go_sem]; try rfl, by simp (maxSteps := 1000000) only [go_sem], by simp (maxSteps := 1000000) only [go_sem], by simp (maxSteps := 1000000) only [go_sem]; try rfl, .refl σ⟩
  · rintro i F s ⟨_, _, _, _, _, h1, h2, _⟩
    exact ⟨h2, h1⟩
  · rintro i F s hlt ⟨h1, h2, h3, h9, h12, h13, h14, hx⟩
    have e1 : (i : Int) < p.length := by omega
    have et : countB (p.take (i + 1)) kind dev tag = countB (p.take i) kind dev tag + if hitB kind dev tag p[i] = true then 1 else 0 := by
      simp only [countB]
      rw [List.take_add_one, List.countP_append]
      simp [hlt, List.countP_singleton]
    have hc : countB (p.take i) kind dev tag ≤ i := by
      have := List.countP_le_length (p := hitB kind dev tag) (l := p.take i)
      simp only [countB]; simp at this; omega
    first | refine .seq (.rg fun A hA K hK => ?_) | refine .seq (.seq (.rg fun A hA K hK => ?_)) | refine .rg fun A hA K hK => ?_ | refine .seq (.rd fun A hA K hK => ?_) | refine .seq (.seq (.rd fun A hA K hK => ?_)) | refine .rd fun A hA K hK => ?_
    simp (maxSteps := 1000000) only [go_sem, hA.nil, hA.go, hA.yes, hA.noT, hA.noF, hA.skp, h1, h2, h3, h9, h12, h13, h14, prog_get hlt, e1]
    refine hK _ _ ?_; clear hK K hA A
    refine .mid (fun F' s' => F' 33 = .bool (hitB kind dev tag p[i]) ∧ F' 1 = I kind ∧ F' 2 = I dev ∧ F' 3 = I tag ∧ F' 9 = I (countB (p.take i) kind dev tag) ∧ F' 12 = progA p ∧ F' 13 = I p.length ∧ F' 14 = I i ∧ Ext σ s') ?_ ?_
    · first | refine .seq (.rg fun A hA K hK => ?_) | refine .seq (.seq (.rg fun A hA K hK => ?_)) | refine .rg fun A hA K hK => ?_ | refine .seq (.rd fun A hA K hK => ?_) | refine .seq (.seq (.rd fun A hA K hK => ?_)) | refine .rd fun A hA K hK => ?_
      simp (maxSteps := 1000000) only [go_sem, hA.nil, hA.go, hA.yes, hA.noT, hA.noF, hA.skp, h1, h2, h3, h9, h12, h13, h14]
      have hfin : Ext σ { next := s.next + 1, blk := fun b => if b = s.next then some (Blk.cells 13 [instrL p[i]]) else if b = s.next then some (Blk.cells 13 [[I 0, I 0, .lit 1 [], I 0, .lit 1 [], .lit 1 [], .lit 1 [], I 0, I 0, .str ⟨#[]⟩, I 0, I 0, I 0]]) else s.blk b } := by
        refine ⟨by have := hx.1; simp only; omega, fun b hb => ?_⟩
        have := hx.1
        simp only
        rw [if_neg (by omega), if_neg (by omega)]; exact hx.2 b hb
      repeat' (first | (refine hK _ _ ?_; (exact ⟨by simp (maxSteps := 1000000) only [go_sem, hitB, *], by simp (maxSteps := 1000000) only [go_sem, h1], by simp (maxSteps := 1000000) only [go_sem, h2], by simp (maxSteps := 1000000) only [go_sem, h3], by simp (maxSteps := 1000000) only [go_sem, h9], by simp (maxSteps := 1000000) only [go_sem, h12], by simp (maxSteps := 1000000) only [go_sem, h13], by simp (maxSteps := 1000000) only [go_sem, h14], hfin⟩); done) | (refine hA.cut (by simp (maxSteps := 1000000) only [go_sem, h1, h2, h3, h9, h12, h13, h14]; with_reducible rfl) (fun hs => ?_) (fun hs => ?_) <;> simp (maxSteps := 1000000) only [go_sem, hA.nil, hA.go, hA.yes, hA.noT, hA.noF, hA.skp, *, h1, h2, h3, h9, h12, h13, h14]))
    · rintro F' s' ⟨hG, h1, h2, h3, h9, h12, h13, h14, hx⟩
      refine .cond hG (fun ht => ?_) (fun ht => .skip ?_)
      · rw [if_pos ht] at et
        have ew : IntKind.i64.wrap ((countB (p.take i) kind dev tag : Int) + 1) = ((countB (p.take i) kind dev tag + 1 : Nat) : Int) := wrap_succ (by omega)
        first | refine .seq (.rg fun A hA K hK => ?_) | refine .seq (.seq (.rg fun A hA K hK => ?_)) | refine .rg fun A hA K hK => ?_ | refine .seq (.rd fun A hA K hK => ?_) | refine .seq (.seq (.rd fun A hA K hK => ?_)) | refine .rd fun A hA K hK => ?_
        simp (maxSteps := 1000000) only [go_sem, hA.nil, hA.go, hA.yes, hA.noT, hA.noF, hA.skp, h9]
        refine hK _ _ ?_; clear hK K hA A
        exact ⟨by simp (maxSteps := 1000000) only [go_sem, h14], by simp (maxSteps := 1000000) only [go_sem, h1], by simp (maxSteps := 1000000) only [go_sem, h2], by simp (maxSteps := 1000000) only [go_sem, h3], by simp (maxSteps := 1000000) only [go_sem, et, ew], by simp (maxSteps := 1000000) only [go_sem, h12], by simp (maxSteps := 1000000) only [go_sem, h13], by simp (maxSteps := 1000000) only [go_sem], hx⟩
      · rw [if_neg (by rw [ht]; simp)] at et
        exact ⟨by simp (maxSteps := 1000000) only [go_sem, h14], by simp (maxSteps := 1000000) only [go_sem, h1], by simp (maxSteps := 1000000) only [go_sem, h2], by simp (maxSteps := 1000000) only [go_sem, h3], by simp (maxSteps := 1000000) only [go_sem, h9, et], by simp (maxSteps := 1000000) only [go_sem, h12], by simp (maxSteps := 1000000) only [go_sem, h13], by simp (maxSteps := 1000000) only [go_sem], hx⟩
  rintro F s ⟨h1, h2, h3, h9, h12, h13, h14, hx⟩
  rw [List.take_length] at h9
  first | refine .seq (.rg fun A hA K hK => ?_) | refine .seq (.seq (.rg fun A hA K hK => ?_)) | refine .rg fun A hA K hK => ?_ | refine .seq (.rd fun A hA K hK => ?_) | refine .seq (.seq (.rd fun A hA K hK => ?_)) | refine .rd fun A hA K hK => ?_
  simp (maxSteps := 1000000) only [go_sem, hA.nil, hA.go, hA.yes, hA.noT, hA.noF, hA.skp, h9]
  refine hK _ _ ?_; clear hK K hA A
  exact .ret (ret1b (by simp (maxSteps := 1000000) only [go_sem, h9]) wf hx.2 (.int _ _))

def dupB (p : List Instr) (i : Instr) : Bool := (i.kind == 3 || i.kind == 4) && decide ((countB p i.kind i.dev i.tag : Int) > 1)
def missB (l : List (List Instr)) (d : Nat) (i : Instr) : Bool :=
  (i.kind == 3 && ((countB (l.getD i.dev.toNat []) 4 d i.tag : Nat) : Int) != 1) || (i.kind == 4 && ((countB (l.getD i.dev.toNat []) 3 d i.tag : Nat) : Int) != 1)
def pairsE (l : List (List Instr)) : Int :=
  if rightE l ≠ 0 then rightE l else
  if l.any (fun p => p.any (dupB p)) = true then 25 else
  if (List.range l.length).any (fun d => (l.getD d []).any (missB l d)) = true then 22 else 0

theorem any_take' {α : Type} {p : α → Bool} {l : List α} {i : Nat} (h : i < l.length) (h0 : (l.take i).any p = false) : (l.take (i + 1)).any p = p l[i] ∧ (p l[i] = true → l.any p = true) := by
  refine ⟨by rw [List.take_add_one, List.any_append, h0]; simp [h], fun hp => List.any_eq_true.2 ⟨_, List.getElem_mem h, hp⟩⟩

theorem ext_two {σ s : St} {B B' : Blk} (hx : Ext σ s) : Ext σ { next := s.next + 1, blk := fun b => if b = s.next then some B else if b = s.next then some B' else s.blk b } := by
  refine ⟨by have := hx.1; simp only; omega, fun b hb => ?_⟩
  have := hx.1
  simp only
  rw [if_neg (by omega), if_neg (by omega)]; exact hx.2 b hb

/-- parquetryref18.Pairs -/
theorem refPairs_spec (l : List (List Instr)) (σ : St) : T Try.prog 58 [progsA l] σ (I (pairsE l)) σ := by
  refine in58 (by simp) fun wf hab => ?_
  obtain ⟨hl, hps⟩ := hab_progs (hab 0 (by simp))
  clear hab
  unfold c58
  first | refine .seq (.rg fun A hA K hK => ?_) | refine .seq (.seq (.rg fun A hA K hK => ?_)) | refine .rg fun A hA K hK => ?_ | refine .seq (.rd fun A hA K hK => ?_) | refine .seq (.seq (.rd fun A hA K hK => ?_)) | refine .rd fun A hA K hK => ?_
  simp (maxSteps := 1000000) only [go_sem, hA.nil, hA.go, hA.yes, hA.noT, hA.noF, hA.skp]
  refine hK _ _ ?_; clear hK K hA A
  first | refine .seq (.rg fun A hA K hK => ?_) | refine .seq (.seq (.rg fun A hA K hK => ?_)) | refine .rg fun A hA K hK => ?_ | refine .seq (.rd fun A hA K hK => ?_) | refine .seq (.seq (.rd fun A hA K hK => ?_)) | refine .rd fun A hA K hK => ?_
  simp (maxSteps := 1000000) only [go_sem, hA.nil, hA.go, hA.yes, hA.noT, hA.noF, hA.skp]
  refine ⟨_, refRight_spec l _, ?_⟩
  simp (maxSteps := 1000000) only [go_sem, hA.nil, hA.go]
  refine hK _ _ ?_; clear hK K hA A
  first | refine .seq (.rg fun A hA K hK => ?_) | refine .seq (.seq (.rg fun A hA K hK => ?_)) | refine .rg fun A hA K hK => ?_ | refine .seq (.rd fun A hA K hK => ?_) | refine .seq (.seq (.rd fun A hA K hK => ?_)) | refine .rd fun A hA K hK => ?_
  simp (maxSteps := 1000000) only [go_sem, hA.nil, hA.go, hA.yes, hA.noT, hA.noF, hA.skp]
  refine hK _ _ ?_; clear hK K hA A
  refine .cond (t := _) (by simp (maxSteps := 1000000) only [go_sem]; try rfl) (fun ht => ?_) (fun ht => .skip ?_)
  · have hw : pairsE l = rightE l := by rw [pairsE, if_pos (by simpa using ht)]
    first | refine .seq (.rg fun A hA K hK => ?_) | refine .seq (.seq (.rg fun A hA K hK => ?_)) | refine .rg fun A hA K hK => ?_ | refine .seq (.rd fun A hA K hK => ?_) | refine .seq (.seq (.rd fun A hA K hK => ?_)) | refine .rd fun A hA K hK => ?_
    simp (maxSteps := 1000000) only [go_sem, hA.nil, hA.go, hA.yes, hA.noT, hA.noF, hA.skp]
    refine hK _ _ ?_; clear hK K hA A
    exact .ret (ret1 (by simp (maxSteps := 1000000) only [go_sem, hw]) rfl)
  have hr : rightE l = 0 := by simpa using ht
  have hdev := right_dev hr
  have hP : pairsE l = if l.any (fun p => p.any (dupB p)) = true then 25 else if (List.range l.length).any (fun d => (l.getD d []).any (missB l d)) = true then 22 else 0 := by
    rw [pairsE, if_neg (by rw [hr]; simp)]
  first | refine .seq (.rg fun A hA K hK => ?_) | refine .seq (.seq (.rg fun A hA K hK => ?_)) | refine .rg fun A hA K hK => ?_ | refine .seq (.rd fun A hA K hK => ?_) | refine .seq (.seq (.rd fun A hA K hK => ?_)) | refine .rd fun A hA K hK => ?_
  simp (maxSteps := 1000000) only [go_sem, hA.nil, hA.go, hA.yes, hA.noT, hA.noF, hA.skp]
  refine hK _ _ ?_; clear hK K hA A
  refine .range (N := l.length) (fun i F s => F 0 = progsA l ∧ F 16 = I l.length ∧ F 17 = I i ∧ Ext σ s ∧ (l.take i).any (fun p => p.any (dupB p)) = false) hl ?_ ?_ ?_ ?_
  · exact ⟨by simp (maxSteps := 1000000) only [go_sem], by simp (maxSteps := 1000000) only [go_sem], by simp (maxSteps := 1000000) only [go_sem]; try rfl, .refl σ, by simp⟩
  · rintro i F s ⟨_, h1, h2, _⟩
    exact ⟨h2, h1⟩
  · rintro i F s hlt ⟨h0, h16, h17, hx, hj⟩
    have e1 : (i : Int) < l.length := by omega
    obtain ⟨et, ex⟩ := any_take' hlt hj
    have hp : l[i].length ≤ most := hab_prog (hps _ (List.getElem_mem hlt))
    first | refine .seq (.rg fun A hA K hK => ?_) | refine .seq (.seq (.rg fun A hA K hK => ?_)) | refine .rg fun A hA K hK => ?_ | refine .seq (.rd fun A hA K hK => ?_) | refine .seq (.seq (.rd fun A hA K hK => ?_)) | refine .rd fun A hA K hK => ?_
    simp (maxSteps := 1000000) only [go_sem, hA.nil, hA.go, hA.yes, hA.noT, hA.noF, hA.skp, h0, h16, h17]
    refine hK _ _ ?_; clear hK K hA A
    first | refine .seq (.rg fun A hA K hK => ?_) | refine .seq (.seq (.rg fun A hA K hK => ?_)) | refine .rg fun A hA K hK => ?_ | refine .seq (.rd fun A hA K hK => ?_) | refine .seq (.seq (.rd fun A hA K hK => ?_)) | refine .rd fun A hA K hK => ?_
    simp (maxSteps := 1000000) only [go_sem, hA.nil, hA.go, hA.yes, hA.noT, hA.noF, hA.skp, h0, h16, h17, progs_get' hlt, e1]
    refine hK _ _ ?_; clear hK K hA A
    refine .range (N := l[i].length) (fun n F s => F 0 = progsA l ∧ F 16 = I l.length ∧ F 17 = I i ∧ F 4 = I i ∧ F 23 = progA l[i] ∧ F 24 = I l[i].length ∧ F 25 = I n ∧ Ext σ s ∧ (l[i].take n).any (dupB l[i]) = false) hp ?_ ?_ ?_ ?_
    · exact ⟨by simp (maxSteps := 1000000) only [go_sem, h0], by simp (maxSteps := 1000000) only [go_sem, h16], by simp (maxSteps := 1000000) only [go_sem, h17], by simp (maxSteps := 1000000) only [go_sem], by simp (maxSteps := 1000000) only [go_sem], by simp (maxSteps := 1000000) only [go_sem], by simp (maxSteps := 1000000) only [go_sem]; try rfl, hx, by simp⟩
    · rintro n F s ⟨_, _, _, _, _, h1, h2, _⟩
      exact ⟨h2, h1⟩
    · rintro n F s hn ⟨h0, h16, h17, h4, h23, h24, h25, hx, hj2⟩
      have e2 : (n : Int) < l[i].length := by omega
      obtain ⟨et2, ex2⟩ := any_take' hn hj2
      first | refine .seq (.rg fun A hA K hK => ?_) | refine .seq (.seq (.rg fun A hA K hK => ?_)) | refine .rg fun A hA K hK => ?_ | refine .seq (.rd fun A hA K hK => ?_) | refine .seq (.seq (.rd fun A hA K hK => ?_)) | refine .rd fun A hA K hK => ?_
      simp (maxSteps := 1000000) only [go_sem, hA.nil, hA.go, hA.yes, hA.noT, hA.noF, hA.skp, h23, h25, prog_get hn, e2]
      refine hK _ _ ?_; clear hK K hA A
      refine .mid (fun F' s' => F' 50 = .bool (dupB l[i] l[i][n]) ∧ F' 0 = progsA l ∧ F' 16 = I l.length ∧ F' 17 = I i ∧ F' 4 = I i ∧ F' 23 = progA l[i] ∧ F' 24 = I l[i].length ∧ F' 25 = I n ∧ Ext σ s') ?_ ?_
      · have hx2 := fun B B' => ext_two (B := B) (B' := B') hx
        clear hx hps hdev hP hj hj2 et et2 ex ex2
        repeat' (first | (refine hK _ _ ?_; clear hK K hA A) | (refine ⟨_, count_spec _ _ _ _ _, ?_⟩; try simp (maxSteps := 1000000) only [go_sem, hA.nil, hA.go, hA.yes, hA.noT, hA.noF, hA.skp, *, h0, h4, progs_get' hlt, e1]) | (refine hA.cut (by simp (maxSteps := 1000000) only [go_sem, *, h0, h4, progs_get' hlt, e1]; with_reducible rfl) (fun hs => ?_) (fun hs => ?_) <;> simp (maxSteps := 1000000) only [go_sem, hA.nil, hA.go, hA.yes, hA.noT, hA.noF, hA.skp, *, h0, h4, progs_get' hlt, e1]) | (refine .seq (.rg fun A hA K hK => ?_); simp (maxSteps := 1000000) only [go_sem, hA.nil, hA.go, hA.yes, hA.noT, hA.noF, hA.skp, *, h0, h4, progs_get' hlt, e1]) | (refine .seq (.seq (.rg fun A hA K hK => ?_)); simp (maxSteps := 1000000) only [go_sem, hA.nil, hA.go, hA.yes, hA.noT, hA.noF, hA.skp, *, h0, h4, progs_get' hlt, e1]) | (refine .rg fun A hA K hK => ?_; simp (maxSteps := 1000000) only [go_sem, hA.nil, hA.go, hA.yes, hA.noT, hA.noF, hA.skp, *, h0, h4, progs_get' hlt, e1]) | (refine .seq (.rd fun A hA K hK => ?_); simp (maxSteps := 1000000) only [go_sem, hA.nil, hA.go, hA.yes, hA.noT, hA.noF, hA.skp, *, h0, h4, progs_get' hlt, e1]) | (refine .seq (.seq (.rd fun A hA K hK => ?_)); simp (maxSteps := 1000000) only [go_sem, hA.nil, hA.go, hA.yes, hA.noT, hA.noF, hA.skp, *, h0, h4, progs_get' hlt, e1]) | (refine .rd fun A hA K hK => ?_; simp (maxSteps := 1000000) only [go_sem, hA.nil, hA.go, hA.yes, hA.noT, hA.noF, hA.skp, *, h0, h4, progs_get' hlt, e1]) | (refine .cond (t := _) (by simp (maxSteps := 1000000) only [go_sem, *, h0, h4, progs_get' hlt, e1]; with_reducible rfl) (fun hs => ?_) (fun hs => ?_) <;> (first | (cases hs; done) | skip)) | (refine .seq (.cond (t := _) (by simp (maxSteps := 1000000) only [go_sem, *, h0, h4, progs_get' hlt, e1]; with_reducible rfl) (fun hs => ?_) (fun hs => ?_)) <;> (first | (cases hs; done) | skip)) | refine .skip ?_ | refine .seq (.block ?_) | refine .block ?_ | refine .exit ?_ | ((exact ⟨by simp (maxSteps := 1000000) only [go_sem, dupB, *], by simp (maxSteps := 1000000) only [go_sem, h0], by simp (maxSteps := 1000000) only [go_sem, h16], by simp (maxSteps := 1000000) only [go_sem, h17], by simp (maxSteps := 1000000) only [go_sem, h4], by simp (maxSteps := 1000000) only [go_sem, h23], by simp (maxSteps := 1000000) only [go_sem, h24], by simp (maxSteps := 1000000) only [go_sem, h25], hx2 _ _⟩); done))
      · rintro F' s' ⟨hG, h0, h16, h17, h4, h23, h24, h25, hx⟩
        refine .cond hG (fun ht => ?_) (fun ht => .skip ?_)
        · have hw : pairsE l = 25 := by rw [hP, if_pos (ex (ex2 ht))]
          first | refine .seq (.rg fun A hA K hK => ?_) | refine .seq (.seq (.rg fun A hA K hK => ?_)) | refine .rg fun A hA K hK => ?_ | refine .seq (.rd fun A hA K hK => ?_) | refine .seq (.seq (.rd fun A hA K hK => ?_)) | refine .rd fun A hA K hK => ?_
          simp (maxSteps := 1000000) only [go_sem, hA.nil, hA.go, hA.yes, hA.noT, hA.noF, hA.skp]
          refine hK _ _ ?_; clear hK K hA A
          exact .ret (ret1b (by simp (maxSteps := 1000000) only [go_sem, hw]) wf hx.2 (.int _ _))
        · rw [ht] at et2
          exact ⟨by simp (maxSteps := 1000000) only [go_sem, h25], by simp (maxSteps := 1000000) only [go_sem, h0], by simp (maxSteps := 1000000) only [go_sem, h16], by simp (maxSteps := 1000000) only [go_sem, h17], by simp (maxSteps := 1000000) only [go_sem, h4], by simp (maxSteps := 1000000) only [go_sem, h23], by simp (maxSteps := 1000000) only [go_sem, h24], by simp (maxSteps := 1000000) only [go_sem], hx, et2⟩
    · rintro F s ⟨h0, h16, h17, h4, h23, h24, h25, hx, hj2⟩
      rw [List.take_length] at hj2
      rw [hj2] at et
      exact ⟨by simp (maxSteps := 1000000) only [go_sem, h17], by simp (maxSteps := 1000000) only [go_sem, h0], by simp (maxSteps := 1000000) only [go_sem, h16], by simp (maxSteps := 1000000) only [go_sem], hx, et⟩
  rintro F s ⟨h0, h16, h17, hx, hj⟩
  rw [List.take_length] at hj
  have hP2 : pairsE l = if (List.range l.length).any (fun d => (l.getD d []).any (missB l d)) = true then 22 else 0 := by
    rw [hP, if_neg (by rw [hj]; simp)]
  clear hP hj h16 h17
  have hrl : (List.range l.length).length = l.length := by simp
  first | refine .seq (.rg fun A hA K hK => ?_) | refine .seq (.seq (.rg fun A hA K hK => ?_)) | refine .rg fun A hA K hK => ?_ | refine .seq (.rd fun A hA K hK => ?_) | refine .seq (.seq (.rd fun A hA K hK => ?_)) | refine .rd fun A hA K hK => ?_
  simp (maxSteps := 1000000) only [go_sem, hA.nil, hA.go, hA.yes, hA.noT, hA.noF, hA.skp, h0]
  refine hK _ _ ?_; clear hK K hA A
  refine .range (N := l.length) (fun i F s => F 0 = progsA l ∧ F 54 = I l.length ∧ F 55 = I i ∧ Ext σ s ∧ ((List.range l.length).take i).any (fun d => (l.getD d []).any (missB l d)) = false) hl ?_ ?_ ?_ ?_
  · exact ⟨by simp (maxSteps := 1000000) only [go_sem, h0], by simp (maxSteps := 1000000) only [go_sem], by simp (maxSteps := 1000000) only [go_sem]; try rfl, hx, by simp⟩
  · rintro i F s ⟨_, h1, h2, _⟩
    exact ⟨h2, h1⟩
  · rintro i F s hlt ⟨h0, h54, h55, hx, hj⟩
    have e1 : (i : Int) < l.length := by omega
    obtain ⟨et, ex⟩ := any_take' (by omega) hj
    rw [List.getElem_range] at et ex
    have hgl : l.getD i [] = l[i] := by simp [List.getD_eq_getElem?_getD, hlt]
    rw [hgl] at et ex
    have hp : l[i].length ≤ most := hab_prog (hps _ (List.getElem_mem hlt))
    first | refine .seq (.rg fun A hA K hK => ?_) | refine .seq (.seq (.rg fun A hA K hK => ?_)) | refine .rg fun A hA K hK => ?_ | refine .seq (.rd fun A hA K hK => ?_) | refine .seq (.seq (.rd fun A hA K hK => ?_)) | refine .rd fun A hA K hK => ?_
    simp (maxSteps := 1000000) only [go_sem, hA.nil, hA.go, hA.yes, hA.noT, hA.noF, hA.skp, h0, h54, h55]
    refine hK _ _ ?_; clear hK K hA A
    first | refine .seq (.rg fun A hA K hK => ?_) | refine .seq (.seq (.rg fun A hA K hK => ?_)) | refine .rg fun A hA K hK => ?_ | refine .seq (.rd fun A hA K hK => ?_) | refine .seq (.seq (.rd fun A hA K hK => ?_)) | refine .rd fun A hA K hK => ?_
    simp (maxSteps := 1000000) only [go_sem, hA.nil, hA.go, hA.yes, hA.noT, hA.noF, hA.skp, h0, h54, h55, progs_get' hlt, e1]
    refine hK _ _ ?_; clear hK K hA A
    refine .range (N := l[i].length) (fun n F s => F 0 = progsA l ∧ F 54 = I l.length ∧ F 55 = I i ∧ F 7 = I i ∧ F 61 = progA l[i] ∧ F 62 = I l[i].length ∧ F 63 = I n ∧ Ext σ s ∧ (l[i].take n).any (missB l i) = false) hp ?_ ?_ ?_ ?_
    · exact ⟨by simp (maxSteps := 1000000) only [go_sem, h0], by simp (maxSteps := 1000000) only [go_sem, h54], by simp (maxSteps := 1000000) only [go_sem, h55], by simp (maxSteps := 1000000) only [go_sem], by simp (maxSteps := 1000000) only [go_sem], by simp (maxSteps := 1000000) only [go_sem], by simp (maxSteps := 1000000) only [go_sem]; try rfl, hx, by simp⟩
    · rintro n F s ⟨_, _, _, _, _, h1, h2, _⟩
      exact ⟨h2, h1⟩
    · rintro n F s hn ⟨h0, h54, h55, h7, h61, h62, h63, hx, hj2⟩
      have e2 : (n : Int) < l[i].length := by omega
      obtain ⟨et2, ex2⟩ := any_take' hn hj2
      obtain ⟨hd0, hd1⟩ := hdev l[i] (List.getElem_mem hlt) l[i][n] (List.getElem_mem hn)
      have e3 : (l.map fun p => [AV.lit 13 (p.map instrL)]).getD l[i][n].dev.toNat [] = [progA (l.getD l[i][n].dev.toNat [])] := by
        have : l[i][n].dev.toNat < l.length := by omega
        rw [progs_get' this]; simp [List.getD_eq_getElem?_getD, this]
      first | refine .seq (.rg fun A hA K hK => ?_) | refine .seq (.seq (.rg fun A hA K hK => ?_)) | refine .rg fun A hA K hK => ?_ | refine .seq (.rd fun A hA K hK => ?_) | refine .seq (.seq (.rd fun A hA K hK => ?_)) | refine .rd fun A hA K hK => ?_
      simp (maxSteps := 1000000) only [go_sem, hA.nil, hA.go, hA.yes, hA.noT, hA.noF, hA.skp, h61, h63, prog_get hn, e2]
      refine hK _ _ ?_; clear hK K hA A
      refine .mid (fun F' s' => F' 98 = .bool (missB l i l[i][n]) ∧ F' 0 = progsA l ∧ F' 54 = I l.length ∧ F' 55 = I i ∧ F' 7 = I i ∧ F' 61 = progA l[i] ∧ F' 62 = I l[i].length ∧ F' 63 = I n ∧ Ext σ s') ?_ ?_
      · have hx2 := fun B B' => ext_two (B := B) (B' := B') hx
        clear hx hps hdev hP2 hj hj2 et et2 ex ex2 hgl
        repeat' (first | (refine hK _ _ ?_; clear hK K hA A) | (refine ⟨_, count_spec _ _ _ _ _, ?_⟩; try simp (maxSteps := 1000000) only [go_sem, hA.nil, hA.go, hA.yes, hA.noT, hA.noF, hA.skp, *, h0, h7, e3, hd0, hd1]) | (refine hA.cut (by simp (maxSteps := 1000000) only [go_sem, *, h0, h7, e3, hd0, hd1]; with_reducible rfl) (fun hs => ?_) (fun hs => ?_) <;> simp (maxSteps := 1000000) only [go_sem, hA.nil, hA.go, hA.yes, hA.noT, hA.noF, hA.skp, *, h0, h7, e3, hd0, hd1]) | (refine .seq (.rg fun A hA K hK => ?_); simp (maxSteps := 1000000) only [go_sem, hA.nil, hA.go, hA.yes, hA.noT, hA.noF, hA.skp, *, h0, h7, e3, hd0, hd1]) | (refine .seq (.seq (.rg fun A hA K hK => ?_)); simp (maxSteps := 1000000) only [go_sem, hA.nil, hA.go, hA.yes, hA.noT, hA.noF, hA.skp, *, h0, h7, e3, hd0, hd1]) | (refine .rg fun A hA K hK => ?_; simp (maxSteps := 1000000) only [go_sem, hA.nil, hA.go, hA.yes, hA.noT, hA.noF, hA.skp, *, h0, h7, e3, hd0, hd1]) | (refine .seq (.rd fun A hA K hK => ?_); simp (maxSteps := 1000000) only [go_sem, hA.nil, hA.go, hA.yes, hA.noT, hA.noF, hA.skp, *, h0, h7, e3, hd0, hd1]) | (refine .seq (.seq (.rd fun A hA K hK => ?_)); simp (maxSteps := 1000000) only [go_sem, hA.nil, hA.go, hA.yes, hA.noT, hA.noF, hA.skp, *, h0, h7, e3, hd0, hd1]) | (refine .rd fun A hA K hK => ?_; simp (maxSteps := 1000000) only [go_sem, hA.nil, hA.go, hA.yes, hA.noT, hA.noF, hA.skp, *, h0, h7, e3, hd0, hd1]) | (refine .cond (t := _) (by simp (maxSteps := 1000000) only [go_sem, *, h0, h7, e3, hd0, hd1]; with_reducible rfl) (fun hs => ?_) (fun hs => ?_) <;> (first | (cases hs; done) | skip)) | (refine .seq (.cond (t := _) (by simp (maxSteps := 1000000) only [go_sem, *, h0, h7, e3, hd0, hd1]; with_reducible rfl) (fun hs => ?_) (fun hs => ?_)) <;> (first | (cases hs; done) | skip)) | refine .skip ?_ | refine .seq (.block ?_) | refine .block ?_ | refine .exit ?_ | ((exact ⟨by simp (maxSteps := 1000000) only [go_sem, missB, *], by simp (maxSteps := 1000000) only [go_sem, h0], by simp (maxSteps := 1000000) only [go_sem, h54], by simp (maxSteps := 1000000) only [go_sem, h55], by simp (maxSteps := 1000000) only [go_sem, h7], by simp (maxSteps := 1000000) only [go_sem, h61], by simp (maxSteps := 1000000) only [go_sem, h62], by simp (maxSteps := 1000000) only [go_sem, h63], hx2 _ _⟩); done))
      · rintro F' s' ⟨hG, h0, h54, h55, h7, h61, h62, h63, hx⟩
        refine .cond hG (fun ht => ?_) (fun ht => .skip ?_)
        · have hw : pairsE l = 22 := by rw [hP2, if_pos (ex (ex2 ht))]
          first | refine .seq (.rg fun A hA K hK => ?_) | refine .seq (.seq (.rg fun A hA K hK => ?_)) | refine .rg fun A hA K hK => ?_ | refine .seq (.rd fun A hA K hK => ?_) | refine .seq (.seq (.rd fun A hA K hK => ?_)) | refine .rd fun A hA K hK => ?_
          simp (maxSteps := 1000000) only [go_sem, hA.nil, hA.go, hA.yes, hA.noT, hA.noF, hA.skp]
          refine hK _ _ ?_; clear hK K hA A
          exact .ret (ret1b (by simp (maxSteps := 1000000) only [go_sem, hw]) wf hx.2 (.int _ _))
        · rw [ht] at et2
          exact ⟨by simp (maxSteps := 1000000) only [go_sem, h63], by simp (maxSteps := 1000000) only [go_sem, h0], by simp (maxSteps := 1000000) only [go_sem, h54], by simp (maxSteps := 1000000) only [go_sem, h55], by simp (maxSteps := 1000000) only [go_sem, h7], by simp (maxSteps := 1000000) only [go_sem, h61], by simp (maxSteps := 1000000) only [go_sem, h62], by simp (maxSteps := 1000000) only [go_sem], hx, et2⟩
    · rintro F s ⟨h0, h54, h55, h7, h61, h62, h63, hx, hj2⟩
      rw [List.take_length] at hj2
      rw [hj2] at et
      exact ⟨by simp (maxSteps := 1000000) only [go_sem, h55], by simp (maxSteps := 1000000) only [go_sem, h0], by simp (maxSteps := 1000000) only [go_sem, h54], by simp (maxSteps := 1000000) only [go_sem], hx, et⟩
  rintro F s ⟨h0, h54, h55, hx, hj⟩
  rw [List.take_of_length_le (by omega)] at hj
  have hw : pairsE l = 0 := by rw [hP2, if_neg (by rw [hj]; simp)]
  first | refine .seq (.rg fun A hA K hK => ?_) | refine .seq (.seq (.rg fun A hA K hK => ?_)) | refine .rg fun A hA K hK => ?_ | refine .seq (.rd fun A hA K hK => ?_) | refine .seq (.seq (.rd fun A hA K hK => ?_)) | refine .rd fun A hA K hK => ?_
  simp (maxSteps := 1000000) only [go_sem, hA.nil, hA.go, hA.yes, hA.noT, hA.noF, hA.skp]
  refine hK _ _ ?_; clear hK K hA A
  exact .ret (ret1b (by simp (maxSteps := 1000000) only [go_sem, hw]) wf hx.2 (.int _ _))

end Go.Proofs.Ytfjbabacpnnjmaa.Av

namespace Go.Proofs.Ytfjbabacpnnjmaa.Av
open Go Go.Av
set_option maxRecDepth 20000
set_option maxHeartbeats 4000000

attribute [local go_sem] step_apply
attribute [local go_sem] instr0 instr1 instr2 instr10 instr11 instr12 instrN instrA instr_len node0 node1 node2 node3 node4 node5 node6 nodeA node_len getD_drop List.length_drop splice List.nil_append List.append_nil cond_true cond_false List.set_cons_zero List.length_set aopq aop ev put_some put_none upd_apply abin asNat bounds row1 mk I ints progA progsA List.length_cons List.length_nil List.length_map List.drop_zero List.drop_succ_cons List.drop_nil List.getD_cons_zero List.getD_cons_succ Option.getD_none Option.getD_some
  List.take_succ_cons List.take_zero List.take_nil true_and and_true Int.toNat_natCast if_true if_false Nat.zero_add Nat.add_zero List.map_cons List.map_nil Nat.reduceEqDiff Nat.left_eq_add Nat.add_eq_left Nat.add_left_cancel_iff Nat.add_assoc Nat.reduceSub Nat.reduceAdd Nat.reduceLeDiff Nat.le_refl Nat.zero_le Nat.zero_lt_one Nat.lt_add_one Int.reduceLT Int.reduceLE Int.reduceToNat Nat.reduceLT Nat.reduceBEq Bool.false_eq_true Nat.reduceBNe ne_eq not_false_eq_true not_true_eq_false false_and and_false reduceIte Int.natCast_nonneg reduceCtorEq parts_agg parts_bool parts_int parts_str parts_lit parts_nils parts_sl parts_ptr Int.natCast_nonneg Int.natCast_nonneg beq_self_eq_true bne_self_eq_false St.push St.set St.kill Bool.true_and Bool.false_and Bool.and_true Bool.and_false Bool.true_or Bool.false_or Bool.or_true Bool.or_false Bool.not_true Bool.not_false


/-- slices.Equal -/
theorem equal_spec (a b : List Int) (σ : St) : T Try.prog 150 [ints a, ints b] σ (.bool (a == b)) σ := by
  refine in150 (by simp) fun wf hab => ?_
  have ha := hab_ints (hab 0 (by simp))
  clear hab
  unfold c150
  first | refine .seq (.rg fun A hA K hK => ?_) | refine .seq (.seq (.rg fun A hA K hK => ?_)) | refine .rg fun A hA K hK => ?_ | refine .seq (.rd fun A hA K hK => ?_) | refine .seq (.seq (.rd fun A hA K hK => ?_)) | refine .rd fun A hA K hK => ?_
  simp (maxSteps := 1000000) only [go_sem, hA.nil, hA.go, hA.yes, hA.noT, hA.noF, hA.skp]
  refine hK _ _ ?_; clear hK K hA A
  first | refine .seq (.rg fun A hA K hK => ?_) | refine .seq (.seq (.rg fun A hA K hK => ?_)) | refine .rg fun A hA K hK => ?_ | refine .seq (.rd fun A hA K hK => ?_) | refine .seq (.seq (.rd fun A hA K hK => ?_)) | refine .rd fun A hA K hK => ?_
  simp (maxSteps := 1000000) only [go_sem, hA.nil, hA.go, hA.yes, hA.noT, hA.noF, hA.skp]
  refine hK _ _ ?_; clear hK K hA A
  refine .cond (t := _) (by simp (maxSteps := 1000000) only [go_sem]; try rfl) (fun ht => ?_) (fun ht => .skip ?_)
  · have hne : (a == b) = false := by
      simp only [beq_eq_false_iff_ne]; rintro rfl; simp at ht
    first | refine .seq (.rg fun A hA K hK => ?_) | refine .seq (.seq (.rg fun A hA K hK => ?_)) | refine .rg fun A hA K hK => ?_ | refine .seq (.rd fun A hA K hK => ?_) | refine .seq (.seq (.rd fun A hA K hK => ?_)) | refine .rd fun A hA K hK => ?_
    simp (maxSteps := 1000000) only [go_sem, hA.nil, hA.go, hA.yes, hA.noT, hA.noF, hA.skp]
    refine hK _ _ ?_; clear hK K hA A
    exact .ret (ret1 (by simp (maxSteps := 1000000) only [go_sem, hne]) rfl)
  have hl : a.length = b.length := by simp at ht; omega
  first | refine .seq (.rg fun A hA K hK => ?_) | refine .seq (.seq (.rg fun A hA K hK => ?_)) | refine .rg fun A hA K hK => ?_ | refine .seq (.rd fun A hA K hK => ?_) | refine .seq (.seq (.rd fun A hA K hK => ?_)) | refine .rd fun A hA K hK => ?_
  simp (maxSteps := 1000000) only [go_sem, hA.nil, hA.go, hA.yes, hA.noT, hA.noF, hA.skp]
  refine hK _ _ ?_; clear hK K hA A
  refine .range (N := a.length) (fun i F s => F 0 = ints a ∧ F 1 = ints b ∧ F 12 = I a.length ∧ F 13 = I i ∧ s = σ ∧ ∀ j, j < i → a.getD j 0 = b.getD j 0) ha ?_ ?_ ?_ ?_
  · refine ⟨by simp (maxSteps := 1000000) only [go_sem], by simp (maxSteps := 1000000) only [go_sem], by simp (maxSteps := 1000000) only [go_sem], by simp (maxSteps := 1000000) only [go_sem]; try rfl, rfl, by simp⟩
  · rintro i F s ⟨_, _, h1, h2, _⟩
    exact ⟨h2, h1⟩
  · rintro i F s hlt ⟨h0, h1, h12, h13, rfl, hj⟩
    have hlt' : i < b.length := by omega
    have e1 : (i : Int) < a.length := by omega
    have e2 : (i : Int) < b.length := by omega
    first | refine .seq (.rg fun A hA K hK => ?_) | refine .seq (.seq (.rg fun A hA K hK => ?_)) | refine .rg fun A hA K hK => ?_ | refine .seq (.rd fun A hA K hK => ?_) | refine .seq (.seq (.rd fun A hA K hK => ?_)) | refine .rd fun A hA K hK => ?_
    simp (maxSteps := 1000000) only [go_sem, hA.nil, hA.go, hA.yes, hA.noT, hA.noF, hA.skp, h13]
    refine hK _ _ ?_; clear hK K hA A
    first | refine .seq (.rg fun A hA K hK => ?_) | refine .seq (.seq (.rg fun A hA K hK => ?_)) | refine .rg fun A hA K hK => ?_ | refine .seq (.rd fun A hA K hK => ?_) | refine .seq (.seq (.rd fun A hA K hK => ?_)) | refine .rd fun A hA K hK => ?_
    simp (maxSteps := 1000000) only [go_sem, hA.nil, hA.go, hA.yes, hA.noT, hA.noF, hA.skp, h0, h1, h13, ints_get hlt, ints_get hlt', e1, e2]
    refine hK _ _ ?_; clear hK K hA A
    refine .cond (t := _) (by simp (maxSteps := 1000000) only [go_sem]; try rfl)  (fun ht => ?_) (fun ht => .skip ?_)
    · have hne : (a == b) = false := by
        simp only [beq_eq_false_iff_ne]; rintro rfl; simp at ht
      first | refine .seq (.rg fun A hA K hK => ?_) | refine .seq (.seq (.rg fun A hA K hK => ?_)) | refine .rg fun A hA K hK => ?_ | refine .seq (.rd fun A hA K hK => ?_) | refine .seq (.seq (.rd fun A hA K hK => ?_)) | refine .rd fun A hA K hK => ?_
      simp (maxSteps := 1000000) only [go_sem, hA.nil, hA.go, hA.yes, hA.noT, hA.noF, hA.skp]
      refine hK _ _ ?_; clear hK K hA A
      exact .ret (ret1 (by simp (maxSteps := 1000000) only [go_sem, hne]) rfl)
    · refine ⟨by simp (maxSteps := 1000000) only [go_sem, h13], by simp (maxSteps := 1000000) only [go_sem, h0], by simp (maxSteps := 1000000) only [go_sem, h1], by simp (maxSteps := 1000000) only [go_sem, h12], by simp (maxSteps := 1000000) only [go_sem], rfl, fun j h => ?_⟩
      rcases Nat.lt_succ_iff_lt_or_eq.1 h with h | rfl
      · exact hj j h
      · simp at ht; simp [List.getD_eq_getElem?_getD, hlt, hlt', ht]
  · rintro F s ⟨h0, h1, h12, h13, rfl, hj⟩
    have he : (a == b) = true := by
      simp only [beq_iff_eq]
      refine List.ext_getElem hl fun j h1 h2 => ?_
      have := hj j h1
      simpa [List.getD_eq_getElem?_getD, h1, h2] using this
    first | refine .seq (.rg fun A hA K hK => ?_) | refine .seq (.seq (.rg fun A hA K hK => ?_)) | refine .rg fun A hA K hK => ?_ | refine .seq (.rd fun A hA K hK => ?_) | refine .seq (.seq (.rd fun A hA K hK => ?_)) | refine .rd fun A hA K hK => ?_
    simp (maxSteps := 1000000) only [go_sem, hA.nil, hA.go, hA.yes, hA.noT, hA.noF, hA.skp]
    refine hK _ _ ?_; clear hK K hA A
    exact .ret (ret1 (by simp (maxSteps := 1000000) only [go_sem, he]) rfl)

def sameB (x y : Node) : Bool := x.op == y.op && ((x.ins == y.ins) && ((x.shape == y.shape) && ((x.a == y.a) && (x.n == y.n && (x.how == y.how && (x.note.toList == y.note.toList))))))

/-- graph.SameNode -/
theorem sameNode_spec (x y : Node) (σ : St) : T Try.prog 140 [.agg (nodeL x), .agg (nodeL y)] σ (.bool (sameB x y)) σ := by
  refine in140 (by simp) fun wf hab => ?_
  clear hab
  unfold c140
  repeat' (first | (refine hK _ _ ?_; clear hK K hA A) | (refine ⟨_, equal_spec x.ins y.ins _, ?_⟩; try simp (maxSteps := 1000000) only [go_sem, hA.nil, hA.go, hA.yes, hA.noT, hA.noF, hA.skp, *]) | (refine ⟨_, equal_spec x.shape y.shape _, ?_⟩; try simp (maxSteps := 1000000) only [go_sem, hA.nil, hA.go, hA.yes, hA.noT, hA.noF, hA.skp, *]) | (refine ⟨_, equal_spec x.a y.a _, ?_⟩; try simp (maxSteps := 1000000) only [go_sem, hA.nil, hA.go, hA.yes, hA.noT, hA.noF, hA.skp, *]) | (refine hA.cut (by simp (maxSteps := 1000000) only [go_sem, *]; with_reducible rfl) (fun hs => ?_) (fun hs => ?_) <;> simp (maxSteps := 1000000) only [go_sem, hA.nil, hA.go, hA.yes, hA.noT, hA.noF, hA.skp, *]) | (refine .seq (.rg fun A hA K hK => ?_); simp (maxSteps := 1000000) only [go_sem, hA.nil, hA.go, hA.yes, hA.noT, hA.noF, hA.skp, *]) | (refine .seq (.seq (.rg fun A hA K hK => ?_)); simp (maxSteps := 1000000) only [go_sem, hA.nil, hA.go, hA.yes, hA.noT, hA.noF, hA.skp, *]) | (refine .rg fun A hA K hK => ?_; simp (maxSteps := 1000000) only [go_sem, hA.nil, hA.go, hA.yes, hA.noT, hA.noF, hA.skp, *]) | (refine .seq (.rd fun A hA K hK => ?_); simp (maxSteps := 1000000) only [go_sem, hA.nil, hA.go, hA.yes, hA.noT, hA.noF, hA.skp, *]) | (refine .seq (.seq (.rd fun A hA K hK => ?_)); simp (maxSteps := 1000000) only [go_sem, hA.nil, hA.go, hA.yes, hA.noT, hA.noF, hA.skp, *]) | (refine .rd fun A hA K hK => ?_; simp (maxSteps := 1000000) only [go_sem, hA.nil, hA.go, hA.yes, hA.noT, hA.noF, hA.skp, *]) | (refine .cond (t := _) (by simp (maxSteps := 1000000) only [go_sem, *]; with_reducible rfl) (fun hs => ?_) (fun hs => ?_) <;> (first | (cases hs; done) | skip)) | (refine .seq (.cond (t := _) (by simp (maxSteps := 1000000) only [go_sem, *]; with_reducible rfl) (fun hs => ?_) (fun hs => ?_)) <;> (first | (cases hs; done) | skip)) | refine .skip ?_ | refine .seq (.block ?_) | refine .block ?_ | refine .exit ?_ | ((exact .ret (ret1b (by simp (maxSteps := 1000000) only [go_sem, sameB, *]) wf (fun b hb => by have q1 : b ≠ σ.next := (by omega); have q2 : b ≠ σ.next + 1 := (by omega); simp [q1, q2]) (.bool _))); done))

def emptyN : Node := ⟨0, [], [], [], 0, 0, ⟨#[]⟩⟩
theorem emptyN_L : nodeL emptyN = [.int .i64 0, .lit 1 [], .lit 1 [], .lit 1 [], .int .i64 0, .int .i64 0, .str ⟨#[]⟩] := rfl

theorem same_bare (x : Node) : sameB x emptyN = bareB x := by
  have e : ∀ l : List Int, (l == []) = decide (l.length = 0) := by intro l; cases l <;> simp
  have h3 : ((((x.ins.length + x.shape.length + x.a.length : Nat) : Int) == 0)) = (decide (x.ins.length = 0) && (decide (x.shape.length = 0) && decide (x.a.length = 0))) := by
    rw [Bool.eq_iff_iff]; simp only [beq_iff_eq, Bool.and_eq_true, decide_eq_true_eq]; omega
  simp only [sameB, bareB, emptyN, e, h3, Bool.and_assoc]

/-- code.zeroNode -/
theorem zeroNode_spec (x : Node) (σ : St) : T Try.prog 126 [.agg (nodeL x)] σ (.bool (bareB x)) σ := by
  refine in126 (by simp) fun wf hab => ?_
  clear hab
  unfold c126
  first | refine .seq (.rg fun A hA K hK => ?_) | refine .seq (.seq (.rg fun A hA K hK => ?_)) | refine .rg fun A hA K hK => ?_ | refine .seq (.rd fun A hA K hK => ?_) | refine .seq (.seq (.rd fun A hA K hK => ?_)) | refine .rd fun A hA K hK => ?_
  simp (maxSteps := 1000000) only [go_sem, hA.nil, hA.go, hA.yes, hA.noT, hA.noF, hA.skp]
  refine hK _ _ ?_; clear hK K hA A
  first | refine .seq (.rg fun A hA K hK => ?_) | refine .seq (.seq (.rg fun A hA K hK => ?_)) | refine .rg fun A hA K hK => ?_ | refine .seq (.rd fun A hA K hK => ?_) | refine .seq (.seq (.rd fun A hA K hK => ?_)) | refine .rd fun A hA K hK => ?_
  simp (maxSteps := 1000000) only [go_sem, hA.nil, hA.go, hA.yes, hA.noT, hA.noF, hA.skp]
  refine ⟨_, sameNode_spec x emptyN _, ?_⟩
  rw [same_bare]
  try simp (maxSteps := 1000000) only [go_sem, hA.nil, hA.go]
  refine hK _ _ ?_; clear hK K hA A
  exact .ret (ret1b (by simp (maxSteps := 1000000) only [go_sem]) wf (fun b hb => by have q1 : b ≠ σ.next := (by omega); have q2 : b ≠ σ.next + 1 := (by omega); simp [q1, q2]) (.bool _))

theorem and_out (i : Instr) (b c : Bool) : (i.out == 0 && (b && c)) = (b && (i.out == 0 && c)) := by cases (i.out == 0) <;> cases b <;> rfl

/-- code.shaped -/
theorem shaped_spec (i : Instr) (σ : St) : T Try.prog 104 [.agg (instrL i)] σ (.bool (formB i)) σ := by
  refine in104 (by simp) fun wf hab => ?_
  clear hab
  unfold c104
  repeat' (first | (refine hK _ _ ?_; clear hK K hA A) | (refine ⟨_, zeroNode_spec i.node _, ?_⟩; try simp (maxSteps := 1000000) only [go_sem, hA.nil, hA.go, hA.yes, hA.noT, hA.noF, hA.skp, *]) | (refine hA.cut (by simp (maxSteps := 1000000) only [go_sem, *]; with_reducible rfl) (fun hs => ?_) (fun hs => ?_) <;> simp (maxSteps := 1000000) only [go_sem, hA.nil, hA.go, hA.yes, hA.noT, hA.noF, hA.skp, *]) | (refine .seq (.rg fun A hA K hK => ?_); simp (maxSteps := 1000000) only [go_sem, hA.nil, hA.go, hA.yes, hA.noT, hA.noF, hA.skp, *]) | (refine .seq (.seq (.rg fun A hA K hK => ?_)); simp (maxSteps := 1000000) only [go_sem, hA.nil, hA.go, hA.yes, hA.noT, hA.noF, hA.skp, *]) | (refine .rg fun A hA K hK => ?_; simp (maxSteps := 1000000) only [go_sem, hA.nil, hA.go, hA.yes, hA.noT, hA.noF, hA.skp, *]) | (refine .seq (.rd fun A hA K hK => ?_); simp (maxSteps := 1000000) only [go_sem, hA.nil, hA.go, hA.yes, hA.noT, hA.noF, hA.skp, *]) | (refine .seq (.seq (.rd fun A hA K hK => ?_)); simp (maxSteps := 1000000) only [go_sem, hA.nil, hA.go, hA.yes, hA.noT, hA.noF, hA.skp, *]) | (refine .rd fun A hA K hK => ?_; simp (maxSteps := 1000000) only [go_sem, hA.nil, hA.go, hA.yes, hA.noT, hA.noF, hA.skp, *]) | (refine .cond (t := _) (by simp (maxSteps := 1000000) only [go_sem, *]; with_reducible rfl) (fun hs => ?_) (fun hs => ?_) <;> (first | (cases hs; done) | skip)) | (refine .seq (.cond (t := _) (by simp (maxSteps := 1000000) only [go_sem, *]; with_reducible rfl) (fun hs => ?_) (fun hs => ?_)) <;> (first | (cases hs; done) | skip)) | refine .skip ?_ | refine .seq (.block ?_) | refine .block ?_ | refine .exit ?_ | ((refine .ret (ret1b (by simp only [go_sem, formB, and_out i, *]) wf (fun b hb => by have q1 : b ≠ σ.next := (by omega); have q2 : b ≠ σ.next + 1 := (by omega); simp [q1, q2]) (.bool _))); done))

end Go.Proofs.Ytfjbabacpnnjmaa.Av

namespace Go.Proofs.Ytfjbabacpnnjmaa.Av
open Go Go.Av
set_option maxRecDepth 20000
set_option maxHeartbeats 4000000

attribute [local go_sem] step_apply
attribute [local go_sem] instr0 instr1 instr2 instr10 instr11 instr12 instrN instrA instr_len node0 node1 node2 node3 node4 node5 node6 nodeA node_len getD_drop List.length_drop splice List.nil_append List.append_nil cond_true cond_false List.set_cons_zero List.length_set aopq aop ev put_some put_none upd_apply abin asNat bounds row1 mk I ints progA progsA List.length_cons List.length_nil List.length_map List.drop_zero List.drop_succ_cons List.drop_nil List.getD_cons_zero List.getD_cons_succ Option.getD_none Option.getD_some
  List.take_succ_cons List.take_zero List.take_nil true_and and_true Int.toNat_natCast if_true if_false Nat.zero_add Nat.add_zero List.map_cons List.map_nil Nat.reduceEqDiff Nat.left_eq_add Nat.add_eq_left Nat.add_left_cancel_iff Nat.add_assoc Nat.reduceSub Nat.reduceAdd Nat.reduceLeDiff Nat.le_refl Nat.zero_le Nat.zero_lt_one Nat.lt_add_one Int.reduceLT Int.reduceLE Int.reduceToNat Nat.reduceLT Nat.reduceBEq Bool.false_eq_true Nat.reduceBNe ne_eq not_false_eq_true not_true_eq_false false_and and_false reduceIte Int.natCast_nonneg reduceCtorEq parts_agg parts_bool parts_int parts_str parts_lit parts_nils parts_sl parts_ptr Int.natCast_nonneg Int.natCast_nonneg beq_self_eq_true bne_self_eq_false St.push St.set St.kill Bool.true_and Bool.false_and Bool.and_true Bool.and_false Bool.true_or Bool.false_or Bool.or_true Bool.or_false Bool.not_true Bool.not_false


def longB (p : List Instr) : Bool := decide ((p.length : Int) > 65536)

/-- code.Right's own function -/
theorem long_spec (p : List Instr) (σ : St) : T Try.prog 67 [progA p] σ (.bool (longB p)) σ := by
  refine in67 (by simp) fun wf hab => ?_
  unfold c67
  first | refine .seq (.rg fun A hA K hK => ?_) | refine .seq (.seq (.rg fun A hA K hK => ?_)) | refine .rg fun A hA K hK => ?_ | refine .seq (.rd fun A hA K hK => ?_) | refine .seq (.seq (.rd fun A hA K hK => ?_)) | refine .rd fun A hA K hK => ?_
  simp (maxSteps := 1000000) only [go_sem, hA.nil, hA.go, hA.yes, hA.noT, hA.noF, hA.skp]
  refine hK _ _ ?_; clear hK K hA A
  first | refine .seq (.rg fun A hA K hK => ?_) | refine .seq (.seq (.rg fun A hA K hK => ?_)) | refine .rg fun A hA K hK => ?_ | refine .seq (.rd fun A hA K hK => ?_) | refine .seq (.seq (.rd fun A hA K hK => ?_)) | refine .rd fun A hA K hK => ?_
  simp (maxSteps := 1000000) only [go_sem, hA.nil, hA.go, hA.yes, hA.noT, hA.noF, hA.skp]
  refine hK _ _ ?_; clear hK K hA A
  exact .ret (ret1 (by simp (maxSteps := 1000000) only [go_sem, longB]) rfl)

def idxE (l : List (List Instr)) : Int := if l.any longB = true then (l.findIdx longB : Nat) else -1

/-- slices.IndexFunc -/
theorem index_spec (l : List (List Instr)) (σ : St) : T Try.prog 103 [progsA l, .func 67 []] σ (I (idxE l)) σ := by
  refine in103 (by simp) fun wf hab => ?_
  obtain ⟨hl, hps⟩ := hab_progs (hab 0 (by simp))
  clear hab
  unfold c103
  first | refine .seq (.rg fun A hA K hK => ?_) | refine .seq (.seq (.rg fun A hA K hK => ?_)) | refine .rg fun A hA K hK => ?_ | refine .seq (.rd fun A hA K hK => ?_) | refine .seq (.seq (.rd fun A hA K hK => ?_)) | refine .rd fun A hA K hK => ?_
  simp (maxSteps := 1000000) only [go_sem, hA.nil, hA.go, hA.yes, hA.noT, hA.noF, hA.skp]
  refine hK _ _ ?_; clear hK K hA A
  first | refine .seq (.rg fun A hA K hK => ?_) | refine .seq (.seq (.rg fun A hA K hK => ?_)) | refine .rg fun A hA K hK => ?_ | refine .seq (.rd fun A hA K hK => ?_) | refine .seq (.seq (.rd fun A hA K hK => ?_)) | refine .rd fun A hA K hK => ?_
  simp (maxSteps := 1000000) only [go_sem, hA.nil, hA.go, hA.yes, hA.noT, hA.noF, hA.skp]
  refine hK _ _ ?_; clear hK K hA A
  refine .range (N := l.length) (fun i F s => F 0 = progsA l ∧ F 1 = .func 67 [] ∧ F 7 = I l.length ∧ F 8 = I i ∧ s = σ ∧ (l.take i).any longB = false) hl ?_ ?_ ?_ ?_
  · exact ⟨by simp (maxSteps := 1000000) only [go_sem], by simp (maxSteps := 1000000) only [go_sem], by simp (maxSteps := 1000000) only [go_sem], by simp (maxSteps := 1000000) only [go_sem]; try rfl, rfl, by simp⟩
  · rintro i F s ⟨_, _, h1, h2, _⟩
    exact ⟨h2, h1⟩
  · rintro i F s hlt ⟨h0, h1, h7, h8, rfl, hj⟩
    have e1 : (i : Int) < l.length := by omega
    obtain ⟨et, ex⟩ := any_take' hlt hj
    first | refine .seq (.rg fun A hA K hK => ?_) | refine .seq (.seq (.rg fun A hA K hK => ?_)) | refine .rg fun A hA K hK => ?_ | refine .seq (.rd fun A hA K hK => ?_) | refine .seq (.seq (.rd fun A hA K hK => ?_)) | refine .rd fun A hA K hK => ?_
    simp (maxSteps := 1000000) only [go_sem, hA.nil, hA.go, hA.yes, hA.noT, hA.noF, hA.skp, h8]
    refine hK _ _ ?_; clear hK K hA A
    first | refine .seq (.rg fun A hA K hK => ?_) | refine .seq (.seq (.rg fun A hA K hK => ?_)) | refine .rg fun A hA K hK => ?_ | refine .seq (.rd fun A hA K hK => ?_) | refine .seq (.seq (.rd fun A hA K hK => ?_)) | refine .rd fun A hA K hK => ?_
    simp (maxSteps := 1000000) only [go_sem, hA.nil, hA.go, hA.yes, hA.noT, hA.noF, hA.skp, h0, h1, h8, progs_get' hlt, e1]
    refine ⟨_, long_spec l[i] _, ?_⟩
    try simp (maxSteps := 1000000) only [go_sem, hA.nil, hA.go]
    refine hK _ _ ?_; clear hK K hA A
    refine .cond (t := longB l[i]) (by simp (maxSteps := 1000000) only [go_sem]) (fun ht => ?_) (fun ht => .skip ?_)
    · have hw : idxE l = i := by
        rw [idxE, if_pos (ex ht)]
        have : l.findIdx longB = i := by
          refine (List.findIdx_eq hlt).2 ⟨ht, fun j hji => ?_⟩
          simp only [List.any_eq_false] at hj
          have := hj l[j] (List.mem_take_iff_getElem.2 ⟨j, by omega, rfl⟩)
          simpa using this
        rw [this]
      first | refine .seq (.rg fun A hA K hK => ?_) | refine .seq (.seq (.rg fun A hA K hK => ?_)) | refine .rg fun A hA K hK => ?_ | refine .seq (.rd fun A hA K hK => ?_) | refine .seq (.seq (.rd fun A hA K hK => ?_)) | refine .rd fun A hA K hK => ?_
      simp (maxSteps := 1000000) only [go_sem, hA.nil, hA.go, hA.yes, hA.noT, hA.noF, hA.skp]
      refine hK _ _ ?_; clear hK K hA A
      exact .ret (ret1 (by simp (maxSteps := 1000000) only [go_sem, hw]) rfl)
    · rw [ht] at et
      exact ⟨by simp (maxSteps := 1000000) only [go_sem, h8], by simp (maxSteps := 1000000) only [go_sem, h0], by simp (maxSteps := 1000000) only [go_sem, h1], by simp (maxSteps := 1000000) only [go_sem, h7], by simp (maxSteps := 1000000) only [go_sem], rfl, et⟩
  rintro F s ⟨h0, h1, h7, h8, rfl, hj⟩
  rw [List.take_length] at hj
  have hw : idxE l = -1 := by rw [idxE, if_neg (by rw [hj]; simp)]
  first | refine .seq (.rg fun A hA K hK => ?_) | refine .seq (.seq (.rg fun A hA K hK => ?_)) | refine .rg fun A hA K hK => ?_ | refine .seq (.rd fun A hA K hK => ?_) | refine .seq (.seq (.rd fun A hA K hK => ?_)) | refine .rd fun A hA K hK => ?_
  simp (maxSteps := 1000000) only [go_sem, hA.nil, hA.go, hA.yes, hA.noT, hA.noF, hA.skp]
  refine hK _ _ ?_; clear hK K hA A
  exact .ret (ret1 (by simp (maxSteps := 1000000) only [go_sem, hw]) rfl)

/-- slices.ContainsFunc -/
theorem contains_spec (l : List (List Instr)) (σ : St) : T Try.prog 66 [progsA l, .func 67 []] σ (.bool (l.any longB)) σ := by
  refine in66 (by simp) fun wf hab => ?_
  have hw : decide (idxE l ≥ 0) = l.any longB := by
    unfold idxE; split
    · rename_i h; rw [h]; simp
    · rename_i h; rw [Bool.eq_false_iff.2 h]; decide
  unfold c66
  first | refine .seq (.rg fun A hA K hK => ?_) | refine .seq (.seq (.rg fun A hA K hK => ?_)) | refine .rg fun A hA K hK => ?_ | refine .seq (.rd fun A hA K hK => ?_) | refine .seq (.seq (.rd fun A hA K hK => ?_)) | refine .rd fun A hA K hK => ?_
  simp (maxSteps := 1000000) only [go_sem, hA.nil, hA.go, hA.yes, hA.noT, hA.noF, hA.skp]
  refine hK _ _ ?_; clear hK K hA A
  first | refine .seq (.rg fun A hA K hK => ?_) | refine .seq (.seq (.rg fun A hA K hK => ?_)) | refine .rg fun A hA K hK => ?_ | refine .seq (.rd fun A hA K hK => ?_) | refine .seq (.seq (.rd fun A hA K hK => ?_)) | refine .rd fun A hA K hK => ?_
  simp (maxSteps := 1000000) only [go_sem, hA.nil, hA.go, hA.yes, hA.noT, hA.noF, hA.skp]
  refine ⟨_, index_spec l _, ?_⟩
  try simp (maxSteps := 1000000) only [go_sem, hA.nil, hA.go]
  refine hK _ _ ?_; clear hK K hA A
  exact .ret (ret1 (by simp (maxSteps := 1000000) only [go_sem, hw]) rfl)

/-- The map of what is written. -/
def esOf (seen : List Int) : List (List Int × AV) := seen.map fun k => ([k], .agg [])
theorem esOf_find (k : Int) (seen : List Int) : mfind [k] (esOf seen) = if seen.contains k = true then some (seen.idxOf k) else none := by
  induction seen with
  | nil => rfl
  | cons x xs ih =>
    simp only [esOf, List.map_cons, mfind] at ih ⊢
    by_cases h : x = k
    · subst h; simp
    · have h' : ¬ k = x := fun e => h e.symm
      rw [if_neg (by simpa using h), ih, List.idxOf_cons]
      simp only [List.contains_cons, beq_eq_false_iff_ne.2 h', Bool.false_or]
      have h2 : (x == k) = false := by simpa using h
      split <;> simp [h2]
theorem esOf_get (k : Int) (seen : List Int) (h : seen.contains k = true) : ((esOf seen).getD (seen.idxOf k) ([], .undef)).2 = .agg [] := by
  have h1 : seen.idxOf k < seen.length := List.idxOf_lt_length_iff.2 (by simpa using h)
  simp [esOf, List.getD_eq_getElem?_getD, h1]

def placedB (seen : List Int) (dev : Int) (i : Instr) : Bool :=
  i.ins.all (fun r => seen.contains r) && (!(i.kind != 3 && (seen.contains i.out || (decide (i.out < 0) || decide (i.out > 65536)))) &&
    (decide (i.dev ≥ 0) && (decide (i.dev < dev) && (decide (i.n ≥ 0) && (decide (i.tag ≥ 0) && decide (i.tag ≤ 1073741824))))))

theorem placed_named (seen : List Int) (q : List Instr) (h : ∀ r, seen.contains r = wrote q r) (dev : Int) (i : Instr) : placedB seen dev i = namedB q dev i := by
  simp only [placedB, namedB, h]
  congr 1
  congr 1
  cases (i.kind != 3) <;> cases wrote q i.out <;> cases decide (i.out < 0) <;> simp

/-- code.placed -/
theorem placed_spec (i : Instr) (dev : Int) (bm : Nat) (seen : List Int) (σ : St) (hm : σ.blk bm = some (.map none (esOf seen))) : T Try.prog 105 [.agg (instrL i), I dev, .map bm] σ (.bool (placedB seen dev i)) σ := by
  refine in105 (by simp) fun wf hab => ?_
  have hin : i.ins.length ≤ most := hab_ints ((hab 0 (by simp)).agg 2 (by simp [instrL]))
  have hbm : bm < σ.next := by
    rcases Nat.lt_or_ge bm σ.next with h | h
    · exact h
    · rw [wf.1 bm h] at hm; cases hm
  clear hab
  unfold c105
  first | refine .seq (.rg fun A hA K hK => ?_) | refine .seq (.seq (.rg fun A hA K hK => ?_)) | refine .rg fun A hA K hK => ?_ | refine .seq (.rd fun A hA K hK => ?_) | refine .seq (.seq (.rd fun A hA K hK => ?_)) | refine .rd fun A hA K hK => ?_
  simp (maxSteps := 1000000) only [go_sem, hA.nil, hA.go, hA.yes, hA.noT, hA.noF, hA.skp]
  refine hK _ _ ?_; clear hK K hA A
  have hx0 : Ext σ { next := σ.next + 1, blk := fun b => if b = σ.next then some (Blk.cells 13 [instrL i]) else σ.blk b } := by
    refine ⟨by simp, fun b hb => ?_⟩
    simp only
    rw [if_neg (by omega)]
  first | refine .seq (.rg fun A hA K hK => ?_) | refine .seq (.seq (.rg fun A hA K hK => ?_)) | refine .rg fun A hA K hK => ?_ | refine .seq (.rd fun A hA K hK => ?_) | refine .seq (.seq (.rd fun A hA K hK => ?_)) | refine .rd fun A hA K hK => ?_
  simp (maxSteps := 1000000) only [go_sem, hA.nil, hA.go, hA.yes, hA.noT, hA.noF, hA.skp]
  refine hK _ _ ?_; clear hK K hA A
  refine .range (N := i.ins.length) (fun k F s => F 1 = I dev ∧ F 2 = .map bm ∧ F 3 = .ptr σ.next 0 0 ∧ F 14 = ints i.ins ∧ F 15 = I i.ins.length ∧ F 16 = I k ∧ s.blk σ.next = some (.cells 13 [instrL i]) ∧ σ.next < s.next ∧ Ext σ s ∧ (i.ins.take k).all (fun r => seen.contains r) = true) hin ?_ ?_ ?_ ?_
  · exact ⟨by simp (maxSteps := 1000000) only [go_sem], by simp (maxSteps := 1000000) only [go_sem], by simp (maxSteps := 1000000) only [go_sem], by simp (maxSteps := 1000000) only [go_sem], by simp (maxSteps := 1000000) only [go_sem], by simp (maxSteps := 1000000) only [go_sem]; try rfl, by simp (maxSteps := 1000000) only [go_sem], by simp, hx0, by simp⟩
  · rintro k F s ⟨_, _, _, _, h1, h2, _⟩
    exact ⟨h2, h1⟩
  · rintro k F s hlt ⟨h1, h2, h3, h14, h15, h16, hb, hnx, hx, hj⟩
    have e1 : (k : Int) < i.ins.length := by omega
    have et := take_all hlt hj
    have hm' : s.blk bm = some (.map none (esOf seen)) := by rw [hx.2 bm hbm]; exact hm
    first | refine .seq (.rg fun A hA K hK => ?_) | refine .seq (.seq (.rg fun A hA K hK => ?_)) | refine .rg fun A hA K hK => ?_ | refine .seq (.rd fun A hA K hK => ?_) | refine .seq (.seq (.rd fun A hA K hK => ?_)) | refine .rd fun A hA K hK => ?_
    simp (maxSteps := 1000000) only [go_sem, hA.nil, hA.go, hA.yes, hA.noT, hA.noF, hA.skp, h14, h16, ints_get hlt, e1]
    refine hK _ _ ?_; clear hK K hA A
    refine .mid (fun F' s' => F' 10 = .bool (seen.contains i.ins[k]) ∧ F' 1 = I dev ∧ F' 2 = .map bm ∧ F' 3 = .ptr σ.next 0 0 ∧ F' 14 = ints i.ins ∧ F' 15 = I i.ins.length ∧ F' 16 = I k ∧ s'.blk σ.next = some (.cells 13 [instrL i]) ∧ σ.next < s'.next ∧ Ext σ s') ?_ ?_
    · cases hc : seen.contains i.ins[k]
      · have hf : mfind [i.ins[k]] (esOf seen) = none := by rw [esOf_find, hc]; rfl
        first | refine .seq (.rg fun A hA K hK => ?_) | refine .seq (.seq (.rg fun A hA K hK => ?_)) | refine .rg fun A hA K hK => ?_ | refine .seq (.rd fun A hA K hK => ?_) | refine .seq (.seq (.rd fun A hA K hK => ?_)) | refine .rd fun A hA K hK => ?_
        simp (maxSteps := 1000000) only [go_sem, hA.nil, hA.go, hA.yes, hA.noT, hA.noF, hA.skp, h2, hm', hf, kA]
        refine hK _ _ ⟨by simp (maxSteps := 1000000) only [go_sem], by simp (maxSteps := 1000000) only [go_sem, h1], by simp (maxSteps := 1000000) only [go_sem, h2], by simp (maxSteps := 1000000) only [go_sem, h3], by simp (maxSteps := 1000000) only [go_sem, h14], by simp (maxSteps := 1000000) only [go_sem, h15], by simp (maxSteps := 1000000) only [go_sem, h16], ?_, by simp only; omega, by simp only; have := hx.1; omega, fun b hb2 => ?_⟩
        · simp only; rw [if_neg (by omega), if_neg (by omega)]; exact hb
        · have := hx.1
          simp only; rw [if_neg (by omega), if_neg (by omega)]; exact hx.2 b hb2
      · have hf : mfind [i.ins[k]] (esOf seen) = some (seen.idxOf i.ins[k]) := by rw [esOf_find, hc]; rfl
        first | refine .seq (.rg fun A hA K hK => ?_) | refine .seq (.seq (.rg fun A hA K hK => ?_)) | refine .rg fun A hA K hK => ?_ | refine .seq (.rd fun A hA K hK => ?_) | refine .seq (.seq (.rd fun A hA K hK => ?_)) | refine .rd fun A hA K hK => ?_
        simp (maxSteps := 1000000) only [go_sem, hA.nil, hA.go, hA.yes, hA.noT, hA.noF, hA.skp, h2, hm', hf, kA, esOf_get _ _ hc]
        refine hK _ _ ⟨by simp (maxSteps := 1000000) only [go_sem], by simp (maxSteps := 1000000) only [go_sem, h1], by simp (maxSteps := 1000000) only [go_sem, h2], by simp (maxSteps := 1000000) only [go_sem, h3], by simp (maxSteps := 1000000) only [go_sem, h14], by simp (maxSteps := 1000000) only [go_sem, h15], by simp (maxSteps := 1000000) only [go_sem, h16], ?_, by simp only; omega, by simp only; have := hx.1; omega, fun b hb2 => ?_⟩
        · simp only; rw [if_neg (by omega), if_neg (by omega)]; exact hb
        · have := hx.1
          simp only; rw [if_neg (by omega), if_neg (by omega)]; exact hx.2 b hb2
    · rintro F' s' ⟨hG, h1, h2, h3, h14, h15, h16, hb, hnx, hx⟩
      first | refine .seq (.rg fun A hA K hK => ?_) | refine .seq (.seq (.rg fun A hA K hK => ?_)) | refine .rg fun A hA K hK => ?_ | refine .seq (.rd fun A hA K hK => ?_) | refine .seq (.seq (.rd fun A hA K hK => ?_)) | refine .rd fun A hA K hK => ?_
      simp (maxSteps := 1000000) only [go_sem, hA.nil, hA.go, hA.yes, hA.noT, hA.noF, hA.skp, hG]
      refine hK _ _ ?_; clear hK K hA A
      refine .cond (t := _) (by simp (maxSteps := 1000000) only [go_sem]; try rfl) (fun ht => ?_) (fun ht => .skip ?_)
      · have hw : placedB seen dev i = false := by
          have : i.ins.all (fun r => seen.contains r) = false := by
            rw [Bool.eq_false_iff]; intro h
            rw [List.all_eq_true] at h
            have := h _ (List.getElem_mem hlt)
            rw [this] at ht; cases ht
          rw [placedB, this]; rfl
        first | refine .seq (.rg fun A hA K hK => ?_) | refine .seq (.seq (.rg fun A hA K hK => ?_)) | refine .rg fun A hA K hK => ?_ | refine .seq (.rd fun A hA K hK => ?_) | refine .seq (.seq (.rd fun A hA K hK => ?_)) | refine .rd fun A hA K hK => ?_
        simp (maxSteps := 1000000) only [go_sem, hA.nil, hA.go, hA.yes, hA.noT, hA.noF, hA.skp]
        refine hK _ _ ?_; clear hK K hA A
        exact .ret (ret1b (by simp (maxSteps := 1000000) only [go_sem, hw]) wf hx.2 (.bool _))
      · have hw : seen.contains i.ins[k] = true := by
          cases h : seen.contains i.ins[k]
          · rw [h] at ht; cases ht
          · rfl
        rw [hw] at et
        exact ⟨by simp (maxSteps := 1000000) only [go_sem, h16], by simp (maxSteps := 1000000) only [go_sem, h1], by simp (maxSteps := 1000000) only [go_sem, h2], by simp (maxSteps := 1000000) only [go_sem, h3], by simp (maxSteps := 1000000) only [go_sem, h14], by simp (maxSteps := 1000000) only [go_sem, h15], by simp (maxSteps := 1000000) only [go_sem], hb, hnx, hx, et⟩
  rintro F s ⟨h1, h2, h3, h14, h15, h16, hb, hnx, hx, hj⟩
  rw [List.take_length] at hj
  have hm' : s.blk bm = some (.map none (esOf seen)) := by rw [hx.2 bm hbm]; exact hm
  have hne : ¬ σ.next = s.next := by omega
  have hq : ∀ b, b < σ.next → s.blk b = σ.blk b := hx.2
  have hn0 : σ.next ≤ s.next := hx.1
  clear h14 h15 h16 hnx hx hm hx0 hbm hin
  cases hc : seen.contains i.out
  · have hf : mfind [i.out] (esOf seen) = none := by rw [esOf_find, hc]; rfl
    repeat' (first | (refine hK _ _ ?_; clear hK K hA A) | (refine hA.cut (by simp (maxSteps := 1000000) only [go_sem, *, h1, h2, h3, hb, hm', hf, kA]; with_reducible rfl) (fun hs => ?_) (fun hs => ?_) <;> simp (maxSteps := 1000000) only [go_sem, hA.nil, hA.go, hA.yes, hA.noT, hA.noF, hA.skp, *, h1, h2, h3, hb, hm', hf, kA]) | (refine .seq (.rg fun A hA K hK => ?_); simp (maxSteps := 1000000) only [go_sem, hA.nil, hA.go, hA.yes, hA.noT, hA.noF, hA.skp, *, h1, h2, h3, hb, hm', hf, kA]) | (refine .seq (.seq (.rg fun A hA K hK => ?_)); simp (maxSteps := 1000000) only [go_sem, hA.nil, hA.go, hA.yes, hA.noT, hA.noF, hA.skp, *, h1, h2, h3, hb, hm', hf, kA]) | (refine .rg fun A hA K hK => ?_; simp (maxSteps := 1000000) only [go_sem, hA.nil, hA.go, hA.yes, hA.noT, hA.noF, hA.skp, *, h1, h2, h3, hb, hm', hf, kA]) | (refine .seq (.rd fun A hA K hK => ?_); simp (maxSteps := 1000000) only [go_sem, hA.nil, hA.go, hA.yes, hA.noT, hA.noF, hA.skp, *, h1, h2, h3, hb, hm', hf, kA]) | (refine .seq (.seq (.rd fun A hA K hK => ?_)); simp (maxSteps := 1000000) only [go_sem, hA.nil, hA.go, hA.yes, hA.noT, hA.noF, hA.skp, *, h1, h2, h3, hb, hm', hf, kA]) | (refine .rd fun A hA K hK => ?_; simp (maxSteps := 1000000) only [go_sem, hA.nil, hA.go, hA.yes, hA.noT, hA.noF, hA.skp, *, h1, h2, h3, hb, hm', hf, kA]) | (refine .cond (t := _) (by simp (maxSteps := 1000000) only [go_sem, *, h1, h2, h3, hb, hm', hf, kA]; with_reducible rfl) (fun hs => ?_) (fun hs => ?_) <;> (first | (cases hs; done) | skip)) | (refine .seq (.cond (t := _) (by simp (maxSteps := 1000000) only [go_sem, *, h1, h2, h3, hb, hm', hf, kA]; with_reducible rfl) (fun hs => ?_) (fun hs => ?_)) <;> (first | (cases hs; done) | skip)) | refine .skip ?_ | refine .seq (.block ?_) | refine .block ?_ | refine .exit ?_ | ((exact .ret (ret1b (by simp (maxSteps := 1000000) only [go_sem, placedB, *]) wf (fun b hb2 => by have q1 : b ≠ s.next := (by omega); simp [q1, hq b hb2]) (.bool _))); done))
  · have hf : mfind [i.out] (esOf seen) = some (seen.idxOf i.out) := by rw [esOf_find, hc]; rfl
    have hg := esOf_get _ _ hc
    repeat' (first | (refine hK _ _ ?_; clear hK K hA A) | (refine hA.cut (by simp (maxSteps := 1000000) only [go_sem, *, h1, h2, h3, hb, hm', hf, hg, kA]; with_reducible rfl) (fun hs => ?_) (fun hs => ?_) <;> simp (maxSteps := 1000000) only [go_sem, hA.nil, hA.go, hA.yes, hA.noT, hA.noF, hA.skp, *, h1, h2, h3, hb, hm', hf, hg, kA]) | (refine .seq (.rg fun A hA K hK => ?_); simp (maxSteps := 1000000) only [go_sem, hA.nil, hA.go, hA.yes, hA.noT, hA.noF, hA.skp, *, h1, h2, h3, hb, hm', hf, hg, kA]) | (refine .seq (.seq (.rg fun A hA K hK => ?_)); simp (maxSteps := 1000000) only [go_sem, hA.nil, hA.go, hA.yes, hA.noT, hA.noF, hA.skp, *, h1, h2, h3, hb, hm', hf, hg, kA]) | (refine .rg fun A hA K hK => ?_; simp (maxSteps := 1000000) only [go_sem, hA.nil, hA.go, hA.yes, hA.noT, hA.noF, hA.skp, *, h1, h2, h3, hb, hm', hf, hg, kA]) | (refine .seq (.rd fun A hA K hK => ?_); simp (maxSteps := 1000000) only [go_sem, hA.nil, hA.go, hA.yes, hA.noT, hA.noF, hA.skp, *, h1, h2, h3, hb, hm', hf, hg, kA]) | (refine .seq (.seq (.rd fun A hA K hK => ?_)); simp (maxSteps := 1000000) only [go_sem, hA.nil, hA.go, hA.yes, hA.noT, hA.noF, hA.skp, *, h1, h2, h3, hb, hm', hf, hg, kA]) | (refine .rd fun A hA K hK => ?_; simp (maxSteps := 1000000) only [go_sem, hA.nil, hA.go, hA.yes, hA.noT, hA.noF, hA.skp, *, h1, h2, h3, hb, hm', hf, hg, kA]) | (refine .cond (t := _) (by simp (maxSteps := 1000000) only [go_sem, *, h1, h2, h3, hb, hm', hf, hg, kA]; with_reducible rfl) (fun hs => ?_) (fun hs => ?_) <;> (first | (cases hs; done) | skip)) | (refine .seq (.cond (t := _) (by simp (maxSteps := 1000000) only [go_sem, *, h1, h2, h3, hb, hm', hf, hg, kA]; with_reducible rfl) (fun hs => ?_) (fun hs => ?_)) <;> (first | (cases hs; done) | skip)) | refine .skip ?_ | refine .seq (.block ?_) | refine .block ?_ | refine .exit ?_ | ((exact .ret (ret1b (by simp (maxSteps := 1000000) only [go_sem, placedB, *]) wf (fun b hb2 => by have q1 : b ≠ s.next := (by omega); simp [q1, hq b hb2]) (.bool _))); done))

end Go.Proofs.Ytfjbabacpnnjmaa.Av

namespace Go.Proofs.Ytfjbabacpnnjmaa.Av
open Go Go.Av
set_option maxRecDepth 20000
set_option maxHeartbeats 4000000

attribute [local go_sem] step_apply
attribute [local go_sem] instr0 instr1 instr2 instr10 instr11 instr12 instrN instrA instr_len node0 node1 node2 node3 node4 node5 node6 nodeA node_len getD_drop List.length_drop splice List.nil_append List.append_nil cond_true cond_false List.set_cons_zero List.length_set aopq aop ev put_some put_none upd_apply abin asNat bounds row1 mk I ints progA progsA List.length_cons List.length_nil List.length_map List.drop_zero List.drop_succ_cons List.drop_nil List.getD_cons_zero List.getD_cons_succ Option.getD_none Option.getD_some
  List.take_succ_cons List.take_zero List.take_nil true_and and_true Int.toNat_natCast if_true if_false Nat.zero_add Nat.add_zero List.map_cons List.map_nil Nat.reduceEqDiff Nat.left_eq_add Nat.add_eq_left Nat.add_left_cancel_iff Nat.add_assoc Nat.reduceSub Nat.reduceAdd Nat.reduceLeDiff Nat.le_refl Nat.zero_le Nat.zero_lt_one Nat.lt_add_one Int.reduceLT Int.reduceLE Int.reduceToNat Nat.reduceLT Nat.reduceBEq Bool.false_eq_true Nat.reduceBNe ne_eq not_false_eq_true not_true_eq_false false_and and_false reduceIte Int.natCast_nonneg reduceCtorEq parts_agg parts_bool parts_int parts_str parts_lit parts_nils parts_sl parts_ptr Int.natCast_nonneg Int.natCast_nonneg beq_self_eq_true bne_self_eq_false St.push St.set St.kill Bool.true_and Bool.false_and Bool.and_true Bool.and_false Bool.true_or Bool.false_or Bool.or_true Bool.or_false Bool.not_true Bool.not_false


theorem esOf_snoc (seen : List Int) (k : Int) : esOf seen ++ [([k], .agg [])] = esOf (seen ++ [k]) := by simp [esOf]

theorem wrote_snoc {p : List Instr} {i : Nat} (h : i < p.length) (r : Int) : wrote (p.take (i + 1)) r = (wrote (p.take i) r || (p[i].kind != 3 && p[i].out == r)) := by
  simp only [wrote]
  rw [List.take_add_one, List.any_append]; simp [h]

/-- code.program -/
theorem program_spec (p : List Instr) (dev : Int) (σ : St) : T Try.prog 68 [progA p, I dev] σ (I (progE p dev)) σ := by
  refine in68 (by simp) fun wf hab => ?_
  have hp := hab_prog (hab 0 (by simp))
  clear hab
  unfold c68
  first | refine .seq (.rg fun A hA K hK => ?_) | refine .seq (.seq (.rg fun A hA K hK => ?_)) | refine .rg fun A hA K hK => ?_ | refine .seq (.rd fun A hA K hK => ?_) | refine .seq (.seq (.rd fun A hA K hK => ?_)) | refine .rd fun A hA K hK => ?_
  simp (maxSteps := 1000000) only [go_sem, hA.nil, hA.go, hA.yes, hA.noT, hA.noF, hA.skp]
  refine hK _ _ ?_; clear hK K hA A
  first | refine .seq (.rg fun A hA K hK => ?_) | refine .seq (.seq (.rg fun A hA K hK => ?_)) | refine .rg fun A hA K hK => ?_ | refine .seq (.rd fun A hA K hK => ?_) | refine .seq (.seq (.rd fun A hA K hK => ?_)) | refine .rd fun A hA K hK => ?_
  simp (maxSteps := 1000000) only [go_sem, hA.nil, hA.go, hA.yes, hA.noT, hA.noF, hA.skp]
  refine hK _ _ ?_; clear hK K hA A
  have hx0 : Ext σ { next := σ.next + 1, blk := fun b => if b = σ.next then some (Blk.map none []) else σ.blk b } := by
    refine ⟨by simp, fun b hb => ?_⟩
    simp only
    rw [if_neg (by omega)]
  first | refine .seq (.rg fun A hA K hK => ?_) | refine .seq (.seq (.rg fun A hA K hK => ?_)) | refine .rg fun A hA K hK => ?_ | refine .seq (.rd fun A hA K hK => ?_) | refine .seq (.seq (.rd fun A hA K hK => ?_)) | refine .rd fun A hA K hK => ?_
  simp (maxSteps := 1000000) only [go_sem, hA.nil, hA.go, hA.yes, hA.noT, hA.noF, hA.skp]
  refine hK _ _ ?_; clear hK K hA A
  refine .range (N := p.length) (fun i F s => F 1 = I dev ∧ F 5 = .map σ.next ∧ F 9 = progA p ∧ F 10 = I p.length ∧ F 11 = I i ∧ (∃ seen, s.blk σ.next = some (.map none (esOf seen)) ∧ ∀ r, seen.contains r = wrote (p.take i) r) ∧ σ.next < s.next ∧ Ext σ s ∧ firstNZ (((List.range p.length).map (stepE p dev)).take i) = 0) hp ?_ ?_ ?_ ?_
  · exact ⟨by simp (maxSteps := 1000000) only [go_sem], by simp (maxSteps := 1000000) only [go_sem], by simp (maxSteps := 1000000) only [go_sem], by simp (maxSteps := 1000000) only [go_sem], by simp (maxSteps := 1000000) only [go_sem]; try rfl, ⟨[], by simp [esOf], by simp [wrote]⟩, by simp, hx0, by simp [firstNZ]⟩
  · rintro i F s ⟨_, _, _, h1, h2, _⟩
    exact ⟨h2, h1⟩
  · rintro i F s hlt ⟨h1, h5, h9, h10, h11, ⟨seen, hm, hs⟩, hnx, hx, hj⟩
    have e1 : (i : Int) < p.length := by omega
    obtain ⟨et, ex⟩ := firstNZ_take (by simpa using hlt) hj
    rw [List.getElem_map, List.getElem_range] at et ex
    have hst : stepE p dev i = if formB p[i] = false then 1 else if namedB (p.take i) dev p[i] = false then 23 else 0 := by simp only [stepE, List.getElem?_eq_getElem hlt]
    have hpn := placed_named seen (p.take i) hs dev p[i]
    have q : ∀ B B', Ext σ { next := s.next + 1, blk := fun b => if b = s.next then some B else if b = s.next then some B' else s.blk b } := fun B B' => ext_two hx
    first | refine .seq (.rg fun A hA K hK => ?_) | refine .seq (.seq (.rg fun A hA K hK => ?_)) | refine .rg fun A hA K hK => ?_ | refine .seq (.rd fun A hA K hK => ?_) | refine .seq (.seq (.rd fun A hA K hK => ?_)) | refine .rd fun A hA K hK => ?_
    simp (maxSteps := 1000000) only [go_sem, hA.nil, hA.go, hA.yes, hA.noT, hA.noF, hA.skp, h9, h11, prog_get hlt, e1]
    refine hK _ _ ?_; clear hK K hA A
    generalize hS : ({ next := s.next + 1, blk := _ } : St) = s2
    have hb7 : s2.blk s.next = some (.cells 13 [instrL p[i]]) := by subst hS; simp
    have hb5 : s2.blk σ.next = some (.map none (esOf seen)) := by
      subst hS; simp only; rw [if_neg (by omega), if_neg (by omega)]; exact hm
    have hx2 : Ext σ s2 := by subst hS; exact q _ _
    have hn2 : σ.next < s2.next := by subst hS; simp only; omega
    clear hS q hx hm
    first | refine .seq (.rg fun A hA K hK => ?_) | refine .seq (.seq (.rg fun A hA K hK => ?_)) | refine .rg fun A hA K hK => ?_ | refine .seq (.rd fun A hA K hK => ?_) | refine .seq (.seq (.rd fun A hA K hK => ?_)) | refine .rd fun A hA K hK => ?_
    simp (maxSteps := 1000000) only [go_sem, hA.nil, hA.go, hA.yes, hA.noT, hA.noF, hA.skp, hb7]
    refine ⟨_, shaped_spec p[i] _, ?_⟩
    try simp (maxSteps := 1000000) only [go_sem, hA.nil, hA.go]
    refine hK _ _ ?_; clear hK K hA A
    refine .cond (t := _) (by simp (maxSteps := 1000000) only [go_sem]; try rfl) (fun ht => ?_) (fun ht => .skip ?_)
    · have hw : progE p dev = 1 := by
        have h1 : stepE p dev i = 1 := by rw [hst, if_pos (by simpa using ht)]
        rw [progE, ex (by rw [h1]; decide), h1]
      first | refine .seq (.rg fun A hA K hK => ?_) | refine .seq (.seq (.rg fun A hA K hK => ?_)) | refine .rg fun A hA K hK => ?_ | refine .seq (.rd fun A hA K hK => ?_) | refine .seq (.seq (.rd fun A hA K hK => ?_)) | refine .rd fun A hA K hK => ?_
      simp (maxSteps := 1000000) only [go_sem, hA.nil, hA.go, hA.yes, hA.noT, hA.noF, hA.skp]
      refine hK _ _ ?_; clear hK K hA A
      exact .ret (ret1b (by simp (maxSteps := 1000000) only [go_sem, hw]) wf hx2.2 (.int _ _))
    have hf : ¬ formB p[i] = false := by intro h; rw [h] at ht; cases ht
    first | refine .seq (.rg fun A hA K hK => ?_) | refine .seq (.seq (.rg fun A hA K hK => ?_)) | refine .rg fun A hA K hK => ?_ | refine .seq (.rd fun A hA K hK => ?_) | refine .seq (.seq (.rd fun A hA K hK => ?_)) | refine .rd fun A hA K hK => ?_
    simp (maxSteps := 1000000) only [go_sem, hA.nil, hA.go, hA.yes, hA.noT, hA.noF, hA.skp, hb7, h1, h5]
    refine ⟨_, placed_spec p[i] dev σ.next seen _ hb5, ?_⟩
    try simp (maxSteps := 1000000) only [go_sem, hA.nil, hA.go]
    refine hK _ _ ?_; clear hK K hA A
    refine .cond (t := _) (by simp (maxSteps := 1000000) only [go_sem]; try rfl) (fun ht2 => ?_) (fun ht2 => .skip ?_)
    · have hw : progE p dev = 23 := by
        have h1 : stepE p dev i = 23 := by rw [hst, if_neg hf, if_pos (by rw [← hpn]; simpa using ht2)]
        rw [progE, ex (by rw [h1]; decide), h1]
      first | refine .seq (.rg fun A hA K hK => ?_) | refine .seq (.seq (.rg fun A hA K hK => ?_)) | refine .rg fun A hA K hK => ?_ | refine .seq (.rd fun A hA K hK => ?_) | refine .seq (.seq (.rd fun A hA K hK => ?_)) | refine .rd fun A hA K hK => ?_
      simp (maxSteps := 1000000) only [go_sem, hA.nil, hA.go, hA.yes, hA.noT, hA.noF, hA.skp]
      refine hK _ _ ?_; clear hK K hA A
      exact .ret (ret1b (by simp (maxSteps := 1000000) only [go_sem, hw]) wf hx2.2 (.int _ _))
    have hnb : placedB seen dev p[i] = true := by
      cases h : placedB seen dev p[i]
      · rw [h] at ht2; cases ht2
      · rfl
    have h0 : stepE p dev i = 0 := by rw [hst, if_neg hf, if_neg (by rw [← hpn, hnb]; simp)]
    rw [h0] at et
    first | refine .seq (.rg fun A hA K hK => ?_) | refine .seq (.seq (.rg fun A hA K hK => ?_)) | refine .rg fun A hA K hK => ?_ | refine .seq (.rd fun A hA K hK => ?_) | refine .seq (.seq (.rd fun A hA K hK => ?_)) | refine .rd fun A hA K hK => ?_
    simp (maxSteps := 1000000) only [go_sem, hA.nil, hA.go, hA.yes, hA.noT, hA.noF, hA.skp, hb7]
    refine hK _ _ ?_; clear hK K hA A
    refine .cond (t := _) (by simp (maxSteps := 1000000) only [go_sem]; try rfl) (fun ht3 => ?_) (fun ht3 => .skip ?_)
    · have hno : seen.contains p[i].out = false := by
        simp only [placedB, ht3, Bool.true_and, Bool.and_eq_true, Bool.not_eq_true', Bool.or_eq_false_iff] at hnb
        exact hnb.2.1.1
      have hfn : mfind [p[i].out] (esOf seen) = none := by rw [esOf_find, hno]; rfl
      first | refine .seq (.rg fun A hA K hK => ?_) | refine .seq (.seq (.rg fun A hA K hK => ?_)) | refine .rg fun A hA K hK => ?_ | refine .seq (.rd fun A hA K hK => ?_) | refine .seq (.seq (.rd fun A hA K hK => ?_)) | refine .rd fun A hA K hK => ?_
      simp (maxSteps := 1000000) only [go_sem, hA.nil, hA.go, hA.yes, hA.noT, hA.noF, hA.skp, hb7, hb5, h5, hfn, kA, esOf_snoc]
      refine hK _ _ ?_; clear hK K hA A
      refine ⟨by simp (maxSteps := 1000000) only [go_sem, h11], by simp (maxSteps := 1000000) only [go_sem, h1], by simp (maxSteps := 1000000) only [go_sem, h5], by simp (maxSteps := 1000000) only [go_sem, h9], by simp (maxSteps := 1000000) only [go_sem, h10], by simp (maxSteps := 1000000) only [go_sem], ⟨seen ++ [p[i].out], by simp [esOf], fun r => ?_⟩, hn2, ⟨hx2.1, fun b hb => ?_⟩, et⟩
      · rw [wrote_snoc hlt, ← hs r, ht3]
        have : (p[i].out == r) = decide (r = p[i].out) := by rw [Bool.eq_iff_iff, beq_iff_eq, decide_eq_true_iff]; exact eq_comm
        simp [this]
      · simp only; rw [if_neg (by omega)]; exact hx2.2 b hb
    · refine ⟨by simp (maxSteps := 1000000) only [go_sem, h11], by simp (maxSteps := 1000000) only [go_sem, h1], by simp (maxSteps := 1000000) only [go_sem, h5], by simp (maxSteps := 1000000) only [go_sem, h9], by simp (maxSteps := 1000000) only [go_sem, h10], by simp (maxSteps := 1000000) only [go_sem], ⟨seen, hb5, fun r => ?_⟩, hn2, hx2, et⟩
      rw [wrote_snoc hlt, ← hs r, ht3]; simp
  rintro F s ⟨h1, h5, h9, h10, h11, _, hnx, hx, hj⟩
  rw [List.take_of_length_le (by simp)] at hj
  have hw : progE p dev = 0 := hj
  first | refine .seq (.rg fun A hA K hK => ?_) | refine .seq (.seq (.rg fun A hA K hK => ?_)) | refine .rg fun A hA K hK => ?_ | refine .seq (.rd fun A hA K hK => ?_) | refine .seq (.seq (.rd fun A hA K hK => ?_)) | refine .rd fun A hA K hK => ?_
  simp (maxSteps := 1000000) only [go_sem, hA.nil, hA.go, hA.yes, hA.noT, hA.noF, hA.skp]
  refine hK _ _ ?_; clear hK K hA A
  exact .ret (ret1b (by simp (maxSteps := 1000000) only [go_sem, hw]) wf hx.2 (.int _ _))

/-- code.Right -/
theorem right_spec (l : List (List Instr)) (σ : St) : T Try.prog 30 [progsA l] σ (I (rightE l)) σ := by
  refine in30 (by simp) fun wf hab => ?_
  obtain ⟨hl, hps⟩ := hab_progs (hab 0 (by simp))
  clear hab
  unfold c30
  first | refine .seq (.rg fun A hA K hK => ?_) | refine .seq (.seq (.rg fun A hA K hK => ?_)) | refine .rg fun A hA K hK => ?_ | refine .seq (.rd fun A hA K hK => ?_) | refine .seq (.seq (.rd fun A hA K hK => ?_)) | refine .rd fun A hA K hK => ?_
  simp (maxSteps := 1000000) only [go_sem, hA.nil, hA.go, hA.yes, hA.noT, hA.noF, hA.skp]
  refine hK _ _ ?_; clear hK K hA A
  refine .mid (fun F' σ' => F' 0 = progsA l ∧ (decide ((l.length : Int) < 1) || decide ((l.length : Int) > 8)) = false ∧ σ' = σ) ?_ ?_
  · repeat' (first | (refine hK _ _ ?_; clear hK K hA A) | (refine hA.cut (by simp (maxSteps := 1000000) only [go_sem, *]; with_reducible rfl) (fun hs => ?_) (fun hs => ?_) <;> simp (maxSteps := 1000000) only [go_sem, hA.nil, hA.go, hA.yes, hA.noT, hA.noF, hA.skp, *]) | (refine .seq (.rg fun A hA K hK => ?_); simp (maxSteps := 1000000) only [go_sem, hA.nil, hA.go, hA.yes, hA.noT, hA.noF, hA.skp, *]) | (refine .seq (.seq (.rg fun A hA K hK => ?_)); simp (maxSteps := 1000000) only [go_sem, hA.nil, hA.go, hA.yes, hA.noT, hA.noF, hA.skp, *]) | (refine .rg fun A hA K hK => ?_; simp (maxSteps := 1000000) only [go_sem, hA.nil, hA.go, hA.yes, hA.noT, hA.noF, hA.skp, *]) | (refine .seq (.rd fun A hA K hK => ?_); simp (maxSteps := 1000000) only [go_sem, hA.nil, hA.go, hA.yes, hA.noT, hA.noF, hA.skp, *]) | (refine .seq (.seq (.rd fun A hA K hK => ?_)); simp (maxSteps := 1000000) only [go_sem, hA.nil, hA.go, hA.yes, hA.noT, hA.noF, hA.skp, *]) | (refine .rd fun A hA K hK => ?_; simp (maxSteps := 1000000) only [go_sem, hA.nil, hA.go, hA.yes, hA.noT, hA.noF, hA.skp, *]) | (refine .cond (t := _) (by simp (maxSteps := 1000000) only [go_sem, *]; with_reducible rfl) (fun hs => ?_) (fun hs => ?_) <;> (first | (cases hs; done) | skip)) | (refine .seq (.cond (t := _) (by simp (maxSteps := 1000000) only [go_sem, *]; with_reducible rfl) (fun hs => ?_) (fun hs => ?_)) <;> (first | (cases hs; done) | skip)) | refine .skip ?_ | refine .seq (.block ?_) | refine .block ?_ | refine .exit ?_ | ((first | exact ⟨by simp (maxSteps := 1000000) only [go_sem, *], by simp (maxSteps := 1000000) only [go_sem, *], by first | rfl | trivial⟩ | exact .ret (ret1 (by simp (maxSteps := 1000000) only [go_sem, rightE, *]) rfl)); done))
  rintro F s ⟨h0, hb, rfl⟩
  first | refine .seq (.rg fun A hA K hK => ?_) | refine .seq (.seq (.rg fun A hA K hK => ?_)) | refine .rg fun A hA K hK => ?_ | refine .seq (.rd fun A hA K hK => ?_) | refine .seq (.seq (.rd fun A hA K hK => ?_)) | refine .rd fun A hA K hK => ?_
  simp (maxSteps := 1000000) only [go_sem, hA.nil, hA.go, hA.yes, hA.noT, hA.noF, hA.skp, h0]
  refine ⟨_, contains_spec l _, ?_⟩
  try simp (maxSteps := 1000000) only [go_sem, hA.nil, hA.go]
  refine hK _ _ ?_; clear hK K hA A
  refine .cond (t := l.any longB) (by simp (maxSteps := 1000000) only [go_sem]) (fun ht => ?_) (fun ht => .skip ?_)
  · have hw : rightE l = 3 := by
      rw [rightE, if_neg (by rw [hb]; simp), if_pos (show l.any (fun p => decide ((p.length : Int) > 65536)) = true from ht)]
    first | refine .seq (.rg fun A hA K hK => ?_) | refine .seq (.seq (.rg fun A hA K hK => ?_)) | refine .rg fun A hA K hK => ?_ | refine .seq (.rd fun A hA K hK => ?_) | refine .seq (.seq (.rd fun A hA K hK => ?_)) | refine .rd fun A hA K hK => ?_
    simp (maxSteps := 1000000) only [go_sem, hA.nil, hA.go, hA.yes, hA.noT, hA.noF, hA.skp]
    refine hK _ _ ?_; clear hK K hA A
    exact .ret (ret1 (by simp (maxSteps := 1000000) only [go_sem, hw]) rfl)
  have hright : rightE l = firstNZ (l.map fun p => progE p l.length) := by
    rw [rightE, if_neg (by rw [hb]; simp), if_neg (by rw [show l.any (fun p => decide ((p.length : Int) > 65536)) = false from ht]; simp)]
  first | refine .seq (.rg fun A hA K hK => ?_) | refine .seq (.seq (.rg fun A hA K hK => ?_)) | refine .rg fun A hA K hK => ?_ | refine .seq (.rd fun A hA K hK => ?_) | refine .seq (.seq (.rd fun A hA K hK => ?_)) | refine .rd fun A hA K hK => ?_
  simp (maxSteps := 1000000) only [go_sem, hA.nil, hA.go, hA.yes, hA.noT, hA.noF, hA.skp, h0]
  refine hK _ _ ?_; clear hK K hA A
  refine .range (N := l.length) (fun i F s' => F 0 = progsA l ∧ F 16 = progsA l ∧ F 17 = I l.length ∧ F 18 = I i ∧ s' = s ∧ firstNZ ((l.map fun p => progE p l.length).take i) = 0) hl ?_ ?_ ?_ ?_
  · exact ⟨by simp (maxSteps := 1000000) only [go_sem, h0], by simp (maxSteps := 1000000) only [go_sem], by simp (maxSteps := 1000000) only [go_sem], by simp (maxSteps := 1000000) only [go_sem]; try rfl, rfl, by simp [firstNZ]⟩
  · rintro i F s' ⟨_, _, h1, h2, _⟩
    exact ⟨h2, h1⟩
  · rintro i F s' hlt ⟨h0, h16, h17, h18, rfl, hj⟩
    have e1 : (i : Int) < l.length := by omega
    obtain ⟨et, ex⟩ := firstNZ_take (by simpa using hlt) hj
    rw [List.getElem_map] at et ex
    first | refine .seq (.rg fun A hA K hK => ?_) | refine .seq (.seq (.rg fun A hA K hK => ?_)) | refine .rg fun A hA K hK => ?_ | refine .seq (.rd fun A hA K hK => ?_) | refine .seq (.seq (.rd fun A hA K hK => ?_)) | refine .rd fun A hA K hK => ?_
    simp (maxSteps := 1000000) only [go_sem, hA.nil, hA.go, hA.yes, hA.noT, hA.noF, hA.skp, h16, h18, progs_get' hlt, e1]
    refine hK _ _ ?_; clear hK K hA A
    first | refine .seq (.rg fun A hA K hK => ?_) | refine .seq (.seq (.rg fun A hA K hK => ?_)) | refine .rg fun A hA K hK => ?_ | refine .seq (.rd fun A hA K hK => ?_) | refine .seq (.seq (.rd fun A hA K hK => ?_)) | refine .rd fun A hA K hK => ?_
    simp (maxSteps := 1000000) only [go_sem, hA.nil, hA.go, hA.yes, hA.noT, hA.noF, hA.skp, h0]
    refine ⟨_, program_spec l[i] l.length _, ?_⟩
    try simp (maxSteps := 1000000) only [go_sem, hA.nil, hA.go]
    refine hK _ _ ?_; clear hK K hA A
    first | refine .seq (.rg fun A hA K hK => ?_) | refine .seq (.seq (.rg fun A hA K hK => ?_)) | refine .rg fun A hA K hK => ?_ | refine .seq (.rd fun A hA K hK => ?_) | refine .seq (.seq (.rd fun A hA K hK => ?_)) | refine .rd fun A hA K hK => ?_
    simp (maxSteps := 1000000) only [go_sem, hA.nil, hA.go, hA.yes, hA.noT, hA.noF, hA.skp]
    refine hK _ _ ?_; clear hK K hA A
    refine .cond (t := _) (by simp (maxSteps := 1000000) only [go_sem]; try rfl) (fun ht => ?_) (fun ht => .skip ?_)
    · have hw : rightE l = progE l[i] l.length := by rw [hright, ex (by simpa using ht)]
      first | refine .seq (.rg fun A hA K hK => ?_) | refine .seq (.seq (.rg fun A hA K hK => ?_)) | refine .rg fun A hA K hK => ?_ | refine .seq (.rd fun A hA K hK => ?_) | refine .seq (.seq (.rd fun A hA K hK => ?_)) | refine .rd fun A hA K hK => ?_
      simp (maxSteps := 1000000) only [go_sem, hA.nil, hA.go, hA.yes, hA.noT, hA.noF, hA.skp]
      refine hK _ _ ?_; clear hK K hA A
      exact .ret (ret1 (by simp (maxSteps := 1000000) only [go_sem, hw]) rfl)
    · rw [show progE l[i] l.length = 0 by simpa using ht] at et
      exact ⟨by simp (maxSteps := 1000000) only [go_sem, h18], by simp (maxSteps := 1000000) only [go_sem, h0], by simp (maxSteps := 1000000) only [go_sem, h16], by simp (maxSteps := 1000000) only [go_sem, h17], by simp (maxSteps := 1000000) only [go_sem], rfl, et⟩
  rintro F s' ⟨h0, h16, h17, h18, rfl, hj⟩
  rw [List.take_of_length_le (by simp)] at hj
  first | refine .seq (.rg fun A hA K hK => ?_) | refine .seq (.seq (.rg fun A hA K hK => ?_)) | refine .rg fun A hA K hK => ?_ | refine .seq (.rd fun A hA K hK => ?_) | refine .seq (.seq (.rd fun A hA K hK => ?_)) | refine .rd fun A hA K hK => ?_
  simp (maxSteps := 1000000) only [go_sem, hA.nil, hA.go, hA.yes, hA.noT, hA.noF, hA.skp]
  refine hK _ _ ?_; clear hK K hA A
  exact .ret (ret1 (by simp (maxSteps := 1000000) only [go_sem, hright, hj]) rfl)

end Go.Proofs.Ytfjbabacpnnjmaa.Av

namespace Go.Proofs.Ytfjbabacpnnjmaa.Av
open Go Go.Av
set_option maxRecDepth 20000
set_option maxHeartbeats 4000000

attribute [local go_sem] step_apply
attribute [local go_sem] instr0 instr1 instr2 instr10 instr11 instr12 instrN instrA instr_len node0 node1 node2 node3 node4 node5 node6 nodeA node_len getD_drop List.length_drop splice List.nil_append List.append_nil cond_true cond_false List.set_cons_zero List.length_set aopq aop ev put_some put_none upd_apply abin asNat bounds row1 mk I ints progA progsA List.length_cons List.length_nil List.length_map List.drop_zero List.drop_succ_cons List.drop_nil List.getD_cons_zero List.getD_cons_succ Option.getD_none Option.getD_some
  List.take_succ_cons List.take_zero List.take_nil true_and and_true Int.toNat_natCast if_true if_false Nat.zero_add Nat.add_zero List.map_cons List.map_nil Nat.reduceEqDiff Nat.left_eq_add Nat.add_eq_left Nat.add_left_cancel_iff Nat.add_assoc Nat.reduceSub Nat.reduceAdd Nat.reduceLeDiff Nat.le_refl Nat.zero_le Nat.zero_lt_one Nat.lt_add_one Int.reduceLT Int.reduceLE Int.reduceToNat Nat.reduceLT Nat.reduceBEq Bool.false_eq_true Nat.reduceBNe ne_eq not_false_eq_true not_true_eq_false false_and and_false reduceIte Int.natCast_nonneg reduceCtorEq parts_agg parts_bool parts_int parts_str parts_lit parts_nils parts_sl parts_ptr Int.natCast_nonneg Int.natCast_nonneg beq_self_eq_true bne_self_eq_false St.push St.set St.kill Bool.true_and Bool.false_and Bool.and_true Bool.and_false Bool.true_or Bool.false_or Bool.or_true Bool.or_false Bool.not_true Bool.not_false


theorem foldl_take {α β : Type} (f : β → α → β) (a : β) (l : List α) (i : Nat) (h : i < l.length) : (l.take (i + 1)).foldl f a = f ((l.take i).foldl f a) l[i] := by
  rw [List.take_add_one, List.foldl_append]; simp [h]

def cntE (l : List (List Instr)) : Int := l.foldl (fun n p => IntKind.i64.wrap (n + p.length)) 0
def sndP (n : Int) (p : List Instr) : Int := p.foldl (fun n i => if (i.kind == 3) = true then IntKind.i64.wrap (n + 1) else n) n
def sndE (l : List (List Instr)) : Int := l.foldl sndP 0

/-- code.Count -/
theorem codeCount_spec (l : List (List Instr)) (σ : St) : T Try.prog 32 [progsA l] σ (I (cntE l)) σ := by
  refine in32 (by simp) fun wf hab => ?_
  obtain ⟨hl, hps⟩ := hab_progs (hab 0 (by simp))
  clear hab
  unfold c32
  first | refine .seq (.rg fun A hA K hK => ?_) | refine .seq (.seq (.rg fun A hA K hK => ?_)) | refine .rg fun A hA K hK => ?_ | refine .seq (.rd fun A hA K hK => ?_) | refine .seq (.seq (.rd fun A hA K hK => ?_)) | refine .rd fun A hA K hK => ?_
  simp (maxSteps := 1000000) only [go_sem, hA.nil, hA.go, hA.yes, hA.noT, hA.noF, hA.skp]
  refine hK _ _ ?_; clear hK K hA A
  first | refine .seq (.rg fun A hA K hK => ?_) | refine .seq (.seq (.rg fun A hA K hK => ?_)) | refine .rg fun A hA K hK => ?_ | refine .seq (.rd fun A hA K hK => ?_) | refine .seq (.seq (.rd fun A hA K hK => ?_)) | refine .rd fun A hA K hK => ?_
  simp (maxSteps := 1000000) only [go_sem, hA.nil, hA.go, hA.yes, hA.noT, hA.noF, hA.skp]
  refine hK _ _ ?_; clear hK K hA A
  first | refine .seq (.rg fun A hA K hK => ?_) | refine .seq (.seq (.rg fun A hA K hK => ?_)) | refine .rg fun A hA K hK => ?_ | refine .seq (.rd fun A hA K hK => ?_) | refine .seq (.seq (.rd fun A hA K hK => ?_)) | refine .rd fun A hA K hK => ?_
  simp (maxSteps := 1000000) only [go_sem, hA.nil, hA.go, hA.yes, hA.noT, hA.noF, hA.skp]
  refine hK _ _ ?_; clear hK K hA A
  refine .range (N := l.length) (fun i F s => F 3 = I (cntE (l.take i)) ∧ F 6 = progsA l ∧ F 7 = I l.length ∧ F 8 = I i ∧ s = σ) hl ?_ ?_ ?_ ?_
  · exact ⟨by simp (maxSteps := 1000000) only [go_sem]; try rfl, by simp (maxSteps := 1000000) only [go_sem], by simp (maxSteps := 1000000) only [go_sem], by simp (maxSteps := 1000000) only [go_sem]; try rfl, rfl⟩
  · rintro i F s ⟨_, _, h1, h2, _⟩
    exact ⟨h2, h1⟩
  · rintro i F s hlt ⟨h3, h6, h7, h8, rfl⟩
    have e1 : (i : Int) < l.length := by omega
    have et : cntE (l.take (i + 1)) = IntKind.i64.wrap (cntE (l.take i) + l[i].length) := foldl_take _ _ l i hlt
    first | refine .seq (.rg fun A hA K hK => ?_) | refine .seq (.seq (.rg fun A hA K hK => ?_)) | refine .rg fun A hA K hK => ?_ | refine .seq (.rd fun A hA K hK => ?_) | refine .seq (.seq (.rd fun A hA K hK => ?_)) | refine .rd fun A hA K hK => ?_
    simp (maxSteps := 1000000) only [go_sem, hA.nil, hA.go, hA.yes, hA.noT, hA.noF, hA.skp, h6, h8, progs_get' hlt, e1]
    refine hK _ _ ?_; clear hK K hA A
    first | refine .seq (.rg fun A hA K hK => ?_) | refine .seq (.seq (.rg fun A hA K hK => ?_)) | refine .rg fun A hA K hK => ?_ | refine .seq (.rd fun A hA K hK => ?_) | refine .seq (.seq (.rd fun A hA K hK => ?_)) | refine .rd fun A hA K hK => ?_
    simp (maxSteps := 1000000) only [go_sem, hA.nil, hA.go, hA.yes, hA.noT, hA.noF, hA.skp, h3]
    refine hK _ _ ?_; clear hK K hA A
    exact ⟨by simp (maxSteps := 1000000) only [go_sem, h8], by simp (maxSteps := 1000000) only [go_sem, et], by simp (maxSteps := 1000000) only [go_sem, h6], by simp (maxSteps := 1000000) only [go_sem, h7], by simp (maxSteps := 1000000) only [go_sem], rfl⟩
  rintro F s ⟨h3, h6, h7, h8, rfl⟩
  rw [List.take_length] at h3
  first | refine .seq (.rg fun A hA K hK => ?_) | refine .seq (.seq (.rg fun A hA K hK => ?_)) | refine .rg fun A hA K hK => ?_ | refine .seq (.rd fun A hA K hK => ?_) | refine .seq (.seq (.rd fun A hA K hK => ?_)) | refine .rd fun A hA K hK => ?_
  simp (maxSteps := 1000000) only [go_sem, hA.nil, hA.go, hA.yes, hA.noT, hA.noF, hA.skp, h3]
  refine hK _ _ ?_; clear hK K hA A
  exact .ret (ret1 (by simp (maxSteps := 1000000) only [go_sem]) rfl)

/-- code.Sends -/
theorem codeSends_spec (l : List (List Instr)) (σ : St) : T Try.prog 31 [progsA l] σ (I (sndE l)) σ := by
  refine in31 (by simp) fun wf hab => ?_
  obtain ⟨hl, hps⟩ := hab_progs (hab 0 (by simp))
  clear hab
  unfold c31
  first | refine .seq (.rg fun A hA K hK => ?_) | refine .seq (.seq (.rg fun A hA K hK => ?_)) | refine .rg fun A hA K hK => ?_ | refine .seq (.rd fun A hA K hK => ?_) | refine .seq (.seq (.rd fun A hA K hK => ?_)) | refine .rd fun A hA K hK => ?_
  simp (maxSteps := 1000000) only [go_sem, hA.nil, hA.go, hA.yes, hA.noT, hA.noF, hA.skp]
  refine hK _ _ ?_; clear hK K hA A
  first | refine .seq (.rg fun A hA K hK => ?_) | refine .seq (.seq (.rg fun A hA K hK => ?_)) | refine .rg fun A hA K hK => ?_ | refine .seq (.rd fun A hA K hK => ?_) | refine .seq (.seq (.rd fun A hA K hK => ?_)) | refine .rd fun A hA K hK => ?_
  simp (maxSteps := 1000000) only [go_sem, hA.nil, hA.go, hA.yes, hA.noT, hA.noF, hA.skp]
  refine hK _ _ ?_; clear hK K hA A
  first | refine .seq (.rg fun A hA K hK => ?_) | refine .seq (.seq (.rg fun A hA K hK => ?_)) | refine .rg fun A hA K hK => ?_ | refine .seq (.rd fun A hA K hK => ?_) | refine .seq (.seq (.rd fun A hA K hK => ?_)) | refine .rd fun A hA K hK => ?_
  simp (maxSteps := 1000000) only [go_sem, hA.nil, hA.go, hA.yes, hA.noT, hA.noF, hA.skp]
  refine hK _ _ ?_; clear hK K hA A
  refine .range (N := l.length) (fun i F s => F 3 = I (sndE (l.take i)) ∧ F 8 = progsA l ∧ F 9 = I l.length ∧ F 10 = I i ∧ Ext σ s) hl ?_ ?_ ?_ ?_
  · exact ⟨by simp (maxSteps := 1000000) only [go_sem]; try rfl, by simp (maxSteps := 1000000) only [go_sem], by simp (maxSteps := 1000000) only [go_sem], by simp (maxSteps := 1000000) only [go_sem]; try rfl, .refl σ⟩
  · rintro i F s ⟨_, _, h1, h2, _⟩
    exact ⟨h2, h1⟩
  · rintro i F s hlt ⟨h3, h8, h9, h10, hx⟩
    have e1 : (i : Int) < l.length := by omega
    have et : sndE (l.take (i + 1)) = sndP (sndE (l.take i)) l[i] := foldl_take _ _ l i hlt
    have hp : l[i].length ≤ most := hab_prog (hps _ (List.getElem_mem hlt))
    first | refine .seq (.rg fun A hA K hK => ?_) | refine .seq (.seq (.rg fun A hA K hK => ?_)) | refine .rg fun A hA K hK => ?_ | refine .seq (.rd fun A hA K hK => ?_) | refine .seq (.seq (.rd fun A hA K hK => ?_)) | refine .rd fun A hA K hK => ?_
    simp (maxSteps := 1000000) only [go_sem, hA.nil, hA.go, hA.yes, hA.noT, hA.noF, hA.skp, h8, h10, progs_get' hlt, e1]
    refine hK _ _ ?_; clear hK K hA A
    first | refine .seq (.rg fun A hA K hK => ?_) | refine .seq (.seq (.rg fun A hA K hK => ?_)) | refine .rg fun A hA K hK => ?_ | refine .seq (.rd fun A hA K hK => ?_) | refine .seq (.seq (.rd fun A hA K hK => ?_)) | refine .rd fun A hA K hK => ?_
    simp (maxSteps := 1000000) only [go_sem, hA.nil, hA.go, hA.yes, hA.noT, hA.noF, hA.skp]
    refine hK _ _ ?_; clear hK K hA A
    refine .range (N := l[i].length) (fun n F s => F 3 = I (sndP (sndE (l.take i)) (l[i].take n)) ∧ F 8 = progsA l ∧ F 9 = I l.length ∧ F 10 = I i ∧ F 14 = progA l[i] ∧ F 15 = I l[i].length ∧ F 16 = I n ∧ Ext σ s) hp ?_ ?_ ?_ ?_
    · exact ⟨by simp (maxSteps := 1000000) only [go_sem, h3]; try rfl, by simp (maxSteps := 1000000) only [go_sem, h8], by simp (maxSteps := 1000000) only [go_sem, h9], by simp (maxSteps := 1000000) only [go_sem, h10], by simp (maxSteps := 1000000) only [go_sem], by simp (maxSteps := 1000000) only [go_sem], by simp (maxSteps := 1000000) only [go_sem]; try rfl, hx⟩
    · rintro n F s ⟨_, _, _, _, _, h1, h2, _⟩
      exact ⟨h2, h1⟩
    · rintro n F s hn ⟨h3, h8, h9, h10, h14, h15, h16, hx⟩
      have e2 : (n : Int) < l[i].length := by omega
      have et2 : sndP (sndE (l.take i)) (l[i].take (n + 1)) = if (l[i][n].kind == 3) = true then IntKind.i64.wrap (sndP (sndE (l.take i)) (l[i].take n) + 1) else sndP (sndE (l.take i)) (l[i].take n) := foldl_take _ _ l[i] n hn
      have q := ext_two (B := .cells 13 [instrL l[i][n]]) (B' := .cells 13 [[I 0, I 0, .lit 1 [], I 0, .lit 1 [], .lit 1 [], .lit 1 [], I 0, I 0, .str ⟨#[]⟩, I 0, I 0, I 0]]) hx
      first | refine .seq (.rg fun A hA K hK => ?_) | refine .seq (.seq (.rg fun A hA K hK => ?_)) | refine .rg fun A hA K hK => ?_ | refine .seq (.rd fun A hA K hK => ?_) | refine .seq (.seq (.rd fun A hA K hK => ?_)) | refine .rd fun A hA K hK => ?_
      simp (maxSteps := 1000000) only [go_sem, hA.nil, hA.go, hA.yes, hA.noT, hA.noF, hA.skp, h14, h16, prog_get hn, e2]
      refine hK _ _ ?_; clear hK K hA A
      first | refine .seq (.rg fun A hA K hK => ?_) | refine .seq (.seq (.rg fun A hA K hK => ?_)) | refine .rg fun A hA K hK => ?_ | refine .seq (.rd fun A hA K hK => ?_) | refine .seq (.seq (.rd fun A hA K hK => ?_)) | refine .rd fun A hA K hK => ?_
      simp (maxSteps := 1000000) only [go_sem, hA.nil, hA.go, hA.yes, hA.noT, hA.noF, hA.skp]
      refine hK _ _ ?_; clear hK K hA A
      refine .cond (t := l[i][n].kind == 3) (by simp (maxSteps := 1000000) only [go_sem]) (fun ht => ?_) (fun ht => .skip ?_)
      · rw [if_pos ht] at et2
        first | refine .seq (.rg fun A hA K hK => ?_) | refine .seq (.seq (.rg fun A hA K hK => ?_)) | refine .rg fun A hA K hK => ?_ | refine .seq (.rd fun A hA K hK => ?_) | refine .seq (.seq (.rd fun A hA K hK => ?_)) | refine .rd fun A hA K hK => ?_
        simp (maxSteps := 1000000) only [go_sem, hA.nil, hA.go, hA.yes, hA.noT, hA.noF, hA.skp, h3]
        refine hK _ _ ?_; clear hK K hA A
        exact ⟨by simp (maxSteps := 1000000) only [go_sem, h16], by simp (maxSteps := 1000000) only [go_sem, et2], by simp (maxSteps := 1000000) only [go_sem, h8], by simp (maxSteps := 1000000) only [go_sem, h9], by simp (maxSteps := 1000000) only [go_sem, h10], by simp (maxSteps := 1000000) only [go_sem, h14], by simp (maxSteps := 1000000) only [go_sem, h15], by simp (maxSteps := 1000000) only [go_sem], q⟩
      · rw [if_neg (by rw [ht]; simp)] at et2
        exact ⟨by simp (maxSteps := 1000000) only [go_sem, h16], by simp (maxSteps := 1000000) only [go_sem, h3, et2], by simp (maxSteps := 1000000) only [go_sem, h8], by simp (maxSteps := 1000000) only [go_sem, h9], by simp (maxSteps := 1000000) only [go_sem, h10], by simp (maxSteps := 1000000) only [go_sem, h14], by simp (maxSteps := 1000000) only [go_sem, h15], by simp (maxSteps := 1000000) only [go_sem], q⟩
    · rintro F s ⟨h3, h8, h9, h10, h14, h15, h16, hx⟩
      rw [List.take_length] at h3
      exact ⟨by simp (maxSteps := 1000000) only [go_sem, h10], by simp (maxSteps := 1000000) only [go_sem, h3, et], by simp (maxSteps := 1000000) only [go_sem, h8], by simp (maxSteps := 1000000) only [go_sem, h9], by simp (maxSteps := 1000000) only [go_sem], hx⟩
  rintro F s ⟨h3, h8, h9, h10, hx⟩
  rw [List.take_length] at h3
  first | refine .seq (.rg fun A hA K hK => ?_) | refine .seq (.seq (.rg fun A hA K hK => ?_)) | refine .rg fun A hA K hK => ?_ | refine .seq (.rd fun A hA K hK => ?_) | refine .seq (.seq (.rd fun A hA K hK => ?_)) | refine .rd fun A hA K hK => ?_
  simp (maxSteps := 1000000) only [go_sem, hA.nil, hA.go, hA.yes, hA.noT, hA.noF, hA.skp, h3]
  refine hK _ _ ?_; clear hK K hA A
  exact .ret (ret1b (by simp (maxSteps := 1000000) only [go_sem]) wf hx.2 (.int _ _))

end Go.Proofs.Ytfjbabacpnnjmaa.Av
