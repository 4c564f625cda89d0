/- A logic of small values, and walks in it: code.Right. code.program, code.Right. code.Count, code.Sends. code.ends: a kind's messages as a map. code.Pairs. -/
import Derived.Test.YtfjbabacpnnjmaaAv5
set_option linter.unusedVariables false
set_option linter.unusedSimpArgs false
set_option linter.deprecated false
namespace Go.Proofs.Ytfjbabacpnnjmaa.Av
open Go Go.Av
set_option maxRecDepth 20000
set_option maxHeartbeats 4000000

attribute [local go_sem] step_apply
attribute [local go_sem] instr0 instr1 instr2 instr10 instr11 instr12 instrN instrA instr_len node0 node1 node2 node3 node4 node5 node6 nodeA node_len getD_drop List.length_drop splice List.nil_append List.append_nil cond_true cond_false List.set_cons_zero List.length_set aopq aop ev put_some put_none upd_apply abin asNat bounds row1 mk I ints progA progsA List.length_cons List.length_nil List.length_map List.drop_zero List.drop_succ_cons List.drop_nil List.getD_cons_zero List.getD_cons_succ Option.getD_none Option.getD_some
  List.take_succ_cons List.take_zero List.take_nil true_and and_true Int.toNat_natCast if_true if_false Nat.zero_add Nat.add_zero List.map_cons List.map_nil Nat.reduceEqDiff Nat.left_eq_add Nat.add_eq_left Nat.add_left_cancel_iff Nat.add_assoc Nat.reduceSub Nat.reduceAdd Nat.reduceLeDiff Nat.le_refl Nat.zero_le Nat.zero_lt_one Nat.lt_add_one Int.reduceLT Int.reduceLE Int.reduceToNat Nat.reduceLT Nat.reduceBEq Bool.false_eq_true Nat.reduceBNe ne_eq not_false_eq_true not_true_eq_false false_and and_false reduceIte Int.natCast_nonneg reduceCtorEq parts_agg parts_bool parts_int parts_str parts_lit parts_nils parts_sl parts_ptr Int.natCast_nonneg Int.natCast_nonneg beq_self_eq_true bne_self_eq_false St.push St.set St.kill Bool.true_and Bool.false_and Bool.and_true Bool.and_false Bool.true_or Bool.false_or Bool.or_true Bool.or_false Bool.not_true Bool.not_false


def longB (p : List Instr) : Bool := decide ((p.length : Int) > 65536)

/-- code.Right's own function -/
theorem long_spec (p : List Instr) (σ : St) : T Try.prog 67 [progA p] σ (.bool (longB p)) σ := by
  refine in67 (by simp) fun wf hab => ?_
  unfold c67
  first | refine .seq (.rg fun A hA K hK => ?_) | refine .seq (.seq (.rg fun A hA K hK => ?_)) | refine .rg fun A hA K hK => ?_ | refine .seq (.rd fun A hA K hK => ?_) | refine .seq (.seq (.rd fun A hA K hK => ?_)) | refine .rd fun A hA K hK => ?_
  simp (maxSteps := 1000000) only [go_sem, hA.nil, hA.go, hA.yes, hA.noT, hA.noF, hA.skp]
  refine hK _ _ ?_; clear hK K hA A
  first | refine .seq (.rg fun A hA K hK => ?_) | refine .seq (.seq (.rg fun A hA K hK => ?_)) | refine .rg fun A hA K hK => ?_ | refine .seq (.rd fun A hA K hK => ?_) | refine .seq (.seq (.rd fun A hA K hK => ?_)) | refine .rd fun A hA K hK => ?_
  simp (maxSteps := 1000000) only [go_sem, hA.nil, hA.go, hA.yes, hA.noT, hA.noF, hA.skp]
  refine hK _ _ ?_; clear hK K hA A
  exact .ret (ret1 (by simp (maxSteps := 1000000) only [go_sem, longB]) rfl)

def idxE (l : List (List Instr)) : Int := if l.any longB = true then (l.findIdx longB : Nat) else -1

/-- slices.IndexFunc -/
theorem index_spec (l : List (List Instr)) (σ : St) : T Try.prog 103 [progsA l, .func 67 []] σ (I (idxE l)) σ := by
  refine in103 (by simp) fun wf hab => ?_
  obtain ⟨hl, hps⟩ := hab_progs (hab 0 (by simp))
  clear hab
  unfold c103
  first | refine .seq (.rg fun A hA K hK => ?_) | refine .seq (.seq (.rg fun A hA K hK => ?_)) | refine .rg fun A hA K hK => ?_ | refine .seq (.rd fun A hA K hK => ?_) | refine .seq (.seq (.rd fun A hA K hK => ?_)) | refine .rd fun A hA K hK => ?_
  simp (maxSteps := 1000000) only [go_sem, hA.nil, hA.go, hA.yes, hA.noT, hA.noF, hA.skp]
  refine hK _ _ ?_; clear hK K hA A
  first | refine .seq (.rg fun A hA K hK => ?_) | refine .seq (.seq (.rg fun A hA K hK => ?_)) | refine .rg fun A hA K hK => ?_ | refine .seq (.rd fun A hA K hK => ?_) | refine .seq (.seq (.rd fun A hA K hK => ?_)) | refine .rd fun A hA K hK => ?_
  simp (maxSteps := 1000000) only [go_sem, hA.nil, hA.go, hA.yes, hA.noT, hA.noF, hA.skp]
  refine hK _ _ ?_; clear hK K hA A
  refine .range (N := l.length) (fun i F s => F 0 = progsA l ∧ F 1 = .func 67 [] ∧ F 7 = I l.length ∧ F 8 = I i ∧ s = σ ∧ (l.take i).any longB = false) hl ?_ ?_ ?_ ?_
  · exact ⟨by simp (maxSteps := 1000000) only [go_sem], by simp (maxSteps := 1000000) only [go_sem], by simp (maxSteps := 1000000) only [go_sem], by simp (maxSteps := 1000000) only [go_sem]; try rfl, rfl, by simp⟩
  · rintro i F s ⟨_, _, h1, h2, _⟩
    exact ⟨h2, h1⟩
  · rintro i F s hlt ⟨h0, h1, h7, h8, rfl, hj⟩
    have e1 : (i : Int) < l.length := by omega
    obtain ⟨et, ex⟩ := any_take' hlt hj
    first | refine .seq (.rg fun A hA K hK => ?_) | refine .seq (.seq (.rg fun A hA K hK => ?_)) | refine .rg fun A hA K hK => ?_ | refine .seq (.rd fun A hA K hK => ?_) | refine .seq (.seq (.rd fun A hA K hK => ?_)) | refine .rd fun A hA K hK => ?_
    simp (maxSteps := 1000000) only [go_sem, hA.nil, hA.go, hA.yes, hA.noT, hA.noF, hA.skp, h8]
    refine hK _ _ ?_; clear hK K hA A
    first | refine .seq (.rg fun A hA K hK => ?_) | refine .seq (.seq (.rg fun A hA K hK => ?_)) | refine .rg fun A hA K hK => ?_ | refine .seq (.rd fun A hA K hK => ?_) | refine .seq (.seq (.rd fun A hA K hK => ?_)) | refine .rd fun A hA K hK => ?_
    simp (maxSteps := 1000000) only [go_sem, hA.nil, hA.go, hA.yes, hA.noT, hA.noF, hA.skp, h0, h1, h8, progs_get' hlt, e1]
    refine ⟨_, long_spec l[i] _, ?_⟩
    try simp (maxSteps := 1000000) only [go_sem, hA.nil, hA.go]
    refine hK _ _ ?_; clear hK K hA A
    refine .cond (t := longB l[i]) (by simp (maxSteps := 1000000) only [go_sem]) (fun ht => ?_) (fun ht => .skip ?_)
    · have hw : idxE l = i := by
        rw [idxE, if_pos (ex ht)]
        have : l.findIdx longB = i := by
          refine (List.findIdx_eq hlt).2 ⟨ht, fun j hji => ?_⟩
          simp only [List.any_eq_false] at hj
          have := hj l[j] (List.mem_take_iff_getElem.2 ⟨j, by omega, rfl⟩)
          simpa using this
        rw [this]
      first | refine .seq (.rg fun A hA K hK => ?_) | refine .seq (.seq (.rg fun A hA K hK => ?_)) | refine .rg fun A hA K hK => ?_ | refine .seq (.rd fun A hA K hK => ?_) | refine .seq (.seq (.rd fun A hA K hK => ?_)) | refine .rd fun A hA K hK => ?_
      simp (maxSteps := 1000000) only [go_sem, hA.nil, hA.go, hA.yes, hA.noT, hA.noF, hA.skp]
      refine hK _ _ ?_; clear hK K hA A
      exact .ret (ret1 (by simp (maxSteps := 1000000) only [go_sem, hw]) rfl)
    · rw [ht] at et
      exact ⟨by simp (maxSteps := 1000000) only [go_sem, h8], by simp (maxSteps := 1000000) only [go_sem, h0], by simp (maxSteps := 1000000) only [go_sem, h1], by simp (maxSteps := 1000000) only [go_sem, h7], by simp (maxSteps := 1000000) only [go_sem], rfl, et⟩
  rintro F s ⟨h0, h1, h7, h8, rfl, hj⟩
  rw [List.take_length] at hj
  have hw : idxE l = -1 := by rw [idxE, if_neg (by rw [hj]; simp)]
  first | refine .seq (.rg fun A hA K hK => ?_) | refine .seq (.seq (.rg fun A hA K hK => ?_)) | refine .rg fun A hA K hK => ?_ | refine .seq (.rd fun A hA K hK => ?_) | refine .seq (.seq (.rd fun A hA K hK => ?_)) | refine .rd fun A hA K hK => ?_
  simp (maxSteps := 1000000) only [go_sem, hA.nil, hA.go, hA.yes, hA.noT, hA.noF, hA.skp]
  refine hK _ _ ?_; clear hK K hA A
  exact .ret (ret1 (by simp (maxSteps := 1000000) only [go_sem, hw]) rfl)

/-- slices.ContainsFunc -/
theorem contains_spec (l : List (List Instr)) (σ : St) : T Try.prog 66 [progsA l, .func 67 []] σ (.bool (l.any longB)) σ := by
  refine in66 (by simp) fun wf hab => ?_
  have hw : decide (idxE l ≥ 0) = l.any longB := by
    unfold idxE; split
    · rename_i h; rw [h]; simp
    · rename_i h; rw [Bool.eq_false_iff.2 h]; decide
  unfold c66
  first | refine .seq (.rg fun A hA K hK => ?_) | refine .seq (.seq (.rg fun A hA K hK => ?_)) | refine .rg fun A hA K hK => ?_ | refine .seq (.rd fun A hA K hK => ?_) | refine .seq (.seq (.rd fun A hA K hK => ?_)) | refine .rd fun A hA K hK => ?_
  simp (maxSteps := 1000000) only [go_sem, hA.nil, hA.go, hA.yes, hA.noT, hA.noF, hA.skp]
  refine hK _ _ ?_; clear hK K hA A
  first | refine .seq (.rg fun A hA K hK => ?_) | refine .seq (.seq (.rg fun A hA K hK => ?_)) | refine .rg fun A hA K hK => ?_ | refine .seq (.rd fun A hA K hK => ?_) | refine .seq (.seq (.rd fun A hA K hK => ?_)) | refine .rd fun A hA K hK => ?_
  simp (maxSteps := 1000000) only [go_sem, hA.nil, hA.go, hA.yes, hA.noT, hA.noF, hA.skp]
  refine ⟨_, index_spec l _, ?_⟩
  try simp (maxSteps := 1000000) only [go_sem, hA.nil, hA.go]
  refine hK _ _ ?_; clear hK K hA A
  exact .ret (ret1 (by simp (maxSteps := 1000000) only [go_sem, hw]) rfl)

/-- The map of what is written. -/
def esOf (seen : List Int) : List (List Int × AV) := seen.map fun k => ([k], .agg [])
theorem esOf_find (k : Int) (seen : List Int) : mfind [k] (esOf seen) = if seen.contains k = true then some (seen.idxOf k) else none := by
  induction seen with
  | nil => rfl
  | cons x xs ih =>
    simp only [esOf, List.map_cons, mfind] at ih ⊢
    by_cases h : x = k
    · subst h; simp
    · have h' : ¬ k = x := fun e => h e.symm
      rw [if_neg (by simpa using h), ih, List.idxOf_cons]
      simp only [List.contains_cons, beq_eq_false_iff_ne.2 h', Bool.false_or]
      have h2 : (x == k) = false := by simpa using h
      split <;> simp [h2]
theorem esOf_get (k : Int) (seen : List Int) (h : seen.contains k = true) : ((esOf seen).getD (seen.idxOf k) ([], .undef)).2 = .agg [] := by
  have h1 : seen.idxOf k < seen.length := List.idxOf_lt_length_iff.2 (by simpa using h)
  simp [esOf, List.getD_eq_getElem?_getD, h1]

def placedB (seen : List Int) (dev : Int) (i : Instr) : Bool :=
  i.ins.all (fun r => seen.contains r) && (!(i.kind != 3 && (seen.contains i.out || (decide (i.out < 0) || decide (i.out > 65536)))) &&
    (decide (i.dev ≥ 0) && (decide (i.dev < dev) && (decide (i.n ≥ 0) && (decide (i.tag ≥ 0) && decide (i.tag ≤ 1073741824))))))

theorem placed_named (seen : List Int) (q : List Instr) (h : ∀ r, seen.contains r = wrote q r) (dev : Int) (i : Instr) : placedB seen dev i = namedB q dev i := by
  simp only [placedB, namedB, h]
  congr 1
  congr 1
  cases (i.kind != 3) <;> cases wrote q i.out <;> cases decide (i.out < 0) <;> simp

/-- code.placed -/
theorem placed_spec (i : Instr) (dev : Int) (bm : Nat) (seen : List Int) (σ : St) (hm : σ.blk bm = some (.map none (esOf seen))) : T Try.prog 105 [.agg (instrL i), I dev, .map bm] σ (.bool (placedB seen dev i)) σ := by
  refine in105 (by simp) fun wf hab => ?_
  have hin : i.ins.length ≤ most := hab_ints ((hab 0 (by simp)).agg 2 (by simp [instrL]))
  have hbm : bm < σ.next := by
    rcases Nat.lt_or_ge bm σ.next with h | h
    · exact h
    · rw [wf.1 bm h] at hm; cases hm
  clear hab
  unfold c105
  first | refine .seq (.rg fun A hA K hK => ?_) | refine .seq (.seq (.rg fun A hA K hK => ?_)) | refine .rg fun A hA K hK => ?_ | refine .seq (.rd fun A hA K hK => ?_) | refine .seq (.seq (.rd fun A hA K hK => ?_)) | refine .rd fun A hA K hK => ?_
  simp (maxSteps := 1000000) only [go_sem, hA.nil, hA.go, hA.yes, hA.noT, hA.noF, hA.skp]
  refine hK _ _ ?_; clear hK K hA A
  have hx0 : Ext σ { next := σ.next + 1, blk := fun b => if b = σ.next then some (Blk.cells 13 [instrL i]) else σ.blk b } := by
    refine ⟨by simp, fun b hb => ?_⟩
    simp only
    rw [if_neg (by omega)]
  first | refine .seq (.rg fun A hA K hK => ?_) | refine .seq (.seq (.rg fun A hA K hK => ?_)) | refine .rg fun A hA K hK => ?_ | refine .seq (.rd fun A hA K hK => ?_) | refine .seq (.seq (.rd fun A hA K hK => ?_)) | refine .rd fun A hA K hK => ?_
  simp (maxSteps := 1000000) only [go_sem, hA.nil, hA.go, hA.yes, hA.noT, hA.noF, hA.skp]
  refine hK _ _ ?_; clear hK K hA A
  refine .range (N := i.ins.length) (fun k F s => F 1 = I dev ∧ F 2 = .map bm ∧ F 3 = .ptr σ.next 0 0 ∧ F 14 = ints i.ins ∧ F 15 = I i.ins.length ∧ F 16 = I k ∧ s.blk σ.next = some (.cells 13 [instrL i]) ∧ σ.next < s.next ∧ Ext σ s ∧ (i.ins.take k).all (fun r => seen.contains r) = true) hin ?_ ?_ ?_ ?_
  · exact ⟨by simp (maxSteps := 1000000) only [go_sem], by simp (maxSteps := 1000000) only [go_sem], by simp (maxSteps := 1000000) only [go_sem], by simp (maxSteps := 1000000) only [go_sem], by simp (maxSteps := 1000000) only [go_sem], by simp (maxSteps := 1000000) only [go_sem]; try rfl, by simp (maxSteps := 1000000) only [go_sem], by simp, hx0, by simp⟩
  · rintro k F s ⟨_, _, _, _, h1, h2, _⟩
    exact ⟨h2, h1⟩
  · rintro k F s hlt ⟨h1, h2, h3, h14, h15, h16, hb, hnx, hx, hj⟩
    have e1 : (k : Int) < i.ins.length := by omega
    have et := take_all hlt hj
    have hm' : s.blk bm = some (.map none (esOf seen)) := by rw [hx.2 bm hbm]; exact hm
    first | refine .seq (.rg fun A hA K hK => ?_) | refine .seq (.seq (.rg fun A hA K hK => ?_)) | refine .rg fun A hA K hK => ?_ | refine .seq (.rd fun A hA K hK => ?_) | refine .seq (.seq (.rd fun A hA K hK => ?_)) | refine .rd fun A hA K hK => ?_
    simp (maxSteps := 1000000) only [go_sem, hA.nil, hA.go, hA.yes, hA.noT, hA.noF, hA.skp, h14, h16, ints_get hlt, e1]
    refine hK _ _ ?_; clear hK K hA A
    refine .mid (fun F' s' => F' 10 = .bool (seen.contains i.ins[k]) ∧ F' 1 = I dev ∧ F' 2 = .map bm ∧ F' 3 = .ptr σ.next 0 0 ∧ F' 14 = ints i.ins ∧ F' 15 = I i.ins.length ∧ F' 16 = I k ∧ s'.blk σ.next = some (.cells 13 [instrL i]) ∧ σ.next < s'.next ∧ Ext σ s') ?_ ?_
    · cases hc : seen.contains i.ins[k]
      · have hf : mfind [i.ins[k]] (esOf seen) = none := by rw [esOf_find, hc]; rfl
        first | refine .seq (.rg fun A hA K hK => ?_) | refine .seq (.seq (.rg fun A hA K hK => ?_)) | refine .rg fun A hA K hK => ?_ | refine .seq (.rd fun A hA K hK => ?_) | refine .seq (.seq (.rd fun A hA K hK => ?_)) | refine .rd fun A hA K hK => ?_
        simp (maxSteps := 1000000) only [go_sem, hA.nil, hA.go, hA.yes, hA.noT, hA.noF, hA.skp, h2, hm', hf, kA]
        refine hK _ _ ⟨by simp (maxSteps := 1000000) only [go_sem], by simp (maxSteps := 1000000) only [go_sem, h1], by simp (maxSteps := 1000000) only [go_sem, h2], by simp (maxSteps := 1000000) only [go_sem, h3], by simp (maxSteps := 1000000) only [go_sem, h14], by simp (maxSteps := 1000000) only [go_sem, h15], by simp (maxSteps := 1000000) only [go_sem, h16], ?_, by simp only; omega, by simp only; have := hx.1; omega, fun b hb2 => ?_⟩
        · simp only; rw [if_neg (by omega), if_neg (by omega)]; exact hb
        · have := hx.1
          simp only; rw [if_neg (by omega), if_neg (by omega)]; exact hx.2 b hb2
      · have hf : mfind [i.ins[k]] (esOf seen) = some (seen.idxOf i.ins[k]) := by rw [esOf_find, hc]; rfl
        first | refine .seq (.rg fun A hA K hK => ?_) | refine .seq (.seq (.rg fun A hA K hK => ?_)) | refine .rg fun A hA K hK => ?_ | refine .seq (.rd fun A hA K hK => ?_) | refine .seq (.seq (.rd fun A hA K hK => ?_)) | refine .rd fun A hA K hK => ?_
        simp (maxSteps := 1000000) only [go_sem, hA.nil, hA.go, hA.yes, hA.noT, hA.noF, hA.skp, h2, hm', hf, kA, esOf_get _ _ hc]
        refine hK _ _ ⟨by simp (maxSteps := 1000000) only [go_sem], by simp (maxSteps := 1000000) only [go_sem, h1], by simp (maxSteps := 1000000) only [go_sem, h2], by simp (maxSteps := 1000000) only [go_sem, h3], by simp (maxSteps := 1000000) only [go_sem, h14], by simp (maxSteps := 1000000) only [go_sem, h15], by simp (maxSteps := 1000000) only [go_sem, h16], ?_, by simp only; omega, by simp only; have := hx.1; omega, fun b hb2 => ?_⟩
        · simp only; rw [if_neg (by omega), if_neg (by omega)]; exact hb
        · have := hx.1
          simp only; rw [if_neg (by omega), if_neg (by omega)]; exact hx.2 b hb2
    · rintro F' s' ⟨hG, h1, h2, h3, h14, h15, h16, hb, hnx, hx⟩
      first | refine .seq (.rg fun A hA K hK => ?_) | refine .seq (.seq (.rg fun A hA K hK => ?_)) | refine .rg fun A hA K hK => ?_ | refine .seq (.rd fun A hA K hK => ?_) | refine .seq (.seq (.rd fun A hA K hK => ?_)) | refine .rd fun A hA K hK => ?_
      simp (maxSteps := 1000000) only [go_sem, hA.nil, hA.go, hA.yes, hA.noT, hA.noF, hA.skp, hG]
      refine hK _ _ ?_; clear hK K hA A
      refine .cond (t := _) (by simp (maxSteps := 1000000) only [go_sem]; try rfl) (fun ht => ?_) (fun ht => .skip ?_)
      · have hw : placedB seen dev i = false := by
          have : i.ins.all (fun r => seen.contains r) = false := by
            rw [Bool.eq_false_iff]; intro h
            rw [List.all_eq_true] at h
            have := h _ (List.getElem_mem hlt)
            rw [this] at ht; cases ht
          rw [placedB, this]; rfl
        first | refine .seq (.rg fun A hA K hK => ?_) | refine .seq (.seq (.rg fun A hA K hK => ?_)) | refine .rg fun A hA K hK => ?_ | refine .seq (.rd fun A hA K hK => ?_) | refine .seq (.seq (.rd fun A hA K hK => ?_)) | refine .rd fun A hA K hK => ?_
        simp (maxSteps := 1000000) only [go_sem, hA.nil, hA.go, hA.yes, hA.noT, hA.noF, hA.skp]
        refine hK _ _ ?_; clear hK K hA A
        exact .ret (ret1b (by simp (maxSteps := 1000000) only [go_sem, hw]) wf hx.2 (.bool _))
      · have hw : seen.contains i.ins[k] = true := by
          cases h : seen.contains i.ins[k]
          · rw [h] at ht; cases ht
          · rfl
        rw [hw] at et
        exact ⟨by simp (maxSteps := 1000000) only [go_sem, h16], by simp (maxSteps := 1000000) only [go_sem, h1], by simp (maxSteps := 1000000) only [go_sem, h2], by simp (maxSteps := 1000000) only [go_sem, h3], by simp (maxSteps := 1000000) only [go_sem, h14], by simp (maxSteps := 1000000) only [go_sem, h15], by simp (maxSteps := 1000000) only [go_sem], hb, hnx, hx, et⟩
  rintro F s ⟨h1, h2, h3, h14, h15, h16, hb, hnx, hx, hj⟩
  rw [List.take_length] at hj
  have hm' : s.blk bm = some (.map none (esOf seen)) := by rw [hx.2 bm hbm]; exact hm
  have hne : ¬ σ.next = s.next := by omega
  have hq : ∀ b, b < σ.next → s.blk b = σ.blk b := hx.2
  have hn0 : σ.next ≤ s.next := hx.1
  clear h14 h15 h16 hnx hx hm hx0 hbm hin
  cases hc : seen.contains i.out
  · have hf : mfind [i.out] (esOf seen) = none := by rw [esOf_find, hc]; rfl
    repeat' (first | (refine hK _ _ ?_; clear hK K hA A) | (refine hA.cut (by simp (maxSteps := 1000000) only [go_sem, *, h1, h2, h3, hb, hm', hf, kA]; with_reducible rfl) (fun hs => ?_) (fun hs => ?_) <;> simp (maxSteps := 1000000) only [go_sem, hA.nil, hA.go, hA.yes, hA.noT, hA.noF, hA.skp, *, h1, h2, h3, hb, hm', hf, kA]) | (refine .seq (.rg fun A hA K hK => ?_); simp (maxSteps := 1000000) only [go_sem, hA.nil, hA.go, hA.yes, hA.noT, hA.noF, hA.skp, *, h1, h2, h3, hb, hm', hf, kA]) | (refine .seq (.seq (.rg fun A hA K hK => ?_)); simp (maxSteps := 1000000) only [go_sem, hA.nil, hA.go, hA.yes, hA.noT, hA.noF, hA.skp, *, h1, h2, h3, hb, hm', hf, kA]) | (refine .rg fun A hA K hK => ?_; simp (maxSteps := 1000000) only [go_sem, hA.nil, hA.go, hA.yes, hA.noT, hA.noF, hA.skp, *, h1, h2, h3, hb, hm', hf, kA]) | (refine .seq (.rd fun A hA K hK => ?_); simp (maxSteps := 1000000) only [go_sem, hA.nil, hA.go, hA.yes, hA.noT, hA.noF, hA.skp, *, h1, h2, h3, hb, hm', hf, kA]) | (refine .seq (.seq (.rd fun A hA K hK => ?_)); simp (maxSteps := 1000000) only [go_sem, hA.nil, hA.go, hA.yes, hA.noT, hA.noF, hA.skp, *, h1, h2, h3, hb, hm', hf, kA]) | (refine .rd fun A hA K hK => ?_; simp (maxSteps := 1000000) only [go_sem, hA.nil, hA.go, hA.yes, hA.noT, hA.noF, hA.skp, *, h1, h2, h3, hb, hm', hf, kA]) | (refine .cond (t := _) (by simp (maxSteps := 1000000) only [go_sem, *, h1, h2, h3, hb, hm', hf, kA]; with_reducible rfl) (fun hs => ?_) (fun hs => ?_) <;> (first | (cases hs; done) | skip)) | (refine .seq (.cond (t := _) (by simp (maxSteps := 1000000) only [go_sem, *, h1, h2, h3, hb, hm', hf, kA]; with_reducible rfl) (fun hs => ?_) (fun hs => ?_)) <;> (first | (cases hs; done) | skip)) | refine .skip ?_ | refine .seq (.block ?_) | refine .block ?_ | refine .exit ?_ | ((exact .ret (ret1b (by simp (maxSteps := 1000000) only [go_sem, placedB, *]) wf (fun b hb2 => by have q1 : b ≠ s.next := (by omega); simp [q1, hq b hb2]) (.bool _))); done))
  · have hf : mfind [i.out] (esOf seen) = some (seen.idxOf i.out) := by rw [esOf_find, hc]; rfl
    have hg := esOf_get _ _ hc
    repeat' (first | (refine hK _ _ ?_; clear hK K hA A) | (refine hA.cut (by simp (maxSteps := 1000000) only [go_sem, *, h1, h2, h3, hb, hm', hf, hg, kA]; with_reducible rfl) (fun hs => ?_) (fun hs => ?_) <;> simp (maxSteps := 1000000) only [go_sem, hA.nil, hA.go, hA.yes, hA.noT, hA.noF, hA.skp, *, h1, h2, h3, hb, hm', hf, hg, kA]) | (refine .seq (.rg fun A hA K hK => ?_); simp (maxSteps := 1000000) only [go_sem, hA.nil, hA.go, hA.yes, hA.noT, hA.noF, hA.skp, *, h1, h2, h3, hb, hm', hf, hg, kA]) | (refine .seq (.seq (.rg fun A hA K hK => ?_)); simp (maxSteps := 1000000) only [go_sem, hA.nil, hA.go, hA.yes, hA.noT, hA.noF, hA.skp, *, h1, h2, h3, hb, hm', hf, hg, kA]) | (refine .rg fun A hA K hK => ?_; simp (maxSteps := 1000000) only [go_sem, hA.nil, hA.go, hA.yes, hA.noT, hA.noF, hA.skp, *, h1, h2, h3, hb, hm', hf, hg, kA]) | (refine .seq (.rd fun A hA K hK => ?_); simp (maxSteps := 1000000) only [go_sem, hA.nil, hA.go, hA.yes, hA.noT, hA.noF, hA.skp, *, h1, h2, h3, hb, hm', hf, hg, kA]) | (refine .seq (.seq (.rd fun A hA K hK => ?_)); simp (maxSteps := 1000000) only [go_sem, hA.nil, hA.go, hA.yes, hA.noT, hA.noF, hA.skp, *, h1, h2, h3, hb, hm', hf, hg, kA]) | (refine .rd fun A hA K hK => ?_; simp (maxSteps := 1000000) only [go_sem, hA.nil, hA.go, hA.yes, hA.noT, hA.noF, hA.skp, *, h1, h2, h3, hb, hm', hf, hg, kA]) | (refine .cond (t := _) (by simp (maxSteps := 1000000) only [go_sem, *, h1, h2, h3, hb, hm', hf, hg, kA]; with_reducible rfl) (fun hs => ?_) (fun hs => ?_) <;> (first | (cases hs; done) | skip)) | (refine .seq (.cond (t := _) (by simp (maxSteps := 1000000) only [go_sem, *, h1, h2, h3, hb, hm', hf, hg, kA]; with_reducible rfl) (fun hs => ?_) (fun hs => ?_)) <;> (first | (cases hs; done) | skip)) | refine .skip ?_ | refine .seq (.block ?_) | refine .block ?_ | refine .exit ?_ | ((exact .ret (ret1b (by simp (maxSteps := 1000000) only [go_sem, placedB, *]) wf (fun b hb2 => by have q1 : b ≠ s.next := (by omega); simp [q1, hq b hb2]) (.bool _))); done))

end Go.Proofs.Ytfjbabacpnnjmaa.Av

namespace Go.Proofs.Ytfjbabacpnnjmaa.Av
open Go Go.Av
set_option maxRecDepth 20000
set_option maxHeartbeats 4000000

attribute [local go_sem] step_apply
attribute [local go_sem] instr0 instr1 instr2 instr10 instr11 instr12 instrN instrA instr_len node0 node1 node2 node3 node4 node5 node6 nodeA node_len getD_drop List.length_drop splice List.nil_append List.append_nil cond_true cond_false List.set_cons_zero List.length_set aopq aop ev put_some put_none upd_apply abin asNat bounds row1 mk I ints progA progsA List.length_cons List.length_nil List.length_map List.drop_zero List.drop_succ_cons List.drop_nil List.getD_cons_zero List.getD_cons_succ Option.getD_none Option.getD_some
  List.take_succ_cons List.take_zero List.take_nil true_and and_true Int.toNat_natCast if_true if_false Nat.zero_add Nat.add_zero List.map_cons List.map_nil Nat.reduceEqDiff Nat.left_eq_add Nat.add_eq_left Nat.add_left_cancel_iff Nat.add_assoc Nat.reduceSub Nat.reduceAdd Nat.reduceLeDiff Nat.le_refl Nat.zero_le Nat.zero_lt_one Nat.lt_add_one Int.reduceLT Int.reduceLE Int.reduceToNat Nat.reduceLT Nat.reduceBEq Bool.false_eq_true Nat.reduceBNe ne_eq not_false_eq_true not_true_eq_false false_and and_false reduceIte Int.natCast_nonneg reduceCtorEq parts_agg parts_bool parts_int parts_str parts_lit parts_nils parts_sl parts_ptr Int.natCast_nonneg Int.natCast_nonneg beq_self_eq_true bne_self_eq_false St.push St.set St.kill Bool.true_and Bool.false_and Bool.and_true Bool.and_false Bool.true_or Bool.false_or Bool.or_true Bool.or_false Bool.not_true Bool.not_false


theorem esOf_snoc (seen : List Int) (k : Int) : esOf seen ++ [([k], .agg [])] = esOf (seen ++ [k]) := by simp [esOf]

theorem wrote_snoc {p : List Instr} {i : Nat} (h : i < p.length) (r : Int) : wrote (p.take (i + 1)) r = (wrote (p.take i) r || (p[i].kind != 3 && p[i].out == r)) := by
  simp only [wrote]
  rw [List.take_add_one, List.any_append]; simp [h]

/-- code.program -/
theorem program_spec (p : List Instr) (dev : Int) (σ : St) : T Try.prog 68 [progA p, I dev] σ (I (progE p dev)) σ := by
  refine in68 (by simp) fun wf hab => ?_
  have hp := hab_prog (hab 0 (by simp))
  clear hab
  unfold c68
  first | refine .seq (.rg fun A hA K hK => ?_) | refine .seq (.seq (.rg fun A hA K hK => ?_)) | refine .rg fun A hA K hK => ?_ | refine .seq (.rd fun A hA K hK => ?_) | refine .seq (.seq (.rd fun A hA K hK => ?_)) | refine .rd fun A hA K hK => ?_
  simp (maxSteps := 1000000) only [go_sem, hA.nil, hA.go, hA.yes, hA.noT, hA.noF, hA.skp]
  refine hK _ _ ?_; clear hK K hA A
  first | refine .seq (.rg fun A hA K hK => ?_) | refine .seq (.seq (.rg fun A hA K hK => ?_)) | refine .rg fun A hA K hK => ?_ | refine .seq (.rd fun A hA K hK => ?_) | refine .seq (.seq (.rd fun A hA K hK => ?_)) | refine .rd fun A hA K hK => ?_
  simp (maxSteps := 1000000) only [go_sem, hA.nil, hA.go, hA.yes, hA.noT, hA.noF, hA.skp]
  refine hK _ _ ?_; clear hK K hA A
  have hx0 : Ext σ { next := σ.next + 1, blk := fun b => if b = σ.next then some (Blk.map none []) else σ.blk b } := by
    refine ⟨by simp, fun b hb => ?_⟩
    simp only
    rw [if_neg (by omega)]
  first | refine .seq (.rg fun A hA K hK => ?_) | refine .seq (.seq (.rg fun A hA K hK => ?_)) | refine .rg fun A hA K hK => ?_ | refine .seq (.rd fun A hA K hK => ?_) | refine .seq (.seq (.rd fun A hA K hK => ?_)) | refine .rd fun A hA K hK => ?_
  simp (maxSteps := 1000000) only [go_sem, hA.nil, hA.go, hA.yes, hA.noT, hA.noF, hA.skp]
  refine hK _ _ ?_; clear hK K hA A
  refine .range (N := p.length) (fun i F s => F 1 = I dev ∧ F 5 = .map σ.next ∧ F 9 = progA p ∧ F 10 = I p.length ∧ F 11 = I i ∧ (∃ seen, s.blk σ.next = some (.map none (esOf seen)) ∧ ∀ r, seen.contains r = wrote (p.take i) r) ∧ σ.next < s.next ∧ Ext σ s ∧ firstNZ (((List.range p.length).map (stepE p dev)).take i) = 0) hp ?_ ?_ ?_ ?_
  · exact ⟨by simp (maxSteps := 1000000) only [go_sem], by simp (maxSteps := 1000000) only [go_sem], by simp (maxSteps := 1000000) only [go_sem], by simp (maxSteps := 1000000) only [go_sem], by simp (maxSteps := 1000000) only [go_sem]; try rfl, ⟨[], by simp [esOf], by simp [wrote]⟩, by simp, hx0, by simp [firstNZ]⟩
  · rintro i F s ⟨_, _, _, h1, h2, _⟩
    exact ⟨h2, h1⟩
  · rintro i F s hlt ⟨h1, h5, h9, h10, h11, ⟨seen, hm, hs⟩, hnx, hx, hj⟩
    have e1 : (i : Int) < p.length := by omega
    obtain ⟨et, ex⟩ := firstNZ_take (by simpa using hlt) hj
    rw [List.getElem_map, List.getElem_range] at et ex
    have hst : stepE p dev i = if formB p[i] = false then 1 else if namedB (p.take i) dev p[i] = false then 23 else 0 := by simp only [stepE, List.getElem?_eq_getElem hlt]
    have hpn := placed_named seen (p.take i) hs dev p[i]
    have q : ∀ B B', Ext σ { next := s.next + 1, blk := fun b => if b = s.next then some B else if b = s.next then some B' else s.blk b } := fun B B' => ext_two hx
    first | refine .seq (.rg fun A hA K hK => ?_) | refine .seq (.seq (.rg fun A hA K hK => ?_)) | refine .rg fun A hA K hK => ?_ | refine .seq (.rd fun A hA K hK => ?_) | refine .seq (.seq (.rd fun A hA K hK => ?_)) | refine .rd fun A hA K hK => ?_
    simp (maxSteps := 1000000) only [go_sem, hA.nil, hA.go, hA.yes, hA.noT, hA.noF, hA.skp, h9, h11, prog_get hlt, e1]
    refine hK _ _ ?_; clear hK K hA A
    generalize hS : ({ next := s.next + 1, blk := _ } : St) = s2
    have hb7 : s2.blk s.next = some (.cells 13 [instrL p[i]]) := by subst hS; simp
    have hb5 : s2.blk σ.next = some (.map none (esOf seen)) := by
      subst hS; simp only; rw [if_neg (by omega), if_neg (by omega)]; exact hm
    have hx2 : Ext σ s2 := by subst hS; exact q _ _
    have hn2 : σ.next < s2.next := by subst hS; simp only; omega
    clear hS q hx hm
    first | refine .seq (.rg fun A hA K hK => ?_) | refine .seq (.seq (.rg fun A hA K hK => ?_)) | refine .rg fun A hA K hK => ?_ | refine .seq (.rd fun A hA K hK => ?_) | refine .seq (.seq (.rd fun A hA K hK => ?_)) | refine .rd fun A hA K hK => ?_
    simp (maxSteps := 1000000) only [go_sem, hA.nil, hA.go, hA.yes, hA.noT, hA.noF, hA.skp, hb7]
    refine ⟨_, shaped_spec p[i] _, ?_⟩
    try simp (maxSteps := 1000000) only [go_sem, hA.nil, hA.go]
    refine hK _ _ ?_; clear hK K hA A
    refine .cond (t := _) (by simp (maxSteps := 1000000) only [go_sem]; try rfl) (fun ht => ?_) (fun ht => .skip ?_)
    · have hw : progE p dev = 1 := by
        have h1 : stepE p dev i = 1 := by rw [hst, if_pos (by simpa using ht)]
        rw [progE, ex (by rw [h1]; decide), h1]
      first | refine .seq (.rg fun A hA K hK => ?_) | refine .seq (.seq (.rg fun A hA K hK => ?_)) | refine .rg fun A hA K hK => ?_ | refine .seq (.rd fun A hA K hK => ?_) | refine .seq (.seq (.rd fun A hA K hK => ?_)) | refine .rd fun A hA K hK => ?_
      simp (maxSteps := 1000000) only [go_sem, hA.nil, hA.go, hA.yes, hA.noT, hA.noF, hA.skp]
      refine hK _ _ ?_; clear hK K hA A
      exact .ret (ret1b (by simp (maxSteps := 1000000) only [go_sem, hw]) wf hx2.2 (.int _ _))
    have hf : ¬ formB p[i] = false := by intro h; rw [h] at ht; cases ht
    first | refine .seq (.rg fun A hA K hK => ?_) | refine .seq (.seq (.rg fun A hA K hK => ?_)) | refine .rg fun A hA K hK => ?_ | refine .seq (.rd fun A hA K hK => ?_) | refine .seq (.seq (.rd fun A hA K hK => ?_)) | refine .rd fun A hA K hK => ?_
    simp (maxSteps := 1000000) only [go_sem, hA.nil, hA.go, hA.yes, hA.noT, hA.noF, hA.skp, hb7, h1, h5]
    refine ⟨_, placed_spec p[i] dev σ.next seen _ hb5, ?_⟩
    try simp (maxSteps := 1000000) only [go_sem, hA.nil, hA.go]
    refine hK _ _ ?_; clear hK K hA A
    refine .cond (t := _) (by simp (maxSteps := 1000000) only [go_sem]; try rfl) (fun ht2 => ?_) (fun ht2 => .skip ?_)
    · have hw : progE p dev = 23 := by
        have h1 : stepE p dev i = 23 := by rw [hst, if_neg hf, if_pos (by rw [← hpn]; simpa using ht2)]
        rw [progE, ex (by rw [h1]; decide), h1]
      first | refine .seq (.rg fun A hA K hK => ?_) | refine .seq (.seq (.rg fun A hA K hK => ?_)) | refine .rg fun A hA K hK => ?_ | refine .seq (.rd fun A hA K hK => ?_) | refine .seq (.seq (.rd fun A hA K hK => ?_)) | refine .rd fun A hA K hK => ?_
      simp (maxSteps := 1000000) only [go_sem, hA.nil, hA.go, hA.yes, hA.noT, hA.noF, hA.skp]
      refine hK _ _ ?_; clear hK K hA A
      exact .ret (ret1b (by simp (maxSteps := 1000000) only [go_sem, hw]) wf hx2.2 (.int _ _))
    have hnb : placedB seen dev p[i] = true := by
      cases h : placedB seen dev p[i]
      · rw [h] at ht2; cases ht2
      · rfl
    have h0 : stepE p dev i = 0 := by rw [hst, if_neg hf, if_neg (by rw [← hpn, hnb]; simp)]
    rw [h0] at et
    first | refine .seq (.rg fun A hA K hK => ?_) | refine .seq (.seq (.rg fun A hA K hK => ?_)) | refine .rg fun A hA K hK => ?_ | refine .seq (.rd fun A hA K hK => ?_) | refine .seq (.seq (.rd fun A hA K hK => ?_)) | refine .rd fun A hA K hK => ?_
    simp (maxSteps := 1000000) only [go_sem, hA.nil, hA.go, hA.yes, hA.noT, hA.noF, hA.skp, hb7]
    refine hK _ _ ?_; clear hK K hA A
    refine .cond (t := _) (by simp (maxSteps := 1000000) only [go_sem]; try rfl) (fun ht3 => ?_) (fun ht3 => .skip ?_)
    · have hno : seen.contains p[i].out = false := by
        simp only [placedB, ht3, Bool.true_and, Bool.and_eq_true, Bool.not_eq_true', Bool.or_eq_false_iff] at hnb
        exact hnb.2.1.1
      have hfn : mfind [p[i].out] (esOf seen) = none := by rw [esOf_find, hno]; rfl
      first | refine .seq (.rg fun A hA K hK => ?_) | refine .seq (.seq (.rg fun A hA K hK => ?_)) | refine .rg fun A hA K hK => ?_ | refine .seq (.rd fun A hA K hK => ?_) | refine .seq (.seq (.rd fun A hA K hK => ?_)) | refine .rd fun A hA K hK => ?_
      simp (maxSteps := 1000000) only [go_sem, hA.nil, hA.go, hA.yes, hA.noT, hA.noF, hA.skp, hb7, hb5, h5, hfn, kA, esOf_snoc]
      refine hK _ _ ?_; clear hK K hA A
      refine ⟨by simp (maxSteps := 1000000) only [go_sem, h11], by simp (maxSteps := 1000000) only [go_sem, h1], by simp (maxSteps := 1000000) only [go_sem, h5], by simp (maxSteps := 1000000) only [go_sem, h9], by simp (maxSteps := 1000000) only [go_sem, h10], by simp (maxSteps := 1000000) only [go_sem], ⟨seen ++ [p[i].out], by simp [esOf], fun r => ?_⟩, hn2, ⟨hx2.1, fun b hb => ?_⟩, et⟩
      · rw [wrote_snoc hlt, ← hs r, ht3]
        have : (p[i].out == r) = decide (r = p[i].out) := by rw [Bool.eq_iff_iff, beq_iff_eq, decide_eq_true_iff]; exact eq_comm
        simp [this]
      · simp only; rw [if_neg (by omega)]; exact hx2.2 b hb
    · refine ⟨by simp (maxSteps := 1000000) only [go_sem, h11], by simp (maxSteps := 1000000) only [go_sem, h1], by simp (maxSteps := 1000000) only [go_sem, h5], by simp (maxSteps := 1000000) only [go_sem, h9], by simp (maxSteps := 1000000) only [go_sem, h10], by simp (maxSteps := 1000000) only [go_sem], ⟨seen, hb5, fun r => ?_⟩, hn2, hx2, et⟩
      rw [wrote_snoc hlt, ← hs r, ht3]; simp
  rintro F s ⟨h1, h5, h9, h10, h11, _, hnx, hx, hj⟩
  rw [List.take_of_length_le (by simp)] at hj
  have hw : progE p dev = 0 := hj
  first | refine .seq (.rg fun A hA K hK => ?_) | refine .seq (.seq (.rg fun A hA K hK => ?_)) | refine .rg fun A hA K hK => ?_ | refine .seq (.rd fun A hA K hK => ?_) | refine .seq (.seq (.rd fun A hA K hK => ?_)) | refine .rd fun A hA K hK => ?_
  simp (maxSteps := 1000000) only [go_sem, hA.nil, hA.go, hA.yes, hA.noT, hA.noF, hA.skp]
  refine hK _ _ ?_; clear hK K hA A
  exact .ret (ret1b (by simp (maxSteps := 1000000) only [go_sem, hw]) wf hx.2 (.int _ _))

/-- code.Right -/
theorem right_spec (l : List (List Instr)) (σ : St) : T Try.prog 30 [progsA l] σ (I (rightE l)) σ := by
  refine in30 (by simp) fun wf hab => ?_
  obtain ⟨hl, hps⟩ := hab_progs (hab 0 (by simp))
  clear hab
  unfold c30
  first | refine .seq (.rg fun A hA K hK => ?_) | refine .seq (.seq (.rg fun A hA K hK => ?_)) | refine .rg fun A hA K hK => ?_ | refine .seq (.rd fun A hA K hK => ?_) | refine .seq (.seq (.rd fun A hA K hK => ?_)) | refine .rd fun A hA K hK => ?_
  simp (maxSteps := 1000000) only [go_sem, hA.nil, hA.go, hA.yes, hA.noT, hA.noF, hA.skp]
  refine hK _ _ ?_; clear hK K hA A
  refine .mid (fun F' σ' => F' 0 = progsA l ∧ (decide ((l.length : Int) < 1) || decide ((l.length : Int) > 8)) = false ∧ σ' = σ) ?_ ?_
  · repeat' (first | (refine hK _ _ ?_; clear hK K hA A) | (refine hA.cut (by simp (maxSteps := 1000000) only [go_sem, *]; with_reducible rfl) (fun hs => ?_) (fun hs => ?_) <;> simp (maxSteps := 1000000) only [go_sem, hA.nil, hA.go, hA.yes, hA.noT, hA.noF, hA.skp, *]) | (refine .seq (.rg fun A hA K hK => ?_); simp (maxSteps := 1000000) only [go_sem, hA.nil, hA.go, hA.yes, hA.noT, hA.noF, hA.skp, *]) | (refine .seq (.seq (.rg fun A hA K hK => ?_)); simp (maxSteps := 1000000) only [go_sem, hA.nil, hA.go, hA.yes, hA.noT, hA.noF, hA.skp, *]) | (refine .rg fun A hA K hK => ?_; simp (maxSteps := 1000000) only [go_sem, hA.nil, hA.go, hA.yes, hA.noT, hA.noF, hA.skp, *]) | (refine .seq (.rd fun A hA K hK => ?_); simp (maxSteps := 1000000) only [go_sem, hA.nil, hA.go, hA.yes, hA.noT, hA.noF, hA.skp, *]) | (refine .seq (.seq (.rd fun A hA K hK => ?_)); simp (maxSteps := 1000000) only [go_sem, hA.nil, hA.go, hA.yes, hA.noT, hA.noF, hA.skp, *]) | (refine .rd fun A hA K hK => ?_; simp (maxSteps := 1000000) only [go_sem, hA.nil, hA.go, hA.yes, hA.noT, hA.noF, hA.skp, *]) | (refine .cond (t := _) (by simp (maxSteps := 1000000) only [go_sem, *]; with_reducible rfl) (fun hs => ?_) (fun hs => ?_) <;> (first | (cases hs; done) | skip)) | (refine .seq (.cond (t := _) (by simp (maxSteps := 1000000) only [go_sem, *]; with_reducible rfl) (fun hs => ?_) (fun hs => ?_)) <;> (first | (cases hs; done) | skip)) | refine .skip ?_ | refine .seq (.block ?_) | refine .block ?_ | refine .exit ?_ | ((first | exact ⟨by simp (maxSteps := 1000000) only [go_sem, *], by simp (maxSteps := 1000000) only [go_sem, *], by first | rfl | trivial⟩ | exact .ret (ret1 (by simp (maxSteps := 1000000) only [go_sem, rightE, *]) rfl)); done))
  rintro F s ⟨h0, hb, rfl⟩
  first | refine .seq (.rg fun A hA K hK => ?_) | refine .seq (.seq (.rg fun A hA K hK => ?_)) | refine .rg fun A hA K hK => ?_ | refine .seq (.rd fun A hA K hK => ?_) | refine .seq (.seq (.rd fun A hA K hK => ?_)) | refine .rd fun A hA K hK => ?_
  simp (maxSteps := 1000000) only [go_sem, hA.nil, hA.go, hA.yes, hA.noT, hA.noF, hA.skp, h0]
  refine ⟨_, contains_spec l _, ?_⟩
  try simp (maxSteps := 1000000) only [go_sem, hA.nil, hA.go]
  refine hK _ _ ?_; clear hK K hA A
  refine .cond (t := l.any longB) (by simp (maxSteps := 1000000) only [go_sem]) (fun ht => ?_) (fun ht => .skip ?_)
  · have hw : rightE l = 3 := by
      rw [rightE, if_neg (by rw [hb]; simp), if_pos (show l.any (fun p => decide ((p.length : Int) > 65536)) = true from ht)]
    first | refine .seq (.rg fun A hA K hK => ?_) | refine .seq (.seq (.rg fun A hA K hK => ?_)) | refine .rg fun A hA K hK => ?_ | refine .seq (.rd fun A hA K hK => ?_) | refine .seq (.seq (.rd fun A hA K hK => ?_)) | refine .rd fun A hA K hK => ?_
    simp (maxSteps := 1000000) only [go_sem, hA.nil, hA.go, hA.yes, hA.noT, hA.noF, hA.skp]
    refine hK _ _ ?_; clear hK K hA A
    exact .ret (ret1 (by simp (maxSteps := 1000000) only [go_sem, hw]) rfl)
  have hright : rightE l = firstNZ (l.map fun p => progE p l.length) := by
    rw [rightE, if_neg (by rw [hb]; simp), if_neg (by rw [show l.any (fun p => decide ((p.length : Int) > 65536)) = false from ht]; simp)]
  first | refine .seq (.rg fun A hA K hK => ?_) | refine .seq (.seq (.rg fun A hA K hK => ?_)) | refine .rg fun A hA K hK => ?_ | refine .seq (.rd fun A hA K hK => ?_) | refine .seq (.seq (.rd fun A hA K hK => ?_)) | refine .rd fun A hA K hK => ?_
  simp (maxSteps := 1000000) only [go_sem, hA.nil, hA.go, hA.yes, hA.noT, hA.noF, hA.skp, h0]
  refine hK _ _ ?_; clear hK K hA A
  refine .range (N := l.length) (fun i F s' => F 0 = progsA l ∧ F 16 = progsA l ∧ F 17 = I l.length ∧ F 18 = I i ∧ s' = s ∧ firstNZ ((l.map fun p => progE p l.length).take i) = 0) hl ?_ ?_ ?_ ?_
  · exact ⟨by simp (maxSteps := 1000000) only [go_sem, h0], by simp (maxSteps := 1000000) only [go_sem], by simp (maxSteps := 1000000) only [go_sem], by simp (maxSteps := 1000000) only [go_sem]; try rfl, rfl, by simp [firstNZ]⟩
  · rintro i F s' ⟨_, _, h1, h2, _⟩
    exact ⟨h2, h1⟩
  · rintro i F s' hlt ⟨h0, h16, h17, h18, rfl, hj⟩
    have e1 : (i : Int) < l.length := by omega
    obtain ⟨et, ex⟩ := firstNZ_take (by simpa using hlt) hj
    rw [List.getElem_map] at et ex
    first | refine .seq (.rg fun A hA K hK => ?_) | refine .seq (.seq (.rg fun A hA K hK => ?_)) | refine .rg fun A hA K hK => ?_ | refine .seq (.rd fun A hA K hK => ?_) | refine .seq (.seq (.rd fun A hA K hK => ?_)) | refine .rd fun A hA K hK => ?_
    simp (maxSteps := 1000000) only [go_sem, hA.nil, hA.go, hA.yes, hA.noT, hA.noF, hA.skp, h16, h18, progs_get' hlt, e1]
    refine hK _ _ ?_; clear hK K hA A
    first | refine .seq (.rg fun A hA K hK => ?_) | refine .seq (.seq (.rg fun A hA K hK => ?_)) | refine .rg fun A hA K hK => ?_ | refine .seq (.rd fun A hA K hK => ?_) | refine .seq (.seq (.rd fun A hA K hK => ?_)) | refine .rd fun A hA K hK => ?_
    simp (maxSteps := 1000000) only [go_sem, hA.nil, hA.go, hA.yes, hA.noT, hA.noF, hA.skp, h0]
    refine ⟨_, program_spec l[i] l.length _, ?_⟩
    try simp (maxSteps := 1000000) only [go_sem, hA.nil, hA.go]
    refine hK _ _ ?_; clear hK K hA A
    first | refine .seq (.rg fun A hA K hK => ?_) | refine .seq (.seq (.rg fun A hA K hK => ?_)) | refine .rg fun A hA K hK => ?_ | refine .seq (.rd fun A hA K hK => ?_) | refine .seq (.seq (.rd fun A hA K hK => ?_)) | refine .rd fun A hA K hK => ?_
    simp (maxSteps := 1000000) only [go_sem, hA.nil, hA.go, hA.yes, hA.noT, hA.noF, hA.skp]
    refine hK _ _ ?_; clear hK K hA A
    refine .cond (t := _) (by simp (maxSteps := 1000000) only [go_sem]; try rfl) (fun ht => ?_) (fun ht => .skip ?_)
    · have hw : rightE l = progE l[i] l.length := by rw [hright, ex (by simpa using ht)]
      first | refine .seq (.rg fun A hA K hK => ?_) | refine .seq (.seq (.rg fun A hA K hK => ?_)) | refine .rg fun A hA K hK => ?_ | refine .seq (.rd fun A hA K hK => ?_) | refine .seq (.seq (.rd fun A hA K hK => ?_)) | refine .rd fun A hA K hK => ?_
      simp (maxSteps := 1000000) only [go_sem, hA.nil, hA.go, hA.yes, hA.noT, hA.noF, hA.skp]
      refine hK _ _ ?_; clear hK K hA A
      exact .ret (ret1 (by simp (maxSteps := 1000000) only [go_sem, hw]) rfl)
    · rw [show progE l[i] l.length = 0 by simpa using ht] at et
      exact ⟨by simp (maxSteps := 1000000) only [go_sem, h18], by simp (maxSteps := 1000000) only [go_sem, h0], by simp (maxSteps := 1000000) only [go_sem, h16], by simp (maxSteps := 1000000) only [go_sem, h17], by simp (maxSteps := 1000000) only [go_sem], rfl, et⟩
  rintro F s' ⟨h0, h16, h17, h18, rfl, hj⟩
  rw [List.take_of_length_le (by simp)] at hj
  first | refine .seq (.rg fun A hA K hK => ?_) | refine .seq (.seq (.rg fun A hA K hK => ?_)) | refine .rg fun A hA K hK => ?_ | refine .seq (.rd fun A hA K hK => ?_) | refine .seq (.seq (.rd fun A hA K hK => ?_)) | refine .rd fun A hA K hK => ?_
  simp (maxSteps := 1000000) only [go_sem, hA.nil, hA.go, hA.yes, hA.noT, hA.noF, hA.skp]
  refine hK _ _ ?_; clear hK K hA A
  exact .ret (ret1 (by simp (maxSteps := 1000000) only [go_sem, hright, hj]) rfl)

end Go.Proofs.Ytfjbabacpnnjmaa.Av

namespace Go.Proofs.Ytfjbabacpnnjmaa.Av
open Go Go.Av
set_option maxRecDepth 20000
set_option maxHeartbeats 4000000

attribute [local go_sem] step_apply
attribute [local go_sem] instr0 instr1 instr2 instr10 instr11 instr12 instrN instrA instr_len node0 node1 node2 node3 node4 node5 node6 nodeA node_len getD_drop List.length_drop splice List.nil_append List.append_nil cond_true cond_false List.set_cons_zero List.length_set aopq aop ev put_some put_none upd_apply abin asNat bounds row1 mk I ints progA progsA List.length_cons List.length_nil List.length_map List.drop_zero List.drop_succ_cons List.drop_nil List.getD_cons_zero List.getD_cons_succ Option.getD_none Option.getD_some
  List.take_succ_cons List.take_zero List.take_nil true_and and_true Int.toNat_natCast if_true if_false Nat.zero_add Nat.add_zero List.map_cons List.map_nil Nat.reduceEqDiff Nat.left_eq_add Nat.add_eq_left Nat.add_left_cancel_iff Nat.add_assoc Nat.reduceSub Nat.reduceAdd Nat.reduceLeDiff Nat.le_refl Nat.zero_le Nat.zero_lt_one Nat.lt_add_one Int.reduceLT Int.reduceLE Int.reduceToNat Nat.reduceLT Nat.reduceBEq Bool.false_eq_true Nat.reduceBNe ne_eq not_false_eq_true not_true_eq_false false_and and_false reduceIte Int.natCast_nonneg reduceCtorEq parts_agg parts_bool parts_int parts_str parts_lit parts_nils parts_sl parts_ptr Int.natCast_nonneg Int.natCast_nonneg beq_self_eq_true bne_self_eq_false St.push St.set St.kill Bool.true_and Bool.false_and Bool.and_true Bool.and_false Bool.true_or Bool.false_or Bool.or_true Bool.or_false Bool.not_true Bool.not_false


theorem foldl_take {α β : Type} (f : β → α → β) (a : β) (l : List α) (i : Nat) (h : i < l.length) : (l.take (i + 1)).foldl f a = f ((l.take i).foldl f a) l[i] := by
  rw [List.take_add_one, List.foldl_append]; simp [h]

def cntE (l : List (List Instr)) : Int := l.foldl (fun n p => IntKind.i64.wrap (n + p.length)) 0
def sndP (n : Int) (p : List Instr) : Int := p.foldl (fun n i => if (i.kind == 3) = true then IntKind.i64.wrap (n + 1) else n) n
def sndE (l : List (List Instr)) : Int := l.foldl sndP 0

/-- code.Count -/
theorem codeCount_spec (l : List (List Instr)) (σ : St) : T Try.prog 32 [progsA l] σ (I (cntE l)) σ := by
  refine in32 (by simp) fun wf hab => ?_
  obtain ⟨hl, hps⟩ := hab_progs (hab 0 (by simp))
  clear hab
  unfold c32
  first | refine .seq (.rg fun A hA K hK => ?_) | refine .seq (.seq (.rg fun A hA K hK => ?_)) | refine .rg fun A hA K hK => ?_ | refine .seq (.rd fun A hA K hK => ?_) | refine .seq (.seq (.rd fun A hA K hK => ?_)) | refine .rd fun A hA K hK => ?_
  simp (maxSteps := 1000000) only [go_sem, hA.nil, hA.go, hA.yes, hA.noT, hA.noF, hA.skp]
  refine hK _ _ ?_; clear hK K hA A
  first | refine .seq (.rg fun A hA K hK => ?_) | refine .seq (.seq (.rg fun A hA K hK => ?_)) | refine .rg fun A hA K hK => ?_ | refine .seq (.rd fun A hA K hK => ?_) | refine .seq (.seq (.rd fun A hA K hK => ?_)) | refine .rd fun A hA K hK => ?_
  simp (maxSteps := 1000000) only [go_sem, hA.nil, hA.go, hA.yes, hA.noT, hA.noF, hA.skp]
  refine hK _ _ ?_; clear hK K hA A
  first | refine .seq (.rg fun A hA K hK => ?_) | refine .seq (.seq (.rg fun A hA K hK => ?_)) | refine .rg fun A hA K hK => ?_ | refine .seq (.rd fun A hA K hK => ?_) | refine .seq (.seq (.rd fun A hA K hK => ?_)) | refine .rd fun A hA K hK => ?_
  simp (maxSteps := 1000000) only [go_sem, hA.nil, hA.go, hA.yes, hA.noT, hA.noF, hA.skp]
  refine hK _ _ ?_; clear hK K hA A
  refine .range (N := l.length) (fun i F s => F 3 = I (cntE (l.take i)) ∧ F 6 = progsA l ∧ F 7 = I l.length ∧ F 8 = I i ∧ s = σ) hl ?_ ?_ ?_ ?_
  · exact ⟨by simp (maxSteps := 1000000) only [go_sem]; try rfl, by simp (maxSteps := 1000000) only [go_sem], by simp (maxSteps := 1000000) only [go_sem], by simp (maxSteps := 1000000) only [go_sem]; try rfl, rfl⟩
  · rintro i F s ⟨_, _, h1, h2, _⟩
    exact ⟨h2, h1⟩
  · rintro i F s hlt ⟨h3, h6, h7, h8, rfl⟩
    have e1 : (i : Int) < l.length := by omega
    have et : cntE (l.take (i + 1)) = IntKind.i64.wrap (cntE (l.take i) + l[i].length) := foldl_take _ _ l i hlt
    first | refine .seq (.rg fun A hA K hK => ?_) | refine .seq (.seq (.rg fun A hA K hK => ?_)) | refine .rg fun A hA K hK => ?_ | refine .seq (.rd fun A hA K hK => ?_) | refine .seq (.seq (.rd fun A hA K hK => ?_)) | refine .rd fun A hA K hK => ?_
    simp (maxSteps := 1000000) only [go_sem, hA.nil, hA.go, hA.yes, hA.noT, hA.noF, hA.skp, h6, h8, progs_get' hlt, e1]
    refine hK _ _ ?_; clear hK K hA A
    first | refine .seq (.rg fun A hA K hK => ?_) | refine .seq (.seq (.rg fun A hA K hK => ?_)) | refine .rg fun A hA K hK => ?_ | refine .seq (.rd fun A hA K hK => ?_) | refine .seq (.seq (.rd fun A hA K hK => ?_)) | refine .rd fun A hA K hK => ?_
    simp (maxSteps := 1000000) only [go_sem, hA.nil, hA.go, hA.yes, hA.noT, hA.noF, hA.skp, h3]
    refine hK _ _ ?_; clear hK K hA A
    exact ⟨by simp (maxSteps := 1000000) only [go_sem, h8], by simp (maxSteps := 1000000) only [go_sem, et], by simp (maxSteps := 1000000) only [go_sem, h6], by simp (maxSteps := 1000000) only [go_sem, h7], by simp (maxSteps := 1000000) only [go_sem], rfl⟩
  rintro F s ⟨h3, h6, h7, h8, rfl⟩
  rw [List.take_length] at h3
  first | refine .seq (.rg fun A hA K hK => ?_) | refine .seq (.seq (.rg fun A hA K hK => ?_)) | refine .rg fun A hA K hK => ?_ | refine .seq (.rd fun A hA K hK => ?_) | refine .seq (.seq (.rd fun A hA K hK => ?_)) | refine .rd fun A hA K hK => ?_
  simp (maxSteps := 1000000) only [go_sem, hA.nil, hA.go, hA.yes, hA.noT, hA.noF, hA.skp, h3]
  refine hK _ _ ?_; clear hK K hA A
  exact .ret (ret1 (by simp (maxSteps := 1000000) only [go_sem]) rfl)

/-- code.Sends -/
theorem codeSends_spec (l : List (List Instr)) (σ : St) : T Try.prog 31 [progsA l] σ (I (sndE l)) σ := by
  refine in31 (by simp) fun wf hab => ?_
  obtain ⟨hl, hps⟩ := hab_progs (hab 0 (by simp))
  clear hab
  unfold c31
  first | refine .seq (.rg fun A hA K hK => ?_) | refine .seq (.seq (.rg fun A hA K hK => ?_)) | refine .rg fun A hA K hK => ?_ | refine .seq (.rd fun A hA K hK => ?_) | refine .seq (.seq (.rd fun A hA K hK => ?_)) | refine .rd fun A hA K hK => ?_
  simp (maxSteps := 1000000) only [go_sem, hA.nil, hA.go, hA.yes, hA.noT, hA.noF, hA.skp]
  refine hK _ _ ?_; clear hK K hA A
  first | refine .seq (.rg fun A hA K hK => ?_) | refine .seq (.seq (.rg fun A hA K hK => ?_)) | refine .rg fun A hA K hK => ?_ | refine .seq (.rd fun A hA K hK => ?_) | refine .seq (.seq (.rd fun A hA K hK => ?_)) | refine .rd fun A hA K hK => ?_
  simp (maxSteps := 1000000) only [go_sem, hA.nil, hA.go, hA.yes, hA.noT, hA.noF, hA.skp]
  refine hK _ _ ?_; clear hK K hA A
  first | refine .seq (.rg fun A hA K hK => ?_) | refine .seq (.seq (.rg fun A hA K hK => ?_)) | refine .rg fun A hA K hK => ?_ | refine .seq (.rd fun A hA K hK => ?_) | refine .seq (.seq (.rd fun A hA K hK => ?_)) | refine .rd fun A hA K hK => ?_
  simp (maxSteps := 1000000) only [go_sem, hA.nil, hA.go, hA.yes, hA.noT, hA.noF, hA.skp]
  refine hK _ _ ?_; clear hK K hA A
  refine .range (N := l.length) (fun i F s => F 3 = I (sndE (l.take i)) ∧ F 8 = progsA l ∧ F 9 = I l.length ∧ F 10 = I i ∧ Ext σ s) hl ?_ ?_ ?_ ?_
  · exact ⟨by simp (maxSteps := 1000000) only [go_sem]; try rfl, by simp (maxSteps := 1000000) only [go_sem], by simp (maxSteps := 1000000) only [go_sem], by simp (maxSteps := 1000000) only [go_sem]; try rfl, .refl σ⟩
  · rintro i F s ⟨_, _, h1, h2, _⟩
    exact ⟨h2, h1⟩
  · rintro i F s hlt ⟨h3, h8, h9, h10, hx⟩
    have e1 : (i : Int) < l.length := by omega
    have et : sndE (l.take (i + 1)) = sndP (sndE (l.take i)) l[i] := foldl_take _ _ l i hlt
    have hp : l[i].length ≤ most := hab_prog (hps _ (List.getElem_mem hlt))
    first | refine .seq (.rg fun A hA K hK => ?_) | refine .seq (.seq (.rg fun A hA K hK => ?_)) | refine .rg fun A hA K hK => ?_ | refine .seq (.rd fun A hA K hK => ?_) | refine .seq (.seq (.rd fun A hA K hK => ?_)) | refine .rd fun A hA K hK => ?_
    simp (maxSteps := 1000000) only [go_sem, hA.nil, hA.go, hA.yes, hA.noT, hA.noF, hA.skp, h8, h10, progs_get' hlt, e1]
    refine hK _ _ ?_; clear hK K hA A
    first | refine .seq (.rg fun A hA K hK => ?_) | refine .seq (.seq (.rg fun A hA K hK => ?_)) | refine .rg fun A hA K hK => ?_ | refine .seq (.rd fun A hA K hK => ?_) | refine .seq (.seq (.rd fun A hA K hK => ?_)) | refine .rd fun A hA K hK => ?_
    simp (maxSteps := 1000000) only [go_sem, hA.nil, hA.go, hA.yes, hA.noT, hA.noF, hA.skp]
    refine hK _ _ ?_; clear hK K hA A
    refine .range (N := l[i].length) (fun n F s => F 3 = I (sndP (sndE (l.take i)) (l[i].take n)) ∧ F 8 = progsA l ∧ F 9 = I l.length ∧ F 10 = I i ∧ F 14 = progA l[i] ∧ F 15 = I l[i].length ∧ F 16 = I n ∧ Ext σ s) hp ?_ ?_ ?_ ?_
    · exact ⟨by simp (maxSteps := 1000000) only [go_sem, h3]; try rfl, by simp (maxSteps := 1000000) only [go_sem, h8], by simp (maxSteps := 1000000) only [go_sem, h9], by simp (maxSteps := 1000000) only [go_sem, h10], by simp (maxSteps := 1000000) only [go_sem], by simp (maxSteps := 1000000) only [go_sem], by simp (maxSteps := 1000000) only [go_sem]; try rfl, hx⟩
    · rintro n F s ⟨_, _, _, _, _, h1, h2, _⟩
      exact ⟨h2, h1⟩
    · rintro n F s hn ⟨h3, h8, h9, h10, h14, h15, h16, hx⟩
      have e2 : (n : Int) < l[i].length := by omega
      have et2 : sndP (sndE (l.take i)) (l[i].take (n + 1)) = if (l[i][n].kind == 3) = true then IntKind.i64.wrap (sndP (sndE (l.take i)) (l[i].take n) + 1) else sndP (sndE (l.take i)) (l[i].take n) := foldl_take _ _ l[i] n hn
      have q := ext_two (B := .cells 13 [instrL l[i][n]]) (B' := .cells 13 [[I 0, I 0, .lit 1 [], I 0, .lit 1 [], .lit 1 [], .lit 1 [], I 0, I 0, .str ⟨#[]⟩, I 0, I 0, I 0]]) hx
      first | refine .seq (.rg fun A hA K hK => ?_) | refine .seq (.seq (.rg fun A hA K hK => ?_)) | refine .rg fun A hA K hK => ?_ | refine .seq (.rd fun A hA K hK => ?_) | refine .seq (.seq (.rd fun A hA K hK => ?_)) | refine .rd fun A hA K hK => ?_
      simp (maxSteps := 1000000) only [go_sem, hA.nil, hA.go, hA.yes, hA.noT, hA.noF, hA.skp, h14, h16, prog_get hn, e2]
      refine hK _ _ ?_; clear hK K hA A
      first | refine .seq (.rg fun A hA K hK => ?_) | refine .seq (.seq (.rg fun A hA K hK => ?_)) | refine .rg fun A hA K hK => ?_ | refine .seq (.rd fun A hA K hK => ?_) | refine .seq (.seq (.rd fun A hA K hK => ?_)) | refine .rd fun A hA K hK => ?_
      simp (maxSteps := 1000000) only [go_sem, hA.nil, hA.go, hA.yes, hA.noT, hA.noF, hA.skp]
      refine hK _ _ ?_; clear hK K hA A
      refine .cond (t := l[i][n].kind == 3) (by simp (maxSteps := 1000000) only [go_sem]) (fun ht => ?_) (fun ht => .skip ?_)
      · rw [if_pos ht] at et2
        first | refine .seq (.rg fun A hA K hK => ?_) | refine .seq (.seq (.rg fun A hA K hK => ?_)) | refine .rg fun A hA K hK => ?_ | refine .seq (.rd fun A hA K hK => ?_) | refine .seq (.seq (.rd fun A hA K hK => ?_)) | refine .rd fun A hA K hK => ?_
        simp (maxSteps := 1000000) only [go_sem, hA.nil, hA.go, hA.yes, hA.noT, hA.noF, hA.skp, h3]
        refine hK _ _ ?_; clear hK K hA A
        exact ⟨by simp (maxSteps := 1000000) only [go_sem, h16], by simp (maxSteps := 1000000) only [go_sem, et2], by simp (maxSteps := 1000000) only [go_sem, h8], by simp (maxSteps := 1000000) only [go_sem, h9], by simp (maxSteps := 1000000) only [go_sem, h10], by simp (maxSteps := 1000000) only [go_sem, h14], by simp (maxSteps := 1000000) only [go_sem, h15], by simp (maxSteps := 1000000) only [go_sem], q⟩
      · rw [if_neg (by rw [ht]; simp)] at et2
        exact ⟨by simp (maxSteps := 1000000) only [go_sem, h16], by simp (maxSteps := 1000000) only [go_sem, h3, et2], by simp (maxSteps := 1000000) only [go_sem, h8], by simp (maxSteps := 1000000) only [go_sem, h9], by simp (maxSteps := 1000000) only [go_sem, h10], by simp (maxSteps := 1000000) only [go_sem, h14], by simp (maxSteps := 1000000) only [go_sem, h15], by simp (maxSteps := 1000000) only [go_sem], q⟩
    · rintro F s ⟨h3, h8, h9, h10, h14, h15, h16, hx⟩
      rw [List.take_length] at h3
      exact ⟨by simp (maxSteps := 1000000) only [go_sem, h10], by simp (maxSteps := 1000000) only [go_sem, h3, et], by simp (maxSteps := 1000000) only [go_sem, h8], by simp (maxSteps := 1000000) only [go_sem, h9], by simp (maxSteps := 1000000) only [go_sem], hx⟩
  rintro F s ⟨h3, h8, h9, h10, hx⟩
  rw [List.take_length] at h3
  first | refine .seq (.rg fun A hA K hK => ?_) | refine .seq (.seq (.rg fun A hA K hK => ?_)) | refine .rg fun A hA K hK => ?_ | refine .seq (.rd fun A hA K hK => ?_) | refine .seq (.seq (.rd fun A hA K hK => ?_)) | refine .rd fun A hA K hK => ?_
  simp (maxSteps := 1000000) only [go_sem, hA.nil, hA.go, hA.yes, hA.noT, hA.noF, hA.skp, h3]
  refine hK _ _ ?_; clear hK K hA A
  exact .ret (ret1b (by simp (maxSteps := 1000000) only [go_sem]) wf hx.2 (.int _ _))

end Go.Proofs.Ytfjbabacpnnjmaa.Av

namespace Go.Proofs.Ytfjbabacpnnjmaa.Av
open Go Go.Av
set_option maxRecDepth 20000
set_option maxHeartbeats 4000000

attribute [local go_sem] step_apply
attribute [local go_sem] instr0 instr1 instr2 instr10 instr11 instr12 instrN instrA instr_len node0 node1 node2 node3 node4 node5 node6 nodeA node_len getD_drop List.length_drop splice List.nil_append List.append_nil cond_true cond_false List.set_cons_zero List.length_set aopq aop ev put_some put_none upd_apply abin asNat bounds row1 mk I ints progA progsA List.length_cons List.length_nil List.length_map List.drop_zero List.drop_succ_cons List.drop_nil List.getD_cons_zero List.getD_cons_succ Option.getD_none Option.getD_some
  List.take_succ_cons List.take_zero List.take_nil true_and and_true Int.toNat_natCast if_true if_false Nat.zero_add Nat.add_zero List.map_cons List.map_nil Nat.reduceEqDiff Nat.left_eq_add Nat.add_eq_left Nat.add_left_cancel_iff Nat.add_assoc Nat.reduceSub Nat.reduceAdd Nat.reduceLeDiff Nat.le_refl Nat.zero_le Nat.zero_lt_one Nat.lt_add_one Int.reduceLT Int.reduceLE Int.reduceToNat Nat.reduceLT Nat.reduceBEq Bool.false_eq_true Nat.reduceBNe ne_eq not_false_eq_true not_true_eq_false false_and and_false reduceIte Int.natCast_nonneg reduceCtorEq parts_agg parts_bool parts_int parts_str parts_lit parts_nils parts_sl parts_ptr Int.natCast_nonneg Int.natCast_nonneg beq_self_eq_true bne_self_eq_false St.push St.set St.kill Bool.true_and Bool.false_and Bool.and_true Bool.and_false Bool.true_or Bool.false_or Bool.or_true Bool.or_false Bool.not_true Bool.not_false


abbrev Key := List Int
def esK (ks : List Key) : List (Key × AV) := ks.map fun k => (k, .agg [])
theorem esK_find (k : Key) (ks : List Key) : mfind k (esK ks) = if ks.contains k = true then some (ks.idxOf k) else none := by
  induction ks with
  | nil => rfl
  | cons x xs ih =>
    simp only [esK, List.map_cons, mfind] at ih ⊢
    by_cases h : x = k
    · subst h; simp
    · have h' : ¬ k = x := fun e => h e.symm
      rw [if_neg h, ih, List.idxOf_cons]
      simp only [List.contains_cons, beq_eq_false_iff_ne.2 h', Bool.false_or]
      have h2 : (x == k) = false := by simpa using h
      split <;> simp [h2]
theorem esK_get (k : Key) (ks : List Key) (h : ks.contains k = true) : ((esK ks).getD (ks.idxOf k) ([], .undef)).2 = .agg [] := by
  have h1 : ks.idxOf k < ks.length := List.idxOf_lt_length_iff.2 (by simpa using h)
  simp [esK, List.getD_eq_getElem?_getD, h1]
theorem esK_set (k : Key) (ks : List Key) (h : ks.contains k = true) : (esK ks).set (ks.idxOf k) (k, .agg []) = esK ks := by
  have h1 : ks.idxOf k < ks.length := List.idxOf_lt_length_iff.2 (by simpa using h)
  refine List.ext_getElem (by simp) fun i h2 h3 => ?_
  rw [List.getElem_set]
  split
  · rename_i he; subst he; simp [esK]
  · rfl
theorem esK_snoc (ks : List Key) (k : Key) : esK ks ++ [(k, .agg [])] = esK (ks ++ [k]) := by simp [esK]

def addK (st : List Key × Bool) (k : Key) : List Key × Bool := (if st.1.contains k = true then st.1 else st.1 ++ [k], st.2 && !st.1.contains k)
def keyOf (kind : Int) (d : Nat) (i : Instr) : Key := if (kind == 4) = true then [i.dev, (d : Int), i.tag] else [(d : Int), i.dev, i.tag]
def keyP (kind : Int) (d : Nat) (st : List Key × Bool) (p : List Instr) : List Key × Bool := p.foldl (fun st i => if (i.kind != kind) = true then st else addK st (keyOf kind d i)) st
def endsE (kind : Int) (l : List (List Instr)) (n : Nat) : List Key × Bool := (List.range n).foldl (fun st d => keyP kind d st (l.getD d [])) ([], true)

theorem endsE_succ (kind : Int) (l : List (List Instr)) (n : Nat) : endsE kind l (n + 1) = keyP kind n (endsE kind l n) (l.getD n []) := by
  simp [endsE, List.range_succ]

/-- code.ends -/
theorem ends_spec (l : List (List Instr)) (kind : Int) (σ : St) : TQ Try.prog 65 [progsA l, I kind] σ fun v s => ∃ bm, v = .tup [.map bm, .bool (endsE kind l l.length).2] ∧ s.blk bm = some (.map (some 3) (esK (endsE kind l l.length).1)) ∧ σ.next ≤ bm ∧ bm < s.next ∧ Ext σ s := by
  refine in65 (by simp) fun wf hab => ?_
  obtain ⟨hl, hps⟩ := hab_progs (hab 0 (by simp))
  clear hab
  unfold c65
  first | refine .seq (.rg fun A hA K hK => ?_) | refine .seq (.seq (.rg fun A hA K hK => ?_)) | refine .rg fun A hA K hK => ?_ | refine .seq (.rd fun A hA K hK => ?_) | refine .seq (.seq (.rd fun A hA K hK => ?_)) | refine .rd fun A hA K hK => ?_
  simp (maxSteps := 1000000) only [go_sem, hA.nil, hA.go, hA.yes, hA.noT, hA.noF, hA.skp]
  refine hK _ _ ?_; clear hK K hA A
  first | refine .seq (.rg fun A hA K hK => ?_) | refine .seq (.seq (.rg fun A hA K hK => ?_)) | refine .rg fun A hA K hK => ?_ | refine .seq (.rd fun A hA K hK => ?_) | refine .seq (.seq (.rd fun A hA K hK => ?_)) | refine .rd fun A hA K hK => ?_
  simp (maxSteps := 1000000) only [go_sem, hA.nil, hA.go, hA.yes, hA.noT, hA.noF, hA.skp]
  refine hK _ _ ?_; clear hK K hA A
  have hx0 : Ext σ { next := σ.next + 1, blk := fun b => if b = σ.next then some (Blk.map (some 3) []) else σ.blk b } := by
    refine ⟨by simp, fun b hb => ?_⟩
    simp only
    rw [if_neg (by omega)]
  first | refine .seq (.rg fun A hA K hK => ?_) | refine .seq (.seq (.rg fun A hA K hK => ?_)) | refine .rg fun A hA K hK => ?_ | refine .seq (.rd fun A hA K hK => ?_) | refine .seq (.seq (.rd fun A hA K hK => ?_)) | refine .rd fun A hA K hK => ?_
  simp (maxSteps := 1000000) only [go_sem, hA.nil, hA.go, hA.yes, hA.noT, hA.noF, hA.skp]
  refine hK _ _ ?_; clear hK K hA A
  first | refine .seq (.rg fun A hA K hK => ?_) | refine .seq (.seq (.rg fun A hA K hK => ?_)) | refine .rg fun A hA K hK => ?_ | refine .seq (.rd fun A hA K hK => ?_) | refine .seq (.seq (.rd fun A hA K hK => ?_)) | refine .rd fun A hA K hK => ?_
  simp (maxSteps := 1000000) only [go_sem, hA.nil, hA.go, hA.yes, hA.noT, hA.noF, hA.skp]
  refine hK _ _ ?_; clear hK K hA A
  refine .range (N := l.length) (fun i F s => F 1 = I kind ∧ F 6 = .map σ.next ∧ F 7 = .bool (endsE kind l i).2 ∧ F 16 = progsA l ∧ F 17 = I l.length ∧ F 18 = I i ∧ s.blk σ.next = some (.map (some 3) (esK (endsE kind l i).1)) ∧ σ.next < s.next ∧ Ext σ s) hl ?_ ?_ ?_ ?_
  · exact ⟨by simp (maxSteps := 1000000) only [go_sem], by simp (maxSteps := 1000000) only [go_sem], by simp (maxSteps := 1000000) only [go_sem]; try rfl, by simp (maxSteps := 1000000) only [go_sem], by simp (maxSteps := 1000000) only [go_sem], by simp (maxSteps := 1000000) only [go_sem]; try rfl, by simp [endsE, esK], by simp, hx0⟩
  · rintro i F s ⟨_, _, _, _, h1, h2, _⟩
    exact ⟨h2, h1⟩
  · rintro i F s hlt ⟨h1, h6, h7, h16, h17, h18, hm, hnx, hx⟩
    have e1 : (i : Int) < l.length := by omega
    have hp : l[i].length ≤ most := hab_prog (hps _ (List.getElem_mem hlt))
    have hgl : l.getD i [] = l[i] := by simp [List.getD_eq_getElem?_getD, hlt]
    have et := endsE_succ kind l i
    rw [hgl] at et
    first | refine .seq (.rg fun A hA K hK => ?_) | refine .seq (.seq (.rg fun A hA K hK => ?_)) | refine .rg fun A hA K hK => ?_ | refine .seq (.rd fun A hA K hK => ?_) | refine .seq (.seq (.rd fun A hA K hK => ?_)) | refine .rd fun A hA K hK => ?_
    simp (maxSteps := 1000000) only [go_sem, hA.nil, hA.go, hA.yes, hA.noT, hA.noF, hA.skp, h16, h18, progs_get' hlt, e1]
    refine hK _ _ ?_; clear hK K hA A
    first | refine .seq (.rg fun A hA K hK => ?_) | refine .seq (.seq (.rg fun A hA K hK => ?_)) | refine .rg fun A hA K hK => ?_ | refine .seq (.rd fun A hA K hK => ?_) | refine .seq (.seq (.rd fun A hA K hK => ?_)) | refine .rd fun A hA K hK => ?_
    simp (maxSteps := 1000000) only [go_sem, hA.nil, hA.go, hA.yes, hA.noT, hA.noF, hA.skp]
    refine hK _ _ ?_; clear hK K hA A
    refine .range (N := l[i].length) (fun n F s => F 1 = I kind ∧ F 6 = .map σ.next ∧ F 7 = .bool (keyP kind i (endsE kind l i) (l[i].take n)).2 ∧ F 8 = I i ∧ F 16 = progsA l ∧ F 17 = I l.length ∧ F 18 = I i ∧ F 23 = progA l[i] ∧ F 24 = I l[i].length ∧ F 25 = I n ∧ s.blk σ.next = some (.map (some 3) (esK (keyP kind i (endsE kind l i) (l[i].take n)).1)) ∧ σ.next < s.next ∧ Ext σ s) hp ?_ ?_ ?_ ?_
    · exact ⟨by simp (maxSteps := 1000000) only [go_sem, h1], by simp (maxSteps := 1000000) only [go_sem, h6], by simp (maxSteps := 1000000) only [go_sem, h7]; try rfl, by simp (maxSteps := 1000000) only [go_sem], by simp (maxSteps := 1000000) only [go_sem, h16], by simp (maxSteps := 1000000) only [go_sem, h17], by simp (maxSteps := 1000000) only [go_sem, h18], by simp (maxSteps := 1000000) only [go_sem], by simp (maxSteps := 1000000) only [go_sem], by simp (maxSteps := 1000000) only [go_sem]; try rfl, hm, hnx, hx⟩
    · rintro n F s ⟨_, _, _, _, _, _, _, _, h1, h2, _⟩
      exact ⟨h2, h1⟩
    · rintro n F s hn ⟨h1, h6, h7, h8, h16, h17, h18, h23, h24, h25, hm, hnx, hx⟩
      have e2 : (n : Int) < l[i].length := by omega
      have et2 : keyP kind i (endsE kind l i) (l[i].take (n + 1)) = if (l[i][n].kind != kind) = true then keyP kind i (endsE kind l i) (l[i].take n) else addK (keyP kind i (endsE kind l i) (l[i].take n)) (keyOf kind i l[i][n]) := foldl_take _ _ l[i] n hn
      generalize keyP kind i (endsE kind l i) (l[i].take n) = st at *
      have q := ext_two (B := .cells 13 [instrL l[i][n]]) (B' := .cells 13 [[I 0, I 0, .lit 1 [], I 0, .lit 1 [], .lit 1 [], .lit 1 [], I 0, I 0, .str ⟨#[]⟩, I 0, I 0, I 0]]) hx
      first | refine .seq (.rg fun A hA K hK => ?_) | refine .seq (.seq (.rg fun A hA K hK => ?_)) | refine .rg fun A hA K hK => ?_ | refine .seq (.rd fun A hA K hK => ?_) | refine .seq (.seq (.rd fun A hA K hK => ?_)) | refine .rd fun A hA K hK => ?_
      simp (maxSteps := 1000000) only [go_sem, hA.nil, hA.go, hA.yes, hA.noT, hA.noF, hA.skp, h23, h25, prog_get hn, e2]
      refine hK _ _ ?_; clear hK K hA A
      generalize hS : ({ next := s.next + 1, blk := _ } : St) = s2
      have hb11 : s2.blk s.next = some (.cells 13 [instrL l[i][n]]) := by subst hS; simp
      have hm2 : s2.blk σ.next = some (.map (some 3) (esK st.1)) := by
        subst hS; simp only; rw [if_neg (by omega), if_neg (by omega)]; exact hm
      have hx2 : Ext σ s2 := by subst hS; exact q
      have hn2 : s.next < s2.next := by subst hS; simp
      clear hS q hx hm
      first | refine .seq (.rg fun A hA K hK => ?_) | refine .seq (.seq (.rg fun A hA K hK => ?_)) | refine .rg fun A hA K hK => ?_ | refine .seq (.rd fun A hA K hK => ?_) | refine .seq (.seq (.rd fun A hA K hK => ?_)) | refine .rd fun A hA K hK => ?_
      simp (maxSteps := 1000000) only [go_sem, hA.nil, hA.go, hA.yes, hA.noT, hA.noF, hA.skp, hb11, h1]
      refine hK _ _ ?_; clear hK K hA A
      refine .cond (t := l[i][n].kind != kind) (by simp (maxSteps := 1000000) only [go_sem]) (fun ht => .exit ?_) (fun ht => .skip ?_)
      · rw [if_pos ht] at et2
        simp only [thenQ, roundQ, if_true]
        rw [et2]
        exact ⟨by simp (maxSteps := 1000000) only [go_sem, h25], by simp (maxSteps := 1000000) only [go_sem, h1], by simp (maxSteps := 1000000) only [go_sem, h6], by simp (maxSteps := 1000000) only [go_sem, h7], by simp (maxSteps := 1000000) only [go_sem, h8], by simp (maxSteps := 1000000) only [go_sem, h16], by simp (maxSteps := 1000000) only [go_sem, h17], by simp (maxSteps := 1000000) only [go_sem, h18], by simp (maxSteps := 1000000) only [go_sem, h23], by simp (maxSteps := 1000000) only [go_sem, h24], by simp (maxSteps := 1000000) only [go_sem], hm2, by omega, hx2⟩
      rw [if_neg (by rw [ht]; simp)] at et2
      first | refine .seq (.rg fun A hA K hK => ?_) | refine .seq (.seq (.rg fun A hA K hK => ?_)) | refine .rg fun A hA K hK => ?_ | refine .seq (.rd fun A hA K hK => ?_) | refine .seq (.seq (.rd fun A hA K hK => ?_)) | refine .rd fun A hA K hK => ?_
      simp (maxSteps := 1000000) only [go_sem, hA.nil, hA.go, hA.yes, hA.noT, hA.noF, hA.skp, hb11, h8, fillA, List.cons_append]
      refine hK _ _ ?_; clear hK K hA A
      refine .mid (fun F' s' => F' 12 = .ptr s2.next 0 0 ∧ s'.blk s2.next = some (.cells 3 [(keyOf kind i l[i][n]).map I]) ∧ F' 1 = I kind ∧ F' 6 = .map σ.next ∧ F' 7 = .bool st.2 ∧ F' 8 = I i ∧ F' 16 = progsA l ∧ F' 17 = I l.length ∧ F' 18 = I i ∧ F' 23 = progA l[i] ∧ F' 24 = I l[i].length ∧ F' 25 = I n ∧ s'.blk σ.next = some (.map (some 3) (esK st.1)) ∧ s2.next < s'.next ∧ Ext σ s') ?_ ?_
      · have hx3 : ∀ B B', Ext σ { next := s2.next + 1, blk := fun b => if b = s2.next then some B else if b = s2.next then some B' else s2.blk b } := fun B B' => ext_two hx2
        have hx4 : ∀ B B' B'', Ext σ { next := s2.next + 1, blk := fun b => if b = s2.next then some B'' else if b = s2.next then some B else if b = s2.next then some B' else s2.blk b } := by
          intro B B' B''
          refine ⟨(hx3 B B').1, fun b hb => ?_⟩
          have := (hx3 B B').2 b hb
          have h1 := hx2.1
          simp only at this ⊢
          rw [if_neg (by omega)]; exact this
        have hne : ¬ s.next = s2.next := by omega
        first | refine .seq (.rg fun A hA K hK => ?_) | refine .seq (.seq (.rg fun A hA K hK => ?_)) | refine .rg fun A hA K hK => ?_ | refine .seq (.rd fun A hA K hK => ?_) | refine .seq (.seq (.rd fun A hA K hK => ?_)) | refine .rd fun A hA K hK => ?_
        simp (maxSteps := 1000000) only [go_sem, hA.nil, hA.go, hA.yes, hA.noT, hA.noF, hA.skp, h1]
        refine hK _ _ ?_; clear hK K hA A
        refine .cond (t := kind == 4) (by simp (maxSteps := 1000000) only [go_sem]) (fun h4 => ?_) (fun h4 => .skip ?_)
        · first | refine .seq (.rg fun A hA K hK => ?_) | refine .seq (.seq (.rg fun A hA K hK => ?_)) | refine .rg fun A hA K hK => ?_ | refine .seq (.rd fun A hA K hK => ?_) | refine .seq (.seq (.rd fun A hA K hK => ?_)) | refine .rd fun A hA K hK => ?_
          simp (maxSteps := 1000000) only [go_sem, hA.nil, hA.go, hA.yes, hA.noT, hA.noF, hA.skp, hb11, h8, hne, fillA, List.cons_append]
          refine hK _ _ ?_; clear hK K hA A
          refine ⟨by simp (maxSteps := 1000000) only [go_sem], ?_, by simp (maxSteps := 1000000) only [go_sem, h1], by simp (maxSteps := 1000000) only [go_sem, h6], by simp (maxSteps := 1000000) only [go_sem, h7], by simp (maxSteps := 1000000) only [go_sem, h8], by simp (maxSteps := 1000000) only [go_sem, h16], by simp (maxSteps := 1000000) only [go_sem, h17], by simp (maxSteps := 1000000) only [go_sem, h18], by simp (maxSteps := 1000000) only [go_sem, h23], by simp (maxSteps := 1000000) only [go_sem, h24], by simp (maxSteps := 1000000) only [go_sem, h25], ?_, by simp, hx4 _ _ _⟩
          · rw [keyOf, if_pos h4]; simp
          · simp only; rw [if_neg (by omega), if_neg (by omega), if_neg (by omega)]; exact hm2
        · refine ⟨by simp (maxSteps := 1000000) only [go_sem], ?_, by simp (maxSteps := 1000000) only [go_sem, h1], by simp (maxSteps := 1000000) only [go_sem, h6], by simp (maxSteps := 1000000) only [go_sem, h7], by simp (maxSteps := 1000000) only [go_sem, h8], by simp (maxSteps := 1000000) only [go_sem, h16], by simp (maxSteps := 1000000) only [go_sem, h17], by simp (maxSteps := 1000000) only [go_sem, h18], by simp (maxSteps := 1000000) only [go_sem, h23], by simp (maxSteps := 1000000) only [go_sem, h24], by simp (maxSteps := 1000000) only [go_sem, h25], ?_, by simp, hx3 _ _⟩
          · rw [keyOf, if_neg (by rw [h4]; simp)]; simp
          · simp only; rw [if_neg (by omega), if_neg (by omega)]; exact hm2
      rintro F' s3 ⟨h12, hb12, h1, h6, h7, h8, h16, h17, h18, h23, h24, h25, hm3, hn3, hx3⟩
      have hkey : ∃ a b c, keyOf kind i l[i][n] = [a, b, c] := by
        unfold keyOf; split <;> exact ⟨_, _, _, rfl⟩
      obtain ⟨ka, kb, kc, hk⟩ := hkey
      rw [hk] at hb12 et2
      simp only [List.map_cons, List.map_nil] at hb12
      have hkA : kA (some 3) (.agg [I ka, I kb, I kc]) = some [ka, kb, kc] := rfl
      refine .mid (fun F' s' => F' 14 = .bool (st.1.contains [ka, kb, kc]) ∧ F' 12 = .ptr s2.next 0 0 ∧ s'.blk s2.next = some (.cells 3 [[I ka, I kb, I kc]]) ∧ F' 1 = I kind ∧ F' 6 = .map σ.next ∧ F' 7 = .bool st.2 ∧ F' 8 = I i ∧ F' 16 = progsA l ∧ F' 17 = I l.length ∧ F' 18 = I i ∧ F' 23 = progA l[i] ∧ F' 24 = I l[i].length ∧ F' 25 = I n ∧ s'.blk σ.next = some (.map (some 3) (esK st.1)) ∧ s2.next < s'.next ∧ Ext σ s') ?_ ?_
      · have hx4 : ∀ B B', Ext σ { next := s3.next + 1, blk := fun b => if b = s3.next then some B else if b = s3.next then some B' else s3.blk b } := fun B B' => ext_two hx3
        cases hc : st.1.contains [ka, kb, kc]
        · have hf : mfind [ka, kb, kc] (esK st.1) = none := by rw [esK_find, hc]; rfl
          first | refine .seq (.rg fun A hA K hK => ?_) | refine .seq (.seq (.rg fun A hA K hK => ?_)) | refine .rg fun A hA K hK => ?_ | refine .seq (.rd fun A hA K hK => ?_) | refine .seq (.seq (.rd fun A hA K hK => ?_)) | refine .rd fun A hA K hK => ?_
          simp (maxSteps := 1000000) only [go_sem, hA.nil, hA.go, hA.yes, hA.noT, hA.noF, hA.skp, h6, hm3, hf, h12, hb12, hkA]
          refine hK _ _ ?_; clear hK K hA A
          refine ⟨by simp (maxSteps := 1000000) only [go_sem], by simp (maxSteps := 1000000) only [go_sem, h12], ?_, by simp (maxSteps := 1000000) only [go_sem, h1], by simp (maxSteps := 1000000) only [go_sem, h6], by simp (maxSteps := 1000000) only [go_sem, h7], by simp (maxSteps := 1000000) only [go_sem, h8], by simp (maxSteps := 1000000) only [go_sem, h16], by simp (maxSteps := 1000000) only [go_sem, h17], by simp (maxSteps := 1000000) only [go_sem, h18], by simp (maxSteps := 1000000) only [go_sem, h23], by simp (maxSteps := 1000000) only [go_sem, h24], by simp (maxSteps := 1000000) only [go_sem, h25], ?_, by simp only; omega, hx4 _ _⟩
          · simp only; rw [if_neg (by omega), if_neg (by omega)]; exact hb12
          · simp only; rw [if_neg (by omega), if_neg (by omega)]; exact hm3
        · have hf : mfind [ka, kb, kc] (esK st.1) = some (st.1.idxOf [ka, kb, kc]) := by rw [esK_find, hc]; rfl
          first | refine .seq (.rg fun A hA K hK => ?_) | refine .seq (.seq (.rg fun A hA K hK => ?_)) | refine .rg fun A hA K hK => ?_ | refine .seq (.rd fun A hA K hK => ?_) | refine .seq (.seq (.rd fun A hA K hK => ?_)) | refine .rd fun A hA K hK => ?_
          simp (maxSteps := 1000000) only [go_sem, hA.nil, hA.go, hA.yes, hA.noT, hA.noF, hA.skp, h6, hm3, hf, h12, hb12, hkA, esK_get _ _ hc]
          refine hK _ _ ?_; clear hK K hA A
          refine ⟨by simp (maxSteps := 1000000) only [go_sem], by simp (maxSteps := 1000000) only [go_sem, h12], ?_, by simp (maxSteps := 1000000) only [go_sem, h1], by simp (maxSteps := 1000000) only [go_sem, h6], by simp (maxSteps := 1000000) only [go_sem, h7], by simp (maxSteps := 1000000) only [go_sem, h8], by simp (maxSteps := 1000000) only [go_sem, h16], by simp (maxSteps := 1000000) only [go_sem, h17], by simp (maxSteps := 1000000) only [go_sem, h18], by simp (maxSteps := 1000000) only [go_sem, h23], by simp (maxSteps := 1000000) only [go_sem, h24], by simp (maxSteps := 1000000) only [go_sem, h25], ?_, by simp only; omega, hx4 _ _⟩
          · simp only; rw [if_neg (by omega), if_neg (by omega)]; exact hb12
          · simp only; rw [if_neg (by omega), if_neg (by omega)]; exact hm3
      rintro F' s4 ⟨h14, h12, hb12, h1, h6, h7, h8, h16, h17, h18, h23, h24, h25, hm4, hn4, hx4⟩
      refine .mid (fun F' s' => F' 7 = .bool (st.2 && !st.1.contains [ka, kb, kc]) ∧ F' 12 = .ptr s2.next 0 0 ∧ F' 1 = I kind ∧ F' 6 = .map σ.next ∧ F' 8 = I i ∧ F' 16 = progsA l ∧ F' 17 = I l.length ∧ F' 18 = I i ∧ F' 23 = progA l[i] ∧ F' 24 = I l[i].length ∧ F' 25 = I n ∧ s' = s4) ?_ ?_
      · first | refine .seq (.rg fun A hA K hK => ?_) | refine .seq (.seq (.rg fun A hA K hK => ?_)) | refine .rg fun A hA K hK => ?_ | refine .seq (.rd fun A hA K hK => ?_) | refine .seq (.seq (.rd fun A hA K hK => ?_)) | refine .rd fun A hA K hK => ?_
        simp (maxSteps := 1000000) only [go_sem, hA.nil, hA.go, hA.yes, hA.noT, hA.noF, hA.skp, h7, h14]
        refine hA.cut (b := st.2) (by simp (maxSteps := 1000000) only [go_sem]) (fun hs => ?_) (fun hs => ?_)
        · simp (maxSteps := 1000000) only [go_sem, hA.nil, hA.go, hA.yes, hA.noT, hA.noF, hA.skp, h7, h14, hs]
          exact hK _ _ ⟨by simp (maxSteps := 1000000) only [go_sem, hs], by simp (maxSteps := 1000000) only [go_sem, h12], by simp (maxSteps := 1000000) only [go_sem, h1], by simp (maxSteps := 1000000) only [go_sem, h6], by simp (maxSteps := 1000000) only [go_sem, h8], by simp (maxSteps := 1000000) only [go_sem, h16], by simp (maxSteps := 1000000) only [go_sem, h17], by simp (maxSteps := 1000000) only [go_sem, h18], by simp (maxSteps := 1000000) only [go_sem, h23], by simp (maxSteps := 1000000) only [go_sem, h24], by simp (maxSteps := 1000000) only [go_sem, h25], rfl⟩
        · simp (maxSteps := 1000000) only [go_sem, hA.nil, hA.go, hA.yes, hA.noT, hA.noF, hA.skp, h7, h14, hs]
          exact hK _ _ ⟨by simp (maxSteps := 1000000) only [go_sem, hs], by simp (maxSteps := 1000000) only [go_sem, h12], by simp (maxSteps := 1000000) only [go_sem, h1], by simp (maxSteps := 1000000) only [go_sem, h6], by simp (maxSteps := 1000000) only [go_sem, h8], by simp (maxSteps := 1000000) only [go_sem, h16], by simp (maxSteps := 1000000) only [go_sem, h17], by simp (maxSteps := 1000000) only [go_sem, h18], by simp (maxSteps := 1000000) only [go_sem, h23], by simp (maxSteps := 1000000) only [go_sem, h24], by simp (maxSteps := 1000000) only [go_sem, h25], rfl⟩
      rintro F' s5 ⟨h7, h12, h1, h6, h8, h16, h17, h18, h23, h24, h25, rfl⟩
      cases hc : st.1.contains [ka, kb, kc]
      · have hf : mfind [ka, kb, kc] (esK st.1) = none := by rw [esK_find, hc]; rfl
        simp only [addK, hc, if_false, Bool.false_eq_true] at et2
        rw [hc] at h7
        first | refine .seq (.rg fun A hA K hK => ?_) | refine .seq (.seq (.rg fun A hA K hK => ?_)) | refine .rg fun A hA K hK => ?_ | refine .seq (.rd fun A hA K hK => ?_) | refine .seq (.seq (.rd fun A hA K hK => ?_)) | refine .rd fun A hA K hK => ?_
        simp (maxSteps := 1000000) only [go_sem, hA.nil, hA.go, hA.yes, hA.noT, hA.noF, hA.skp, h6, hm4, hf, h12, hb12, hkA]
        refine hK _ _ ?_; clear hK K hA A
        simp only [roundQ]
        rw [et2]
        exact ⟨by simp (maxSteps := 1000000) only [go_sem, h25], by simp (maxSteps := 1000000) only [go_sem, h1], by simp (maxSteps := 1000000) only [go_sem, h6], by simp (maxSteps := 1000000) only [go_sem, h7], by simp (maxSteps := 1000000) only [go_sem, h8], by simp (maxSteps := 1000000) only [go_sem, h16], by simp (maxSteps := 1000000) only [go_sem, h17], by simp (maxSteps := 1000000) only [go_sem, h18], by simp (maxSteps := 1000000) only [go_sem, h23], by simp (maxSteps := 1000000) only [go_sem, h24], by simp (maxSteps := 1000000) only [go_sem], by simp [esK], by omega, hx4.1, fun b hb => by simp only; rw [if_neg (by omega)]; exact hx4.2 b hb⟩
      · have hf : mfind [ka, kb, kc] (esK st.1) = some (st.1.idxOf [ka, kb, kc]) := by rw [esK_find, hc]; rfl
        simp only [addK, hc, if_true] at et2
        rw [hc] at h7
        first | refine .seq (.rg fun A hA K hK => ?_) | refine .seq (.seq (.rg fun A hA K hK => ?_)) | refine .rg fun A hA K hK => ?_ | refine .seq (.rd fun A hA K hK => ?_) | refine .seq (.seq (.rd fun A hA K hK => ?_)) | refine .rd fun A hA K hK => ?_
        simp (maxSteps := 1000000) only [go_sem, hA.nil, hA.go, hA.yes, hA.noT, hA.noF, hA.skp, h6, hm4, hf, h12, hb12, hkA, esK_set _ _ hc]
        refine hK _ _ ?_; clear hK K hA A
        simp only [roundQ]
        rw [et2]
        exact ⟨by simp (maxSteps := 1000000) only [go_sem, h25], by simp (maxSteps := 1000000) only [go_sem, h1], by simp (maxSteps := 1000000) only [go_sem, h6], by simp (maxSteps := 1000000) only [go_sem, h7], by simp (maxSteps := 1000000) only [go_sem, h8], by simp (maxSteps := 1000000) only [go_sem, h16], by simp (maxSteps := 1000000) only [go_sem, h17], by simp (maxSteps := 1000000) only [go_sem, h18], by simp (maxSteps := 1000000) only [go_sem, h23], by simp (maxSteps := 1000000) only [go_sem, h24], by simp (maxSteps := 1000000) only [go_sem], by simp [esK_set _ _ hc], by omega, hx4.1, fun b hb => by simp only; rw [if_neg (by omega)]; exact hx4.2 b hb⟩
    · rintro F s ⟨h1, h6, h7, h8, h16, h17, h18, h23, h24, h25, hm, hnx, hx⟩
      rw [List.take_length, ← et] at h7 hm
      exact ⟨by simp (maxSteps := 1000000) only [go_sem, h18], by simp (maxSteps := 1000000) only [go_sem, h1], by simp (maxSteps := 1000000) only [go_sem, h6], by simp (maxSteps := 1000000) only [go_sem, h7], by simp (maxSteps := 1000000) only [go_sem, h16], by simp (maxSteps := 1000000) only [go_sem, h17], by simp (maxSteps := 1000000) only [go_sem], hm, hnx, hx⟩
  rintro F s ⟨h1, h6, h7, h16, h17, h18, hm, hnx, hx⟩
  first | refine .seq (.rg fun A hA K hK => ?_) | refine .seq (.seq (.rg fun A hA K hK => ?_)) | refine .rg fun A hA K hK => ?_ | refine .seq (.rd fun A hA K hK => ?_) | refine .seq (.seq (.rd fun A hA K hK => ?_)) | refine .rd fun A hA K hK => ?_
  simp (maxSteps := 1000000) only [go_sem, hA.nil, hA.go, hA.yes, hA.noT, hA.noF, hA.skp, h6, h7]
  refine hK _ _ ?_; clear hK K hA A
  exact .ret ⟨_, by simp only [List.mapM_cons, List.mapM_nil, resOne, go_sem, Option.pure_def, Option.bind_eq_bind, Option.bind_some]; rfl, _, s, .refl _ _ _, σ.next, rfl, hm, Nat.le_refl _, hnx, hx⟩

end Go.Proofs.Ytfjbabacpnnjmaa.Av

namespace Go.Proofs.Ytfjbabacpnnjmaa.Av
open Go Go.Av
set_option maxRecDepth 20000
set_option maxHeartbeats 4000000

attribute [local go_sem] step_apply
attribute [local go_sem] instr0 instr1 instr2 instr10 instr11 instr12 instrN instrA instr_len node0 node1 node2 node3 node4 node5 node6 nodeA node_len getD_drop List.length_drop splice List.nil_append List.append_nil cond_true cond_false List.set_cons_zero List.length_set aopq aop ev put_some put_none upd_apply abin asNat bounds row1 mk I ints progA progsA List.length_cons List.length_nil List.length_map List.drop_zero List.drop_succ_cons List.drop_nil List.getD_cons_zero List.getD_cons_succ Option.getD_none Option.getD_some
  List.take_succ_cons List.take_zero List.take_nil true_and and_true Int.toNat_natCast if_true if_false Nat.zero_add Nat.add_zero List.map_cons List.map_nil Nat.reduceEqDiff Nat.left_eq_add Nat.add_eq_left Nat.add_left_cancel_iff Nat.add_assoc Nat.reduceSub Nat.reduceAdd Nat.reduceLeDiff Nat.le_refl Nat.zero_le Nat.zero_lt_one Nat.lt_add_one Int.reduceLT Int.reduceLE Int.reduceToNat Nat.reduceLT Nat.reduceBEq Bool.false_eq_true Nat.reduceBNe ne_eq not_false_eq_true not_true_eq_false false_and and_false reduceIte Int.natCast_nonneg reduceCtorEq parts_agg parts_bool parts_int parts_str parts_lit parts_nils parts_sl parts_ptr Int.natCast_nonneg Int.natCast_nonneg beq_self_eq_true bne_self_eq_false St.push St.set St.kill Bool.true_and Bool.false_and Bool.and_true Bool.and_false Bool.true_or Bool.false_or Bool.or_true Bool.or_false Bool.not_true Bool.not_false


theorem keyP_len {kind : Int} {d : Nat} (p : List Instr) : ∀ (st : List Key × Bool), (∀ x ∈ st.1, x.length = 3) → ∀ x ∈ (keyP kind d st p).1, x.length = 3 := by
  induction p with
  | nil => exact fun st h => h
  | cons i p ih =>
    intro st h
    simp only [keyP, List.foldl_cons]
    refine ih _ ?_
    split
    · exact h
    · intro x hx
      simp only [addK] at hx
      split at hx
      · exact h x hx
      · rcases List.mem_append.1 hx with hx | hx
        · exact h x hx
        · have := List.mem_singleton.1 hx
          subst this
          unfold keyOf; split <;> rfl
theorem endsE_len (kind : Int) (l : List (List Instr)) (n : Nat) : ∀ x ∈ (endsE kind l n).1, x.length = 3 := by
  induction n with
  | zero => simp [endsE]
  | succ n ih => rw [endsE_succ]; exact keyP_len _ _ ih

def pairsC (l : List (List Instr)) : Int :=
  if rightE l ≠ 0 then rightE l else
  if (!(endsE 3 l l.length).2 || !(endsE 4 l l.length).2) = true then 25 else
  if (endsE 3 l l.length).1.any (fun k => !(endsE 4 l l.length).1.contains k) = true then 22 else
  if ((endsE 3 l l.length).1.length : Int) ≠ (endsE 4 l l.length).1.length then 22 else 0

/-- code.Pairs -/
theorem pairs_spec (l : List (List Instr)) (σ : St) : T Try.prog 29 [progsA l] σ (I (pairsC l)) σ := by
  refine in29 (by simp) fun wf hab => ?_
  clear hab
  unfold c29
  first | refine .seq (.rg fun A hA K hK => ?_) | refine .seq (.seq (.rg fun A hA K hK => ?_)) | refine .rg fun A hA K hK => ?_ | refine .seq (.rd fun A hA K hK => ?_) | refine .seq (.seq (.rd fun A hA K hK => ?_)) | refine .rd fun A hA K hK => ?_
  simp (maxSteps := 1000000) only [go_sem, hA.nil, hA.go, hA.yes, hA.noT, hA.noF, hA.skp]
  refine hK _ _ ?_; clear hK K hA A
  first | refine .seq (.rg fun A hA K hK => ?_) | refine .seq (.seq (.rg fun A hA K hK => ?_)) | refine .rg fun A hA K hK => ?_ | refine .seq (.rd fun A hA K hK => ?_) | refine .seq (.seq (.rd fun A hA K hK => ?_)) | refine .rd fun A hA K hK => ?_
  simp (maxSteps := 1000000) only [go_sem, hA.nil, hA.go, hA.yes, hA.noT, hA.noF, hA.skp]
  refine ⟨_, right_spec l _, ?_⟩
  try simp (maxSteps := 1000000) only [go_sem, hA.nil, hA.go]
  refine hK _ _ ?_; clear hK K hA A
  first | refine .seq (.rg fun A hA K hK => ?_) | refine .seq (.seq (.rg fun A hA K hK => ?_)) | refine .rg fun A hA K hK => ?_ | refine .seq (.rd fun A hA K hK => ?_) | refine .seq (.seq (.rd fun A hA K hK => ?_)) | refine .rd fun A hA K hK => ?_
  simp (maxSteps := 1000000) only [go_sem, hA.nil, hA.go, hA.yes, hA.noT, hA.noF, hA.skp]
  refine hK _ _ ?_; clear hK K hA A
  refine .cond (t := _) (by simp (maxSteps := 1000000) only [go_sem]; try rfl) (fun ht => ?_) (fun ht => .skip ?_)
  · have hw : pairsC l = rightE l := by rw [pairsC, if_pos (by simpa using ht)]
    first | refine .seq (.rg fun A hA K hK => ?_) | refine .seq (.seq (.rg fun A hA K hK => ?_)) | refine .rg fun A hA K hK => ?_ | refine .seq (.rd fun A hA K hK => ?_) | refine .seq (.seq (.rd fun A hA K hK => ?_)) | refine .rd fun A hA K hK => ?_
    simp (maxSteps := 1000000) only [go_sem, hA.nil, hA.go, hA.yes, hA.noT, hA.noF, hA.skp]
    refine hK _ _ ?_; clear hK K hA A
    exact .ret (ret1 (by simp (maxSteps := 1000000) only [go_sem, hw]) rfl)
  have hr : rightE l = 0 := by simpa using ht
  have hP : pairsC l = if (!(endsE 3 l l.length).2 || !(endsE 4 l l.length).2) = true then 25 else
      if (endsE 3 l l.length).1.any (fun k => !(endsE 4 l l.length).1.contains k) = true then 22 else
      if ((endsE 3 l l.length).1.length : Int) ≠ (endsE 4 l l.length).1.length then 22 else 0 := by
    rw [pairsC, if_neg (by rw [hr]; simp)]
  first | refine .seq (.rg fun A hA K hK => ?_) | refine .seq (.seq (.rg fun A hA K hK => ?_)) | refine .rg fun A hA K hK => ?_ | refine .seq (.rd fun A hA K hK => ?_) | refine .seq (.seq (.rd fun A hA K hK => ?_)) | refine .rd fun A hA K hK => ?_
  simp (maxSteps := 1000000) only [go_sem, hA.nil, hA.go, hA.yes, hA.noT, hA.noF, hA.skp]
  refine ⟨_, ends_spec l 3 σ, ?_⟩
  rintro v s ⟨b1, rfl, hm1, hb1, hn1, hx⟩
  try simp (maxSteps := 1000000) only [go_sem, hA.nil, hA.go]
  refine hK _ _ ?_; clear hK K hA A
  first | refine .seq (.rg fun A hA K hK => ?_) | refine .seq (.seq (.rg fun A hA K hK => ?_)) | refine .rg fun A hA K hK => ?_ | refine .seq (.rd fun A hA K hK => ?_) | refine .seq (.seq (.rd fun A hA K hK => ?_)) | refine .rd fun A hA K hK => ?_
  simp (maxSteps := 1000000) only [go_sem, hA.nil, hA.go, hA.yes, hA.noT, hA.noF, hA.skp]
  refine ⟨_, ends_spec l 4 s, ?_⟩
  rintro v s2 ⟨b2, rfl, hm2, hb2, hn2, hx2⟩
  try simp (maxSteps := 1000000) only [go_sem, hA.nil, hA.go]
  refine hK _ _ ?_; clear hK K hA A
  have hm1' : s2.blk b1 = some (.map (some 3) (esK (endsE 3 l l.length).1)) := by rw [hx2.2 b1 hn1]; exact hm1
  have hx3 : Ext σ s2 := ⟨Nat.le_trans hx.1 hx2.1, fun b hb => by rw [hx2.2 b (Nat.lt_of_lt_of_le hb hx.1), hx.2 b hb]⟩
  have hn1' : b1 < s2.next := Nat.lt_of_lt_of_le hn1 hx2.1
  clear hm1 hx hx2 hb2 hr ht
  have hl3 := endsE_len 3 l l.length
  generalize endsE 3 l l.length = e1 at *
  generalize endsE 4 l l.length = e2 at *
  obtain ⟨ks, a⟩ := e1
  obtain ⟨kr, b⟩ := e2
  simp only at hP hm1' hm2 hl3
  refine .mid (fun F' s' => F' 4 = .map b1 ∧ F' 6 = .map b2 ∧ (!a || !b) = false ∧ s' = s2) ?_ ?_
  · repeat' (first | (refine hK _ _ ?_; clear hK K hA A) | (refine hA.cut (by simp (maxSteps := 1000000) only [go_sem, *]; with_reducible rfl) (fun hs => ?_) (fun hs => ?_) <;> simp (maxSteps := 1000000) only [go_sem, hA.nil, hA.go, hA.yes, hA.noT, hA.noF, hA.skp, *]) | (refine .seq (.rg fun A hA K hK => ?_); simp (maxSteps := 1000000) only [go_sem, hA.nil, hA.go, hA.yes, hA.noT, hA.noF, hA.skp, *]) | (refine .seq (.seq (.rg fun A hA K hK => ?_)); simp (maxSteps := 1000000) only [go_sem, hA.nil, hA.go, hA.yes, hA.noT, hA.noF, hA.skp, *]) | (refine .rg fun A hA K hK => ?_; simp (maxSteps := 1000000) only [go_sem, hA.nil, hA.go, hA.yes, hA.noT, hA.noF, hA.skp, *]) | (refine .seq (.rd fun A hA K hK => ?_); simp (maxSteps := 1000000) only [go_sem, hA.nil, hA.go, hA.yes, hA.noT, hA.noF, hA.skp, *]) | (refine .seq (.seq (.rd fun A hA K hK => ?_)); simp (maxSteps := 1000000) only [go_sem, hA.nil, hA.go, hA.yes, hA.noT, hA.noF, hA.skp, *]) | (refine .rd fun A hA K hK => ?_; simp (maxSteps := 1000000) only [go_sem, hA.nil, hA.go, hA.yes, hA.noT, hA.noF, hA.skp, *]) | (refine .cond (t := _) (by simp (maxSteps := 1000000) only [go_sem, *]; with_reducible rfl) (fun hs => ?_) (fun hs => ?_) <;> (first | (cases hs; done) | skip)) | (refine .seq (.cond (t := _) (by simp (maxSteps := 1000000) only [go_sem, *]; with_reducible rfl) (fun hs => ?_) (fun hs => ?_)) <;> (first | (cases hs; done) | skip)) | refine .skip ?_ | refine .seq (.block ?_) | refine .block ?_ | refine .exit ?_ | ((first | exact ⟨by simp (maxSteps := 1000000) only [go_sem, *], by simp (maxSteps := 1000000) only [go_sem, *], by simp (maxSteps := 1000000) only [go_sem, *], by first | rfl | trivial⟩ | exact .ret (ret1b (by simp (maxSteps := 1000000) only [go_sem, hP, *]) wf hx3.2 (.int _ _))); done))
  rintro F s'0 ⟨h4, h6, hab, rfl⟩
  rw [if_neg (by rw [hab]; simp)] at hP
  have hlen : (esK ks).length = ks.length := by simp [esK]
  first | refine .seq (.rg fun A hA K hK => ?_) | refine .seq (.seq (.rg fun A hA K hK => ?_)) | refine .rg fun A hA K hK => ?_ | refine .seq (.rd fun A hA K hK => ?_) | refine .seq (.seq (.rd fun A hA K hK => ?_)) | refine .rd fun A hA K hK => ?_
  simp (maxSteps := 1000000) only [go_sem, hA.nil, hA.go, hA.yes, hA.noT, hA.noF, hA.skp, h4, hm1', hlen]
  refine hK _ _ ?_; clear hK K hA A
  refine .block (.loop (fun m F s => ∃ seen : List Nat, m = (List.range ks.length).countP (fun k => !seen.contains k) ∧ F 4 = .map b1 ∧ F 6 = .map b2 ∧ F 33 = .iter s'0.next ∧ s.blk s'0.next = some (.miter b1 ks.length seen) ∧
    s.blk b1 = some (.map (some 3) (esK ks)) ∧ s.blk b2 = some (.map (some 3) (esK kr)) ∧ s'0.next < s.next ∧ Ext σ s ∧ ∀ k ∈ seen, kr.contains (ks.getD k []) = true) _ ⟨[], rfl, by simp (maxSteps := 1000000) only [go_sem, h4], by simp (maxSteps := 1000000) only [go_sem, h6], by simp (maxSteps := 1000000) only [go_sem], by simp, ?_, ?_, by simp, ⟨by have := hx3.1; simp only; omega, fun b hb => ?_⟩, by simp⟩ ?_)
  · simp only; rw [if_neg (by omega)]; exact hm1'
  · simp only; rw [if_neg (by omega)]; exact hm2
  · have := hx3.1
    simp only; rw [if_neg (by omega)]; exact hx3.2 b hb
  · rintro m F s ⟨seen, rfl, h4, h6, h33, hit, hm1, hm2, hnx, hx, hj⟩
    first | refine .seq (.rg fun A hA K hK => ?_) | refine .seq (.seq (.rg fun A hA K hK => ?_)) | refine .rg fun A hA K hK => ?_ | refine .seq (.rd fun A hA K hK => ?_) | refine .seq (.seq (.rd fun A hA K hK => ?_)) | refine .rd fun A hA K hK => ?_
    simp (maxSteps := 1000000) only [go_sem, hA.nil, hA.go, hA.yes, hA.noT, hA.noF, hA.skp, h33, hit, hm1, hlen]
    refine ⟨fun hall => hK _ _ ?_, fun i hi hni => hK _ _ ?_⟩ <;> clear hK K hA A
    · refine .seq (.cond (t := false) (by simp (maxSteps := 1000000) only [go_sem]) (fun h => by cases h) fun _ => .exit ?_)
      have hany : ks.any (fun k => !kr.contains k) = false := by
        rw [List.any_eq_false]
        intro k hk
        obtain ⟨i, hi, rfl⟩ := List.getElem_of_mem hk
        have := hj i (hall i hi)
        rw [List.getD_eq_getElem?_getD, List.getElem?_eq_getElem hi] at this
        simp only [Option.getD_some] at this
        rw [this]; simp
      rw [if_neg (by rw [hany]; simp)] at hP
      simp only [thenQ, blockQ, if_true]
      have hl1 : (esK ks).length = ks.length := by simp [esK]
      have hl2 : (esK kr).length = kr.length := by simp [esK]
      first | refine .seq (.rg fun A hA K hK => ?_) | refine .seq (.seq (.rg fun A hA K hK => ?_)) | refine .rg fun A hA K hK => ?_ | refine .seq (.rd fun A hA K hK => ?_) | refine .seq (.seq (.rd fun A hA K hK => ?_)) | refine .rd fun A hA K hK => ?_
      simp (maxSteps := 1000000) only [go_sem, hA.nil, hA.go, hA.yes, hA.noT, hA.noF, hA.skp, h4, h6, hm1, hm2, hl1, hl2]
      refine hK _ _ ?_; clear hK K hA A
      refine .cond (t := _) (by simp (maxSteps := 1000000) only [go_sem]; try rfl) (fun ht => ?_) (fun ht => .skip ?_)
      · have hw : pairsC l = 22 := by rw [hP, if_pos (by simpa using ht)]
        first | refine .seq (.rg fun A hA K hK => ?_) | refine .seq (.seq (.rg fun A hA K hK => ?_)) | refine .rg fun A hA K hK => ?_ | refine .seq (.rd fun A hA K hK => ?_) | refine .seq (.seq (.rd fun A hA K hK => ?_)) | refine .rd fun A hA K hK => ?_
        simp (maxSteps := 1000000) only [go_sem, hA.nil, hA.go, hA.yes, hA.noT, hA.noF, hA.skp]
        refine hK _ _ ?_; clear hK K hA A
        exact .ret (ret1b (by simp (maxSteps := 1000000) only [go_sem, hw]) wf hx.2 (.int _ _))
      · have hw : pairsC l = 0 := by rw [hP, if_neg (by simpa using ht)]
        first | refine .seq (.rg fun A hA K hK => ?_) | refine .seq (.seq (.rg fun A hA K hK => ?_)) | refine .rg fun A hA K hK => ?_ | refine .seq (.rd fun A hA K hK => ?_) | refine .seq (.seq (.rd fun A hA K hK => ?_)) | refine .rd fun A hA K hK => ?_
        simp (maxSteps := 1000000) only [go_sem, hA.nil, hA.go, hA.yes, hA.noT, hA.noF, hA.skp]
        refine hK _ _ ?_; clear hK K hA A
        exact .ret (ret1b (by simp (maxSteps := 1000000) only [go_sem, hw]) wf hx.2 (.int _ _))
    · refine .seq (.cond (t := true) (by simp (maxSteps := 1000000) only [go_sem]) (fun _ => .skip ?_) (fun h => by cases h))
      refine .block ?_
      have hgl : (seen ++ [i]).getLast? = some i := by simp
      have hk3 : ∃ a b c, ks.getD i [] = [a, b, c] := by
        have : (ks.getD i []).length = 3 := hl3 _ (by rw [List.getD_eq_getElem?_getD, List.getElem?_eq_getElem hi]; exact List.getElem_mem hi)
        match ks.getD i [], this with
        | [a, b, c], _ => exact ⟨a, b, c, rfl⟩
      obtain ⟨ka, kb, kc, hk⟩ := hk3
      have hes : (esK ks).getD i ([], .undef) = ([ka, kb, kc], .agg []) := by
        rw [← hk]; simp [esK, List.getD_eq_getElem?_getD, hi]
      have hne1 : ¬ b1 = s'0.next := by omega
      have hne2 : ¬ b2 = s'0.next := by omega
      have hxs : Ext σ { next := s.next, blk := fun b' => if b' = s'0.next then some (Blk.miter b1 ks.length (seen ++ [i])) else s.blk b' } := by
        refine ⟨hx.1, fun b hb => ?_⟩
        have := hx3.1
        simp only; rw [if_neg (by omega)]; exact hx.2 b hb
      first | refine .seq (.rg fun A hA K hK => ?_) | refine .seq (.seq (.rg fun A hA K hK => ?_)) | refine .rg fun A hA K hK => ?_ | refine .seq (.rd fun A hA K hK => ?_) | refine .seq (.seq (.rd fun A hA K hK => ?_)) | refine .rd fun A hA K hK => ?_
      simp (maxSteps := 1000000) only [go_sem, hA.nil, hA.go, hA.yes, hA.noT, hA.noF, hA.skp, h33, hm1, hgl, hes, hlen, hi, hne1, keyA]
      refine hK _ _ ?_; clear hK K hA A
      generalize hS : ({ next := s.next + 1, blk := _ } : St) = s2
      have hb8 : s2.blk s.next = some (.cells 3 [[I ka, I kb, I kc]]) := by subst hS; simp
      have hit2 : s2.blk s'0.next = some (.miter b1 ks.length (seen ++ [i])) := by
        subst hS; simp only; rw [if_neg (by omega), if_neg (by omega)]; simp
      have hm12 : s2.blk b1 = some (.map (some 3) (esK ks)) := by
        subst hS; simp only; rw [if_neg (by omega), if_neg (by omega), if_neg hne1]; exact hm1
      have hm22 : s2.blk b2 = some (.map (some 3) (esK kr)) := by
        subst hS; simp only; rw [if_neg (by omega), if_neg (by omega), if_neg hne2]; exact hm2
      have hn2' : s.next < s2.next := by subst hS; simp
      have hx2 : Ext σ s2 := by
        subst hS
        refine ⟨by have := hx.1; simp only; omega, fun b hb => ?_⟩
        have := hx.1
        have h2 := hxs.2 b hb
        simp only at h2 ⊢
        rw [if_neg (by omega), if_neg (by omega)]; exact h2
      clear hS hxs hx hm1 hm2 hit
      have hkA : kA (some 3) (.agg [I ka, I kb, I kc]) = some [ka, kb, kc] := rfl
      refine .mid (fun F' s' => F' 10 = .bool (kr.contains [ka, kb, kc]) ∧ F' 4 = .map b1 ∧ F' 6 = .map b2 ∧ F' 33 = .iter s'0.next ∧ s'.blk s'0.next = some (.miter b1 ks.length (seen ++ [i])) ∧ s'.blk b1 = some (.map (some 3) (esK ks)) ∧ s'.blk b2 = some (.map (some 3) (esK kr)) ∧ s'0.next < s'.next ∧ Ext σ s') ?_ ?_
      · have hx4 : ∀ B B', Ext σ { next := s2.next + 1, blk := fun b => if b = s2.next then some B else if b = s2.next then some B' else s2.blk b } := fun B B' => ext_two hx2
        cases hc : kr.contains [ka, kb, kc]
        · have hf : mfind [ka, kb, kc] (esK kr) = none := by rw [esK_find, hc]; rfl
          first | refine .seq (.rg fun A hA K hK => ?_) | refine .seq (.seq (.rg fun A hA K hK => ?_)) | refine .rg fun A hA K hK => ?_ | refine .seq (.rd fun A hA K hK => ?_) | refine .seq (.seq (.rd fun A hA K hK => ?_)) | refine .rd fun A hA K hK => ?_
          simp (maxSteps := 1000000) only [go_sem, hA.nil, hA.go, hA.yes, hA.noT, hA.noF, hA.skp, h6, hm22, hf, hb8, hkA]
          refine hK _ _ ?_; clear hK K hA A
          refine ⟨by simp (maxSteps := 1000000) only [go_sem], by simp (maxSteps := 1000000) only [go_sem, h4], by simp (maxSteps := 1000000) only [go_sem, h6], by simp (maxSteps := 1000000) only [go_sem, h33], ?_, ?_, ?_, by simp only; omega, hx4 _ _⟩
          · simp only; rw [if_neg (by omega), if_neg (by omega)]; exact hit2
          · simp only; rw [if_neg (by omega), if_neg (by omega)]; exact hm12
          · simp only; rw [if_neg (by omega), if_neg (by omega)]; exact hm22
        · have hf : mfind [ka, kb, kc] (esK kr) = some (kr.idxOf [ka, kb, kc]) := by rw [esK_find, hc]; rfl
          first | refine .seq (.rg fun A hA K hK => ?_) | refine .seq (.seq (.rg fun A hA K hK => ?_)) | refine .rg fun A hA K hK => ?_ | refine .seq (.rd fun A hA K hK => ?_) | refine .seq (.seq (.rd fun A hA K hK => ?_)) | refine .rd fun A hA K hK => ?_
          simp (maxSteps := 1000000) only [go_sem, hA.nil, hA.go, hA.yes, hA.noT, hA.noF, hA.skp, h6, hm22, hf, hb8, hkA, esK_get _ _ hc]
          refine hK _ _ ?_; clear hK K hA A
          refine ⟨by simp (maxSteps := 1000000) only [go_sem], by simp (maxSteps := 1000000) only [go_sem, h4], by simp (maxSteps := 1000000) only [go_sem, h6], by simp (maxSteps := 1000000) only [go_sem, h33], ?_, ?_, ?_, by simp only; omega, hx4 _ _⟩
          · simp only; rw [if_neg (by omega), if_neg (by omega)]; exact hit2
          · simp only; rw [if_neg (by omega), if_neg (by omega)]; exact hm12
          · simp only; rw [if_neg (by omega), if_neg (by omega)]; exact hm22
      rintro F' s4 ⟨h10, h4, h6, h33, hit, hm1, hm2, hnx, hx⟩
      first | refine .seq (.rg fun A hA K hK => ?_) | refine .seq (.seq (.rg fun A hA K hK => ?_)) | refine .rg fun A hA K hK => ?_ | refine .seq (.rd fun A hA K hK => ?_) | refine .seq (.seq (.rd fun A hA K hK => ?_)) | refine .rd fun A hA K hK => ?_
      simp (maxSteps := 1000000) only [go_sem, hA.nil, hA.go, hA.yes, hA.noT, hA.noF, hA.skp, h10]
      refine hK _ _ ?_; clear hK K hA A
      refine .cond (t := !kr.contains [ka, kb, kc]) (by simp (maxSteps := 1000000) only [go_sem]) (fun ht => ?_) (fun ht => .skip ?_)
      · have hw : pairsC l = 22 := by
          rw [hP, if_pos]
          refine List.any_eq_true.2 ⟨ks[i], List.getElem_mem hi, ?_⟩
          rw [List.getD_eq_getElem?_getD, List.getElem?_eq_getElem hi] at hk
          simp only [Option.getD_some] at hk
          rw [hk]; exact ht
        first | refine .seq (.rg fun A hA K hK => ?_) | refine .seq (.seq (.rg fun A hA K hK => ?_)) | refine .rg fun A hA K hK => ?_ | refine .seq (.rd fun A hA K hK => ?_) | refine .seq (.seq (.rd fun A hA K hK => ?_)) | refine .rd fun A hA K hK => ?_
        simp (maxSteps := 1000000) only [go_sem, hA.nil, hA.go, hA.yes, hA.noT, hA.noF, hA.skp]
        refine hK _ _ ?_; clear hK K hA A
        exact .ret (ret1b (by simp (maxSteps := 1000000) only [go_sem, hw]) wf hx.2 (.int _ _))
      · have hc : kr.contains [ka, kb, kc] = true := by
          cases h : kr.contains [ka, kb, kc]
          · rw [h] at ht; cases ht
          · rfl
        refine ⟨_, countP_lt (fun x _ h => ?_) (List.mem_range.2 hi) (by simpa using hni) (by simp), seen ++ [i], rfl, by simp (maxSteps := 1000000) only [go_sem, h4], by simp (maxSteps := 1000000) only [go_sem, h6], by simp (maxSteps := 1000000) only [go_sem, h33], hit, hm1, hm2, hnx, hx, fun k hk' => ?_⟩
        · simp at h ⊢; exact h.1
        · rcases List.mem_append.1 hk' with h | h
          · exact hj k h
          · have := List.mem_singleton.1 h
            subst this
            rw [hk]; exact hc

end Go.Proofs.Ytfjbabacpnnjmaa.Av
