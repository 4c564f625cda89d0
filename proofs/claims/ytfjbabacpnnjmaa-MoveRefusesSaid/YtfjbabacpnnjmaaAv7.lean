/- A logic of small values, and walks in it: code.ends: a kind's messages as a map. code.Pairs. Both ways of judging pairs come to the same. law18.same holds of any programs. code.own and what it calls; there, Room. -/
import Derived.Test.YtfjbabacpnnjmaaAv6
set_option linter.unusedVariables false
set_option linter.unusedSimpArgs false
set_option linter.deprecated false
namespace Go.Proofs.Ytfjbabacpnnjmaa.Av
open Go Go.Av
set_option maxRecDepth 20000
set_option maxHeartbeats 4000000

attribute [local go_sem] step_apply
attribute [local go_sem] instr0 instr1 instr2 instr10 instr11 instr12 instrN instrA instr_len node0 node1 node2 node3 node4 node5 node6 nodeA node_len getD_drop List.length_drop splice List.nil_append List.append_nil cond_true cond_false List.set_cons_zero List.length_set aopq aop ev put_some put_none upd_apply abin asNat bounds row1 mk I ints progA progsA List.length_cons List.length_nil List.length_map List.drop_zero List.drop_succ_cons List.drop_nil List.getD_cons_zero List.getD_cons_succ Option.getD_none Option.getD_some
  List.take_succ_cons List.take_zero List.take_nil true_and and_true Int.toNat_natCast if_true if_false Nat.zero_add Nat.add_zero List.map_cons List.map_nil Nat.reduceEqDiff Nat.left_eq_add Nat.add_eq_left Nat.add_left_cancel_iff Nat.add_assoc Nat.reduceSub Nat.reduceAdd Nat.reduceLeDiff Nat.le_refl Nat.zero_le Nat.zero_lt_one Nat.lt_add_one Int.reduceLT Int.reduceLE Int.reduceToNat Nat.reduceLT Nat.reduceBEq Bool.false_eq_true Nat.reduceBNe ne_eq not_false_eq_true not_true_eq_false false_and and_false reduceIte Int.natCast_nonneg reduceCtorEq parts_agg parts_bool parts_int parts_str parts_lit parts_nils parts_sl parts_ptr Int.natCast_nonneg Int.natCast_nonneg beq_self_eq_true bne_self_eq_false St.push St.set St.kill Bool.true_and Bool.false_and Bool.and_true Bool.and_false Bool.true_or Bool.false_or Bool.or_true Bool.or_false Bool.not_true Bool.not_false


abbrev Key := List Int
def esK (ks : List Key) : List (Key × AV) := ks.map fun k => (k, .agg [])
theorem esK_find (k : Key) (ks : List Key) : mfind k (esK ks) = if ks.contains k = true then some (ks.idxOf k) else none := by
  induction ks with
  | nil => rfl
  | cons x xs ih =>
    simp only [esK, List.map_cons, mfind] at ih ⊢
    by_cases h : x = k
    · subst h; simp
    · have h' : ¬ k = x := fun e => h e.symm
      rw [if_neg h, ih, List.idxOf_cons]
      simp only [List.contains_cons, beq_eq_false_iff_ne.2 h', Bool.false_or]
      have h2 : (x == k) = false := by simpa using h
      split <;> simp [h2]
theorem esK_get (k : Key) (ks : List Key) (h : ks.contains k = true) : ((esK ks).getD (ks.idxOf k) ([], .undef)).2 = .agg [] := by
  have h1 : ks.idxOf k < ks.length := List.idxOf_lt_length_iff.2 (by simpa using h)
  simp [esK, List.getD_eq_getElem?_getD, h1]
theorem esK_set (k : Key) (ks : List Key) (h : ks.contains k = true) : (esK ks).set (ks.idxOf k) (k, .agg []) = esK ks := by
  have h1 : ks.idxOf k < ks.length := List.idxOf_lt_length_iff.2 (by simpa using h)
  refine List.ext_getElem (by simp) fun i h2 h3 => ?_
  rw [List.getElem_set]
  split
  · rename_i he; subst he; simp [esK]
  · rfl
theorem esK_snoc (ks : List Key) (k : Key) : esK ks ++ [(k, .agg [])] = esK (ks ++ [k]) := by simp [esK]

def addK (st : List Key × Bool) (k : Key) : List Key × Bool := (if st.1.contains k = true then st.1 else st.1 ++ [k], st.2 && !st.1.contains k)
def keyOf (kind : Int) (d : Nat) (i : Instr) : Key := if (kind == 4) = true then [i.dev, (d : Int), i.tag] else [(d : Int), i.dev, i.tag]
def keyP (kind : Int) (d : Nat) (st : List Key × Bool) (p : List Instr) : List Key × Bool := p.foldl (fun st i => if (i.kind != kind) = true then st else addK st (keyOf kind d i)) st
def endsE (kind : Int) (l : List (List Instr)) (n : Nat) : List Key × Bool := (List.range n).foldl (fun st d => keyP kind d st (l.getD d [])) ([], true)

theorem endsE_succ (kind : Int) (l : List (List Instr)) (n : Nat) : endsE kind l (n + 1) = keyP kind n (endsE kind l n) (l.getD n []) := by
  simp [endsE, List.range_succ]

/-- code.ends -/
theorem ends_spec (l : List (List Instr)) (kind : Int) (σ : St) : TQ Try.prog 65 [progsA l, I kind] σ fun v s => ∃ bm, v = .tup [.map bm, .bool (endsE kind l l.length).2] ∧ s.blk bm = some (.map (some 3) (esK (endsE kind l l.length).1)) ∧ σ.next ≤ bm ∧ bm < s.next ∧ Ext σ s := by
  refine in65 (by simp) fun wf hab => ?_
  obtain ⟨hl, hps⟩ := hab_progs (hab 0 (by simp))
  clear hab
  unfold c65
  first | refine .seq (.rg fun A hA K hK => ?_) | refine .seq (.seq (.rg fun A hA K hK => ?_)) | refine .rg fun A hA K hK => ?_ | refine .seq (.rd fun A hA K hK => ?_) | refine .seq (.seq (.rd fun A hA K hK => ?_)) | refine .rd fun A hA K hK => ?_
  simp (maxSteps := 1000000) only [go_sem, hA.nil, hA.go, hA.yes, hA.noT, hA.noF, hA.skp]
  refine hK _ _ ?_; clear hK K hA A
  first | refine .seq (.rg fun A hA K hK => ?_) | refine .seq (.seq (.rg fun A hA K hK => ?_)) | refine .rg fun A hA K hK => ?_ | refine .seq (.rd fun A hA K hK => ?_) | refine .seq (.seq (.rd fun A hA K hK => ?_)) | refine .rd fun A hA K hK => ?_
  simp (maxSteps := 1000000) only [go_sem, hA.nil, hA.go, hA.yes, hA.noT, hA.noF, hA.skp]
  refine hK _ _ ?_; clear hK K hA A
  have hx0 : Ext σ { next := σ.next + 1, blk := fun b => if b = σ.next then some (Blk.map (some 3) []) else σ.blk b } := by
    refine ⟨by simp, fun b hb => ?_⟩
    simp only
    rw [if_neg (by omega)]
  first | refine .seq (.rg fun A hA K hK => ?_) | refine .seq (.seq (.rg fun A hA K hK => ?_)) | refine .rg fun A hA K hK => ?_ | refine .seq (.rd fun A hA K hK => ?_) | refine .seq (.seq (.rd fun A hA K hK => ?_)) | refine .rd fun A hA K hK => ?_
  simp (maxSteps := 1000000) only [go_sem, hA.nil, hA.go, hA.yes, hA.noT, hA.noF, hA.skp]
  refine hK _ _ ?_; clear hK K hA A
  first | refine .seq (.rg fun A hA K hK => ?_) | refine .seq (.seq (.rg fun A hA K hK => ?_)) | refine .rg fun A hA K hK => ?_ | refine .seq (.rd fun A hA K hK => ?_) | refine .seq (.seq (.rd fun A hA K hK => ?_)) | refine .rd fun A hA K hK => ?_
  simp (maxSteps := 1000000) only [go_sem, hA.nil, hA.go, hA.yes, hA.noT, hA.noF, hA.skp]
  refine hK _ _ ?_; clear hK K hA A
  refine .range (N := l.length) (fun i F s => F 1 = I kind ∧ F 6 = .map σ.next ∧ F 7 = .bool (endsE kind l i).2 ∧ F 16 = progsA l ∧ F 17 = I l.length ∧ F 18 = I i ∧ s.blk σ.next = some (.map (some 3) (esK (endsE kind l i).1)) ∧ σ.next < s.next ∧ Ext σ s) hl ?_ ?_ ?_ ?_
  · exact ⟨by simp (maxSteps := 1000000) only [go_sem], by simp (maxSteps := 1000000) only [go_sem], by simp (maxSteps := 1000000) only [go_sem]; try rfl, by simp (maxSteps := 1000000) only [go_sem], by simp (maxSteps := 1000000) only [go_sem], by simp (maxSteps := 1000000) only [go_sem]; try rfl, by simp [endsE, esK], by simp, hx0⟩
  · rintro i F s ⟨_, _, _, _, h1, h2, _⟩
    exact ⟨h2, h1⟩
  · rintro i F s hlt ⟨h1, h6, h7, h16, h17, h18, hm, hnx, hx⟩
    have e1 : (i : Int) < l.length := by omega
    have hp : l[i].length ≤ most := hab_prog (hps _ (List.getElem_mem hlt))
    have hgl : l.getD i [] = l[i] := by simp [List.getD_eq_getElem?_getD, hlt]
    have et := endsE_succ kind l i
    rw [hgl] at et
    first | refine .seq (.rg fun A hA K hK => ?_) | refine .seq (.seq (.rg fun A hA K hK => ?_)) | refine .rg fun A hA K hK => ?_ | refine .seq (.rd fun A hA K hK => ?_) | refine .seq (.seq (.rd fun A hA K hK => ?_)) | refine .rd fun A hA K hK => ?_
    simp (maxSteps := 1000000) only [go_sem, hA.nil, hA.go, hA.yes, hA.noT, hA.noF, hA.skp, h16, h18, progs_get' hlt, e1]
    refine hK _ _ ?_; clear hK K hA A
    first | refine .seq (.rg fun A hA K hK => ?_) | refine .seq (.seq (.rg fun A hA K hK => ?_)) | refine .rg fun A hA K hK => ?_ | refine .seq (.rd fun A hA K hK => ?_) | refine .seq (.seq (.rd fun A hA K hK => ?_)) | refine .rd fun A hA K hK => ?_
    simp (maxSteps := 1000000) only [go_sem, hA.nil, hA.go, hA.yes, hA.noT, hA.noF, hA.skp]
    refine hK _ _ ?_; clear hK K hA A
    refine .range (N := l[i].length) (fun n F s => F 1 = I kind ∧ F 6 = .map σ.next ∧ F 7 = .bool (keyP kind i (endsE kind l i) (l[i].take n)).2 ∧ F 8 = I i ∧ F 16 = progsA l ∧ F 17 = I l.length ∧ F 18 = I i ∧ F 23 = progA l[i] ∧ F 24 = I l[i].length ∧ F 25 = I n ∧ s.blk σ.next = some (.map (some 3) (esK (keyP kind i (endsE kind l i) (l[i].take n)).1)) ∧ σ.next < s.next ∧ Ext σ s) hp ?_ ?_ ?_ ?_
    · exact ⟨by simp (maxSteps := 1000000) only [go_sem, h1], by simp (maxSteps := 1000000) only [go_sem, h6], by simp (maxSteps := 1000000) only [go_sem, h7]; try rfl, by simp (maxSteps := 1000000) only [go_sem], by simp (maxSteps := 1000000) only [go_sem, h16], by simp (maxSteps := 1000000) only [go_sem, h17], by simp (maxSteps := 1000000) only [go_sem, h18], by simp (maxSteps := 1000000) only [go_sem], by simp (maxSteps := 1000000) only [go_sem], by simp (maxSteps := 1000000) only [go_sem]; try rfl, hm, hnx, hx⟩
    · rintro n F s ⟨_, _, _, _, _, _, _, _, h1, h2, _⟩
      exact ⟨h2, h1⟩
    · rintro n F s hn ⟨h1, h6, h7, h8, h16, h17, h18, h23, h24, h25, hm, hnx, hx⟩
      have e2 : (n : Int) < l[i].length := by omega
      have et2 : keyP kind i (endsE kind l i) (l[i].take (n + 1)) = if (l[i][n].kind != kind) = true then keyP kind i (endsE kind l i) (l[i].take n) else addK (keyP kind i (endsE kind l i) (l[i].take n)) (keyOf kind i l[i][n]) := foldl_take _ _ l[i] n hn
      generalize keyP kind i (endsE kind l i) (l[i].take n) = st at *
      have q := ext_two (B := .cells 13 [instrL l[i][n]]) (B' := .cells 13 [[I 0, I 0, .lit 1 [], I 0, .lit 1 [], .lit 1 [], .lit 1 [], I 0, I 0, .str ⟨#[]⟩, I 0, I 0, I 0]]) hx
      first | refine .seq (.rg fun A hA K hK => ?_) | refine .seq (.seq (.rg fun A hA K hK => ?_)) | refine .rg fun A hA K hK => ?_ | refine .seq (.rd fun A hA K hK => ?_) | refine .seq (.seq (.rd fun A hA K hK => ?_)) | refine .rd fun A hA K hK => ?_
      simp (maxSteps := 1000000) only [go_sem, hA.nil, hA.go, hA.yes, hA.noT, hA.noF, hA.skp, h23, h25, prog_get hn, e2]
      refine hK _ _ ?_; clear hK K hA A
      generalize hS : ({ next := s.next + 1, blk := _ } : St) = s2
      have hb11 : s2.blk s.next = some (.cells 13 [instrL l[i][n]]) := by subst hS; simp
      have hm2 : s2.blk σ.next = some (.map (some 3) (esK st.1)) := by
        subst hS; simp only; rw [if_neg (by omega), if_neg (by omega)]; exact hm
      have hx2 : Ext σ s2 := by subst hS; exact q
      have hn2 : s.next < s2.next := by subst hS; simp
      clear hS q hx hm
      first | refine .seq (.rg fun A hA K hK => ?_) | refine .seq (.seq (.rg fun A hA K hK => ?_)) | refine .rg fun A hA K hK => ?_ | refine .seq (.rd fun A hA K hK => ?_) | refine .seq (.seq (.rd fun A hA K hK => ?_)) | refine .rd fun A hA K hK => ?_
      simp (maxSteps := 1000000) only [go_sem, hA.nil, hA.go, hA.yes, hA.noT, hA.noF, hA.skp, hb11, h1]
      refine hK _ _ ?_; clear hK K hA A
      refine .cond (t := l[i][n].kind != kind) (by simp (maxSteps := 1000000) only [go_sem]) (fun ht => .exit ?_) (fun ht => .skip ?_)
      · rw [if_pos ht] at et2
        simp only [thenQ, roundQ, if_true]
        rw [et2]
        exact ⟨by simp (maxSteps := 1000000) only [go_sem, h25], by simp (maxSteps := 1000000) only [go_sem, h1], by simp (maxSteps := 1000000) only [go_sem, h6], by simp (maxSteps := 1000000) only [go_sem, h7], by simp (maxSteps := 1000000) only [go_sem, h8], by simp (maxSteps := 1000000) only [go_sem, h16], by simp (maxSteps := 1000000) only [go_sem, h17], by simp (maxSteps := 1000000) only [go_sem, h18], by simp (maxSteps := 1000000) only [go_sem, h23], by simp (maxSteps := 1000000) only [go_sem, h24], by simp (maxSteps := 1000000) only [go_sem], hm2, by omega, hx2⟩
      rw [if_neg (by rw [ht]; simp)] at et2
      first | refine .seq (.rg fun A hA K hK => ?_) | refine .seq (.seq (.rg fun A hA K hK => ?_)) | refine .rg fun A hA K hK => ?_ | refine .seq (.rd fun A hA K hK => ?_) | refine .seq (.seq (.rd fun A hA K hK => ?_)) | refine .rd fun A hA K hK => ?_
      simp (maxSteps := 1000000) only [go_sem, hA.nil, hA.go, hA.yes, hA.noT, hA.noF, hA.skp, hb11, h8, fillA, List.cons_append]
      refine hK _ _ ?_; clear hK K hA A
      refine .mid (fun F' s' => F' 12 = .ptr s2.next 0 0 ∧ s'.blk s2.next = some (.cells 3 [(keyOf kind i l[i][n]).map I]) ∧ F' 1 = I kind ∧ F' 6 = .map σ.next ∧ F' 7 = .bool st.2 ∧ F' 8 = I i ∧ F' 16 = progsA l ∧ F' 17 = I l.length ∧ F' 18 = I i ∧ F' 23 = progA l[i] ∧ F' 24 = I l[i].length ∧ F' 25 = I n ∧ s'.blk σ.next = some (.map (some 3) (esK st.1)) ∧ s2.next < s'.next ∧ Ext σ s') ?_ ?_
      · have hx3 : ∀ B B', Ext σ { next := s2.next + 1, blk := fun b => if b = s2.next then some B else if b = s2.next then some B' else s2.blk b } := fun B B' => ext_two hx2
        have hx4 : ∀ B B' B'', Ext σ { next := s2.next + 1, blk := fun b => if b = s2.next then some B'' else if b = s2.next then some B else if b = s2.next then some B' else s2.blk b } := by
          intro B B' B''
          refine ⟨(hx3 B B').1, fun b hb => ?_⟩
          have := (hx3 B B').2 b hb
          have h1 := hx2.1
          simp only at this ⊢
          rw [if_neg (by omega)]; exact this
        have hne : ¬ s.next = s2.next := by omega
        first | refine .seq (.rg fun A hA K hK => ?_) | refine .seq (.seq (.rg fun A hA K hK => ?_)) | refine .rg fun A hA K hK => ?_ | refine .seq (.rd fun A hA K hK => ?_) | refine .seq (.seq (.rd fun A hA K hK => ?_)) | refine .rd fun A hA K hK => ?_
        simp (maxSteps := 1000000) only [go_sem, hA.nil, hA.go, hA.yes, hA.noT, hA.noF, hA.skp, h1]
        refine hK _ _ ?_; clear hK K hA A
        refine .cond (t := kind == 4) (by simp (maxSteps := 1000000) only [go_sem]) (fun h4 => ?_) (fun h4 => .skip ?_)
        · first | refine .seq (.rg fun A hA K hK => ?_) | refine .seq (.seq (.rg fun A hA K hK => ?_)) | refine .rg fun A hA K hK => ?_ | refine .seq (.rd fun A hA K hK => ?_) | refine .seq (.seq (.rd fun A hA K hK => ?_)) | refine .rd fun A hA K hK => ?_
          simp (maxSteps := 1000000) only [go_sem, hA.nil, hA.go, hA.yes, hA.noT, hA.noF, hA.skp, hb11, h8, hne, fillA, List.cons_append]
          refine hK _ _ ?_; clear hK K hA A
          refine ⟨by simp (maxSteps := 1000000) only [go_sem], ?_, by simp (maxSteps := 1000000) only [go_sem, h1], by simp (maxSteps := 1000000) only [go_sem, h6], by simp (maxSteps := 1000000) only [go_sem, h7], by simp (maxSteps := 1000000) only [go_sem, h8], by simp (maxSteps := 1000000) only [go_sem, h16], by simp (maxSteps := 1000000) only [go_sem, h17], by simp (maxSteps := 1000000) only [go_sem, h18], by simp (maxSteps := 1000000) only [go_sem, h23], by simp (maxSteps := 1000000) only [go_sem, h24], by simp (maxSteps := 1000000) only [go_sem, h25], ?_, by simp, hx4 _ _ _⟩
          · rw [keyOf, if_pos h4]; simp
          · simp only; rw [if_neg (by omega), if_neg (by omega), if_neg (by omega)]; exact hm2
        · refine ⟨by simp (maxSteps := 1000000) only [go_sem], ?_, by simp (maxSteps := 1000000) only [go_sem, h1], by simp (maxSteps := 1000000) only [go_sem, h6], by simp (maxSteps := 1000000) only [go_sem, h7], by simp (maxSteps := 1000000) only [go_sem, h8], by simp (maxSteps := 1000000) only [go_sem, h16], by simp (maxSteps := 1000000) only [go_sem, h17], by simp (maxSteps := 1000000) only [go_sem, h18], by simp (maxSteps := 1000000) only [go_sem, h23], by simp (maxSteps := 1000000) only [go_sem, h24], by simp (maxSteps := 1000000) only [go_sem, h25], ?_, by simp, hx3 _ _⟩
          · rw [keyOf, if_neg (by rw [h4]; simp)]; simp
          · simp only; rw [if_neg (by omega), if_neg (by omega)]; exact hm2
      rintro F' s3 ⟨h12, hb12, h1, h6, h7, h8, h16, h17, h18, h23, h24, h25, hm3, hn3, hx3⟩
      have hkey : ∃ a b c, keyOf kind i l[i][n] = [a, b, c] := by
        unfold keyOf; split <;> exact ⟨_, _, _, rfl⟩
      obtain ⟨ka, kb, kc, hk⟩ := hkey
      rw [hk] at hb12 et2
      simp only [List.map_cons, List.map_nil] at hb12
      have hkA : kA (some 3) (.agg [I ka, I kb, I kc]) = some [ka, kb, kc] := rfl
      refine .mid (fun F' s' => F' 14 = .bool (st.1.contains [ka, kb, kc]) ∧ F' 12 = .ptr s2.next 0 0 ∧ s'.blk s2.next = some (.cells 3 [[I ka, I kb, I kc]]) ∧ F' 1 = I kind ∧ F' 6 = .map σ.next ∧ F' 7 = .bool st.2 ∧ F' 8 = I i ∧ F' 16 = progsA l ∧ F' 17 = I l.length ∧ F' 18 = I i ∧ F' 23 = progA l[i] ∧ F' 24 = I l[i].length ∧ F' 25 = I n ∧ s'.blk σ.next = some (.map (some 3) (esK st.1)) ∧ s2.next < s'.next ∧ Ext σ s') ?_ ?_
      · have hx4 : ∀ B B', Ext σ { next := s3.next + 1, blk := fun b => if b = s3.next then some B else if b = s3.next then some B' else s3.blk b } := fun B B' => ext_two hx3
        cases hc : st.1.contains [ka, kb, kc]
        · have hf : mfind [ka, kb, kc] (esK st.1) = none := by rw [esK_find, hc]; rfl
          first | refine .seq (.rg fun A hA K hK => ?_) | refine .seq (.seq (.rg fun A hA K hK => ?_)) | refine .rg fun A hA K hK => ?_ | refine .seq (.rd fun A hA K hK => ?_) | refine .seq (.seq (.rd fun A hA K hK => ?_)) | refine .rd fun A hA K hK => ?_
          simp (maxSteps := 1000000) only [go_sem, hA.nil, hA.go, hA.yes, hA.noT, hA.noF, hA.skp, h6, hm3, hf, h12, hb12, hkA]
          refine hK _ _ ?_; clear hK K hA A
          refine ⟨by simp (maxSteps := 1000000) only [go_sem], by simp (maxSteps := 1000000) only [go_sem, h12], ?_, by simp (maxSteps := 1000000) only [go_sem, h1], by simp (maxSteps := 1000000) only [go_sem, h6], by simp (maxSteps := 1000000) only [go_sem, h7], by simp (maxSteps := 1000000) only [go_sem, h8], by simp (maxSteps := 1000000) only [go_sem, h16], by simp (maxSteps := 1000000) only [go_sem, h17], by simp (maxSteps := 1000000) only [go_sem, h18], by simp (maxSteps := 1000000) only [go_sem, h23], by simp (maxSteps := 1000000) only [go_sem, h24], by simp (maxSteps := 1000000) only [go_sem, h25], ?_, by simp only; omega, hx4 _ _⟩
          · simp only; rw [if_neg (by omega), if_neg (by omega)]; exact hb12
          · simp only; rw [if_neg (by omega), if_neg (by omega)]; exact hm3
        · have hf : mfind [ka, kb, kc] (esK st.1) = some (st.1.idxOf [ka, kb, kc]) := by rw [esK_find, hc]; rfl
          first | refine .seq (.rg fun A hA K hK => ?_) | refine .seq (.seq (.rg fun A hA K hK => ?_)) | refine .rg fun A hA K hK => ?_ | refine .seq (.rd fun A hA K hK => ?_) | refine .seq (.seq (.rd fun A hA K hK => ?_)) | refine .rd fun A hA K hK => ?_
          simp (maxSteps := 1000000) only [go_sem, hA.nil, hA.go, hA.yes, hA.noT, hA.noF, hA.skp, h6, hm3, hf, h12, hb12, hkA, esK_get _ _ hc]
          refine hK _ _ ?_; clear hK K hA A
          refine ⟨by simp (maxSteps := 1000000) only [go_sem], by simp (maxSteps := 1000000) only [go_sem, h12], ?_, by simp (maxSteps := 1000000) only [go_sem, h1], by simp (maxSteps := 1000000) only [go_sem, h6], by simp (maxSteps := 1000000) only [go_sem, h7], by simp (maxSteps := 1000000) only [go_sem, h8], by simp (maxSteps := 1000000) only [go_sem, h16], by simp (maxSteps := 1000000) only [go_sem, h17], by simp (maxSteps := 1000000) only [go_sem, h18], by simp (maxSteps := 1000000) only [go_sem, h23], by simp (maxSteps := 1000000) only [go_sem, h24], by simp (maxSteps := 1000000) only [go_sem, h25], ?_, by simp only; omega, hx4 _ _⟩
          · simp only; rw [if_neg (by omega), if_neg (by omega)]; exact hb12
          · simp only; rw [if_neg (by omega), if_neg (by omega)]; exact hm3
      rintro F' s4 ⟨h14, h12, hb12, h1, h6, h7, h8, h16, h17, h18, h23, h24, h25, hm4, hn4, hx4⟩
      refine .mid (fun F' s' => F' 7 = .bool (st.2 && !st.1.contains [ka, kb, kc]) ∧ F' 12 = .ptr s2.next 0 0 ∧ F' 1 = I kind ∧ F' 6 = .map σ.next ∧ F' 8 = I i ∧ F' 16 = progsA l ∧ F' 17 = I l.length ∧ F' 18 = I i ∧ F' 23 = progA l[i] ∧ F' 24 = I l[i].length ∧ F' 25 = I n ∧ s' = s4) ?_ ?_
      · first | refine .seq (.rg fun A hA K hK => ?_) | refine .seq (.seq (.rg fun A hA K hK => ?_)) | refine .rg fun A hA K hK => ?_ | refine .seq (.rd fun A hA K hK => ?_) | refine .seq (.seq (.rd fun A hA K hK => ?_)) | refine .rd fun A hA K hK => ?_
        simp (maxSteps := 1000000) only [go_sem, hA.nil, hA.go, hA.yes, hA.noT, hA.noF, hA.skp, h7, h14]
        refine hA.cut (b := st.2) (by simp (maxSteps := 1000000) only [go_sem]) (fun hs => ?_) (fun hs => ?_)
        · simp (maxSteps := 1000000) only [go_sem, hA.nil, hA.go, hA.yes, hA.noT, hA.noF, hA.skp, h7, h14, hs]
          exact hK _ _ ⟨by simp (maxSteps := 1000000) only [go_sem, hs], by simp (maxSteps := 1000000) only [go_sem, h12], by simp (maxSteps := 1000000) only [go_sem, h1], by simp (maxSteps := 1000000) only [go_sem, h6], by simp (maxSteps := 1000000) only [go_sem, h8], by simp (maxSteps := 1000000) only [go_sem, h16], by simp (maxSteps := 1000000) only [go_sem, h17], by simp (maxSteps := 1000000) only [go_sem, h18], by simp (maxSteps := 1000000) only [go_sem, h23], by simp (maxSteps := 1000000) only [go_sem, h24], by simp (maxSteps := 1000000) only [go_sem, h25], rfl⟩
        · simp (maxSteps := 1000000) only [go_sem, hA.nil, hA.go, hA.yes, hA.noT, hA.noF, hA.skp, h7, h14, hs]
          exact hK _ _ ⟨by simp (maxSteps := 1000000) only [go_sem, hs], by simp (maxSteps := 1000000) only [go_sem, h12], by simp (maxSteps := 1000000) only [go_sem, h1], by simp (maxSteps := 1000000) only [go_sem, h6], by simp (maxSteps := 1000000) only [go_sem, h8], by simp (maxSteps := 1000000) only [go_sem, h16], by simp (maxSteps := 1000000) only [go_sem, h17], by simp (maxSteps := 1000000) only [go_sem, h18], by simp (maxSteps := 1000000) only [go_sem, h23], by simp (maxSteps := 1000000) only [go_sem, h24], by simp (maxSteps := 1000000) only [go_sem, h25], rfl⟩
      rintro F' s5 ⟨h7, h12, h1, h6, h8, h16, h17, h18, h23, h24, h25, rfl⟩
      cases hc : st.1.contains [ka, kb, kc]
      · have hf : mfind [ka, kb, kc] (esK st.1) = none := by rw [esK_find, hc]; rfl
        simp only [addK, hc, if_false, Bool.false_eq_true] at et2
        rw [hc] at h7
        first | refine .seq (.rg fun A hA K hK => ?_) | refine .seq (.seq (.rg fun A hA K hK => ?_)) | refine .rg fun A hA K hK => ?_ | refine .seq (.rd fun A hA K hK => ?_) | refine .seq (.seq (.rd fun A hA K hK => ?_)) | refine .rd fun A hA K hK => ?_
        simp (maxSteps := 1000000) only [go_sem, hA.nil, hA.go, hA.yes, hA.noT, hA.noF, hA.skp, h6, hm4, hf, h12, hb12, hkA]
        refine hK _ _ ?_; clear hK K hA A
        simp only [roundQ]
        rw [et2]
        exact ⟨by simp (maxSteps := 1000000) only [go_sem, h25], by simp (maxSteps := 1000000) only [go_sem, h1], by simp (maxSteps := 1000000) only [go_sem, h6], by simp (maxSteps := 1000000) only [go_sem, h7], by simp (maxSteps := 1000000) only [go_sem, h8], by simp (maxSteps := 1000000) only [go_sem, h16], by simp (maxSteps := 1000000) only [go_sem, h17], by simp (maxSteps := 1000000) only [go_sem, h18], by simp (maxSteps := 1000000) only [go_sem, h23], by simp (maxSteps := 1000000) only [go_sem, h24], by simp (maxSteps := 1000000) only [go_sem], by simp [esK], by omega, hx4.1, fun b hb => by simp only; rw [if_neg (by omega)]; exact hx4.2 b hb⟩
      · have hf : mfind [ka, kb, kc] (esK st.1) = some (st.1.idxOf [ka, kb, kc]) := by rw [esK_find, hc]; rfl
        simp only [addK, hc, if_true] at et2
        rw [hc] at h7
        first | refine .seq (.rg fun A hA K hK => ?_) | refine .seq (.seq (.rg fun A hA K hK => ?_)) | refine .rg fun A hA K hK => ?_ | refine .seq (.rd fun A hA K hK => ?_) | refine .seq (.seq (.rd fun A hA K hK => ?_)) | refine .rd fun A hA K hK => ?_
        simp (maxSteps := 1000000) only [go_sem, hA.nil, hA.go, hA.yes, hA.noT, hA.noF, hA.skp, h6, hm4, hf, h12, hb12, hkA, esK_set _ _ hc]
        refine hK _ _ ?_; clear hK K hA A
        simp only [roundQ]
        rw [et2]
        exact ⟨by simp (maxSteps := 1000000) only [go_sem, h25], by simp (maxSteps := 1000000) only [go_sem, h1], by simp (maxSteps := 1000000) only [go_sem, h6], by simp (maxSteps := 1000000) only [go_sem, h7], by simp (maxSteps := 1000000) only [go_sem, h8], by simp (maxSteps := 1000000) only [go_sem, h16], by simp (maxSteps := 1000000) only [go_sem, h17], by simp (maxSteps := 1000000) only [go_sem, h18], by simp (maxSteps := 1000000) only [go_sem, h23], by simp (maxSteps := 1000000) only [go_sem, h24], by simp (maxSteps := 1000000) only [go_sem], by simp [esK_set _ _ hc], by omega, hx4.1, fun b hb => by simp only; rw [if_neg (by omega)]; exact hx4.2 b hb⟩
    · rintro F s ⟨h1, h6, h7, h8, h16, h17, h18, h23, h24, h25, hm, hnx, hx⟩
      rw [List.take_length, ← et] at h7 hm
      exact ⟨by simp (maxSteps := 1000000) only [go_sem, h18], by simp (maxSteps := 1000000) only [go_sem, h1], by simp (maxSteps := 1000000) only [go_sem, h6], by simp (maxSteps := 1000000) only [go_sem, h7], by simp (maxSteps := 1000000) only [go_sem, h16], by simp (maxSteps := 1000000) only [go_sem, h17], by simp (maxSteps := 1000000) only [go_sem], hm, hnx, hx⟩
  rintro F s ⟨h1, h6, h7, h16, h17, h18, hm, hnx, hx⟩
  first | refine .seq (.rg fun A hA K hK => ?_) | refine .seq (.seq (.rg fun A hA K hK => ?_)) | refine .rg fun A hA K hK => ?_ | refine .seq (.rd fun A hA K hK => ?_) | refine .seq (.seq (.rd fun A hA K hK => ?_)) | refine .rd fun A hA K hK => ?_
  simp (maxSteps := 1000000) only [go_sem, hA.nil, hA.go, hA.yes, hA.noT, hA.noF, hA.skp, h6, h7]
  refine hK _ _ ?_; clear hK K hA A
  exact .ret ⟨_, by simp only [List.mapM_cons, List.mapM_nil, resOne, go_sem, Option.pure_def, Option.bind_eq_bind, Option.bind_some]; rfl, _, s, .refl _ _ _, σ.next, rfl, hm, Nat.le_refl _, hnx, hx⟩

end Go.Proofs.Ytfjbabacpnnjmaa.Av

namespace Go.Proofs.Ytfjbabacpnnjmaa.Av
open Go Go.Av
set_option maxRecDepth 20000
set_option maxHeartbeats 4000000

attribute [local go_sem] step_apply
attribute [local go_sem] instr0 instr1 instr2 instr10 instr11 instr12 instrN instrA instr_len node0 node1 node2 node3 node4 node5 node6 nodeA node_len getD_drop List.length_drop splice List.nil_append List.append_nil cond_true cond_false List.set_cons_zero List.length_set aopq aop ev put_some put_none upd_apply abin asNat bounds row1 mk I ints progA progsA List.length_cons List.length_nil List.length_map List.drop_zero List.drop_succ_cons List.drop_nil List.getD_cons_zero List.getD_cons_succ Option.getD_none Option.getD_some
  List.take_succ_cons List.take_zero List.take_nil true_and and_true Int.toNat_natCast if_true if_false Nat.zero_add Nat.add_zero List.map_cons List.map_nil Nat.reduceEqDiff Nat.left_eq_add Nat.add_eq_left Nat.add_left_cancel_iff Nat.add_assoc Nat.reduceSub Nat.reduceAdd Nat.reduceLeDiff Nat.le_refl Nat.zero_le Nat.zero_lt_one Nat.lt_add_one Int.reduceLT Int.reduceLE Int.reduceToNat Nat.reduceLT Nat.reduceBEq Bool.false_eq_true Nat.reduceBNe ne_eq not_false_eq_true not_true_eq_false false_and and_false reduceIte Int.natCast_nonneg reduceCtorEq parts_agg parts_bool parts_int parts_str parts_lit parts_nils parts_sl parts_ptr Int.natCast_nonneg Int.natCast_nonneg beq_self_eq_true bne_self_eq_false St.push St.set St.kill Bool.true_and Bool.false_and Bool.and_true Bool.and_false Bool.true_or Bool.false_or Bool.or_true Bool.or_false Bool.not_true Bool.not_false


theorem keyP_len {kind : Int} {d : Nat} (p : List Instr) : ∀ (st : List Key × Bool), (∀ x ∈ st.1, x.length = 3) → ∀ x ∈ (keyP kind d st p).1, x.length = 3 := by
  induction p with
  | nil => exact fun st h => h
  | cons i p ih =>
    intro st h
    simp only [keyP, List.foldl_cons]
    refine ih _ ?_
    split
    · exact h
    · intro x hx
      simp only [addK] at hx
      split at hx
      · exact h x hx
      · rcases List.mem_append.1 hx with hx | hx
        · exact h x hx
        · have := List.mem_singleton.1 hx
          subst this
          unfold keyOf; split <;> rfl
theorem endsE_len (kind : Int) (l : List (List Instr)) (n : Nat) : ∀ x ∈ (endsE kind l n).1, x.length = 3 := by
  induction n with
  | zero => simp [endsE]
  | succ n ih => rw [endsE_succ]; exact keyP_len _ _ ih

def pairsC (l : List (List Instr)) : Int :=
  if rightE l ≠ 0 then rightE l else
  if (!(endsE 3 l l.length).2 || !(endsE 4 l l.length).2) = true then 25 else
  if (endsE 3 l l.length).1.any (fun k => !(endsE 4 l l.length).1.contains k) = true then 22 else
  if ((endsE 3 l l.length).1.length : Int) ≠ (endsE 4 l l.length).1.length then 22 else 0

/-- code.Pairs -/
theorem pairs_spec (l : List (List Instr)) (σ : St) : T Try.prog 29 [progsA l] σ (I (pairsC l)) σ := by
  refine in29 (by simp) fun wf hab => ?_
  clear hab
  unfold c29
  first | refine .seq (.rg fun A hA K hK => ?_) | refine .seq (.seq (.rg fun A hA K hK => ?_)) | refine .rg fun A hA K hK => ?_ | refine .seq (.rd fun A hA K hK => ?_) | refine .seq (.seq (.rd fun A hA K hK => ?_)) | refine .rd fun A hA K hK => ?_
  simp (maxSteps := 1000000) only [go_sem, hA.nil, hA.go, hA.yes, hA.noT, hA.noF, hA.skp]
  refine hK _ _ ?_; clear hK K hA A
  first | refine .seq (.rg fun A hA K hK => ?_) | refine .seq (.seq (.rg fun A hA K hK => ?_)) | refine .rg fun A hA K hK => ?_ | refine .seq (.rd fun A hA K hK => ?_) | refine .seq (.seq (.rd fun A hA K hK => ?_)) | refine .rd fun A hA K hK => ?_
  simp (maxSteps := 1000000) only [go_sem, hA.nil, hA.go, hA.yes, hA.noT, hA.noF, hA.skp]
  refine ⟨_, right_spec l _, ?_⟩
  try simp (maxSteps := 1000000) only [go_sem, hA.nil, hA.go]
  refine hK _ _ ?_; clear hK K hA A
  first | refine .seq (.rg fun A hA K hK => ?_) | refine .seq (.seq (.rg fun A hA K hK => ?_)) | refine .rg fun A hA K hK => ?_ | refine .seq (.rd fun A hA K hK => ?_) | refine .seq (.seq (.rd fun A hA K hK => ?_)) | refine .rd fun A hA K hK => ?_
  simp (maxSteps := 1000000) only [go_sem, hA.nil, hA.go, hA.yes, hA.noT, hA.noF, hA.skp]
  refine hK _ _ ?_; clear hK K hA A
  refine .cond (t := _) (by simp (maxSteps := 1000000) only [go_sem]; try rfl) (fun ht => ?_) (fun ht => .skip ?_)
  · have hw : pairsC l = rightE l := by rw [pairsC, if_pos (by simpa using ht)]
    first | refine .seq (.rg fun A hA K hK => ?_) | refine .seq (.seq (.rg fun A hA K hK => ?_)) | refine .rg fun A hA K hK => ?_ | refine .seq (.rd fun A hA K hK => ?_) | refine .seq (.seq (.rd fun A hA K hK => ?_)) | refine .rd fun A hA K hK => ?_
    simp (maxSteps := 1000000) only [go_sem, hA.nil, hA.go, hA.yes, hA.noT, hA.noF, hA.skp]
    refine hK _ _ ?_; clear hK K hA A
    exact .ret (ret1 (by simp (maxSteps := 1000000) only [go_sem, hw]) rfl)
  have hr : rightE l = 0 := by simpa using ht
  have hP : pairsC l = if (!(endsE 3 l l.length).2 || !(endsE 4 l l.length).2) = true then 25 else
      if (endsE 3 l l.length).1.any (fun k => !(endsE 4 l l.length).1.contains k) = true then 22 else
      if ((endsE 3 l l.length).1.length : Int) ≠ (endsE 4 l l.length).1.length then 22 else 0 := by
    rw [pairsC, if_neg (by rw [hr]; simp)]
  first | refine .seq (.rg fun A hA K hK => ?_) | refine .seq (.seq (.rg fun A hA K hK => ?_)) | refine .rg fun A hA K hK => ?_ | refine .seq (.rd fun A hA K hK => ?_) | refine .seq (.seq (.rd fun A hA K hK => ?_)) | refine .rd fun A hA K hK => ?_
  simp (maxSteps := 1000000) only [go_sem, hA.nil, hA.go, hA.yes, hA.noT, hA.noF, hA.skp]
  refine ⟨_, ends_spec l 3 σ, ?_⟩
  rintro v s ⟨b1, rfl, hm1, hb1, hn1, hx⟩
  try simp (maxSteps := 1000000) only [go_sem, hA.nil, hA.go]
  refine hK _ _ ?_; clear hK K hA A
  first | refine .seq (.rg fun A hA K hK => ?_) | refine .seq (.seq (.rg fun A hA K hK => ?_)) | refine .rg fun A hA K hK => ?_ | refine .seq (.rd fun A hA K hK => ?_) | refine .seq (.seq (.rd fun A hA K hK => ?_)) | refine .rd fun A hA K hK => ?_
  simp (maxSteps := 1000000) only [go_sem, hA.nil, hA.go, hA.yes, hA.noT, hA.noF, hA.skp]
  refine ⟨_, ends_spec l 4 s, ?_⟩
  rintro v s2 ⟨b2, rfl, hm2, hb2, hn2, hx2⟩
  try simp (maxSteps := 1000000) only [go_sem, hA.nil, hA.go]
  refine hK _ _ ?_; clear hK K hA A
  have hm1' : s2.blk b1 = some (.map (some 3) (esK (endsE 3 l l.length).1)) := by rw [hx2.2 b1 hn1]; exact hm1
  have hx3 : Ext σ s2 := ⟨Nat.le_trans hx.1 hx2.1, fun b hb => by rw [hx2.2 b (Nat.lt_of_lt_of_le hb hx.1), hx.2 b hb]⟩
  have hn1' : b1 < s2.next := Nat.lt_of_lt_of_le hn1 hx2.1
  clear hm1 hx hx2 hb2 hr ht
  have hl3 := endsE_len 3 l l.length
  generalize endsE 3 l l.length = e1 at *
  generalize endsE 4 l l.length = e2 at *
  obtain ⟨ks, a⟩ := e1
  obtain ⟨kr, b⟩ := e2
  simp only at hP hm1' hm2 hl3
  refine .mid (fun F' s' => F' 4 = .map b1 ∧ F' 6 = .map b2 ∧ (!a || !b) = false ∧ s' = s2) ?_ ?_
  · repeat' (first | (refine hK _ _ ?_; clear hK K hA A) | (refine hA.cut (by simp (maxSteps := 1000000) only [go_sem, *]; with_reducible rfl) (fun hs => ?_) (fun hs => ?_) <;> simp (maxSteps := 1000000) only [go_sem, hA.nil, hA.go, hA.yes, hA.noT, hA.noF, hA.skp, *]) | (refine .seq (.rg fun A hA K hK => ?_); simp (maxSteps := 1000000) only [go_sem, hA.nil, hA.go, hA.yes, hA.noT, hA.noF, hA.skp, *]) | (refine .seq (.seq (.rg fun A hA K hK => ?_)); simp (maxSteps := 1000000) only [go_sem, hA.nil, hA.go, hA.yes, hA.noT, hA.noF, hA.skp, *]) | (refine .rg fun A hA K hK => ?_; simp (maxSteps := 1000000) only [go_sem, hA.nil, hA.go, hA.yes, hA.noT, hA.noF, hA.skp, *]) | (refine .seq (.rd fun A hA K hK => ?_); simp (maxSteps := 1000000) only [go_sem, hA.nil, hA.go, hA.yes, hA.noT, hA.noF, hA.skp, *]) | (refine .seq (.seq (.rd fun A hA K hK => ?_)); simp (maxSteps := 1000000) only [go_sem, hA.nil, hA.go, hA.yes, hA.noT, hA.noF, hA.skp, *]) | (refine .rd fun A hA K hK => ?_; simp (maxSteps := 1000000) only [go_sem, hA.nil, hA.go, hA.yes, hA.noT, hA.noF, hA.skp, *]) | (refine .cond (t := _) (by simp (maxSteps := 1000000) only [go_sem, *]; with_reducible rfl) (fun hs => ?_) (fun hs => ?_) <;> (first | (cases hs; done) | skip)) | (refine .seq (.cond (t := _) (by simp (maxSteps := 1000000) only [go_sem, *]; with_reducible rfl) (fun hs => ?_) (fun hs => ?_)) <;> (first | (cases hs; done) | skip)) | refine .skip ?_ | refine .seq (.block ?_) | refine .block ?_ | refine .exit ?_ | ((first | exact ⟨by simp (maxSteps := 1000000) only [go_sem, *], by simp (maxSteps := 1000000) only [go_sem, *], by simp (maxSteps := 1000000) only [go_sem, *], by first | rfl | trivial⟩ | exact .ret (ret1b (by simp (maxSteps := 1000000) only [go_sem, hP, *]) wf hx3.2 (.int _ _))); done))
  rintro F s'0 ⟨h4, h6, hab, rfl⟩
  rw [if_neg (by rw [hab]; simp)] at hP
  have hlen : (esK ks).length = ks.length := by simp [esK]
  first | refine .seq (.rg fun A hA K hK => ?_) | refine .seq (.seq (.rg fun A hA K hK => ?_)) | refine .rg fun A hA K hK => ?_ | refine .seq (.rd fun A hA K hK => ?_) | refine .seq (.seq (.rd fun A hA K hK => ?_)) | refine .rd fun A hA K hK => ?_
  simp (maxSteps := 1000000) only [go_sem, hA.nil, hA.go, hA.yes, hA.noT, hA.noF, hA.skp, h4, hm1', hlen]
  refine hK _ _ ?_; clear hK K hA A
  refine .block (.loop (fun m F s => ∃ seen : List Nat, m = (List.range ks.length).countP (fun k => !seen.contains k) ∧ F 4 = .map b1 ∧ F 6 = .map b2 ∧ F 33 = .iter s'0.next ∧ s.blk s'0.next = some (.miter b1 ks.length seen) ∧
    s.blk b1 = some (.map (some 3) (esK ks)) ∧ s.blk b2 = some (.map (some 3) (esK kr)) ∧ s'0.next < s.next ∧ Ext σ s ∧ ∀ k ∈ seen, kr.contains (ks.getD k []) = true) _ ⟨[], rfl, by simp (maxSteps := 1000000) only [go_sem, h4], by simp (maxSteps := 1000000) only [go_sem, h6], by simp (maxSteps := 1000000) only [go_sem], by simp, ?_, ?_, by simp, ⟨by have := hx3.1; simp only; omega, fun b hb => ?_⟩, by simp⟩ ?_)
  · simp only; rw [if_neg (by omega)]; exact hm1'
  · simp only; rw [if_neg (by omega)]; exact hm2
  · have := hx3.1
    simp only; rw [if_neg (by omega)]; exact hx3.2 b hb
  · rintro m F s ⟨seen, rfl, h4, h6, h33, hit, hm1, hm2, hnx, hx, hj⟩
    first | refine .seq (.rg fun A hA K hK => ?_) | refine .seq (.seq (.rg fun A hA K hK => ?_)) | refine .rg fun A hA K hK => ?_ | refine .seq (.rd fun A hA K hK => ?_) | refine .seq (.seq (.rd fun A hA K hK => ?_)) | refine .rd fun A hA K hK => ?_
    simp (maxSteps := 1000000) only [go_sem, hA.nil, hA.go, hA.yes, hA.noT, hA.noF, hA.skp, h33, hit, hm1, hlen]
    refine ⟨fun hall => hK _ _ ?_, fun i hi hni => hK _ _ ?_⟩ <;> clear hK K hA A
    · refine .seq (.cond (t := false) (by simp (maxSteps := 1000000) only [go_sem]) (fun h => by cases h) fun _ => .exit ?_)
      have hany : ks.any (fun k => !kr.contains k) = false := by
        rw [List.any_eq_false]
        intro k hk
        obtain ⟨i, hi, rfl⟩ := List.getElem_of_mem hk
        have := hj i (hall i hi)
        rw [List.getD_eq_getElem?_getD, List.getElem?_eq_getElem hi] at this
        simp only [Option.getD_some] at this
        rw [this]; simp
      rw [if_neg (by rw [hany]; simp)] at hP
      simp only [thenQ, blockQ, if_true]
      have hl1 : (esK ks).length = ks.length := by simp [esK]
      have hl2 : (esK kr).length = kr.length := by simp [esK]
      first | refine .seq (.rg fun A hA K hK => ?_) | refine .seq (.seq (.rg fun A hA K hK => ?_)) | refine .rg fun A hA K hK => ?_ | refine .seq (.rd fun A hA K hK => ?_) | refine .seq (.seq (.rd fun A hA K hK => ?_)) | refine .rd fun A hA K hK => ?_
      simp (maxSteps := 1000000) only [go_sem, hA.nil, hA.go, hA.yes, hA.noT, hA.noF, hA.skp, h4, h6, hm1, hm2, hl1, hl2]
      refine hK _ _ ?_; clear hK K hA A
      refine .cond (t := _) (by simp (maxSteps := 1000000) only [go_sem]; try rfl) (fun ht => ?_) (fun ht => .skip ?_)
      · have hw : pairsC l = 22 := by rw [hP, if_pos (by simpa using ht)]
        first | refine .seq (.rg fun A hA K hK => ?_) | refine .seq (.seq (.rg fun A hA K hK => ?_)) | refine .rg fun A hA K hK => ?_ | refine .seq (.rd fun A hA K hK => ?_) | refine .seq (.seq (.rd fun A hA K hK => ?_)) | refine .rd fun A hA K hK => ?_
        simp (maxSteps := 1000000) only [go_sem, hA.nil, hA.go, hA.yes, hA.noT, hA.noF, hA.skp]
        refine hK _ _ ?_; clear hK K hA A
        exact .ret (ret1b (by simp (maxSteps := 1000000) only [go_sem, hw]) wf hx.2 (.int _ _))
      · have hw : pairsC l = 0 := by rw [hP, if_neg (by simpa using ht)]
        first | refine .seq (.rg fun A hA K hK => ?_) | refine .seq (.seq (.rg fun A hA K hK => ?_)) | refine .rg fun A hA K hK => ?_ | refine .seq (.rd fun A hA K hK => ?_) | refine .seq (.seq (.rd fun A hA K hK => ?_)) | refine .rd fun A hA K hK => ?_
        simp (maxSteps := 1000000) only [go_sem, hA.nil, hA.go, hA.yes, hA.noT, hA.noF, hA.skp]
        refine hK _ _ ?_; clear hK K hA A
        exact .ret (ret1b (by simp (maxSteps := 1000000) only [go_sem, hw]) wf hx.2 (.int _ _))
    · refine .seq (.cond (t := true) (by simp (maxSteps := 1000000) only [go_sem]) (fun _ => .skip ?_) (fun h => by cases h))
      refine .block ?_
      have hgl : (seen ++ [i]).getLast? = some i := by simp
      have hk3 : ∃ a b c, ks.getD i [] = [a, b, c] := by
        have : (ks.getD i []).length = 3 := hl3 _ (by rw [List.getD_eq_getElem?_getD, List.getElem?_eq_getElem hi]; exact List.getElem_mem hi)
        match ks.getD i [], this with
        | [a, b, c], _ => exact ⟨a, b, c, rfl⟩
      obtain ⟨ka, kb, kc, hk⟩ := hk3
      have hes : (esK ks).getD i ([], .undef) = ([ka, kb, kc], .agg []) := by
        rw [← hk]; simp [esK, List.getD_eq_getElem?_getD, hi]
      have hne1 : ¬ b1 = s'0.next := by omega
      have hne2 : ¬ b2 = s'0.next := by omega
      have hxs : Ext σ { next := s.next, blk := fun b' => if b' = s'0.next then some (Blk.miter b1 ks.length (seen ++ [i])) else s.blk b' } := by
        refine ⟨hx.1, fun b hb => ?_⟩
        have := hx3.1
        simp only; rw [if_neg (by omega)]; exact hx.2 b hb
      first | refine .seq (.rg fun A hA K hK => ?_) | refine .seq (.seq (.rg fun A hA K hK => ?_)) | refine .rg fun A hA K hK => ?_ | refine .seq (.rd fun A hA K hK => ?_) | refine .seq (.seq (.rd fun A hA K hK => ?_)) | refine .rd fun A hA K hK => ?_
      simp (maxSteps := 1000000) only [go_sem, hA.nil, hA.go, hA.yes, hA.noT, hA.noF, hA.skp, h33, hm1, hgl, hes, hlen, hi, hne1, keyA]
      refine hK _ _ ?_; clear hK K hA A
      generalize hS : ({ next := s.next + 1, blk := _ } : St) = s2
      have hb8 : s2.blk s.next = some (.cells 3 [[I ka, I kb, I kc]]) := by subst hS; simp
      have hit2 : s2.blk s'0.next = some (.miter b1 ks.length (seen ++ [i])) := by
        subst hS; simp only; rw [if_neg (by omega), if_neg (by omega)]; simp
      have hm12 : s2.blk b1 = some (.map (some 3) (esK ks)) := by
        subst hS; simp only; rw [if_neg (by omega), if_neg (by omega), if_neg hne1]; exact hm1
      have hm22 : s2.blk b2 = some (.map (some 3) (esK kr)) := by
        subst hS; simp only; rw [if_neg (by omega), if_neg (by omega), if_neg hne2]; exact hm2
      have hn2' : s.next < s2.next := by subst hS; simp
      have hx2 : Ext σ s2 := by
        subst hS
        refine ⟨by have := hx.1; simp only; omega, fun b hb => ?_⟩
        have := hx.1
        have h2 := hxs.2 b hb
        simp only at h2 ⊢
        rw [if_neg (by omega), if_neg (by omega)]; exact h2
      clear hS hxs hx hm1 hm2 hit
      have hkA : kA (some 3) (.agg [I ka, I kb, I kc]) = some [ka, kb, kc] := rfl
      refine .mid (fun F' s' => F' 10 = .bool (kr.contains [ka, kb, kc]) ∧ F' 4 = .map b1 ∧ F' 6 = .map b2 ∧ F' 33 = .iter s'0.next ∧ s'.blk s'0.next = some (.miter b1 ks.length (seen ++ [i])) ∧ s'.blk b1 = some (.map (some 3) (esK ks)) ∧ s'.blk b2 = some (.map (some 3) (esK kr)) ∧ s'0.next < s'.next ∧ Ext σ s') ?_ ?_
      · have hx4 : ∀ B B', Ext σ { next := s2.next + 1, blk := fun b => if b = s2.next then some B else if b = s2.next then some B' else s2.blk b } := fun B B' => ext_two hx2
        cases hc : kr.contains [ka, kb, kc]
        · have hf : mfind [ka, kb, kc] (esK kr) = none := by rw [esK_find, hc]; rfl
          first | refine .seq (.rg fun A hA K hK => ?_) | refine .seq (.seq (.rg fun A hA K hK => ?_)) | refine .rg fun A hA K hK => ?_ | refine .seq (.rd fun A hA K hK => ?_) | refine .seq (.seq (.rd fun A hA K hK => ?_)) | refine .rd fun A hA K hK => ?_
          simp (maxSteps := 1000000) only [go_sem, hA.nil, hA.go, hA.yes, hA.noT, hA.noF, hA.skp, h6, hm22, hf, hb8, hkA]
          refine hK _ _ ?_; clear hK K hA A
          refine ⟨by simp (maxSteps := 1000000) only [go_sem], by simp (maxSteps := 1000000) only [go_sem, h4], by simp (maxSteps := 1000000) only [go_sem, h6], by simp (maxSteps := 1000000) only [go_sem, h33], ?_, ?_, ?_, by simp only; omega, hx4 _ _⟩
          · simp only; rw [if_neg (by omega), if_neg (by omega)]; exact hit2
          · simp only; rw [if_neg (by omega), if_neg (by omega)]; exact hm12
          · simp only; rw [if_neg (by omega), if_neg (by omega)]; exact hm22
        · have hf : mfind [ka, kb, kc] (esK kr) = some (kr.idxOf [ka, kb, kc]) := by rw [esK_find, hc]; rfl
          first | refine .seq (.rg fun A hA K hK => ?_) | refine .seq (.seq (.rg fun A hA K hK => ?_)) | refine .rg fun A hA K hK => ?_ | refine .seq (.rd fun A hA K hK => ?_) | refine .seq (.seq (.rd fun A hA K hK => ?_)) | refine .rd fun A hA K hK => ?_
          simp (maxSteps := 1000000) only [go_sem, hA.nil, hA.go, hA.yes, hA.noT, hA.noF, hA.skp, h6, hm22, hf, hb8, hkA, esK_get _ _ hc]
          refine hK _ _ ?_; clear hK K hA A
          refine ⟨by simp (maxSteps := 1000000) only [go_sem], by simp (maxSteps := 1000000) only [go_sem, h4], by simp (maxSteps := 1000000) only [go_sem, h6], by simp (maxSteps := 1000000) only [go_sem, h33], ?_, ?_, ?_, by simp only; omega, hx4 _ _⟩
          · simp only; rw [if_neg (by omega), if_neg (by omega)]; exact hit2
          · simp only; rw [if_neg (by omega), if_neg (by omega)]; exact hm12
          · simp only; rw [if_neg (by omega), if_neg (by omega)]; exact hm22
      rintro F' s4 ⟨h10, h4, h6, h33, hit, hm1, hm2, hnx, hx⟩
      first | refine .seq (.rg fun A hA K hK => ?_) | refine .seq (.seq (.rg fun A hA K hK => ?_)) | refine .rg fun A hA K hK => ?_ | refine .seq (.rd fun A hA K hK => ?_) | refine .seq (.seq (.rd fun A hA K hK => ?_)) | refine .rd fun A hA K hK => ?_
      simp (maxSteps := 1000000) only [go_sem, hA.nil, hA.go, hA.yes, hA.noT, hA.noF, hA.skp, h10]
      refine hK _ _ ?_; clear hK K hA A
      refine .cond (t := !kr.contains [ka, kb, kc]) (by simp (maxSteps := 1000000) only [go_sem]) (fun ht => ?_) (fun ht => .skip ?_)
      · have hw : pairsC l = 22 := by
          rw [hP, if_pos]
          refine List.any_eq_true.2 ⟨ks[i], List.getElem_mem hi, ?_⟩
          rw [List.getD_eq_getElem?_getD, List.getElem?_eq_getElem hi] at hk
          simp only [Option.getD_some] at hk
          rw [hk]; exact ht
        first | refine .seq (.rg fun A hA K hK => ?_) | refine .seq (.seq (.rg fun A hA K hK => ?_)) | refine .rg fun A hA K hK => ?_ | refine .seq (.rd fun A hA K hK => ?_) | refine .seq (.seq (.rd fun A hA K hK => ?_)) | refine .rd fun A hA K hK => ?_
        simp (maxSteps := 1000000) only [go_sem, hA.nil, hA.go, hA.yes, hA.noT, hA.noF, hA.skp]
        refine hK _ _ ?_; clear hK K hA A
        exact .ret (ret1b (by simp (maxSteps := 1000000) only [go_sem, hw]) wf hx.2 (.int _ _))
      · have hc : kr.contains [ka, kb, kc] = true := by
          cases h : kr.contains [ka, kb, kc]
          · rw [h] at ht; cases ht
          · rfl
        refine ⟨_, countP_lt (fun x _ h => ?_) (List.mem_range.2 hi) (by simpa using hni) (by simp), seen ++ [i], rfl, by simp (maxSteps := 1000000) only [go_sem, h4], by simp (maxSteps := 1000000) only [go_sem, h6], by simp (maxSteps := 1000000) only [go_sem, h33], hit, hm1, hm2, hnx, hx, fun k hk' => ?_⟩
        · simp at h ⊢; exact h.1
        · rcases List.mem_append.1 hk' with h | h
          · exact hj k h
          · have := List.mem_singleton.1 h
            subst this
            rw [hk]; exact hc

end Go.Proofs.Ytfjbabacpnnjmaa.Av

namespace Go.Proofs.Ytfjbabacpnnjmaa.Av
open Go Go.Av

def keyL (kind : Int) (d : Nat) (p : List Instr) : List Key := (p.filter fun i => i.kind == kind).map (keyOf kind d)
def keysN (kind : Int) (l : List (List Instr)) (n : Nat) : List Key := (List.range n).flatMap fun d => keyL kind d (l.getD d [])
theorem keysN_succ (kind : Int) (l : List (List Instr)) (n : Nat) : keysN kind l (n + 1) = keysN kind l n ++ keyL kind n (l.getD n []) := by
  simp [keysN, List.range_succ]

theorem keyP_eq (kind : Int) (d : Nat) (p : List Instr) : ∀ st, keyP kind d st p = (keyL kind d p).foldl addK st := by
  induction p with
  | nil => intro st; rfl
  | cons i p ih =>
    intro st
    simp only [keyP, keyL, List.foldl_cons] at ih ⊢
    rw [ih]
    by_cases h : i.kind = kind
    · simp [h]
    · have h1 : (i.kind == kind) = false := by simpa using h
      have h2 : (i.kind != kind) = true := by simpa using h
      rw [if_pos h2, List.filter_cons, h1]; simp

theorem endsE_eq (kind : Int) (l : List (List Instr)) (n : Nat) : endsE kind l n = (keysN kind l n).foldl addK ([], true) := by
  induction n with
  | zero => rfl
  | succ n ih => rw [endsE_succ, ih, keyP_eq, keysN_succ, List.foldl_append]

theorem addK_yes (ks : List Key) : ∀ st : List Key × Bool, (st.1 ++ ks).Nodup → ks.foldl addK st = (st.1 ++ ks, st.2) := by
  induction ks with
  | nil => intro st _; simp
  | cons k ks ih =>
    intro st h
    have hk : st.1.contains k = false := by
      rw [Bool.eq_false_iff]; intro hc
      rw [List.nodup_append] at h
      exact h.2.2 k (by simpa using hc) k (by simp) rfl
    have e : addK st k = (st.1 ++ [k], st.2) := by simp only [addK, hk]; simp
    rw [List.foldl_cons, e, ih _ (by simpa using h)]
    simp

theorem addK_false (ks : List Key) : ∀ st : List Key × Bool, st.2 = false → (ks.foldl addK st).2 = false := by
  induction ks with
  | nil => exact fun st h => h
  | cons k ks ih => intro st h; rw [List.foldl_cons]; exact ih _ (by simp [addK, h])

theorem addK_no (ks : List Key) : ∀ st : List Key × Bool, st.1.Nodup → ¬ (st.1 ++ ks).Nodup → (ks.foldl addK st).2 = false := by
  induction ks with
  | nil => intro st h h'; simp at h'; exact absurd h h'
  | cons k ks ih =>
    intro st h h'
    rw [List.foldl_cons]
    cases hk : st.1.contains k
    · have e : addK st k = (st.1 ++ [k], st.2) := by simp only [addK, hk]; simp
      rw [e]
      refine ih _ ?_ (by simpa using h')
      simp only
      rw [List.nodup_append]
      refine ⟨h, by simp, fun a ha b hb => ?_⟩
      rw [List.mem_singleton.1 hb]
      rintro rfl
      have : st.1.contains a = true := by simpa using ha
      rw [this] at hk; cases hk
    · refine addK_false ks _ ?_
      simp only [addK]; rw [hk]; simp

theorem ends_yes {kind : Int} {l : List (List Instr)} {n : Nat} (h : (keysN kind l n).Nodup) : endsE kind l n = (keysN kind l n, true) := by
  rw [endsE_eq, addK_yes _ _ (by simpa using h)]; simp
theorem ends_no {kind : Int} {l : List (List Instr)} {n : Nat} (h : ¬ (keysN kind l n).Nodup) : (endsE kind l n).2 = false := by
  rw [endsE_eq]; exact addK_no _ _ (by simp) (by simpa using h)

theorem keyL_count (kind : Int) (d : Nat) (p : List Instr) (k : Key) : (keyL kind d p).count k = p.countP fun i => i.kind == kind && keyOf kind d i == k := by
  rw [keyL, List.count_eq_countP, List.countP_map, List.countP_filter]
  refine List.countP_congr fun i _ => ?_
  simp [Function.comp, and_comm]

theorem keyL_ne {kind : Int} {d : Nat} {p : List Instr} {k : Key} (h : ∀ i : Instr, keyOf kind d i ≠ k) : (keyL kind d p).count k = 0 := by
  rw [keyL_count, List.countP_eq_zero]
  intro i _; simp [h]

theorem count3 (l : List (List Instr)) (n d : Nat) (b c : Int) : (keysN 3 l n).count [(d : Int), b, c] = if d < n then countB (l.getD d []) 3 b c else 0 := by
  induction n with
  | zero => rfl
  | succ n ih =>
    rw [keysN_succ, List.count_append, ih]
    by_cases h : d = n
    · subst h
      rw [if_neg (by omega), if_pos (by omega), keyL_count, Nat.zero_add]
      refine List.countP_congr fun i _ => ?_
      simp [keyOf, hitB]
    · rw [keyL_ne (by intro i; simp [keyOf]; omega), Nat.add_zero]
      by_cases h2 : d < n
      · rw [if_pos h2, if_pos (by omega)]
      · rw [if_neg h2, if_neg (by omega)]

theorem count4 (l : List (List Instr)) (n d : Nat) (a c : Int) : (keysN 4 l n).count [a, (d : Int), c] = if d < n then countB (l.getD d []) 4 a c else 0 := by
  induction n with
  | zero => rfl
  | succ n ih =>
    rw [keysN_succ, List.count_append, ih]
    by_cases h : d = n
    · subst h
      rw [if_neg (by omega), if_pos (by omega), keyL_count, Nat.zero_add]
      refine List.countP_congr fun i _ => ?_
      simp [keyOf, hitB]
    · rw [keyL_ne (by intro i; simp [keyOf]; omega), Nat.add_zero]
      by_cases h2 : d < n
      · rw [if_pos h2, if_pos (by omega)]
      · rw [if_neg h2, if_neg (by omega)]

theorem mem_keys {kind : Int} {l : List (List Instr)} {k : Key} (h : k ∈ keysN kind l l.length) : ∃ d i, ∃ (hd : d < l.length), i ∈ l[d] ∧ i.kind = kind ∧ k = keyOf kind d i := by
  simp only [keysN, keyL, List.mem_flatMap, List.mem_range, List.mem_map, List.mem_filter] at h
  obtain ⟨d, hd, i, ⟨hi, hk⟩, rfl⟩ := h
  refine ⟨d, i, hd, ?_, by simpa using hk, rfl⟩
  simpa [List.getD_eq_getElem?_getD, hd] using hi
theorem keys_mem {kind : Int} {l : List (List Instr)} {d : Nat} {i : Instr} (hd : d < l.length) (hi : i ∈ l[d]) (hk : i.kind = kind) : keyOf kind d i ∈ keysN kind l l.length := by
  simp only [keysN, keyL, List.mem_flatMap, List.mem_range, List.mem_map, List.mem_filter]
  exact ⟨d, hd, i, ⟨by simpa [List.getD_eq_getElem?_getD, hd] using hi, by simpa using hk⟩, rfl⟩

theorem getD_at {l : List (List Instr)} {d : Nat} (hd : d < l.length) : l.getD d [] = l[d] := by simp [List.getD_eq_getElem?_getD, hd]

theorem count_own {kind : Int} (h34 : kind = 3 ∨ kind = 4) {l : List (List Instr)} {d : Nat} {i : Instr} (hd : d < l.length) : (keysN kind l l.length).count (keyOf kind d i) = countB l[d] kind i.dev i.tag := by
  rcases h34 with rfl | rfl
  · rw [show keyOf 3 d i = [(d : Int), i.dev, i.tag] from rfl, count3, if_pos hd, getD_at hd]
  · rw [show keyOf 4 d i = [i.dev, (d : Int), i.tag] from rfl, count4, if_pos hd, getD_at hd]

theorem nodup_iff {kind : Int} (h34 : kind = 3 ∨ kind = 4) (l : List (List Instr)) : (keysN kind l l.length).Nodup ↔ ∀ d (hd : d < l.length), ∀ i ∈ l[d], i.kind = kind → countB l[d] kind i.dev i.tag ≤ 1 := by
  rw [List.nodup_iff_count]
  constructor
  · intro h d hd i hi hk
    rw [← count_own h34 hd]; exact h _
  · intro h k
    by_cases hk : k ∈ keysN kind l l.length
    · obtain ⟨d, i, hd, hi, hk2, rfl⟩ := mem_keys hk
      rw [count_own h34 hd]; exact h d hd i hi hk2
    · rw [List.count_eq_zero.2 hk]; omega

theorem dup_iff (l : List (List Instr)) : l.any (fun p => p.any (dupB p)) = true ↔ ¬ ((keysN 3 l l.length).Nodup ∧ (keysN 4 l l.length).Nodup) := by
  rw [nodup_iff (.inl rfl), nodup_iff (.inr rfl)]
  constructor
  · intro h ⟨h3, h4⟩
    simp only [List.any_eq_true, dupB, Bool.and_eq_true, Bool.or_eq_true, beq_iff_eq, decide_eq_true_eq] at h
    obtain ⟨p, hp, i, hi, hk, hc⟩ := h
    obtain ⟨d, hd, rfl⟩ := List.getElem_of_mem hp
    rcases hk with hk | hk
    · have := h3 d hd i hi hk; rw [hk] at hc; omega
    · have := h4 d hd i hi hk; rw [hk] at hc; omega
  · intro h
    apply Classical.byContradiction
    intro hn
    refine h ⟨fun d hd i hi hk => ?_, fun d hd i hi hk => ?_⟩ <;> apply Classical.byContradiction <;> intro hc <;>
      refine hn (List.any_eq_true.2 ⟨l[d], List.getElem_mem hd, List.any_eq_true.2 ⟨i, hi, ?_⟩⟩) <;>
      simp only [dupB, hk, Bool.and_eq_true, Bool.or_eq_true, beq_iff_eq, decide_eq_true_eq] <;> exact ⟨by simp, by omega⟩

theorem count_other {l : List (List Instr)} (h : rightE l = 0) {d : Nat} {i : Instr} (hd : d < l.length) (hi : i ∈ l[d]) :
    (keysN 4 l l.length).count (keyOf 3 d i) = countB (l.getD i.dev.toNat []) 4 d i.tag ∧ (keysN 3 l l.length).count (keyOf 4 d i) = countB (l.getD i.dev.toNat []) 3 d i.tag := by
  have hr := right_dev h _ (List.getElem_mem hd) i hi
  have e : ((i.dev.toNat : Nat) : Int) = i.dev := Int.toNat_of_nonneg hr.1
  refine ⟨?_, ?_⟩
  · rw [show keyOf 3 d i = [(d : Int), ((i.dev.toNat : Nat) : Int), i.tag] by rw [e]; rfl, count4, if_pos (by omega)]
  · rw [show keyOf 4 d i = [((i.dev.toNat : Nat) : Int), (d : Int), i.tag] by rw [e]; rfl, count3, if_pos (by omega)]

theorem miss_iff {l : List (List Instr)} (h : rightE l = 0) (h3 : (keysN 3 l l.length).Nodup) (h4 : (keysN 4 l l.length).Nodup) :
    (List.range l.length).any (fun d => (l.getD d []).any (missB l d)) = true ↔ ¬ ((∀ k ∈ keysN 3 l l.length, k ∈ keysN 4 l l.length) ∧ ∀ k ∈ keysN 4 l l.length, k ∈ keysN 3 l l.length) := by
  have one : ∀ {ks : List Key} {k : Key}, ks.Nodup → (ks.count k = 1 ↔ k ∈ ks) := by
    intro ks k hn
    have := (List.nodup_iff_count.1 hn) k
    rw [← List.count_pos_iff]; omega
  constructor
  · intro hm ⟨h5, h6⟩
    simp only [List.any_eq_true, List.mem_range, missB, Bool.or_eq_true, Bool.and_eq_true, beq_iff_eq, bne_iff_ne] at hm
    obtain ⟨d, hd, i, hi, hm⟩ := hm
    rw [getD_at hd] at hi
    obtain ⟨q1, q2⟩ := count_other h hd hi
    rcases hm with ⟨hk, hm⟩ | ⟨hk, hm⟩
    · have := (one h4).2 (h5 _ (keys_mem hd hi hk)); omega
    · have := (one h3).2 (h6 _ (keys_mem hd hi hk)); omega
  · intro hm
    apply Classical.byContradiction
    intro hn
    refine hm ⟨fun k hk => ?_, fun k hk => ?_⟩
    · obtain ⟨d, i, hd, hi, hk2, rfl⟩ := mem_keys hk
      apply Classical.byContradiction
      intro hc
      refine hn (List.any_eq_true.2 ⟨d, by simpa using hd, List.any_eq_true.2 ⟨i, by rw [getD_at hd]; exact hi, ?_⟩⟩)
      have this : ¬ _ = 1 := fun e => hc ((one h4).1 e)
      rw [(count_other h hd hi).1] at this
      simp only [missB, Bool.or_eq_true, Bool.and_eq_true, beq_iff_eq, bne_iff_ne]
      exact .inl ⟨hk2, by omega⟩
    · obtain ⟨d, i, hd, hi, hk2, rfl⟩ := mem_keys hk
      apply Classical.byContradiction
      intro hc
      refine hn (List.any_eq_true.2 ⟨d, by simpa using hd, List.any_eq_true.2 ⟨i, by rw [getD_at hd]; exact hi, ?_⟩⟩)
      have this : ¬ _ = 1 := fun e => hc ((one h3).1 e)
      rw [(count_other h hd hi).2] at this
      simp only [missB, Bool.or_eq_true, Bool.and_eq_true, beq_iff_eq, bne_iff_ne]
      exact .inr ⟨hk2, by omega⟩

theorem pairs_eq (l : List (List Instr)) : pairsC l = pairsE l := by
  unfold pairsC pairsE
  split
  · rfl
  rename_i hr
  have hr : rightE l = 0 := by simpa using hr
  by_cases h3 : (keysN 3 l l.length).Nodup
  · by_cases h4 : (keysN 4 l l.length).Nodup
    · rw [ends_yes h3, ends_yes h4, if_neg (by simp), if_neg (t := (25 : Int)) (fun h => (dup_iff l).1 h ⟨h3, h4⟩)]
      simp only
      have hm := miss_iff hr h3 h4
      by_cases h5 : ∀ k ∈ keysN 3 l l.length, k ∈ keysN 4 l l.length
      · rw [if_neg (by simpa using h5)]
        have hle := List.Nodup.length_le_of_subset h3 h5
        by_cases h6 : ∀ k ∈ keysN 4 l l.length, k ∈ keysN 3 l l.length
        · have hle2 := List.Nodup.length_le_of_subset h4 h6
          rw [if_neg (by omega), if_neg (fun h => hm.1 h ⟨h5, h6⟩)]
        · rw [if_pos (hm.2 fun h => h6 h.2), if_pos]
          intro he
          have he : (keysN 3 l l.length).length = (keysN 4 l l.length).length := by omega
          refine h6 fun k hk => ?_
          apply Classical.byContradiction
          intro hk3
          have := List.Nodup.length_le_of_subset (List.nodup_cons.2 ⟨hk3, h3⟩) (fun x hx => by
            rcases List.mem_cons.1 hx with rfl | hx
            · exact hk
            · exact h5 x hx)
          simp only [List.length_cons] at this
          omega
      · rw [if_pos (by simpa using h5), if_pos (hm.2 fun h => h5 h.1)]
    · rw [ends_no h4, if_pos (by simp), if_pos ((dup_iff l).2 fun h => h4 h.2)]
  · rw [ends_no h3, if_pos (by simp), if_pos ((dup_iff l).2 fun h => h3 h.1)]

end Go.Proofs.Ytfjbabacpnnjmaa.Av

namespace Go.Proofs.Ytfjbabacpnnjmaa.Av
open Go Go.Av
set_option maxRecDepth 20000
set_option maxHeartbeats 4000000

attribute [local go_sem] step_apply stepD_apply stepE_apply
attribute [local go_sem] aopq_mv aopq_pk aopq_al aopq_bx aopq_bd aopq_bs aopq_ld aopq_st aopq_nc aopq_bin aopq_un aopq_cv aopq_mi aopq_mf aopq_mm aopq_ms aopq_sc aopq_fa aopq_fl aopq_ia aopq_lk aopq_mu aopq_lm aopq_rg aopq_en aopq_ta aopq_ex aopq_ln aopq_ap aopq_mx aopq.eq_3 aop.eq_1 aop.eq_2 aop.eq_3 aop.eq_4 aop.eq_5 aop.eq_6 aop.eq_7 aop.eq_8 aop.eq_9 aop_bin atS_apply aop_un_not aop_un_neg aop.eq_14 aop.eq_15 aop.eq_16 aop.eq_17 aop.eq_18 aop_sc cutS_apply cutN_apply cutL_apply cutO_apply aop.eq_20 aop.eq_21 aop.eq_22 aop.eq_23 aop.eq_24 aop.eq_25 aop.eq_26 aop.eq_27 aop.eq_28 aop.eq_29 aop.eq_30 aop.eq_31 aop.eq_32 blk_push next_push blk_set next_set blk_kill next_kill frL_nil frL_cons Fits_nil Fits_cons Int.reduceBEq Int.reduceBNe Nat.sub_zero Option.map_some Option.map_none List.set_cons_succ true_or or_true false_or or_false Int.le_refl Int.cast_ofNat_Int decide_true decide_false List.cons_append fillA fillR rowsOf List.replicate_succ List.replicate_zero Nat.zero_mul getD_drop List.length_drop splice List.nil_append List.append_nil cond_true cond_false List.set_cons_zero List.length_set ev put_some put_none upd_apply abin asNat bounds row1 mk List.length_cons List.length_nil List.length_map List.drop_zero List.drop_succ_cons List.drop_nil List.getD_cons_zero List.getD_cons_succ Option.getD_none Option.getD_some List.take_succ_cons List.take_zero List.take_nil true_and and_true Int.toNat_natCast if_true if_false Nat.zero_add Nat.add_zero List.map_cons List.map_nil Nat.reduceEqDiff Nat.left_eq_add Nat.add_eq_left Nat.add_left_cancel_iff Nat.add_assoc Nat.reduceSub Nat.reduceAdd Nat.reduceLeDiff Nat.le_refl Nat.zero_le Nat.zero_lt_one Nat.lt_add_one Int.reduceLT Int.reduceLE Int.reduceToNat Nat.reduceLT Nat.reduceBEq Bool.false_eq_true Nat.reduceBNe ne_eq not_false_eq_true not_true_eq_false false_and and_false reduceIte Int.natCast_nonneg reduceCtorEq parts_agg parts_bool parts_int parts_str parts_lit parts_nils parts_sl parts_ptr Int.natCast_nonneg Int.natCast_nonneg beq_self_eq_true bne_self_eq_false Bool.true_and Bool.false_and Bool.and_true Bool.and_false Bool.true_or Bool.false_or Bool.or_true Bool.or_false Bool.not_true Bool.not_false
attribute [local go_sem] instr0 instr1 instr2 instr10 instr11 instr12 instrN instrA instr_len node0 node1 node2 node3 node4 node5 node6 nodeA node_len I ints progA progsA

/-- law18.same -/
theorem same_spec (l : List (List Instr)) (σ : St) : T Try.prog 19 [progsA l] σ (.bool true) σ := by
  refine in19 (by simp) fun wf hab => ?_
  obtain ⟨hl, hps⟩ := hab_progs (hab 0 (by simp))
  clear hab
  unfold c19
  first | refine .seq (.rg fun A hA K hK => ?_) | refine .seq (.seq (.rg fun A hA K hK => ?_)) | refine .rg fun A hA K hK => ?_ | refine .seq (.rd fun A hA K hK => ?_) | refine .seq (.seq (.rd fun A hA K hK => ?_)) | refine .rd fun A hA K hK => ?_
  simp (maxSteps := 1000000) only [go_sem, hA.nil, hA.go, hA.yes, hA.noT, hA.noF, hA.skp]
  refine hK _ _ ?_; clear hK K hA A
  first | refine .seq (.rg fun A hA K hK => ?_) | refine .seq (.seq (.rg fun A hA K hK => ?_)) | refine .rg fun A hA K hK => ?_ | refine .seq (.rd fun A hA K hK => ?_) | refine .seq (.seq (.rd fun A hA K hK => ?_)) | refine .rd fun A hA K hK => ?_
  simp (maxSteps := 1000000) only [go_sem, hA.nil, hA.go, hA.yes, hA.noT, hA.noF, hA.skp]
  refine hK _ _ ?_; clear hK K hA A
  first | refine .seq (.rg fun A hA K hK => ?_) | refine .seq (.seq (.rg fun A hA K hK => ?_)) | refine .rg fun A hA K hK => ?_ | refine .seq (.rd fun A hA K hK => ?_) | refine .seq (.seq (.rd fun A hA K hK => ?_)) | refine .rd fun A hA K hK => ?_
  simp (maxSteps := 1000000) only [go_sem, hA.nil, hA.go, hA.yes, hA.noT, hA.noF, hA.skp]
  refine hK _ _ ?_; clear hK K hA A
  refine .range (N := l.length) (fun i F s => F 0 = progsA l ∧ F 3 = I (cntE (l.take i)) ∧ F 4 = I (sndE (l.take i)) ∧ F 9 = I l.length ∧ F 10 = I i ∧ Ext σ s) hl ?_ ?_ ?_ ?_
  · exact ⟨by simp (maxSteps := 1000000) only [go_sem], by simp (maxSteps := 1000000) only [go_sem]; try rfl, by simp (maxSteps := 1000000) only [go_sem]; try rfl, by simp (maxSteps := 1000000) only [go_sem], by simp (maxSteps := 1000000) only [go_sem]; try rfl, .refl σ⟩
  · rintro i F s ⟨_, _, _, h1, h2, _⟩
    exact ⟨h2, h1⟩
  · rintro i F s hlt ⟨h0, h3, h4, h9, h10, hx⟩
    have e1 : (i : Int) < l.length := by omega
    have ec : cntE (l.take (i + 1)) = IntKind.i64.wrap (cntE (l.take i) + l[i].length) := foldl_take _ _ l i hlt
    have et : sndE (l.take (i + 1)) = sndP (sndE (l.take i)) l[i] := foldl_take _ _ l i hlt
    have hp : l[i].length ≤ most := hab_prog (hps _ (List.getElem_mem hlt))
    first | refine .seq (.rg fun A hA K hK => ?_) | refine .seq (.seq (.rg fun A hA K hK => ?_)) | refine .rg fun A hA K hK => ?_ | refine .seq (.rd fun A hA K hK => ?_) | refine .seq (.seq (.rd fun A hA K hK => ?_)) | refine .rd fun A hA K hK => ?_
    simp (maxSteps := 1000000) only [go_sem, hA.nil, hA.go, hA.yes, hA.noT, hA.noF, hA.skp, h10]
    refine hK _ _ ?_; clear hK K hA A
    first | refine .seq (.rg fun A hA K hK => ?_) | refine .seq (.seq (.rg fun A hA K hK => ?_)) | refine .rg fun A hA K hK => ?_ | refine .seq (.rd fun A hA K hK => ?_) | refine .seq (.seq (.rd fun A hA K hK => ?_)) | refine .rd fun A hA K hK => ?_
    simp (maxSteps := 1000000) only [go_sem, hA.nil, hA.go, hA.yes, hA.noT, hA.noF, hA.skp, h0, h3, progs_get' hlt, e1]
    refine hK _ _ ?_; clear hK K hA A
    first | refine .seq (.rg fun A hA K hK => ?_) | refine .seq (.seq (.rg fun A hA K hK => ?_)) | refine .rg fun A hA K hK => ?_ | refine .seq (.rd fun A hA K hK => ?_) | refine .seq (.seq (.rd fun A hA K hK => ?_)) | refine .rd fun A hA K hK => ?_
    simp (maxSteps := 1000000) only [go_sem, hA.nil, hA.go, hA.yes, hA.noT, hA.noF, hA.skp, h0, progs_get' hlt, e1]
    refine hK _ _ ?_; clear hK K hA A
    refine .range (N := l[i].length) (fun n F s => F 0 = progsA l ∧ F 3 = I (cntE (l.take (i + 1))) ∧ F 4 = I (sndP (sndE (l.take i)) (l[i].take n)) ∧ F 9 = I l.length ∧ F 10 = I i ∧ F 23 = progA l[i] ∧ F 24 = I l[i].length ∧ F 25 = I n ∧ Ext σ s) hp ?_ ?_ ?_ ?_
    · exact ⟨by simp (maxSteps := 1000000) only [go_sem, h0], by simp (maxSteps := 1000000) only [go_sem, ec], by simp (maxSteps := 1000000) only [go_sem, h4]; try rfl, by simp (maxSteps := 1000000) only [go_sem, h9], by simp (maxSteps := 1000000) only [go_sem, h10], by simp (maxSteps := 1000000) only [go_sem], by simp (maxSteps := 1000000) only [go_sem], by simp (maxSteps := 1000000) only [go_sem]; try rfl, hx⟩
    · rintro n F s ⟨_, _, _, _, _, _, h1, h2, _⟩
      exact ⟨h2, h1⟩
    · rintro n F s hn ⟨h0, h3, h4, h9, h10, h23, h24, h25, hx⟩
      have e2 : (n : Int) < l[i].length := by omega
      have et2 : sndP (sndE (l.take i)) (l[i].take (n + 1)) = if (l[i][n].kind == 3) = true then IntKind.i64.wrap (sndP (sndE (l.take i)) (l[i].take n) + 1) else sndP (sndE (l.take i)) (l[i].take n) := foldl_take _ _ l[i] n hn
      have q := ext_two (B := .cells 13 [instrL l[i][n]]) (B' := .cells 13 [[I 0, I 0, .lit 1 [], I 0, .lit 1 [], .lit 1 [], .lit 1 [], I 0, I 0, .str ⟨#[]⟩, I 0, I 0, I 0]]) hx
      first | refine .seq (.rg fun A hA K hK => ?_) | refine .seq (.seq (.rg fun A hA K hK => ?_)) | refine .rg fun A hA K hK => ?_ | refine .seq (.rd fun A hA K hK => ?_) | refine .seq (.seq (.rd fun A hA K hK => ?_)) | refine .rd fun A hA K hK => ?_
      simp (maxSteps := 1000000) only [go_sem, hA.nil, hA.go, hA.yes, hA.noT, hA.noF, hA.skp, h23, h25, prog_get hn, e2]
      refine hK _ _ ?_; clear hK K hA A
      first | refine .seq (.rg fun A hA K hK => ?_) | refine .seq (.seq (.rg fun A hA K hK => ?_)) | refine .rg fun A hA K hK => ?_ | refine .seq (.rd fun A hA K hK => ?_) | refine .seq (.seq (.rd fun A hA K hK => ?_)) | refine .rd fun A hA K hK => ?_
      simp (maxSteps := 1000000) only [go_sem, hA.nil, hA.go, hA.yes, hA.noT, hA.noF, hA.skp]
      refine hK _ _ ?_; clear hK K hA A
      refine .cond (t := l[i][n].kind == 3) (by simp (maxSteps := 1000000) only [go_sem]) (fun ht => ?_) (fun ht => .skip ?_)
      · rw [if_pos ht] at et2
        first | refine .seq (.rg fun A hA K hK => ?_) | refine .seq (.seq (.rg fun A hA K hK => ?_)) | refine .rg fun A hA K hK => ?_ | refine .seq (.rd fun A hA K hK => ?_) | refine .seq (.seq (.rd fun A hA K hK => ?_)) | refine .rd fun A hA K hK => ?_
        simp (maxSteps := 1000000) only [go_sem, hA.nil, hA.go, hA.yes, hA.noT, hA.noF, hA.skp, h4]
        refine hK _ _ ?_; clear hK K hA A
        exact ⟨by simp (maxSteps := 1000000) only [go_sem, h25], by simp (maxSteps := 1000000) only [go_sem, h0], by simp (maxSteps := 1000000) only [go_sem, h3], by simp (maxSteps := 1000000) only [go_sem, et2], by simp (maxSteps := 1000000) only [go_sem, h9], by simp (maxSteps := 1000000) only [go_sem, h10], by simp (maxSteps := 1000000) only [go_sem, h23], by simp (maxSteps := 1000000) only [go_sem, h24], by simp (maxSteps := 1000000) only [go_sem], q⟩
      · rw [if_neg (by rw [ht]; simp)] at et2
        exact ⟨by simp (maxSteps := 1000000) only [go_sem, h25], by simp (maxSteps := 1000000) only [go_sem, h0], by simp (maxSteps := 1000000) only [go_sem, h3], by simp (maxSteps := 1000000) only [go_sem, h4, et2], by simp (maxSteps := 1000000) only [go_sem, h9], by simp (maxSteps := 1000000) only [go_sem, h10], by simp (maxSteps := 1000000) only [go_sem, h23], by simp (maxSteps := 1000000) only [go_sem, h24], by simp (maxSteps := 1000000) only [go_sem], q⟩
    · rintro F s ⟨h0, h3, h4, h9, h10, h23, h24, h25, hx⟩
      rw [List.take_length] at h4
      exact ⟨by simp (maxSteps := 1000000) only [go_sem, h10], by simp (maxSteps := 1000000) only [go_sem, h0], by simp (maxSteps := 1000000) only [go_sem, h3], by simp (maxSteps := 1000000) only [go_sem, h4, et], by simp (maxSteps := 1000000) only [go_sem, h9], by simp (maxSteps := 1000000) only [go_sem], hx⟩
  rintro F s ⟨h0, h3, h4, h9, h10, hx⟩
  rw [List.take_length] at h3 h4
  have hpe := pairs_eq l
  have hq := hx.2
  clear hx hps
  first | refine .seq (.rg fun A hA K hK => ?_) | refine .seq (.seq (.rg fun A hA K hK => ?_)) | refine .rg fun A hA K hK => ?_ | refine .seq (.rd fun A hA K hK => ?_) | refine .seq (.seq (.rd fun A hA K hK => ?_)) | refine .rd fun A hA K hK => ?_
  simp (maxSteps := 1000000) only [go_sem, hA.nil, hA.go, hA.yes, hA.noT, hA.noF, hA.skp, h0, h3, h4]
  first | refine aopq_call (right_spec l _) (by simp (maxSteps := 1000000) only [go_sem, h0, h3, h4]) ?_ | refine aop_call (right_spec l _) (by simp (maxSteps := 1000000) only [go_sem, h0, h3, h4]) ?_
  try simp (maxSteps := 1000000) only [go_sem, hA.nil, hA.go, hA.yes, hA.noT, hA.noF, hA.skp, h0, h3, h4]
  first | refine aopq_call (refRight_spec l _) (by simp (maxSteps := 1000000) only [go_sem, h0, h3, h4]) ?_ | refine aop_call (refRight_spec l _) (by simp (maxSteps := 1000000) only [go_sem, h0, h3, h4]) ?_
  try simp (maxSteps := 1000000) only [go_sem, hA.nil, hA.go, hA.yes, hA.noT, hA.noF, hA.skp, h0, h3, h4]
  first | refine aopq_call (pairs_spec l _) (by simp (maxSteps := 1000000) only [go_sem, h0, h3, h4]) ?_ | refine aop_call (pairs_spec l _) (by simp (maxSteps := 1000000) only [go_sem, h0, h3, h4]) ?_
  try simp (maxSteps := 1000000) only [go_sem, hA.nil, hA.go, hA.yes, hA.noT, hA.noF, hA.skp, h0, h3, h4]
  first | refine aopq_call (refPairs_spec l _) (by simp (maxSteps := 1000000) only [go_sem, h0, h3, h4, hpe]) ?_ | refine aop_call (refPairs_spec l _) (by simp (maxSteps := 1000000) only [go_sem, h0, h3, h4, hpe]) ?_
  try simp (maxSteps := 1000000) only [go_sem, hA.nil, hA.go, hA.yes, hA.noT, hA.noF, hA.skp, h0, h3, h4, hpe]
  first | refine aopq_call (codeCount_spec l _) (by simp (maxSteps := 1000000) only [go_sem, h0, h3, h4]) ?_ | refine aop_call (codeCount_spec l _) (by simp (maxSteps := 1000000) only [go_sem, h0, h3, h4]) ?_
  try simp (maxSteps := 1000000) only [go_sem, hA.nil, hA.go, hA.yes, hA.noT, hA.noF, hA.skp, h0, h3, h4]
  first | refine aopq_call (codeSends_spec l _) (by simp (maxSteps := 1000000) only [go_sem, h0, h3, h4]) ?_ | refine aop_call (codeSends_spec l _) (by simp (maxSteps := 1000000) only [go_sem, h0, h3, h4]) ?_
  try simp (maxSteps := 1000000) only [go_sem, hA.nil, hA.go, hA.yes, hA.noT, hA.noF, hA.skp, h0, h3, h4]
  refine hK _ _ ?_; clear hK K hA A
  exact .ret (ret1b (by simp (maxSteps := 1000000) only [go_sem]) wf hq (.bool _))

end Go.Proofs.Ytfjbabacpnnjmaa.Av

namespace Go.Proofs.Ytfjbabacpnnjmaa.Av
open Go Go.Av
set_option maxRecDepth 20000
set_option maxHeartbeats 4000000

attribute [local go_sem] step_apply stepD_apply stepE_apply
attribute [local go_sem] aopq_mv aopq_pk aopq_al aopq_bx aopq_bd aopq_bs aopq_ld aopq_st aopq_nc aopq_bin aopq_un aopq_cv aopq_mi aopq_mf aopq_mm aopq_ms aopq_sc aopq_fa aopq_fl aopq_ia aopq_lk aopq_mu aopq_lm aopq_rg aopq_en aopq_ta aopq_ex aopq_ln aopq_ap aopq_mx aopq.eq_3 aop.eq_1 aop.eq_2 aop.eq_3 aop.eq_4 aop.eq_5 aop.eq_6 aop.eq_7 aop.eq_8 aop.eq_9 aop_bin atS_apply aop_un_not aop_un_neg aop.eq_14 aop.eq_15 aop.eq_16 aop.eq_17 aop.eq_18 aop_sc cutS_apply cutN_apply cutL_apply cutO_apply aop.eq_20 aop.eq_21 aop.eq_22 aop.eq_23 aop.eq_24 aop.eq_25 aop.eq_26 aop.eq_27 aop.eq_28 aop.eq_29 aop.eq_30 aop.eq_31 aop.eq_32 blk_push next_push blk_set next_set blk_kill next_kill frL_nil frL_cons Fits_nil Fits_cons Int.reduceBEq Int.reduceBNe Nat.sub_zero Option.map_some Option.map_none List.set_cons_succ true_or or_true false_or or_false Int.le_refl Int.cast_ofNat_Int decide_true decide_false List.cons_append fillA fillR rowsOf List.replicate_succ List.replicate_zero Nat.zero_mul getD_drop List.length_drop splice List.nil_append List.append_nil cond_true cond_false List.set_cons_zero List.length_set ev put_some put_none upd_apply abin asNat bounds row1 mk List.length_cons List.length_nil List.length_map List.drop_zero List.drop_succ_cons List.drop_nil List.getD_cons_zero List.getD_cons_succ Option.getD_none Option.getD_some List.take_succ_cons List.take_zero List.take_nil true_and and_true Int.toNat_natCast if_true if_false Nat.zero_add Nat.add_zero List.map_cons List.map_nil Nat.reduceEqDiff Nat.left_eq_add Nat.add_eq_left Nat.add_left_cancel_iff Nat.add_assoc Nat.reduceSub Nat.reduceAdd Nat.reduceLeDiff Nat.le_refl Nat.zero_le Nat.zero_lt_one Nat.lt_add_one Int.reduceLT Int.reduceLE Int.reduceToNat Nat.reduceLT Nat.reduceBEq Bool.false_eq_true Nat.reduceBNe ne_eq not_false_eq_true not_true_eq_false false_and and_false reduceIte Int.natCast_nonneg reduceCtorEq parts_agg parts_bool parts_int parts_str parts_lit parts_nils parts_sl parts_ptr Int.natCast_nonneg Int.natCast_nonneg beq_self_eq_true bne_self_eq_false Bool.true_and Bool.false_and Bool.and_true Bool.and_false Bool.true_or Bool.false_or Bool.or_true Bool.or_false Bool.not_true Bool.not_false
attribute [local go_sem] instr0 instr1 instr2 instr10 instr11 instr12 instrN instrA instr_len node0 node1 node2 node3 node4 node5 node6 nodeA node_len I ints progA progsA

section ret
variable {n0 : Nat} {F : Fr} {σ σ0 : St}
theorem retBc {n b sz : Nat} {row : List AV} {g : Option Nat} {v : AV} {Q : AV → St → Prop} (h : F n = .ptr b 0 0) (hb : σ.blk b = some (.cells sz [row])) (hg : g.getD 1 ≤ sz) (hm : mk g row 0 = v) (wf : σ0.Wf) (hs : ∀ b, b < σ0.next → σ.blk b = σ0.blk b) (hv : v.Lt σ0.next) (hq : Q v σ0) : retQ σ0.next [.c g n] Q .ret F σ :=
  ⟨[v], by simp [resOne, h, hb, hg, hm], v, σ0, .back rfl wf hs hv, hq⟩
end ret

theorem lt_agg {n : Nat} {cs : List AV} (h : ∀ x ∈ cs, x.Lt n) : (AV.agg cs).Lt n := .agg _ fun i hi => by
  rw [List.getD_eq_getElem?_getD, List.getElem?_eq_getElem hi]; exact h _ (List.getElem_mem hi)
theorem lt_tup {n : Nat} {cs : List AV} (h : ∀ x ∈ cs, x.Lt n) : (AV.tup cs).Lt n := .tup _ fun i hi => by
  rw [List.getD_eq_getElem?_getD, List.getElem?_eq_getElem hi]; exact h _ (List.getElem_mem hi)
theorem lt_lit {n sz : Nat} {rows : List (List AV)} (h : ∀ r ∈ rows, ∀ x ∈ r, x.Lt n) : (AV.lit sz rows).Lt n := .lit _ _ fun i j hi hj => by
  have e : rows.getD i [] = rows[i] := by rw [List.getD_eq_getElem?_getD, List.getElem?_eq_getElem hi]; rfl
  rw [e] at hj ⊢
  rw [List.getD_eq_getElem?_getD, List.getElem?_eq_getElem hj]; exact h _ (List.getElem_mem hi) _ (List.getElem_mem hj)
theorem ints_lt {n : Nat} (l : List Int) : (ints l).Lt n := lt_lit (by simp; intro a _; exact .int _ _)
theorem nodeL_lt {n : Nat} (x : Node) : ∀ v ∈ nodeL x, v.Lt n := by
  simp only [nodeL, List.forall_mem_cons, List.not_mem_nil, false_imp_iff, implies_true, and_true]
  exact ⟨.int _ _, ints_lt _, ints_lt _, ints_lt _, .int _ _, .int _ _, .str _⟩
theorem instrL_lt {n : Nat} (x : Instr) : ∀ v ∈ instrL x, v.Lt n := by
  simp only [instrL, List.forall_mem_cons, List.not_mem_nil, false_imp_iff, implies_true, and_true]
  exact ⟨.int _ _, .int _ _, ints_lt _, .int _ _, ints_lt _, ints_lt _, ints_lt _, .int _ _, .int _ _, .str _, .int _ _, .int _ _, .int _ _⟩
theorem progA_lt {n : Nat} (p : List Instr) : (progA p).Lt n := lt_lit (by simp only [List.mem_map]; rintro r ⟨i, _, rfl⟩; exact instrL_lt i)
theorem progsA_lt {n : Nat} (l : List (List Instr)) : (progsA l).Lt n := lt_lit (by simp only [List.mem_map]; rintro r ⟨i, _, rfl⟩ x hx; rw [List.mem_singleton.1 hx]; exact progA_lt i)

theorem frz {P : Program} {n0 : Nat} {c : C} {Q : Exit → Fr → St → Prop} {F : Fr} {σ : St} (i : Nat) {b n sz : Nat} {rows : List (List AV)} (hF : F i = .sl b 0 n) (hb : σ.blk b = some (.cells sz rows)) (hn : n = rows.length)
    (h : SWP P n0 c Q (upd F i (.lit sz rows)) (σ.kill b)) : SWP P n0 c Q F σ := by
  refine .ent (.freeze (i := i) hF hb (by omega)) ?_
  subst hn; simpa using h

/-- slices.Clone -/
theorem clone_spec (l : List Int) (hl : l.length ≤ 2 ^ 20) (σ : St) : T Try.prog 72 [ints l] σ (ints l) σ := by
  refine in72 (by simp) fun wf hab => ?_
  clear hab
  unfold c72
  cases l with
  | nil =>
    refine .nilK 0 (sz := 1) rfl (fun F h0 h1 => ?_) (fun F h0 h1 => ?_)
    · first | refine .seq (.rg fun A hA K hK => ?_) | refine .seq (.seq (.rg fun A hA K hK => ?_)) | refine .rg fun A hA K hK => ?_ | refine .seq (.rd fun A hA K hK => ?_) | refine .seq (.seq (.rd fun A hA K hK => ?_)) | refine .rd fun A hA K hK => ?_
      simp (maxSteps := 1000000) only [go_sem, hA.nil, hA.go, hA.yes, hA.noT, hA.noF, hA.skp]
      refine hK _ _ ?_; clear hK K hA A
      first | refine .seq (.rg fun A hA K hK => ?_) | refine .seq (.seq (.rg fun A hA K hK => ?_)) | refine .rg fun A hA K hK => ?_ | refine .seq (.rd fun A hA K hK => ?_) | refine .seq (.seq (.rd fun A hA K hK => ?_)) | refine .rd fun A hA K hK => ?_
      simp (maxSteps := 1000000) only [go_sem, hA.nil, hA.go, hA.yes, hA.noT, hA.noF, hA.skp, h1]
      refine hK _ _ ?_; clear hK K hA A
      refine .cond (t := true) (by simp (maxSteps := 1000000) only [go_sem]) (fun _ => ?_) (fun h => by cases h)
      first | refine .seq (.rg fun A hA K hK => ?_) | refine .seq (.seq (.rg fun A hA K hK => ?_)) | refine .rg fun A hA K hK => ?_ | refine .seq (.rd fun A hA K hK => ?_) | refine .seq (.seq (.rd fun A hA K hK => ?_)) | refine .rd fun A hA K hK => ?_
      simp (maxSteps := 1000000) only [go_sem, hA.nil, hA.go, hA.yes, hA.noT, hA.noF, hA.skp]
      refine hK _ _ ?_; clear hK K hA A
      refine .ent (.lit0 (i := 2) 1 (by simp (maxSteps := 1000000) only [go_sem])) (.ret (retB (by simp (maxSteps := 1000000) only [go_sem]) wf (fun _ _ => rfl) (ints_lt _) ⟨rfl, rfl⟩))
    · first | refine .seq (.rg fun A hA K hK => ?_) | refine .seq (.seq (.rg fun A hA K hK => ?_)) | refine .rg fun A hA K hK => ?_ | refine .seq (.rd fun A hA K hK => ?_) | refine .seq (.seq (.rd fun A hA K hK => ?_)) | refine .rd fun A hA K hK => ?_
      simp (maxSteps := 1000000) only [go_sem, hA.nil, hA.go, hA.yes, hA.noT, hA.noF, hA.skp]
      refine hK _ _ ?_; clear hK K hA A
      first | refine .seq (.rg fun A hA K hK => ?_) | refine .seq (.seq (.rg fun A hA K hK => ?_)) | refine .rg fun A hA K hK => ?_ | refine .seq (.rd fun A hA K hK => ?_) | refine .seq (.seq (.rd fun A hA K hK => ?_)) | refine .rd fun A hA K hK => ?_
      simp (maxSteps := 1000000) only [go_sem, hA.nil, hA.go, hA.yes, hA.noT, hA.noF, hA.skp, h1]
      refine hK _ _ ?_; clear hK K hA A
      refine .cond (t := false) (by simp (maxSteps := 1000000) only [go_sem]) (fun h => by cases h) (fun _ => .skip ?_)
      first | refine .seq (.rg fun A hA K hK => ?_) | refine .seq (.seq (.rg fun A hA K hK => ?_)) | refine .rg fun A hA K hK => ?_ | refine .seq (.rd fun A hA K hK => ?_) | refine .seq (.seq (.rd fun A hA K hK => ?_)) | refine .rd fun A hA K hK => ?_
      simp (maxSteps := 1000000) only [go_sem, hA.nil, hA.go, hA.yes, hA.noT, hA.noF, hA.skp, h1]
      refine hK _ _ ?_; clear hK K hA A
      refine frz 2 (b := σ.next) (n := 0) (sz := 1) (rows := []) (by simp (maxSteps := 1000000) only [go_sem]) (by simp (maxSteps := 1000000) only [go_sem]) rfl ?_
      refine .ret (retB (by simp (maxSteps := 1000000) only [go_sem]) wf (fun b hb => ?_) (ints_lt _) ⟨rfl, rfl⟩)
      simp only [go_sem]; rw [if_neg (by omega), if_neg (by omega)]
  | cons x xs =>
    first | refine .seq (.rg fun A hA K hK => ?_) | refine .seq (.seq (.rg fun A hA K hK => ?_)) | refine .rg fun A hA K hK => ?_ | refine .seq (.rd fun A hA K hK => ?_) | refine .seq (.seq (.rd fun A hA K hK => ?_)) | refine .rd fun A hA K hK => ?_
    simp (maxSteps := 1000000) only [go_sem, hA.nil, hA.go, hA.yes, hA.noT, hA.noF, hA.skp]
    refine hK _ _ ?_; clear hK K hA A
    first | refine .seq (.rg fun A hA K hK => ?_) | refine .seq (.seq (.rg fun A hA K hK => ?_)) | refine .rg fun A hA K hK => ?_ | refine .seq (.rd fun A hA K hK => ?_) | refine .seq (.seq (.rd fun A hA K hK => ?_)) | refine .rd fun A hA K hK => ?_
    simp (maxSteps := 1000000) only [go_sem, hA.nil, hA.go, hA.yes, hA.noT, hA.noF, hA.skp]
    refine hK _ _ ?_; clear hK K hA A
    refine .cond (t := false) (by simp (maxSteps := 1000000) only [go_sem]) (fun h => by cases h) (fun _ => .skip ?_)
    first | refine .seq (.rg fun A hA K hK => ?_) | refine .seq (.seq (.rg fun A hA K hK => ?_)) | refine .rg fun A hA K hK => ?_ | refine .seq (.rd fun A hA K hK => ?_) | refine .seq (.seq (.rd fun A hA K hK => ?_)) | refine .rd fun A hA K hK => ?_
    simp (maxSteps := 1000000) only [go_sem, hA.nil, hA.go, hA.yes, hA.noT, hA.noF, hA.skp]
    simp only [List.length_cons] at hl
    refine ⟨by simp only [most]; omega, by simp only [most]; omega, ?_⟩
    refine hK _ _ ?_; clear hK K hA A
    refine frz 2 (b := σ.next) (n := xs.length + 1) (sz := 1) (rows := [I x] :: xs.map fun n => [I n]) (by simp (maxSteps := 1000000) only [go_sem]) (by simp (maxSteps := 1000000) only [go_sem]) (by simp) ?_
    refine .ret (retB (by simp (maxSteps := 1000000) only [go_sem]) wf (fun b hb => ?_) (ints_lt _) ⟨rfl, rfl⟩)
    simp only [go_sem]; rw [if_neg (by omega), if_neg (by omega)]

def Node.Sm (x : Node) : Prop := x.ins.length ≤ 2 ^ 20 ∧ x.shape.length ≤ 2 ^ 20 ∧ x.a.length ≤ 2 ^ 20
def Instr.Sm (x : Instr) : Prop := x.ins.length ≤ 2 ^ 20 ∧ x.node.Sm

instance (x : Node) : Decidable x.Sm := by unfold Node.Sm; infer_instance
instance (x : Instr) : Decidable x.Sm := by unfold Instr.Sm; infer_instance

/-- graph.CopyNode -/
theorem copyNode_spec (x : Node) (hx : x.Sm) (σ : St) : T Try.prog 102 [.agg (nodeL x)] σ (.agg (nodeL x)) σ := by
  refine in102 (by simp) fun wf hab => ?_
  clear hab
  unfold c102
  first | refine .seq (.rg fun A hA K hK => ?_) | refine .seq (.seq (.rg fun A hA K hK => ?_)) | refine .rg fun A hA K hK => ?_ | refine .seq (.rd fun A hA K hK => ?_) | refine .seq (.seq (.rd fun A hA K hK => ?_)) | refine .rd fun A hA K hK => ?_
  simp (maxSteps := 1000000) only [go_sem, hA.nil, hA.go, hA.yes, hA.noT, hA.noF, hA.skp, nodeL]
  refine hK _ _ ?_; clear hK K hA A
  first | refine .seq (.rg fun A hA K hK => ?_) | refine .seq (.seq (.rg fun A hA K hK => ?_)) | refine .rg fun A hA K hK => ?_ | refine .seq (.rd fun A hA K hK => ?_) | refine .seq (.seq (.rd fun A hA K hK => ?_)) | refine .rd fun A hA K hK => ?_
  simp (maxSteps := 1000000) only [go_sem, hA.nil, hA.go, hA.yes, hA.noT, hA.noF, hA.skp]
  first | refine aopq_call (clone_spec x.ins hx.1 _) (by simp (maxSteps := 1000000) only [go_sem]) ?_ | refine aop_call (clone_spec x.ins hx.1 _) (by simp (maxSteps := 1000000) only [go_sem]) ?_
  try simp (maxSteps := 1000000) only [go_sem, hA.nil, hA.go, hA.yes, hA.noT, hA.noF, hA.skp]
  first | refine aopq_call (clone_spec x.shape hx.2.1 _) (by simp (maxSteps := 1000000) only [go_sem]) ?_ | refine aop_call (clone_spec x.shape hx.2.1 _) (by simp (maxSteps := 1000000) only [go_sem]) ?_
  try simp (maxSteps := 1000000) only [go_sem, hA.nil, hA.go, hA.yes, hA.noT, hA.noF, hA.skp]
  first | refine aopq_call (clone_spec x.a hx.2.2 _) (by simp (maxSteps := 1000000) only [go_sem]) ?_ | refine aop_call (clone_spec x.a hx.2.2 _) (by simp (maxSteps := 1000000) only [go_sem]) ?_
  try simp (maxSteps := 1000000) only [go_sem, hA.nil, hA.go, hA.yes, hA.noT, hA.noF, hA.skp]
  refine hK _ _ ?_; clear hK K hA A
  first | refine .seq (.rg fun A hA K hK => ?_) | refine .seq (.seq (.rg fun A hA K hK => ?_)) | refine .rg fun A hA K hK => ?_ | refine .seq (.rd fun A hA K hK => ?_) | refine .seq (.seq (.rd fun A hA K hK => ?_)) | refine .rd fun A hA K hK => ?_
  simp (maxSteps := 1000000) only [go_sem, hA.nil, hA.go, hA.yes, hA.noT, hA.noF, hA.skp]
  refine hK _ _ ?_; clear hK K hA A
  refine .ret (retBc (b := σ.next + 1) (sz := 7) (row := nodeL x) (by simp (maxSteps := 1000000) only [go_sem]) (by simp (maxSteps := 1000000) only [go_sem, nodeL]) (by simp) rfl wf (fun b hb => ?_) (lt_agg (nodeL_lt x)) ⟨rfl, rfl⟩)
  simp (disch := omega) only [go_sem, if_neg]

/-- code.own -/
theorem own_spec (x : Instr) (hx : x.Sm) (σ : St) : T Try.prog 62 [.agg (instrL x)] σ (.agg (instrL x)) σ := by
  refine in62 (by simp) fun wf hab => ?_
  clear hab
  unfold c62
  first | refine .seq (.rg fun A hA K hK => ?_) | refine .seq (.seq (.rg fun A hA K hK => ?_)) | refine .rg fun A hA K hK => ?_ | refine .seq (.rd fun A hA K hK => ?_) | refine .seq (.seq (.rd fun A hA K hK => ?_)) | refine .rd fun A hA K hK => ?_
  simp (maxSteps := 1000000) only [go_sem, hA.nil, hA.go, hA.yes, hA.noT, hA.noF, hA.skp, instrL]
  refine hK _ _ ?_; clear hK K hA A
  first | refine .seq (.rg fun A hA K hK => ?_) | refine .seq (.seq (.rg fun A hA K hK => ?_)) | refine .rg fun A hA K hK => ?_ | refine .seq (.rd fun A hA K hK => ?_) | refine .seq (.seq (.rd fun A hA K hK => ?_)) | refine .rd fun A hA K hK => ?_
  simp (maxSteps := 1000000) only [go_sem, hA.nil, hA.go, hA.yes, hA.noT, hA.noF, hA.skp]
  first | refine aopq_call (clone_spec x.ins hx.1 _) (by simp (maxSteps := 1000000) only [go_sem]) ?_ | refine aop_call (clone_spec x.ins hx.1 _) (by simp (maxSteps := 1000000) only [go_sem]) ?_
  try simp (maxSteps := 1000000) only [go_sem, hA.nil, hA.go, hA.yes, hA.noT, hA.noF, hA.skp]
  first | refine aopq_call (copyNode_spec x.node hx.2 _) (by simp (maxSteps := 1000000) only [go_sem, nodeL]) ?_ | refine aop_call (copyNode_spec x.node hx.2 _) (by simp (maxSteps := 1000000) only [go_sem, nodeL]) ?_
  try simp (maxSteps := 1000000) only [go_sem, hA.nil, hA.go, hA.yes, hA.noT, hA.noF, hA.skp, nodeL]
  refine hK _ _ ?_; clear hK K hA A
  first | refine .seq (.rg fun A hA K hK => ?_) | refine .seq (.seq (.rg fun A hA K hK => ?_)) | refine .rg fun A hA K hK => ?_ | refine .seq (.rd fun A hA K hK => ?_) | refine .seq (.seq (.rd fun A hA K hK => ?_)) | refine .rd fun A hA K hK => ?_
  simp (maxSteps := 1000000) only [go_sem, hA.nil, hA.go, hA.yes, hA.noT, hA.noF, hA.skp, nodeL]
  refine hK _ _ ?_; clear hK K hA A
  refine .ret (retBc (b := σ.next + 1) (sz := 13) (row := instrL x) (by simp (maxSteps := 1000000) only [go_sem]) (by simp (maxSteps := 1000000) only [go_sem, instrL, nodeL]) (by simp) rfl wf (fun b hb => ?_) (lt_agg (instrL_lt x)) ⟨rfl, rfl⟩)
  simp (disch := omega) only [go_sem, if_neg]

end Go.Proofs.Ytfjbabacpnnjmaa.Av
