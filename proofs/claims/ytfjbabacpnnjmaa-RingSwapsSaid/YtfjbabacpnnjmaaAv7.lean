/- A logic of small values, and walks in it: code.Pairs. Both ways of judging pairs come to the same. law18.same holds of any programs. code.own and what it calls; there, Room. The Maker: there, Room, Devices, Fresh, Tag, Put. The Maker's Put. The Maker's Programs: a copy. -/
import Derived.Test.YtfjbabacpnnjmaaAv6
set_option linter.unusedVariables false
set_option linter.unusedSimpArgs false
set_option linter.deprecated false
namespace Go.Proofs.Ytfjbabacpnnjmaa.Av
open Go Go.Av
set_option maxRecDepth 20000
set_option maxHeartbeats 4000000

attribute [local go_sem] step_apply
attribute [local go_sem] instr0 instr1 instr2 instr10 instr11 instr12 instrN instrA instr_len node0 node1 node2 node3 node4 node5 node6 nodeA node_len getD_drop List.length_drop splice List.nil_append List.append_nil cond_true cond_false List.set_cons_zero List.length_set aopq aop ev put_some put_none upd_apply abin asNat bounds row1 mk I ints progA progsA List.length_cons List.length_nil List.length_map List.drop_zero List.drop_succ_cons List.drop_nil List.getD_cons_zero List.getD_cons_succ Option.getD_none Option.getD_some
 List.take_succ_cons List.take_zero List.take_nil true_and and_true Int.toNat_natCast if_true if_false Nat.zero_add Nat.add_zero List.map_cons List.map_nil Nat.reduceEqDiff Nat.left_eq_add Nat.add_eq_left Nat.add_left_cancel_iff Nat.add_assoc Nat.reduceSub Nat.reduceAdd Nat.reduceLeDiff Nat.le_refl Nat.zero_le Nat.zero_lt_one Nat.lt_add_one Int.reduceLT Int.reduceLE Int.reduceToNat Nat.reduceLT Nat.reduceBEq Bool.false_eq_true Nat.reduceBNe ne_eq not_false_eq_true not_true_eq_false false_and and_false reduceIte Int.natCast_nonneg reduceCtorEq parts_agg parts_bool parts_int parts_str parts_lit parts_nils parts_sl parts_ptr Int.natCast_nonneg Int.natCast_nonneg beq_self_eq_true bne_self_eq_false St.push St.set St.kill Bool.true_and Bool.false_and Bool.and_true Bool.and_false Bool.true_or Bool.false_or Bool.or_true Bool.or_false Bool.not_true Bool.not_false


def pairsC (l : List (List Instr)) : Int :=
 if rightE l ≠ 0 then rightE l else
 if (!(endsE 3 l l.length).2 || !(endsE 4 l l.length).2) = true then 25 else
 if (endsE 3 l l.length).1.any (fun k => !(endsE 4 l l.length).1.contains k) = true then 22 else
 if ((endsE 3 l l.length).1.length : Int) ≠ (endsE 4 l l.length).1.length then 22 else 0

end Go.Proofs.Ytfjbabacpnnjmaa.Av
namespace Go.Proofs.Ytfjbabacpnnjmaa.Av
open Go Go.Av

def keyL (kind : Int) (d : Nat) (p : List Instr) : List Key := (p.filter fun i => i.kind == kind).map (keyOf kind d)
def keysN (kind : Int) (l : List (List Instr)) (n : Nat) : List Key := (List.range n).flatMap fun d => keyL kind d (l.getD d [])
theorem keysN_succ (kind : Int) (l : List (List Instr)) (n : Nat) : keysN kind l (n + 1) = keysN kind l n ++ keyL kind n (l.getD n []) := by
 simp [keysN, List.range_succ]

theorem keyP_eq (kind : Int) (d : Nat) (p : List Instr) : ∀ st, keyP kind d st p = (keyL kind d p).foldl addK st := by
 induction p with
 | nil => intro st; rfl
 | cons i p ih =>
  intro st
  simp only [keyP, keyL, List.foldl_cons] at ih ⊢
  rw [ih]
  by_cases h : i.kind = kind
  ·simp [h]
  ·have h1 : (i.kind == kind) = false := by simpa using h
   have h2 : (i.kind != kind) = true := by simpa using h
   rw [if_pos h2, List.filter_cons, h1]; simp

theorem endsE_eq (kind : Int) (l : List (List Instr)) (n : Nat) : endsE kind l n = (keysN kind l n).foldl addK ([], true) := by
 induction n with
 | zero => rfl
 | succ n ih => rw [endsE_succ, ih, keyP_eq, keysN_succ, List.foldl_append]

theorem addK_yes (ks : List Key) : ∀ st : List Key × Bool, (st.1 ++ ks).Nodup → ks.foldl addK st = (st.1 ++ ks, st.2) := by
 induction ks with
 | nil => intro st _; simp
 | cons k ks ih =>
  intro st h
  have hk : st.1.contains k = false := by
   rw [Bool.eq_false_iff]; intro hc
   rw [List.nodup_append] at h
   exact h.2.2 k (by simpa using hc) k (by simp) rfl
  have e : addK st k = (st.1 ++ [k], st.2) := by simp only [addK, hk]; simp
  rw [List.foldl_cons, e, ih _ (by simpa using h)]
  simp

theorem addK_false (ks : List Key) : ∀ st : List Key × Bool, st.2 = false → (ks.foldl addK st).2 = false := by
 induction ks with
 | nil => exact fun st h => h
 | cons k ks ih => intro st h; rw [List.foldl_cons]; exact ih _ (by simp [addK, h])

theorem addK_no (ks : List Key) : ∀ st : List Key × Bool, st.1.Nodup → ¬ (st.1 ++ ks).Nodup → (ks.foldl addK st).2 = false := by
 induction ks with
 | nil => intro st h h'; simp at h'; exact absurd h h'
 | cons k ks ih =>
  intro st h h'
  rw [List.foldl_cons]
  cases hk : st.1.contains k
  ·have e : addK st k = (st.1 ++ [k], st.2) := by simp only [addK, hk]; simp
   rw [e]
   refine ih _ ?_ (by simpa using h')
   simp only
   rw [List.nodup_append]
   refine ⟨h, by simp, fun a ha b hb => ?_⟩
   rw [List.mem_singleton.1 hb]
   rintro rfl
   have : st.1.contains a = true := by simpa using ha
   rw [this] at hk; cases hk
  ·refine addK_false ks _ ?_
   simp only [addK]; rw [hk]; simp

theorem ends_yes {kind : Int} {l : List (List Instr)} {n : Nat} (h : (keysN kind l n).Nodup) : endsE kind l n = (keysN kind l n, true) := by
 rw [endsE_eq, addK_yes _ _ (by simpa using h)]; simp
theorem ends_no {kind : Int} {l : List (List Instr)} {n : Nat} (h : ¬ (keysN kind l n).Nodup) : (endsE kind l n).2 = false := by
 rw [endsE_eq]; exact addK_no _ _ (by simp) (by simpa using h)

theorem keyL_count (kind : Int) (d : Nat) (p : List Instr) (k : Key) : (keyL kind d p).count k = p.countP fun i => i.kind == kind && keyOf kind d i == k := by
 rw [keyL, List.count_eq_countP, List.countP_map, List.countP_filter]
 refine List.countP_congr fun i _ => ?_
 simp [Function.comp, and_comm]

theorem keyL_ne {kind : Int} {d : Nat} {p : List Instr} {k : Key} (h : ∀ i : Instr, keyOf kind d i ≠ k) : (keyL kind d p).count k = 0 := by
 rw [keyL_count, List.countP_eq_zero]
 intro i _; simp [h]

theorem count3 (l : List (List Instr)) (n d : Nat) (b c : Int) : (keysN 3 l n).count [(d : Int), b, c] = if d < n then countB (l.getD d []) 3 b c else 0 := by
 induction n with
 | zero => rfl
 | succ n ih =>
  rw [keysN_succ, List.count_append, ih]
  by_cases h : d = n
  ·subst h
   rw [if_neg (by omega), if_pos (by omega), keyL_count, Nat.zero_add]
   refine List.countP_congr fun i _ => ?_
   simp [keyOf, hitB]
  ·rw [keyL_ne (by intro i; simp [keyOf]; omega), Nat.add_zero]
   by_cases h2 : d < n
   ·rw [if_pos h2, if_pos (by omega)]
   ·rw [if_neg h2, if_neg (by omega)]

theorem count4 (l : List (List Instr)) (n d : Nat) (a c : Int) : (keysN 4 l n).count [a, (d : Int), c] = if d < n then countB (l.getD d []) 4 a c else 0 := by
 induction n with
 | zero => rfl
 | succ n ih =>
  rw [keysN_succ, List.count_append, ih]
  by_cases h : d = n
  ·subst h
   rw [if_neg (by omega), if_pos (by omega), keyL_count, Nat.zero_add]
   refine List.countP_congr fun i _ => ?_
   simp [keyOf, hitB]
  ·rw [keyL_ne (by intro i; simp [keyOf]; omega), Nat.add_zero]
   by_cases h2 : d < n
   ·rw [if_pos h2, if_pos (by omega)]
   ·rw [if_neg h2, if_neg (by omega)]

theorem mem_keys {kind : Int} {l : List (List Instr)} {k : Key} (h : k ∈ keysN kind l l.length) : ∃ d i, ∃ (hd : d < l.length), i ∈ l[d] ∧ i.kind = kind ∧ k = keyOf kind d i := by
 simp only [keysN, keyL, List.mem_flatMap, List.mem_range, List.mem_map, List.mem_filter] at h
 obtain ⟨d, hd, i, ⟨hi, hk⟩, rfl⟩ := h
 refine ⟨d, i, hd, ?_, by simpa using hk, rfl⟩
 simpa [List.getD_eq_getElem?_getD, hd] using hi
theorem keys_mem {kind : Int} {l : List (List Instr)} {d : Nat} {i : Instr} (hd : d < l.length) (hi : i ∈ l[d]) (hk : i.kind = kind) : keyOf kind d i ∈ keysN kind l l.length := by
 simp only [keysN, keyL, List.mem_flatMap, List.mem_range, List.mem_map, List.mem_filter]
 exact ⟨d, hd, i, ⟨by simpa [List.getD_eq_getElem?_getD, hd] using hi, by simpa using hk⟩, rfl⟩

theorem getD_at {l : List (List Instr)} {d : Nat} (hd : d < l.length) : l.getD d [] = l[d] := by simp [List.getD_eq_getElem?_getD, hd]

theorem count_own {kind : Int} (h34 : kind = 3 ∨ kind = 4) {l : List (List Instr)} {d : Nat} {i : Instr} (hd : d < l.length) : (keysN kind l l.length).count (keyOf kind d i) = countB l[d] kind i.dev i.tag := by
 rcases h34 with rfl | rfl
 ·rw [show keyOf 3 d i = [(d : Int), i.dev, i.tag] from rfl, count3, if_pos hd, getD_at hd]
 ·rw [show keyOf 4 d i = [i.dev, (d : Int), i.tag] from rfl, count4, if_pos hd, getD_at hd]

theorem nodup_iff {kind : Int} (h34 : kind = 3 ∨ kind = 4) (l : List (List Instr)) : (keysN kind l l.length).Nodup ↔ ∀ d (hd : d < l.length), ∀ i ∈ l[d], i.kind = kind → countB l[d] kind i.dev i.tag ≤ 1 := by
 rw [List.nodup_iff_count]
 constructor
 ·intro h d hd i hi hk
  rw [← count_own h34 hd]; exact h _
 ·intro h k
  by_cases hk : k ∈ keysN kind l l.length
  ·obtain ⟨d, i, hd, hi, hk2, rfl⟩ := mem_keys hk
   rw [count_own h34 hd]; exact h d hd i hi hk2
  ·rw [List.count_eq_zero.2 hk]; omega

theorem dup_iff (l : List (List Instr)) : l.any (fun p => p.any (dupB p)) = true ↔ ¬ ((keysN 3 l l.length).Nodup ∧ (keysN 4 l l.length).Nodup) := by
 rw [nodup_iff (.inl rfl), nodup_iff (.inr rfl)]
 constructor
 ·intro h ⟨h3, h4⟩
  simp only [List.any_eq_true, dupB, Bool.and_eq_true, Bool.or_eq_true, beq_iff_eq, decide_eq_true_eq] at h
  obtain ⟨p, hp, i, hi, hk, hc⟩ := h
  obtain ⟨d, hd, rfl⟩ := List.getElem_of_mem hp
  rcases hk with hk | hk
  ·have := h3 d hd i hi hk; rw [hk] at hc; omega
  ·have := h4 d hd i hi hk; rw [hk] at hc; omega
 ·intro h
  apply Classical.byContradiction
  intro hn
  refine h ⟨fun d hd i hi hk => ?_, fun d hd i hi hk => ?_⟩ <;> apply Classical.byContradiction <;> intro hc <;>
   refine hn (List.any_eq_true.2 ⟨l[d], List.getElem_mem hd, List.any_eq_true.2 ⟨i, hi, ?_⟩⟩) <;>
   simp only [dupB, hk, Bool.and_eq_true, Bool.or_eq_true, beq_iff_eq, decide_eq_true_eq] <;> exact ⟨by simp, by omega⟩

theorem count_other {l : List (List Instr)} (h : rightE l = 0) {d : Nat} {i : Instr} (hd : d < l.length) (hi : i ∈ l[d]) :
  (keysN 4 l l.length).count (keyOf 3 d i) = countB (l.getD i.dev.toNat []) 4 d i.tag ∧ (keysN 3 l l.length).count (keyOf 4 d i) = countB (l.getD i.dev.toNat []) 3 d i.tag := by
 have hr := right_dev h _ (List.getElem_mem hd) i hi
 have e : ((i.dev.toNat : Nat) : Int) = i.dev := Int.toNat_of_nonneg hr.1
 refine ⟨?_, ?_⟩
 ·rw [show keyOf 3 d i = [(d : Int), ((i.dev.toNat : Nat) : Int), i.tag] by rw [e]; rfl, count4, if_pos (by omega)]
 ·rw [show keyOf 4 d i = [((i.dev.toNat : Nat) : Int), (d : Int), i.tag] by rw [e]; rfl, count3, if_pos (by omega)]

theorem miss_iff {l : List (List Instr)} (h : rightE l = 0) (h3 : (keysN 3 l l.length).Nodup) (h4 : (keysN 4 l l.length).Nodup) :
  (List.range l.length).any (fun d => (l.getD d []).any (missB l d)) = true ↔ ¬ ((∀ k ∈ keysN 3 l l.length, k ∈ keysN 4 l l.length) ∧ ∀ k ∈ keysN 4 l l.length, k ∈ keysN 3 l l.length) := by
 have one : ∀ {ks : List Key} {k : Key}, ks.Nodup → (ks.count k = 1 ↔ k ∈ ks) := by
  intro ks k hn
  have := (List.nodup_iff_count.1 hn) k
  rw [← List.count_pos_iff]; omega
 constructor
 ·intro hm ⟨h5, h6⟩
  simp only [List.any_eq_true, List.mem_range, missB, Bool.or_eq_true, Bool.and_eq_true, beq_iff_eq, bne_iff_ne] at hm
  obtain ⟨d, hd, i, hi, hm⟩ := hm
  rw [getD_at hd] at hi
  obtain ⟨q1, q2⟩ := count_other h hd hi
  rcases hm with ⟨hk, hm⟩ | ⟨hk, hm⟩
  ·have := (one h4).2 (h5 _ (keys_mem hd hi hk)); omega
  ·have := (one h3).2 (h6 _ (keys_mem hd hi hk)); omega
 ·intro hm
  apply Classical.byContradiction
  intro hn
  refine hm ⟨fun k hk => ?_, fun k hk => ?_⟩
  ·obtain ⟨d, i, hd, hi, hk2, rfl⟩ := mem_keys hk
   apply Classical.byContradiction
   intro hc
   refine hn (List.any_eq_true.2 ⟨d, by simpa using hd, List.any_eq_true.2 ⟨i, by rw [getD_at hd]; exact hi, ?_⟩⟩)
   have this : ¬ _ = 1 := fun e => hc ((one h4).1 e)
   rw [(count_other h hd hi).1] at this
   simp only [missB, Bool.or_eq_true, Bool.and_eq_true, beq_iff_eq, bne_iff_ne]
   exact .inl ⟨hk2, by omega⟩
  ·obtain ⟨d, i, hd, hi, hk2, rfl⟩ := mem_keys hk
   apply Classical.byContradiction
   intro hc
   refine hn (List.any_eq_true.2 ⟨d, by simpa using hd, List.any_eq_true.2 ⟨i, by rw [getD_at hd]; exact hi, ?_⟩⟩)
   have this : ¬ _ = 1 := fun e => hc ((one h3).1 e)
   rw [(count_other h hd hi).2] at this
   simp only [missB, Bool.or_eq_true, Bool.and_eq_true, beq_iff_eq, bne_iff_ne]
   exact .inr ⟨hk2, by omega⟩

theorem pairs_eq (l : List (List Instr)) : pairsC l = pairsE l := by
 unfold pairsC pairsE
 split
 ·rfl
 rename_i hr
 have hr : rightE l = 0 := by simpa using hr
 by_cases h3 : (keysN 3 l l.length).Nodup
 ·by_cases h4 : (keysN 4 l l.length).Nodup
  ·rw [ends_yes h3, ends_yes h4, if_neg (by simp), if_neg (t := (25 : Int)) (fun h => (dup_iff l).1 h ⟨h3, h4⟩)]
   simp only
   have hm := miss_iff hr h3 h4
   by_cases h5 : ∀ k ∈ keysN 3 l l.length, k ∈ keysN 4 l l.length
   ·rw [if_neg (by simpa using h5)]
    have hle := List.Nodup.length_le_of_subset h3 h5
    by_cases h6 : ∀ k ∈ keysN 4 l l.length, k ∈ keysN 3 l l.length
    ·have hle2 := List.Nodup.length_le_of_subset h4 h6
     rw [if_neg (by omega), if_neg (fun h => hm.1 h ⟨h5, h6⟩)]
    ·rw [if_pos (hm.2 fun h => h6 h.2), if_pos]
     intro he
     have he : (keysN 3 l l.length).length = (keysN 4 l l.length).length := by omega
     refine h6 fun k hk => ?_
     apply Classical.byContradiction
     intro hk3
     have := List.Nodup.length_le_of_subset (List.nodup_cons.2 ⟨hk3, h3⟩) (fun x hx => by
      rcases List.mem_cons.1 hx with rfl | hx
      ·exact hk
      ·exact h5 x hx)
     simp only [List.length_cons] at this
     omega
   ·rw [if_pos (by simpa using h5), if_pos (hm.2 fun h => h5 h.1)]
  ·rw [ends_no h4, if_pos (by simp), if_pos ((dup_iff l).2 fun h => h4 h.2)]
 ·rw [ends_no h3, if_pos (by simp), if_pos ((dup_iff l).2 fun h => h3 h.1)]

end Go.Proofs.Ytfjbabacpnnjmaa.Av
namespace Go.Proofs.Ytfjbabacpnnjmaa.Av
open Go Go.Av
set_option maxRecDepth 20000
set_option maxHeartbeats 4000000

attribute [local go_sem] step_apply stepD_apply stepE_apply
attribute [local go_sem] aopq_mv aopq_pk aopq_al aopq_bx aopq_bd aopq_bs aopq_ld aopq_st aopq_nc aopq_bin aopq_un aopq_cv aopq_mi aopq_mf aopq_mm aopq_ms aopq_sc aopq_fa aopq_fl aopq_ia aopq_lk aopq_mu aopq_lm aopq_rg aopq_en aopq_ta aopq_ex aopq_ln aopq_ap aopq_mx aopq.eq_3 aop.eq_1 aop.eq_2 aop.eq_3 aop.eq_4 aop.eq_5 aop.eq_6 aop.eq_7 aop.eq_8 aop.eq_9 aop_bin atS_apply aop_un_not aop_un_neg aop.eq_14 aop.eq_15 aop.eq_16 aop.eq_17 aop.eq_18 aop_sc cutS_apply cutN_apply cutL_apply cutO_apply aop.eq_20 aop.eq_21 aop.eq_22 aop.eq_23 aop.eq_24 aop.eq_25 aop.eq_26 aop.eq_27 aop.eq_28 aop.eq_29 aop.eq_30 aop.eq_31 aop.eq_32 blk_push next_push blk_set next_set blk_kill next_kill frL_nil frL_cons Fits_nil Fits_cons Int.reduceBEq Int.reduceBNe Nat.sub_zero Option.map_some Option.map_none List.set_cons_succ true_or or_true false_or or_false Int.le_refl Int.cast_ofNat_Int decide_true decide_false List.cons_append fillA fillR rowsOf List.replicate_succ List.replicate_zero Nat.zero_mul getD_drop List.length_drop splice List.nil_append List.append_nil cond_true cond_false List.set_cons_zero List.length_set ev put_some put_none upd_apply abin asNat bounds row1 mk List.length_cons List.length_nil List.length_map List.drop_zero List.drop_succ_cons List.drop_nil List.getD_cons_zero List.getD_cons_succ Option.getD_none Option.getD_some List.take_succ_cons List.take_zero List.take_nil true_and and_true Int.toNat_natCast if_true if_false Nat.zero_add Nat.add_zero List.map_cons List.map_nil Nat.reduceEqDiff Nat.left_eq_add Nat.add_eq_left Nat.add_left_cancel_iff Nat.add_assoc Nat.reduceSub Nat.reduceAdd Nat.reduceLeDiff Nat.le_refl Nat.zero_le Nat.zero_lt_one Nat.lt_add_one Int.reduceLT Int.reduceLE Int.reduceToNat Nat.reduceLT Nat.reduceBEq Bool.false_eq_true Nat.reduceBNe ne_eq not_false_eq_true not_true_eq_false false_and and_false reduceIte Int.natCast_nonneg reduceCtorEq parts_agg parts_bool parts_int parts_str parts_lit parts_nils parts_sl parts_ptr Int.natCast_nonneg Int.natCast_nonneg beq_self_eq_true bne_self_eq_false Bool.true_and Bool.false_and Bool.and_true Bool.and_false Bool.true_or Bool.false_or Bool.or_true Bool.or_false Bool.not_true Bool.not_false
attribute [local go_sem] instr0 instr1 instr2 instr10 instr11 instr12 instrN instrA instr_len node0 node1 node2 node3 node4 node5 node6 nodeA node_len I ints progA progsA

section ret
variable {n0 : Nat} {F : Fr} {σ σ0 : St}
theorem retBc {n b sz : Nat} {row : List AV} {g : Option Nat} {v : AV} {Q : AV → St → Prop} (h : F n = .ptr b 0 0) (hb : σ.blk b = some (.cells sz [row])) (hg : g.getD 1 ≤ sz) (hm : mk g row 0 = v) (wf : σ0.Wf) (hs : ∀ b, b < σ0.next → σ.blk b = σ0.blk b) (hv : v.Lt σ0.next) (hq : Q v σ0) : retQ σ0.next [.c g n] Q .ret F σ :=
 ⟨[v], by simp [resOne, h, hb, hg, hm], v, σ0, .back rfl wf hs hv, hq⟩
end ret

theorem lt_agg {n : Nat} {cs : List AV} (h : ∀ x ∈ cs, x.Lt n) : (AV.agg cs).Lt n := .agg _ fun i hi => by
 rw [List.getD_eq_getElem?_getD, List.getElem?_eq_getElem hi]; exact h _ (List.getElem_mem hi)
theorem lt_tup {n : Nat} {cs : List AV} (h : ∀ x ∈ cs, x.Lt n) : (AV.tup cs).Lt n := .tup _ fun i hi => by
 rw [List.getD_eq_getElem?_getD, List.getElem?_eq_getElem hi]; exact h _ (List.getElem_mem hi)
theorem lt_lit {n sz : Nat} {rows : List (List AV)} (h : ∀ r ∈ rows, ∀ x ∈ r, x.Lt n) : (AV.lit sz rows).Lt n := .lit _ _ fun i j hi hj => by
 have e : rows.getD i [] = rows[i] := by rw [List.getD_eq_getElem?_getD, List.getElem?_eq_getElem hi]; rfl
 rw [e] at hj ⊢
 rw [List.getD_eq_getElem?_getD, List.getElem?_eq_getElem hj]; exact h _ (List.getElem_mem hi) _ (List.getElem_mem hj)
theorem ints_lt {n : Nat} (l : List Int) : (ints l).Lt n := lt_lit (by simp; intro a _; exact .int _ _)
theorem nodeL_lt {n : Nat} (x : Node) : ∀ v ∈ nodeL x, v.Lt n := by
 simp only [nodeL, List.forall_mem_cons, List.not_mem_nil, false_imp_iff, implies_true, and_true]
 exact ⟨.int _ _, ints_lt _, ints_lt _, ints_lt _, .int _ _, .int _ _, .str _⟩
theorem instrL_lt {n : Nat} (x : Instr) : ∀ v ∈ instrL x, v.Lt n := by
 simp only [instrL, List.forall_mem_cons, List.not_mem_nil, false_imp_iff, implies_true, and_true]
 exact ⟨.int _ _, .int _ _, ints_lt _, .int _ _, ints_lt _, ints_lt _, ints_lt _, .int _ _, .int _ _, .str _, .int _ _, .int _ _, .int _ _⟩
theorem progA_lt {n : Nat} (p : List Instr) : (progA p).Lt n := lt_lit (by simp only [List.mem_map]; rintro r ⟨i, _, rfl⟩; exact instrL_lt i)
theorem progsA_lt {n : Nat} (l : List (List Instr)) : (progsA l).Lt n := lt_lit (by simp only [List.mem_map]; rintro r ⟨i, _, rfl⟩ x hx; rw [List.mem_singleton.1 hx]; exact progA_lt i)

theorem frz {P : Program} {n0 : Nat} {c : C} {Q : Exit → Fr → St → Prop} {F : Fr} {σ : St} (i : Nat) {b n sz : Nat} {rows : List (List AV)} (hF : F i = .sl b 0 n) (hb : σ.blk b = some (.cells sz rows)) (hn : n = rows.length)
  (h : SWP P n0 c Q (upd F i (.lit sz rows)) (σ.kill b)) : SWP P n0 c Q F σ := by
 refine .ent (.freeze (i := i) hF hb (by omega)) ?_
 subst hn; simpa using h

/-- slices.Clone -/
theorem clone_spec (l : List Int) (hl : l.length ≤ 2 ^ 20) (σ : St) : T Try.prog 72 [ints l] σ (ints l) σ := by
 refine in72 (by simp) fun wf hab => ?_
 clear hab
 unfold c72
 cases l with
 | nil =>
  refine .nilK 0 (sz := 1) rfl (fun F h0 h1 => ?_) (fun F h0 h1 => ?_)
  ·refine .seq (.rg fun A hA K hK => ?_)
   simp (maxSteps := 1000000) only [go_sem, hA.nil, hA.go, hA.yes, hA.noT, hA.noF, hA.skp]
   refine hK _ _ ?_; clear hK K hA A
   refine .seq (.seq (.rg fun A hA K hK => ?_))
   simp (maxSteps := 1000000) only [go_sem, hA.nil, hA.go, hA.yes, hA.noT, hA.noF, hA.skp, h1]
   refine hK _ _ ?_; clear hK K hA A
   refine .cond (t := true) (by simp (maxSteps := 1000000) only [go_sem]) (fun _ => ?_) (fun h => by cases h)
   refine .seq (.rg fun A hA K hK => ?_)
   simp (maxSteps := 1000000) only [go_sem, hA.nil, hA.go, hA.yes, hA.noT, hA.noF, hA.skp]
   refine hK _ _ ?_; clear hK K hA A
   refine .ent (.lit0 (i := 2) 1 (by simp (maxSteps := 1000000) only [go_sem])) (.ret (retB (by simp (maxSteps := 1000000) only [go_sem]) wf (fun _ _ => rfl) (ints_lt _) ⟨rfl, rfl⟩))
  ·refine .seq (.rg fun A hA K hK => ?_)
   simp (maxSteps := 1000000) only [go_sem, hA.nil, hA.go, hA.yes, hA.noT, hA.noF, hA.skp]
   refine hK _ _ ?_; clear hK K hA A
   refine .seq (.seq (.rg fun A hA K hK => ?_))
   simp (maxSteps := 1000000) only [go_sem, hA.nil, hA.go, hA.yes, hA.noT, hA.noF, hA.skp, h1]
   refine hK _ _ ?_; clear hK K hA A
   refine .cond (t := false) (by simp (maxSteps := 1000000) only [go_sem]) (fun h => by cases h) (fun _ => .skip ?_)
   refine .seq (.rg fun A hA K hK => ?_)
   simp (maxSteps := 1000000) only [go_sem, hA.nil, hA.go, hA.yes, hA.noT, hA.noF, hA.skp, h1]
   refine hK _ _ ?_; clear hK K hA A
   refine frz 2 (b := σ.next) (n := 0) (sz := 1) (rows := []) (by simp (maxSteps := 1000000) only [go_sem]) (by simp (maxSteps := 1000000) only [go_sem]) rfl ?_
   refine .ret (retB (by simp (maxSteps := 1000000) only [go_sem]) wf (fun b hb => ?_) (ints_lt _) ⟨rfl, rfl⟩)
   simp only [go_sem]; rw [if_neg (by omega), if_neg (by omega)]
 | cons x xs =>
  refine .seq (.rg fun A hA K hK => ?_)
  simp (maxSteps := 1000000) only [go_sem, hA.nil, hA.go, hA.yes, hA.noT, hA.noF, hA.skp]
  refine hK _ _ ?_; clear hK K hA A
  refine .seq (.seq (.rg fun A hA K hK => ?_))
  simp (maxSteps := 1000000) only [go_sem, hA.nil, hA.go, hA.yes, hA.noT, hA.noF, hA.skp]
  refine hK _ _ ?_; clear hK K hA A
  refine .cond (t := false) (by simp (maxSteps := 1000000) only [go_sem]) (fun h => by cases h) (fun _ => .skip ?_)
  refine .seq (.rg fun A hA K hK => ?_)
  simp (maxSteps := 1000000) only [go_sem, hA.nil, hA.go, hA.yes, hA.noT, hA.noF, hA.skp]
  simp only [List.length_cons] at hl
  refine ⟨by simp only [most]; omega, by simp only [most]; omega, ?_⟩
  refine hK _ _ ?_; clear hK K hA A
  refine frz 2 (b := σ.next) (n := xs.length + 1) (sz := 1) (rows := [I x] :: xs.map fun n => [I n]) (by simp (maxSteps := 1000000) only [go_sem]) (by simp (maxSteps := 1000000) only [go_sem]) (by simp) ?_
  refine .ret (retB (by simp (maxSteps := 1000000) only [go_sem]) wf (fun b hb => ?_) (ints_lt _) ⟨rfl, rfl⟩)
  simp only [go_sem]; rw [if_neg (by omega), if_neg (by omega)]

def Node.Sm (x : Node) : Prop := x.ins.length ≤ 2 ^ 20 ∧ x.shape.length ≤ 2 ^ 20 ∧ x.a.length ≤ 2 ^ 20
def Instr.Sm (x : Instr) : Prop := x.ins.length ≤ 2 ^ 20 ∧ x.node.Sm

instance (x : Node) : Decidable x.Sm := by unfold Node.Sm; infer_instance
instance (x : Instr) : Decidable x.Sm := by unfold Instr.Sm; infer_instance

/-- graph.CopyNode -/
theorem copyNode_spec (x : Node) (hx : x.Sm) (σ : St) : T Try.prog 102 [.agg (nodeL x)] σ (.agg (nodeL x)) σ := by
 refine in102 (by simp) fun wf hab => ?_
 clear hab
 unfold c102
 refine .seq (.rg fun A hA K hK => ?_)
 simp (maxSteps := 1000000) only [go_sem, hA.nil, hA.go, hA.yes, hA.noT, hA.noF, hA.skp, nodeL]
 refine hK _ _ ?_; clear hK K hA A
 refine .seq (.rd fun A hA K hK => ?_)
 simp (maxSteps := 1000000) only [go_sem, hA.nil, hA.go, hA.yes, hA.noT, hA.noF, hA.skp]
 refine aopq_call (clone_spec x.ins hx.1 _) (by simp (maxSteps := 1000000) only [go_sem]) ?_
 try simp (maxSteps := 1000000) only [go_sem, hA.nil, hA.go, hA.yes, hA.noT, hA.noF, hA.skp]
 refine aopq_call (clone_spec x.shape hx.2.1 _) (by simp (maxSteps := 1000000) only [go_sem]) ?_
 try simp (maxSteps := 1000000) only [go_sem, hA.nil, hA.go, hA.yes, hA.noT, hA.noF, hA.skp]
 refine aopq_call (clone_spec x.a hx.2.2 _) (by simp (maxSteps := 1000000) only [go_sem]) ?_
 try simp (maxSteps := 1000000) only [go_sem, hA.nil, hA.go, hA.yes, hA.noT, hA.noF, hA.skp]
 refine hK _ _ ?_; clear hK K hA A
 refine .seq (.rg fun A hA K hK => ?_)
 simp (maxSteps := 1000000) only [go_sem, hA.nil, hA.go, hA.yes, hA.noT, hA.noF, hA.skp]
 refine hK _ _ ?_; clear hK K hA A
 refine .ret (retBc (b := σ.next + 1) (sz := 7) (row := nodeL x) (by simp (maxSteps := 1000000) only [go_sem]) (by simp (maxSteps := 1000000) only [go_sem, nodeL]) (by simp) rfl wf (fun b hb => ?_) (lt_agg (nodeL_lt x)) ⟨rfl, rfl⟩)
 simp (disch := omega) only [go_sem, if_neg]

/-- code.own -/
theorem own_spec (x : Instr) (hx : x.Sm) (σ : St) : T Try.prog 62 [.agg (instrL x)] σ (.agg (instrL x)) σ := by
 refine in62 (by simp) fun wf hab => ?_
 clear hab
 unfold c62
 refine .seq (.rg fun A hA K hK => ?_)
 simp (maxSteps := 1000000) only [go_sem, hA.nil, hA.go, hA.yes, hA.noT, hA.noF, hA.skp, instrL]
 refine hK _ _ ?_; clear hK K hA A
 refine .seq (.rd fun A hA K hK => ?_)
 simp (maxSteps := 1000000) only [go_sem, hA.nil, hA.go, hA.yes, hA.noT, hA.noF, hA.skp]
 refine aopq_call (clone_spec x.ins hx.1 _) (by simp (maxSteps := 1000000) only [go_sem]) ?_
 try simp (maxSteps := 1000000) only [go_sem, hA.nil, hA.go, hA.yes, hA.noT, hA.noF, hA.skp]
 refine aopq_call (copyNode_spec x.node hx.2 _) (by simp (maxSteps := 1000000) only [go_sem, nodeL]) ?_
 try simp (maxSteps := 1000000) only [go_sem, hA.nil, hA.go, hA.yes, hA.noT, hA.noF, hA.skp, nodeL]
 refine hK _ _ ?_; clear hK K hA A
 refine .seq (.rg fun A hA K hK => ?_)
 simp (maxSteps := 1000000) only [go_sem, hA.nil, hA.go, hA.yes, hA.noT, hA.noF, hA.skp, nodeL]
 refine hK _ _ ?_; clear hK K hA A
 refine .ret (retBc (b := σ.next + 1) (sz := 13) (row := instrL x) (by simp (maxSteps := 1000000) only [go_sem]) (by simp (maxSteps := 1000000) only [go_sem, instrL, nodeL]) (by simp) rfl wf (fun b hb => ?_) (lt_agg (instrL_lt x)) ⟨rfl, rfl⟩)
 simp (disch := omega) only [go_sem, if_neg]

/-- A slice of the walk's own, or nil. -/
def Row1 (o : Nat → Option Nat) (l : Nat) (s : St) (sz : Nat) (v : AV) (rows : List (List AV)) : Prop :=
 (v = .nils ∧ rows = []) ∨ ∃ c, v = .sl c 0 rows.length ∧ o c = some l ∧ s.blk c = some (.cells sz rows)

/-- A Maker in memory. 'o': which blocks are its own, and what for. -/
structure Mk (o : Nat → Option Nat) (s : St) (b bL bR : Nat) (vs : List AV) (ps : List (List Instr)) (rs : List Int) (tg : Int) : Prop where
 own0 : o b = some 0
 ownR : o bR = some 1
 ownL : o bL = some 2
 lt : ∀ c, o c ≠ none → c < s.next
 hb : s.blk b = some (.cells 3 [[.sl bL 0 ps.length, .sl bR 0 rs.length, I tg]])
 hL : s.blk bL = some (.cells 1 (vs.map fun v => [v]))
 hR : s.blk bR = some (.cells 1 (rs.map fun r => [I r]))
 hv : vs.length = ps.length
 hr : rs.length = ps.length
 hd : ∀ d, d < ps.length → Row1 o (3 + d) s 13 (vs.getD d .undef) ((ps.getD d []).map instrL)

/-- What is not its own stays; its own grows by new blocks. -/
def Grow (o : Nat → Option Nat) (σ : St) (o' : Nat → Option Nat) (s : St) : Prop :=
 σ.next ≤ s.next ∧ (∀ c, c < σ.next → o' c = o c) ∧ ∀ c, c < σ.next → o c = none → s.blk c = σ.blk c

theorem Grow.refl (o : Nat → Option Nat) (σ : St) : Grow o σ o σ := ⟨Nat.le_refl _, fun _ _ => rfl, fun _ _ _ => rfl⟩
theorem Grow.trans {o o' o'' : Nat → Option Nat} {σ s t : St} (h : Grow o σ o' s) (h' : Grow o' s o'' t) : Grow o σ o'' t :=
 ⟨Nat.le_trans h.1 h'.1, fun c hc => by rw [h'.2.1 c (Nat.lt_of_lt_of_le hc h.1), h.2.1 c hc], fun c hc ho => by
  rw [h'.2.2 c (Nat.lt_of_lt_of_le hc h.1) (by rw [h.2.1 c hc]; exact ho), h.2.2 c hc ho]⟩

section mk
variable {o : Nat → Option Nat} {σ : St} {b bL bR : Nat} {vs : List AV} {ps : List (List Instr)} {rs : List Int} {tg : Int}
theorem Mk.frame (h : Mk o σ b bL bR vs ps rs tg) {s : St} (hn : σ.next ≤ s.next) (hs : ∀ c, o c ≠ none → s.blk c = σ.blk c) : Mk o s b bL bR vs ps rs tg := by
 refine ⟨h.own0, h.ownR, h.ownL, fun c hc => Nat.lt_of_lt_of_le (h.lt c hc) hn, ?_, ?_, ?_, h.hv, h.hr, fun d hd => ?_⟩
 ·rw [hs b (by rw [h.own0]; simp)]; exact h.hb
 ·rw [hs bL (by rw [h.ownL]; simp)]; exact h.hL
 ·rw [hs bR (by rw [h.ownR]; simp)]; exact h.hR
 ·rcases h.hd d hd with hh | ⟨c, h1, h2, h3⟩
  ·exact .inl hh
  ·exact .inr ⟨c, h1, h2, by rw [hs c (by rw [h2]; simp)]; exact h3⟩

theorem ne_lab {c c' : Nat} {x y : Nat} (h : o c = some x) (h' : o c' = some y) (hne : x ≠ y) : ¬ c = c' := by
 rintro rfl; rw [h] at h'; cases h'; exact hne rfl

/-- code.Maker.there -/
theorem there_spec (hb : σ.blk b = some (.cells 3 [[.sl bL 0 ps.length, .sl bR 0 rs.length, I tg]])) (d : Int) : T Try.prog 60 [.ptr b 0 0, I d] σ (.bool (decide (d ≥ 0) && decide (d < ps.length))) σ := by
 refine in60 (by simp) fun wf hab => ?_
 clear hab
 unfold c60
 repeat' (first | (refine hK _ _ ?_; clear hK K hA A) | (refine hA.cut (by simp (maxSteps := 1000000) only [go_sem, *, hb]; with_reducible rfl) (fun hs => ?_) (fun hs => ?_) <;> simp (maxSteps := 1000000) only [go_sem, hA.nil, hA.go, hA.yes, hA.noT, hA.noF, hA.skp, *, hb]) | (refine .seq (.rg fun A hA K hK => ?_); simp (maxSteps := 1000000) only [go_sem, hA.nil, hA.go, hA.yes, hA.noT, hA.noF, hA.skp, *, hb]) | (refine .seq (.seq (.rg fun A hA K hK => ?_)); simp (maxSteps := 1000000) only [go_sem, hA.nil, hA.go, hA.yes, hA.noT, hA.noF, hA.skp, *, hb]) | (refine .rg fun A hA K hK => ?_; simp (maxSteps := 1000000) only [go_sem, hA.nil, hA.go, hA.yes, hA.noT, hA.noF, hA.skp, *, hb]) | (refine .seq (.rd fun A hA K hK => ?_); simp (maxSteps := 1000000) only [go_sem, hA.nil, hA.go, hA.yes, hA.noT, hA.noF, hA.skp, *, hb]) | (refine .seq (.seq (.rd fun A hA K hK => ?_)); simp (maxSteps := 1000000) only [go_sem, hA.nil, hA.go, hA.yes, hA.noT, hA.noF, hA.skp, *, hb]) | (refine .rd fun A hA K hK => ?_; simp (maxSteps := 1000000) only [go_sem, hA.nil, hA.go, hA.yes, hA.noT, hA.noF, hA.skp, *, hb]) | (refine .cond (t := _) (by simp (maxSteps := 1000000) only [go_sem, *, hb]; with_reducible rfl) (fun hs => ?_) (fun hs => ?_) <;> (first | (cases hs; done) | skip)) | (refine .seq (.cond (t := _) (by simp (maxSteps := 1000000) only [go_sem, *, hb]; with_reducible rfl) (fun hs => ?_) (fun hs => ?_)) <;> (first | (cases hs; done) | skip)) | refine .skip ?_ | refine .seq (.block ?_) | refine .block ?_ | refine .exit ?_ | ((exact .ret (ret1 (by simp (maxSteps := 1000000) only [go_sem, *]) rfl)); done))

/-- code.Maker.Room -/
theorem room_spec (h : Mk o σ b bL bR vs ps rs tg) (d : Int) : T Try.prog 61 [.ptr b 0 0, I d] σ (I (if 0 ≤ d ∧ d < ps.length then IntKind.i64.wrap (65536 - ((ps.getD d.toNat []).length : Nat)) else 0)) σ := by
 refine in61 (by simp) fun wf hab => ?_
 clear hab
 have hb := h.hb
 unfold c61
 refine .seq (.rg fun A hA K hK => ?_)
 simp (maxSteps := 1000000) only [go_sem, hA.nil, hA.go, hA.yes, hA.noT, hA.noF, hA.skp]
 refine hK _ _ ?_; clear hK K hA A
 refine .seq (.seq (.rg fun A hA K hK => ?_))
 simp (maxSteps := 1000000) only [go_sem, hA.nil, hA.go, hA.yes, hA.noT, hA.noF, hA.skp]
 refine aopq_call (there_spec (ps := ps) hb d) (by simp (maxSteps := 1000000) only [go_sem]) ?_
 try simp (maxSteps := 1000000) only [go_sem, hA.nil, hA.go, hA.yes, hA.noT, hA.noF, hA.skp]
 refine hK _ _ ?_; clear hK K hA A
 by_cases hd : 0 ≤ d ∧ d < ps.length
 ·refine .cond (t := false) (by simp [go_sem, hd.1, hd.2]) (fun h => by cases h) (fun _ => .skip ?_)
  have hv := h.hv
  have hL := h.hL
  obtain ⟨k, rfl⟩ := Int.eq_ofNat_of_zero_le hd.1
  have hk : k < ps.length := by omega
  have hkv : k < vs.length := by omega
  have hg : ((vs.map fun v => [v]).getD k []) = [vs.getD k .undef] := by simp [List.getD_eq_getElem?_getD, hkv]
  have e1 : (k : Int) < ps.length := by omega
  rw [if_pos hd]
  rcases h.hd k hk with ⟨h1, h2⟩ | ⟨c, h1, h2, h3⟩
  ·rw [h1] at hg
   have e3 : ps.getD k [] = [] := by simpa using h2
   refine .seq (.rg fun A hA K hK => ?_)
   simp (maxSteps := 1000000) only [go_sem, hA.nil, hA.go, hA.yes, hA.noT, hA.noF, hA.skp, hb, hL, hg, e1, hkv]
   refine hK _ _ ?_; clear hK K hA A
   exact .ret (ret1 (by simp (maxSteps := 1000000) only [go_sem, e3]) rfl)
  ·rw [h1] at hg
   refine .seq (.rg fun A hA K hK => ?_)
   simp (maxSteps := 1000000) only [go_sem, hA.nil, hA.go, hA.yes, hA.noT, hA.noF, hA.skp, hb, hL, hg, e1, hkv]
   refine hK _ _ ?_; clear hK K hA A
   exact .ret (ret1 (by simp (maxSteps := 1000000) only [go_sem]) rfl)
 ·refine .cond (t := true) (by simp only [go_sem]; simp; omega) (fun _ => ?_) (fun h => by cases h)
  refine .seq (.rg fun A hA K hK => ?_)
  simp (maxSteps := 1000000) only [go_sem, hA.nil, hA.go, hA.yes, hA.noT, hA.noF, hA.skp]
  refine hK _ _ ?_; clear hK K hA A
  exact .ret (ret1 (by rw [if_neg hd]; simp (maxSteps := 1000000) only [go_sem]) rfl)

/-- code.Maker.Devices -/
theorem devices_spec (hb : σ.blk b = some (.cells 3 [[.sl bL 0 ps.length, .sl bR 0 rs.length, I tg]])) : T Try.prog 28 [.ptr b 0 0] σ (I ps.length) σ := by
 refine in28 (by simp) fun wf hab => ?_
 clear hab
 unfold c28
 refine .seq (.rg fun A hA K hK => ?_)
 simp (maxSteps := 1000000) only [go_sem, hA.nil, hA.go, hA.yes, hA.noT, hA.noF, hA.skp]
 refine hK _ _ ?_; clear hK K hA A
 refine .seq (.rg fun A hA K hK => ?_)
 simp (maxSteps := 1000000) only [go_sem, hA.nil, hA.go, hA.yes, hA.noT, hA.noF, hA.skp, hb]
 refine hK _ _ ?_; clear hK K hA A
 exact .ret (ret1 (by simp (maxSteps := 1000000) only [go_sem]) rfl)

/-- code.Maker.Tag -/
theorem tag_spec (h : Mk o σ b bL bR vs ps rs tg) (ht : 0 ≤ tg ∧ tg < 2 ^ 62) : TQ Try.prog 25 [.ptr b 0 0] σ fun v s => v = I tg ∧ Mk o s b bL bR vs ps rs (tg + 1) ∧ Grow o σ o s := by
 refine in25 (by simp) fun wf hab => ?_
 clear hab
 have hb := h.hb
 have e1 : IntKind.i64.wrap (tg + 1) = tg + 1 := IntWalk.i64_in _ (by omega)
 have e2 : IntKind.i64.wrap (tg + 1 - 1) = tg := by rw [IntWalk.i64_in _ (by omega)]; omega
 unfold c25
 refine .seq (.rg fun A hA K hK => ?_)
 simp (maxSteps := 1000000) only [go_sem, hA.nil, hA.go, hA.yes, hA.noT, hA.noF, hA.skp]
 refine hK _ _ ?_; clear hK K hA A
 refine .seq (.rg fun A hA K hK => ?_)
 simp (maxSteps := 1000000) only [go_sem, hA.nil, hA.go, hA.yes, hA.noT, hA.noF, hA.skp, hb, e1]
 refine hK _ _ ?_; clear hK K hA A
 refine .seq (.rg fun A hA K hK => ?_)
 simp (maxSteps := 1000000) only [go_sem, hA.nil, hA.go, hA.yes, hA.noT, hA.noF, hA.skp, hb, e2]
 refine hK _ _ ?_; clear hK K hA A
 refine .ret (retS (by simp (maxSteps := 1000000) only [go_sem]) ⟨rfl, ?_, ?_⟩)
 ·have nbL := ne_lab h.ownL h.own0 (by decide)
  have nbR := ne_lab h.ownR h.own0 (by decide)
  refine ⟨h.own0, h.ownR, h.ownL, h.lt, by simp (maxSteps := 1000000) only [go_sem], by simp (maxSteps := 1000000) only [go_sem, nbL]; exact h.hL, by simp (maxSteps := 1000000) only [go_sem, nbR]; exact h.hR, h.hv, h.hr, fun d hd => ?_⟩
  rcases h.hd d hd with hh | ⟨c, h1, h2, h3⟩
  ·exact .inl hh
  ·have := ne_lab h2 h.own0 (by omega)
   exact .inr ⟨c, h1, h2, by simp (maxSteps := 1000000) only [go_sem, this]; exact h3⟩
 ·refine ⟨Nat.le_refl _, fun _ _ => rfl, fun c hc ho => ?_⟩
  have : ¬ c = b := by rintro rfl; rw [h.own0] at ho; cases ho
  simp (maxSteps := 1000000) only [go_sem, this]

theorem regs_get {rs : List Int} {d : Nat} (h : d < rs.length) : (rs.map fun r => [I r]).getD d [] = [I (rs.getD d 0)] := by simp [List.getD_eq_getElem?_getD, h]

/-- code.New -/
theorem new_spec (n : Int) (h1 : 1 ≤ n) (h8 : n ≤ 8) (σ : St) : TQ Try.prog 22 [I n] σ fun v s => ∃ o bb bL bR vs, v = .ptr bb 0 0 ∧ Mk o s bb bL bR vs (List.replicate n.toNat []) (List.replicate n.toNat 0) 0 ∧ σ.next ≤ s.next ∧ (∀ c, o c ≠ none → σ.next ≤ c) ∧ ∀ c, c < σ.next → s.blk c = σ.blk c := by
 refine in22 (by simp) fun wf hab => ?_
 clear hab
 obtain ⟨k, rfl⟩ := Int.eq_ofNat_of_zero_le (show 0 ≤ n by omega)
 have e1 : ¬ ((k : Int) < 1) := by omega
 have e2 : ¬ (8 < (k : Int)) := by omega
 have hm : (k : Int) ≤ most := by simp only [most]; omega
 have hm1 : (k : Int) * 24 ≤ most := by simp only [most]; omega
 have hm2 : (k : Int) * 8 ≤ most := by simp only [most]; omega
 have key : ∀ (s : St) (bL bR bb : Nat), σ.next ≤ bL → σ.next ≤ bR → σ.next ≤ bb → bL ≠ bR → bL ≠ bb → bR ≠ bb → bL < s.next → bR < s.next → bb < s.next → s.blk bb = some (.cells 3 [[.sl bL 0 k, .sl bR 0 k, I 0]]) →
   s.blk bL = some (.cells 1 (List.replicate k [.nils])) → s.blk bR = some (.cells 1 (List.replicate k [I 0])) →
   ∃ o vs, Mk o s bb bL bR vs (List.replicate k []) (List.replicate k 0) 0 ∧ ∀ c, o c ≠ none → σ.next ≤ c := by
  intro s bL bR bb q1 q2 q3 n1 n2 n3 l1 l2 l3 x1 x2 x3
  refine ⟨fun c => if c = bb then some 0 else if c = bR then some 1 else if c = bL then some 2 else none, List.replicate k .nils, ⟨by simp, by simp [n3], by simp [n1, n2], fun c hc => ?_, by simpa using x1, by simpa using x2, by simpa using x3, by simp, by simp, fun d hd => ?_⟩, fun c hc => ?_⟩
  ·by_cases w1 : c = bb; · omega
   by_cases w2 : c = bR; · omega
   by_cases w3 : c = bL; · omega
   simp [w1, w2, w3] at hc
  ·exact .inl ⟨by simp at hd; simp [List.getD_eq_getElem?_getD, hd], by simp at hd; simp [List.getD_eq_getElem?_getD, hd]⟩
  ·by_cases w1 : c = bb; · omega
   by_cases w2 : c = bR; · omega
   by_cases w3 : c = bL; · omega
   simp [w1, w2, w3] at hc
 unfold c22
 refine .seq (.rg fun A hA K hK => ?_)
 simp (maxSteps := 1000000) only [go_sem, hA.nil, hA.go, hA.yes, hA.noT, hA.noF, hA.skp]
 refine hK _ _ ?_; clear hK K hA A
 refine .seq (.seq (.rg fun A hA K hK => ?_))
 simp (maxSteps := 1000000) only [go_sem, hA.nil, hA.go, hA.yes, hA.noT, hA.noF, hA.skp, e1, e2]
 refine hK _ _ ?_; clear hK K hA A
 refine .cond (t := false) (by simp (maxSteps := 1000000) only [go_sem, e1, e2]) (fun h => by cases h) (fun _ => .skip ?_)
 refine .seq (.rdx2 (fun A hA K hK => ?_) (fun A hA K hK => ?_))
 ·simp (maxSteps := 200000) only [go_sem, hA.nil, hA.pur, hA.go, hA.yes, hA.noT, hA.noF, hA.skp, pure_mv, eff_mv, pure_pk, eff_pk, pure_al, eff_al, pure_bx, eff_bx, pure_bd, eff_bd, pure_bs, eff_bs, pure_ld, eff_ld, pure_st, eff_st, pure_nc, eff_nc, pure_bin, eff_bin, pure_un, eff_un, pure_cv, eff_cv, pure_mi, eff_mi, pure_mf, eff_mf, pure_mm, eff_mm, pure_ms, eff_ms, pure_sc, eff_sc, pure_fa, eff_fa, pure_fl, eff_fl, pure_ia, eff_ia, pure_lk, eff_lk, pure_mu, eff_mu, pure_lm, eff_lm, pure_rg, eff_rg, pure_nx, eff_nx, pure_en, eff_en, pure_ta, eff_ta, pure_ex, eff_ex, pure_ln, eff_ln, pure_ap, eff_ap, pure_mx, eff_mx, pure_call, eff_call, pure_callv, eff_callv, chk_nil, chk_cons, again, List.contains_cons, List.contains_nil, hm, hm1, hm2]
  refine hK _ _ ?_; clear hK K hA A
  obtain ⟨o, vs, hk, ho⟩ := key (((σ.push (Blk.cells 1 (List.replicate k [.nils]))).push (Blk.cells 1 (List.replicate k [I 0]))).push (Blk.cells 3 [[.sl σ.next 0 k, .sl (σ.next + 1) 0 k, I 0]])) σ.next (σ.next + 1) (σ.next + 2)
   (by omega) (by omega) (by omega) (by omega) (by omega) (by omega) (by simp (maxSteps := 1000000) only [go_sem]; try omega) (by simp (maxSteps := 1000000) only [go_sem]; try omega) (by simp (maxSteps := 1000000) only [go_sem]; try omega) (by simp (maxSteps := 1000000) only [go_sem]) (by simp (maxSteps := 1000000) only [go_sem]) (by simp (maxSteps := 1000000) only [go_sem])
  refine .ret (retS (by simp (maxSteps := 1000000) only [go_sem]) ⟨o, _, _, _, vs, rfl, hk, by simp (maxSteps := 1000000) only [go_sem]; try omega, ho, fun c hc => ?_⟩)
  simp (disch := omega) only [go_sem, if_neg]
 ·simp (maxSteps := 200000) only [go_sem, hA.nil, hA.pur, hA.go, hA.yes, hA.noT, hA.noF, hA.skp, pure_mv, eff_mv, pure_pk, eff_pk, pure_al, eff_al, pure_bx, eff_bx, pure_bd, eff_bd, pure_bs, eff_bs, pure_ld, eff_ld, pure_st, eff_st, pure_nc, eff_nc, pure_bin, eff_bin, pure_un, eff_un, pure_cv, eff_cv, pure_mi, eff_mi, pure_mf, eff_mf, pure_mm, eff_mm, pure_ms, eff_ms, pure_sc, eff_sc, pure_fa, eff_fa, pure_fl, eff_fl, pure_ia, eff_ia, pure_lk, eff_lk, pure_mu, eff_mu, pure_lm, eff_lm, pure_rg, eff_rg, pure_nx, eff_nx, pure_en, eff_en, pure_ta, eff_ta, pure_ex, eff_ex, pure_ln, eff_ln, pure_ap, eff_ap, pure_mx, eff_mx, pure_call, eff_call, pure_callv, eff_callv, chk_nil, chk_cons, again, List.contains_cons, List.contains_nil, hm, hm1, hm2]
  refine hK _ _ ?_; clear hK K hA A
  obtain ⟨o, vs, hk, ho⟩ := key (((σ.push (Blk.cells 1 (List.replicate k [I 0]))).push (Blk.cells 1 (List.replicate k [.nils]))).push (Blk.cells 3 [[.sl (σ.next + 1) 0 k, .sl σ.next 0 k, I 0]])) (σ.next + 1) σ.next (σ.next + 2)
   (by omega) (by omega) (by omega) (by omega) (by omega) (by omega) (by simp (maxSteps := 1000000) only [go_sem]; try omega) (by simp (maxSteps := 1000000) only [go_sem]; try omega) (by simp (maxSteps := 1000000) only [go_sem]; try omega) (by simp (maxSteps := 1000000) only [go_sem]) (by simp (maxSteps := 1000000) only [go_sem]) (by simp (maxSteps := 1000000) only [go_sem])
  refine .ret (retS (by simp (maxSteps := 1000000) only [go_sem]) ⟨o, _, _, _, vs, rfl, hk, by simp (maxSteps := 1000000) only [go_sem]; try omega, ho, fun c hc => ?_⟩)
  simp (disch := omega) only [go_sem, if_neg]

end mk
section mk
variable {o : Nat → Option Nat} {σ : St} {b bL bR : Nat} {vs : List AV} {ps : List (List Instr)} {rs : List Int} {tg : Int}

theorem vs_get {vs : List AV} {d : Nat} (h : d < vs.length) : (vs.map fun v => [v]).getD d [] = [vs.getD d .undef] := by simp [List.getD_eq_getElem?_getD, h]

/-- A program has grown: its block is a new one. -/
theorem Mk.grow (h : Mk o σ b bL bR vs ps rs tg) {d c' : Nat} (hd : d < ps.length) (p' : List Instr) {s : St} (hc : σ.next ≤ c') (hcs : c' < s.next) (hn : σ.next ≤ s.next)
  (hs : ∀ c, c < σ.next → o c ≠ some (3 + d) → c ≠ bL → s.blk c = σ.blk c) (hL : s.blk bL = some (.cells 1 ((vs.map fun v => [v]).set d [.sl c' 0 p'.length]))) (hc' : s.blk c' = some (.cells 13 (p'.map instrL))) :
  ∃ o' vs', Mk o' s b bL bR vs' (ps.set d p') rs tg ∧ Grow o σ o' s := by
 have lt : ∀ {c x}, o c = some x → c < σ.next := fun hx => h.lt _ (by rw [hx]; simp)
 have nc : ∀ c, c < σ.next → ¬ c = c' := fun c hc2 => by omega
 refine ⟨fun c => if c = c' then some (3 + d) else o c, vs.set d (.sl c' 0 p'.length), ⟨?_, ?_, ?_, fun c hcc => ?_, ?_, ?_, ?_, by simp [h.hv], by simp [h.hr], fun k hk => ?_⟩, hn, fun c hc2 => if_neg (nc c hc2), fun c hc2 ho => ?_⟩
 ·rw [if_neg (nc _ (lt h.own0))]; exact h.own0
 ·rw [if_neg (nc _ (lt h.ownR))]; exact h.ownR
 ·rw [if_neg (nc _ (lt h.ownL))]; exact h.ownL
 ·have hcc : (if c = c' then some (3 + d) else o c) ≠ none := hcc
  by_cases hx : c = c'
  ·omega
  ·rw [if_neg hx] at hcc; exact Nat.lt_of_lt_of_le (h.lt c hcc) hn
 ·rw [hs b (lt h.own0) (by rw [h.own0]; simp; omega) (ne_lab h.own0 h.ownL (by decide)), List.length_set]; exact h.hb
 ·rw [hL, List.map_set]
 ·rw [hs bR (lt h.ownR) (by rw [h.ownR]; simp; omega) (ne_lab h.ownR h.ownL (by decide))]; exact h.hR
 ·have hk' : k < ps.length := by simpa using hk
  by_cases hkd : k = d
  ·subst hkd
   refine .inr ⟨c', ?_, if_pos rfl, ?_⟩
   ·have : k < vs.length := by rw [h.hv]; exact hd
    simp [List.getD_eq_getElem?_getD, this, hd]
   ·simpa [List.getD_eq_getElem?_getD, hd] using hc'
  ·have e1 : (vs.set d (.sl c' 0 p'.length)).getD k .undef = vs.getD k .undef := by
    rw [List.getD_eq_getElem?_getD, List.getElem?_set, if_neg (by omega), ← List.getD_eq_getElem?_getD]
   have e2 : (ps.set d p').getD k [] = ps.getD k [] := by
    rw [List.getD_eq_getElem?_getD, List.getElem?_set, if_neg (by omega), ← List.getD_eq_getElem?_getD]
   rw [e1, e2]
   rcases h.hd k hk' with hh | ⟨c, h1, h2, h3⟩
   ·exact .inl hh
   ·refine .inr ⟨c, h1, (if_neg (nc _ (lt h2))).trans h2, ?_⟩
    rw [hs c (lt h2) (by rw [h2]; simp; omega) (ne_lab h2 h.ownL (by omega))]; exact h3
 ·exact hs c hc2 (by rw [ho]; simp) (by rintro rfl; rw [h.ownL] at ho; cases ho)

end mk
section copy
/-- What is copied so far: the first ones plain, no others yet. -/
def cpRows (ps : List (List Instr)) (i : Nat) : List (List AV) := ((ps.take i).map fun p => [progA p]) ++ List.replicate (ps.length - i) [.nils]
theorem cpRows_len {ps : List (List Instr)} {i : Nat} (h : i ≤ ps.length) : (cpRows ps i).length = ps.length := by simp [cpRows]; omega
theorem cpRows_at (ps : List (List Instr)) (i k : Nat) : (cpRows ps i)[k]? = if k < i then (ps[k]?).map (fun p => [progA p]) else if k < ps.length then some [.nils] else none := by
 simp only [cpRows, List.getElem?_append, List.length_map, List.length_take, List.getElem?_map, List.getElem?_take, List.getElem?_replicate]
 by_cases h1 : k < i
 ·rw [if_pos h1, if_pos h1]
  by_cases h2 : k < ps.length
  ·rw [if_pos (by omega)]
  ·rw [if_neg (by omega), if_neg (by omega), List.getElem?_eq_none (by omega)]; rfl
 ·rw [if_neg (by omega), if_neg h1]
  by_cases h2 : k < ps.length
  ·rw [if_pos (by omega), if_pos h2]
  ·rw [if_neg (by omega), if_neg h2]
theorem cpRows_get {ps : List (List Instr)} {i : Nat} (h : i < ps.length) : (cpRows ps i).getD i [] = [.nils] := by
 rw [List.getD_eq_getElem?_getD, cpRows_at, if_neg (by omega), if_pos h]; rfl
theorem cpRows_set {ps : List (List Instr)} {i : Nat} (h : i < ps.length) : (cpRows ps i).set i [progA ps[i]] = cpRows ps (i + 1) := by
 refine List.ext_getElem? fun k => ?_
 rw [List.getElem?_set, cpRows_at, cpRows_at, cpRows_len (by omega)]
 by_cases hk : i = k
 ·subst hk; rw [if_pos rfl, if_pos h, if_pos (by omega), List.getElem?_eq_getElem h]; rfl
 ·rw [if_neg hk]
  by_cases h1 : k < i
  ·rw [if_pos h1, if_pos (by omega)]
  ·rw [if_neg h1, if_neg (show ¬ k < i + 1 by omega)]
theorem cpRows_all (ps : List (List Instr)) : cpRows ps ps.length = ps.map fun p => [progA p] := by simp [cpRows]
theorem set_get {l : List (List AV)} {i : Nat} (h : i < l.length) (x : List AV) : (l.set i x).getD i [] = x := by simp [List.getD_eq_getElem?_getD, h]

variable {o : Nat → Option Nat} {σ : St} {b bL bR : Nat} {vs : List AV} {ps : List (List Instr)} {rs : List Int} {tg : Int}
/-- code.Copy -/
theorem copy_spec (h : Mk o σ b bL bR vs ps rs tg) (hsm : ∀ p ∈ ps, p.length ≤ 2 ^ 20 ∧ ∀ i ∈ p, i.Sm) (hn : ps.length ≤ 2 ^ 20) : T Try.prog 64 [.sl bL 0 ps.length] σ (progsA ps) σ := by
 refine in64 (by simp) fun wf hab => ?_
 clear hab
 have ltL : bL < σ.next := h.lt _ (by rw [h.ownL]; simp)
 have hL := h.hL
 have hv := h.hv
 have m0 : (ps.length : Int) ≤ most := by simp only [most]; omega
 have m1 : (ps.length : Int) * 24 ≤ most := by simp only [most]; omega
 unfold c64
 refine .seq (.rg fun A hA K hK => ?_)
 simp (maxSteps := 1000000) only [go_sem, hA.nil, hA.go, hA.yes, hA.noT, hA.noF, hA.skp]
 refine hK _ _ ?_; clear hK K hA A
 refine .seq (.rg fun A hA K hK => ?_)
 simp (maxSteps := 1000000) only [go_sem, hA.nil, hA.go, hA.yes, hA.noT, hA.noF, hA.skp, m0, m1]
 refine hK _ _ ?_; clear hK K hA A
 refine .seq (.seq (.rg fun A hA K hK => ?_))
 simp (maxSteps := 1000000) only [go_sem, hA.nil, hA.go, hA.yes, hA.noT, hA.noF, hA.skp]
 refine hK _ _ ?_; clear hK K hA A
 refine .rangeK (N := ps.length) (fun i L s => L = [(3, .sl σ.next 0 ps.length), (11, .sl bL 0 ps.length), (12, I ps.length), (13, I i)] ∧ s.blk σ.next = some (.cells 1 (cpRows ps i)) ∧ σ.next < s.next ∧ ∀ c, c < σ.next → s.blk c = σ.blk c) (by simp only [most]; omega)
  ⟨_, ⟨rfl, by simp (maxSteps := 1000000) only [go_sem, cpRows, Nat.sub_zero], by simp (maxSteps := 1000000) only [go_sem], fun c hc => ?_⟩, by simp (maxSteps := 1000000) only [go_sem]; try rfl⟩ ?_ ?_ ?_
 ·simp (disch := omega) only [go_sem, if_neg]
 ·rintro i L s ⟨rfl, _⟩
  exact ⟨by simp (maxSteps := 1000000) only [go_sem], by simp (maxSteps := 1000000) only [go_sem], rfl⟩
 ·rintro i L s hi ⟨rfl, hb3, hnx, hx⟩
  have hiv : i < vs.length := by omega
  have e0 : (i : Int) < ps.length := by omega
  have hg := vs_get hiv
  have hL' : s.blk bL = some (.cells 1 (vs.map fun v => [v])) := by rw [hx bL ltL]; exact hL
  have hp := hsm ps[i] (List.getElem_mem hi)
  have hgd : ps.getD i [] = ps[i] := by simp [List.getD_eq_getElem?_getD, hi]
  have hrl : (cpRows ps i).length = ps.length := cpRows_len (by omega)
  -- the round's end: what was put together is plain
  have fin : ∀ (s2 : St) (p : List Instr) (F : Fr), p = ps[i] → Fits F [(3, .sl σ.next 0 ps.length), (11, .sl bL 0 ps.length), (12, I ps.length), (13, I i)] → σ.next < s2.next → (∀ c, c < σ.next → s2.blk c = σ.blk c) →
    s2.blk σ.next = some (.cells 1 ((cpRows ps i).set i [progA p])) → ∃ L, (L = [(3, .sl σ.next 0 ps.length), (11, .sl bL 0 ps.length), (12, I ps.length), (13, I (i + 1 : Nat))] ∧ s2.blk σ.next = some (.cells 1 (cpRows ps (i + 1))) ∧ σ.next < s2.next ∧ ∀ c, c < σ.next → s2.blk c = σ.blk c) ∧ Fits (upd (upd F 36 (I (i + 1 : Nat))) 13 (I (i + 1 : Nat))) L := by
   rintro s2 p F rfl hf h1 h2 h3
   refine ⟨_, ⟨rfl, by rw [h3, cpRows_set hi], h1, h2⟩, ?_⟩
   have hf := hf
   simp (maxSteps := 1000000) only [go_sem] at hf
   simp (maxSteps := 1000000) only [go_sem, hf]
  rcases h.hd i hi with ⟨q1, q2⟩ | ⟨c, q1, q2, q3⟩
  ·rw [q1] at hg
   have e3 : ps[i] = [] := by rw [hgd] at q2; simpa using q2
   refine .seq (.rg fun A hA K hK => ?_)
   simp (maxSteps := 1000000) only [go_sem, hA.nil, hA.go, hA.yes, hA.noT, hA.noF, hA.skp, hL', hg, hiv, e0]
   refine hK _ _ ?_; clear hK K hA A
   refine .seq (.rg fun A hA K hK => ?_)
   simp (maxSteps := 1000000) only [go_sem, hA.nil, hA.go, hA.yes, hA.noT, hA.noF, hA.skp]
   refine hK _ _ ?_; clear hK K hA A
   refine .entQ (.rangeK (N := 0) (fun n L s2 => L = [(3, .sl σ.next 0 ps.length), (11, .sl bL 0 ps.length), (12, I ps.length), (13, I i), (19, I 0), (20, I n)] ∧ s2 = s) (by decide) ⟨_, ⟨rfl, rfl⟩, by simp (maxSteps := 1000000) only [go_sem]; try rfl⟩ ?_ ?_ ?_)
   ·rintro n L s2 ⟨rfl, _⟩
    exact ⟨by simp (maxSteps := 1000000) only [go_sem], by simp (maxSteps := 1000000) only [go_sem], rfl⟩
   ·intro n L s2 hlt; omega
   ·rintro L s2 F ⟨rfl, rfl⟩ hf
    simp (maxSteps := 1000000) only [go_sem] at hf
    refine ⟨_, _, .litAt σ.next i 13 hb3 (by omega) (cpRows_get hi), by simp (maxSteps := 1000000) only [go_sem, hf], fin _ [] F e3.symm (by simp (maxSteps := 1000000) only [go_sem, hf]) (by first | exact hnx | (simp (maxSteps := 1000000) only [go_sem]; exact hnx)) (fun c hc => ?_) ?_⟩
    ·simp (disch := omega) only [go_sem, if_neg, hx c hc]
    ·simp (maxSteps := 1000000) only [go_sem]
     try rfl
  ·rw [q1] at hg
   rw [hgd] at q3 hg
   have ltc : c < σ.next := h.lt _ (by rw [q2]; simp)
   have hpl : ps[i].length ≤ most := by have := hp.1; simp only [most]; omega
   refine .seq (.rg fun A hA K hK => ?_)
   simp (maxSteps := 1000000) only [go_sem, hA.nil, hA.go, hA.yes, hA.noT, hA.noF, hA.skp, hL', hg, hiv, e0]
   refine hK _ _ ?_; clear hK K hA A
   refine .seq (.rg fun A hA K hK => ?_)
   simp (maxSteps := 1000000) only [go_sem, hA.nil, hA.go, hA.yes, hA.noT, hA.noF, hA.skp]
   refine hK _ _ ?_; clear hK K hA A
   refine .entQ (.rangeK (N := ps[i].length) (fun n L s2 => L = [(3, .sl σ.next 0 ps.length), (4, I i), (11, .sl bL 0 ps.length), (12, I ps.length), (13, I i), (18, .sl c 0 ps[i].length), (19, I ps[i].length), (20, I n)] ∧
    (∃ w, s2.blk σ.next = some (.cells 1 ((cpRows ps i).set i [w])) ∧ (n = 0 ∧ w = .nils ∨ ∃ c', w = .sl c' 0 n ∧ σ.next < c' ∧ c' < s2.next ∧ s2.blk c' = some (.cells 13 ((ps[i].take n).map instrL)))) ∧ σ.next < s2.next ∧ ∀ c, c < σ.next → s2.blk c = σ.blk c) hpl
    ⟨_, ⟨rfl, ⟨.nils, ?_, .inl ⟨rfl, rfl⟩⟩, hnx, hx⟩, by simp (maxSteps := 1000000) only [go_sem, List.length_map]; try rfl⟩ ?_ ?_ ?_)
   ·rw [hb3]
    have : (cpRows ps i).set i [.nils] = cpRows ps i := by
     refine List.ext_getElem? fun k => ?_
     rw [List.getElem?_set]
     split
     ·rename_i hk; subst hk; rw [if_pos (by omega), cpRows_at, if_neg (by omega), if_pos hi]
     ·rfl
    rw [this]
   ·rintro n L s2 ⟨rfl, _⟩
    exact ⟨by simp (maxSteps := 1000000) only [go_sem], by simp (maxSteps := 1000000) only [go_sem], rfl⟩
   ·rintro n L s2 hlt ⟨rfl, ⟨w, hw, hcase⟩, hn2, hx2⟩
    have hc2 : s2.blk c = some (.cells 13 (ps[i].map instrL)) := by rw [hx2 c ltc]; exact q3
    have e4 : (n : Int) < ps[i].length := by omega
    have hgn := prog_get hlt
    have e5 : ¬ σ.next = s2.next := by omega
    have e50 : ¬ σ.next = s2.next + 1 := by omega
    have hrl' : i < ((cpRows ps i).set i [w]).length := by simp; omega
    have hgw := set_get (l := cpRows ps i) (i := i) (by omega) [w]
    refine .seq (.rg fun A hA K hK => ?_)
    simp (maxSteps := 1000000) only [go_sem, hA.nil, hA.go, hA.yes, hA.noT, hA.noF, hA.skp, hc2, e4, hgn, hlt]
    refine hK _ _ ?_; clear hK K hA A
    have hsm' := hp.2 _ (List.getElem_mem hlt)
    have htk : List.map instrL (ps[i].take (n + 1)) = List.map instrL (ps[i].take n) ++ [instrL ps[i][n]] := by
     rw [List.take_add_one, List.getElem?_eq_getElem hlt, List.map_append]; rfl
    rcases hcase with ⟨rfl, rfl⟩ | ⟨c', rfl, g1, g2, g3⟩
    ·refine .rd fun A hA K hK => ?_
     simp (maxSteps := 1000000) only [go_sem, hA.nil, hA.go, hA.yes, hA.noT, hA.noF, hA.skp, e0, e5, e50, hw, hgw, hrl, hi]
     refine aopq_call (own_spec _ hsm' _) (by simp (maxSteps := 1000000) only [go_sem, e0, e5, e50, hw, hgw, hrl, hi]) ?_
     try simp (maxSteps := 1000000) only [go_sem, hA.nil, hA.go, hA.yes, hA.noT, hA.noF, hA.skp, e0, e5, e50, hw, hgw, hrl, hi]
     refine ⟨by decide, by decide, ?_⟩
     refine hK _ _ ?_; clear hK K hA A
     refine ⟨by simp (maxSteps := 1000000) only [go_sem], _, ⟨rfl, ⟨.sl (s2.next + 1) 0 1, ?_, .inr ⟨_, rfl, by omega, by simp (maxSteps := 1000000) only [go_sem]; try omega, ?_⟩⟩, by simp (maxSteps := 1000000) only [go_sem]; try omega, fun c2 hc => ?_⟩, by simp (maxSteps := 1000000) only [go_sem]⟩
     ·simp (maxSteps := 1000000) only [go_sem, List.set_set]
     ·have e7 : ¬ s2.next + 1 = σ.next := by omega
      simp (maxSteps := 1000000) only [go_sem, e7, htk]
     ·simp (disch := omega) only [go_sem, if_neg, hx2 c2 hc]
    ·have e7 : ¬ σ.next = c' := by omega
     have e8 : ¬ c' = s2.next := by omega
     have e9 : min n ps[i].length = n := by omega
     have m2 : n + 1 ≤ most := by have := hp.1; simp only [most]; omega
     have m3 : (n + 1) * 176 ≤ most := by have := hp.1; simp only [most]; omega
     have ht : List.take n (List.map instrL (ps[i].take n)) = List.map instrL (ps[i].take n) := List.take_of_length_le (by simp; omega)
     refine .rd fun A hA K hK => ?_
     simp (maxSteps := 1000000) only [go_sem, hA.nil, hA.go, hA.yes, hA.noT, hA.noF, hA.skp, e0, e5, e7, e8, hw, hgw, hrl, hi, g3]
     refine aopq_call (own_spec _ hsm' _) (by simp (maxSteps := 1000000) only [go_sem, e0, e5, e50, e7, e8, e9, hw, hgw, hrl, hi, g3, m2, m3, ht, List.length_take]) ?_
     try simp (maxSteps := 1000000) only [go_sem, hA.nil, hA.go, hA.yes, hA.noT, hA.noF, hA.skp, e0, e5, e50, e7, e8, e9, hw, hgw, hrl, hi, g3, m2, m3, ht, List.length_take]
     refine hK _ _ ?_; clear hK K hA A
     have e10 : ¬ s2.next + 1 = σ.next := by omega
     have e11 : ¬ s2.next + 1 = c' := by omega
     refine ⟨by simp (maxSteps := 1000000) only [go_sem], _, ⟨rfl, ⟨.sl (s2.next + 1) 0 (n + 1), ?_, .inr ⟨_, rfl, by omega, by simp (maxSteps := 1000000) only [go_sem]; try omega, ?_⟩⟩, by simp (maxSteps := 1000000) only [go_sem]; try omega, fun c2 hc => ?_⟩, by simp (maxSteps := 1000000) only [go_sem]⟩
     ·simp (maxSteps := 1000000) only [go_sem, List.set_set]
     ·simp (maxSteps := 1000000) only [go_sem, e10, e11, htk]
     ·simp (disch := omega) only [go_sem, if_neg, hx2 c2 hc]
   ·rintro L s2 F ⟨rfl, ⟨w, hw, hcase⟩, hn2, hx2⟩ hf
    simp (maxSteps := 1000000) only [go_sem] at hf
    rcases hcase with ⟨e3, rfl⟩ | ⟨c', rfl, g1, g2, g3⟩
    ·have e4 : ps[i] = [] := List.length_eq_zero_iff.1 e3
     refine ⟨_, _, .litAt σ.next i 13 hw (by simp; omega) (set_get (by omega) _), by simp (maxSteps := 1000000) only [go_sem, hf], fin _ [] F e4.symm (by simp (maxSteps := 1000000) only [go_sem, hf]) (by first | exact hn2 | (simp (maxSteps := 1000000) only [go_sem]; exact hn2)) (fun c hc => ?_) ?_⟩
     ·simp (disch := omega) only [go_sem, if_neg, hx2 c hc]
     ·simp (maxSteps := 1000000) only [go_sem, List.set_set]
      try rfl
    ·rw [List.take_length] at g3
     refine ⟨_, _, .frzAt σ.next i hw (by simp; omega) (set_get (by omega) _) g3 (by omega) (by simp), by simp (maxSteps := 1000000) only [go_sem, hf], fin _ ps[i] F rfl (by simp (maxSteps := 1000000) only [go_sem, hf]) (by first | exact hn2 | (simp (maxSteps := 1000000) only [go_sem]; exact hn2)) (fun c hc => ?_) ?_⟩
     ·simp (disch := omega) only [go_sem, if_neg, hx2 c hc]
     ·simp (maxSteps := 1000000) only [go_sem, List.set_set]
      try rfl
 ·rintro L s F ⟨rfl, hb3, hnx, hx⟩ hf
  simp (maxSteps := 1000000) only [go_sem] at hf
  rw [cpRows_all] at hb3
  refine .seq (.rg fun A hA K hK => ?_)
  simp (maxSteps := 1000000) only [go_sem, hA.nil, hA.go, hA.yes, hA.noT, hA.noF, hA.skp, hf]
  refine hK _ _ ?_; clear hK K hA A
  refine .frz 2 (b := σ.next) (n := ps.length) (by simp (maxSteps := 1000000) only [go_sem, hf]) hb3 (by simp) (.ret (retB (by simp (maxSteps := 1000000) only [go_sem]; try rfl) wf (fun c hc => ?_) (progsA_lt ps) ⟨rfl, rfl⟩))
  simp (disch := omega) only [go_sem, if_neg, hx c hc]
end copy
end Go.Proofs.Ytfjbabacpnnjmaa.Av
