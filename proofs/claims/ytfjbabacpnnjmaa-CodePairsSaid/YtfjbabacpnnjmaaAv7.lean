/- A logic of small values, and walks in it: Both ways of judging pairs come to the same. For the walks: steps that stop at calls; frames told by the slots that are looked at later; states told by what lies in them. law18.same holds of any programs. code.own and what it calls; there, Room. The Maker: there, Room, Devices, Fresh, Tag, Put. -/
import Derived.Test.YtfjbabacpnnjmaaAv6
set_option linter.unusedVariables false
set_option linter.unusedSimpArgs false
set_option linter.deprecated false
namespace Go.Proofs.Ytfjbabacpnnjmaa.Av
open Go Go.Av

def keyL (kind : Int) (d : Nat) (p : List Instr) : List Key := (p.filter fun i => i.kind == kind).map (keyOf kind d)
def keysN (kind : Int) (l : List (List Instr)) (n : Nat) : List Key := (List.range n).flatMap fun d => keyL kind d (l.getD d [])
theorem keysN_succ (kind : Int) (l : List (List Instr)) (n : Nat) : keysN kind l (n + 1) = keysN kind l n ++ keyL kind n (l.getD n []) := by
  simp [keysN, List.range_succ]

theorem keyP_eq (kind : Int) (d : Nat) (p : List Instr) : ∀ st, keyP kind d st p = (keyL kind d p).foldl addK st := by
  induction p with
  | nil => intro st; rfl
  | cons i p ih =>
    intro st
    simp only [keyP, keyL, List.foldl_cons] at ih ⊢
    rw [ih]
    by_cases h : i.kind = kind
    · simp [h]
    · have h1 : (i.kind == kind) = false := by simpa using h
      have h2 : (i.kind != kind) = true := by simpa using h
      rw [if_pos h2, List.filter_cons, h1]; simp

theorem endsE_eq (kind : Int) (l : List (List Instr)) (n : Nat) : endsE kind l n = (keysN kind l n).foldl addK ([], true) := by
  induction n with
  | zero => rfl
  | succ n ih => rw [endsE_succ, ih, keyP_eq, keysN_succ, List.foldl_append]

theorem addK_yes (ks : List Key) : ∀ st : List Key × Bool, (st.1 ++ ks).Nodup → ks.foldl addK st = (st.1 ++ ks, st.2) := by
  induction ks with
  | nil => intro st _; simp
  | cons k ks ih =>
    intro st h
    have hk : st.1.contains k = false := by
      rw [Bool.eq_false_iff]; intro hc
      rw [List.nodup_append] at h
      exact h.2.2 k (by simpa using hc) k (by simp) rfl
    have e : addK st k = (st.1 ++ [k], st.2) := by simp only [addK, hk]; simp
    rw [List.foldl_cons, e, ih _ (by simpa using h)]
    simp

theorem addK_false (ks : List Key) : ∀ st : List Key × Bool, st.2 = false → (ks.foldl addK st).2 = false := by
  induction ks with
  | nil => exact fun st h => h
  | cons k ks ih => intro st h; rw [List.foldl_cons]; exact ih _ (by simp [addK, h])

theorem addK_no (ks : List Key) : ∀ st : List Key × Bool, st.1.Nodup → ¬ (st.1 ++ ks).Nodup → (ks.foldl addK st).2 = false := by
  induction ks with
  | nil => intro st h h'; simp at h'; exact absurd h h'
  | cons k ks ih =>
    intro st h h'
    rw [List.foldl_cons]
    cases hk : st.1.contains k
    · have e : addK st k = (st.1 ++ [k], st.2) := by simp only [addK, hk]; simp
      rw [e]
      refine ih _ ?_ (by simpa using h')
      simp only
      rw [List.nodup_append]
      refine ⟨h, by simp, fun a ha b hb => ?_⟩
      rw [List.mem_singleton.1 hb]
      rintro rfl
      have : st.1.contains a = true := by simpa using ha
      rw [this] at hk; cases hk
    · refine addK_false ks _ ?_
      simp only [addK]; rw [hk]; simp

theorem ends_yes {kind : Int} {l : List (List Instr)} {n : Nat} (h : (keysN kind l n).Nodup) : endsE kind l n = (keysN kind l n, true) := by
  rw [endsE_eq, addK_yes _ _ (by simpa using h)]; simp
theorem ends_no {kind : Int} {l : List (List Instr)} {n : Nat} (h : ¬ (keysN kind l n).Nodup) : (endsE kind l n).2 = false := by
  rw [endsE_eq]; exact addK_no _ _ (by simp) (by simpa using h)

theorem keyL_count (kind : Int) (d : Nat) (p : List Instr) (k : Key) : (keyL kind d p).count k = p.countP fun i => i.kind == kind && keyOf kind d i == k := by
  rw [keyL, List.count_eq_countP, List.countP_map, List.countP_filter]
  refine List.countP_congr fun i _ => ?_
  simp [Function.comp, and_comm]

theorem keyL_ne {kind : Int} {d : Nat} {p : List Instr} {k : Key} (h : ∀ i : Instr, keyOf kind d i ≠ k) : (keyL kind d p).count k = 0 := by
  rw [keyL_count, List.countP_eq_zero]
  intro i _; simp [h]

theorem count3 (l : List (List Instr)) (n d : Nat) (b c : Int) : (keysN 3 l n).count [(d : Int), b, c] = if d < n then countB (l.getD d []) 3 b c else 0 := by
  induction n with
  | zero => rfl
  | succ n ih =>
    rw [keysN_succ, List.count_append, ih]
    by_cases h : d = n
    · subst h
      rw [if_neg (by omega), if_pos (by omega), keyL_count, Nat.zero_add]
      refine List.countP_congr fun i _ => ?_
      simp [keyOf, hitB]
    · rw [keyL_ne (by intro i; simp [keyOf]; omega), Nat.add_zero]
      by_cases h2 : d < n
      · rw [if_pos h2, if_pos (by omega)]
      · rw [if_neg h2, if_neg (by omega)]

theorem count4 (l : List (List Instr)) (n d : Nat) (a c : Int) : (keysN 4 l n).count [a, (d : Int), c] = if d < n then countB (l.getD d []) 4 a c else 0 := by
  induction n with
  | zero => rfl
  | succ n ih =>
    rw [keysN_succ, List.count_append, ih]
    by_cases h : d = n
    · subst h
      rw [if_neg (by omega), if_pos (by omega), keyL_count, Nat.zero_add]
      refine List.countP_congr fun i _ => ?_
      simp [keyOf, hitB]
    · rw [keyL_ne (by intro i; simp [keyOf]; omega), Nat.add_zero]
      by_cases h2 : d < n
      · rw [if_pos h2, if_pos (by omega)]
      · rw [if_neg h2, if_neg (by omega)]

theorem mem_keys {kind : Int} {l : List (List Instr)} {k : Key} (h : k ∈ keysN kind l l.length) : ∃ d i, ∃ (hd : d < l.length), i ∈ l[d] ∧ i.kind = kind ∧ k = keyOf kind d i := by
  simp only [keysN, keyL, List.mem_flatMap, List.mem_range, List.mem_map, List.mem_filter] at h
  obtain ⟨d, hd, i, ⟨hi, hk⟩, rfl⟩ := h
  refine ⟨d, i, hd, ?_, by simpa using hk, rfl⟩
  simpa [List.getD_eq_getElem?_getD, hd] using hi
theorem keys_mem {kind : Int} {l : List (List Instr)} {d : Nat} {i : Instr} (hd : d < l.length) (hi : i ∈ l[d]) (hk : i.kind = kind) : keyOf kind d i ∈ keysN kind l l.length := by
  simp only [keysN, keyL, List.mem_flatMap, List.mem_range, List.mem_map, List.mem_filter]
  exact ⟨d, hd, i, ⟨by simpa [List.getD_eq_getElem?_getD, hd] using hi, by simpa using hk⟩, rfl⟩

theorem getD_at {l : List (List Instr)} {d : Nat} (hd : d < l.length) : l.getD d [] = l[d] := by simp [List.getD_eq_getElem?_getD, hd]

theorem count_own {kind : Int} (h34 : kind = 3 ∨ kind = 4) {l : List (List Instr)} {d : Nat} {i : Instr} (hd : d < l.length) : (keysN kind l l.length).count (keyOf kind d i) = countB l[d] kind i.dev i.tag := by
  rcases h34 with rfl | rfl
  · rw [show keyOf 3 d i = [(d : Int), i.dev, i.tag] from rfl, count3, if_pos hd, getD_at hd]
  · rw [show keyOf 4 d i = [i.dev, (d : Int), i.tag] from rfl, count4, if_pos hd, getD_at hd]

theorem nodup_iff {kind : Int} (h34 : kind = 3 ∨ kind = 4) (l : List (List Instr)) : (keysN kind l l.length).Nodup ↔ ∀ d (hd : d < l.length), ∀ i ∈ l[d], i.kind = kind → countB l[d] kind i.dev i.tag ≤ 1 := by
  rw [List.nodup_iff_count]
  constructor
  · intro h d hd i hi hk
    rw [← count_own h34 hd]; exact h _
  · intro h k
    by_cases hk : k ∈ keysN kind l l.length
    · obtain ⟨d, i, hd, hi, hk2, rfl⟩ := mem_keys hk
      rw [count_own h34 hd]; exact h d hd i hi hk2
    · rw [List.count_eq_zero.2 hk]; omega

theorem dup_iff (l : List (List Instr)) : l.any (fun p => p.any (dupB p)) = true ↔ ¬ ((keysN 3 l l.length).Nodup ∧ (keysN 4 l l.length).Nodup) := by
  rw [nodup_iff (.inl rfl), nodup_iff (.inr rfl)]
  constructor
  · intro h ⟨h3, h4⟩
    simp only [List.any_eq_true, dupB, Bool.and_eq_true, Bool.or_eq_true, beq_iff_eq, decide_eq_true_eq] at h
    obtain ⟨p, hp, i, hi, hk, hc⟩ := h
    obtain ⟨d, hd, rfl⟩ := List.getElem_of_mem hp
    rcases hk with hk | hk
    · have := h3 d hd i hi hk; rw [hk] at hc; omega
    · have := h4 d hd i hi hk; rw [hk] at hc; omega
  · intro h
    apply Classical.byContradiction
    intro hn
    refine h ⟨fun d hd i hi hk => ?_, fun d hd i hi hk => ?_⟩ <;> apply Classical.byContradiction <;> intro hc <;>
      refine hn (List.any_eq_true.2 ⟨l[d], List.getElem_mem hd, List.any_eq_true.2 ⟨i, hi, ?_⟩⟩) <;>
      simp only [dupB, hk, Bool.and_eq_true, Bool.or_eq_true, beq_iff_eq, decide_eq_true_eq] <;> exact ⟨by simp, by omega⟩

theorem count_other {l : List (List Instr)} (h : rightE l = 0) {d : Nat} {i : Instr} (hd : d < l.length) (hi : i ∈ l[d]) :
    (keysN 4 l l.length).count (keyOf 3 d i) = countB (l.getD i.dev.toNat []) 4 d i.tag ∧ (keysN 3 l l.length).count (keyOf 4 d i) = countB (l.getD i.dev.toNat []) 3 d i.tag := by
  have hr := right_dev h _ (List.getElem_mem hd) i hi
  have e : ((i.dev.toNat : Nat) : Int) = i.dev := Int.toNat_of_nonneg hr.1
  refine ⟨?_, ?_⟩
  · rw [show keyOf 3 d i = [(d : Int), ((i.dev.toNat : Nat) : Int), i.tag] by rw [e]; rfl, count4, if_pos (by omega)]
  · rw [show keyOf 4 d i = [((i.dev.toNat : Nat) : Int), (d : Int), i.tag] by rw [e]; rfl, count3, if_pos (by omega)]

theorem miss_iff {l : List (List Instr)} (h : rightE l = 0) (h3 : (keysN 3 l l.length).Nodup) (h4 : (keysN 4 l l.length).Nodup) :
    (List.range l.length).any (fun d => (l.getD d []).any (missB l d)) = true ↔ ¬ ((∀ k ∈ keysN 3 l l.length, k ∈ keysN 4 l l.length) ∧ ∀ k ∈ keysN 4 l l.length, k ∈ keysN 3 l l.length) := by
  have one : ∀ {ks : List Key} {k : Key}, ks.Nodup → (ks.count k = 1 ↔ k ∈ ks) := by
    intro ks k hn
    have := (List.nodup_iff_count.1 hn) k
    rw [← List.count_pos_iff]; omega
  constructor
  · intro hm ⟨h5, h6⟩
    simp only [List.any_eq_true, List.mem_range, missB, Bool.or_eq_true, Bool.and_eq_true, beq_iff_eq, bne_iff_ne] at hm
    obtain ⟨d, hd, i, hi, hm⟩ := hm
    rw [getD_at hd] at hi
    obtain ⟨q1, q2⟩ := count_other h hd hi
    rcases hm with ⟨hk, hm⟩ | ⟨hk, hm⟩
    · have := (one h4).2 (h5 _ (keys_mem hd hi hk)); omega
    · have := (one h3).2 (h6 _ (keys_mem hd hi hk)); omega
  · intro hm
    apply Classical.byContradiction
    intro hn
    refine hm ⟨fun k hk => ?_, fun k hk => ?_⟩
    · obtain ⟨d, i, hd, hi, hk2, rfl⟩ := mem_keys hk
      apply Classical.byContradiction
      intro hc
      refine hn (List.any_eq_true.2 ⟨d, by simpa using hd, List.any_eq_true.2 ⟨i, by rw [getD_at hd]; exact hi, ?_⟩⟩)
      have this : ¬ _ = 1 := fun e => hc ((one h4).1 e)
      rw [(count_other h hd hi).1] at this
      simp only [missB, Bool.or_eq_true, Bool.and_eq_true, beq_iff_eq, bne_iff_ne]
      exact .inl ⟨hk2, by omega⟩
    · obtain ⟨d, i, hd, hi, hk2, rfl⟩ := mem_keys hk
      apply Classical.byContradiction
      intro hc
      refine hn (List.any_eq_true.2 ⟨d, by simpa using hd, List.any_eq_true.2 ⟨i, by rw [getD_at hd]; exact hi, ?_⟩⟩)
      have this : ¬ _ = 1 := fun e => hc ((one h3).1 e)
      rw [(count_other h hd hi).2] at this
      simp only [missB, Bool.or_eq_true, Bool.and_eq_true, beq_iff_eq, bne_iff_ne]
      exact .inr ⟨hk2, by omega⟩

theorem pairs_eq (l : List (List Instr)) : pairsC l = pairsE l := by
  unfold pairsC pairsE
  split
  · rfl
  rename_i hr
  have hr : rightE l = 0 := by simpa using hr
  by_cases h3 : (keysN 3 l l.length).Nodup
  · by_cases h4 : (keysN 4 l l.length).Nodup
    · rw [ends_yes h3, ends_yes h4, if_neg (by simp), if_neg (t := (25 : Int)) (fun h => (dup_iff l).1 h ⟨h3, h4⟩)]
      simp only
      have hm := miss_iff hr h3 h4
      by_cases h5 : ∀ k ∈ keysN 3 l l.length, k ∈ keysN 4 l l.length
      · rw [if_neg (by simpa using h5)]
        have hle := List.Nodup.length_le_of_subset h3 h5
        by_cases h6 : ∀ k ∈ keysN 4 l l.length, k ∈ keysN 3 l l.length
        · have hle2 := List.Nodup.length_le_of_subset h4 h6
          rw [if_neg (by omega), if_neg (fun h => hm.1 h ⟨h5, h6⟩)]
        · rw [if_pos (hm.2 fun h => h6 h.2), if_pos]
          intro he
          have he : (keysN 3 l l.length).length = (keysN 4 l l.length).length := by omega
          refine h6 fun k hk => ?_
          apply Classical.byContradiction
          intro hk3
          have := List.Nodup.length_le_of_subset (List.nodup_cons.2 ⟨hk3, h3⟩) (fun x hx => by
            rcases List.mem_cons.1 hx with rfl | hx
            · exact hk
            · exact h5 x hx)
          simp only [List.length_cons] at this
          omega
      · rw [if_pos (by simpa using h5), if_pos (hm.2 fun h => h5 h.1)]
    · rw [ends_no h4, if_pos (by simp), if_pos ((dup_iff l).2 fun h => h4 h.2)]
  · rw [ends_no h3, if_pos (by simp), if_pos ((dup_iff l).2 fun h => h3 h.1)]

end Go.Proofs.Ytfjbabacpnnjmaa.Av

namespace Go.Av

section ops
variable {P : Program} {F : Fr} {σ σ' : St} {K : AV → St → Prop}
/-- Not a call, nor a step through a map. -/
def CO.plain : CO → Bool
  | .call .. | .callv .. | .nx _ => false
  | _ => true
theorem aopq_plain {o : CO} (h : o.plain = true) : aopq P o F σ K = aop P o F σ K := by
  cases o <;> first | rfl | cases h
theorem aopq_call {f : FuncId} {xs : List Od} {args : List AV} {v : AV} (h : T P f args σ v σ) (ha : xs.map (ev F) = args) (k : K v σ) : aopq P (.call true f xs) F σ K := by
  subst ha; simp only [aopq, aop, if_true]; exact ⟨v, h, k⟩
theorem aop_call {f : FuncId} {xs : List Od} {args : List AV} {v : AV} (h : T P f args σ v σ) (ha : xs.map (ev F) = args) (k : K v σ) : aop P (.call true f xs) F σ K := by
  subst ha; simp only [aop, if_true]; exact ⟨v, h, k⟩
theorem aopq_callQ {f : FuncId} {xs : List Od} {args : List AV} {Q : AV → St → Prop} (h : TQ P f args σ Q) (ha : xs.map (ev F) = args) (k : ∀ v σ', Q v σ' → K v σ') : aopq P (.call false f xs) F σ K := by
  subst ha; simp only [aopq, Bool.false_eq_true, if_false]; exact ⟨Q, h, k⟩
theorem aop_callF {f : FuncId} {xs : List Od} {args : List AV} {v : AV} (h : T P f args σ v σ') (ha : xs.map (ev F) = args) (k : K v σ') : aop P (.call false f xs) F σ K := by
  subst ha; simp only [aop, Bool.false_eq_true, if_false]; exact ⟨v, σ', h, k⟩
theorem aopq_callv {x : Od} {f : FuncId} {cs : List AV} {xs : List Od} {args : List AV} {v : AV} (hx : ev F x = .func f cs) (h : T P f args σ v σ) (ha : xs.map (ev F) ++ cs = args) (k : K v σ) : aopq P (.callv true x xs) F σ K := by
  subst ha; simp only [aopq, aop, hx, if_true]; exact ⟨v, h, k⟩
theorem aop_callv {x : Od} {f : FuncId} {cs : List AV} {xs : List Od} {args : List AV} {v : AV} (hx : ev F x = .func f cs) (h : T P f args σ v σ) (ha : xs.map (ev F) ++ cs = args) (k : K v σ) : aop P (.callv true x xs) F σ K := by
  subst ha; simp only [aop, hx, if_true]; exact ⟨v, h, k⟩
theorem aopq_callvQ {x : Od} {f : FuncId} {cs : List AV} {xs : List Od} {args : List AV} {Q : AV → St → Prop} (hx : ev F x = .func f cs) (h : TQ P f args σ Q) (ha : xs.map (ev F) ++ cs = args) (k : ∀ v σ', Q v σ' → K v σ') : aopq P (.callv false x xs) F σ K := by
  subst ha; simp only [aopq, hx, Bool.false_eq_true, if_false]; exact ⟨Q, h, k⟩
theorem T.to {f : FuncId} {args : List AV} {v v' : AV} {s s' : St} (h : T P f args σ v s) (hv : v = v') (hs : s = s') : T P f args σ v' s' := by subst hv hs; exact h
theorem TQ.mono {f : FuncId} {args : List AV} {Q Q' : AV → St → Prop} (h : TQ P f args σ Q) (hq : ∀ v s, Q v s → Q' v s) : TQ P f args σ Q' :=
  ⟨h.1, fun W0 e w cargs hr hl hv => (h.2 W0 e w cargs hr hl hv).mono fun en w' ⟨e', cv, v, s, h1, h2, h3, h4, h5⟩ => ⟨e', cv, v, s, h1, h2, h3, h4, hq _ _ h5⟩⟩
theorem aopq_callT {f : FuncId} {xs : List Od} {args : List AV} {v : AV} (h : T P f args σ v σ') (ha : xs.map (ev F) = args) (k : K v σ') : aopq P (.call false f xs) F σ K :=
  aopq_callQ h ha fun v' s' hq => by obtain ⟨rfl, rfl⟩ := hq; exact k
end ops

section
variable {P : Program} {F : Fr} {σ : St} {K : AV → St → Prop}
theorem aopq_mv (x : Od) : aopq P (.mv x) F σ K = aop P (.mv x) F σ K := rfl
theorem aopq_pk (c a b : Od) : aopq P (.pk c a b) F σ K = aop P (.pk c a b) F σ K := rfl
theorem aopq_al (z : List AV) : aopq P (.al z) F σ K = aop P (.al z) F σ K := rfl
theorem aopq_bx (x : Od) : aopq P (.bx x) F σ K = aop P (.bx x) F σ K := rfl
theorem aopq_bd (z : List AV) (ps : List (Nat × Nat × Od)) : aopq P (.bd z ps) F σ K = aop P (.bd z ps) F σ K := rfl
theorem aopq_bs (own : Bool) (sz : Nat) (z : List AV) (len : Nat) (ps : List (Nat × Od)) : aopq P (.bs own sz z len ps) F σ K = aop P (.bs own sz z len ps) F σ K := rfl
theorem aopq_ld (g : Option Nat) (x : Od) : aopq P (.ld g x) F σ K = aop P (.ld g x) F σ K := rfl
theorem aopq_st (n : Nat) (a v : Od) : aopq P (.st n a v) F σ K = aop P (.st n a v) F σ K := rfl
theorem aopq_nc (x : Od) : aopq P (.nc x) F σ K = aop P (.nc x) F σ K := rfl
theorem aopq_bin (op : BinOp) (tg : Nat) (x y : Od) : aopq P (.bin op tg x y) F σ K = aop P (.bin op tg x y) F σ K := rfl
theorem aopq_un (op : UnOp) (x : Od) : aopq P (.un op x) F σ K = aop P (.un op x) F σ K := rfl
theorem aopq_cv (k : IntKind) (x : Od) : aopq P (.cv k x) F σ K = aop P (.cv k x) F σ K := rfl
theorem aopq_mi (t : TypeId) (x : Od) : aopq P (.mi t x) F σ K = aop P (.mi t x) F σ K := rfl
theorem aopq_mf (f : FuncId) (cs : List Od) : aopq P (.mf f cs) F σ K = aop P (.mf f cs) F σ K := rfl
theorem aopq_mm (kt : Option Nat) : aopq P (.mm kt) F σ K = aop P (.mm kt) F σ K := rfl
theorem aopq_ms (sz bytes : Nat) (z : List AV) (len cap : Od) : aopq P (.ms sz bytes z len cap) F σ K = aop P (.ms sz bytes z len cap) F σ K := rfl
theorem aopq_sc (sz : Nat) (x : Od) (lo hi mx : Option Od) : aopq P (.sc sz x lo hi mx) F σ K = aop P (.sc sz x lo hi mx) F σ K := rfl
theorem aopq_fa (off : Nat) (x : Od) : aopq P (.fa off x) F σ K = aop P (.fa off x) F σ K := rfl
theorem aopq_fl (off : Nat) (g : Option Nat) (x : Od) : aopq P (.fl off g x) F σ K = aop P (.fl off g x) F σ K := rfl
theorem aopq_ia (sz : Nat) (x ix : Od) : aopq P (.ia sz x ix) F σ K = aop P (.ia sz x ix) F σ K := rfl
theorem aopq_lk (ok : Bool) (kt : Option Nat) (z : AV) (m k : Od) : aopq P (.lk ok kt z m k) F σ K = aop P (.lk ok kt z m k) F σ K := rfl
theorem aopq_mu (kt : Option Nat) (m k v : Od) : aopq P (.mu kt m k v) F σ K = aop P (.mu kt m k v) F σ K := rfl
theorem aopq_lm (m : Od) : aopq P (.lm m) F σ K = aop P (.lm m) F σ K := rfl
theorem aopq_rg (m : Od) : aopq P (.rg m) F σ K = aop P (.rg m) F σ K := rfl
theorem aopq_en (x : Od) : aopq P (.en x) F σ K = aop P (.en x) F σ K := rfl
theorem aopq_ta (x : Od) (t : TypeId) (ok : Bool) (z : AV) : aopq P (.ta x t ok z) F σ K = aop P (.ta x t ok z) F σ K := rfl
theorem aopq_ex (x : Od) (i : Nat) : aopq P (.ex x i) F σ K = aop P (.ex x i) F σ K := rfl
theorem aopq_ln (str : Bool) (x : Od) : aopq P (.ln str x) F σ K = aop P (.ln str x) F σ K := rfl
theorem aopq_ap (sz bytes : Nat) (x y : Od) : aopq P (.ap sz bytes x y) F σ K = aop P (.ap sz bytes x y) F σ K := rfl
theorem aopq_mx (m : Bool) (x y : Od) : aopq P (.mx m x y) F σ K = aop P (.mx m x y) F σ K := rfl
end

def atS (K : AV → St → Prop) (σ : St) : AV → Prop := fun v => K v σ
theorem atS_apply (K : AV → St → Prop) (σ : St) (v : AV) : atS K σ v = K v σ := by simp only [atS]
theorem aop_bin {P : Program} {F : Fr} {σ : St} {K : AV → St → Prop} (op : BinOp) (tg : Nat) (x y : Od) : aop P (.bin op tg x y) F σ K = abin op tg (ev F x) (ev F y) (atS K σ) := by simp only [aop]; rfl
def cutS (K : AV → St → Prop) (σ : St) (s : ByteArray) : Nat → Nat → Bool → Prop := fun l h _ => K (.str (s.extract l h)) σ
def cutN (K : AV → St → Prop) (σ : St) : Nat → Nat → Bool → Prop := fun _ _ _ => K .nils σ
def cutL (K : AV → St → Prop) (σ : St) (s : Nat) (rows : List (List AV)) : Nat → Nat → Bool → Prop := fun l h _ => K (.lit s ((rows.drop l).take (h - l))) σ
def cutO (K : AV → St → Prop) (σ : St) (b o : Nat) : Nat → Nat → Bool → Prop := fun l h _ => K (.sl b (o + l) (h - l)) σ
theorem cutS_apply (K : AV → St → Prop) (σ : St) (s : ByteArray) (l h : Nat) (t : Bool) : cutS K σ s l h t = K (.str (s.extract l h)) σ := by simp only [cutS]
theorem cutN_apply (K : AV → St → Prop) (σ : St) (l h : Nat) (t : Bool) : cutN K σ l h t = K .nils σ := by simp only [cutN]
theorem cutL_apply (K : AV → St → Prop) (σ : St) (s : Nat) (rows : List (List AV)) (l h : Nat) (t : Bool) : cutL K σ s rows l h t = K (.lit s ((rows.drop l).take (h - l))) σ := by simp only [cutL]
theorem cutO_apply (K : AV → St → Prop) (σ : St) (b o : Nat) (l h : Nat) (t : Bool) : cutO K σ b o l h t = K (.sl b (o + l) (h - l)) σ := by simp only [cutO]
theorem aop_sc {P : Program} {F : Fr} {σ : St} {K : AV → St → Prop} (sz : Nat) (x : Od) (lo hi mx : Option Od) : aop P (.sc sz x lo hi mx) F σ K = (match ev F x with
    | .str s => sz = 0 ∧ mx.isNone = true ∧ bounds F s.size lo hi mx (cutS K σ s)
    | .nils => sz ≠ 0 ∧ bounds F 0 lo hi mx (cutN K σ)
    | .lit s rows => sz ≠ 0 ∧ s = sz ∧ bounds F rows.length lo hi mx (cutL K σ s rows)
    | .sl b o n => match σ.blk b with
      | some (.cells s _) => sz ≠ 0 ∧ s = sz ∧ bounds F n lo hi mx (cutO K σ b o)
      | _ => False
    | _ => False) := by simp only [aop]; rfl
theorem aop_un_not {P : Program} {F : Fr} {σ : St} {K : AV → St → Prop} (x : Od) : aop P (.un .not x) F σ K = match ev F x with
    | .bool b => K (.bool !b) σ
    | _ => False := by
  cases h : ev F x <;> simp [aop, h]
theorem aop_un_neg {P : Program} {F : Fr} {σ : St} {K : AV → St → Prop} (x : Od) : aop P (.un .neg x) F σ K = match ev F x with
    | .int k n => K (.int k (k.wrap (0 - n))) σ
    | _ => False := by
  cases h : ev F x <;> simp [aop, h]

theorem pure_mv (x : Od) : CO.pure (.mv x) = true := by simp only [CO.pure]
theorem eff_mv (x : Od) : CO.eff (.mv x) = false := by simp [CO.eff, CO.pure]
theorem pure_pk (c a b : Od) : CO.pure (.pk c a b) = true := by simp only [CO.pure]
theorem eff_pk (c a b : Od) : CO.eff (.pk c a b) = false := by simp [CO.eff, CO.pure]
theorem pure_al (z : List AV) : CO.pure (.al z) = false := by simp only [CO.pure]
theorem eff_al (z : List AV) : CO.eff (.al z) = true := by simp [CO.eff, CO.pure]
theorem pure_bx (x : Od) : CO.pure (.bx x) = false := by simp only [CO.pure]
theorem eff_bx (x : Od) : CO.eff (.bx x) = true := by simp [CO.eff, CO.pure]
theorem pure_bd (z : List AV) (ps : List (Nat × Nat × Od)) : CO.pure (.bd z ps) = true := by simp only [CO.pure]
theorem eff_bd (z : List AV) (ps : List (Nat × Nat × Od)) : CO.eff (.bd z ps) = false := by simp [CO.eff, CO.pure]
theorem pure_bs (own : Bool) (sz : Nat) (z : List AV) (len : Nat) (ps : List (Nat × Od)) : CO.pure (.bs own sz z len ps) = !own := by simp only [CO.pure]
theorem eff_bs (own : Bool) (sz : Nat) (z : List AV) (len : Nat) (ps : List (Nat × Od)) : CO.eff (.bs own sz z len ps) = own := by simp [CO.eff, CO.pure]
theorem pure_ld (g : Option Nat) (x : Od) : CO.pure (.ld g x) = false := by simp only [CO.pure]
theorem eff_ld (g : Option Nat) (x : Od) : CO.eff (.ld g x) = false := by simp [CO.eff, CO.pure]
theorem pure_st (n : Nat) (a v : Od) : CO.pure (.st n a v) = false := by simp only [CO.pure]
theorem eff_st (n : Nat) (a v : Od) : CO.eff (.st n a v) = true := by simp [CO.eff, CO.pure]
theorem pure_nc (x : Od) : CO.pure (.nc x) = true := by simp only [CO.pure]
theorem eff_nc (x : Od) : CO.eff (.nc x) = false := by simp [CO.eff, CO.pure]
theorem pure_bin (op : BinOp) (tg : Nat) (x y : Od) : CO.pure (.bin op tg x y) = true := by simp only [CO.pure]
theorem eff_bin (op : BinOp) (tg : Nat) (x y : Od) : CO.eff (.bin op tg x y) = false := by simp [CO.eff, CO.pure]
theorem pure_un (op : UnOp) (x : Od) : CO.pure (.un op x) = true := by simp only [CO.pure]
theorem eff_un (op : UnOp) (x : Od) : CO.eff (.un op x) = false := by simp [CO.eff, CO.pure]
theorem pure_cv (k : IntKind) (x : Od) : CO.pure (.cv k x) = true := by simp only [CO.pure]
theorem eff_cv (k : IntKind) (x : Od) : CO.eff (.cv k x) = false := by simp [CO.eff, CO.pure]
theorem pure_mi (t : TypeId) (x : Od) : CO.pure (.mi t x) = true := by simp only [CO.pure]
theorem eff_mi (t : TypeId) (x : Od) : CO.eff (.mi t x) = false := by simp [CO.eff, CO.pure]
theorem pure_mf (f : FuncId) (cs : List Od) : CO.pure (.mf f cs) = true := by simp only [CO.pure]
theorem eff_mf (f : FuncId) (cs : List Od) : CO.eff (.mf f cs) = false := by simp [CO.eff, CO.pure]
theorem pure_mm (kt : Option Nat) : CO.pure (.mm kt) = false := by simp only [CO.pure]
theorem eff_mm (kt : Option Nat) : CO.eff (.mm kt) = true := by simp [CO.eff, CO.pure]
theorem pure_ms (sz bytes : Nat) (z : List AV) (len cap : Od) : CO.pure (.ms sz bytes z len cap) = false := by simp only [CO.pure]
theorem eff_ms (sz bytes : Nat) (z : List AV) (len cap : Od) : CO.eff (.ms sz bytes z len cap) = true := by simp [CO.eff, CO.pure]
theorem pure_sc (sz : Nat) (x : Od) (lo hi mx : Option Od) : CO.pure (.sc sz x lo hi mx) = false := by simp only [CO.pure]
theorem eff_sc (sz : Nat) (x : Od) (lo hi mx : Option Od) : CO.eff (.sc sz x lo hi mx) = false := by simp [CO.eff, CO.pure]
theorem pure_fa (off : Nat) (x : Od) : CO.pure (.fa off x) = true := by simp only [CO.pure]
theorem eff_fa (off : Nat) (x : Od) : CO.eff (.fa off x) = false := by simp [CO.eff, CO.pure]
theorem pure_fl (off : Nat) (g : Option Nat) (x : Od) : CO.pure (.fl off g x) = true := by simp only [CO.pure]
theorem eff_fl (off : Nat) (g : Option Nat) (x : Od) : CO.eff (.fl off g x) = false := by simp [CO.eff, CO.pure]
theorem pure_ia (sz : Nat) (x ix : Od) : CO.pure (.ia sz x ix) = false := by simp only [CO.pure]
theorem eff_ia (sz : Nat) (x ix : Od) : CO.eff (.ia sz x ix) = false := by simp [CO.eff, CO.pure]
theorem pure_lk (ok : Bool) (kt : Option Nat) (z : AV) (m k : Od) : CO.pure (.lk ok kt z m k) = false := by simp only [CO.pure]
theorem eff_lk (ok : Bool) (kt : Option Nat) (z : AV) (m k : Od) : CO.eff (.lk ok kt z m k) = false := by simp [CO.eff, CO.pure]
theorem pure_mu (kt : Option Nat) (m k v : Od) : CO.pure (.mu kt m k v) = false := by simp only [CO.pure]
theorem eff_mu (kt : Option Nat) (m k v : Od) : CO.eff (.mu kt m k v) = true := by simp [CO.eff, CO.pure]
theorem pure_lm (m : Od) : CO.pure (.lm m) = false := by simp only [CO.pure]
theorem eff_lm (m : Od) : CO.eff (.lm m) = false := by simp [CO.eff, CO.pure]
theorem pure_rg (m : Od) : CO.pure (.rg m) = false := by simp only [CO.pure]
theorem eff_rg (m : Od) : CO.eff (.rg m) = true := by simp [CO.eff, CO.pure]
theorem pure_nx (x : Od) : CO.pure (.nx x) = false := by simp only [CO.pure]
theorem eff_nx (x : Od) : CO.eff (.nx x) = true := by simp [CO.eff, CO.pure]
theorem pure_en (x : Od) : CO.pure (.en x) = false := by simp only [CO.pure]
theorem eff_en (x : Od) : CO.eff (.en x) = false := by simp [CO.eff, CO.pure]
theorem pure_ta (x : Od) (t : TypeId) (ok : Bool) (z : AV) : CO.pure (.ta x t ok z) = true := by simp only [CO.pure]
theorem eff_ta (x : Od) (t : TypeId) (ok : Bool) (z : AV) : CO.eff (.ta x t ok z) = false := by simp [CO.eff, CO.pure]
theorem pure_ex (x : Od) (i : Nat) : CO.pure (.ex x i) = true := by simp only [CO.pure]
theorem eff_ex (x : Od) (i : Nat) : CO.eff (.ex x i) = false := by simp [CO.eff, CO.pure]
theorem pure_ln (str : Bool) (x : Od) : CO.pure (.ln str x) = true := by simp only [CO.pure]
theorem eff_ln (str : Bool) (x : Od) : CO.eff (.ln str x) = false := by simp [CO.eff, CO.pure]
theorem pure_ap (sz bytes : Nat) (x y : Od) : CO.pure (.ap sz bytes x y) = false := by simp only [CO.pure]
theorem eff_ap (sz bytes : Nat) (x y : Od) : CO.eff (.ap sz bytes x y) = true := by simp [CO.eff, CO.pure]
theorem pure_mx (m : Bool) (x y : Od) : CO.pure (.mx m x y) = true := by simp only [CO.pure]
theorem eff_mx (m : Bool) (x y : Od) : CO.eff (.mx m x y) = false := by simp [CO.eff, CO.pure]
theorem pure_call (q : Bool) (f : FuncId) (args : List Od) : CO.pure (.call q f args) = false := by simp only [CO.pure]
theorem eff_call (q : Bool) (f : FuncId) (args : List Od) : CO.eff (.call q f args) = !q := by simp [CO.eff, CO.pure]
theorem pure_callv (q : Bool) (x : Od) (args : List Od) : CO.pure (.callv q x args) = false := by simp only [CO.pure]
theorem eff_callv (q : Bool) (x : Od) (args : List Od) : CO.eff (.callv q x args) = !q := by simp [CO.eff, CO.pure]

section states
theorem blk_push (σ : St) (B : Blk) (b : Nat) : (σ.push B).blk b = if b = σ.next then some B else σ.blk b := rfl
theorem next_push (σ : St) (B : Blk) : (σ.push B).next = σ.next + 1 := rfl
theorem blk_set (σ : St) (c : Nat) (B : Blk) (b : Nat) : (σ.set c B).blk b = if b = c then some B else σ.blk b := rfl
theorem next_set (σ : St) (c : Nat) (B : Blk) : (σ.set c B).next = σ.next := rfl
theorem blk_kill (σ : St) (c : Nat) (b : Nat) : (σ.kill c).blk b = if b = c then none else σ.blk b := rfl
theorem next_kill (σ : St) (c : Nat) : (σ.kill c).next = σ.next := rfl
end states

/-- A frame of a few slots. -/
def frL : List (Nat × AV) → Fr
  | [] => fun _ => .undef
  | p :: r => fun t => if t = p.1 then p.2 else frL r t
theorem frL_nil (t : Nat) : frL [] t = .undef := rfl
theorem frL_cons (k : Nat) (v : AV) (r : List (Nat × AV)) (t : Nat) : frL ((k, v) :: r) t = if t = k then v else frL r t := rfl
def Fits (F : Fr) : List (Nat × AV) → Prop
  | [] => True
  | p :: r => F p.1 = p.2 ∧ Fits F r
theorem Fits_nil (F : Fr) : Fits F [] = True := rfl
theorem Fits_cons (F : Fr) (k : Nat) (v : AV) (r : List (Nat × AV)) : Fits F ((k, v) :: r) = (F k = v ∧ Fits F r) := rfl
theorem Fits.frL {F : Fr} {L : List (Nat × AV)} (h : Fits F L) (t : Nat) : frL L t = .undef ∨ Av.frL L t = F t := by
  induction L with
  | nil => exact .inl rfl
  | cons p r ih =>
    simp only [Av.frL]
    split
    · rename_i ht; subst ht; exact .inr h.1.symm
    · exact ih h.2
theorem Fits.ent {n0 : Nat} {F : Fr} {σ : St} {L : List (Nat × AV)} (h : Fits F L) : Ent n0 F σ (Av.frL L) σ := by
  rintro W0 e0 N a w ⟨hn, e, hle, hrel, hf, hN, hd⟩
  refine ⟨hn, e, hle, hrel, fun t => ?_, hN, hd⟩
  rcases h.frL t with h' | h' <;> rw [h']
  · exact .undef _
  · exact hf t
theorem Fits.entUpd {n0 : Nat} {F : Fr} {σ : St} {L : List (Nat × AV)} (h : Fits F L) (t : Nat) (v : AV) : Ent n0 (upd F t v) σ (upd (Av.frL L) t v) σ := by
  rintro W0 e0 N a w ⟨hn, e, hle, hrel, hf, hN, hd⟩
  refine ⟨hn, e, hle, hrel, fun i => ?_, hN, hd⟩
  have := hf i
  unfold upd at *
  split
  · rename_i hi; rw [if_pos hi] at this; exact this
  · rename_i hi; rw [if_neg hi] at this
    rcases h.frL i with h' | h' <;> rw [h']
    · exact .undef _
    · exact this

section
variable {P : Program} {n0 : Nat} {Q : Exit → Fr → St → Prop} {F : Fr} {σ : St}
theorem SWP.keep {c : C} (L : List (Nat × AV)) (h : Fits F L) (k : SWP P n0 c Q (frL L) σ) : SWP P n0 c Q F σ := .ent h.ent k
/-- What holds between two parts, told by slots. -/
theorem SWP.midK {a b : C} (J : List (Nat × AV) → St → Prop) (h : SWP P n0 a (thenQ (fun F' σ' => ∃ L, J L σ' ∧ Fits F' L) Q) F σ) (h' : ∀ L σ', J L σ' → SWP P n0 b Q (frL L) σ') : SWP P n0 (.seq a b) Q F σ :=
  .mid (fun F' σ' => ∃ L, J L σ' ∧ Fits F' L) h fun _ _ ⟨L, hJ, hL⟩ => .keep L hL (h' L _ hJ)

def loopQ (id : Nat) (m : Nat) (J : Nat → List (Nat × AV) → St → Prop) (Q : Exit → Fr → St → Prop) : Exit → Fr → St → Prop
  | .normal, F, σ => ∃ m', m' < m ∧ ∃ L, J m' L σ ∧ Fits F L
  | .exit k, F, σ => if k = id then Q .normal F σ else Q (.exit k) F σ
  | ex, F, σ => Q ex F σ
theorem SWP.loopK {id : Nat} {body : C} (J : Nat → List (Nat × AV) → St → Prop) (m : Nat) (h0 : ∃ L, J m L σ ∧ Fits F L) (h : ∀ m L σ, J m L σ → SWP P n0 body (loopQ id m J Q) (frL L) σ) : SWP P n0 (.block id (.loop body)) Q F σ := by
  refine .block (.loop (fun m F σ => ∃ L, J m L σ ∧ Fits F L) m h0 fun m F σ ⟨L, hJ, hL⟩ => .keep L hL ((h m L σ hJ).mono fun ex F' σ' hq => ?_))
  cases ex with
  | normal => exact hq
  | exit k => exact hq
  | _ => exact hq

def roundK (id id2 ti tx i : Nat) (J : Nat → List (Nat × AV) → St → Prop) (Q : Exit → Fr → St → Prop) : Exit → Fr → St → Prop
  | .normal, F, σ => F ti = .int .i64 i ∧ ∃ L, J (i + 1) L σ ∧ Fits (upd (upd F tx (.int .i64 ((i + 1 : Nat) : Int))) ti (.int .i64 ((i + 1 : Nat) : Int))) L
  | .exit k, F, σ => if k = id2 then F ti = .int .i64 i ∧ ∃ L, J (i + 1) L σ ∧ Fits (upd (upd F tx (.int .i64 ((i + 1 : Nat) : Int))) ti (.int .i64 ((i + 1 : Nat) : Int))) L else if k = id then Q .normal F σ else Q (.exit k) F σ
  | ex, F, σ => Q ex F σ

/-- The slots of a counting loop's head. -/
structure Heads (ti tn t : Nat) (i N : Nat) (L : List (Nat × AV)) : Prop where
  i : frL L ti = .int .i64 i
  n : frL L tn = .int .i64 N
  t : (L.all fun p => p.1 != t) = true

theorem Fits.upd {F : Fr} {L : List (Nat × AV)} {t : Nat} (h : Fits F L) (ht : (L.all fun p => p.1 != t) = true) (v : AV) : Fits (Av.upd F t v) L := by
  induction L with
  | nil => trivial
  | cons p r ih =>
    simp only [List.all_cons, Bool.and_eq_true, bne_iff_ne, ne_eq] at ht
    refine ⟨?_, ih h.2 ht.2⟩
    rw [Av.upd, if_neg ht.1]; exact h.1
theorem Fits.int {F : Fr} {L : List (Nat × AV)} {t : Nat} {n : Int} (h : Fits F L) (hl : Av.frL L t = .int .i64 n) : F t = .int .i64 n := by
  rcases h.frL t with h' | h' <;> rw [hl] at h'
  · cases h'
  · exact h'.symm

theorem SWP.rangeK {id id2 t ti tn tx N : Nat} {body : C} (J : Nat → List (Nat × AV) → St → Prop) (hN : N ≤ most) (h0 : ∃ L, J 0 L σ ∧ Fits F L) (hF : ∀ i L σ, J i L σ → Heads ti tn t i N L)
    (hstep : ∀ i L σ, i < N → J i L σ → SWP P n0 body (roundK id id2 ti tx i J Q) (frL L) σ)
    (hend : ∀ L σ F, J N L σ → Fits F L → Q .normal F σ) :
    SWP P n0 (.block id (.loop (.seq (.reg [⟨some t, none, .bin .lss 0 (.t ti) (.t tn)⟩]) (.seq (.cond (.t t) .skip (.exit id))
      (.seq (.block id2 body) (.reg [⟨some tx, none, .bin .add 0 (.t ti) (.k (.int .i64 1))⟩, ⟨some ti, none, .mv (.t tx)⟩])))))) Q F σ := by
  refine .range (N := N) (fun i F σ => ∃ L, J i L σ ∧ Fits F L) hN h0 (fun i F σ ⟨L, hJ, hL⟩ => ⟨hL.int (hF i L σ hJ).i, hL.int (hF i L σ hJ).n⟩) ?_ ?_
  · rintro i F σ hi ⟨L, hJ, hL⟩
    refine .keep L (hL.upd (hF i L σ hJ).t _) ((hstep i L σ hi hJ).mono fun ex F' σ' hq => ?_)
    cases ex with
    | normal => exact hq
    | exit k => exact hq
    | _ => exact hq
  · rintro F σ ⟨L, hJ, hL⟩
    exact hend L σ _ hJ (hL.upd (hF N L σ hJ).t _)

def roundC (id id2 ti ta tx i : Nat) (J : Nat → List (Nat × AV) → St → Prop) (Q : Exit → Fr → St → Prop) : Exit → Fr → St → Prop
  | .normal, F, σ => F ti = .int .i64 i ∧ ∃ L, J (i + 1) L σ ∧ Fits (upd (upd (upd F ta (.int .i64 i)) tx (.int .i64 ((i + 1 : Nat) : Int))) ti (.int .i64 ((i + 1 : Nat) : Int))) L
  | .exit k, F, σ => if k = id2 then F ti = .int .i64 i ∧ ∃ L, J (i + 1) L σ ∧ Fits (upd (upd (upd F ta (.int .i64 i)) tx (.int .i64 ((i + 1 : Nat) : Int))) ti (.int .i64 ((i + 1 : Nat) : Int))) L else if k = id then Q .normal F σ else Q (.exit k) F σ
  | ex, F, σ => Q ex F σ

theorem SWP.countK {id id2 t ti ta tx N : Nat} {hd body : C} (J : Nat → List (Nat × AV) → St → Prop) (hN : N ≤ most) (h0 : ∃ L, J 0 L σ ∧ Fits F L)
    (hhd : ∀ i L σ, i ≤ N → J i L σ → SWP P n0 hd (fun ex F' σ' => ex = .normal ∧ F' t = .bool (decide (i < N)) ∧ ∃ L', J i L' σ' ∧ Fits F' L') (frL L) σ)
    (hstep : ∀ i L σ, i < N → J i L σ → SWP P n0 body (roundC id id2 ti ta tx i J Q) (frL L) σ)
    (hend : ∀ L σ F, J N L σ → Fits F L → Q .normal F σ) :
    SWP P n0 (.block id (.loop (.seq (.seq hd (.cond (.t t) .skip (.exit id)))
      (.seq (.block id2 body) (.reg [⟨some ta, none, .mv (.t ti)⟩, ⟨some tx, none, .bin .add 0 (.t ta) (.k (.int .i64 1))⟩, ⟨some ti, none, .mv (.t tx)⟩]))))) Q F σ := by
  refine .count (N := N) (fun i F σ => ∃ L, J i L σ ∧ Fits F L) hN h0 (fun i F σ hi ⟨L, hJ, hL⟩ => .keep L hL (hhd i L σ hi hJ)) ?_ ?_
  · rintro i F σ hi ⟨L, hJ, hL⟩ -
    refine .keep L hL ((hstep i L σ hi hJ).mono fun ex F' σ' hq => ?_)
    cases ex with
    | normal => exact hq
    | exit k => exact hq
    | _ => exact hq
  · rintro F σ ⟨L, hJ, hL⟩ -
    exact hend L σ F hJ hL
end

section ret
variable {n0 : Nat} {F : Fr} {σ σ0 : St}
/-- One value, in a state that may have grown. -/
theorem retS {n : Nat} {v : AV} {Q : AV → St → Prop} (h : F n = v) (hq : Q v σ) : retQ n0 [.t n] Q .ret F σ :=
  ⟨[v], by simp [resOne, h], v, σ, .refl _ _ _, hq⟩
/-- One value; the state is told anew, without what has come since. -/
theorem retB {n : Nat} {v : AV} {Q : AV → St → Prop} (h : F n = v) (wf : σ0.Wf) (hs : ∀ b, b < σ0.next → σ.blk b = σ0.blk b) (hv : v.Lt σ0.next) (hq : Q v σ0) : retQ σ0.next [.t n] Q .ret F σ :=
  ⟨[v], by simp [resOne, h], v, σ0, .back rfl wf hs hv, hq⟩
theorem retB0 {Q : AV → St → Prop} (wf : σ0.Wf) (hs : ∀ b, b < σ0.next → σ.blk b = σ0.blk b) (hq : Q (.tup []) σ0) : retQ σ0.next [] Q .ret F σ :=
  ⟨[], by simp, .tup [], σ0, .back rfl wf hs (.tup _ (by simp)), hq⟩
theorem retS2 {n m : Nat} {v u : AV} {Q : AV → St → Prop} (h : F n = v) (h' : F m = u) (hq : Q (.tup [v, u]) σ) : retQ n0 [.t n, .t m] Q .ret F σ :=
  ⟨[v, u], by simp [resOne, h, h'], .tup [v, u], σ, .refl _ _ _, hq⟩
end ret

def stepD (A : Nat → List (Nat × CO × Tr) → List RO → Fr → St → (Fr → St → Prop) → Prop) (i : Nat) (h : List (Nat × CO × Tr)) (os : List RO) (d : Option Nat) (F : Fr) (K : Fr → St → Prop) : AV → St → Prop := fun v σ' => A i h os (put F d v) σ' K
theorem stepD_apply (A : Nat → List (Nat × CO × Tr) → List RO → Fr → St → (Fr → St → Prop) → Prop) (i : Nat) (h : List (Nat × CO × Tr)) (os : List RO) (d : Option Nat) (F : Fr) (K : Fr → St → Prop) (v : AV) (σ : St) : stepD A i h os d F K v σ = A i h os (put F d v) σ K := by simp only [stepD]
def stepE (P : Program) (tbl : List (List Nat)) (A : Nat → List (Nat × CO × Tr) → List RO → Fr → St → (Fr → St → Prop) → Prop) (i : Nat) (h : List (Nat × CO × Tr)) (o : CO) (σ : St) (os : List RO) (d : Option Nat) (F : Fr) (K : Fr → St → Prop) : AV → St → Prop :=
  fun v σ' => (o.eff = true ∨ σ' = σ) ∧ chk P (tbl.getD i []) o F v σ' h ∧ A (i + 1) ((i, o, ⟨F, σ, v, σ', true⟩) :: h) os (put F d v) σ' K
theorem stepE_apply (P : Program) (tbl : List (List Nat)) (A : Nat → List (Nat × CO × Tr) → List RO → Fr → St → (Fr → St → Prop) → Prop) (i : Nat) (h : List (Nat × CO × Tr)) (o : CO) (σ : St) (os : List RO) (d : Option Nat) (F : Fr) (K : Fr → St → Prop) (v : AV) (σ' : St) :
    stepE P tbl A i h o σ os d F K v σ' = ((o.eff = true ∨ σ' = σ) ∧ chk P (tbl.getD i []) o F v σ' h ∧ A (i + 1) ((i, o, ⟨F, σ, v, σ', true⟩) :: h) os (put F d v) σ' K) := by simp only [stepE]

/-- What a drawn region's formula does, told by equations alone. -/
structure RLD (P : Program) (tbl : List (List Nat)) (A : Nat → List (Nat × CO × Tr) → List RO → Fr → St → (Fr → St → Prop) → Prop) : Prop where
  nil : ∀ i h F σ K, A i h [] F σ K = K F σ
  pur : ∀ i h d o os F σ K, o.pure = true → A i h (⟨d, none, o⟩ :: os) F σ K = aop P o F σ (stepD A (i + 1) h os d F K)
  go : ∀ i h d o os F σ K, o.pure = false → A i h (⟨d, none, o⟩ :: os) F σ K = aop P o F σ (stepE P tbl A i h o σ os d F K)
  yes : ∀ i h d t want o os F σ K, F t = .bool want → A i h (⟨d, some (t, want), o⟩ :: os) F σ K = A i h (⟨d, none, o⟩ :: os) F σ K
  noT : ∀ i h d t o os F σ K, F t = .bool false → A i h (⟨d, some (t, true), o⟩ :: os) F σ K = A (i + 1) h os (put F d (.raw (.tuple #[]))) σ K
  noF : ∀ i h d t o os F σ K, F t = .bool true → A i h (⟨d, some (t, false), o⟩ :: os) F σ K = A (i + 1) h os (put F d (.raw (.tuple #[]))) σ K
  skp : ∀ i h d t want o os F σ K, F t = .raw (.tuple #[]) → A i h (⟨d, some (t, want), o⟩ :: os) F σ K = A (i + 1) h os (put F d (.raw (.tuple #[]))) σ K

theorem chk_nil (P : Program) (b : List Nat) (o : CO) (F : Fr) (v : AV) (σ : St) : chk P b o F v σ [] = True := rfl
theorem chk_cons (P : Program) (b : List Nat) (o : CO) (F : Fr) (v : AV) (σ : St) (j : Nat) (o' : CO) (t : Tr) (hs : List (Nat × CO × Tr)) : chk P b o F v σ ((j, o', t) :: hs) = ((b.contains j = true ∨ (if o.eff = true then (o'.eff = true ∨ again P o' t.F t.v σ) else (o'.eff = false ∨ again P o F v t.s))) ∧ chk P b o F v σ hs) := rfl
theorem chk_pure {P : Program} {b : List Nat} {o : CO} (hp : o.pure = true) (he : o.eff = false) {F : Fr} {v : AV} {σ' : St} : ∀ h, chk P b o F v σ' h
  | [] => trivial
  | (j, o', t) :: hs => ⟨.inr (by rw [if_neg (by rw [he]; simp)]; exact .inr (.inl hp)), chk_pure hp he hs⟩

theorem RLD.adr (P : Program) (tbl : List (List Nat)) : RLD P tbl (Av.adr P tbl) := by
  refine ⟨fun _ _ _ _ _ => rfl, fun i h d o os F σ K hp => ?_, fun i h d o os F σ K hp => ?_, fun i h d t want o os F σ K hf => ?_, fun i h d t o os F σ K hf => ?_, fun i h d t o os F σ K hf => ?_, fun i h d t want o os F σ K hf => ?_⟩
  · have he := pure_eff hp
    unfold stepD
    simp only [Av.adr]
    refine propext ⟨fun hh => ?_, fun hh => ?_⟩
    · obtain ⟨v, h1, h2⟩ := aop_det hp hh
      refine h2 σ _ ?_
      have := h1.2.2
      rwa [if_pos hp] at this
    · obtain ⟨v, h1, h2⟩ := aop_det hp hh
      refine h2 σ _ ⟨.inr rfl, chk_pure hp he h, ?_⟩
      rw [if_pos hp]; exact h1
  · unfold stepE
    simp only [Av.adr]
    simp only [hp, Bool.false_eq_true, if_false]
  · simp [Av.adr, hf]
  · simp [Av.adr, hf]
  · simp [Av.adr, hf]
  · simp [Av.adr, hf]

theorem SWP.rdx {P : Program} {n0 : Nat} {Q : Exit → Fr → St → Prop} {F : Fr} {σ : St} {tbl : List (List Nat)} {ops : List RO} (h : ∀ A, RLD P tbl A → ∀ K : Fr → St → Prop, (∀ F' σ', Q .normal F' σ' → K F' σ') → A 0 [] ops F σ K) : SWP P n0 (.dr tbl ops) Q F σ :=
  .rx fun K hK => h _ (.adr P tbl) K hK
theorem SWP.rdx2 {P : Program} {n0 : Nat} {Q : Exit → Fr → St → Prop} {F : Fr} {σ : St} {tA tB : List (List Nat)} {oA oB : List RO} (h1 : ∀ A, RLD P tA A → ∀ K : Fr → St → Prop, (∀ F' σ', Q .normal F' σ' → K F' σ') → A 0 [] oA F σ K)
    (h2 : ∀ A, RLD P tB A → ∀ K : Fr → St → Prop, (∀ F' σ', Q .normal F' σ' → K F' σ') → A 0 [] oB F σ K) : SWP P n0 (.dr2 tA oA tB oB) Q F σ :=
  .rx2 fun K hK => ⟨h1 _ (.adr P tA) K hK, h2 _ (.adr P tB) K hK⟩
theorem SWP.nilK {P : Program} {n0 : Nat} {c : C} {Q : Exit → Fr → St → Prop} {F : Fr} {σ : St} (i : Nat) {sz : Nat} (hF : F i = .lit sz []) (h1 : ∀ F', (∀ t, t ≠ i → F' t = F t) → F' i = .nils → SWP P n0 c Q F' σ)
    (h2 : ∀ F', (∀ t, t ≠ i → F' t = F t) → F' i = .emp false sz → SWP P n0 c Q F' σ) : SWP P n0 c Q F σ :=
  .nilOr i hF (h1 _ (fun t ht => by simp [Av.upd, ht]) (by simp [Av.upd])) (h2 _ (fun t ht => by simp [Av.upd, ht]) (by simp [Av.upd]))
end Go.Av

namespace Go.Proofs.Ytfjbabacpnnjmaa.Av
open Go Go.Av
set_option maxRecDepth 20000
set_option maxHeartbeats 4000000

attribute [local go_sem] step_apply stepD_apply stepE_apply
attribute [local go_sem] aopq_mv aopq_pk aopq_al aopq_bx aopq_bd aopq_bs aopq_ld aopq_st aopq_nc aopq_bin aopq_un aopq_cv aopq_mi aopq_mf aopq_mm aopq_ms aopq_sc aopq_fa aopq_fl aopq_ia aopq_lk aopq_mu aopq_lm aopq_rg aopq_en aopq_ta aopq_ex aopq_ln aopq_ap aopq_mx aopq.eq_3 aop.eq_1 aop.eq_2 aop.eq_3 aop.eq_4 aop.eq_5 aop.eq_6 aop.eq_7 aop.eq_8 aop.eq_9 aop_bin atS_apply aop_un_not aop_un_neg aop.eq_14 aop.eq_15 aop.eq_16 aop.eq_17 aop.eq_18 aop_sc cutS_apply cutN_apply cutL_apply cutO_apply aop.eq_20 aop.eq_21 aop.eq_22 aop.eq_23 aop.eq_24 aop.eq_25 aop.eq_26 aop.eq_27 aop.eq_28 aop.eq_29 aop.eq_30 aop.eq_31 aop.eq_32 blk_push next_push blk_set next_set blk_kill next_kill frL_nil frL_cons Fits_nil Fits_cons Int.reduceBEq Int.reduceBNe Nat.sub_zero Option.map_some Option.map_none List.set_cons_succ true_or or_true false_or or_false Int.le_refl Int.cast_ofNat_Int decide_true decide_false List.cons_append fillA fillR rowsOf List.replicate_succ List.replicate_zero Nat.zero_mul getD_drop List.length_drop splice List.nil_append List.append_nil cond_true cond_false List.set_cons_zero List.length_set ev put_some put_none upd_apply abin asNat bounds row1 mk List.length_cons List.length_nil List.length_map List.drop_zero List.drop_succ_cons List.drop_nil List.getD_cons_zero List.getD_cons_succ Option.getD_none Option.getD_some List.take_succ_cons List.take_zero List.take_nil true_and and_true Int.toNat_natCast if_true if_false Nat.zero_add Nat.add_zero List.map_cons List.map_nil Nat.reduceEqDiff Nat.left_eq_add Nat.add_eq_left Nat.add_left_cancel_iff Nat.add_assoc Nat.reduceSub Nat.reduceAdd Nat.reduceLeDiff Nat.le_refl Nat.zero_le Nat.zero_lt_one Nat.lt_add_one Int.reduceLT Int.reduceLE Int.reduceToNat Nat.reduceLT Nat.reduceBEq Bool.false_eq_true Nat.reduceBNe ne_eq not_false_eq_true not_true_eq_false false_and and_false reduceIte Int.natCast_nonneg reduceCtorEq parts_agg parts_bool parts_int parts_str parts_lit parts_nils parts_sl parts_ptr Int.natCast_nonneg Int.natCast_nonneg beq_self_eq_true bne_self_eq_false Bool.true_and Bool.false_and Bool.and_true Bool.and_false Bool.true_or Bool.false_or Bool.or_true Bool.or_false Bool.not_true Bool.not_false
attribute [local go_sem] instr0 instr1 instr2 instr10 instr11 instr12 instrN instrA instr_len node0 node1 node2 node3 node4 node5 node6 nodeA node_len I ints progA progsA

/-- law18.same -/
theorem same_spec (l : List (List Instr)) (σ : St) : T Try.prog 19 [progsA l] σ (.bool true) σ := by
  refine in19 (by simp) fun wf hab => ?_
  obtain ⟨hl, hps⟩ := hab_progs (hab 0 (by simp))
  clear hab
  unfold c19
  first | refine .seq (.rg fun A hA K hK => ?_) | refine .seq (.seq (.rg fun A hA K hK => ?_)) | refine .rg fun A hA K hK => ?_ | refine .seq (.rd fun A hA K hK => ?_) | refine .seq (.seq (.rd fun A hA K hK => ?_)) | refine .rd fun A hA K hK => ?_
  simp (maxSteps := 1000000) only [go_sem, hA.nil, hA.go, hA.yes, hA.noT, hA.noF, hA.skp]
  refine hK _ _ ?_; clear hK K hA A
  first | refine .seq (.rg fun A hA K hK => ?_) | refine .seq (.seq (.rg fun A hA K hK => ?_)) | refine .rg fun A hA K hK => ?_ | refine .seq (.rd fun A hA K hK => ?_) | refine .seq (.seq (.rd fun A hA K hK => ?_)) | refine .rd fun A hA K hK => ?_
  simp (maxSteps := 1000000) only [go_sem, hA.nil, hA.go, hA.yes, hA.noT, hA.noF, hA.skp]
  refine hK _ _ ?_; clear hK K hA A
  first | refine .seq (.rg fun A hA K hK => ?_) | refine .seq (.seq (.rg fun A hA K hK => ?_)) | refine .rg fun A hA K hK => ?_ | refine .seq (.rd fun A hA K hK => ?_) | refine .seq (.seq (.rd fun A hA K hK => ?_)) | refine .rd fun A hA K hK => ?_
  simp (maxSteps := 1000000) only [go_sem, hA.nil, hA.go, hA.yes, hA.noT, hA.noF, hA.skp]
  refine hK _ _ ?_; clear hK K hA A
  refine .range (N := l.length) (fun i F s => F 0 = progsA l ∧ F 3 = I (cntE (l.take i)) ∧ F 4 = I (sndE (l.take i)) ∧ F 9 = I l.length ∧ F 10 = I i ∧ Ext σ s) hl ?_ ?_ ?_ ?_
  · exact ⟨by simp (maxSteps := 1000000) only [go_sem], by simp (maxSteps := 1000000) only [go_sem]; try rfl, by simp (maxSteps := 1000000) only [go_sem]; try rfl, by simp (maxSteps := 1000000) only [go_sem], by simp (maxSteps := 1000000) only [go_sem]; try rfl, .refl σ⟩
  · rintro i F s ⟨_, _, _, h1, h2, _⟩
    exact ⟨h2, h1⟩
  · rintro i F s hlt ⟨h0, h3, h4, h9, h10, hx⟩
    have e1 : (i : Int) < l.length := by omega
    have ec : cntE (l.take (i + 1)) = IntKind.i64.wrap (cntE (l.take i) + l[i].length) := foldl_take _ _ l i hlt
    have et : sndE (l.take (i + 1)) = sndP (sndE (l.take i)) l[i] := foldl_take _ _ l i hlt
    have hp : l[i].length ≤ most := hab_prog (hps _ (List.getElem_mem hlt))
    first | refine .seq (.rg fun A hA K hK => ?_) | refine .seq (.seq (.rg fun A hA K hK => ?_)) | refine .rg fun A hA K hK => ?_ | refine .seq (.rd fun A hA K hK => ?_) | refine .seq (.seq (.rd fun A hA K hK => ?_)) | refine .rd fun A hA K hK => ?_
    simp (maxSteps := 1000000) only [go_sem, hA.nil, hA.go, hA.yes, hA.noT, hA.noF, hA.skp, h10]
    refine hK _ _ ?_; clear hK K hA A
    first | refine .seq (.rg fun A hA K hK => ?_) | refine .seq (.seq (.rg fun A hA K hK => ?_)) | refine .rg fun A hA K hK => ?_ | refine .seq (.rd fun A hA K hK => ?_) | refine .seq (.seq (.rd fun A hA K hK => ?_)) | refine .rd fun A hA K hK => ?_
    simp (maxSteps := 1000000) only [go_sem, hA.nil, hA.go, hA.yes, hA.noT, hA.noF, hA.skp, h0, h3, progs_get' hlt, e1]
    refine hK _ _ ?_; clear hK K hA A
    first | refine .seq (.rg fun A hA K hK => ?_) | refine .seq (.seq (.rg fun A hA K hK => ?_)) | refine .rg fun A hA K hK => ?_ | refine .seq (.rd fun A hA K hK => ?_) | refine .seq (.seq (.rd fun A hA K hK => ?_)) | refine .rd fun A hA K hK => ?_
    simp (maxSteps := 1000000) only [go_sem, hA.nil, hA.go, hA.yes, hA.noT, hA.noF, hA.skp, h0, progs_get' hlt, e1]
    refine hK _ _ ?_; clear hK K hA A
    refine .range (N := l[i].length) (fun n F s => F 0 = progsA l ∧ F 3 = I (cntE (l.take (i + 1))) ∧ F 4 = I (sndP (sndE (l.take i)) (l[i].take n)) ∧ F 9 = I l.length ∧ F 10 = I i ∧ F 23 = progA l[i] ∧ F 24 = I l[i].length ∧ F 25 = I n ∧ Ext σ s) hp ?_ ?_ ?_ ?_
    · exact ⟨by simp (maxSteps := 1000000) only [go_sem, h0], by simp (maxSteps := 1000000) only [go_sem, ec], by simp (maxSteps := 1000000) only [go_sem, h4]; try rfl, by simp (maxSteps := 1000000) only [go_sem, h9], by simp (maxSteps := 1000000) only [go_sem, h10], by simp (maxSteps := 1000000) only [go_sem], by simp (maxSteps := 1000000) only [go_sem], by simp (maxSteps := 1000000) only [go_sem]; try rfl, hx⟩
    · rintro n F s ⟨_, _, _, _, _, _, h1, h2, _⟩
      exact ⟨h2, h1⟩
    · rintro n F s hn ⟨h0, h3, h4, h9, h10, h23, h24, h25, hx⟩
      have e2 : (n : Int) < l[i].length := by omega
      have et2 : sndP (sndE (l.take i)) (l[i].take (n + 1)) = if (l[i][n].kind == 3) = true then IntKind.i64.wrap (sndP (sndE (l.take i)) (l[i].take n) + 1) else sndP (sndE (l.take i)) (l[i].take n) := foldl_take _ _ l[i] n hn
      have q := ext_two (B := .cells 13 [instrL l[i][n]]) (B' := .cells 13 [[I 0, I 0, .lit 1 [], I 0, .lit 1 [], .lit 1 [], .lit 1 [], I 0, I 0, .str ⟨#[]⟩, I 0, I 0, I 0]]) hx
      first | refine .seq (.rg fun A hA K hK => ?_) | refine .seq (.seq (.rg fun A hA K hK => ?_)) | refine .rg fun A hA K hK => ?_ | refine .seq (.rd fun A hA K hK => ?_) | refine .seq (.seq (.rd fun A hA K hK => ?_)) | refine .rd fun A hA K hK => ?_
      simp (maxSteps := 1000000) only [go_sem, hA.nil, hA.go, hA.yes, hA.noT, hA.noF, hA.skp, h23, h25, prog_get hn, e2]
      refine hK _ _ ?_; clear hK K hA A
      first | refine .seq (.rg fun A hA K hK => ?_) | refine .seq (.seq (.rg fun A hA K hK => ?_)) | refine .rg fun A hA K hK => ?_ | refine .seq (.rd fun A hA K hK => ?_) | refine .seq (.seq (.rd fun A hA K hK => ?_)) | refine .rd fun A hA K hK => ?_
      simp (maxSteps := 1000000) only [go_sem, hA.nil, hA.go, hA.yes, hA.noT, hA.noF, hA.skp]
      refine hK _ _ ?_; clear hK K hA A
      refine .cond (t := l[i][n].kind == 3) (by simp (maxSteps := 1000000) only [go_sem]) (fun ht => ?_) (fun ht => .skip ?_)
      · rw [if_pos ht] at et2
        first | refine .seq (.rg fun A hA K hK => ?_) | refine .seq (.seq (.rg fun A hA K hK => ?_)) | refine .rg fun A hA K hK => ?_ | refine .seq (.rd fun A hA K hK => ?_) | refine .seq (.seq (.rd fun A hA K hK => ?_)) | refine .rd fun A hA K hK => ?_
        simp (maxSteps := 1000000) only [go_sem, hA.nil, hA.go, hA.yes, hA.noT, hA.noF, hA.skp, h4]
        refine hK _ _ ?_; clear hK K hA A
        exact ⟨by simp (maxSteps := 1000000) only [go_sem, h25], by simp (maxSteps := 1000000) only [go_sem, h0], by simp (maxSteps := 1000000) only [go_sem, h3], by simp (maxSteps := 1000000) only [go_sem, et2], by simp (maxSteps := 1000000) only [go_sem, h9], by simp (maxSteps := 1000000) only [go_sem, h10], by simp (maxSteps := 1000000) only [go_sem, h23], by simp (maxSteps := 1000000) only [go_sem, h24], by simp (maxSteps := 1000000) only [go_sem], q⟩
      · rw [if_neg (by rw [ht]; simp)] at et2
        exact ⟨by simp (maxSteps := 1000000) only [go_sem, h25], by simp (maxSteps := 1000000) only [go_sem, h0], by simp (maxSteps := 1000000) only [go_sem, h3], by simp (maxSteps := 1000000) only [go_sem, h4, et2], by simp (maxSteps := 1000000) only [go_sem, h9], by simp (maxSteps := 1000000) only [go_sem, h10], by simp (maxSteps := 1000000) only [go_sem, h23], by simp (maxSteps := 1000000) only [go_sem, h24], by simp (maxSteps := 1000000) only [go_sem], q⟩
    · rintro F s ⟨h0, h3, h4, h9, h10, h23, h24, h25, hx⟩
      rw [List.take_length] at h4
      exact ⟨by simp (maxSteps := 1000000) only [go_sem, h10], by simp (maxSteps := 1000000) only [go_sem, h0], by simp (maxSteps := 1000000) only [go_sem, h3], by simp (maxSteps := 1000000) only [go_sem, h4, et], by simp (maxSteps := 1000000) only [go_sem, h9], by simp (maxSteps := 1000000) only [go_sem], hx⟩
  rintro F s ⟨h0, h3, h4, h9, h10, hx⟩
  rw [List.take_length] at h3 h4
  have hpe := pairs_eq l
  have hq := hx.2
  clear hx hps
  first | refine .seq (.rg fun A hA K hK => ?_) | refine .seq (.seq (.rg fun A hA K hK => ?_)) | refine .rg fun A hA K hK => ?_ | refine .seq (.rd fun A hA K hK => ?_) | refine .seq (.seq (.rd fun A hA K hK => ?_)) | refine .rd fun A hA K hK => ?_
  simp (maxSteps := 1000000) only [go_sem, hA.nil, hA.go, hA.yes, hA.noT, hA.noF, hA.skp, h0, h3, h4]
  first | refine aopq_call (right_spec l _) (by simp (maxSteps := 1000000) only [go_sem, h0, h3, h4]) ?_ | refine aop_call (right_spec l _) (by simp (maxSteps := 1000000) only [go_sem, h0, h3, h4]) ?_
  try simp (maxSteps := 1000000) only [go_sem, hA.nil, hA.go, hA.yes, hA.noT, hA.noF, hA.skp, h0, h3, h4]
  first | refine aopq_call (refRight_spec l _) (by simp (maxSteps := 1000000) only [go_sem, h0, h3, h4]) ?_ | refine aop_call (refRight_spec l _) (by simp (maxSteps := 1000000) only [go_sem, h0, h3, h4]) ?_
  try simp (maxSteps := 1000000) only [go_sem, hA.nil, hA.go, hA.yes, hA.noT, hA.noF, hA.skp, h0, h3, h4]
  first | refine aopq_call (pairs_spec l _) (by simp (maxSteps := 1000000) only [go_sem, h0, h3, h4]) ?_ | refine aop_call (pairs_spec l _) (by simp (maxSteps := 1000000) only [go_sem, h0, h3, h4]) ?_
  try simp (maxSteps := 1000000) only [go_sem, hA.nil, hA.go, hA.yes, hA.noT, hA.noF, hA.skp, h0, h3, h4]
  first | refine aopq_call (refPairs_spec l _) (by simp (maxSteps := 1000000) only [go_sem, h0, h3, h4, hpe]) ?_ | refine aop_call (refPairs_spec l _) (by simp (maxSteps := 1000000) only [go_sem, h0, h3, h4, hpe]) ?_
  try simp (maxSteps := 1000000) only [go_sem, hA.nil, hA.go, hA.yes, hA.noT, hA.noF, hA.skp, h0, h3, h4, hpe]
  first | refine aopq_call (codeCount_spec l _) (by simp (maxSteps := 1000000) only [go_sem, h0, h3, h4]) ?_ | refine aop_call (codeCount_spec l _) (by simp (maxSteps := 1000000) only [go_sem, h0, h3, h4]) ?_
  try simp (maxSteps := 1000000) only [go_sem, hA.nil, hA.go, hA.yes, hA.noT, hA.noF, hA.skp, h0, h3, h4]
  first | refine aopq_call (codeSends_spec l _) (by simp (maxSteps := 1000000) only [go_sem, h0, h3, h4]) ?_ | refine aop_call (codeSends_spec l _) (by simp (maxSteps := 1000000) only [go_sem, h0, h3, h4]) ?_
  try simp (maxSteps := 1000000) only [go_sem, hA.nil, hA.go, hA.yes, hA.noT, hA.noF, hA.skp, h0, h3, h4]
  refine hK _ _ ?_; clear hK K hA A
  exact .ret (ret1b (by simp (maxSteps := 1000000) only [go_sem]) wf hq (.bool _))

end Go.Proofs.Ytfjbabacpnnjmaa.Av

namespace Go.Proofs.Ytfjbabacpnnjmaa.Av
open Go Go.Av
set_option maxRecDepth 20000
set_option maxHeartbeats 4000000

attribute [local go_sem] step_apply stepD_apply stepE_apply
attribute [local go_sem] aopq_mv aopq_pk aopq_al aopq_bx aopq_bd aopq_bs aopq_ld aopq_st aopq_nc aopq_bin aopq_un aopq_cv aopq_mi aopq_mf aopq_mm aopq_ms aopq_sc aopq_fa aopq_fl aopq_ia aopq_lk aopq_mu aopq_lm aopq_rg aopq_en aopq_ta aopq_ex aopq_ln aopq_ap aopq_mx aopq.eq_3 aop.eq_1 aop.eq_2 aop.eq_3 aop.eq_4 aop.eq_5 aop.eq_6 aop.eq_7 aop.eq_8 aop.eq_9 aop_bin atS_apply aop_un_not aop_un_neg aop.eq_14 aop.eq_15 aop.eq_16 aop.eq_17 aop.eq_18 aop_sc cutS_apply cutN_apply cutL_apply cutO_apply aop.eq_20 aop.eq_21 aop.eq_22 aop.eq_23 aop.eq_24 aop.eq_25 aop.eq_26 aop.eq_27 aop.eq_28 aop.eq_29 aop.eq_30 aop.eq_31 aop.eq_32 blk_push next_push blk_set next_set blk_kill next_kill frL_nil frL_cons Fits_nil Fits_cons Int.reduceBEq Int.reduceBNe Nat.sub_zero Option.map_some Option.map_none List.set_cons_succ true_or or_true false_or or_false Int.le_refl Int.cast_ofNat_Int decide_true decide_false List.cons_append fillA fillR rowsOf List.replicate_succ List.replicate_zero Nat.zero_mul getD_drop List.length_drop splice List.nil_append List.append_nil cond_true cond_false List.set_cons_zero List.length_set ev put_some put_none upd_apply abin asNat bounds row1 mk List.length_cons List.length_nil List.length_map List.drop_zero List.drop_succ_cons List.drop_nil List.getD_cons_zero List.getD_cons_succ Option.getD_none Option.getD_some List.take_succ_cons List.take_zero List.take_nil true_and and_true Int.toNat_natCast if_true if_false Nat.zero_add Nat.add_zero List.map_cons List.map_nil Nat.reduceEqDiff Nat.left_eq_add Nat.add_eq_left Nat.add_left_cancel_iff Nat.add_assoc Nat.reduceSub Nat.reduceAdd Nat.reduceLeDiff Nat.le_refl Nat.zero_le Nat.zero_lt_one Nat.lt_add_one Int.reduceLT Int.reduceLE Int.reduceToNat Nat.reduceLT Nat.reduceBEq Bool.false_eq_true Nat.reduceBNe ne_eq not_false_eq_true not_true_eq_false false_and and_false reduceIte Int.natCast_nonneg reduceCtorEq parts_agg parts_bool parts_int parts_str parts_lit parts_nils parts_sl parts_ptr Int.natCast_nonneg Int.natCast_nonneg beq_self_eq_true bne_self_eq_false Bool.true_and Bool.false_and Bool.and_true Bool.and_false Bool.true_or Bool.false_or Bool.or_true Bool.or_false Bool.not_true Bool.not_false
attribute [local go_sem] instr0 instr1 instr2 instr10 instr11 instr12 instrN instrA instr_len node0 node1 node2 node3 node4 node5 node6 nodeA node_len I ints progA progsA

section ret
variable {n0 : Nat} {F : Fr} {σ σ0 : St}
theorem retBc {n b sz : Nat} {row : List AV} {g : Option Nat} {v : AV} {Q : AV → St → Prop} (h : F n = .ptr b 0 0) (hb : σ.blk b = some (.cells sz [row])) (hg : g.getD 1 ≤ sz) (hm : mk g row 0 = v) (wf : σ0.Wf) (hs : ∀ b, b < σ0.next → σ.blk b = σ0.blk b) (hv : v.Lt σ0.next) (hq : Q v σ0) : retQ σ0.next [.c g n] Q .ret F σ :=
  ⟨[v], by simp [resOne, h, hb, hg, hm], v, σ0, .back rfl wf hs hv, hq⟩
end ret

theorem lt_agg {n : Nat} {cs : List AV} (h : ∀ x ∈ cs, x.Lt n) : (AV.agg cs).Lt n := .agg _ fun i hi => by
  rw [List.getD_eq_getElem?_getD, List.getElem?_eq_getElem hi]; exact h _ (List.getElem_mem hi)
theorem lt_tup {n : Nat} {cs : List AV} (h : ∀ x ∈ cs, x.Lt n) : (AV.tup cs).Lt n := .tup _ fun i hi => by
  rw [List.getD_eq_getElem?_getD, List.getElem?_eq_getElem hi]; exact h _ (List.getElem_mem hi)
theorem lt_lit {n sz : Nat} {rows : List (List AV)} (h : ∀ r ∈ rows, ∀ x ∈ r, x.Lt n) : (AV.lit sz rows).Lt n := .lit _ _ fun i j hi hj => by
  have e : rows.getD i [] = rows[i] := by rw [List.getD_eq_getElem?_getD, List.getElem?_eq_getElem hi]; rfl
  rw [e] at hj ⊢
  rw [List.getD_eq_getElem?_getD, List.getElem?_eq_getElem hj]; exact h _ (List.getElem_mem hi) _ (List.getElem_mem hj)
theorem ints_lt {n : Nat} (l : List Int) : (ints l).Lt n := lt_lit (by simp; intro a _; exact .int _ _)
theorem nodeL_lt {n : Nat} (x : Node) : ∀ v ∈ nodeL x, v.Lt n := by
  simp only [nodeL, List.forall_mem_cons, List.not_mem_nil, false_imp_iff, implies_true, and_true]
  exact ⟨.int _ _, ints_lt _, ints_lt _, ints_lt _, .int _ _, .int _ _, .str _⟩
theorem instrL_lt {n : Nat} (x : Instr) : ∀ v ∈ instrL x, v.Lt n := by
  simp only [instrL, List.forall_mem_cons, List.not_mem_nil, false_imp_iff, implies_true, and_true]
  exact ⟨.int _ _, .int _ _, ints_lt _, .int _ _, ints_lt _, ints_lt _, ints_lt _, .int _ _, .int _ _, .str _, .int _ _, .int _ _, .int _ _⟩
theorem progA_lt {n : Nat} (p : List Instr) : (progA p).Lt n := lt_lit (by simp only [List.mem_map]; rintro r ⟨i, _, rfl⟩; exact instrL_lt i)
theorem progsA_lt {n : Nat} (l : List (List Instr)) : (progsA l).Lt n := lt_lit (by simp only [List.mem_map]; rintro r ⟨i, _, rfl⟩ x hx; rw [List.mem_singleton.1 hx]; exact progA_lt i)

theorem frz {P : Program} {n0 : Nat} {c : C} {Q : Exit → Fr → St → Prop} {F : Fr} {σ : St} (i : Nat) {b n sz : Nat} {rows : List (List AV)} (hF : F i = .sl b 0 n) (hb : σ.blk b = some (.cells sz rows)) (hn : n = rows.length)
    (h : SWP P n0 c Q (upd F i (.lit sz rows)) (σ.kill b)) : SWP P n0 c Q F σ := by
  refine .ent (.freeze (i := i) hF hb (by omega)) ?_
  subst hn; simpa using h

/-- slices.Clone -/
theorem clone_spec (l : List Int) (hl : l.length ≤ 2 ^ 20) (σ : St) : T Try.prog 72 [ints l] σ (ints l) σ := by
  refine in72 (by simp) fun wf hab => ?_
  clear hab
  unfold c72
  cases l with
  | nil =>
    refine .nilK 0 (sz := 1) rfl (fun F h0 h1 => ?_) (fun F h0 h1 => ?_)
    · first | refine .seq (.rg fun A hA K hK => ?_) | refine .seq (.seq (.rg fun A hA K hK => ?_)) | refine .rg fun A hA K hK => ?_ | refine .seq (.rd fun A hA K hK => ?_) | refine .seq (.seq (.rd fun A hA K hK => ?_)) | refine .rd fun A hA K hK => ?_
      simp (maxSteps := 1000000) only [go_sem, hA.nil, hA.go, hA.yes, hA.noT, hA.noF, hA.skp]
      refine hK _ _ ?_; clear hK K hA A
      first | refine .seq (.rg fun A hA K hK => ?_) | refine .seq (.seq (.rg fun A hA K hK => ?_)) | refine .rg fun A hA K hK => ?_ | refine .seq (.rd fun A hA K hK => ?_) | refine .seq (.seq (.rd fun A hA K hK => ?_)) | refine .rd fun A hA K hK => ?_
      simp (maxSteps := 1000000) only [go_sem, hA.nil, hA.go, hA.yes, hA.noT, hA.noF, hA.skp, h1]
      refine hK _ _ ?_; clear hK K hA A
      refine .cond (t := true) (by simp (maxSteps := 1000000) only [go_sem]) (fun _ => ?_) (fun h => by cases h)
      first | refine .seq (.rg fun A hA K hK => ?_) | refine .seq (.seq (.rg fun A hA K hK => ?_)) | refine .rg fun A hA K hK => ?_ | refine .seq (.rd fun A hA K hK => ?_) | refine .seq (.seq (.rd fun A hA K hK => ?_)) | refine .rd fun A hA K hK => ?_
      simp (maxSteps := 1000000) only [go_sem, hA.nil, hA.go, hA.yes, hA.noT, hA.noF, hA.skp]
      refine hK _ _ ?_; clear hK K hA A
      refine .ent (.lit0 (i := 2) 1 (by simp (maxSteps := 1000000) only [go_sem])) (.ret (retB (by simp (maxSteps := 1000000) only [go_sem]) wf (fun _ _ => rfl) (ints_lt _) ⟨rfl, rfl⟩))
    · first | refine .seq (.rg fun A hA K hK => ?_) | refine .seq (.seq (.rg fun A hA K hK => ?_)) | refine .rg fun A hA K hK => ?_ | refine .seq (.rd fun A hA K hK => ?_) | refine .seq (.seq (.rd fun A hA K hK => ?_)) | refine .rd fun A hA K hK => ?_
      simp (maxSteps := 1000000) only [go_sem, hA.nil, hA.go, hA.yes, hA.noT, hA.noF, hA.skp]
      refine hK _ _ ?_; clear hK K hA A
      first | refine .seq (.rg fun A hA K hK => ?_) | refine .seq (.seq (.rg fun A hA K hK => ?_)) | refine .rg fun A hA K hK => ?_ | refine .seq (.rd fun A hA K hK => ?_) | refine .seq (.seq (.rd fun A hA K hK => ?_)) | refine .rd fun A hA K hK => ?_
      simp (maxSteps := 1000000) only [go_sem, hA.nil, hA.go, hA.yes, hA.noT, hA.noF, hA.skp, h1]
      refine hK _ _ ?_; clear hK K hA A
      refine .cond (t := false) (by simp (maxSteps := 1000000) only [go_sem]) (fun h => by cases h) (fun _ => .skip ?_)
      first | refine .seq (.rg fun A hA K hK => ?_) | refine .seq (.seq (.rg fun A hA K hK => ?_)) | refine .rg fun A hA K hK => ?_ | refine .seq (.rd fun A hA K hK => ?_) | refine .seq (.seq (.rd fun A hA K hK => ?_)) | refine .rd fun A hA K hK => ?_
      simp (maxSteps := 1000000) only [go_sem, hA.nil, hA.go, hA.yes, hA.noT, hA.noF, hA.skp, h1]
      refine hK _ _ ?_; clear hK K hA A
      refine frz 2 (b := σ.next) (n := 0) (sz := 1) (rows := []) (by simp (maxSteps := 1000000) only [go_sem]) (by simp (maxSteps := 1000000) only [go_sem]) rfl ?_
      refine .ret (retB (by simp (maxSteps := 1000000) only [go_sem]) wf (fun b hb => ?_) (ints_lt _) ⟨rfl, rfl⟩)
      simp only [go_sem]; rw [if_neg (by omega), if_neg (by omega)]
  | cons x xs =>
    first | refine .seq (.rg fun A hA K hK => ?_) | refine .seq (.seq (.rg fun A hA K hK => ?_)) | refine .rg fun A hA K hK => ?_ | refine .seq (.rd fun A hA K hK => ?_) | refine .seq (.seq (.rd fun A hA K hK => ?_)) | refine .rd fun A hA K hK => ?_
    simp (maxSteps := 1000000) only [go_sem, hA.nil, hA.go, hA.yes, hA.noT, hA.noF, hA.skp]
    refine hK _ _ ?_; clear hK K hA A
    first | refine .seq (.rg fun A hA K hK => ?_) | refine .seq (.seq (.rg fun A hA K hK => ?_)) | refine .rg fun A hA K hK => ?_ | refine .seq (.rd fun A hA K hK => ?_) | refine .seq (.seq (.rd fun A hA K hK => ?_)) | refine .rd fun A hA K hK => ?_
    simp (maxSteps := 1000000) only [go_sem, hA.nil, hA.go, hA.yes, hA.noT, hA.noF, hA.skp]
    refine hK _ _ ?_; clear hK K hA A
    refine .cond (t := false) (by simp (maxSteps := 1000000) only [go_sem]) (fun h => by cases h) (fun _ => .skip ?_)
    first | refine .seq (.rg fun A hA K hK => ?_) | refine .seq (.seq (.rg fun A hA K hK => ?_)) | refine .rg fun A hA K hK => ?_ | refine .seq (.rd fun A hA K hK => ?_) | refine .seq (.seq (.rd fun A hA K hK => ?_)) | refine .rd fun A hA K hK => ?_
    simp (maxSteps := 1000000) only [go_sem, hA.nil, hA.go, hA.yes, hA.noT, hA.noF, hA.skp]
    simp only [List.length_cons] at hl
    refine ⟨by simp only [most]; omega, by simp only [most]; omega, ?_⟩
    refine hK _ _ ?_; clear hK K hA A
    refine frz 2 (b := σ.next) (n := xs.length + 1) (sz := 1) (rows := [I x] :: xs.map fun n => [I n]) (by simp (maxSteps := 1000000) only [go_sem]) (by simp (maxSteps := 1000000) only [go_sem]) (by simp) ?_
    refine .ret (retB (by simp (maxSteps := 1000000) only [go_sem]) wf (fun b hb => ?_) (ints_lt _) ⟨rfl, rfl⟩)
    simp only [go_sem]; rw [if_neg (by omega), if_neg (by omega)]

def Node.Sm (x : Node) : Prop := x.ins.length ≤ 2 ^ 20 ∧ x.shape.length ≤ 2 ^ 20 ∧ x.a.length ≤ 2 ^ 20
def Instr.Sm (x : Instr) : Prop := x.ins.length ≤ 2 ^ 20 ∧ x.node.Sm

instance (x : Node) : Decidable x.Sm := by unfold Node.Sm; infer_instance
instance (x : Instr) : Decidable x.Sm := by unfold Instr.Sm; infer_instance

/-- graph.CopyNode -/
theorem copyNode_spec (x : Node) (hx : x.Sm) (σ : St) : T Try.prog 102 [.agg (nodeL x)] σ (.agg (nodeL x)) σ := by
  refine in102 (by simp) fun wf hab => ?_
  clear hab
  unfold c102
  first | refine .seq (.rg fun A hA K hK => ?_) | refine .seq (.seq (.rg fun A hA K hK => ?_)) | refine .rg fun A hA K hK => ?_ | refine .seq (.rd fun A hA K hK => ?_) | refine .seq (.seq (.rd fun A hA K hK => ?_)) | refine .rd fun A hA K hK => ?_
  simp (maxSteps := 1000000) only [go_sem, hA.nil, hA.go, hA.yes, hA.noT, hA.noF, hA.skp, nodeL]
  refine hK _ _ ?_; clear hK K hA A
  first | refine .seq (.rg fun A hA K hK => ?_) | refine .seq (.seq (.rg fun A hA K hK => ?_)) | refine .rg fun A hA K hK => ?_ | refine .seq (.rd fun A hA K hK => ?_) | refine .seq (.seq (.rd fun A hA K hK => ?_)) | refine .rd fun A hA K hK => ?_
  simp (maxSteps := 1000000) only [go_sem, hA.nil, hA.go, hA.yes, hA.noT, hA.noF, hA.skp]
  first | refine aopq_call (clone_spec x.ins hx.1 _) (by simp (maxSteps := 1000000) only [go_sem]) ?_ | refine aop_call (clone_spec x.ins hx.1 _) (by simp (maxSteps := 1000000) only [go_sem]) ?_
  try simp (maxSteps := 1000000) only [go_sem, hA.nil, hA.go, hA.yes, hA.noT, hA.noF, hA.skp]
  first | refine aopq_call (clone_spec x.shape hx.2.1 _) (by simp (maxSteps := 1000000) only [go_sem]) ?_ | refine aop_call (clone_spec x.shape hx.2.1 _) (by simp (maxSteps := 1000000) only [go_sem]) ?_
  try simp (maxSteps := 1000000) only [go_sem, hA.nil, hA.go, hA.yes, hA.noT, hA.noF, hA.skp]
  first | refine aopq_call (clone_spec x.a hx.2.2 _) (by simp (maxSteps := 1000000) only [go_sem]) ?_ | refine aop_call (clone_spec x.a hx.2.2 _) (by simp (maxSteps := 1000000) only [go_sem]) ?_
  try simp (maxSteps := 1000000) only [go_sem, hA.nil, hA.go, hA.yes, hA.noT, hA.noF, hA.skp]
  refine hK _ _ ?_; clear hK K hA A
  first | refine .seq (.rg fun A hA K hK => ?_) | refine .seq (.seq (.rg fun A hA K hK => ?_)) | refine .rg fun A hA K hK => ?_ | refine .seq (.rd fun A hA K hK => ?_) | refine .seq (.seq (.rd fun A hA K hK => ?_)) | refine .rd fun A hA K hK => ?_
  simp (maxSteps := 1000000) only [go_sem, hA.nil, hA.go, hA.yes, hA.noT, hA.noF, hA.skp]
  refine hK _ _ ?_; clear hK K hA A
  refine .ret (retBc (b := σ.next + 1) (sz := 7) (row := nodeL x) (by simp (maxSteps := 1000000) only [go_sem]) (by simp (maxSteps := 1000000) only [go_sem, nodeL]) (by simp) rfl wf (fun b hb => ?_) (lt_agg (nodeL_lt x)) ⟨rfl, rfl⟩)
  simp (disch := omega) only [go_sem, if_neg]

/-- code.own -/
theorem own_spec (x : Instr) (hx : x.Sm) (σ : St) : T Try.prog 62 [.agg (instrL x)] σ (.agg (instrL x)) σ := by
  refine in62 (by simp) fun wf hab => ?_
  clear hab
  unfold c62
  first | refine .seq (.rg fun A hA K hK => ?_) | refine .seq (.seq (.rg fun A hA K hK => ?_)) | refine .rg fun A hA K hK => ?_ | refine .seq (.rd fun A hA K hK => ?_) | refine .seq (.seq (.rd fun A hA K hK => ?_)) | refine .rd fun A hA K hK => ?_
  simp (maxSteps := 1000000) only [go_sem, hA.nil, hA.go, hA.yes, hA.noT, hA.noF, hA.skp, instrL]
  refine hK _ _ ?_; clear hK K hA A
  first | refine .seq (.rg fun A hA K hK => ?_) | refine .seq (.seq (.rg fun A hA K hK => ?_)) | refine .rg fun A hA K hK => ?_ | refine .seq (.rd fun A hA K hK => ?_) | refine .seq (.seq (.rd fun A hA K hK => ?_)) | refine .rd fun A hA K hK => ?_
  simp (maxSteps := 1000000) only [go_sem, hA.nil, hA.go, hA.yes, hA.noT, hA.noF, hA.skp]
  first | refine aopq_call (clone_spec x.ins hx.1 _) (by simp (maxSteps := 1000000) only [go_sem]) ?_ | refine aop_call (clone_spec x.ins hx.1 _) (by simp (maxSteps := 1000000) only [go_sem]) ?_
  try simp (maxSteps := 1000000) only [go_sem, hA.nil, hA.go, hA.yes, hA.noT, hA.noF, hA.skp]
  first | refine aopq_call (copyNode_spec x.node hx.2 _) (by simp (maxSteps := 1000000) only [go_sem, nodeL]) ?_ | refine aop_call (copyNode_spec x.node hx.2 _) (by simp (maxSteps := 1000000) only [go_sem, nodeL]) ?_
  try simp (maxSteps := 1000000) only [go_sem, hA.nil, hA.go, hA.yes, hA.noT, hA.noF, hA.skp, nodeL]
  refine hK _ _ ?_; clear hK K hA A
  first | refine .seq (.rg fun A hA K hK => ?_) | refine .seq (.seq (.rg fun A hA K hK => ?_)) | refine .rg fun A hA K hK => ?_ | refine .seq (.rd fun A hA K hK => ?_) | refine .seq (.seq (.rd fun A hA K hK => ?_)) | refine .rd fun A hA K hK => ?_
  simp (maxSteps := 1000000) only [go_sem, hA.nil, hA.go, hA.yes, hA.noT, hA.noF, hA.skp, nodeL]
  refine hK _ _ ?_; clear hK K hA A
  refine .ret (retBc (b := σ.next + 1) (sz := 13) (row := instrL x) (by simp (maxSteps := 1000000) only [go_sem]) (by simp (maxSteps := 1000000) only [go_sem, instrL, nodeL]) (by simp) rfl wf (fun b hb => ?_) (lt_agg (instrL_lt x)) ⟨rfl, rfl⟩)
  simp (disch := omega) only [go_sem, if_neg]

end Go.Proofs.Ytfjbabacpnnjmaa.Av

namespace Go.Proofs.Ytfjbabacpnnjmaa.Av
open Go Go.Av
set_option maxRecDepth 20000
set_option maxHeartbeats 4000000

attribute [local go_sem] step_apply stepD_apply stepE_apply
attribute [local go_sem] aopq_mv aopq_pk aopq_al aopq_bx aopq_bd aopq_bs aopq_ld aopq_st aopq_nc aopq_bin aopq_un aopq_cv aopq_mi aopq_mf aopq_mm aopq_ms aopq_sc aopq_fa aopq_fl aopq_ia aopq_lk aopq_mu aopq_lm aopq_rg aopq_en aopq_ta aopq_ex aopq_ln aopq_ap aopq_mx aopq.eq_3 aop.eq_1 aop.eq_2 aop.eq_3 aop.eq_4 aop.eq_5 aop.eq_6 aop.eq_7 aop.eq_8 aop.eq_9 aop_bin atS_apply aop_un_not aop_un_neg aop.eq_14 aop.eq_15 aop.eq_16 aop.eq_17 aop.eq_18 aop_sc cutS_apply cutN_apply cutL_apply cutO_apply aop.eq_20 aop.eq_21 aop.eq_22 aop.eq_23 aop.eq_24 aop.eq_25 aop.eq_26 aop.eq_27 aop.eq_28 aop.eq_29 aop.eq_30 aop.eq_31 aop.eq_32 blk_push next_push blk_set next_set blk_kill next_kill frL_nil frL_cons Fits_nil Fits_cons Int.reduceBEq Int.reduceBNe Nat.sub_zero Option.map_some Option.map_none List.set_cons_succ true_or or_true false_or or_false Int.le_refl Int.cast_ofNat_Int decide_true decide_false List.cons_append fillA fillR rowsOf List.replicate_succ List.replicate_zero Nat.zero_mul getD_drop List.length_drop splice List.nil_append List.append_nil cond_true cond_false List.set_cons_zero List.length_set ev put_some put_none upd_apply abin asNat bounds row1 mk List.length_cons List.length_nil List.length_map List.drop_zero List.drop_succ_cons List.drop_nil List.getD_cons_zero List.getD_cons_succ Option.getD_none Option.getD_some List.take_succ_cons List.take_zero List.take_nil true_and and_true Int.toNat_natCast if_true if_false Nat.zero_add Nat.add_zero List.map_cons List.map_nil Nat.reduceEqDiff Nat.left_eq_add Nat.add_eq_left Nat.add_left_cancel_iff Nat.add_assoc Nat.reduceSub Nat.reduceAdd Nat.reduceLeDiff Nat.le_refl Nat.zero_le Nat.zero_lt_one Nat.lt_add_one Int.reduceLT Int.reduceLE Int.reduceToNat Nat.reduceLT Nat.reduceBEq Bool.false_eq_true Nat.reduceBNe ne_eq not_false_eq_true not_true_eq_false false_and and_false reduceIte Int.natCast_nonneg reduceCtorEq parts_agg parts_bool parts_int parts_str parts_lit parts_nils parts_sl parts_ptr Int.natCast_nonneg Int.natCast_nonneg beq_self_eq_true bne_self_eq_false Bool.true_and Bool.false_and Bool.and_true Bool.and_false Bool.true_or Bool.false_or Bool.or_true Bool.or_false Bool.not_true Bool.not_false
attribute [local go_sem] instr0 instr1 instr2 instr10 instr11 instr12 instrN instrA instr_len node0 node1 node2 node3 node4 node5 node6 nodeA node_len I ints progA progsA

/-- A slice of the walk's own, or nil. -/
def Row1 (o : Nat → Option Nat) (l : Nat) (s : St) (sz : Nat) (v : AV) (rows : List (List AV)) : Prop :=
  (v = .nils ∧ rows = []) ∨ ∃ c, v = .sl c 0 rows.length ∧ o c = some l ∧ s.blk c = some (.cells sz rows)

/-- A Maker in memory. 'o': which blocks are its own, and what for. -/
structure Mk (o : Nat → Option Nat) (s : St) (b bL bR : Nat) (vs : List AV) (ps : List (List Instr)) (rs : List Int) (tg : Int) : Prop where
  own0 : o b = some 0
  ownR : o bR = some 1
  ownL : o bL = some 2
  lt : ∀ c, o c ≠ none → c < s.next
  hb : s.blk b = some (.cells 3 [[.sl bL 0 ps.length, .sl bR 0 rs.length, I tg]])
  hL : s.blk bL = some (.cells 1 (vs.map fun v => [v]))
  hR : s.blk bR = some (.cells 1 (rs.map fun r => [I r]))
  hv : vs.length = ps.length
  hr : rs.length = ps.length
  hd : ∀ d, d < ps.length → Row1 o (3 + d) s 13 (vs.getD d .undef) ((ps.getD d []).map instrL)

/-- What is not its own stays; its own grows by new blocks. -/
def Grow (o : Nat → Option Nat) (σ : St) (o' : Nat → Option Nat) (s : St) : Prop :=
  σ.next ≤ s.next ∧ (∀ c, c < σ.next → o' c = o c) ∧ ∀ c, c < σ.next → o c = none → s.blk c = σ.blk c

theorem Grow.refl (o : Nat → Option Nat) (σ : St) : Grow o σ o σ := ⟨Nat.le_refl _, fun _ _ => rfl, fun _ _ _ => rfl⟩
theorem Grow.trans {o o' o'' : Nat → Option Nat} {σ s t : St} (h : Grow o σ o' s) (h' : Grow o' s o'' t) : Grow o σ o'' t :=
  ⟨Nat.le_trans h.1 h'.1, fun c hc => by rw [h'.2.1 c (Nat.lt_of_lt_of_le hc h.1), h.2.1 c hc], fun c hc ho => by
    rw [h'.2.2 c (Nat.lt_of_lt_of_le hc h.1) (by rw [h.2.1 c hc]; exact ho), h.2.2 c hc ho]⟩

section mk
variable {o : Nat → Option Nat} {σ : St} {b bL bR : Nat} {vs : List AV} {ps : List (List Instr)} {rs : List Int} {tg : Int}
theorem Mk.frame (h : Mk o σ b bL bR vs ps rs tg) {s : St} (hn : σ.next ≤ s.next) (hs : ∀ c, o c ≠ none → s.blk c = σ.blk c) : Mk o s b bL bR vs ps rs tg := by
  refine ⟨h.own0, h.ownR, h.ownL, fun c hc => Nat.lt_of_lt_of_le (h.lt c hc) hn, ?_, ?_, ?_, h.hv, h.hr, fun d hd => ?_⟩
  · rw [hs b (by rw [h.own0]; simp)]; exact h.hb
  · rw [hs bL (by rw [h.ownL]; simp)]; exact h.hL
  · rw [hs bR (by rw [h.ownR]; simp)]; exact h.hR
  · rcases h.hd d hd with hh | ⟨c, h1, h2, h3⟩
    · exact .inl hh
    · exact .inr ⟨c, h1, h2, by rw [hs c (by rw [h2]; simp)]; exact h3⟩

theorem ne_lab {c c' : Nat} {x y : Nat} (h : o c = some x) (h' : o c' = some y) (hne : x ≠ y) : ¬ c = c' := by
  rintro rfl; rw [h] at h'; cases h'; exact hne rfl

/-- code.Maker.there -/
theorem there_spec (hb : σ.blk b = some (.cells 3 [[.sl bL 0 ps.length, .sl bR 0 rs.length, I tg]])) (d : Int) : T Try.prog 60 [.ptr b 0 0, I d] σ (.bool (decide (d ≥ 0) && decide (d < ps.length))) σ := by
  refine in60 (by simp) fun wf hab => ?_
  clear hab
  unfold c60
  repeat' (first | (refine hK _ _ ?_; clear hK K hA A) | (refine hA.cut (by simp (maxSteps := 1000000) only [go_sem, *, hb]; with_reducible rfl) (fun hs => ?_) (fun hs => ?_) <;> simp (maxSteps := 1000000) only [go_sem, hA.nil, hA.go, hA.yes, hA.noT, hA.noF, hA.skp, *, hb]) | (refine .seq (.rg fun A hA K hK => ?_); simp (maxSteps := 1000000) only [go_sem, hA.nil, hA.go, hA.yes, hA.noT, hA.noF, hA.skp, *, hb]) | (refine .seq (.seq (.rg fun A hA K hK => ?_)); simp (maxSteps := 1000000) only [go_sem, hA.nil, hA.go, hA.yes, hA.noT, hA.noF, hA.skp, *, hb]) | (refine .rg fun A hA K hK => ?_; simp (maxSteps := 1000000) only [go_sem, hA.nil, hA.go, hA.yes, hA.noT, hA.noF, hA.skp, *, hb]) | (refine .seq (.rd fun A hA K hK => ?_); simp (maxSteps := 1000000) only [go_sem, hA.nil, hA.go, hA.yes, hA.noT, hA.noF, hA.skp, *, hb]) | (refine .seq (.seq (.rd fun A hA K hK => ?_)); simp (maxSteps := 1000000) only [go_sem, hA.nil, hA.go, hA.yes, hA.noT, hA.noF, hA.skp, *, hb]) | (refine .rd fun A hA K hK => ?_; simp (maxSteps := 1000000) only [go_sem, hA.nil, hA.go, hA.yes, hA.noT, hA.noF, hA.skp, *, hb]) | (refine .cond (t := _) (by simp (maxSteps := 1000000) only [go_sem, *, hb]; with_reducible rfl) (fun hs => ?_) (fun hs => ?_) <;> (first | (cases hs; done) | skip)) | (refine .seq (.cond (t := _) (by simp (maxSteps := 1000000) only [go_sem, *, hb]; with_reducible rfl) (fun hs => ?_) (fun hs => ?_)) <;> (first | (cases hs; done) | skip)) | refine .skip ?_ | refine .seq (.block ?_) | refine .block ?_ | refine .exit ?_ | ((exact .ret (ret1 (by simp (maxSteps := 1000000) only [go_sem, *]) rfl)); done))

/-- code.Maker.Room -/
theorem room_spec (h : Mk o σ b bL bR vs ps rs tg) (d : Int) : T Try.prog 61 [.ptr b 0 0, I d] σ (I (if 0 ≤ d ∧ d < ps.length then IntKind.i64.wrap (65536 - ((ps.getD d.toNat []).length : Nat)) else 0)) σ := by
  refine in61 (by simp) fun wf hab => ?_
  clear hab
  have hb := h.hb
  unfold c61
  first | refine .seq (.rg fun A hA K hK => ?_) | refine .seq (.seq (.rg fun A hA K hK => ?_)) | refine .rg fun A hA K hK => ?_ | refine .seq (.rd fun A hA K hK => ?_) | refine .seq (.seq (.rd fun A hA K hK => ?_)) | refine .rd fun A hA K hK => ?_
  simp (maxSteps := 1000000) only [go_sem, hA.nil, hA.go, hA.yes, hA.noT, hA.noF, hA.skp]
  refine hK _ _ ?_; clear hK K hA A
  first | refine .seq (.rg fun A hA K hK => ?_) | refine .seq (.seq (.rg fun A hA K hK => ?_)) | refine .rg fun A hA K hK => ?_ | refine .seq (.rd fun A hA K hK => ?_) | refine .seq (.seq (.rd fun A hA K hK => ?_)) | refine .rd fun A hA K hK => ?_
  simp (maxSteps := 1000000) only [go_sem, hA.nil, hA.go, hA.yes, hA.noT, hA.noF, hA.skp]
  first | refine aopq_call (there_spec (ps := ps) hb d) (by simp (maxSteps := 1000000) only [go_sem]) ?_ | refine aop_call (there_spec (ps := ps) hb d) (by simp (maxSteps := 1000000) only [go_sem]) ?_
  try simp (maxSteps := 1000000) only [go_sem, hA.nil, hA.go, hA.yes, hA.noT, hA.noF, hA.skp]
  refine hK _ _ ?_; clear hK K hA A
  by_cases hd : 0 ≤ d ∧ d < ps.length
  · refine .cond (t := false) (by simp [go_sem, hd.1, hd.2]) (fun h => by cases h) (fun _ => .skip ?_)
    have hv := h.hv
    have hL := h.hL
    obtain ⟨k, rfl⟩ := Int.eq_ofNat_of_zero_le hd.1
    have hk : k < ps.length := by omega
    have hkv : k < vs.length := by omega
    have hg : ((vs.map fun v => [v]).getD k []) = [vs.getD k .undef] := by simp [List.getD_eq_getElem?_getD, hkv]
    have e1 : (k : Int) < ps.length := by omega
    rw [if_pos hd]
    rcases h.hd k hk with ⟨h1, h2⟩ | ⟨c, h1, h2, h3⟩
    · rw [h1] at hg
      have e3 : ps.getD k [] = [] := by simpa using h2
      first | refine .seq (.rg fun A hA K hK => ?_) | refine .seq (.seq (.rg fun A hA K hK => ?_)) | refine .rg fun A hA K hK => ?_ | refine .seq (.rd fun A hA K hK => ?_) | refine .seq (.seq (.rd fun A hA K hK => ?_)) | refine .rd fun A hA K hK => ?_
      simp (maxSteps := 1000000) only [go_sem, hA.nil, hA.go, hA.yes, hA.noT, hA.noF, hA.skp, hb, hL, hg, e1, hkv]
      refine hK _ _ ?_; clear hK K hA A
      exact .ret (ret1 (by simp (maxSteps := 1000000) only [go_sem, e3]) rfl)
    · rw [h1] at hg
      first | refine .seq (.rg fun A hA K hK => ?_) | refine .seq (.seq (.rg fun A hA K hK => ?_)) | refine .rg fun A hA K hK => ?_ | refine .seq (.rd fun A hA K hK => ?_) | refine .seq (.seq (.rd fun A hA K hK => ?_)) | refine .rd fun A hA K hK => ?_
      simp (maxSteps := 1000000) only [go_sem, hA.nil, hA.go, hA.yes, hA.noT, hA.noF, hA.skp, hb, hL, hg, e1, hkv]
      refine hK _ _ ?_; clear hK K hA A
      exact .ret (ret1 (by simp (maxSteps := 1000000) only [go_sem]) rfl)
  · refine .cond (t := true) (by simp only [go_sem]; simp; omega) (fun _ => ?_) (fun h => by cases h)
    first | refine .seq (.rg fun A hA K hK => ?_) | refine .seq (.seq (.rg fun A hA K hK => ?_)) | refine .rg fun A hA K hK => ?_ | refine .seq (.rd fun A hA K hK => ?_) | refine .seq (.seq (.rd fun A hA K hK => ?_)) | refine .rd fun A hA K hK => ?_
    simp (maxSteps := 1000000) only [go_sem, hA.nil, hA.go, hA.yes, hA.noT, hA.noF, hA.skp]
    refine hK _ _ ?_; clear hK K hA A
    exact .ret (ret1 (by rw [if_neg hd]; simp (maxSteps := 1000000) only [go_sem]) rfl)

/-- code.Maker.Devices -/
theorem devices_spec (hb : σ.blk b = some (.cells 3 [[.sl bL 0 ps.length, .sl bR 0 rs.length, I tg]])) : T Try.prog 28 [.ptr b 0 0] σ (I ps.length) σ := by
  refine in28 (by simp) fun wf hab => ?_
  clear hab
  unfold c28
  first | refine .seq (.rg fun A hA K hK => ?_) | refine .seq (.seq (.rg fun A hA K hK => ?_)) | refine .rg fun A hA K hK => ?_ | refine .seq (.rd fun A hA K hK => ?_) | refine .seq (.seq (.rd fun A hA K hK => ?_)) | refine .rd fun A hA K hK => ?_
  simp (maxSteps := 1000000) only [go_sem, hA.nil, hA.go, hA.yes, hA.noT, hA.noF, hA.skp]
  refine hK _ _ ?_; clear hK K hA A
  first | refine .seq (.rg fun A hA K hK => ?_) | refine .seq (.seq (.rg fun A hA K hK => ?_)) | refine .rg fun A hA K hK => ?_ | refine .seq (.rd fun A hA K hK => ?_) | refine .seq (.seq (.rd fun A hA K hK => ?_)) | refine .rd fun A hA K hK => ?_
  simp (maxSteps := 1000000) only [go_sem, hA.nil, hA.go, hA.yes, hA.noT, hA.noF, hA.skp, hb]
  refine hK _ _ ?_; clear hK K hA A
  exact .ret (ret1 (by simp (maxSteps := 1000000) only [go_sem]) rfl)

/-- code.Maker.Tag -/
theorem tag_spec (h : Mk o σ b bL bR vs ps rs tg) (ht : 0 ≤ tg ∧ tg < 2 ^ 62) : TQ Try.prog 25 [.ptr b 0 0] σ fun v s => v = I tg ∧ Mk o s b bL bR vs ps rs (tg + 1) ∧ Grow o σ o s := by
  refine in25 (by simp) fun wf hab => ?_
  clear hab
  have hb := h.hb
  have e1 : IntKind.i64.wrap (tg + 1) = tg + 1 := IntWalk.i64_in _ (by omega)
  have e2 : IntKind.i64.wrap (tg + 1 - 1) = tg := by rw [IntWalk.i64_in _ (by omega)]; omega
  unfold c25
  first | refine .seq (.rg fun A hA K hK => ?_) | refine .seq (.seq (.rg fun A hA K hK => ?_)) | refine .rg fun A hA K hK => ?_ | refine .seq (.rd fun A hA K hK => ?_) | refine .seq (.seq (.rd fun A hA K hK => ?_)) | refine .rd fun A hA K hK => ?_
  simp (maxSteps := 1000000) only [go_sem, hA.nil, hA.go, hA.yes, hA.noT, hA.noF, hA.skp]
  refine hK _ _ ?_; clear hK K hA A
  first | refine .seq (.rg fun A hA K hK => ?_) | refine .seq (.seq (.rg fun A hA K hK => ?_)) | refine .rg fun A hA K hK => ?_ | refine .seq (.rd fun A hA K hK => ?_) | refine .seq (.seq (.rd fun A hA K hK => ?_)) | refine .rd fun A hA K hK => ?_
  simp (maxSteps := 1000000) only [go_sem, hA.nil, hA.go, hA.yes, hA.noT, hA.noF, hA.skp, hb, e1]
  refine hK _ _ ?_; clear hK K hA A
  first | refine .seq (.rg fun A hA K hK => ?_) | refine .seq (.seq (.rg fun A hA K hK => ?_)) | refine .rg fun A hA K hK => ?_ | refine .seq (.rd fun A hA K hK => ?_) | refine .seq (.seq (.rd fun A hA K hK => ?_)) | refine .rd fun A hA K hK => ?_
  simp (maxSteps := 1000000) only [go_sem, hA.nil, hA.go, hA.yes, hA.noT, hA.noF, hA.skp, hb, e2]
  refine hK _ _ ?_; clear hK K hA A
  refine .ret (retS (by simp (maxSteps := 1000000) only [go_sem]) ⟨rfl, ?_, ?_⟩)
  · have nbL := ne_lab h.ownL h.own0 (by decide)
    have nbR := ne_lab h.ownR h.own0 (by decide)
    refine ⟨h.own0, h.ownR, h.ownL, h.lt, by simp (maxSteps := 1000000) only [go_sem], by simp (maxSteps := 1000000) only [go_sem, nbL]; exact h.hL, by simp (maxSteps := 1000000) only [go_sem, nbR]; exact h.hR, h.hv, h.hr, fun d hd => ?_⟩
    rcases h.hd d hd with hh | ⟨c, h1, h2, h3⟩
    · exact .inl hh
    · have := ne_lab h2 h.own0 (by omega)
      exact .inr ⟨c, h1, h2, by simp (maxSteps := 1000000) only [go_sem, this]; exact h3⟩
  · refine ⟨Nat.le_refl _, fun _ _ => rfl, fun c hc ho => ?_⟩
    have : ¬ c = b := by rintro rfl; rw [h.own0] at ho; cases ho
    simp (maxSteps := 1000000) only [go_sem, this]

theorem regs_get {rs : List Int} {d : Nat} (h : d < rs.length) : (rs.map fun r => [I r]).getD d [] = [I (rs.getD d 0)] := by simp [List.getD_eq_getElem?_getD, h]

/-- code.Maker.Fresh -/
theorem fresh_spec (h : Mk o σ b bL bR vs ps rs tg) (d : Nat) (hd : d < ps.length) (ht : 0 ≤ rs.getD d 0 ∧ rs.getD d 0 < 2 ^ 62) :
    TQ Try.prog 23 [.ptr b 0 0, I d] σ fun v s => v = I (rs.getD d 0) ∧ Mk o s b bL bR vs ps (rs.set d (rs.getD d 0 + 1)) tg ∧ Grow o σ o s := by
  refine in23 (by simp) fun wf hab => ?_
  clear hab
  have hb := h.hb
  have hR := h.hR
  have hr := h.hr
  have hdr : d < rs.length := by omega
  have e0 : (d : Int) < ps.length := by omega
  have e0' : (d : Int) < rs.length := by omega
  have e1 : IntKind.i64.wrap (rs.getD d 0 + 1) = rs.getD d 0 + 1 := IntWalk.i64_in _ (by omega)
  have e2 : IntKind.i64.wrap (rs.getD d 0 + 1 - 1) = rs.getD d 0 := by rw [IntWalk.i64_in _ (by omega)]; omega
  have hg := regs_get hdr
  have hset : ((rs.map fun r => [I r]).set d [I (rs.getD d 0 + 1)]) = (rs.set d (rs.getD d 0 + 1)).map fun r => [I r] := by rw [List.map_set]
  have nb := ne_lab h.ownR h.own0 (by decide)
  have nb' := ne_lab h.own0 h.ownR (by decide)
  unfold c23
  first | refine .seq (.rg fun A hA K hK => ?_) | refine .seq (.seq (.rg fun A hA K hK => ?_)) | refine .rg fun A hA K hK => ?_ | refine .seq (.rd fun A hA K hK => ?_) | refine .seq (.seq (.rd fun A hA K hK => ?_)) | refine .rd fun A hA K hK => ?_
  simp (maxSteps := 1000000) only [go_sem, hA.nil, hA.go, hA.yes, hA.noT, hA.noF, hA.skp]
  refine hK _ _ ?_; clear hK K hA A
  first | refine .seq (.rg fun A hA K hK => ?_) | refine .seq (.seq (.rg fun A hA K hK => ?_)) | refine .rg fun A hA K hK => ?_ | refine .seq (.rd fun A hA K hK => ?_) | refine .seq (.seq (.rd fun A hA K hK => ?_)) | refine .rd fun A hA K hK => ?_
  simp (maxSteps := 1000000) only [go_sem, hA.nil, hA.go, hA.yes, hA.noT, hA.noF, hA.skp]
  first | refine aopq_call (there_spec (ps := ps) hb d) (by simp (maxSteps := 1000000) only [go_sem]) ?_ | refine aop_call (there_spec (ps := ps) hb d) (by simp (maxSteps := 1000000) only [go_sem]) ?_
  try simp (maxSteps := 1000000) only [go_sem, hA.nil, hA.go, hA.yes, hA.noT, hA.noF, hA.skp]
  refine hK _ _ ?_; clear hK K hA A
  refine .cond (t := false) (by simp [go_sem, e0]) (fun h => by cases h) (fun _ => .skip ?_)
  first | refine .seq (.rg fun A hA K hK => ?_) | refine .seq (.seq (.rg fun A hA K hK => ?_)) | refine .rg fun A hA K hK => ?_ | refine .seq (.rd fun A hA K hK => ?_) | refine .seq (.seq (.rd fun A hA K hK => ?_)) | refine .rd fun A hA K hK => ?_
  simp (maxSteps := 1000000) only [go_sem, hA.nil, hA.go, hA.yes, hA.noT, hA.noF, hA.skp, hb, hR, hg, e0', hdr, e1]
  refine hK _ _ ?_; clear hK K hA A
  have hg2 : ((rs.map fun r => [I r]).set d [I (rs.getD d 0 + 1)]).getD d [] = [I (rs.getD d 0 + 1)] := by simp [List.getD_eq_getElem?_getD, hdr]
  first | refine .seq (.rg fun A hA K hK => ?_) | refine .seq (.seq (.rg fun A hA K hK => ?_)) | refine .rg fun A hA K hK => ?_ | refine .seq (.rd fun A hA K hK => ?_) | refine .seq (.seq (.rd fun A hA K hK => ?_)) | refine .rd fun A hA K hK => ?_
  simp (maxSteps := 1000000) only [go_sem, hA.nil, hA.go, hA.yes, hA.noT, hA.noF, hA.skp, hb, nb, nb', e0', hdr, hg2, e2]
  refine hK _ _ ?_; clear hK K hA A
  refine .ret (retS (by simp (maxSteps := 1000000) only [go_sem]) ⟨rfl, ?_, ?_⟩)
  · have nbL := ne_lab h.ownL h.ownR (by decide)
    refine ⟨h.own0, h.ownR, h.ownL, h.lt, by simp (maxSteps := 1000000) only [go_sem, nb']; exact hb, by simp (maxSteps := 1000000) only [go_sem, nbL]; exact h.hL, by simp (maxSteps := 1000000) only [go_sem]; exact congrArg _ (congrArg _ hset), h.hv, by simp [hr], fun k hk => ?_⟩
    rcases h.hd k hk with hh | ⟨c, h1, h2, h3⟩
    · exact .inl hh
    · have := ne_lab h2 h.ownR (by omega)
      exact .inr ⟨c, h1, h2, by simp (maxSteps := 1000000) only [go_sem, this]; exact h3⟩
  · refine ⟨Nat.le_refl _, fun _ _ => rfl, fun c hc ho => ?_⟩
    have : ¬ c = bR := by rintro rfl; rw [h.ownR] at ho; cases ho
    simp (maxSteps := 1000000) only [go_sem, this]

/-- There is no such device. -/
theorem fresh_bad (hb : σ.blk b = some (.cells 3 [[.sl bL 0 ps.length, .sl bR 0 rs.length, I tg]])) (d : Int) (hd : ¬ (0 ≤ d ∧ d < ps.length)) : T Try.prog 23 [.ptr b 0 0, I d] σ (I (-1)) σ := by
  refine in23 (by simp) fun wf hab => ?_
  clear hab
  unfold c23
  first | refine .seq (.rg fun A hA K hK => ?_) | refine .seq (.seq (.rg fun A hA K hK => ?_)) | refine .rg fun A hA K hK => ?_ | refine .seq (.rd fun A hA K hK => ?_) | refine .seq (.seq (.rd fun A hA K hK => ?_)) | refine .rd fun A hA K hK => ?_
  simp (maxSteps := 1000000) only [go_sem, hA.nil, hA.go, hA.yes, hA.noT, hA.noF, hA.skp]
  refine hK _ _ ?_; clear hK K hA A
  first | refine .seq (.rg fun A hA K hK => ?_) | refine .seq (.seq (.rg fun A hA K hK => ?_)) | refine .rg fun A hA K hK => ?_ | refine .seq (.rd fun A hA K hK => ?_) | refine .seq (.seq (.rd fun A hA K hK => ?_)) | refine .rd fun A hA K hK => ?_
  simp (maxSteps := 1000000) only [go_sem, hA.nil, hA.go, hA.yes, hA.noT, hA.noF, hA.skp]
  first | refine aopq_call (there_spec (ps := ps) hb d) (by simp (maxSteps := 1000000) only [go_sem]) ?_ | refine aop_call (there_spec (ps := ps) hb d) (by simp (maxSteps := 1000000) only [go_sem]) ?_
  try simp (maxSteps := 1000000) only [go_sem, hA.nil, hA.go, hA.yes, hA.noT, hA.noF, hA.skp]
  refine hK _ _ ?_; clear hK K hA A
  refine .cond (t := true) (by simp only [go_sem]; simp; omega) (fun _ => ?_) (fun h => by cases h)
  first | refine .seq (.rg fun A hA K hK => ?_) | refine .seq (.seq (.rg fun A hA K hK => ?_)) | refine .rg fun A hA K hK => ?_ | refine .seq (.rd fun A hA K hK => ?_) | refine .seq (.seq (.rd fun A hA K hK => ?_)) | refine .rd fun A hA K hK => ?_
  simp (maxSteps := 1000000) only [go_sem, hA.nil, hA.go, hA.yes, hA.noT, hA.noF, hA.skp]
  refine hK _ _ ?_; clear hK K hA A
  exact .ret (ret1 (by simp (maxSteps := 1000000) only [go_sem]) rfl)

/-- code.New -/
theorem new_spec (n : Int) (h1 : 1 ≤ n) (h8 : n ≤ 8) (σ : St) : TQ Try.prog 22 [I n] σ fun v s => ∃ o bb bL bR vs, v = .ptr bb 0 0 ∧ Mk o s bb bL bR vs (List.replicate n.toNat []) (List.replicate n.toNat 0) 0 ∧ σ.next ≤ s.next ∧ (∀ c, o c ≠ none → σ.next ≤ c) ∧ ∀ c, c < σ.next → s.blk c = σ.blk c := by
  refine in22 (by simp) fun wf hab => ?_
  clear hab
  obtain ⟨k, rfl⟩ := Int.eq_ofNat_of_zero_le (show 0 ≤ n by omega)
  have e1 : ¬ ((k : Int) < 1) := by omega
  have e2 : ¬ (8 < (k : Int)) := by omega
  have hm : (k : Int) ≤ most := by simp only [most]; omega
  have hm1 : (k : Int) * 24 ≤ most := by simp only [most]; omega
  have hm2 : (k : Int) * 8 ≤ most := by simp only [most]; omega
  have key : ∀ (s : St) (bL bR bb : Nat), σ.next ≤ bL → σ.next ≤ bR → σ.next ≤ bb → bL ≠ bR → bL ≠ bb → bR ≠ bb → bL < s.next → bR < s.next → bb < s.next → s.blk bb = some (.cells 3 [[.sl bL 0 k, .sl bR 0 k, I 0]]) →
      s.blk bL = some (.cells 1 (List.replicate k [.nils])) → s.blk bR = some (.cells 1 (List.replicate k [I 0])) →
      ∃ o vs, Mk o s bb bL bR vs (List.replicate k []) (List.replicate k 0) 0 ∧ ∀ c, o c ≠ none → σ.next ≤ c := by
    intro s bL bR bb q1 q2 q3 n1 n2 n3 l1 l2 l3 x1 x2 x3
    refine ⟨fun c => if c = bb then some 0 else if c = bR then some 1 else if c = bL then some 2 else none, List.replicate k .nils, ⟨by simp, by simp [n3], by simp [n1, n2], fun c hc => ?_, by simpa using x1, by simpa using x2, by simpa using x3, by simp, by simp, fun d hd => ?_⟩, fun c hc => ?_⟩
    · by_cases w1 : c = bb; · omega
      by_cases w2 : c = bR; · omega
      by_cases w3 : c = bL; · omega
      simp [w1, w2, w3] at hc
    · exact .inl ⟨by simp at hd; simp [List.getD_eq_getElem?_getD, hd], by simp at hd; simp [List.getD_eq_getElem?_getD, hd]⟩
    · by_cases w1 : c = bb; · omega
      by_cases w2 : c = bR; · omega
      by_cases w3 : c = bL; · omega
      simp [w1, w2, w3] at hc
  unfold c22
  first | refine .seq (.rg fun A hA K hK => ?_) | refine .seq (.seq (.rg fun A hA K hK => ?_)) | refine .rg fun A hA K hK => ?_ | refine .seq (.rd fun A hA K hK => ?_) | refine .seq (.seq (.rd fun A hA K hK => ?_)) | refine .rd fun A hA K hK => ?_
  simp (maxSteps := 1000000) only [go_sem, hA.nil, hA.go, hA.yes, hA.noT, hA.noF, hA.skp]
  refine hK _ _ ?_; clear hK K hA A
  first | refine .seq (.rg fun A hA K hK => ?_) | refine .seq (.seq (.rg fun A hA K hK => ?_)) | refine .rg fun A hA K hK => ?_ | refine .seq (.rd fun A hA K hK => ?_) | refine .seq (.seq (.rd fun A hA K hK => ?_)) | refine .rd fun A hA K hK => ?_
  simp (maxSteps := 1000000) only [go_sem, hA.nil, hA.go, hA.yes, hA.noT, hA.noF, hA.skp, e1, e2]
  refine hK _ _ ?_; clear hK K hA A
  refine .cond (t := false) (by simp (maxSteps := 1000000) only [go_sem, e1, e2]) (fun h => by cases h) (fun _ => .skip ?_)
  refine .seq (.rdx2 (fun A hA K hK => ?_) (fun A hA K hK => ?_))
  · simp (maxSteps := 200000) only [go_sem, hA.nil, hA.pur, hA.go, hA.yes, hA.noT, hA.noF, hA.skp, pure_mv, eff_mv, pure_pk, eff_pk, pure_al, eff_al, pure_bx, eff_bx, pure_bd, eff_bd, pure_bs, eff_bs, pure_ld, eff_ld, pure_st, eff_st, pure_nc, eff_nc, pure_bin, eff_bin, pure_un, eff_un, pure_cv, eff_cv, pure_mi, eff_mi, pure_mf, eff_mf, pure_mm, eff_mm, pure_ms, eff_ms, pure_sc, eff_sc, pure_fa, eff_fa, pure_fl, eff_fl, pure_ia, eff_ia, pure_lk, eff_lk, pure_mu, eff_mu, pure_lm, eff_lm, pure_rg, eff_rg, pure_nx, eff_nx, pure_en, eff_en, pure_ta, eff_ta, pure_ex, eff_ex, pure_ln, eff_ln, pure_ap, eff_ap, pure_mx, eff_mx, pure_call, eff_call, pure_callv, eff_callv, chk_nil, chk_cons, again, List.contains_cons, List.contains_nil, hm, hm1, hm2]
    refine hK _ _ ?_; clear hK K hA A
    obtain ⟨o, vs, hk, ho⟩ := key (((σ.push (Blk.cells 1 (List.replicate k [.nils]))).push (Blk.cells 1 (List.replicate k [I 0]))).push (Blk.cells 3 [[.sl σ.next 0 k, .sl (σ.next + 1) 0 k, I 0]])) σ.next (σ.next + 1) (σ.next + 2)
      (by omega) (by omega) (by omega) (by omega) (by omega) (by omega) (by simp (maxSteps := 1000000) only [go_sem]; try omega) (by simp (maxSteps := 1000000) only [go_sem]; try omega) (by simp (maxSteps := 1000000) only [go_sem]; try omega) (by simp (maxSteps := 1000000) only [go_sem]) (by simp (maxSteps := 1000000) only [go_sem]) (by simp (maxSteps := 1000000) only [go_sem])
    refine .ret (retS (by simp (maxSteps := 1000000) only [go_sem]) ⟨o, _, _, _, vs, rfl, hk, by simp (maxSteps := 1000000) only [go_sem]; try omega, ho, fun c hc => ?_⟩)
    simp (disch := omega) only [go_sem, if_neg]
  · simp (maxSteps := 200000) only [go_sem, hA.nil, hA.pur, hA.go, hA.yes, hA.noT, hA.noF, hA.skp, pure_mv, eff_mv, pure_pk, eff_pk, pure_al, eff_al, pure_bx, eff_bx, pure_bd, eff_bd, pure_bs, eff_bs, pure_ld, eff_ld, pure_st, eff_st, pure_nc, eff_nc, pure_bin, eff_bin, pure_un, eff_un, pure_cv, eff_cv, pure_mi, eff_mi, pure_mf, eff_mf, pure_mm, eff_mm, pure_ms, eff_ms, pure_sc, eff_sc, pure_fa, eff_fa, pure_fl, eff_fl, pure_ia, eff_ia, pure_lk, eff_lk, pure_mu, eff_mu, pure_lm, eff_lm, pure_rg, eff_rg, pure_nx, eff_nx, pure_en, eff_en, pure_ta, eff_ta, pure_ex, eff_ex, pure_ln, eff_ln, pure_ap, eff_ap, pure_mx, eff_mx, pure_call, eff_call, pure_callv, eff_callv, chk_nil, chk_cons, again, List.contains_cons, List.contains_nil, hm, hm1, hm2]
    refine hK _ _ ?_; clear hK K hA A
    obtain ⟨o, vs, hk, ho⟩ := key (((σ.push (Blk.cells 1 (List.replicate k [I 0]))).push (Blk.cells 1 (List.replicate k [.nils]))).push (Blk.cells 3 [[.sl (σ.next + 1) 0 k, .sl σ.next 0 k, I 0]])) (σ.next + 1) σ.next (σ.next + 2)
      (by omega) (by omega) (by omega) (by omega) (by omega) (by omega) (by simp (maxSteps := 1000000) only [go_sem]; try omega) (by simp (maxSteps := 1000000) only [go_sem]; try omega) (by simp (maxSteps := 1000000) only [go_sem]; try omega) (by simp (maxSteps := 1000000) only [go_sem]) (by simp (maxSteps := 1000000) only [go_sem]) (by simp (maxSteps := 1000000) only [go_sem])
    refine .ret (retS (by simp (maxSteps := 1000000) only [go_sem]) ⟨o, _, _, _, vs, rfl, hk, by simp (maxSteps := 1000000) only [go_sem]; try omega, ho, fun c hc => ?_⟩)
    simp (disch := omega) only [go_sem, if_neg]

end mk
end Go.Proofs.Ytfjbabacpnnjmaa.Av
