/- A logic of small values, and walks in it: Two operations that both turn something and stand in no order to each other: both orders are gone through. Operations whose order is left open around one call whose answer is left open: all else stands ahead of it or behind it. Code in few words; what it asks and gives; that the model does so; a function's law from its code. Steps that turn nothing in memory: what is the walk's own becomes a plain list; what nobody names any more is dropped. The few words, out of the model's code, by reckoning. For the walks: the region with what comes behind it out of sight; some facts of lists and numbers. -/
import Derived.Test.YtfjbabacpnnjmaaAv2
import Derived.Deep.LoopGhost
import Derived.IntWalk
set_option linter.unusedVariables false
set_option linter.unusedSimpArgs false
set_option linter.deprecated false
namespace Go.Av
open Go.RowKit (Below)

section
variable {P : Program} {Q : Exit → Act → World → Prop}

/-- An operation done in one step, without a call. -/
def plainOp (o : Oper) : Bool := match o.op with
 | .move _ | .assign _ | .pick .. | .alloc _ | .box .. | .build .. | .buildSlice .. | .load .. | .store .. | .makeSlice .. | .fieldAddr .. | .field .. | .indexAddr .. | .extract .. | .binOp .. | .unOp .. => true
 | .call { callee := .builtin .len, .. } => true
 | _ => false

theorem plain_run {o : Oper} (h : plainOp o = true) (ρ : Operand → Value) (w : World) : (∃ v w', (execOp ρ o).run P w = .ok (.value v) w') ∨ (∃ w', (execOp ρ o).run P w = .ok .skip w') ∨ ∃ x w', (execOp ρ o).run P w = .halt x w' := by
 have val : ∀ s : Sem Value, (∃ v w', ((do pure (.value (← s))) : Sem Next).run P w = .ok (.value v) w') ∨ (∃ w', ((do pure (.value (← s))) : Sem Next).run P w = .ok .skip w') ∨ ∃ x w', ((do pure (.value (← s))) : Sem Next).run P w = .halt x w' := by
  intro s
  simp only [Sem.run_bind]
  cases s.run P w with
  | ok v w' => exact .inl ⟨v, w', rfl⟩
  | halt x w' => exact .inr (.inr ⟨x, w', rfl⟩)
 have unit : ∀ s : Sem Unit, (∃ v w', ((do s; pure .skip) : Sem Next).run P w = .ok (.value v) w') ∨ (∃ w', ((do s; pure .skip) : Sem Next).run P w = .ok .skip w') ∨ ∃ x w', ((do s; pure .skip) : Sem Next).run P w = .halt x w' := by
  intro s
  simp only [Sem.run_bind]
  cases s.run P w with
  | ok v w' => exact .inr (.inl ⟨w', rfl⟩)
  | halt x w' => exact .inr (.inr ⟨x, w', rfl⟩)
 unfold plainOp at h
 unfold execOp
 split at h <;> rename_i ho <;> simp only [ho] <;> first
  | exact val _
  | exact unit _
  | exact .inl ⟨_, _, rfl⟩
  | (rename_i c a b
     simp only [Sem.run_bind]
     cases (asBool (ρ c)).run P w with
     | ok v w' => exact .inl ⟨_, w', rfl⟩
     | halt x w' => exact .inr (.inr ⟨x, w', rfl⟩))
  | (simp only [resolve, invoke, builtin, Sem.run_bind, Sem.run_pure, Result.andThen_ok]
     exact val _)
  | cases h

theorem wpOp_and {ops : Array Oper} {i : Nat} {o : Oper} (ho : ops[i]? = some o) (hp : plainOp o = true) {K1 K2 : Act → World → Prop} {a : Act} {w : World} (h1 : wpOp P ops Q i K1 a w) (h2 : wpOp P ops Q i K2 a w) :
  wpOp P ops Q i (fun a w => K1 a w ∧ K2 a w) a w := by
 unfold wpOp at *
 simp only [ho] at *
 split
 ·rename_i hw
  rw [if_pos hw] at h1 h2
  rcases h1 with h1 | h1
  ·rcases h2 with h2 | h2
   ·refine .inl ?_
    unfold Oper.wp at *
    rcases plain_run (P := P) hp a.eval w with ⟨v, w', hr⟩ | ⟨w', hr⟩ | ⟨x, w', hr⟩
    ·rw [hr] at h1 h2 ⊢; exact ⟨h1, h2⟩
    ·rw [hr] at h1 h2 ⊢; exact ⟨h1, h2⟩
    ·rw [hr] at h1 h2 ⊢; cases x <;> simp only [Oper.upon] at h1 ⊢ <;> exact h1
   ·exact .inr h2
  ·exact .inr h1
 ·rename_i hw
  rw [if_neg hw] at h1 h2
  exact ⟨h1, h2⟩

/-- Two texts of the same operations. -/
structure Like (ops ops' : Array Oper) (co : Nat → Nat) : Prop where
 size : ops'.size = ops.size
 lt : ∀ k, k < ops.size → co k < ops.size
 inj : ∀ j k, j < ops.size → k < ops.size → co j = co k → j = k
 sur : ∀ i, i < ops.size → ∃ k, k < ops.size ∧ co k = i
 op : ∀ k o o', ops'[k]? = some o' → ops[co k]? = some o → o'.op = o.op ∧ o'.dst = o.dst ∧ o.guard = none ∧ o'.guard = none ∧ o'.type = o.type

theorem like_wpOp {ops ops' : Array Oper} {co : Nat → Nat} (hl : Like ops ops' co) {k : Nat} (hk : k < ops.size) {K K' : Act → World → Prop} (hK : ∀ a w, K a w → K' a w) {a : Act} {w : World} (h : wpOp P ops' Q k K a w) : wpOp P ops Q (co k) K' a w := by
 have hk' : k < ops'.size := by rw [hl.size]; exact hk
 have hck := hl.lt k hk
 have e1 : ops'[k]? = some ops'[k] := by simp [hk']
 have e2 : ops[co k]? = some ops[co k] := by simp [hck]
 obtain ⟨h1, h2, h3, h4, h5⟩ := hl.op k _ _ e1 e2
 unfold wpOp at *
 simp only [e1, e2, Region.wanted, h3, h4, if_true] at *
 have hex : execOp a.eval ops'[k] = execOp a.eval ops[co k] := by
  generalize ops'[k] = x at *
  generalize ops[co k] = y at *
  obtain ⟨xd, xo, xt, xp, xa, xg⟩ := x
  obtain ⟨yd, yo, yt, yp, ya, yg⟩ := y
  simp only at h1 h2 h5
  subst h1; subst h5
  rfl
 rcases h with h | h
 ·refine .inl ?_
  unfold Oper.wp at *
  rw [hex] at h
  have : ops[co k].upon P a K Q = ops'[k].upon P a K Q := by
   funext r
   unfold Oper.upon
   rw [h2]
  rw [← this] at h
  exact Oper.wp_mono hK (by unfold Oper.wp; exact h)
 ·refine .inr ?_
  unfold Oper.asks at *
  rw [hex] at h; exact h

theorem like_any {ops ops' : Array Oper} {co : Nat → Nat} (hl : Like ops ops' co)
  (hedge : ∀ (k : Nat) o o', ops'[k]? = some o' → ops[co k]? = some o → ∀ j, j < ops.size → (j ∈ aft o' ↔ co j ∈ aft o)) (hlt : ∀ (i : Nat) o, ops[i]? = some o → ∀ j ∈ aft o, j < ops.size) (hlt' : ∀ (i : Nat) o, ops'[i]? = some o → ∀ j ∈ aft o, j < ops.size) :
  ∀ (fuel : Nat) (listed listed' : Array Bool), listed.size = ops.size → listed'.size = ops.size → (∀ k, k < ops.size → listed'.getD k false = listed.getD (co k) false) → ∀ (a : Act) (w : World), wpAny P .any ops' Q fuel listed' a w → wpAny P .any ops Q fuel listed a w := by
 have rdy : ∀ (listed listed' : Array Bool), listed.size = ops.size → listed'.size = ops.size → (∀ k, k < ops.size → listed'.getD k false = listed.getD (co k) false) → ∀ k, k < ops.size → (k ∈ Region.ready .any ops' listed' ↔ co k ∈ Region.ready .any ops listed) := by
  intro listed listed' hs hs' hll k hk
  have hk' : k < ops'.size := by rw [hl.size]; exact hk
  have hck := hl.lt k hk
  have e1 : ops'[k]? = some ops'[k] := by simp [hk']
  have e2 : ops[co k]? = some ops[co k] := by simp [hck]
  have hE := hedge k _ _ e1 e2
  have b1 : listed'.getD k true = listed.getD (co k) true := by
   have := hll k hk
   rw [Array.getD_eq_getD_getElem?, Array.getD_eq_getD_getElem?] at *
   simp [show k < listed'.size by omega, show co k < listed.size by omega] at this ⊢
   exact this
  have memaft : ∀ (o : Oper) (j : Nat), j ∈ aft o ↔ ∃ ed ∈ o.after, Region.binds .any ed = true ∧ ed.on = j := by
   intro o j; simp only [aft, List.mem_map, List.mem_filter]
   constructor
   ·rintro ⟨ed, ⟨h1, h2⟩, rfl⟩; exact ⟨ed, by simpa using h1, h2, rfl⟩
   ·rintro ⟨ed, h1, h2, rfl⟩; exact ⟨ed, ⟨by simpa using h1, h2⟩, rfl⟩
  have c1 : (∃ o, ops'[k]? = some o ∧ ∀ ed ∈ o.after, Region.binds .any ed = true → listed'.getD ed.on false = true) ↔ ∀ j ∈ aft ops'[k], listed'.getD j false = true := by
   rw [e1]
   constructor
   ·rintro ⟨o, ho, h⟩ j hj; cases ho
    obtain ⟨ed, h1, h2, rfl⟩ := (memaft _ _).1 hj; exact h ed h1 h2
   ·exact fun h => ⟨_, rfl, fun ed h1 h2 => h _ ((memaft _ _).2 ⟨ed, h1, h2, rfl⟩)⟩
  have c2 : (∃ o, ops[co k]? = some o ∧ ∀ ed ∈ o.after, Region.binds .any ed = true → listed.getD ed.on false = true) ↔ ∀ j ∈ aft ops[co k], listed.getD j false = true := by
   rw [e2]
   constructor
   ·rintro ⟨o, ho, h⟩ j hj; cases ho
    obtain ⟨ed, h1, h2, rfl⟩ := (memaft _ _).1 hj; exact h ed h1 h2
   ·exact fun h => ⟨_, rfl, fun ed h1 h2 => h _ ((memaft _ _).2 ⟨ed, h1, h2, rfl⟩)⟩
  rw [mem_ready, mem_ready, c1, c2, b1]
  refine and_congr_right fun _ => ⟨fun h j hj => ?_, fun h j hj => ?_⟩
  ·have hjlt := hlt _ _ e2 j hj
   obtain ⟨q, hq, rfl⟩ := hl.sur j hjlt
   rw [← hll q hq]; exact h q ((hE q hq).2 hj)
  ·have hjlt := hlt' _ _ e1 j hj
   rw [hll j hjlt]; exact h _ ((hE j hjlt).1 hj)
 have nil : ∀ (listed listed' : Array Bool), listed.size = ops.size → listed'.size = ops.size → (∀ k, k < ops.size → listed'.getD k false = listed.getD (co k) false) → Region.ready .any ops listed = [] → Region.ready .any ops' listed' = [] := by
  intro listed listed' hs hs' hll h
  cases hr : Region.ready .any ops' listed' with
  | nil => rfl
  | cons k ks =>
   have hk : k ∈ Region.ready .any ops' listed' := by rw [hr]; exact List.mem_cons_self
   have hks : k < ops.size := by
    obtain ⟨_, o, ho, _⟩ := mem_ready.1 hk
    have := (Array.getElem?_eq_some_iff.1 ho).1; rw [hl.size] at this; exact this
   have := (rdy listed listed' hs hs' hll k hks).1 hk
   rw [h] at this; cases this
 have nil' : ∀ (listed listed' : Array Bool), listed.size = ops.size → listed'.size = ops.size → (∀ k, k < ops.size → listed'.getD k false = listed.getD (co k) false) → Region.ready .any ops' listed' = [] → Region.ready .any ops listed = [] := by
  intro listed listed' hs hs' hll h
  cases hr : Region.ready .any ops listed with
  | nil => rfl
  | cons i is =>
   have hi : i ∈ Region.ready .any ops listed := by rw [hr]; exact List.mem_cons_self
   have his : i < ops.size := by
    obtain ⟨_, o, ho, _⟩ := mem_ready.1 hi
    exact (Array.getElem?_eq_some_iff.1 ho).1
   obtain ⟨k, hk, rfl⟩ := hl.sur i his
   have := (rdy listed listed' hs hs' hll k hk).2 hi
   rw [h] at this; cases this
 intro fuel
 induction fuel with
 | zero => intro listed listed' hs hs' hll a w h; exact ⟨nil' listed listed' hs hs' hll h.1, h.2⟩
 | succ fuel ih =>
  intro listed listed' hs hs' hll a w h
  refine ⟨fun hr => h.1 (nil listed listed' hs hs' hll hr), fun i hi => ?_⟩
  have his : i < ops.size := by
   obtain ⟨_, o, ho, _⟩ := mem_ready.1 hi
   exact (Array.getElem?_eq_some_iff.1 ho).1
  obtain ⟨k, hk, rfl⟩ := hl.sur i his
  refine like_wpOp hl hk (fun a w hh => ?_) (h.2 k ((rdy listed listed' hs hs' hll k hk).2 hi))
  refine ih _ _ (by simpa using hs) (by simpa using hs') (fun j hj => ?_) a w hh
  by_cases hjk : k = j
  ·subst hjk
   rw [Array.getD_eq_getD_getElem?, Array.getD_eq_getD_getElem?, Array.getElem?_setIfInBounds_self_of_lt (by omega), Array.getElem?_setIfInBounds_self_of_lt (by have := hl.lt k hk; omega)]
  ·rw [getD_set_ne false hjk, getD_set_ne false (fun h => hjk (hl.inj k j hk hj h))]; exact hll j hj


def addEdge (ops : Array Oper) (i j : Nat) : Array Oper := ops.modify i fun o => { o with after := o.after.push ⟨j, .data⟩ }

theorem addEdge_get (ops : Array Oper) (i j k : Nat) : (addEdge ops i j)[k]? = if i = k then (ops[k]?).map (fun o => { o with after := o.after.push ⟨j, .data⟩ }) else ops[k]? := by
 simp [addEdge, Array.getElem?_modify]

theorem addEdge_wpOp {ops : Array Oper} {i j k : Nat} {K : Act → World → Prop} {a : Act} {w : World} (hg : ∀ (m : Nat) o, ops[m]? = some o → o.guard = none) : wpOp P (addEdge ops i j) Q k K a w ↔ wpOp P ops Q k K a w := by
 unfold wpOp
 rw [addEdge_get]
 by_cases h : i = k
 ·rw [if_pos h]
  cases ho : ops[k]? with
  | none => rfl
  | some o =>
   simp only [Option.map_some, Region.wanted, hg k o ho, if_true]
   rfl
 ·rw [if_neg h]
  cases ho : ops[k]? with
  | none => rfl
  | some o => simp only [Region.wanted, hg k o ho, if_true]

theorem addEdge_ready {ops : Array Oper} {i j : Nat} {listed : Array Bool} (k : Nat) : k ∈ Region.ready .any (addEdge ops i j) listed ↔ k ∈ Region.ready .any ops listed ∧ (i = k → listed.getD j false = true) := by
 rw [mem_ready, mem_ready, addEdge_get]
 by_cases h : i = k
 ·subst h
  rw [if_pos rfl]
  constructor
  ·rintro ⟨h1, o, ho, h2⟩
   simp only [Option.map_eq_some_iff] at ho
   obtain ⟨o', ho', rfl⟩ := ho
   exact ⟨⟨h1, o', ho', fun e he hb => h2 e (by simp [he]) hb⟩, fun _ => h2 ⟨j, .data⟩ (by simp) rfl⟩
  ·rintro ⟨⟨h1, o, ho, h2⟩, h3⟩
   refine ⟨h1, { o with after := o.after.push ⟨j, .data⟩ }, by simp [ho], fun e he hb => ?_⟩
   simp only [Array.mem_push] at he
   rcases he with he | rfl
   ·exact h2 e he hb
   ·exact h3 rfl
 ·rw [if_neg h]
  exact ⟨fun hh => ⟨hh, fun h' => absurd h' h⟩, fun hh => hh.1⟩

theorem addEdge_done {ops : Array Oper} {i j : Nat} (hj : j < ops.size) (hg : ∀ (m : Nat) o, ops[m]? = some o → o.guard = none) : ∀ (fuel : Nat) (listed : Array Bool), listed.size = ops.size → listed.getD j false = true → ∀ (a : Act) (w : World), wpAny P .any (addEdge ops i j) Q fuel listed a w → wpAny P .any ops Q fuel listed a w := by
 have nil : ∀ listed : Array Bool, listed.getD j false = true → (Region.ready .any (addEdge ops i j) listed = [] ↔ Region.ready .any ops listed = []) := by
  intro listed hl
  constructor <;> intro h <;> rw [List.eq_nil_iff_forall_not_mem] at h ⊢ <;> intro k hk
  ·exact h k ((addEdge_ready k).2 ⟨hk, fun _ => hl⟩)
  ·exact h k ((addEdge_ready k).1 hk).1
 intro fuel
 induction fuel with
 | zero => intro listed hs hl a w h; exact ⟨(nil listed hl).1 h.1, h.2⟩
 | succ fuel ih =>
  intro listed hs hl a w h
  refine ⟨fun hr => h.1 ((nil listed hl).2 hr), fun k hk => ?_⟩
  have := h.2 k ((addEdge_ready k).2 ⟨hk, fun _ => hl⟩)
  exact wpOp_mono (fun a w hh => ih _ (by simpa using hs) (getD_set_true hl) a w hh) ((addEdge_wpOp hg).1 this)

/-- The two that stand in no order: the one first, or the other. -/
theorem wpAny_split {ops : Array Oper} {i j : Nat} (hij : i ≠ j) (hi : i < ops.size) (hj : j < ops.size) (hg : ∀ (m : Nat) o, ops[m]? = some o → o.guard = none) (hp : ∀ (m : Nat) o, ops[m]? = some o → plainOp o = true) :
  ∀ (fuel : Nat) (listed : Array Bool), listed.size = ops.size → listed.getD i false = false → listed.getD j false = false → ∀ (a : Act) (w : World), wpAny P .any (addEdge ops i j) Q fuel listed a w → wpAny P .any (addEdge ops j i) Q fuel listed a w →
   wpAny P .any ops Q fuel listed a w := by
 have nil : ∀ listed : Array Bool, Region.ready .any (addEdge ops i j) listed = [] → Region.ready .any (addEdge ops j i) listed = [] → Region.ready .any ops listed = [] := by
  intro listed h1 h2
  rw [List.eq_nil_iff_forall_not_mem] at h1 h2 ⊢
  intro k hk
  by_cases hki : i = k
  ·exact h2 k ((addEdge_ready k).2 ⟨hk, fun h => absurd (hki.trans h.symm) hij⟩)
  ·exact h1 k ((addEdge_ready k).2 ⟨hk, fun h => absurd h hki⟩)
 intro fuel
 induction fuel with
 | zero => intro listed hs li lj a w h1 h2; exact ⟨nil listed h1.1 h2.1, h1.2⟩
 | succ fuel ih =>
  intro listed hs li lj a w h1 h2
  refine ⟨fun hr => ?_, fun k hk => ?_⟩
  ·refine h1.1 ?_
   rw [List.eq_nil_iff_forall_not_mem] at hr ⊢
   intro k hk
   exact hr k ((addEdge_ready k).1 hk).1
  ·have hks : k < ops.size := by
    obtain ⟨_, o, ho, _⟩ := mem_ready.1 hk
    exact (Array.getElem?_eq_some_iff.1 ho).1
   have hset : ∀ m, m < ops.size → (listed.setIfInBounds m true).getD m false = true := by
    intro m hm
    rw [Array.getD_eq_getD_getElem?, Array.getElem?_setIfInBounds_self_of_lt (by omega)]; rfl
   by_cases hki : i = k
   ·subst hki
    have := h2.2 i ((addEdge_ready i).2 ⟨hk, fun h => absurd h.symm hij⟩)
    exact wpOp_mono (fun a w hh => addEdge_done hi hg fuel _ (by simpa using hs) (hset i hi) a w hh) ((addEdge_wpOp hg).1 this)
   ·by_cases hkj : j = k
    ·subst hkj
     have := h1.2 j ((addEdge_ready j).2 ⟨hk, fun h => absurd h hki⟩)
     exact wpOp_mono (fun a w hh => addEdge_done hj hg fuel _ (by simpa using hs) (hset j hj) a w hh) ((addEdge_wpOp hg).1 this)
    ·have q1 := (addEdge_wpOp hg).1 (h1.2 k ((addEdge_ready k).2 ⟨hk, fun h => absurd h hki⟩))
     have q2 := (addEdge_wpOp hg).1 (h2.2 k ((addEdge_ready k).2 ⟨hk, fun h => absurd h hkj⟩))
     have ho : ops[k]? = some ops[k] := by simp [hks]
     refine wpOp_mono (fun a w hh => ih _ (by simpa using hs) (by rw [getD_set_ne false (fun h => hki h.symm)]; exact li) (by rw [getD_set_ne false (fun h => hkj h.symm)]; exact lj) a w hh.1 hh.2) (wpOp_and ho (hp k _ ho) q1 q2)

def permOps (ops : Array Oper) (co : List Nat) : Array Oper :=
 (co.map fun i => let o := ops.getD i default; { o with after := (((aft o).filter co.contains).map fun j => (⟨co.idxOf j, .data⟩ : Edge)).toArray }).toArray

def permOk (ops : Array Oper) (co : List Nat) : Bool :=
 co.length == ops.size && (List.range ops.size).all (fun i => co.contains i) && co.all (· < ops.size) && ops.all (fun o => o.guard.isNone && (aft o).all (· < ops.size)) &&
  (List.range ops.size).all fun j => (List.range ops.size).all fun k => j == k || co.getD j 0 != co.getD k 0

theorem getDN_lt (co : List Nat) (i : Nat) (h : i < co.length) : co.getD i 0 = co[i] := by
 rw [List.getD_eq_getElem?_getD, List.getElem?_eq_getElem h]; rfl

theorem perm_like {ops : Array Oper} {co : List Nat} (h : permOk ops co = true) : Like ops (permOps ops co) (fun k => co.getD k 0) ∧ (∀ (k : Nat) o o', (permOps ops co)[k]? = some o' → ops[co.getD k 0]? = some o → ∀ j, j < ops.size → (j ∈ aft o' ↔ co.getD j 0 ∈ aft o)) ∧
  (∀ (i : Nat) o, ops[i]? = some o → ∀ j ∈ aft o, j < ops.size) ∧ (∀ (i : Nat) o, (permOps ops co)[i]? = some o → ∀ j ∈ aft o, j < ops.size) := by
 simp only [permOk, Bool.and_eq_true, beq_iff_eq, List.all_eq_true, List.mem_range, List.contains_iff_mem, decide_eq_true_eq, Bool.or_eq_true, bne_iff_ne, ne_eq, Array.all_eq_true_iff_forall_mem] at h
 obtain ⟨⟨⟨⟨h1, h2⟩, h3⟩, h4⟩, h5⟩ := h
 have hget : ∀ k, k < ops.size → ∃ hk : k < co.length, co.getD k 0 = co[k] := fun k hk => ⟨by omega, by simp [List.getD_eq_getElem?_getD, show k < co.length by omega]⟩
 have hclt : ∀ k, k < ops.size → co.getD k 0 < ops.size := by
  intro k hk; obtain ⟨hk', e⟩ := hget k hk
  rw [e]; exact h3 _ (List.getElem_mem _)
 have hinj : ∀ j k, j < ops.size → k < ops.size → co.getD j 0 = co.getD k 0 → j = k := by
  intro j k hj hk he
  rcases h5 j hj k hk with h | h
  ·exact h
  ·exact absurd he h
 have hop : ∀ (k : Nat) (hk : k < ops.size), (permOps ops co)[k]? = some { ops[co.getD k 0]'(hclt k hk) with after := (((aft (ops[co.getD k 0]'(hclt k hk))).filter co.contains).map fun j => (⟨co.idxOf j, .data⟩ : Edge)).toArray } := by
  intro k hk
  obtain ⟨hk', e⟩ := hget k hk
  have hlt := hclt k hk
  simp only [permOps, List.getElem?_toArray, List.getElem?_map, List.getElem?_eq_getElem hk', Option.map_some]
  have : ops.getD co[k] default = ops[co.getD k 0]'hlt := by
   rw [e] at hlt
   rw [Array.getD, dif_pos hlt]
   simp only [e]; rfl
  rw [this]
 have hsz : (permOps ops co).size = ops.size := by simp [permOps, h1]
 have haft : ∀ (o : Oper) (l : List Nat), aft { o with after := (l.map fun j => (⟨co.idxOf j, .data⟩ : Edge)).toArray } = l.map fun j => co.idxOf j := by
  intro o l
  simp only [aft]
  rw [List.filter_eq_self.2 (fun e he => by simp only [List.mem_map] at he; obtain ⟨j, _, rfl⟩ := he; rfl), List.map_map]
  rfl
 have hidx : ∀ j, j < ops.size → co.idxOf (co.getD j 0) = j := by
  intro j hj
  obtain ⟨hj', e⟩ := hget j hj
  have hmem : co.getD j 0 ∈ co := by rw [e]; exact List.getElem_mem _
  have hlt := List.idxOf_lt_length_iff.2 hmem
  refine hinj _ _ (by omega) hj ?_
  have : co.getD (co.idxOf (co.getD j 0)) 0 = co[co.idxOf (co.getD j 0)] := getDN_lt co _ hlt
  rw [this, List.getElem_idxOf hlt]
 have hguard : ∀ (i : Nat) o, ops[i]? = some o → o.guard = none ∧ ∀ j ∈ aft o, j < ops.size := by
  intro i o ho
  have := h4 o (Array.mem_of_getElem? ho)
  exact ⟨by simpa using this.1, this.2⟩
 refine ⟨⟨hsz, hclt, hinj, fun i hi => ?_, fun k o o' ho' ho => ?_⟩, fun k o o' ho' ho j hj => ?_, fun i o ho => (hguard i o ho).2, fun i o ho j hj => ?_⟩
 ·have hm := h2 i hi
  have hlt := List.idxOf_lt_length_iff.2 hm
  refine ⟨co.idxOf i, by omega, ?_⟩
  have : co.getD (co.idxOf i) 0 = co[co.idxOf i] := getDN_lt co _ hlt
  rw [this, List.getElem_idxOf hlt]
 ·have hk : k < ops.size := by have := (Array.getElem?_eq_some_iff.1 ho').1; rw [hsz] at this; exact this
  rw [hop k hk] at ho'
  cases ho'
  have : ops[co.getD k 0]'(hclt k hk) = o := by
   have := (Array.getElem?_eq_some_iff.1 ho).2; exact this
  rw [this]
  exact ⟨rfl, rfl, (hguard _ o ho).1, (hguard _ o ho).1, rfl⟩
 ·have hk : k < ops.size := by have := (Array.getElem?_eq_some_iff.1 ho').1; rw [hsz] at this; exact this
  rw [hop k hk] at ho'
  cases ho'
  have he : ops[co.getD k 0]'(hclt k hk) = o := (Array.getElem?_eq_some_iff.1 ho).2
  rw [haft, he]
  constructor
  ·intro hm
   simp only [List.mem_map, List.mem_filter, List.contains_iff_mem] at hm
   obtain ⟨i, ⟨hi1, hi2⟩, hi3⟩ := hm
   have hlt := List.idxOf_lt_length_iff.2 hi2
   have : co.getD (co.idxOf i) 0 = i := by
    have : co.getD (co.idxOf i) 0 = co[co.idxOf i] := getDN_lt co _ hlt
    rw [this, List.getElem_idxOf hlt]
   rw [← hi3, this]; exact hi1
  ·intro hm
   simp only [List.mem_map, List.mem_filter, List.contains_iff_mem]
   obtain ⟨hj', e⟩ := hget j hj
   exact ⟨co.getD j 0, ⟨hm, by rw [e]; exact List.getElem_mem _⟩, hidx j hj⟩
 ·have hi : i < ops.size := by have := (Array.getElem?_eq_some_iff.1 ho).1; rw [hsz] at this; exact this
  rw [hop i hi] at ho
  cases ho
  rw [haft] at hj
  simp only [List.mem_map, List.mem_filter, List.contains_iff_mem] at hj
  obtain ⟨q, ⟨_, hq⟩, rfl⟩ := hj
  have := List.idxOf_lt_length_iff.2 hq
  omega

end
/-- An operation with one answer. -/
def CO.fix : CO → Bool
 | .call q _ _ => q
 | .callv q _ _ => q
 | .nx _ => false
 | _ => true
def CO.opn : CO → Bool
 | .call q _ _ => !q
 | _ => false
/-- The q-th is a call, all others stand in an order to it. -/
def drqOk (ros : List RO) (tbl : List (List Nat)) (q : Nat) : Bool :=
 (match ros[q]? with
  | some r => r.g.isNone && r.op.opn
  | none => false) &&
 (List.range ros.length).all fun k => if k < q then (tbl.getD q []).contains k && (match ros[k]? with | some r => r.op.fix | none => false)
  else if k = q then true else (tbl.getD k []).contains q && (match ros[k]? with | some r => r.op.fix | none => false)

theorem aopq_fix {P : Program} {op : CO} (h : op.fix = true) {F : Fr} {σ : St} {K : AV → St → Prop} (ha : aopq P op F σ K) : aop P op F σ K := by
 cases op with
 | call q f xs =>
  have h : q = true := h
  simpa only [aopq, h, if_true] using ha
 | callv q x xs =>
  have h : q = true := h
  simp only [aopq] at ha
  split at ha
  ·rw [if_pos h] at ha; exact ha
  ·exact ha.elim
 | nx x => cases h
 | _ => exact ha
theorem aops_aopd {P : Program} {K : Fr → St → Prop} : ∀ {os : List RO} {F : Fr} {σ : St}, (∀ r ∈ os, r.op.fix = true) → aops P os F σ K → aopd P os F σ K
 | [], _, _, _, h => h
 | ⟨d, none, o⟩ :: os, F, σ, hf, h => aop_mono' (fun _ _ h => aops_aopd (fun r hr => hf r (List.mem_cons_of_mem _ hr)) h) (aopq_fix (hf _ List.mem_cons_self) h)
 | ⟨d, some (t, want), o⟩ :: os, F, σ, hf, h => by
  simp only [aops, aopd] at h ⊢
  split at h
  ·rename_i hF
   try simp only [hF]
   split at h
   ·rename_i hb; rw [if_pos hb]; exact aop_mono' (fun _ _ h => aops_aopd (fun r hr => hf r (List.mem_cons_of_mem _ hr)) h) (aopq_fix (hf _ List.mem_cons_self) h)
   ·rename_i hb; rw [if_neg hb]; exact aops_aopd (fun r hr => hf r (List.mem_cons_of_mem _ hr)) h
  ·rename_i hF
   (try simp only [hF]); exact aops_aopd (fun r hr => hf r (List.mem_cons_of_mem _ hr)) h
  ·exact h.elim
theorem aops_split {P : Program} {K : Fr → St → Prop} {d : Option Nat} {o : CO} {b : List RO} : ∀ {a : List RO} {F : Fr} {σ : St}, (∀ r ∈ a, r.op.fix = true) → aops P (a ++ ⟨d, none, o⟩ :: b) F σ K → aopd P a F σ fun F1 σ1 => aopq P o F1 σ1 fun v σ' => aops P b (put F1 d v) σ' K
 | [], _, _, _, h => h
 | ⟨d', none, o'⟩ :: os, F, σ, hf, h => aop_mono' (fun _ _ h => aops_split (fun r hr => hf r (List.mem_cons_of_mem _ hr)) h) (aopq_fix (hf _ List.mem_cons_self) h)
 | ⟨d', some (t, want), o'⟩ :: os, F, σ, hf, h => by
  simp only [List.cons_append, aops, aopd] at h ⊢
  split at h
  ·rename_i hF
   try simp only [hF]
   split at h
   ·rename_i hb; rw [if_pos hb]; exact aop_mono' (fun _ _ h => aops_split (fun r hr => hf r (List.mem_cons_of_mem _ hr)) h) (aopq_fix (hf _ List.mem_cons_self) h)
   ·rename_i hb; rw [if_neg hb]; exact aops_split (fun r hr => hf r (List.mem_cons_of_mem _ hr)) h
  ·rename_i hF
   (try simp only [hF]); exact aops_split (fun r hr => hf r (List.mem_cons_of_mem _ hr)) h
  ·exact h.elim

section
variable {P : Program} {c : Cfg} {N : Nat} {ops : Array Oper} {ros : List RO} {tbl : List (List Nat)}
theorem drsOk_take (h : drsOk ros tbl = true) (q : Nat) : drsOk (ros.take q) tbl = true := by
 simp only [drsOk, List.all_eq_true, List.mem_range] at h ⊢
 intro i hi j hj
 have hi2 : i < ros.length := by rw [List.length_take] at hi; omega
 have hiq : i < q := by rw [List.length_take] at hi; omega
 have := h i hi2 j hj
 rw [List.getElem?_take_of_lt hiq, List.getElem?_take_of_lt (by omega)]
 exact this
theorem Good.take {q q' k : Nat} {L : List Tr} (hk : k < q) (h : Good P ops (ros.take q) tbl q' L k) : Good P ops ros tbl q' L k := by
 obtain ⟨r, t, t', h1, h2, h3, h4, h5, h6, h7, h8, h9, h10⟩ := h
 refine ⟨r, t, t', by rw [List.getElem?_take_of_lt hk] at h1; exact h1, h2, h3, h4, h5, h6, h7, h8, h9, fun j tj rj hj a1 a2 => h10 j tj rj hj a1 (by rw [List.getElem?_take_of_lt (by omega)]; exact a2)⟩
/-- The same traces ahead. -/
theorem Good.pre {q k : Nat} {L L' : List Tr} (h : Good P ops ros tbl q L k) (hl : ∀ j, j ≤ k → L'[j]? = L[j]?) (hn : ∀ t, L[k + 1]? = some t → ∃ t', L'[k + 1]? = some t' ∧ t'.F = t.F ∧ t'.s = t.s) : Good P ops ros tbl q L' k := by
 obtain ⟨r, t, t', h1, h2, h3, h4, h5, h6, h7, h8, h9, h10⟩ := h
 obtain ⟨t2, a1, a2, a3⟩ := hn t' h3
 exact ⟨r, t, t2, h1, by rw [hl k (Nat.le_refl _)]; exact h2, a1, by rw [a2]; exact h4, by rw [a3]; exact h5, h6, h7, h8, h9, fun j tj rj hj b1 b2 => h10 j tj rj hj (by rw [← hl j (by omega)]; exact b1) b2⟩

theorem anyq_ok {W0 : World} {e0 : Env} (q : Nat) (h : ops.toList.mapM (erO P c N ops) = some ros) (hd : drOk ops ros tbl = true) (hds : drsOk ros tbl = true) (hdq : drqOk ros tbl q = true)
  {Q : Exit → Fr → St → Prop} {F : Fr} {σ : St} (hw : aops P ros F σ fun F' σ' => Q .normal F' σ') {a : Act} {w : World} {QL : Exit → Act → World → Prop}
  (hQL : ∀ F' σ' e' a' w', Q .normal F' σ' → e0.le e' → Rel W0 e' σ' w' → (∀ t, VR e' (F' t) (a'.tmps.getD t Go.undef)) → a'.tmps.size = N → a'.defers = [] → QL .normal a' w')
  (hrel : Rel W0 e0 σ w) (hfr : ∀ t, VR e0 (F t) (a.tmps.getD t Go.undef)) (hN : a.tmps.size = N) (hdf : a.defers = []) :
  wpAny P .any ops QL ops.size (Array.replicate ops.size false) a w := by
 have hlen : ros.length = ops.size := by
  have : ∀ (xs : List Oper) (ys : List RO), xs.mapM (erO P c N ops) = some ys → ys.length = xs.length := by
   intro xs
   induction xs with
   | nil => intro ys h; simp at h; subst h; rfl
   | cons x xs ih => intro ys h; obtain ⟨y, ys', _, h2, rfl⟩ := mapM_cons' _ _ _ h; simp [ih _ h2]
  simpa using this _ _ h
 -- the call
 simp only [drqOk, Bool.and_eq_true] at hdq
 obtain ⟨hq1, hq2⟩ := hdq
 rw [List.all_eq_true] at hq2
 obtain ⟨rq, hrq, hgq, hoq⟩ : ∃ r, ros[q]? = some r ∧ r.g = none ∧ r.op.opn = true := by
  cases hr : ros[q]? with
  | none => rw [hr] at hq1; cases hq1
  | some r => rw [hr] at hq1; simp only [Bool.and_eq_true, Option.isNone_iff_eq_none] at hq1; exact ⟨r, rfl, hq1.1, hq1.2⟩
 have hql : q < ros.length := (List.getElem?_eq_some_iff.1 hrq).1
 have hbefore : ∀ k, k < q → k ∈ tbl.getD q [] := fun k hk => by
  have := hq2 k (List.mem_range.2 (by omega))
  rw [if_pos hk, Bool.and_eq_true] at this
  simpa using this.1
 have hbehind : ∀ k, q < k → k < ros.length → q ∈ tbl.getD k [] := fun k hk hk2 => by
  have := hq2 k (List.mem_range.2 hk2)
  rw [if_neg (by omega), if_neg (by omega), Bool.and_eq_true] at this
  simpa using this.1
 have hfix : ∀ k r, k ≠ q → ros[k]? = some r → r.op.fix = true := fun k r hk hr => by
  have hk2 := (List.getElem?_eq_some_iff.1 hr).1
  have := hq2 k (List.mem_range.2 hk2)
  rw [hr] at this
  split at this
  ·rw [Bool.and_eq_true] at this; exact this.2
  ·first
    | (rw [if_neg hk, Bool.and_eq_true] at this; exact this.2)
    | (rw [Bool.and_eq_true] at this; exact this.2)
 have heffq : rq.op.eff = true ∧ rq.op.pure = false := by
  cases hop : rq.op <;> rw [hop] at hoq <;> simp [CO.opn, CO.eff, CO.pure] at hoq ⊢
  exact hoq
 obtain ⟨dq, gq, oq⟩ := rq
 simp only at hgq heffq
 subst hgq
 have hsplit : ros = ros.take q ++ ⟨dq, none, oq⟩ :: ros.drop (q + 1) := by
  have h1 : ros[q] = ⟨dq, none, oq⟩ := by rw [List.getElem?_eq_getElem hql] at hrq; exact Option.some.inj hrq
  rw [← h1, ← List.drop_eq_getElem_cons hql, List.take_append_drop]
 have hfa : ∀ r ∈ ros.take q, r.op.fix = true := fun r hr => by
  obtain ⟨k, hk, rfl⟩ := List.getElem_of_mem hr
  have hkq : k < q := by rw [List.length_take] at hk; omega
  exact hfix k _ (by omega) (by rw [List.getElem_take]; exact List.getElem?_eq_getElem _)
 have hfb : ∀ r ∈ ros.drop (q + 1), r.op.fix = true := fun r hr => by
  obtain ⟨k, hk, rfl⟩ := List.getElem_of_mem hr
  refine hfix (q + 1 + k) _ (by omega) ?_
  rw [List.getElem_drop]; exact List.getElem?_eq_getElem _
 rw [hsplit] at hw
 have hw := aops_split hfa hw
 have hmt : ∀ (i : Nat) r, (ros.take q)[i]? = some r → ∃ o, ops.toList[i]? = some o ∧ erO P c N ops o = some r := fun i r hr => by
  have : i < q := by
   have := (List.getElem?_eq_some_iff.1 hr).1
   rw [List.length_take] at this; omega
  rw [List.getElem?_take_of_lt this] at hr
  exact (mapM_get h i).1 r hr
 have hlt : (ros.take q).length = q := by rw [List.length_take]; omega
 -- ahead of it
 obtain ⟨t0, post, tl, b1, b2, b3, b4, b5, b6⟩ := adr_good (tbl := tbl) q hmt (ros.take q) 0 [] F σ [] rfl (Nat.zero_le _) rfl (by simp) (by simp) (aopd_adr (drsOk_take hds q) (ros.take q) 0 [] F σ rfl (fun j o t hm => by cases hm) hw)
 rw [hlt] at b3 b4 b5
 simp only [List.nil_append] at b4 b5
 have hGA : ∀ k, k < q → Good P ops ros tbl q (t0 :: post) k := fun k hk => (b4 k (Nat.zero_le _) hk).take hk
 have hnone : ∀ i, ((Array.replicate ops.size false).getD i false) = false := by
  intro i
  rw [Array.getD_eq_getD_getElem?, Array.getElem?_replicate]; split <;> rfl
 obtain ⟨o, ho, hero⟩ : ∃ o, ops[q]? = some o ∧ erO P c N ops o = some ⟨dq, none, oq⟩ := by
  obtain ⟨o, h1, h2⟩ := (mapM_get h q).1 _ hrq
  exact ⟨o, by simpa using h1, h2⟩
 obtain ⟨her, hdst, hdN, _, hgs⟩ := ero_op hero
 have hog : o.guard = none := by
  cases hh : o.guard with
  | none => rfl
  | some jw =>
   obtain ⟨j, want⟩ := jw
   obtain ⟨d, _, h2⟩ := hgs j want hh
   cases h2
 simp only at her hdst
 refine draw_gen (W0 := W0) (e0 := e0) (L := t0 :: post) h hd (t0 := t0) (tl := tl) q q (by omega) (by simp) b1 b2 hGA b5 (fun _ => ⟨hbefore, hbehind⟩) (fun fuel listed a1 w1 hsz hcnt hcl hall hge hinv => ?_) ops.size _ a w (by simp) ?_ ?_ (fun h => absurd h (Nat.lt_irrefl _)) (fun k _ => hnone k) ?_
 ·-- the call itself
  obtain ⟨e1, g1, g2, g3, g4, g5⟩ := hinv
  have hq0 := hge q (Nat.le_refl _)
  have hqs : q < ops.size := by omega
  have hqin : q ∈ Region.ready .any ops listed := by
   rw [mem_ready]
   refine ⟨?_, o, ho, fun ed hed hb => ?_⟩
   ·rw [Array.getD_eq_getD_getElem?] at hq0 ⊢
    have : q < listed.size := by omega
    simp [this] at hq0 ⊢; exact hq0
   ·have hmem : ed.on ∈ aft o := by
     simp only [aft, List.mem_map, List.mem_filter]
     exact ⟨ed, ⟨by simpa using hed, hb⟩, rfl⟩
    have hd' := hd
    simp only [drOk, Bool.and_eq_true] at hd'
    exact hall ed.on ((tbl_spec hd'.1.1 ho).1 _ hmem)
  cases fuel with
  | zero =>
   exfalso
   have hz : (List.range ops.size).countP (fun i => !listed.getD i false) = 0 := by omega
   rw [List.countP_eq_zero] at hz
   have := hz q (List.mem_range.2 hqs)
   rw [hq0] at this; simp at this
  | succ fuel =>
  refine ⟨fun hready => (by rw [hready] at hqin; cases hqin), fun i hi => ?_⟩
  have hiq : i = q := by
   rw [mem_ready] at hi
   obtain ⟨h1, oi, hoi, haft⟩ := hi
   have his : i < ops.size := (Array.getElem?_eq_some_iff.1 hoi).1
   have his' : i < listed.size := by omega
   have hnot : listed.getD i false = false := by
    rw [Array.getD_eq_getD_getElem?] at h1 ⊢
    simp [his'] at h1 ⊢; exact h1
   rcases Nat.lt_trichotomy i q with h2 | h2 | h2
   ·rw [hall i h2] at hnot; cases hnot
   ·exact h2
   ·exfalso
    have hd' := hd
    simp only [drOk, Bool.and_eq_true] at hd'
    have hS : ∀ k, listed.getD k false = true → k < ops.size := by
     intro k hk
     rw [Array.getD_eq_getD_getElem?] at hk
     rcases Nat.lt_or_ge k listed.size with h | h
     ·omega
     ·simp [Array.getElem?_eq_none h] at hk
    have haftS : ∀ j ∈ aft oi, listed.getD j false = true := by
     intro j hj
     simp only [aft, List.mem_map, List.mem_filter] at hj
     obtain ⟨ed, ⟨hed, hb⟩, rfl⟩ := hj
     exact haft ed (by simpa using hed) hb
    have hqt := hbehind i h2 (by omega)
    obtain ⟨_, h3⟩ := tbl_spec hd'.1.1 hoi
    have : listed.getD q false = true := by
     rcases h3 q hqt with h4 | ⟨m, hm', h4⟩
     ·exact haftS q h4
     ·exact (closed_tbl hd'.1.1 hS hcl m (haftS m hm') q h4).1
    rw [hq0] at this; cases this
  subst hiq
  unfold wpOp
  simp only [ho]
  have hwant : Region.wanted o (yielded ops a1.tmps) = true := by simp [Region.wanted, hog]
  rw [hwant]
  simp only [if_true]
  refine .inl ?_
  refine opq_ok her b6 W0 e1 a1 w1 _ QL g2 (fun t _ => g3 t) fun e' v' w' v σ' hK hle' hrel' hv' => ?_
  -- behind it
  have hset : ∀ k, (listed.setIfInBounds i true).getD k false = true ↔ k ≤ i := by
   intro k
   by_cases hki : i = k
   ·subst hki; simp [Array.getD_eq_getD_getElem?, show i < listed.size by omega]
   ·rw [getD_set_ne false hki]
    constructor
    ·intro h1
     rcases Nat.lt_or_ge k i with h2 | h2
     ·omega
     ·rw [hge k h2] at h1; cases h1
    ·intro h1; exact hall k (by omega)
  have hpl : ((t0 :: post).take i).length = i := by
   rw [List.length_take, List.length_cons, b3]; omega
  obtain ⟨tq, htq⟩ : ∃ tq : Tr, tq = ⟨tl.F, tl.s, v, σ', true⟩ := ⟨_, rfl⟩
  obtain ⟨pre, hpre⟩ : ∃ pre, pre = (t0 :: post).take i ++ [tq] := ⟨_, rfl⟩
  have hprel : pre.length = i + 1 := by rw [hpre]; simp [b3]
  have hprek : ∀ j, j < i → pre[j]? = (t0 :: post)[j]? := fun j hj => by
   rw [hpre, List.getElem?_append_left (by omega), List.getElem?_take_of_lt hj]
  have hpreq : pre[i]? = some tq := by
   rw [hpre, List.getElem?_append_right (by omega), hpl, Nat.sub_self]; rfl
  obtain ⟨hist, hhist⟩ : ∃ hist : List (Nat × CO × Tr), hist = (List.range (i + 1)).filterMap fun j => (ros[j]?).bind fun r => (pre[j]?).map fun t => (j, r.op, t) := ⟨_, rfl⟩
  have hhm : ∀ j o t, (j, o, t) ∈ hist → j < i + 1 ∧ ∃ r, ros[j]? = some r ∧ r.op = o := by
   intro j o' t hm
   rw [hhist, List.mem_filterMap] at hm
   obtain ⟨j', hj', hb⟩ := hm
   obtain ⟨r, hr, hb⟩ := Option.bind_eq_some_iff.1 hb
   obtain ⟨t', ht', hb⟩ := Option.map_eq_some_iff.1 hb
   cases hb
   exact ⟨List.mem_range.1 hj', r, hr, rfl⟩
  have hwb := aopd_adr hds (ros.drop (i + 1)) (i + 1) hist (put tl.F dq v) σ' rfl hhm (aops_aopd hfb hK)
  obtain ⟨t1, post1, tl1, c1, c2, c3, c4, c5, c6⟩ := adr_good i (fun k r hh => (mapM_get h k).1 r hh) (ros.drop (i + 1)) (i + 1) hist (put tl.F dq v) σ' pre rfl (by omega) hprel (by
    intro j tj rj hj hrj _ _
    rw [hhist, List.mem_filterMap]
    have hj1 := (List.getElem?_eq_some_iff.1 hj).1
    exact ⟨j, List.mem_range.2 (by omega), by rw [hrj, hj]; rfl⟩) (by
    intro j tj rj oj hj hrj hoj hrun hpu
    have hj1 := (List.getElem?_eq_some_iff.1 hj).1
    by_cases hji : j = i
    ·subst hji
     rw [hrq] at hrj; cases hrj
     simp only at hpu
     rw [heffq.2] at hpu; cases hpu
    ·have hjl : j < i := by omega
     rw [hprek j hjl] at hj
     obtain ⟨r2, t2, t3, d1, d2, _, _, _, d6, _⟩ := hGA j hjl
     rw [hrj] at d1; cases d1
     rw [hj] at d2; cases d2
     exact ((d6 hrun).2 (by omega) oj hoj).2 hpu) hwb
  have hLk : ∀ j, j < i → (pre ++ t1 :: post1)[j]? = (t0 :: post)[j]? := fun j hj => by
   rw [List.getElem?_append_left (by omega)]; exact hprek j hj
  have hLq : (pre ++ t1 :: post1)[i]? = some tq := by
   rw [List.getElem?_append_left (by omega)]; exact hpreq
  have hLn : (pre ++ t1 :: post1)[i + 1]? = some t1 := by
   rw [List.getElem?_append_right (by omega), hprel, Nat.sub_self]; rfl
  have hGB : ∀ k, k < ros.length → Good P ops ros tbl i (pre ++ t1 :: post1) k := by
   intro k hk
   rcases Nat.lt_trichotomy k i with hki | hki | hki
   ·refine (hGA k hki).pre (fun j hj => hLk j (by omega)) fun t ht => ?_
    by_cases hk1 : k + 1 = i
    ·rw [hk1] at ht ⊢
     rw [b5] at ht; cases ht
     exact ⟨tq, hLq, by rw [htq], by rw [htq]⟩
    ·exact ⟨t, by rw [hLk _ (by omega)]; exact ht, rfl, rfl⟩
   ·subst hki
    refine ⟨_, tq, t1, hrq, hLq, hLn, by rw [c1, htq], by rw [c2, htq], fun _ => ⟨.inl heffq.1, fun hh => absurd rfl hh⟩, fun hh => ?_, fun _ => by rw [htq], fun d want hh => (by cases hh), fun j tj rj hj _ _ _ _ => .inl (hbefore j hj)⟩
    rw [htq] at hh; cases hh
   ·exact c4 k (by omega) hk
  have h00 : (pre ++ t1 :: post1)[0]? = some t0 ∨ i = 0 := by
   by_cases hi0 : i = 0
   ·exact .inr hi0
   ·exact .inl (by rw [hLk 0 (by omega)]; rfl)
  -- the traces' first frame is the region's
  obtain ⟨t00, k1, k2, k3⟩ : ∃ t00, (pre ++ t1 :: post1)[0]? = some t00 ∧ t00.F = F ∧ t00.s = σ := by
   rcases h00 with hh | hh
   ·exact ⟨t0, hh, b1, b2⟩
   ·subst hh
    have : tl = t0 := by simpa using b5.symm
    exact ⟨tq, hLq, by rw [htq, this]; exact b1, by rw [htq, this]; exact b2⟩
  have hcanon := canon (L := t0 :: post) (ros := ros) (tbl := tbl) (P := P) (ops := ops) (F0 := F) (s0 := σ) (t0 := t0) (q := i) (lim := i) (by simp) b1 b2 hGA i (Nat.le_refl _)
  obtain ⟨tc, tc1, _, tc3⟩ := hcanon
  rw [b5] at tc1; cases tc1
  refine draw_ok (W0 := W0) (e0 := e0) (L := pre ++ t1 :: post1) h hd i (t0 := t00) (tl := tl1) k1 k2 k3 hGB c5 (fun e2 a2 w2 m1 m2 m3 m4 m5 => hQL _ _ e2 a2 w2 c6 m1 m2 m3 m4 m5) fuel _ _ w' (by simp [hsz]) ?_ ?_ (fun _ => (hset i).2 (Nat.le_refl _)) ⟨e', g1.trans hle', ⟨σ', .inl ⟨i, tq, (hset i).2 (Nat.le_refl _), ⟨_, tq, hrq, hLq, heffq.1, by rw [htq]⟩, fun k hk _ => (hset k).1 hk, hLq, by rw [htq]⟩, hrel'⟩, fun d => ?_, ?_, ?_⟩
  ·have : (List.range ops.size).countP (fun k => !(listed.setIfInBounds i true).getD k false) < (List.range ops.size).countP (fun k => !listed.getD k false) := by
    refine countP_lt (fun x hx h => ?_) (List.mem_range.2 hqs) (by rw [hq0]; rfl) (by rw [(hset i).2 (Nat.le_refl _)]; rfl)
    cases hb : listed.getD x false with
    | false => rfl
    | true =>
     have hx1 : x < i := by
      rcases Nat.lt_or_ge x i with h2 | h2
      ·exact h2
      ·rw [hge x h2] at hb; cases hb
     rw [(hset x).2 (by omega)] at h; cases h
   omega
  ·intro k ok hk hok j hj
   have hki := (hset k).1 hk
   rw [hset]
   by_cases hkq : k = i
   ·subst hkq
    rw [ho] at hok; cases hok
    have hd' := hd
    simp only [drOk, Bool.and_eq_true] at hd'
    exact Nat.le_of_lt ((tbl_spec hd'.1.1 ho).1 j hj)
   ·have hjl : listed.getD j false = true := hcl k ok (hall k (by omega)) hok j hj
    rcases Nat.lt_or_ge j i with h2 | h2
    ·omega
    ·rw [hge j h2] at hjl; cases hjl
  ·by_cases hdd : dq = some d
   ·refine ⟨v, .inl ⟨i, tq, (hset i).2 (Nat.le_refl _), by simp [dstr, hrq, hdd], fun k hk _ => (hset k).1 hk, hLq, by rw [htq]⟩, ?_⟩
    rw [← hdst, hdd]
    have hdlt : d < N := by rw [← hdst, hdd] at hdN; simpa using hdN
    simp only [Act.put, Array.getD_eq_getD_getElem?]
    rw [Array.getElem?_setIfInBounds_self_of_lt (by omega)]
    exact hv'
   ·refine ⟨tl.F d, ?_, ?_⟩
    ·have hqd : dstr ros i ≠ some d := by simp [dstr, hrq]; exact hdd
     rcases tc3 d with ⟨j, qq, n1, n2, n3, n4, n5⟩ | ⟨n1, n2⟩
     ·refine .inl ⟨j, qq, (hset j).2 (by omega), n2, fun k hk hkd => ?_, by rw [hLk j n1]; exact n4, n5⟩
      have hki := (hset k).1 hk
      by_cases hkq : k = i
      ·subst hkq; exact absurd hkd hqd
      ·exact n3 k (by omega) hkd
     ·refine .inr ⟨fun k hk => ?_, n2⟩
      have hki := (hset k).1 hk
      by_cases hkq : k = i
      ·subst hkq; exact hqd
      ·exact n1 k (by omega)
    ·rw [← hdst]
     cases hrd : dq with
     | none => exact (g3 d).mono hle'
     | some d' =>
      have hne : d' ≠ d := by rintro rfl; exact hdd hrd
      simp only [Act.put, Array.getD_eq_getD_getElem?]
      rw [Array.getElem?_setIfInBounds_ne hne, ← Array.getD_eq_getD_getElem?]
      exact (g3 d).mono hle'
  ·cases o.dst <;> simp [Act.put, g4]
  ·cases o.dst <;> exact g5
 ·have := List.countP_le_length (p := fun i => !(Array.replicate ops.size false).getD i false) (l := List.range ops.size)
  simpa using this
 ·intro i o hi
  rw [hnone i] at hi; cases hi
 ·exact ⟨e0, .refl e0, ⟨σ, .inr ⟨fun k hk => (by have hk : (Array.replicate ops.size false).getD k false = true := hk; rw [hnone k] at hk; cases hk), rfl⟩, hrel⟩, fun t => ⟨F t, .inr ⟨fun k hk => (by have hk : (Array.replicate ops.size false).getD k false = true := hk; rw [hnone k] at hk; cases hk), rfl⟩, hfr t⟩, hN, hdf⟩
end
inductive C where
 | skip
 | reg (ops : List RO)
 | dr (tbl : List (List Nat)) (ops : List RO)
 | drs (ops : List RO)
 | dr2 (tblA : List (List Nat)) (opsA : List RO) (tblB : List (List Nat)) (opsB : List RO)
 | seq (a b : C)
 | cond (c : Od) (a b : C)
 | block (id : Nat) (c : C)
 | loop (c : C)
 | exit (id : Nat)
 | ret


section
variable {P : Program} {c : Cfg}

/-- From one frame and state to another one that stands to the same memory. -/
def Ent (n0 : Nat) (F : Fr) (σ : St) (F' : Fr) (σ' : St) : Prop := ∀ W0 e0 N a w, R W0 e0 n0 N F σ a w → R W0 e0 n0 N F' σ' a w

def thenQ (K : Fr → St → Prop) (Q : Exit → Fr → St → Prop) : Exit → Fr → St → Prop
 | .normal, F, σ => K F σ
 | ex, F, σ => Q ex F σ
def blockQ (id : Nat) (Q : Exit → Fr → St → Prop) : Exit → Fr → St → Prop
 | .exit id', F, σ => if id' = id then Q .normal F σ else Q (.exit id') F σ
 | ex, F, σ => Q ex F σ

def wpc (P : Program) (n0 : Nat) : C → (Exit → Fr → St → Prop) → Fr → St → Prop
 | .skip, Q, F, σ => Q .normal F σ
 | .reg ops, Q, F, σ => aops P ops F σ fun F' σ' => Q .normal F' σ'
 | .dr tbl ops, Q, F, σ => adr P tbl 0 [] ops F σ fun F' σ' => Q .normal F' σ'
 | .drs ops, Q, F, σ => aopd P ops F σ fun F' σ' => Q .normal F' σ'
 | .dr2 tblA opsA tblB opsB, Q, F, σ => (adr P tblA 0 [] opsA F σ fun F' σ' => Q .normal F' σ') ∧ adr P tblB 0 [] opsB F σ fun F' σ' => Q .normal F' σ'
 | .seq a b, Q, F, σ => wpc P n0 a (thenQ (fun F' σ' => wpc P n0 b Q F' σ') Q) F σ
 | .cond x a b, Q, F, σ => match ev F x with
  | .bool t => if t = true then wpc P n0 a Q F σ else wpc P n0 b Q F σ
  | _ => False
 | .block id c, Q, F, σ => wpc P n0 c (blockQ id Q) F σ
 | .loop c, Q, F, σ => ∃ I : Nat → Fr → St → Prop, (∃ n, I n F σ) ∧ ∀ n F σ, I n F σ → wpc P n0 c (thenQ (fun F' σ' => ∃ m, m < n ∧ I m F' σ') Q) F σ
 | .exit id, Q, F, σ => Q (.exit id) F σ
 | .ret, Q, F, σ => Q .ret F σ

/-- Two that no order is laid down for, among plain ones. -/
def twoOk (ops : Array Oper) (i j : Nat) (co : List Nat) : Bool :=
 i != j && decide (i < ops.size) && decide (j < ops.size) && ops.all (fun o => o.guard.isNone && plainOp o) && permOk (addEdge ops i j) co

/-- The code that the few words are of. -/
inductive Is (P : Program) (c : Cfg) (N : Nat) : Code → C → Prop
 | skip : Is P c N .skip .skip
 | reg (id : Nat) (ops : Array Oper) (ros : List RO) (h : ops.toList.mapM (erO P c N ops) = some ros) : Is P c N (.region id ops false) (.reg ros)
 | dr (id : Nat) (ops : Array Oper) (ros : List RO) (tbl : List (List Nat)) (hf : P.follows .mixedOrders = true) (h : ops.toList.mapM (erO P c N ops) = some ros) (hd : drOk ops ros tbl = true) : Is P c N (.region id ops true) (.dr tbl ros)
 | drs (id : Nat) (ops : Array Oper) (ros : List RO) (tbl : List (List Nat)) (hf : P.follows .mixedOrders = true) (h : ops.toList.mapM (erO P c N ops) = some ros) (hd : drOk ops ros tbl = true) (hs : drsOk ros tbl = true) : Is P c N (.region id ops true) (.drs ros)
 | drq (id : Nat) (ops : Array Oper) (ros : List RO) (tbl : List (List Nat)) (q : Nat) (hf : P.follows .mixedOrders = true) (h : ops.toList.mapM (erO P c N ops) = some ros) (hd : drOk ops ros tbl = true) (hs : drsOk ros tbl = true) (hq : drqOk ros tbl q = true) : Is P c N (.region id ops true) (.reg ros)
 | dr2 (id : Nat) (ops : Array Oper) (rosA rosB : List RO) (tblA tblB : List (List Nat)) (i j : Nat) (co : List Nat) (hf : P.follows .mixedOrders = true)
   (hA : (addEdge ops j i).toList.mapM (erO P c N (addEdge ops j i)) = some rosA) (hdA : drOk (addEdge ops j i) rosA tblA = true)
   (hB : (permOps (addEdge ops i j) co).toList.mapM (erO P c N (permOps (addEdge ops i j) co)) = some rosB) (hdB : drOk (permOps (addEdge ops i j) co) rosB tblB = true)
   (h2 : twoOk ops i j co = true) : Is P c N (.region id ops true) (.dr2 tblA rosA tblB rosB)
 | seq {a b : Code} {a' b' : C} (h1 : Is P c N a a') (h2 : Is P c N b b') : Is P c N (.seq a b) (.seq a' b')
 | cond {x : Operand} {x' : Od} {a b : Code} {a' b' : C} (hx : od x = some x') (h1 : Is P c N a a') (h2 : Is P c N b b') : Is P c N (.cond x a b) (.cond x' a' b')
 | block {id : Nat} {a : Code} {a' : C} (h : Is P c N a a') : Is P c N (.block id a) (.block id a')
 | loop {a : Code} {a' : C} (h : Is P c N a a') : Is P c N (.loop a) (.loop a')
 | exit (id : Nat) : Is P c N (.exit id) (.exit id)
 | ret : Is P c N .ret .ret

theorem any_ok {W0 : World} {e0 : Env} {n0 N : Nat} (ops : Array Oper) (ros : List RO) (tbl : List (List Nat)) (h : ops.toList.mapM (erO P c N ops) = some ros) (hd : drOk ops ros tbl = true)
  {Q : Exit → Fr → St → Prop} {F : Fr} {σ : St} (hw : adr P tbl 0 [] ros F σ fun F' σ' => Q .normal F' σ') {a : Act} {w : World} (hr : R W0 e0 n0 N F σ a w) :
  wpAny P .any ops (QL W0 e0 n0 N Q) ops.size (Array.replicate ops.size false) a { w with drawn := w.drawn + 1 } := by
 obtain ⟨hn0, e, hle, hrel, hfr, hN, hdf⟩ := hr
 obtain ⟨t0, post, tl, q1, q2, q3, q4, q5, q6⟩ := adr_good ros.length (fun i r hh => (mapM_get h i).1 r hh) ros 0 [] F σ [] rfl (Nat.zero_le _) rfl (by simp) (by simp) hw
 refine draw_ok (W0 := W0) (e0 := e) (L := t0 :: post) h hd ros.length (t0 := t0) (tl := tl) (by simp) q1 q2 (fun k hk => by simpa using q4 k (Nat.zero_le _) hk) (by simpa using q5) (fun e' a' w' h1 h2 h3 h4 h5 => ⟨tl.F, tl.s, q6, hn0, e', hle.trans h1, h2, h3, h4, h5⟩) ops.size _ a _ (by simp) ?_ ?_ (fun h => absurd h (Nat.lt_irrefl _)) ?_
 ·have := List.countP_le_length (p := fun i => !(Array.replicate ops.size false).getD i false) (l := List.range ops.size)
  simpa using this
 ·intro i o hi
  exfalso
  have : (Array.replicate ops.size false).getD i false = false := by
   rw [Array.getD_eq_getD_getElem?, Array.getElem?_replicate]; split <;> rfl
  rw [this] at hi; cases hi
 ·have hnone : ∀ i, ¬ ((Array.replicate ops.size false).getD i false = true) := by
   intro i hi
   have : (Array.replicate ops.size false).getD i false = false := by
    rw [Array.getD_eq_getD_getElem?, Array.getElem?_replicate]; split <;> rfl
   rw [this] at hi; cases hi
  refine ⟨e, .refl e, ⟨σ, .inr ⟨fun k hk => absurd hk (hnone k), rfl⟩, hrel.same (fun _ _ => rfl) (Nat.le_refl _) ?_⟩, fun t => ⟨F t, .inr ⟨fun k hk => absurd hk (hnone k), rfl⟩, hfr t⟩, hN, hdf⟩
  exact ⟨hrel.below.os, hrel.below.tape, hrel.below.output, hrel.below.size, hrel.below.block⟩


theorem dr_ok {W0 : World} {e0 : Env} {n0 N : Nat} (id : Nat) (ops : Array Oper) (ros : List RO) (tbl : List (List Nat)) (hf : P.follows .mixedOrders = true) (h : ops.toList.mapM (erO P c N ops) = some ros) (hd : drOk ops ros tbl = true)
  {Q : Exit → Fr → St → Prop} {F : Fr} {σ : St} (hw : adr P tbl 0 [] ros F σ fun F' σ' => Q .normal F' σ') {a : Act} {w : World} (hr : R W0 e0 n0 N F σ a w) : (Code.region id ops true).wp P (QL W0 e0 n0 N Q) a w :=
 wp_region_any hf (any_ok ops ros tbl h hd hw hr)

theorem dr2_ok {W0 : World} {e0 : Env} {n0 N : Nat} (id : Nat) (ops : Array Oper) (rosA rosB : List RO) (tblA tblB : List (List Nat)) (i j : Nat) (co : List Nat) (hf : P.follows .mixedOrders = true)
  (hA : (addEdge ops j i).toList.mapM (erO P c N (addEdge ops j i)) = some rosA) (hdA : drOk (addEdge ops j i) rosA tblA = true)
  (hB : (permOps (addEdge ops i j) co).toList.mapM (erO P c N (permOps (addEdge ops i j) co)) = some rosB) (hdB : drOk (permOps (addEdge ops i j) co) rosB tblB = true)
  (h2 : twoOk ops i j co = true)
  {Q : Exit → Fr → St → Prop} {F : Fr} {σ : St} (hw : adr P tblA 0 [] rosA F σ fun F' σ' => Q .normal F' σ') (hw' : adr P tblB 0 [] rosB F σ fun F' σ' => Q .normal F' σ') {a : Act} {w : World} (hr : R W0 e0 n0 N F σ a w) : (Code.region id ops true).wp P (QL W0 e0 n0 N Q) a w := by
 simp only [twoOk, Bool.and_eq_true, bne_iff_ne, ne_eq, decide_eq_true_eq, Array.all_eq_true_iff_forall_mem] at h2
 obtain ⟨⟨⟨⟨h3, h4⟩, h5⟩, h6⟩, h7⟩ := h2
 have hg : ∀ (m : Nat) o, ops[m]? = some o → o.guard = none := fun m o ho => by simpa using (h6 o (Array.mem_of_getElem? ho)).1
 have hp : ∀ (m : Nat) o, ops[m]? = some o → plainOp o = true := fun m o ho => (h6 o (Array.mem_of_getElem? ho)).2
 have hsz : ∀ i j, (addEdge ops i j).size = ops.size := fun i j => by simp [addEdge]
 have hrep : ∀ k, (Array.replicate ops.size false).getD k false = false := by
  intro k
  rw [Array.getD_eq_getD_getElem?, Array.getElem?_replicate]; split <;> rfl
 refine wp_region_any hf (wpAny_split (i := j) (j := i) (Ne.symm h3) h5 h4 hg hp ops.size _ (by simp) (hrep _) (hrep _) a _ ?_ ?_)
 ·have := any_ok _ rosA tblA hA hdA hw hr
  rwa [hsz] at this
 ·obtain ⟨q1, q2, q3, q4⟩ := perm_like h7
  have := any_ok _ rosB tblB hB hdB hw' hr
  have hsz2 : (permOps (addEdge ops i j) co).size = ops.size := by rw [q1.size, hsz]
  rw [hsz2] at this
  exact like_any q1 q2 q3 q4 ops.size _ _ (by simp [hsz]) (by simp [hsz]) (fun k hk => by rw [hrep, hrep]) a _ this

theorem wpc_ok {W0 : World} {e0 : Env} {n0 N : Nat} {k : Code} {k' : C} (h : Is P c N k k') : ∀ {Q : Exit → Fr → St → Prop} {F : Fr} {σ : St}, wpc P n0 k' Q F σ → ∀ {a w}, R W0 e0 n0 N F σ a w → k.wp P (QL W0 e0 n0 N Q) a w := by
 induction h with
 | skip => intro Q F σ hw a w hr; exact wp_skip ⟨F, σ, hw, hr⟩
 | reg id ops ros h =>
  intro Q F σ hw a w hr
  refine wp_region ?_
  refine aops_ok (K := fun F' σ' => Q .normal F' σ') (fun F' σ' hq a w hr' => ⟨F', σ', hq, hr'⟩) ops (List.range ops.size) ops.toList ros (fun k => ?_) (by simp) h F σ a w hr hw
  by_cases hk : k < ops.size
  ·simp [List.getElem?_range, hk]
  ·have h1 : (List.range ops.size)[k]? = none := by simp; omega
   simp [h1]; omega
 | dr id ops ros tbl hf h hd => intro Q F σ hw a w hr; exact dr_ok id ops ros tbl hf h hd hw hr
 | drq id ops ros tbl q hf h hd hs hq =>
  intro Q F σ hw a w hr
  obtain ⟨hn0, e, hle, hrel, hfr, hN, hdf⟩ := hr
  refine wp_region_any hf (anyq_ok (W0 := W0) (e0 := e) q h hd hs hq hw (fun F' σ' e' a' w' h1 h2 h3 h4 h5 h6 => ⟨F', σ', h1, hn0, e', hle.trans h2, h3, h4, h5, h6⟩) (hrel.same (fun _ _ => rfl) (Nat.le_refl _) ?_) hfr hN hdf)
  exact ⟨hrel.below.os, hrel.below.tape, hrel.below.output, hrel.below.size, hrel.below.block⟩
 | dr2 id ops rosA rosB tblA tblB i j co hf hA hdA hB hdB h2 => intro Q F σ hw a w hr; exact dr2_ok id ops rosA rosB tblA tblB i j co hf hA hdA hB hdB h2 hw.1 hw.2 hr
 | drs id ops ros tbl hf h hd hs => intro Q F σ hw a w hr; exact dr_ok id ops ros tbl hf h hd (aopd_adr hs ros 0 [] F σ rfl (fun j o t hm => by cases hm) hw) hr
 | seq h1 h2 ih1 ih2 =>
  intro Q F σ hw a w hr
  refine wp_seq (wp_mono (ih1 hw hr) fun ex a w hq => ?_)
  obtain ⟨F', σ', hq, hr'⟩ := hq
  cases ex <;> first
   | exact ih2 hq hr'
   | exact ⟨F', σ', hq, hr'⟩
 | @cond x x' a b a' b' hx h1 h2 ih1 ih2 =>
  intro Q F σ hw ac w hr
  simp only [wpc] at hw
  split at hw
  ·rename_i t ht
   obtain ⟨_, e, _, _, hf, _, _⟩ := id hr
   have hv := od_ok (F := F) (a := ac) hx (fun t _ => hf t)
   rw [ht] at hv
   generalize hev : ac.eval x = v at hv
   cases hv
   refine wp_cond hev ?_
   cases t
   ·exact ih2 (by simpa using hw) hr
   ·exact ih1 (by simpa using hw) hr
  ·exact hw.elim
 | @block id a a' h ih =>
  intro Q F σ hw ac w hr
  refine wp_block (wp_mono (ih hw hr) fun ex ac w hq => ?_)
  obtain ⟨F', σ', hq, hr'⟩ := hq
  cases ex with
  | exit id' =>
   simp only [blockQ] at hq
   simp only [Go.Exit.inBlock]
   split
   ·rename_i he; rw [if_pos he] at hq; exact ⟨F', σ', hq, hr'⟩
   ·rename_i he; rw [if_neg he] at hq; exact ⟨F', σ', hq, hr'⟩
  | _ => exact ⟨F', σ', hq, hr'⟩
 | @loop a a' h ih =>
  intro Q F σ hw ac w hr
  obtain ⟨I, ⟨m, h0⟩, hstep⟩ := hw
  refine wp_loop_ghost (fun n a w => ∃ F σ, I n F σ ∧ R W0 e0 n0 N F σ a w) m ⟨F, σ, h0, hr⟩ fun n a w ⟨F1, σ1, h1, hr1⟩ => ?_
  refine wp_mono (ih (hstep n F1 σ1 h1) hr1) fun ex a w hq => ?_
  obtain ⟨F', σ', hq, hr'⟩ := hq
  cases ex with
  | normal => obtain ⟨k, hk, hI⟩ := hq; exact ⟨k, hk, F', σ', hI, hr'⟩
  | _ => exact ⟨F', σ', hq, hr'⟩
 | exit id => intro Q F σ hw a w hr; exact wp_exit ⟨F, σ, hw, hr⟩
 | ret => intro Q F σ hw a w hr; exact wp_ret ⟨F, σ, hw, hr⟩

/-- The code of few words, whatever code it is of: so that steps which turn nothing may be taken anywhere. -/
def SWP (P : Program) (n0 : Nat) (k' : C) (Q : Exit → Fr → St → Prop) (F : Fr) (σ : St) : Prop :=
 ∀ (c : Cfg) (N : Nat) (k : Code), Is P c N k k' → ∀ W0 e0 a w, R W0 e0 n0 N F σ a w → k.wp P (QL W0 e0 n0 N Q) a w

section
variable {n0 : Nat} {Q : Exit → Fr → St → Prop} {F : Fr} {σ : St}
theorem SWP.of {k' : C} (h : wpc P n0 k' Q F σ) : SWP P n0 k' Q F σ := fun _ _ _ hk _ _ _ _ hr => wpc_ok hk h hr
theorem SWP.ent {k' : C} {F' : Fr} {σ' : St} (he : Ent n0 F σ F' σ') (h : SWP P n0 k' Q F' σ') : SWP P n0 k' Q F σ := fun c N k hk W0 e0 a w hr => h c N k hk W0 e0 a w (he _ _ _ _ _ hr)
theorem SWP.reg {ops : List RO} (h : aops P ops F σ fun F' σ' => Q .normal F' σ') : SWP P n0 (.reg ops) Q F σ := .of h
theorem SWP.drs {ops : List RO} (h : aopd P ops F σ fun F' σ' => Q .normal F' σ') : SWP P n0 (.drs ops) Q F σ := .of h
theorem SWP.dr {tbl : List (List Nat)} {ops : List RO} (h : adr P tbl 0 [] ops F σ fun F' σ' => Q .normal F' σ') : SWP P n0 (.dr tbl ops) Q F σ := .of h
theorem SWP.dr2 {tA tB : List (List Nat)} {oA oB : List RO} (h : adr P tA 0 [] oA F σ fun F' σ' => Q .normal F' σ') (h' : adr P tB 0 [] oB F σ fun F' σ' => Q .normal F' σ') : SWP P n0 (.dr2 tA oA tB oB) Q F σ := .of ⟨h, h'⟩
theorem SWP.skip (h : Q .normal F σ) : SWP P n0 .skip Q F σ := .of h
theorem SWP.ret (h : Q .ret F σ) : SWP P n0 .ret Q F σ := .of h
theorem SWP.exit {id : Nat} (h : Q (.exit id) F σ) : SWP P n0 (.exit id) Q F σ := .of h
theorem SWP.seq {a b : C} (h : SWP P n0 a (thenQ (fun F' σ' => SWP P n0 b Q F' σ') Q) F σ) : SWP P n0 (.seq a b) Q F σ := by
 intro c N k hk W0 e0 ac w hr
 cases hk with
 | seq h1 h2 =>
  refine wp_seq (wp_mono (h _ _ _ h1 _ _ _ _ hr) fun ex a w hq => ?_)
  obtain ⟨F', σ', hq, hr'⟩ := hq
  cases ex <;> first
   | exact hq _ _ _ h2 _ _ _ _ hr'
   | exact ⟨F', σ', hq, hr'⟩
theorem SWP.cond {x : Od} {a b : C} {t : Bool} (ht : ev F x = .bool t) (h1 : t = true → SWP P n0 a Q F σ) (h2 : t = false → SWP P n0 b Q F σ) : SWP P n0 (.cond x a b) Q F σ := by
 intro c N k hk W0 e0 ac w hr
 cases hk with
 | @cond x x' a b a' b' hx g1 g2 =>
  obtain ⟨_, e, _, _, hf, _, _⟩ := id hr
  have hv := od_ok (F := F) (a := ac) hx (fun t _ => hf t)
  rw [ht] at hv
  generalize hev : ac.eval x = v at hv
  cases hv
  refine wp_cond hev ?_
  cases t
  ·exact h2 rfl _ _ _ g2 _ _ _ _ hr
  ·exact h1 rfl _ _ _ g1 _ _ _ _ hr
theorem SWP.block {id : Nat} {a : C} (h : SWP P n0 a (blockQ id Q) F σ) : SWP P n0 (.block id a) Q F σ := by
 intro c N k hk W0 e0 ac w hr
 cases hk with
 | block h1 =>
  refine wp_block (wp_mono (h _ _ _ h1 _ _ _ _ hr) fun ex ac w hq => ?_)
  obtain ⟨F', σ', hq, hr'⟩ := hq
  cases ex with
  | exit id' =>
   simp only [blockQ] at hq
   simp only [Go.Exit.inBlock]
   split
   ·rename_i he; rw [if_pos he] at hq; exact ⟨F', σ', hq, hr'⟩
   ·rename_i he; rw [if_neg he] at hq; exact ⟨F', σ', hq, hr'⟩
  | _ => exact ⟨F', σ', hq, hr'⟩
theorem SWP.loop {a : C} (I : Nat → Fr → St → Prop) (m : Nat) (h0 : I m F σ) (h : ∀ n F σ, I n F σ → SWP P n0 a (thenQ (fun F' σ' => ∃ m, m < n ∧ I m F' σ') Q) F σ) : SWP P n0 (.loop a) Q F σ := by
 intro c N k hk W0 e0 ac w hr
 cases hk with
 | loop h1 =>
  refine wp_loop_ghost (fun n a w => ∃ F σ, I n F σ ∧ R W0 e0 n0 N F σ a w) m ⟨F, σ, h0, hr⟩ fun n a w ⟨F1, σ1, g1, hr1⟩ => ?_
  refine wp_mono (h n F1 σ1 g1 _ _ _ h1 _ _ _ _ hr1) fun ex a w hq => ?_
  obtain ⟨F', σ', hq, hr'⟩ := hq
  cases ex with
  | normal => obtain ⟨k, hk, hI⟩ := hq; exact ⟨k, hk, F', σ', hI, hr'⟩
  | _ => exact ⟨F', σ', hq, hr'⟩
theorem SWP.mono {k' : C} {Q' : Exit → Fr → St → Prop} (h : SWP P n0 k' Q F σ) (hq : ∀ ex F σ, Q ex F σ → Q' ex F σ) : SWP P n0 k' Q' F σ :=
 fun c N k hk W0 e0 a w hr => wp_mono (h c N k hk W0 e0 a w hr) fun ex a w ⟨F, σ, h1, h2⟩ => ⟨F, σ, hq _ _ _ h1, h2⟩
end

def St.Wf (σ : St) : Prop := (∀ b, σ.next ≤ b → σ.blk b = none) ∧ ∀ b B, σ.blk b = some B → B.Lt σ.next

theorem Rel.wf {σ : St} {W0 : World} {e : Env} {w : World} (hr : Rel W0 e σ w) : σ.Wf := by
 refine ⟨fun b hb => ?_, fun b B hb => hr.lts hb⟩
 cases h : σ.blk b with
 | none => rfl
 | some B => exact absurd (hr.lt h) (by omega)

inductive Rs where
 | t (n : Nat)
 | c (g : Option Nat) (n : Nat)

def erR (P : Program) : ResultVar → Option Rs
 | .tmp t => some (.t t)
 | .cell a t => (aggOf P t).map fun g => .c g a

def resOne (F : Fr) (σ : St) : Rs → Option AV
 | .t n => some (F n)
 | .c g n => match F n with
  | .ptr b i off => match σ.blk b with
   | some (.cells sz rows) => if i < rows.length ∧ off + g.getD 1 ≤ sz then some (mk g (rows.getD i []) off) else none
   | _ => none
  | _ => none

def oneV : List AV → AV
 | [v] => v
 | vs => .tup vs

/-- What a function gives back, told another way. -/
def EntV (n0 : Nat) (v : AV) (σ : St) (v' : AV) (σ' : St) : Prop := ∀ (W0 : World) (e0 e : Env) (w : World) (cv : Value), (∀ b x, e0.ι b = some x → b < n0) → e0.le e → Rel W0 e σ w → VR e v cv → ∃ e', e0.le e' ∧ Rel W0 e' σ' w ∧ VR e' v' cv

/-- At the end: the values are told, and what is left of the memory. -/
def retQ (n0 : Nat) (rs : List Rs) (Q : AV → St → Prop) : Exit → Fr → St → Prop
 | .normal, F, σ | .ret, F, σ => ∃ vs, rs.mapM (resOne F σ) = some vs ∧ ∃ v' σ', EntV n0 (oneV vs) σ v' σ' ∧ Q v' σ'
 | _, _, _ => False

def resF (tmps : Array Value) : ResultVar → Sem Value
 | .tmp t => pure (tmps.getD t Go.undef)
 | .cell a t => do loadVar t (← asAddr (tmps.getD a Go.undef))
theorem results_eq (fn : Func) (tmps : Array Value) : results fn tmps = (do let vs ← fn.results.mapM (resF tmps); pure (if h : vs.size = 1 then vs[0] else .tuple vs)) := by
 unfold results
 congr 1

theorem res_ok {W0 : World} {e : Env} {F : Fr} {σ : St} {w : World} (hrel : Rel W0 e σ w) {tmps : Array Value} (hf : ∀ t, VR e (F t) (tmps.getD t Go.undef)) : ∀ (rv : List ResultVar) (rs : List Rs) (vs : List AV), rv.mapM (erR P) = some rs → rs.mapM (resOne F σ) = some vs →
  ∃ cvs : List Value, (rv.mapM (resF tmps)).run P w = .ok cvs w ∧ cvs.length = vs.length ∧ ∀ i, i < vs.length → VR e (vs.getD i .undef) (cvs.getD i Go.undef)
 | [], rs, vs, h1, h2 => by simp at h1; subst h1; simp at h2; subst h2; exact ⟨[], by simp, rfl, fun i hi => absurd hi (by simp)⟩
 | r :: rv, rs, vs, h1, h2 => by
  obtain ⟨s, ss, g1, g2, rfl⟩ := mapM_cons' _ _ _ h1
  obtain ⟨v, vs', g3, g4, rfl⟩ := mapM_cons' _ _ _ h2
  obtain ⟨cvs, k1, k2, k3⟩ := res_ok hrel hf rv ss vs' g2 g4
  have head : ∃ cv, (resF tmps r).run P w = .ok cv w ∧ VR e v cv := by
   cases r with
   | tmp t =>
    simp only [erR, Option.some.injEq] at g1; subst g1
    simp only [resOne, Option.some.injEq] at g3; subst g3
    exact ⟨_, rfl, hf t⟩
   | cell a t =>
    simp only [erR, Option.map_eq_some_iff] at g1
    obtain ⟨g, hg, rfl⟩ := g1
    simp only [resOne] at g3
    split at g3
    ·rename_i b i off hp
     split at g3
     ·rename_i sz rows hb
      split at g3
      ·rename_i hc
       cases g3
       have hv := hf a
       rw [hp] at hv
       generalize hx : tmps.getD a Go.undef = x at hv
       cases hv with
       | ptr _ _ _ q hq hqv =>
        obtain ⟨r1, r2, r3, r4⟩ := hrel.cellsAt hb hq
        obtain ⟨c, el, r5, r6, r7, r8⟩ := r4 hqv
        subst r1
        have hin := Nat.mul_le_mul_right q.sz (show i + 1 ≤ rows.length by omega)
        rw [Nat.add_mul] at hin
        obtain ⟨v, h2, h3⟩ := run_ld (P := P) hg r5 (p := q.o + i * q.sz + off) (cs := rows.getD i []) (off := off) (by rw [r2 i hc.1]; exact hc.2) (by omega) (fun j hj => by
         have := r8 i (off + j) hc.1 (by omega)
         rw [show q.o + i * q.sz + off + j = q.o + i * q.sz + (off + j) by omega]; exact this)
        refine ⟨v, ?_, h2⟩
        simp only [Instr.loadAt, Instr.sureAddr, Sem.run_bind, Sem.run_pure, Result.andThen_ok] at h3
        show ((asAddr (tmps.getD a Go.undef)) >>= fun y => loadVar t y).run P w = _
        rw [hx]
        simp [asAddr, h3]
      ·cases g3
     ·cases g3
    ·cases g3
  obtain ⟨cv, q1, q2⟩ := head
  refine ⟨cv :: cvs, ?_, by simp [k2], fun i hi => ?_⟩
  ·simp only [List.mapM_cons, Sem.run_bind, q1, Result.andThen_ok, k1]; rfl
  ·cases i with
   | zero => exact q2
   | succ i => exact k3 i (by simpa using hi)

/-- Some value stands to it. -/
def Hab (a : AV) : Prop := ∃ e v, VR e a v

theorem Hab.lit {sz : Nat} {rows : List (List AV)} (h : Hab (.lit sz rows)) : rows.length ≤ most ∧ (∀ i, i < rows.length → (rows.getD i []).length = sz) ∧ ∀ i j, i < rows.length → j < sz → Hab ((rows.getD i []).getD j .undef) := by
 obtain ⟨e, v, h⟩ := h
 cases h with
 | lit0 => exact ⟨Nat.zero_le _, fun i hi => absurd hi (by simp), fun i j hi => absurd hi (by simp)⟩
 | lit _ _ k off cap c hk hc hm hr hs ho h => exact ⟨hm, hr, fun i j hi hj => ⟨e, _, h i j hi hj⟩⟩
theorem Hab.agg {cs : List AV} (h : Hab (.agg cs)) : ∀ i, i < cs.length → Hab (cs.getD i .undef) := by
 obtain ⟨e, v, h⟩ := h
 cases h with
 | agg _ vs hl ho h => exact fun i hi => ⟨e, _, h i hi⟩

theorem TQ_of {f : FuncId} {fn : Func} {k : Code} {k' : C} {rs : List Rs} (hf : P.funcs[f]? = some fn) (hname : (fn.name == "runtime.NumGoroutine") = false) (hb : fn.body = some k) (hk : Is P c fn.ntmps k k')
  (hrs : fn.results.toList.mapM (erR P) = some rs) {args : List AV} {σ : St} {Q : AV → St → Prop} (hlen : args.length ≤ fn.ntmps) (h : σ.Wf → (∀ i, i < args.length → Hab (args.getD i .undef)) → SWP P σ.next k' (retQ σ.next rs Q) (fun i => args.getD i .undef) σ) : TQ P f args σ Q := by
 refine ⟨⟨fn, hf, hname, by simp [hb]⟩, fun W0 e w cargs hrel hl hv => ?_⟩
 refine calls_of_wp hf hb (wp_mono (h hrel.wf (fun i hi => ⟨e, _, hv i hi⟩) _ _ _ hk W0 e _ _ ⟨hrel.dom, e, .refl e, hrel, fun t => ?_, ?_, rfl⟩) fun ex a w' hq => ?_)
 ·by_cases ht : t < args.length
  ·have := hv t ht
   rw [Array.getD_eq_getD_getElem?, Array.getElem?_append_left (by omega), ← Array.getD_eq_getD_getElem?]
   exact this
  ·simp only [List.getD_eq_getElem?_getD, List.getElem?_eq_none (Nat.le_of_not_lt ht)]
   exact .undef _
 ·simp [hl]; omega
 ·obtain ⟨F, σ', hq, hn0, e1, hle, hrel1, hf1, _, hd⟩ := hq
  have fin : ∀ (hq : ∃ vs, rs.mapM (resOne F σ') = some vs ∧ ∃ v' σ2, EntV σ.next (oneV vs) σ' v' σ2 ∧ Q v' σ2), a.defers = [] ∧ ∃ v, (results fn a.tmps).run P w' = .ok v w' ∧ ∃ e' cv v' s', Ending.returned v = .returned cv ∧ e.le e' ∧ VR e' v' cv ∧ Rel W0 e' s' w' ∧ Q v' s' := by
   rintro ⟨vs, h1, v', s2, h2, h3⟩
   obtain ⟨cvs, k1, k2, k3⟩ := res_ok hrel1 hf1 fn.results.toList rs vs hrs h1
   have hres : (results fn a.tmps).run P w' = .ok (if h : cvs.length = 1 then cvs.getD 0 Go.undef else .tuple cvs.toArray) w' := by
    rw [results_eq, Array.mapM_eq_mapM_toList]
    simp only [Sem.run_bind, Sem.run_map, k1, Result.andThen_ok]
    by_cases h1 : cvs.length = 1
    ·obtain ⟨x, rfl⟩ := List.length_eq_one_iff.1 h1
     rfl
    ·simp [h1]
   have hvv : VR e1 (oneV vs) (if h : cvs.length = 1 then cvs.getD 0 Go.undef else .tuple cvs.toArray) := by
    by_cases hne : cvs.length = 1
    ·obtain ⟨x, rfl⟩ := List.length_eq_one_iff.1 hne
     obtain ⟨y, rfl⟩ := List.length_eq_one_iff.1 (show vs.length = 1 by simpa using k2.symm)
     exact k3 0 (by simp)
    ·rw [dif_neg hne]
     have : oneV vs = .tup vs := by
      unfold oneV; split
      ·rename_i v; exact absurd (by simpa using k2) hne
      ·rfl
     rw [this]
     exact .tup vs _ (by simp [k2]) (fun i hi => by simpa [Array.getD_eq_getD_getElem?, List.getD_eq_getElem?_getD] using k3 i hi)
   obtain ⟨e', g1, g2, g3⟩ := h2 W0 e e1 w' _ hn0 hle hrel1 hvv
   exact ⟨hd, _, hres, e', _, v', s2, rfl, g1, g3, g2, h3⟩
  cases ex <;> first
   | exact fin hq
   | exact hq.elim

end
section
variable {n0 : Nat} {F : Fr} {σ : St}

theorem Ent.refl (n0 : Nat) (F : Fr) (σ : St) : Ent n0 F σ F σ := fun _ _ _ _ _ h => h
theorem Ent.trans {F' F'' : Fr} {σ' σ'' : St} (h : Ent n0 F σ F' σ') (h' : Ent n0 F' σ' F'' σ'') : Ent n0 F σ F'' σ'' := fun _ _ _ _ _ r => h' _ _ _ _ _ (h _ _ _ _ _ r)

theorem Rel.freeze {W0 : World} {e : Env} {w : World} (hr : Rel W0 e σ w) {b sz : Nat} {rows : List (List AV)} (hb : σ.blk b = some (.cells sz rows)) {x : Pl} (hx : e.ι b = some x) :
  ∃ e', e.le e' ∧ Rel W0 e' (σ.kill b) w ∧ ∀ off n v, VR e (.sl b off n) v → off + n ≤ rows.length → VR e' (.lit sz ((rows.drop off).take n)) v := by
 obtain ⟨r1, r2, r3, r4⟩ := hr.cellsAt hb hx
 cases hxv : x.v with
 | true =>
  refine ⟨e, .refl e, hr.kill b, fun off n v hv hon => ?_⟩
  have hrows : rows = [] := by
   obtain ⟨y, h1, _, h3⟩ := hr.own b _ hb
   rw [hx] at h1; cases h1
   exact h3.2.2.2.1 hxv
  subst hrows
  obtain ⟨rfl, rfl⟩ : off = 0 ∧ n = 0 := by simp at hon; exact hon
  cases hv with
  | sl _ _ _ cap q hq hqv => rw [hx] at hq; cases hq; rw [hxv] at hqv; cases hqv
  | sl0 _ _ a q hq => simpa using VR.lit0 (e := e) sz a 0 (fun _ => rfl)
 | false =>
  obtain ⟨c, t, h4, hHx, hR⟩ := hr.ice hb hx hxv
  have l := Env.le_ice hHx c
  obtain ⟨c', t', r5, r6, r7, r8⟩ := r4 hxv
  rw [h4] at r5; cases r5
  refine ⟨_, l, hR, fun off n v hv hon => ?_⟩
  cases hv with
  | sl0 _ _ a q hq => simpa using VR.lit0 (e := e.ice x.k c) sz a 0 (fun _ => rfl)
  | sl _ _ _ cap q hq hqv hc hm ht =>
   rw [hx] at hq; cases hq
   subst r1
   have hlen : ((rows.drop off).take n).length = n := by simp; omega
   have q : VR (e.ice x.k c) (.lit x.sz ((rows.drop off).take n)) (.slice (some ⟨x.k, x.o + off * x.sz, none⟩) ((rows.drop off).take n).length cap) := ?_
   ·rwa [hlen] at q
   refine .lit x.sz _ x.k (x.o + off * x.sz) cap c (by simp [Env.ice]) (by rw [hlen]; exact hc) (by rw [hlen]; exact hm) (fun i hi => ?_) ?_ (fun i j hi hj => ?_) (fun i j hi hj => ?_)
   ·rw [hlen] at hi; rw [take_get _ _ _ _ hi]; exact r2 _ (by omega)
   ·rw [hlen]
    have := Nat.mul_le_mul_right x.sz hon
    rw [Nat.add_mul] at this; omega
   ·rw [hlen] at hi
    have := (r8 (off + i) j (by omega) hj).1
    rw [Nat.add_mul] at this
    rwa [show x.o + off * x.sz + i * x.sz + j = x.o + (off * x.sz + i * x.sz) + j by omega]
   ·rw [hlen] at hi
    have := (r8 (off + i) j (by omega) hj).2
    rw [Nat.add_mul] at this
    rw [take_get _ _ _ _ hi]
    rw [show x.o + off * x.sz + i * x.sz + j = x.o + (off * x.sz + i * x.sz) + j by omega]
    exact this.mono l

/-- A row of the walk's own, in a slot, becomes a plain list. -/
theorem Ent.freeze {i b off n sz : Nat} {rows : List (List AV)} (hF : F i = .sl b off n) (hb : σ.blk b = some (.cells sz rows)) (hon : off + n ≤ rows.length) :
  Ent n0 F σ (upd F i (.lit sz ((rows.drop off).take n))) (σ.kill b) := by
 rintro W0 e0 N a w ⟨hn, e, hle, hrel, hf, hN, hd⟩
 have hv := hf i
 rw [hF] at hv
 obtain ⟨x, hx, _⟩ := hrel.own b _ hb
 obtain ⟨e', l, hR, hcut⟩ := hrel.freeze hb hx
 refine ⟨hn, e', hle.trans l, hR, fun t => ?_, hN, hd⟩
 unfold upd
 split
 ·rename_i ht; subst ht; exact hcut off n _ hv hon
 ·exact (hf t).mono l

/-- The same, where it is a part of a row. -/
theorem Ent.freezeAt {b' sz' i j b off n sz : Nat} {rows' : List (List AV)} {rows : List (List AV)} (hb' : σ.blk b' = some (.cells sz' rows')) (hi : i < rows'.length) (hj : j < (rows'.getD i []).length)
  (hc : (rows'.getD i []).getD j .undef = .sl b off n) (hb : σ.blk b = some (.cells sz rows)) (hne : b' ≠ b) (hon : off + n ≤ rows.length) :
  Ent n0 F σ F ((σ.kill b).set b' (.cells sz' (rows'.set i ((rows'.getD i []).set j (.lit sz ((rows.drop off).take n)))))) := by
 rintro W0 e0 N a w ⟨hn, e, hle, hrel, hf, hN, hd⟩
 obtain ⟨x, hx, _⟩ := hrel.own b _ hb
 obtain ⟨x', hx', _⟩ := hrel.own b' _ hb'
 obtain ⟨e', l, hR, hcut⟩ := hrel.freeze hb hx
 have hbk : (σ.kill b).blk b' = some (.cells sz' rows') := by simp [St.kill, hne, hb']
 obtain ⟨r1, r2, r3, r4⟩ := hrel.cellsAt hb' hx'
 obtain ⟨s1, s2, s3, s4⟩ := hR.cellsAt hbk (l.ι _ _ hx')
 have hv : x'.v = false := by
  cases h : x'.v with
  | false => rfl
  | true =>
   obtain ⟨y, h1, _, h3⟩ := hrel.own b' _ hb'
   rw [hx'] at h1; cases h1
   have := h3.2.2.2.1 h
   subst this; simp at hi
 obtain ⟨c, t, s5, s6, s7, s8⟩ := s4 hv
 refine ⟨hn, e', hle.trans l, hR.set hbk (l.ι _ _ hx') hv (fun _ _ => rfl) (Nat.le_refl _) hR.below _ ?_, fun t => (hf t).mono l, hN, hd⟩
 have hlen : ((rows'.getD i []).set j (.lit sz ((rows.drop off).take n))).length = sz' := by rw [List.length_set]; exact s2 i hi
 refine ⟨s1, fun k hk => ?_, by simpa using s3, (fun h => by rw [hv] at h; cases h), fun _ => ⟨c, t, s5, s6, by simpa using s7, fun k m hk hm => ?_⟩⟩
 ·rw [lset_get]; split
  ·exact hlen
  ·exact s2 k (by simpa using hk)
 ·have hk' : k < rows'.length := by simpa using hk
  refine ⟨(s8 k m hk' hm).1, ?_⟩
  rw [lset_get]
  split
  ·rename_i hki; obtain ⟨rfl, _⟩ := hki
   by_cases hmj : m = j
   ·subst hmj
    obtain ⟨c0, t0, q5, q6, q7, q8⟩ := r4 hv
    rw [s5] at q5; cases q5
    have := (q8 k m hk' hm).2
    rw [hc] at this
    have := hcut off n _ this hon
    rw [List.getD_eq_getElem?_getD, List.getElem?_set, if_pos rfl, if_pos hj]; exact this
   ·rw [List.getD_eq_getElem?_getD, List.getElem?_set, if_neg (by omega), ← List.getD_eq_getElem?_getD]; exact (s8 k m hk' hm).2
  ·exact (s8 k m hk' hm).2

/-- Nothing, as an empty row. -/
theorem Ent.virt {i : Nat} (sz : Nat) (hF : F i = .nils) : Ent n0 F σ (upd F i (.sl σ.next 0 0)) (σ.push (.cells sz [])) := by
 rintro W0 e0 N a w ⟨hn, e, hle, hrel, hf, hN, hd⟩
 have hv := hf i
 rw [hF] at hv
 obtain ⟨l, hx, hR⟩ := hrel.virt sz
 refine ⟨hn, _, hle.trans l, hR, fun t => ?_, hN, hd⟩
 unfold upd
 split
 ·rename_i ht; subst ht
  generalize a.tmps.getD t Go.undef = v at hv
  cases hv
  exact .sl0 _ _ _ _ hx
 ·exact (hf t).mono l

/-- Nothing, as a plain list. -/
theorem Ent.lit0 {i : Nat} (sz : Nat) (hF : F i = .nils) : Ent n0 F σ (upd F i (.lit sz [])) σ := by
 rintro W0 e0 N a w ⟨hn, e, hle, hrel, hf, hN, hd⟩
 refine ⟨hn, e, hle, hrel, fun t => ?_, hN, hd⟩
 unfold upd
 split
 ·rename_i ht; subst ht
  have hv := hf t
  rw [hF] at hv
  generalize a.tmps.getD t Go.undef = v at hv
  cases hv
  exact .lit0 sz none 0 (fun _ => rfl)
 ·exact hf t

/-- An empty plain row is nothing, or not. -/
theorem R.nilOr {W0 : World} {e0 : Env} {N i sz : Nat} (hF : F i = .lit sz []) {a : Act} {w : World} (hr : R W0 e0 n0 N F σ a w) : R W0 e0 n0 N (upd F i .nils) σ a w ∨ R W0 e0 n0 N (upd F i (.emp false sz)) σ a w := by
 obtain ⟨hn, e, hle, hrel, hf, hN, hd⟩ := hr
 have hv := hf i
 rw [hF] at hv
 have key : VR e .nils (a.tmps.getD i Go.undef) ∨ VR e (.emp false sz) (a.tmps.getD i Go.undef) := by
  generalize a.tmps.getD i Go.undef = v at hv
  cases hv with
  | lit0 _ ad cap hz =>
   cases ad with
   | none => rw [hz rfl]; exact .inl .nils
   | some ad => exact .inr (.emp false sz ad cap (fun h => by cases h))
  | lit _ _ k off cap c hk hc hm hr hs ho h => exact .inr (.emp false sz _ cap (fun h => by cases h))
 rcases key with h | h
 ·refine .inl ⟨hn, e, hle, hrel, fun t => ?_, hN, hd⟩
  unfold upd; split
  ·rename_i ht; subst ht; exact h
  ·exact hf t
 ·refine .inr ⟨hn, e, hle, hrel, fun t => ?_, hN, hd⟩
  unfold upd; split
  ·rename_i ht; subst ht; exact h
  ·exact hf t

theorem SWP.nilOr {P : Program} {c : C} {Q : Exit → Fr → St → Prop} (i : Nat) {sz : Nat} (hF : F i = .lit sz []) (h1 : SWP P n0 c Q (upd F i .nils) σ) (h2 : SWP P n0 c Q (upd F i (.emp false sz)) σ) : SWP P n0 c Q F σ := by
 intro cc N k hk W0 e0 a w hr
 rcases hr.nilOr hF with hr' | hr'
 ·exact h1 cc N k hk W0 e0 a w hr'
 ·exact h2 cc N k hk W0 e0 a w hr'

theorem EntV.refl (n0 : Nat) (v : AV) (σ : St) : EntV n0 v σ v σ := fun _ _ e _ _ _ hle hr hv => ⟨e, hle, hr, hv⟩

/-- Back to a state of old: what has come since is dropped. -/
theorem EntV.back {v : AV} {σ' : St} (hn : σ'.next = n0) (hwf : σ'.Wf) (hs : ∀ b, b < n0 → σ.blk b = σ'.blk b) (hv : v.Lt n0) : EntV n0 v σ v σ' := by
 intro W0 e0 e w cv hdom hle hr hvr
 have hc := hr.cut n0 (fun b B hb hB => by rw [hs b hb] at hB; rw [← hn]; exact hwf.2 b B hB)
 refine ⟨e.cut n0, ⟨hle.H, fun b x hb => ?_⟩, ?_, hvr.cut hv⟩
 ·have := hdom b x hb
  simp [Env.cut, this, hle.ι b x hb]
 ·have : σ.cut n0 = σ' := by
   cases σ' with
   | mk nx bl =>
    simp only at hn; subst hn
    simp only [St.cut, St.mk.injEq, true_and]
    funext b
    by_cases hb : b < nx
    ·rw [if_pos hb]; exact hs b hb
    ·rw [if_neg hb]; exact (hwf.1 b (by simp only; omega)).symm
  rw [this] at hc
  exact hc

end
end Go.Av
namespace Go.Av

def befT (ops : List Oper) : List (List Nat) := ops.foldl (fun acc o => acc ++ [((aft o) ++ (aft o).flatMap fun m => acc.getD m []).eraseDups]) []

/-- Two effects that no order is laid down for: the two, and the order in which the second one comes first. -/
def twoOf (ros : List RO) (tbl : List (List Nat)) : Option (Nat × Nat × List Nat) := do
 let effs := (List.range ros.length).filter fun k => (ros[k]?).any fun r => r.op.eff
 let (i, j) ← (effs.flatMap fun i => effs.filterMap fun j => if i < j && !(tbl.getD j []).contains i then some (i, j) else none).head?
 let s := j :: tbl.getD j []
 pure (i, j, (List.range ros.length).filter (s.contains ·) ++ (List.range ros.length).filter fun k => !s.contains k)

/-- The first call of one whose answer is left open. -/
def qOf (c : Cfg) (ros : List RO) : Nat := ((List.range ros.length).find? fun k => match ros[k]? with
 | some r => (match r.op with
  | .call false f _ => c.opn f
  | _ => false)
 | none => false).getD ros.length
def erC (P : Program) (c : Cfg) (N : Nat) : Code → Option C
 | .skip => some .skip
 | .region _ ops draw => do
  let ros ← ops.toList.mapM (erO P c N ops)
  if draw = true then
   let tbl := befT ops.toList
   if drOk ops ros tbl = true then (if drsOk ros tbl = true then (if drqOk ros tbl (qOf c ros) = true then some (.reg ros) else some (.drs ros)) else some (.dr tbl ros)) else do
    let (i, j, co) ← twoOf ros tbl
    let opsA := addEdge ops j i
    let opsB := permOps (addEdge ops i j) co
    let rosA ← opsA.toList.mapM (erO P c N opsA)
    let rosB ← opsB.toList.mapM (erO P c N opsB)
    let tblA := befT opsA.toList
    let tblB := befT opsB.toList
    if drOk opsA rosA tblA = true ∧ drOk opsB rosB tblB = true ∧ twoOk ops i j co = true then some (.dr2 tblA rosA tblB rosB) else none
  else some (.reg ros)
 | .seq a b => do some (.seq (← erC P c N a) (← erC P c N b))
 | .cond x a b => do some (.cond (← od x) (← erC P c N a) (← erC P c N b))
 | .block id a => do some (.block id (← erC P c N a))
 | .loop a => do some (.loop (← erC P c N a))
 | .exit id => some (.exit id)
 | .ret => some .ret
 | _ => none

theorem erC_is {P : Program} {c : Cfg} {N : Nat} (hf : P.follows .mixedOrders = true) : ∀ {k : Code} {k' : C}, erC P c N k = some k' → Is P c N k k' := by
 intro k
 induction k with
 | skip => intro k' h; cases h; exact .skip
 | region id ops draw =>
  intro k' h
  simp only [erC] at h
  obtain ⟨ros, h1, h⟩ := bind_some h
  cases draw with
  | false => rw [if_neg (by simp)] at h; cases h; exact .reg id ops ros h1
  | true =>
   rw [if_pos rfl] at h
   split at h
   ·rename_i hd
    split at h
    ·rename_i hs
     split at h
     ·rename_i hq; cases h; exact .drq id ops ros _ _ hf h1 hd hs hq
     ·cases h; exact .drs id ops ros _ hf h1 hd hs
    ·cases h; exact .dr id ops ros _ hf h1 hd
   ·obtain ⟨⟨i, j, co⟩, h2, h⟩ := bind_some h
    obtain ⟨rosA, h3, h⟩ := bind_some h
    obtain ⟨rosB, h4, h⟩ := bind_some h
    simp only at h
    split at h
    ·rename_i hh
     cases h
     exact .dr2 id ops rosA rosB _ _ i j co hf h3 hh.1 h4 hh.2.1 hh.2.2
    ·cases h
 | seq a b iha ihb =>
  intro k' h
  simp only [erC] at h
  obtain ⟨a', h1, h⟩ := bind_some h
  obtain ⟨b', h2, h⟩ := bind_some h
  cases h; exact .seq (iha h1) (ihb h2)
 | cond x a b iha ihb =>
  intro k' h
  simp only [erC] at h
  obtain ⟨x', h0, h⟩ := bind_some h
  obtain ⟨a', h1, h⟩ := bind_some h
  obtain ⟨b', h2, h⟩ := bind_some h
  cases h; exact .cond h0 (iha h1) (ihb h2)
 | block id a ih =>
  intro k' h
  simp only [erC] at h
  obtain ⟨a', h1, h⟩ := bind_some h
  cases h; exact .block (ih h1)
 | loop a ih =>
  intro k' h
  simp only [erC] at h
  obtain ⟨a', h1, h⟩ := bind_some h
  cases h; exact .loop (ih h1)
 | exit id => intro k' h; cases h; exact .exit id
 | ret => intro k' h; cases h; exact .ret
 | _ => intro k' h; simp [erC] at h

theorem upd_apply (F : Fr) (d : Nat) (v : AV) (i : Nat) : upd F d v i = if i = d then v else F i := by simp only [upd]
theorem put_some (F : Fr) (d : Nat) (v : AV) : put F (some d) v = upd F d v := by simp only [put]
theorem put_none (F : Fr) (v : AV) : put F none v = F := by simp only [put]

/-- What comes behind an operation; told only where its answer is there. -/
def step (A : List RO → Fr → St → (Fr → St → Prop) → Prop) (os : List RO) (d : Option Nat) (F : Fr) (K : Fr → St → Prop) : AV → St → Prop := fun v σ' => A os (put F d v) σ' K
theorem step_apply (A : List RO → Fr → St → (Fr → St → Prop) → Prop) (os : List RO) (d : Option Nat) (F : Fr) (K : Fr → St → Prop) (v : AV) (σ : St) : step A os d F K v σ = A os (put F d v) σ K := by simp only [step]

/-- What a region's formula does, told by equations alone (so that nobody unfolds it). -/
structure RL (A : List RO → Fr → St → (Fr → St → Prop) → Prop) (O : CO → Fr → St → (AV → St → Prop) → Prop) : Prop where
 nil : ∀ F σ K, A [] F σ K = K F σ
 go : ∀ d o os F σ K, A (⟨d, none, o⟩ :: os) F σ K = O o F σ (step A os d F K)
 yes : ∀ d t want o os F σ K, F t = .bool want → A (⟨d, some (t, want), o⟩ :: os) F σ K = O o F σ (step A os d F K)
 noT : ∀ d t o os F σ K, F t = .bool false → A (⟨d, some (t, true), o⟩ :: os) F σ K = A os (put F d (.raw (.tuple #[]))) σ K
 noF : ∀ d t o os F σ K, F t = .bool true → A (⟨d, some (t, false), o⟩ :: os) F σ K = A os (put F d (.raw (.tuple #[]))) σ K
 skp : ∀ d t want o os F σ K, F t = .raw (.tuple #[]) → A (⟨d, some (t, want), o⟩ :: os) F σ K = A os (put F d (.raw (.tuple #[]))) σ K

theorem RL.reg (P : Program) : RL (aops P) (aopq P) :=
 ⟨fun _ _ _ => rfl, fun _ _ _ _ _ _ => rfl, fun d t want o os F σ K h => by simp [aops, h]; rfl, fun d t o os F σ K h => by simp [aops, h], fun d t o os F σ K h => by simp [aops, h], fun d t want o os F σ K h => by simp [aops, h]⟩
theorem RL.drs (P : Program) : RL (aopd P) (aop P) :=
 ⟨fun _ _ _ => rfl, fun _ _ _ _ _ _ => rfl, fun d t want o os F σ K h => by simp [aopd, h]; rfl, fun d t o os F σ K h => by simp [aopd, h], fun d t o os F σ K h => by simp [aopd, h], fun d t want o os F σ K h => by simp [aopd, h]⟩
theorem RL.cut {A : List RO → Fr → St → (Fr → St → Prop) → Prop} {O : CO → Fr → St → (AV → St → Prop) → Prop} (_ : RL A O) {d : Option Nat} {want : Bool} {o : CO} {os : List RO} {F : Fr} {σ : St} {K : Fr → St → Prop} {t : Nat} {b : Bool} (_ : F t = .bool b) (h1 : b = true → A (⟨d, some (t, want), o⟩ :: os) F σ K) (h2 : b = false → A (⟨d, some (t, want), o⟩ :: os) F σ K) : A (⟨d, some (t, want), o⟩ :: os) F σ K := by
 cases b
 ·exact h2 rfl
 ·exact h1 rfl

section
variable {P : Program} {n0 : Nat} {Q : Exit → Fr → St → Prop} {F : Fr} {σ : St}
theorem SWP.rg {ops : List RO} (h : ∀ A, RL A (aopq P) → ∀ K : Fr → St → Prop, (∀ F' σ', Q .normal F' σ' → K F' σ') → A ops F σ K) : SWP P n0 (.reg ops) Q F σ := .reg (h _ (.reg P) _ fun _ _ h => h)
theorem SWP.rd {ops : List RO} (h : ∀ A, RL A (aop P) → ∀ K : Fr → St → Prop, (∀ F' σ', Q .normal F' σ' → K F' σ') → A ops F σ K) : SWP P n0 (.drs ops) Q F σ := .drs (h _ (.drs P) _ fun _ _ h => h)
theorem SWP.rx {tbl : List (List Nat)} {ops : List RO} (h : ∀ K : Fr → St → Prop, (∀ F' σ', Q .normal F' σ' → K F' σ') → adr P tbl 0 [] ops F σ K) : SWP P n0 (.dr tbl ops) Q F σ := .dr (h _ fun _ _ h => h)
theorem SWP.rx2 {tA tB : List (List Nat)} {oA oB : List RO} (h : ∀ K : Fr → St → Prop, (∀ F' σ', Q .normal F' σ' → K F' σ') → adr P tA 0 [] oA F σ K ∧ adr P tB 0 [] oB F σ K) : SWP P n0 (.dr2 tA oA tB oB) Q F σ := .dr2 (h _ fun _ _ h => h).1 (h _ fun _ _ h => h).2
/-- What holds between two parts. -/
theorem SWP.mid {a b : C} (J : Fr → St → Prop) (h : SWP P n0 a (thenQ J Q) F σ) (h' : ∀ F' σ', J F' σ' → SWP P n0 b Q F' σ') : SWP P n0 (.seq a b) Q F σ :=
 .seq (h.mono fun ex F' σ' hq => by cases ex <;> first | exact h' _ _ hq | exact hq)
end
end Go.Av
