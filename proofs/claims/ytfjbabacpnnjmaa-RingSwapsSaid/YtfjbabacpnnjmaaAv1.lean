/- A logic of small values, and walks in it: That the model does what is said of the operations: the rest that is done in one step. That the model does what is said of the operations: cuts, rows that are made, appends, calls. That the model does what is said of the operations: cuts, appends. That the model does what is said of appends. That the model does what is said of the operations: maps. -/
import Derived.Test.YtfjbabacpnnjmaaAv0
import Derived.Laws.MakeOwn
import Derived.ArgAppend
import Derived.MapKept
import Derived.ChangeKeysEq
set_option linter.unusedVariables false
set_option linter.unusedSimpArgs false
set_option linter.deprecated false
namespace Go.Av
open Go.RowKit (Below)

section
variable {P : Program} {o : Oper} {F : Fr} {σ : St}

theorem ok_nc {x : Operand} {y : Od} (ho : o.op = .nilCheck x) (h : od x = some y) (hy : (∃ b i off, ev F y = .ptr b i off) ∨ ∃ cs, ev F y = .fptr cs) : OpT P o F σ (ev F y) σ := by
 refine .of_pure fun W0 e a w hr hf => ?_
 have h1 := use1 hf (x := x) (by simp [ho, Op.operands]) h
 refine ⟨a.eval x, h1, ?_⟩
 rcases hy with ⟨b, i, off, hy⟩ | ⟨cs, hy⟩ <;> rw [hy] at h1 <;> generalize hv : a.eval x = v at h1 <;> cases h1 <;> simp [execOp, ho, hv]

theorem ok_un {op : UnOp} {t : TypeId} {x : Operand} {y : Od} (ho : o.op = .unOp op t x) (h : od x = some y) :
  (∀ b, op = .not → ev F y = .bool b → OpT P o F σ (.bool !b) σ) ∧ (∀ k n, op = .neg → ev F y = .int k n → OpT P o F σ (.int k (k.wrap (0 - n))) σ) := by
 refine ⟨fun b hop hy => .of_pure fun W0 e a w hr hf => ?_, fun k n hop hy => .of_pure fun W0 e a w hr hf => ?_⟩
 ·have h1 := use1 hf (x := x) (by simp [ho, Op.operands]) h
  rw [hy] at h1
  generalize hv : a.eval x = v at h1
  cases h1
  exact ⟨_, .bool _, by simp [execOp, ho, hv, hop, Op.unary]⟩
 ·have h1 := use1 hf (x := x) (by simp [ho, Op.operands]) h
  rw [hy] at h1
  generalize hv : a.eval x = v at h1
  cases h1
  exact ⟨_, .int _ _, by simp [execOp, ho, hv, hop, Op.unary, Op.intArith]⟩

theorem ok_cv {s t : TypeId} {x : Operand} {y : Od} {d : TypeDesc} {k j : IntKind} {n : Int} (ho : o.op = .convert s t x) (hs : P.underlying s = some d) (ht : P.underlying t = some (.int k)) (h : od x = some y)
  (hy : ev F y = .int j n) : OpT P o F σ (.int k (k.wrap n)) σ := by
 refine .of_pure fun W0 e a w hr hf => ?_
 have h1 := use1 hf (x := x) (by simp [ho, Op.operands]) h
 rw [hy] at h1
 generalize hv : a.eval x = v at h1
 cases h1
 exact ⟨_, .int _ _, by simp [execOp, ho, hv, convert, run_underlying hs, run_underlying ht, Conv.intToInt]⟩

theorem ok_mi {t : TypeId} {x : Operand} {y : Od} {d : TypeDesc} (ho : o.op = .makeInterface t x) (ht : P.underlying t = some d) (hd : ∀ ms, d ≠ .interface ms) (h : od x = some y) :
  OpT P o F σ (.iface t (ev F y)) σ := by
 refine .of_pure fun W0 e a w hr hf => ?_
 have h1 := use1 hf (x := x) (by simp [ho, Op.operands]) h
 refine ⟨.iface t (a.eval x), .iface t _ _ h1, ?_⟩
 cases d <;> first
  | (exact absurd rfl (hd _))
  | simp [execOp, ho, Instr.makeInterface, run_underlying ht]

theorem ok_mf {f : FuncId} {cs : Array Operand} {cs' : List Od} (ho : o.op = .makeFunc (.func f) #[] cs) (h : cs.toList.mapM od = some cs') : OpT P o F σ (.func f (cs'.map (ev F))) σ := by
 refine .of_pure fun W0 e a w hr hf => ?_
 obtain ⟨h1, h2⟩ := ods_ok (F := F) (e := e) (a := a) h (fun t ht => hf t (by simpa [uses, ho, Op.operands] using ht))
 refine ⟨.func (.func f) #[] (cs.map a.eval), .func f _ _ (by simp [h1]) (fun i hi => ?_), by simp [execOp, ho, Instr.makeFunc]⟩
 have := h2 i (by simpa using hi)
 simpa [Array.getD_eq_getD_getElem?, List.getD_eq_getElem?_getD] using this

theorem ok_fa {s : TypeId} {x : Operand} {y : Od} {n : Nat} {f : Field} {z : Nat} (ho : o.op = .fieldAddr s x n) (hf1 : fieldOf P s n = some f) (hz : szOf P f.type = some z) (hz0 : z ≠ 0) (h : od x = some y) :
  (∀ b i off, ev F y = .ptr b i off → OpT P o F σ (.ptr b i (off + f.offset)) σ) ∧ (∀ cs, ev F y = .fptr cs → f.offset ≤ cs.length → OpT P o F σ (.fptr (cs.drop f.offset)) σ) := by
 have hu : ∃ fs, P.underlying s = some (.struct fs) ∧ fs[n]? = some f := by
  unfold fieldOf at hf1; split at hf1
  ·rename_i fs hu; exact ⟨fs, hu, hf1⟩
  ·cases hf1
 obtain ⟨fs, hu, hfs⟩ := hu
 simp only [szOf, Option.map_eq_some_iff] at hz
 obtain ⟨ti, hti, htz⟩ := hz
 have hti0 : ti.size ≠ 0 := by omega
 refine ⟨fun b i off hy => .of_pure fun W0 e a w hr hf => ?_, fun cs hy hle => .of_pure fun W0 e a w hr hf => ?_⟩
 ·have h1 := use1 hf (x := x) (by simp [ho, Op.operands]) h
  rw [hy] at h1
  generalize hv : a.eval x = v at h1
  cases h1 with
  | ptr _ _ _ q hq hqv =>
   refine ⟨.pointer (some ⟨q.k, q.o + i * q.sz + off + f.offset, none⟩), ?_, ?_⟩
   ·have := VR.ptr (e := e) b i (off + f.offset) q hq hqv
    rwa [← Nat.add_assoc] at this
   ·simp [execOp, ho, hv, Instr.fieldAt, run_underlying hu, hfs, Instr.sureAddr, fieldPlace, sizeOf, typeInfo, hti, hti0, Addr.add_lit]
 ·have h1 := use1 hf (x := x) (by simp [ho, Op.operands]) h
  rw [hy] at h1
  generalize hv : a.eval x = v at h1
  cases h1 with
  | fptr _ k off c hk hc hoc hh =>
   refine ⟨.pointer (some ⟨k, off + f.offset, none⟩), .fptr _ k _ c hk (by simp; omega) (fun j hj => ?_) (fun j hj => ?_), ?_⟩
   ·simp at hj
    have := hoc (f.offset + j) (by omega)
    rwa [← Nat.add_assoc] at this
   ·simp at hj
    have := hh (f.offset + j) (by omega)
    rw [← Nat.add_assoc] at this
    simpa [List.getD_eq_getElem?_getD, List.getElem?_drop] using this
   ·simp [execOp, ho, hv, Instr.fieldAt, run_underlying hu, hfs, Instr.sureAddr, fieldPlace, sizeOf, typeInfo, hti, hti0, Addr.add_lit]

theorem run_part {e : Env} {w : World} {t : TypeId} {g : Option Nat} (hg : aggOf P t = some g) {cs : List AV} {vs : Array Value} {off : Nat} (hl : cs.length = vs.size) (hs : off + g.getD 1 ≤ cs.length)
  (h : ∀ j, j < cs.length → (vs.getD j Go.undef).oneCell' = true ∧ VR e (cs.getD j .undef) (vs.getD j Go.undef)) :
  ∃ v, VR e (mk g cs off) v ∧ (part t vs off).run P w = .ok v w := by
 unfold aggOf at hg
 have agg : ∀ i : TypeInfo, P.info? t = some i → off + i.size ≤ cs.length → VR e (mk (some i.size) cs off) (.agg (vs.extract off (off + i.size))) := by
  intro i hi hs
  refine .agg _ _ (by simp; omega) (fun j hj => ?_) (fun j hj => ?_)
  ·have hj' : j < i.size := by simp at hj; omega
   have := (h (off + j) (by omega)).1
   rw [agetD_lt _ _ _ (by simp; omega)]
   rw [agetD_lt _ _ _ (by omega)] at this
   simpa using this
  ·have hj' : j < i.size := by simp at hj; omega
   have := (h (off + j) (by omega)).2
   rw [agetD_lt _ _ _ (by simp; omega)]
   rw [agetD_lt _ _ _ (by omega)] at this
   simp [List.getD_eq_getElem?_getD, hj', List.getElem?_drop] at this ⊢
   exact this
 split at hg
 ·rename_i fs hu
  simp only [szOf, Option.map_map, Option.map_eq_some_iff, Function.comp] at hg
  obtain ⟨i, hi, rfl⟩ := hg
  exact ⟨_, agg i hi hs, by simp [part, isAgg, run_underlying hu, sizeOf, typeInfo, hi]⟩
 ·rename_i n el hu
  simp only [szOf, Option.map_map, Option.map_eq_some_iff, Function.comp] at hg
  obtain ⟨i, hi, rfl⟩ := hg
  exact ⟨_, agg i hi hs, by simp [part, isAgg, run_underlying hu, sizeOf, typeInfo, hi]⟩
 ·rename_i d hd1 hd2 hu
  cases hg
  simp only [Option.getD_none] at hs
  have h0 := (h off (by omega)).2
  have hlt : off < vs.size := by omega
  rw [agetD_lt _ _ _ hlt] at h0
  refine ⟨_, h0, ?_⟩
  cases d <;> first
   | (exact absurd rfl (hd1 _))
   | (exact absurd rfl (hd2 _ _))
   | simp [part, isAgg, run_underlying hu, hlt]
 ·cases hg

theorem ok_fl {s : TypeId} {x : Operand} {y : Od} {n : Nat} {f : Field} {g : Option Nat} (ho : o.op = .field s x n) (hf1 : fieldOf P s n = some f) (hg : aggOf P f.type = some g) (h : od x = some y)
  {cs : List AV} (hy : ev F y = .agg cs) (hs : f.offset + g.getD 1 ≤ cs.length) : OpT P o F σ (mk g cs f.offset) σ := by
 have hu : ∃ fs, P.underlying s = some (.struct fs) ∧ fs[n]? = some f := by
  unfold fieldOf at hf1; split at hf1
  ·rename_i fs hu; exact ⟨fs, hu, hf1⟩
  ·cases hf1
 obtain ⟨fs, hu, hfs⟩ := hu
 refine .of_pure fun W0 e a w hr hf => ?_
 have h1 := use1 hf (x := x) (by simp [ho, Op.operands]) h
 rw [hy] at h1
 generalize hv : a.eval x = v at h1
 cases h1 with
 | agg _ vs hl hoc hh =>
  obtain ⟨v, h2, h3⟩ := run_part (P := P) (w := w) hg hl hs (fun j hj => ⟨hoc j hj, hh j hj⟩)
  exact ⟨v, h2, by simp [execOp, ho, hv, Instr.field, run_underlying hu, hfs, asAgg, h3]⟩

theorem ok_ia {t el : TypeId} {x ix : Operand} {x' ix' : Od} {sz : Nat} (ho : o.op = .indexAddr t x ix) (ht : elemOf' P t = some el) (hz : szOf P el = some sz) (hx : od x = some x') (hix : od ix = some ix') {k : IntKind} {i : Int}
  (hi : ev F ix' = .int k i) (h0 : 0 ≤ i) :
  (∀ rows, ev F x' = .lit sz rows → i < rows.length → OpT P o F σ (.fptr (rows.getD i.toNat [])) σ) ∧
  (∀ b off n rows, ev F x' = .sl b off n → σ.blk b = some (.cells sz rows) → i < n → OpT P o F σ (.ptr b (off + i.toNat) 0) σ) := by
 have hu : P.underlying t = some (.slice el) := by
  unfold elemOf' at ht; split at ht
  ·cases ht; assumption
  ·cases ht
 simp only [szOf, Option.map_eq_some_iff] at hz
 obtain ⟨ti, hti, htz⟩ := hz
 refine ⟨fun rows hy hlt => .of_pure fun W0 e a w hr hf => ?_, fun b off n rows hy hb hlt => .of_pure fun W0 e a w hr hf => ?_⟩
 ·have h1 := use1 hf (x := x) (by simp [ho, Op.operands]) hx
  have h2 := use1 hf (x := ix) (by simp [ho, Op.operands]) hix
  rw [hy] at h1
  rw [hi] at h2
  generalize hv : a.eval x = v at h1
  generalize hv2 : a.eval ix = v2 at h2
  cases h2
  cases h1 with
  | lit0 => simp at hlt; omega
  | lit _ _ kk off cap c hk hc hm hrr hs hoc hh =>
   have hin : i.toNat < rows.length := by omega
   refine ⟨.pointer (some ⟨kk, off + i.toNat * sz, none⟩), .fptr _ kk _ c hk ?_ (fun j hj => ?_) (fun j hj => ?_), ?_⟩
   ·rw [hrr _ hin]
    have := Nat.mul_le_mul_right sz (show i.toNat + 1 ≤ rows.length by omega)
    rw [Nat.add_mul] at this; omega
   ·rw [hrr _ hin] at hj; exact hoc _ _ hin hj
   ·rw [hrr _ hin] at hj; exact hh _ _ hin hj
   ·have hlt' : i < (rows.length : Int) := hlt
    simp [execOp, ho, hv, hv2, Instr.indexAt, asIntOf, run_underlying hu, h0, hlt', sizeOf, typeInfo, hti, htz, Addr.add_lit]
 ·have h1 := use1 hf (x := x) (by simp [ho, Op.operands]) hx
  have h2 := use1 hf (x := ix) (by simp [ho, Op.operands]) hix
  rw [hy] at h1
  rw [hi] at h2
  generalize hv : a.eval x = v at h1
  generalize hv2 : a.eval ix = v2 at h2
  cases h2
  cases h1 with
  | sl0 => omega
  | sl _ _ _ cap q hq hqv hc hm ht =>
   obtain ⟨r1, _⟩ := hr.cellsAt hb hq
   refine ⟨.pointer (some ⟨q.k, q.o + off * q.sz + i.toNat * sz, none⟩), ?_, ?_⟩
   ·have := VR.ptr (e := e) b (off + i.toNat) 0 q hq hqv
    rw [← r1]
    rw [show q.o + off * q.sz + i.toNat * q.sz = q.o + (off + i.toNat) * q.sz + 0 by rw [Nat.add_mul]; omega]
    exact this
   ·have hlt' : i < (n : Int) := hlt
    simp [execOp, ho, hv, hv2, Instr.indexAt, asIntOf, run_underlying hu, h0, hlt', sizeOf, typeInfo, hti, htz, Addr.add_lit]

theorem ok_ex {x : Operand} {y : Od} {i : Nat} (ho : o.op = .extract x i) (h : od x = some y) {vs : List AV} (hy : ev F y = .tup vs) (hi : i < vs.length) : OpT P o F σ (vs.getD i .undef) σ := by
 refine .of_pure fun W0 e a w hr hf => ?_
 have h1 := use1 hf (x := x) (by simp [ho, Op.operands]) h
 rw [hy] at h1
 generalize hv : a.eval x = v at h1
 cases h1 with
 | tup _ cs hl hh =>
  have hlt : i < cs.size := by omega
  have := hh i hi
  rw [agetD_lt _ _ _ hlt] at this
  exact ⟨cs[i], this, by simp [execOp, ho, hv, Instr.extract, hlt]⟩

theorem ok_ln {x : Operand} {y : Od} {t : TypeId} {ts : Array TypeId} {d : TypeDesc} (ho : o.op = .call { callee := .builtin .len, args := #[x], argTypes := ts }) (h : od x = some y) (hts : ts[0]? = some t)
  (hd : d = .string ∨ ∃ e, d = .slice e) (hu : P.underlying t = some d) :
  (∀ s, d = .string → ev F y = .str s → OpT P o F σ (.int .i64 s.size) σ) ∧
  (∀ n, (∃ e, d = .slice e) → (ev F y = .nils ∧ n = 0 ∨ (∃ f z, ev F y = .emp f z) ∧ n = 0 ∨ (∃ z rows, ev F y = .lit z rows ∧ n = rows.length) ∨ (∃ b off, ev F y = .sl b off n)) → OpT P o F σ (.int .i64 (n : Nat)) σ) := by
 refine ⟨fun s hds hy => .of_pure fun W0 e a w hr hf => ?_, fun n ⟨el, hde⟩ hy => .of_pure fun W0 e a w hr hf => ?_⟩
 ·have h1 := use1 hf (x := x) (by simp [ho, Op.operands, Call.operands]) h
  rw [hy] at h1
  generalize hv : a.eval x = v at h1
  cases h1
  subst hds
  exact ⟨_, .int _ _, by simp [execOp, ho, hv, resolve, invoke, builtin, Builtin.len_, hts, run_underlying hu, goInt]⟩
 ·have h1 := use1 hf (x := x) (by simp [ho, Op.operands, Call.operands]) h
  subst hde
  have hsl : ∃ ad cap, a.eval x = .slice ad n cap := by
   generalize a.eval x = v at h1
   rcases hy with ⟨hy, rfl⟩ | ⟨⟨f, z, hy⟩, rfl⟩ | ⟨z, rows, hy, rfl⟩ | ⟨b, off, hy⟩ <;> rw [hy] at h1 <;> cases h1 <;> exact ⟨_, _, rfl⟩
  obtain ⟨ad, cap, hv⟩ := hsl
  exact ⟨_, .int _ _, by simp [execOp, ho, hv, resolve, invoke, builtin, Builtin.len_, hts, run_underlying hu, goInt]⟩

theorem ok_mx {m : Bool} {b : Builtin} {x y : Operand} {x' y' : Od} {ts : Array TypeId} (hb : b = if m = true then .max else .min) (ho : o.op = .call { callee := .builtin b, args := #[x, y], argTypes := ts })
  (hx : od x = some x') (hy : od y = some y') {k : IntKind} {p q : Int} (hp : ev F x' = .int k p) (hq : ev F y' = .int k q) : OpT P o F σ (.int k (if m = true then max p q else min p q)) σ := by
 refine .of_pure fun W0 e a w hr hf => ?_
 have h1 := use1 hf (x := x) (by simp [ho, Op.operands, Call.operands]) hx
 have h2 := use1 hf (x := y) (by simp [ho, Op.operands, Call.operands]) hy
 rw [hp] at h1
 rw [hq] at h2
 generalize hv : a.eval x = v at h1
 generalize hv2 : a.eval y = v2 at h2
 cases h1; cases h2
 refine ⟨_, .int _ _, ?_⟩
 cases m
 ·have e1 : (if q < p then q else p) = min p q := by split <;> omega
  simp at hb; subst hb
  simp [execOp, ho, hv, hv2, resolve, invoke, builtin, Builtin.min_, Builtin.min2, e1]
 ·have e1 : (if p < q then q else p) = max p q := by split <;> omega
  simp at hb; subst hb
  simp [execOp, ho, hv, hv2, resolve, invoke, builtin, Builtin.max_, Builtin.max2, e1]

theorem ok_ta {x : Operand} {y : Od} {s t : TypeId} {ok : Bool} {d : TypeDesc} {ti : TypeInfo} {z : Value} (ho : o.op = .typeAssert x s t ok) (h : od x = some y) (hu : P.underlying t = some d) (hd : ∀ ms, d ≠ .interface ms)
  (hti : P.info? t = some ti) (hz : ti.zero = some z) (hzo : cstOk z = true) :
  (∀ u v, ev F y = .iface u v → u = t → OpT P o F σ (if ok = true then .tup [v, .bool true] else v) σ) ∧
  (∀ u v, ev F y = .iface u v → u ≠ t → ok = true → OpT P o F σ (.tup [cst z, .bool false]) σ) ∧ (ev F y = .niliface → ok = true → OpT P o F σ (.tup [cst z, .bool false]) σ) := by
 refine ⟨fun u v hy hut => .of_pure fun W0 e a w hr hf => ?_, fun u v hy hut hok => .of_pure fun W0 e a w hr hf => ?_, fun hy hok => .of_pure fun W0 e a w hr hf => ?_⟩
 ·have h1 := use1 hf (x := x) (by simp [ho, Op.operands]) h
  rw [hy] at h1
  generalize hv : a.eval x = cv at h1
  cases h1 with
  | iface _ _ v' hvv =>
   refine ⟨if ok = true then .tuple #[v', .bool true] else v', ?_, ?_⟩
   ·split
    ·refine .tup _ _ rfl fun i hi => ?_
     match i, hi with
     | 0, _ => exact hvv
     | 1, _ => exact .bool true
    ·exact hvv
   ·cases d <;> first
     | (exact absurd rfl (hd _))
     | simp [execOp, ho, hv, Instr.typeAssert, run_underlying hu, hut]
 ·have h1 := use1 hf (x := x) (by simp [ho, Op.operands]) h
  rw [hy] at h1
  generalize hv : a.eval x = cv at h1
  cases h1 with
  | iface _ _ v' hvv =>
   refine ⟨.tuple #[z, .bool false], .tup _ _ rfl fun i hi => ?_, ?_⟩
   ·match i, hi with
    | 0, _ => exact VR.cst hzo
    | 1, _ => exact .bool false
   ·cases d <;> first
     | (exact absurd rfl (hd _))
     | simp [execOp, ho, hv, Instr.typeAssert, run_underlying hu, hut, hok, zeroValue, typeInfo, hti, hz]
 ·have h1 := use1 hf (x := x) (by simp [ho, Op.operands]) h
  rw [hy] at h1
  generalize hv : a.eval x = cv at h1
  cases h1 with
  | niliface =>
   refine ⟨.tuple #[z, .bool false], .tup _ _ rfl fun i hi => ?_, ?_⟩
   ·match i, hi with
    | 0, _ => exact VR.cst hzo
    | 1, _ => exact .bool false
   ·cases d <;> first
     | (exact absurd rfl (hd _))
     | simp [execOp, ho, hv, Instr.typeAssert, run_underlying hu, hok, zeroValue, typeInfo, hti, hz]

end
section
variable {P : Program} {o : Oper} {F : Fr} {σ : St}

theorem ok_ms {t el : TypeId} {d : Bool} {l c : Operand} {l' c' : Od} {i : TypeInfo} {z : List AV} (ho : o.op = .makeSlice t l c) (ht : elemOf' P t = some el) (hi : P.info? el = some i) (hz : zeroOf P d el = some z) (hzl : z.length = i.size) (hs0 : i.size ≠ 0)
  (hl : od l = some l') (hc : od c = some c') {kl kc : IntKind} {n m : Int} (hn : ev F l' = .int kl n) (hm : ev F c' = .int kc m) (h0 : 0 ≤ n) (h1 : n ≤ m) (h2 : m ≤ most) (h3 : m * i.bytes ≤ most) :
  OpT P o F σ (.sl σ.next 0 n.toNat) (σ.push (.cells i.size (List.replicate n.toNat z))) := by
 have hu : P.underlying t = some (.slice el) := by
  unfold elemOf' at ht; split at ht
  ·cases ht; assumption
  ·cases ht
 obtain ⟨i', v, g1, g2, g3, g4, g5⟩ := zero_cells hz
 rw [hi] at g1; cases g1
 refine .of_run fun W0 e a w hr hf => ?_
 have q1 := use1 hf (x := l) (by simp [ho, Op.operands]) hl
 have q2 := use1 hf (x := c) (by simp [ho, Op.operands]) hc
 rw [hn] at q1
 rw [hm] at q2
 generalize hv : a.eval l = v1 at q1
 generalize hv2 : a.eval c = v2 at q2
 cases q1; cases q2
 simp only [most] at h2 h3
 have hrun := run_make (P := P) w t el i v hu hi g2 kl kc n m h0 h1 (by rw [Int.mul_comm]; omega) (by omega)
 have hRR := zero_rows (e := e) hzl g3 g4 g5 n.toNat m.toNat (by omega)
 obtain ⟨le, hx, hR⟩ := push_cells (w1 := w.alloc (.cells (madeCells v.cells (m.toNat * i.size)) el)) hr ⟨rfl, rfl, rfl, rfl⟩ (c := madeCells v.cells (m.toNat * i.size)) hRR.1 (by simp only [List.length_replicate, most]; omega) hRR.2.1 hRR.2.2
 refine ⟨_, .slice (some ⟨w.heap.size, 0, none⟩) n.toNat m.toNat, _, le, hR, ?_, by simp [execOp, ho, hv, hv2, hrun]⟩
 have hsz : (madeCells v.cells (m.toNat * i.size)).size = m.toNat * i.size := size_madeCells _ _
 have := VR.sl σ.next 0 n.toNat m.toNat _ hx rfl (by omega) (by simp only [most]; omega) (by simp [hsz])
 simpa using this

theorem bound_ok {e : Env} {a : Act} {x : Operand} {y : Od} (hx : od x = some y) (hv : VR e (ev F y) (a.eval x)) {n : Int} (h : asNat (ev F y) = some n) : ∃ k, a.eval x = .int k n := by
 unfold asNat at h
 split at h
 ·rename_i k m hy
  cases h
  rw [hy] at hv
  generalize a.eval x = v at hv
  cases hv
  exact ⟨k, rfl⟩
 ·cases h

theorem run_sliceBound (w : World) (k : IntKind) (n : Int) (y : Nat) (code : BoundsCode) (h0 : 0 ≤ n) (h1 : n ≤ y) : (Instr.sliceBound (.int k n) y code).run P w = .ok n.toNat w := by
 simp [Instr.sliceBound, asIntOf, h0, h1]

theorem bounds_ok {n : Nat} {lo hi mx : Option Operand} {lo' hi' mx' : Option Od} {K : Nat → Nat → Bool → Prop} (hlo : odO lo = some lo') (hhi : odO hi = some hi') (hmx : odO mx = some mx') (h : bounds F n lo' hi' mx' K) :
  ∃ l h, K l h mx.isSome ∧ l ≤ h ∧ h ≤ n ∧ (hi = none → h = n) ∧ ∀ (e : Env) (a : Act) (w : World) (isSlice : Bool) (cap : Nat), n ≤ cap →
   (∀ x, lo = some x ∨ hi = some x ∨ mx = some x → ∀ y, od x = some y → VR e (ev F y) (a.eval x)) →
   (Instr.sliceBounds isSlice n cap (lo.map a.eval) (hi.map a.eval) (mx.map a.eval)).run P w = .ok (l, h, if mx.isSome then h else cap) w := by
 have hodO : ∀ {x : Option Operand} {x' : Option Od}, odO x = some x' → (x = none ∧ x' = none) ∨ ∃ y y', x = some y ∧ x' = some y' ∧ od y = some y' := by
  intro x x' hx
  cases x with
  | none => simp [odO] at hx; exact .inl ⟨rfl, hx.symm⟩
  | some y =>
   simp only [odO, Option.map_eq_some_iff] at hx
   obtain ⟨y', h1, h2⟩ := hx
   exact .inr ⟨y, y', rfl, h2.symm, h1⟩
 rcases hodO hlo with ⟨rfl, rfl⟩ | ⟨l, l', rfl, rfl, ol⟩ <;> rcases hodO hhi with ⟨rfl, rfl⟩ | ⟨hh, hh', rfl, rfl, oh⟩ <;> rcases hodO hmx with ⟨rfl, rfl⟩ | ⟨m, m', rfl, rfl, om⟩ <;>
  simp only [bounds, Option.map_none, Option.map_some] at h
 ·exact ⟨0, n, h, Nat.zero_le _, Nat.le_refl _, fun _ => rfl, fun e a w b cap hc hv => by simp [Instr.sliceBounds]⟩
 ·cases hm : asNat (ev F hh') with
  | none => simp [hm] at h
  | some q =>
   simp only [hm] at h
   refine ⟨0, q.toNat, h.2.2, Nat.zero_le _, by omega, (fun h => by cases h), fun e a w b cap hc hv => ?_⟩
   obtain ⟨k, hk⟩ := bound_ok oh (hv hh (by simp) hh' oh) hm
   have b1 := run_sliceBound (P := P) w k q cap (if b = true then .sliceAcap else .sliceAlen) h.1 (by omega)
   simp [Instr.sliceBounds, hk, b1]
 ·cases hm : asNat (ev F hh') with
  | none => cases hm2 : asNat (ev F m') <;> simp [hm, hm2] at h
  | some q =>
   cases hm2 : asNat (ev F m') with
   | none => simp [hm, hm2] at h
   | some q2 =>
    simp only [hm, hm2] at h
    obtain ⟨g1, rfl, g3, g4⟩ := h
    refine ⟨0, q.toNat, g4, Nat.zero_le _, by omega, (fun h => by cases h), fun e a w b cap hc hv => ?_⟩
    obtain ⟨k, hk⟩ := bound_ok oh (hv hh (by simp) hh' oh) hm
    obtain ⟨k2, hk2⟩ := bound_ok om (hv m (by simp) m' om) hm2
    have b1 := run_sliceBound (P := P) w k2 q cap (if b = true then .slice3Acap else .slice3Alen) g1 (by omega)
    have b2 := run_sliceBound (P := P) w k q q.toNat .slice3B g1 (by omega)
    simp [Instr.sliceBounds, hk, hk2, b1, b2]
 ·cases hm : asNat (ev F l') with
  | none => simp [hm] at h
  | some q =>
   simp only [hm] at h
   refine ⟨q.toNat, n, h.2.2, by omega, Nat.le_refl _, fun _ => rfl, fun e a w b cap hc hv => ?_⟩
   obtain ⟨k, hk⟩ := bound_ok ol (hv l (by simp) l' ol) hm
   have b1 := run_sliceBound (P := P) w k q n .sliceB h.1 (by omega)
   simp [Instr.sliceBounds, hk, b1]
 ·cases hm : asNat (ev F l') <;> cases hm2 : asNat (ev F m') <;> simp [hm, hm2] at h
 ·cases hm : asNat (ev F l') with
  | none => cases hm2 : asNat (ev F hh') <;> simp [hm, hm2] at h
  | some q =>
   cases hm2 : asNat (ev F hh') with
   | none => simp [hm, hm2] at h
   | some q2 =>
    simp only [hm, hm2] at h
    obtain ⟨g1, g2, g3, g4⟩ := h
    refine ⟨q.toNat, q2.toNat, g4, by omega, by omega, (fun h => by cases h), fun e a w b cap hc hv => ?_⟩
    obtain ⟨k, hk⟩ := bound_ok ol (hv l (by simp) l' ol) hm
    obtain ⟨k2, hk2⟩ := bound_ok oh (hv hh (by simp) hh' oh) hm2
    have b1 := run_sliceBound (P := P) w k2 q2 cap (if b = true then .sliceAcap else .sliceAlen) (by omega) (by omega)
    have b2 := run_sliceBound (P := P) w k q q2.toNat .sliceB g1 (by omega)
    simp [Instr.sliceBounds, hk, hk2, b1, b2]
 ·cases hm : asNat (ev F l') with
  | none => cases hm2 : asNat (ev F hh') <;> cases hm3 : asNat (ev F m') <;> simp [hm, hm2, hm3] at h
  | some q =>
   cases hm2 : asNat (ev F hh') with
   | none => cases hm3 : asNat (ev F m') <;> simp [hm, hm2, hm3] at h
   | some q2 =>
    cases hm3 : asNat (ev F m') with
    | none => simp [hm, hm2, hm3] at h
    | some q3 =>
     simp only [hm, hm2, hm3] at h
     obtain ⟨g1, g2, rfl, g3, g4⟩ := h
     refine ⟨q.toNat, q2.toNat, g4, by omega, by omega, (fun h => by cases h), fun e a w b cap hc hv => ?_⟩
     obtain ⟨k, hk⟩ := bound_ok ol (hv l (by simp) l' ol) hm
     obtain ⟨k2, hk2⟩ := bound_ok oh (hv hh (by simp) hh' oh) hm2
     obtain ⟨k3, hk3⟩ := bound_ok om (hv m (by simp) m' om) hm3
     have b1 := run_sliceBound (P := P) w k3 q2 cap (if b = true then .slice3Acap else .slice3Alen) (by omega) (by omega)
     have b2 := run_sliceBound (P := P) w k2 q2 q2.toNat .slice3B (by omega) (by omega)
     have b3 := run_sliceBound (P := P) w k q q2.toNat .slice3C g1 (by omega)
     simp [Instr.sliceBounds, hk, hk2, hk3, b1, b2, b3]

end
section
variable {P : Program} {o : Oper} {F : Fr} {σ : St}

theorem elem_of {t el : TypeId} (ht : elemOf' P t = some el) : P.underlying t = some (.slice el) := by
 unfold elemOf' at ht; split at ht
 ·cases ht; assumption
 ·cases ht

theorem take_get (rows : List (List AV)) (l n i : Nat) (hi : i < n) : ((rows.drop l).take n).getD i [] = rows.getD (l + i) [] := by
 simp [List.getD_eq_getElem?_getD, List.getElem?_take, hi, List.getElem?_drop]

/-- What a slice operation gives, on what 'sliceBounds' gave. -/
theorem run_slice (w : World) {t el : TypeId} {ti : TypeInfo} (hu : P.underlying t = some (.slice el)) (hi : P.info? el = some ti) (ad : Option Addr) (len cap : Nat) (lo hi' mx : Option Value) (l h m : Nat)
  (hb : (Instr.sliceBounds true len cap lo hi' mx).run P w = .ok (l, h, m) w) :
  (Instr.sliceAt t (.slice ad len cap) lo hi' mx).run P w = .ok (.slice (if m = l then ad else ad.map (·.add (l * ti.size))) (h - l) (m - l)) w := by
 simp [Instr.sliceAt, Instr.slice, run_underlying hu, hb, sizeOf, typeInfo, hi]

theorem VR.litCut {e : Env} {sz : Nat} {rows : List (List AV)} {ad : Option Addr} {n cap : Nat} (hv : VR e (.lit sz rows) (.slice ad n cap)) {l h m : Nat} (h1 : l ≤ h) (h2 : h ≤ n) (hm : h ≤ m) (hmc : m ≤ cap) :
  VR e (.lit sz ((rows.drop l).take (h - l))) (.slice (if m = l then ad else ad.map (·.add (l * sz))) (h - l) (m - l)) := by
 cases hv with
 | lit0 _ a cap hz =>
  obtain rfl : h = 0 := by omega
  obtain rfl : l = 0 := by omega
  simp only [List.drop_nil, List.take_nil, Nat.sub_zero]
  exact .lit0 sz _ m (fun hh => by
   have : ad = none := by
    revert hh; split
    ·exact id
    ·simp
   have := hz this; omega)
 | lit _ _ kk off cap c hk hc hmo hrr hs hoc hh =>
  by_cases he : h = l
  ·subst he
   have : (rows.drop h).take (h - h) = [] := by simp
   rw [this, Nat.sub_self]
   exact .lit0 sz _ _ (fun hh => by
    exfalso; revert hh; split <;> simp)
  ·rw [if_neg (by omega)]
   have hlen : ((rows.drop l).take (h - l)).length = h - l := by simp; omega
   simp only [Option.map_some, Addr.add_lit]
   have q : VR e (.lit sz ((rows.drop l).take (h - l))) (.slice (some ⟨kk, off + l * sz, none⟩) ((rows.drop l).take (h - l)).length (m - l)) := ?_
   ·rwa [hlen] at q
   refine .lit sz _ kk (off + l * sz) (m - l) c hk (by rw [hlen]; omega) (by rw [hlen]; omega) (fun i hi => ?_) ?_ (fun i j hi hj => ?_) (fun i j hi hj => ?_)
   ·rw [hlen] at hi; rw [take_get _ _ _ _ hi]; exact hrr _ (by omega)
   ·rw [hlen, Nat.add_assoc, ← Nat.add_mul]
    have := Nat.mul_le_mul_right sz (show l + (h - l) ≤ rows.length by omega)
    omega
   ·rw [hlen] at hi
    have := hoc (l + i) j (by omega) hj
    rw [Nat.add_mul] at this
    rwa [show off + l * sz + i * sz + j = off + (l * sz + i * sz) + j by omega]
   ·rw [hlen] at hi
    have := hh (l + i) j (by omega) hj
    rw [Nat.add_mul] at this
    rw [take_get _ _ _ _ hi]
    rwa [show off + l * sz + i * sz + j = off + (l * sz + i * sz) + j by omega]

theorem VR.slCut {e : Env} {b off n cap : Nat} {x : Pl} {ad : Option Addr} (hx : e.ι b = some x) (hv : VR e (.sl b off n) (.slice ad n cap)) {l h m : Nat} (h1 : l ≤ h) (h2 : h ≤ n) (hm : h ≤ m) (hmc : m ≤ cap) :
  VR e (.sl b (off + l) (h - l)) (.slice (if m = l then ad else ad.map (·.add (l * x.sz))) (h - l) (m - l)) := by
 cases hv with
 | sl _ _ _ _ q hq hqv hc hmo ht =>
  rw [hx] at hq; cases hq
  by_cases he : m = l
  ·have : h - l = 0 := by omega
   rw [this, he, Nat.sub_self]
   exact .sl0 b _ _ x hx
  ·rw [if_neg he]
   simp only [Option.map_some, Addr.add_lit]
   have e1 : x.o + off * x.sz + l * x.sz = x.o + (off + l) * x.sz := by rw [Nat.add_mul]; omega
   rw [e1]
   refine .sl b (off + l) (h - l) (m - l) x hx hqv (by omega) (by omega) ?_
   have := Nat.mul_le_mul_right x.sz (show off + l + (m - l) ≤ off + cap by omega)
   omega
 | sl0 _ _ a q hq =>
  have : h - l = 0 := by omega
  have e1 : m = 0 := by omega
  have e2 : l = 0 := by omega
  subst e1; subst e2
  rw [if_pos rfl, this]
  exact .sl0 b _ _ q hq

theorem ok_sc {t el : TypeId} {x : Operand} {y : Od} {lo hi mx : Option Operand} {lo' hi' mx' : Option Od} {ti : TypeInfo} (ho : o.op = .slice t x lo hi mx) (ht : P.underlying t = some (.slice el)) (hti : P.info? el = some ti)
  (h : od x = some y) (hlo : odO lo = some lo') (hhi : odO hi = some hi') (hmx : odO mx = some mx') :
  (∀ (K : AV → Prop), ev F y = .nils → bounds F 0 lo' hi' mx' (fun _ _ _ => K .nils) → ∃ v, OpT P o F σ v σ ∧ K v) ∧
  (∀ (K : AV → Prop) rows, ev F y = .lit ti.size rows → bounds F rows.length lo' hi' mx' (fun l h _ => K (.lit ti.size ((rows.drop l).take (h - l)))) → ∃ v, OpT P o F σ v σ ∧ K v) ∧
  (∀ (K : AV → Prop) b off n rows, ev F y = .sl b off n → σ.blk b = some (.cells ti.size rows) → bounds F n lo' hi' mx' (fun l h _ => K (.sl b (off + l) (h - l))) → ∃ v, OpT P o F σ v σ ∧ K v) := by
 have huse : ∀ {e : Env} {a : Act}, (∀ t, uses o t → VR e (F t) (a.tmps.getD t Go.undef)) → ∀ z, lo = some z ∨ hi = some z ∨ mx = some z → ∀ z', od z = some z' → VR e (ev F z') (a.eval z) := by
  intro e a hf z hz z' hz'
  refine use1 hf ?_ hz'
  rw [ho]
  rcases hz with rfl | rfl | rfl <;> simp [Op.operands]
 have hmx' : mx.isSome = mx'.isSome := by
  cases mx with
  | none => simp [odO] at hmx; simp [← hmx]
  | some q => simp [odO] at hmx; obtain ⟨q', _, rfl⟩ := hmx; rfl
 have hhi' : hi'.isNone = hi.isNone := by
  cases hi with
  | none => simp [odO] at hhi; simp [← hhi]
  | some q => simp [odO] at hhi; obtain ⟨q', _, rfl⟩ := hhi; rfl
 refine ⟨fun K hy hb => ?_, fun K rows hy hb => ?_, fun K b off n rows hy hbk hb => ?_⟩
 ·obtain ⟨l, hh, hK, h1, h2, h3, h4⟩ := bounds_ok hlo hhi hmx hb
  refine ⟨_, .of_pure fun W0 e a w hr hf => ?_, hK⟩
  have hv := use1 hf (x := x) (by simp [ho, Op.operands]) h
  rw [hy] at hv
  generalize hvx : a.eval x = v at hv
  cases hv
  have hr2 := run_slice (P := P) w ht hti none 0 0 _ _ _ _ _ _ (h4 e a w true 0 (Nat.le_refl _) (huse hf))
  refine ⟨_, .nils, ?_⟩
  have e1 : hh = 0 := by omega
  have e2 : l = 0 := by omega
  subst e1; subst e2
  simp at hr2
  simp [execOp, ho, hvx, hr2]
 ·obtain ⟨l, hh, hK, h1, h2, h3, h4⟩ := bounds_ok hlo hhi hmx hb
  refine ⟨_, .of_pure fun W0 e a w hr hf => ?_, hK⟩
  have hv := use1 hf (x := x) (by simp [ho, Op.operands]) h
  rw [hy] at hv
  have hsl : ∃ ad cap, a.eval x = .slice ad rows.length cap ∧ rows.length ≤ cap := by
   generalize a.eval x = v at hv
   cases hv with
   | lit0 _ a cap hz => exact ⟨_, cap, rfl, Nat.zero_le _⟩
   | lit _ _ kk off cap c hk hc => exact ⟨_, cap, rfl, hc⟩
  obtain ⟨ad, cap, hvx, hcap⟩ := hsl
  rw [hvx] at hv
  have hr2 := run_slice (P := P) w ht hti ad rows.length cap _ _ _ _ _ _ (h4 e a w true cap hcap (huse hf))
  refine ⟨_, hv.litCut h1 h2 (m := if mx.isSome = true then hh else cap) (by split <;> omega) (by split <;> omega), by simp only [execOp, ho, hvx, Sem.run_bind, hr2]; rfl⟩
 ·obtain ⟨l, hh, hK, h1, h2, h3, h4⟩ := bounds_ok hlo hhi hmx hb
  refine ⟨_, .of_pure fun W0 e a w hr hf => ?_, hK⟩
  have hv := use1 hf (x := x) (by simp [ho, Op.operands]) h
  rw [hy] at hv
  have hsl : ∃ ad cap q, a.eval x = .slice ad n cap ∧ n ≤ cap ∧ e.ι b = some q := by
   generalize a.eval x = v at hv
   cases hv with
   | sl _ _ _ cap q hq hqv hc => exact ⟨_, cap, q, rfl, hc, hq⟩
   | sl0 _ _ ad q hq => exact ⟨ad, 0, q, rfl, Nat.le_refl _, hq⟩
  obtain ⟨ad, cap, q, hvx, hcap, hq⟩ := hsl
  rw [hvx] at hv
  obtain ⟨r1, _⟩ := hr.cellsAt hbk hq
  have hr2 := run_slice (P := P) w ht hti ad n cap _ _ _ _ _ _ (h4 e a w true cap hcap (huse hf))
  have hv2 := hv.slCut hq h1 h2 (m := if mx.isSome = true then hh else cap) (by split <;> omega) (by split <;> omega)
  rw [r1] at hv2
  exact ⟨_, hv2, by simp only [execOp, ho, hvx, Sem.run_bind, hr2]; rfl⟩

theorem ok_sc_str {t : TypeId} {x : Operand} {y : Od} {lo hi : Option Operand} {lo' hi' : Option Od} (ho : o.op = .slice t x lo hi none) (ht : P.underlying t = some .string)
  (h : od x = some y) (hlo : odO lo = some lo') (hhi : odO hi = some hi') {K : AV → Prop} {s : ByteArray} (hy : ev F y = .str s) (hb : bounds F s.size lo' hi' none fun l h _ => K (.str (s.extract l h))) : ∃ v, OpT P o F σ v σ ∧ K v := by
 obtain ⟨l, hh, hK, h1, h2, h3, h4⟩ := bounds_ok (P := P) (mx := none) hlo hhi (by rfl) hb
 refine ⟨_, .of_pure fun W0 e a w hr hf => ?_, hK⟩
 have hv := use1 hf (x := x) (by simp [ho, Op.operands]) h
 rw [hy] at hv
 generalize hvx : a.eval x = v at hv
 cases hv
 have hr2 := h4 e a w false s.size (Nat.le_refl _) (fun z hz z' hz' => use1 hf (by
  rw [ho]
  rcases hz with rfl | rfl | hz
  ·simp [Op.operands]
  ·simp [Op.operands]
  ·cases hz) hz')
 simp only [Option.map_none] at hr2
 exact ⟨_, .str _, by simp [execOp, ho, hvx, Instr.sliceAt, Instr.slice, run_underlying ht, hr2]⟩

end
section
variable {P : Program} {o : Oper} {F : Fr} {σ : St} {W0 : World} {e : Env} {w : World}

/-- A block in another one's place. -/
theorem Rel.renew (h : Rel W0 e σ w) {b : Nat} {B0 : Blk} (hb0 : σ.blk b = some B0) {x : Pl} (hx : e.ι b = some x) (hxv : x.v = false) {w1 : World}
  (hw : ∀ k, k ≠ x.k → w1.heap[k]? = w.heap[k]?) (hs : w.heap.size ≤ w1.heap.size) (hb : Below W0.heap.size W0 w1) {x' : Pl} (hk' : x'.k = x.k) (hv' : x'.v = false) (B : Blk) (hB : BlkRel (e.own σ.next x') w1 x' B) :
  Rel W0 (e.own σ.next x') ((σ.kill b).push B) w1 := by
 obtain ⟨x0, hx0, hHx0, _⟩ := h.own b B0 hb0
 rw [hx] at hx0; cases hx0
 have hHx := hHx0 hxv
 have hin := h.inn b x hx hxv
 have hap : ∀ b' B' y, b' ≠ b → σ.blk b' = some B' → e.ι b' = some y → y.v = false → y.k ≠ x.k := fun b' B' y hne h1 h2 hv => h.apart b' b B' B0 y x h1 hb0 hne h2 hx hv hxv
 have l := Env.le_own h.fresh x'
 have hk : ∀ b' B', ((σ.kill b).push B).blk b' = some B' → (b' = σ.next ∧ B' = B) ∨ (b' ≠ σ.next ∧ b' ≠ b ∧ σ.blk b' = some B') := by
  intro b' B' h1
  change (if b' = σ.next then some B else (if b' = b then none else σ.blk b')) = some B' at h1
  by_cases he : b' = σ.next
  ·rw [if_pos he] at h1; cases h1; exact .inl ⟨he, rfl⟩
  ·rw [if_neg he] at h1
   by_cases hne : b' = b
   ·rw [if_pos hne] at h1; cases h1
   ·rw [if_neg hne] at h1; exact .inr ⟨he, hne, h1⟩
 refine ⟨hb, ?_, ?_, ?_, ?_, ?_⟩
 ·intro b' y hy
  simp only [Env.own] at hy
  split at hy
  ·simp only [St.push, St.kill]; omega
  ·have := h.dom b' y hy; simp only [St.push, St.kill]; omega
 ·intro k c hkc
  obtain ⟨t, fr, h1⟩ := h.fro k c hkc
  refine ⟨t, fr, (hw k ?_).trans h1⟩
  rintro rfl
  have : e.H x.k = some c := hkc
  rw [hHx] at this; cases this
 ·intro b' y hy hv
  simp only [Env.own] at hy
  split at hy
  ·cases hy; rw [hk']; exact ⟨hin.1, by omega⟩
  ·have := h.inn b' y hy hv; exact ⟨this.1, by omega⟩
 ·intro b' B' hB'
  rcases hk b' B' hB' with ⟨rfl, rfl⟩ | ⟨h1, h2, h3⟩
  ·exact ⟨x', by simp [Env.own], fun _ => by rw [hk']; exact hHx, hB⟩
  ·obtain ⟨y, g1, g2, g3⟩ := h.own b' B' h3
   exact ⟨y, by simp [Env.own, h1, g1], g2, g3.mono l (fun hv => hw _ (hap b' B' y h2 h3 g1 hv))⟩
 ·intro b1 b2 B1 B2 y1 y2 h1 h2 hne h3 h4 v3 v4
  simp only [Env.own] at h3 h4
  rcases hk b1 B1 h1 with ⟨rfl, rfl⟩ | ⟨p1, p2, p3⟩ <;> rcases hk b2 B2 h2 with ⟨rfl, rfl⟩ | ⟨q1, q2, q3⟩
  ·exact absurd rfl hne
  ·rw [if_pos rfl] at h3; rw [if_neg q1] at h4; cases h3
   rw [hk']; exact (hap b2 B2 y2 q2 q3 h4 v4).symm
  ·rw [if_neg p1] at h3; rw [if_pos rfl] at h4; cases h4
   rw [hk']; exact hap b1 B1 y1 p2 p3 h3 v3
  ·rw [if_neg p1] at h3; rw [if_neg q1] at h4
   exact h.apart b1 b2 B1 B2 y1 y2 p3 q3 hne h3 h4 v3 v4

/-- What is appended: its cells, where it is not nothing. -/
theorem src_ok (hr : Rel W0 e σ w) {sz : Nat} {a : AV} {v : Value} (hv : VR e a v) {ys : List (List AV)} (hys : rowsOf σ sz a = some ys) : ∃ ad cap, v = .slice ad ys.length cap ∧ (∀ i, i < ys.length → (ys.getD i []).length = sz) ∧
  (ys ≠ [] → ∃ (ax : Addr) (news : List Value), ad = some ax ∧ news.length = ys.length * sz ∧ (∀ (j : Nat) (u : Value), news[j]? = some u → w.cell? (ax.add j) = some u) ∧ (∀ u ∈ news, u.oneCell' = true) ∧
   ∀ i j, i < ys.length → j < sz → VR e ((ys.getD i []).getD j .undef) (news.getD (i * sz + j) Go.undef)) := by
 have frame : ∀ (k off : Nat) (c : Array Value) (t : TypeId) (fr : Nat × Nat), w.heap[k]? = some (.cells c t fr) → off + ys.length * sz ≤ c.size →
   (∀ i j, i < ys.length → j < sz → (c.getD (off + i * sz + j) Go.undef).oneCell' = true ∧ VR e ((ys.getD i []).getD j .undef) (c.getD (off + i * sz + j) Go.undef)) →
   ∃ (ax : Addr) (news : List Value), (some (⟨k, off, none⟩ : Addr)) = some ax ∧ news.length = ys.length * sz ∧ (∀ (j : Nat) (u : Value), news[j]? = some u → w.cell? (ax.add j) = some u) ∧ (∀ u ∈ news, u.oneCell' = true) ∧
   ∀ i j, i < ys.length → j < sz → VR e ((ys.getD i []).getD j .undef) (news.getD (i * sz + j) Go.undef) := by
  intro k off c t fr hk hs h
  have hget : ∀ j, j < ys.length * sz → ((List.range (ys.length * sz)).map fun j => c.getD (off + j) Go.undef).getD j Go.undef = c.getD (off + j) Go.undef := by
   intro j hj; simp [List.getD_eq_getElem?_getD, hj]
  refine ⟨⟨k, off, none⟩, (List.range (ys.length * sz)).map fun j => c.getD (off + j) Go.undef, rfl, by simp, fun j u hu => ?_, fun u hu => ?_, fun i j hi hj => ?_⟩
  ·have hj : j < ys.length * sz := by
    have := (List.getElem?_eq_some_iff.1 hu).1; simpa using this
   simp [hj] at hu
   have hlt : off + j < c.size := by omega
   rw [Addr.add_lit]
   simp [World.cell?, hk, hlt]
   simpa [hlt] using hu
  ·simp only [List.mem_map, List.mem_range] at hu
   obtain ⟨j, hj, rfl⟩ := hu
   have hsz : 0 < sz := Nat.pos_of_ne_zero (by rintro rfl; simp at hj)
   have := (h (j / sz) (j % sz) ((Nat.div_lt_iff_lt_mul hsz).2 hj) (Nat.mod_lt _ hsz)).1
   rwa [Nat.add_assoc, Nat.mul_comm, Nat.div_add_mod] at this
  ·rw [hget _ (row_in hi hj), ← Nat.add_assoc]; exact (h i j hi hj).2
 cases hv with
 | nils => simp [rowsOf] at hys; subst hys; exact ⟨_, _, rfl, fun i hi => absurd hi (by simp), fun h => absurd rfl h⟩
 | emp f z a cap hf => simp [rowsOf] at hys; subst hys; exact ⟨_, _, rfl, fun i hi => absurd hi (by simp), fun h => absurd rfl h⟩
 | lit0 z a cap hz =>
  simp only [rowsOf] at hys; split at hys
  ·cases hys; exact ⟨_, _, rfl, fun i hi => absurd hi (by simp), fun h => absurd rfl h⟩
  ·cases hys
 | lit z rows k off cap c hk hc hm hrr hs hoc hh =>
  simp only [rowsOf] at hys; split at hys
  ·rename_i hz; cases hys; subst hz
   obtain ⟨t, fr, hkw⟩ := hr.fro k c hk
   exact ⟨_, _, rfl, hrr, fun _ => frame k off c t fr hkw hs fun i j hi hj => ⟨hoc i j hi hj, hh i j hi hj⟩⟩
  ·cases hys
 | sl b off n cap x hx hxv hc hm ht =>
  simp only [rowsOf] at hys
  split at hys
  ·rename_i s rows hb
   split at hys
   ·rename_i hz; cases hys
    obtain ⟨rfl, hon⟩ := hz
    obtain ⟨r1, r2, r3, r4⟩ := hr.cellsAt hb hx
    obtain ⟨c, t, r5, r6, r7, r8⟩ := r4 hxv
    have hlen : ((rows.drop off).take n).length = n := by simp; omega
    subst r1
    refine ⟨_, cap, by rw [hlen], fun i hi => ?_, fun _ => ?_⟩
    ·rw [hlen] at hi; rw [take_get _ _ _ _ hi]; exact r2 _ (by omega)
    ·refine frame x.k (x.o + off * x.sz) c t (0, 0) r5 ?_ (fun i j hi hj => ?_)
     ·rw [hlen]
      have := Nat.mul_le_mul_right x.sz hon
      rw [Nat.add_mul] at this; omega
     ·rw [hlen] at hi
      have := r8 (off + i) j (by omega) hj
      rw [Nat.add_mul] at this
      rw [take_get _ _ _ _ hi]
      rwa [show x.o + off * x.sz + i * x.sz + j = x.o + (off * x.sz + i * x.sz) + j by omega]
   ·cases hys
  ·cases hys
 | sl0 b off a x hx =>
  simp only [rowsOf] at hys
  split at hys
  ·split at hys
   ·cases hys
    simp only [List.take_zero]
    exact ⟨_, _, rfl, fun i hi => absurd hi (by simp), fun h => absurd rfl h⟩
   ·cases hys
  ·cases hys
 | _ => simp [rowsOf] at hys

/-- An empty row without memory. -/
theorem Rel.virt (hr : Rel W0 e σ w) (sz : Nat) : e.le (e.own σ.next ⟨0, 0, sz, 0, true⟩) ∧ (e.own σ.next ⟨0, 0, sz, 0, true⟩).ι σ.next = some ⟨0, 0, sz, 0, true⟩ ∧ Rel W0 (e.own σ.next ⟨0, 0, sz, 0, true⟩) (σ.push (.cells sz [])) w :=
 ⟨Env.le_own hr.fresh _, by simp [Env.own], hr.push (fun _ _ => rfl) (Nat.le_refl _) hr.below _ (fun h => by cases h) _
  ⟨rfl, fun i hi => absurd hi (by simp), by simp [most], fun _ => rfl, fun h => by cases h⟩⟩

theorem run_append_none {t ty el : TypeId} {ti : TypeInfo} (hu : P.underlying t = some (.slice el)) (hi : P.info? el = some ti) (ad as : Option Addr) (n cap c : Nat) (hn : n ≤ cap) :
  (Builtin.append_ #[t, t] ty #[.slice ad n cap, .slice as 0 c]).run P w = .ok (.slice ad n cap) w := by
 cases ad <;> cases as <;> simp [Builtin.append_, run_underlying hu, sizeOf, typeInfo, hi, Builtin.lenOf, hn, Builtin.firstCells, loadCells, loadCellsFrom, storeCells]

theorem rr_append {sz n : Nat} {xs ys : List (List AV)} (h1 : ∀ i, i < xs.length → (xs.getD i []).length = sz) (h2 : ∀ i, i < ys.length → (ys.getD i []).length = sz) (hn : xs.length = n) :
  (∀ i, i < (xs ++ ys).length → ((xs ++ ys).getD i []).length = sz) ∧ ∀ i, (xs ++ ys).getD i [] = if i < n then xs.getD i [] else ys.getD (i - n) [] := by
 have hg : ∀ i, (xs ++ ys).getD i [] = if i < n then xs.getD i [] else ys.getD (i - n) [] := by
  intro i
  simp only [List.getD_eq_getElem?_getD]
  by_cases h : i < n
  ·rw [if_pos h, List.getElem?_append_left (by omega)]
  ·rw [if_neg h, List.getElem?_append_right (by omega), hn]
 refine ⟨fun i hi => ?_, hg⟩
 rw [hg]
 split
 ·exact h1 i (by omega)
 ·rw [List.length_append] at hi; exact h2 _ (by omega)

/-- Where there is no room: a new row. -/
theorem grow_ok (hr : Rel W0 e σ w) {t ty el : TypeId} {ti : TypeInfo} {z : Value} (hu : P.underlying t = some (.slice el)) (hi : P.info? el = some ti) (hz : ti.zero = some z) (hzs : z.cells.size = ti.size)
  {ad : Option Addr} {n cap : Nat} {xs : List (List AV)} (hn : xs.length = n) (hxl : ∀ i, i < xs.length → (xs.getD i []).length = ti.size)
  (hsrc : xs ≠ [] → ∃ (ax : Addr) (olds : List Value), ad = some ax ∧ olds.length = n * ti.size ∧ (∀ (j : Nat) (u : Value), olds[j]? = some u → w.cell? (ax.add j) = some u) ∧ (∀ u ∈ olds, u.oneCell' = true) ∧
   ∀ i j, i < xs.length → j < ti.size → VR e ((xs.getD i []).getD j .undef) (olds.getD (i * ti.size + j) Go.undef))
  (hnone : ad = none → cap = 0) {ys : List (List AV)} (hyl : ∀ i, i < ys.length → (ys.getD i []).length = ti.size) {as : Addr} {c : Nat} {news : List Value} (hnl : news.length = ys.length * ti.size)
  (hnc : ∀ (j : Nat) (u : Value), news[j]? = some u → w.cell? (as.add j) = some u) (hno : ∀ u ∈ news, u.oneCell' = true)
  (hnv : ∀ i j, i < ys.length → j < ti.size → VR e ((ys.getD i []).getD j .undef) (news.getD (i * ti.size + j) Go.undef))
  (hcap : cap < n + ys.length) (hm : n + ys.length ≤ most) (hb : (n + ys.length) * ti.bytes ≤ most) :
  ∃ e' v' w', e.le e' ∧ Rel W0 e' (σ.push (.cells ti.size (xs ++ ys))) w' ∧ VR e' (.sl σ.next 0 (n + ys.length)) v' ∧
   (Builtin.append_ #[t, t] ty #[.slice ad n cap, .slice (some as) ys.length c]).run P w = .ok v' w' ∧ (∀ k, k < w.heap.size → w'.heap[k]? = w.heap[k]?) := by
 simp only [most] at hm hb
 have hcg := grownCap_ge w (n + ys.length) cap el
 -- what was there, as a list
 obtain ⟨olds, hol, hoc, hov, hrun⟩ : ∃ olds : List Value, olds.length = n * ti.size ∧ (∀ u ∈ olds, u.oneCell' = true) ∧ (∀ i j, i < xs.length → j < ti.size → VR e ((xs.getD i []).getD j .undef) (olds.getD (i * ti.size + j) Go.undef)) ∧
   (Builtin.append_ #[t, t] ty #[.slice ad n cap, .slice (some as) ys.length c]).run P w = .ok (.slice (some ⟨w.heap.size, 0, none⟩) (n + ys.length) (grownCap w (n + ys.length) cap el))
    (w.drew.alloc (.cells (olds.toArray ++ news.toArray ++ Builtin.zeroCells z.cells (grownCap w (n + ys.length) cap el - (n + ys.length))) el)) := by
  by_cases hx : xs = []
  ·subst hx
   obtain rfl : n = 0 := by simpa using hn.symm
   refine ⟨[], by simp, by simp, fun i j hi => absurd hi (by simp), ?_⟩
   cases ad with
   | none =>
    obtain rfl := hnone rfl
    have := run_append_nil (P := P) w t ty el ti z hu hi hz as ys.length c news hnl hnc (by omega) (by omega) (by have hb' := hb; simp only [Nat.zero_add] at hb'; omega)
    simpa using this
   | some ax =>
    have := run_append_grow (P := P) w t ty el ti z hu hi hz ax 0 cap [] (by simp) (by simp) as ys.length c news hnl hnc hcap (by omega) (growslice_fits hcap hb)
    exact this
  ·obtain ⟨ax, olds, rfl, g1, g2, g3, g4⟩ := hsrc hx
   exact ⟨olds, g1, g3, g4, run_append_grow (P := P) w t ty el ti z hu hi hz ax n cap olds g1 g2 as ys.length c news hnl hnc hcap (by omega) (growslice_fits hcap hb)⟩
 obtain ⟨hl, hg⟩ := rr_append hxl hyl hn
 have hsz : ∀ k : Nat, (olds.toArray ++ news.toArray ++ Builtin.zeroCells z.cells k).size = (n + ys.length) * ti.size + k * z.cells.size := by
  intro k
  simp only [Array.size_append, List.size_toArray, size_zeroCells, hol, hnl, ← Nat.add_mul]
 have hget : ∀ (k m : Nat), m < (n + ys.length) * ti.size → (olds.toArray ++ news.toArray ++ Builtin.zeroCells z.cells k).getD m Go.undef = if m < n * ti.size then olds.getD m Go.undef else news.getD (m - n * ti.size) Go.undef := by
  intro k m hm
  rw [Nat.add_mul] at hm
  simp only [Array.getD_eq_getD_getElem?, List.getD_eq_getElem?_getD]
  rw [Array.getElem?_append_left (by simp [hol, hnl]; omega)]
  by_cases h : m < n * ti.size
  ·rw [if_pos h, Array.getElem?_append_left (by simp [hol]; omega)]; simp
  ·rw [if_neg h, Array.getElem?_append_right (by simp [hol]; omega)]; simp [hol]
 have hm2 : More w (w.drew.alloc (.cells (olds.toArray ++ news.toArray ++ Builtin.zeroCells z.cells (grownCap w (n + ys.length) cap el - (n + ys.length))) el)) (.cells (olds.toArray ++ news.toArray ++ Builtin.zeroCells z.cells (grownCap w (n + ys.length) cap el - (n + ys.length))) el (0, 0)) := ⟨rfl, rfl, rfl, rfl⟩
 obtain ⟨l, hx, hR⟩ := push_cells hr hm2 (sz := ti.size) (rows := xs ++ ys) hl (by rw [List.length_append, hn]; simp only [most]; omega) (by rw [hsz, List.length_append, hn]; omega) (fun i j hi hj => by
  rw [List.length_append, hn] at hi
  have hin := row_in hi hj
  rw [hget _ _ hin, hg]
  by_cases hin' : i < n
  ·have hin2 := row_in hin' hj
   rw [if_pos hin2, if_pos hin']
   refine ⟨?_, hov i j (by omega) hj⟩
   rw [getD_lt _ _ _ (by rw [hol]; exact hin2)]
   exact hoc _ (List.getElem_mem _)
  ·have hge : n * ti.size ≤ i * ti.size := Nat.mul_le_mul_right _ (by omega)
   rw [if_neg (by omega), if_neg hin']
   have he : i * ti.size + j - n * ti.size = (i - n) * ti.size + j := by rw [Nat.sub_mul]; omega
   have hin2 : (i - n) * ti.size + j < ys.length * ti.size := row_in (by omega) hj
   rw [he]
   refine ⟨?_, hnv (i - n) j (by omega) hj⟩
   rw [getD_lt _ _ _ (by rw [hnl]; exact hin2)]
   exact hno _ (List.getElem_mem _))
 refine ⟨_, .slice (some ⟨w.heap.size, 0, none⟩) (n + ys.length) (grownCap w (n + ys.length) cap el), _, l, hR, ?_, hrun, hm2.old⟩
 have := VR.sl σ.next 0 (n + ys.length) (grownCap w (n + ys.length) cap el) _ hx rfl hcg (by simp only [most]; omega) (by
  simp only [hsz, hzs, Nat.zero_add, ← Nat.add_mul]
  exact Nat.mul_le_mul_right _ (by omega))
 simpa using this

theorem push_kill {σ : St} {b : Nat} (h : b ≠ σ.next) (B : Blk) : (σ.push B).kill b = (σ.kill b).push B := by
 unfold St.push St.kill
 simp only
 congr 1
 funext b'
 by_cases e1 : b' = b <;> by_cases e2 : b' = σ.next <;> simp_all

theorem ok_ap {t el : TypeId} {ti : TypeInfo} {z : Value} {x y : Operand} {x' y' : Od} (ho : o.op = .call { callee := .builtin .append, args := #[x, y], argTypes := #[t, t] }) (ht : elemOf' P t = some el) (hi : P.info? el = some ti)
  (hz : ti.zero = some z) (hzs : z.cells.size = ti.size) (hx : od x = some x') (hy : od y = some y') {ys : List (List AV)} (hys : rowsOf σ ti.size (ev F y') = some ys) :
  ((ev F x' = .nils ∨ ∃ s, ev F x' = .emp true s) → ys.length ≤ most → ys.length * ti.bytes ≤ most → OpT P o F σ (.sl σ.next 0 ys.length) (σ.push (.cells ti.size ys))) ∧
  (∀ b off n rows, ev F x' = .sl b off n → σ.blk b = some (.cells ti.size rows) → off + n ≤ rows.length → n + ys.length ≤ most → (n + ys.length) * ti.bytes ≤ most →
   OpT P o F σ (.sl σ.next 0 (n + ys.length)) ((σ.kill b).push (.cells ti.size ((rows.drop off).take n ++ ys)))) := by
 have hu := elem_of ht
 -- the run of the operation
 have hop : ∀ (a : Act) (w : World) (vx vy rv : Value) (w' : World), a.eval x = vx → a.eval y = vy → (Builtin.append_ #[t, t] o.type #[vx, vy]).run P w = .ok rv w' → (execOp a.eval o).run P w = .ok (.value rv) w' := by
  intro a w vx vy rv w' h1 h2 h3
  simp [execOp, ho, resolve, invoke, builtin, h1, h2, h3]
 have empties : ∀ (W0 : World) (e : Env) (a : Act) (w : World) (ad : Option Addr), Rel W0 e σ w → a.eval x = .slice ad 0 0 → VR e (ev F y') (a.eval y) → ys.length ≤ most → ys.length * ti.bytes ≤ most →
   ∃ e' v' w', e.le e' ∧ Rel W0 e' (σ.push (.cells ti.size ys)) w' ∧ VR e' (.sl σ.next 0 ys.length) v' ∧ (execOp a.eval o).run P w = .ok (.value v') w' := by
  intro W0 e a w ad hr hvx hvy hm hb
  obtain ⟨ay, cy, hvy', hyl, hsrc⟩ := src_ok hr hvy hys
  by_cases hne : ys = []
  ·subst hne
   obtain ⟨l, h1, h2⟩ := hr.virt ti.size
   exact ⟨_, _, w, l, h2, .sl0 _ _ ad _ h1, hop a w _ _ _ _ hvx hvy' (run_append_none hu hi ad ay 0 0 cy (Nat.le_refl _))⟩
  ·obtain ⟨ax, news, rfl, g1, g2, g3, g4⟩ := hsrc hne
   have hpos : 0 < ys.length := List.length_pos_iff.2 hne
   obtain ⟨e', v', w', l, h1, h2, h3, _⟩ := grow_ok (ty := o.type) hr hu hi hz hzs (ad := ad) (n := 0) (cap := 0) (xs := []) rfl (fun i hi => absurd hi (by simp)) (fun h => absurd rfl h) (fun _ => rfl) hyl g1 g2 g3 g4 (by omega) (by omega) (by simpa using hb)
   simp only [Nat.zero_add, List.nil_append] at h1 h2
   exact ⟨e', v', w', l, h1, h2, hop a w _ _ _ _ hvx hvy' h3⟩
 refine ⟨fun hnil hm hb => .of_run fun W0 e a w hr hf => ?_, fun b off n rows hsl hbk hon hm hb => .of_run fun W0 e a w hr hf => ?_⟩
 ·have hvx := use1 hf (x := x) (by simp [ho, Op.operands, Call.operands]) hx
  have hvy := use1 hf (x := y) (by simp [ho, Op.operands, Call.operands]) hy
  have : ∃ ad, a.eval x = .slice ad 0 0 := by
   generalize a.eval x = v at hvx
   rcases hnil with h | ⟨s, h⟩ <;> rw [h] at hvx
   ·cases hvx; exact ⟨none, rfl⟩
   ·cases hvx with
    | emp _ _ ad cap hf => obtain rfl := hf rfl; exact ⟨_, rfl⟩
  obtain ⟨ad, hv⟩ := this
  exact empties W0 e a w ad hr hv hvy hm hb
 ·have hvx := use1 hf (x := x) (by simp [ho, Op.operands, Call.operands]) hx
  have hvy := use1 hf (x := y) (by simp [ho, Op.operands, Call.operands]) hy
  rw [hsl] at hvx
  generalize hv : a.eval x = v at hvx
  cases hvx with
  | sl0 _ _ ad q hq =>
   simp only [Nat.zero_add, List.take_zero, List.nil_append] at *
   obtain ⟨e', v', w', l, h1, h2, h3⟩ := empties W0 e a w ad hr hv hvy hm hb
   refine ⟨e', v', w', l, ?_, h2, h3⟩
   have := h1.kill b
   have hlt := hr.lt hbk
   have hcomm : (σ.push (.cells ti.size ys)).kill b = (σ.kill b).push (.cells ti.size ys) := push_kill (by omega) _
   rwa [hcomm] at this
  | sl _ _ _ cap q hq hqv hc hmo htot =>
   obtain ⟨r1, r2, r3, r4⟩ := hr.cellsAt hbk hq
   obtain ⟨c, tc, r5, r6, r7, r8⟩ := r4 hqv
   obtain ⟨ay, cy, hvy', hyl, hsrc⟩ := src_ok hr hvy hys
   have hxlen : ((rows.drop off).take n).length = n := by simp; omega
   have hxl : ∀ i, i < ((rows.drop off).take n).length → (((rows.drop off).take n).getD i []).length = ti.size := by
    intro i hi
    rw [hxlen] at hi; rw [take_get _ _ _ _ hi]; exact r2 _ (by omega)
   have hxv : ∀ i j, i < n → j < ti.size → (c.getD (q.o + off * ti.size + i * ti.size + j) Go.undef).oneCell' = true ∧ VR e ((((rows.drop off).take n).getD i []).getD j .undef) (c.getD (q.o + off * ti.size + i * ti.size + j) Go.undef) := by
    intro i j hi hj
    have := r8 (off + i) j (by omega) hj
    rw [Nat.add_mul] at this
    rw [take_get _ _ _ _ hi]
    rwa [show q.o + off * ti.size + i * ti.size + j = q.o + (off * ti.size + i * ti.size) + j by omega]
   have hW := hr.inn b q hq hqv
   rw [r1] at htot
   -- in place: the same block, from its own first cell on
   have place : ∀ (w1 : World) (c1 : Array Value), w1.heap[q.k]? = some (.cells c1 tc (0, 0)) → c1.size = c.size → (∀ k, k ≠ q.k → w1.heap[k]? = w.heap[k]?) → w.heap.size ≤ w1.heap.size → Below W0.heap.size W0 w1 → n + ys.length ≤ cap →
     (∀ i j, i < n + ys.length → j < ti.size → (c1.getD (q.o + off * ti.size + i * ti.size + j) Go.undef).oneCell' = true ∧ VR e ((((rows.drop off).take n ++ ys).getD i []).getD j .undef) (c1.getD (q.o + off * ti.size + i * ti.size + j) Go.undef)) →
     ∃ e' v', e.le e' ∧ Rel W0 e' ((σ.kill b).push (.cells ti.size ((rows.drop off).take n ++ ys))) w1 ∧ VR e' (.sl σ.next 0 (n + ys.length)) v' ∧ v' = .slice (some ⟨q.k, q.o + off * ti.size, none⟩) (n + ys.length) cap := by
    intro w1 c1 p1 p2 p3 p4 p5 p6 p7
    have l := Env.le_own hr.fresh ⟨q.k, q.o + off * ti.size, ti.size, q.tot, false⟩
    obtain ⟨hl, hg⟩ := rr_append hxl hyl hxlen
    refine ⟨_, _, l, hr.renew hbk hq hqv p3 p4 p5 (x' := ⟨q.k, q.o + off * ti.size, ti.size, q.tot, false⟩) rfl rfl _ ?_, ?_, rfl⟩
    ·refine ⟨rfl, hl, by rw [List.length_append, hxlen]; exact hm, (fun h => by cases h), fun _ => ⟨c1, tc, p1, by rw [p2, r6], ?_, fun i j hi hj => ?_⟩⟩
     ·rw [List.length_append, hxlen]
      have := Nat.mul_le_mul_right ti.size p6
      rw [Nat.add_mul] at htot
      show q.o + off * ti.size + _ ≤ q.tot
      omega
     ·rw [List.length_append, hxlen] at hi
      have := p7 i j hi hj
      exact ⟨this.1, this.2.mono l⟩
    ·have := VR.sl (e := e.own σ.next ⟨q.k, q.o + off * ti.size, ti.size, q.tot, false⟩) σ.next 0 (n + ys.length) cap ⟨q.k, q.o + off * ti.size, ti.size, q.tot, false⟩ (by simp [Env.own]) rfl p6 hm (by
      rw [Nat.add_mul] at htot
      show q.o + off * ti.size + (0 + cap) * ti.size ≤ q.tot
      rw [Nat.zero_add]; omega)
     simpa using this
   by_cases hne : ys = []
   ·subst hne
    obtain ⟨e', v', l, h1, h2, rfl⟩ := place w c r5 rfl (fun _ _ => rfl) (Nat.le_refl _) hr.below (by simpa using hc) (fun i j hi hj => by
     have := hxv i j (by simpa using hi) hj
     simpa using this)
    refine ⟨e', _, w, l, h1, h2, hop a w _ _ _ _ hv hvy' ?_⟩
    rw [r1]
    have := run_append_none (P := P) (w := w) (ty := o.type) hu hi (some ⟨q.k, q.o + off * ti.size, none⟩) ay n cap cy hc
    simpa using this
   ·obtain ⟨ax, news, rfl, g1, g2, g3, g4⟩ := hsrc hne
    by_cases hroom : n + ys.length ≤ cap
    ·have hfit : q.o + off * ti.size + n * ti.size + news.length ≤ c.size := by
      rw [g1, r6]
      have := Nat.mul_le_mul_right ti.size hroom
      rw [Nat.add_mul] at this
      rw [Nat.add_mul] at htot
      omega
     have hfc := run_firstCells_some (P := P) w ti.size ys.length ax ys.length cy news g1 g2
     have hst := run_storeCells_at P q.k (q.o + off * ti.size + n * ti.size) tc news 0 c w r5 (by simpa using hfit) g3
     simp only [Nat.add_zero] at hst
     have hrun : (Builtin.append_ #[t, t] o.type #[.slice (some ⟨q.k, q.o + off * ti.size, none⟩) n cap, .slice (some ax) ys.length cy]).run P w =
       .ok (.slice (some ⟨q.k, q.o + off * ti.size, none⟩) (n + ys.length) cap) (w.setRow q.k (c.toList.take (q.o + off * ti.size + n * ti.size) ++ news ++ c.toList.drop (q.o + off * ti.size + n * ti.size + news.length)).toArray) := by
      simp [Builtin.append_, run_underlying hu, sizeOf, typeInfo, hi, Builtin.lenOf, hroom, hfc, Addr.add_lit]
      simp at hst
      simp [hst]
     obtain ⟨hl, hg⟩ := rr_append hxl hyl hxlen
     obtain ⟨e', v', l, h1, h2, rfl⟩ := place _ _ (setRow_heap w q.k c _ tc (0, 0) r5) (seg_size _ _ _ hfit) (fun k hk => setRow_other w q.k k _ hk) (by simp [World.setRow]) (below_setRow hr.below hW.1 _) hroom (fun i j hi hj => by
      rw [seg_get _ _ _ _ hfit, hg, g1]
      by_cases hin : i < n
      ·have hin2 := row_in hin hj
       rw [if_neg (by omega), if_pos hin]; exact hxv i j hin hj
      ·have hge : n * ti.size ≤ i * ti.size := Nat.mul_le_mul_right _ (by omega)
       have hin2 := row_in (show i - n < ys.length by omega) hj
       rw [Nat.sub_mul] at hin2
       rw [if_pos (by omega), if_neg hin]
       have he : q.o + off * ti.size + i * ti.size + j - (q.o + off * ti.size + n * ti.size) = (i - n) * ti.size + j := by rw [Nat.sub_mul]; omega
       rw [he]
       have hin3 : (i - n) * ti.size + j < news.length := by rw [g1]; exact row_in (by omega) hj
       refine ⟨?_, g4 (i - n) j (by omega) hj⟩
       rw [getD_lt _ _ _ hin3]
       exact g3 _ (List.getElem_mem _))
     refine ⟨e', _, _, l, h1, h2, hop a w _ _ _ _ hv hvy' ?_⟩
     rw [r1]; exact hrun
    ·obtain ⟨e', v', w', l, h1, h2, h3, h4⟩ := grow_ok (ty := o.type) hr hu hi hz hzs (ad := some ⟨q.k, q.o + off * q.sz, none⟩) (n := n) (cap := cap) (xs := (rows.drop off).take n) hxlen hxl (fun hx0 => by
       have hfit : q.o + off * ti.size + n * ti.size ≤ c.size := by
        have := Nat.mul_le_mul_right ti.size hon
        rw [Nat.add_mul] at this
        omega
       have hget : ∀ j, j < n * ti.size → ((List.range (n * ti.size)).map fun j => c.getD (q.o + off * ti.size + j) Go.undef).getD j Go.undef = c.getD (q.o + off * ti.size + j) Go.undef := by
        intro j hj; simp [List.getD_eq_getElem?_getD, hj]
       refine ⟨⟨q.k, q.o + off * q.sz, none⟩, (List.range (n * ti.size)).map fun j => c.getD (q.o + off * ti.size + j) Go.undef, rfl, by simp, fun j u hu => ?_, fun u hu => ?_, fun i j hi hj => ?_⟩
       ·have hj : j < n * ti.size := by
         have := (List.getElem?_eq_some_iff.1 hu).1; simpa using this
        simp [hj] at hu
        have hlt : q.o + off * ti.size + j < c.size := by omega
        rw [Addr.add_lit, r1]
        simp [World.cell?, r5, hlt]
        simpa [hlt] using hu
       ·simp only [List.mem_map, List.mem_range] at hu
        obtain ⟨j, hj, rfl⟩ := hu
        have hsz : 0 < ti.size := Nat.pos_of_ne_zero (by intro h0; rw [h0] at hj; simp at hj)
        have := (hxv (j / ti.size) (j % ti.size) ((Nat.div_lt_iff_lt_mul hsz).2 hj) (Nat.mod_lt _ hsz)).1
        rwa [Nat.add_assoc, Nat.mul_comm (j / ti.size), Nat.div_add_mod] at this
       ·rw [hxlen] at hi
        rw [hget _ (row_in hi hj), ← Nat.add_assoc]; exact (hxv i j hi hj).2) (fun h => by cases h) hyl g1 g2 g3 g4 (by omega) hm hb
     refine ⟨e', v', w', l, ?_, h2, hop a w _ _ _ _ hv hvy' h3⟩
     have := h1.kill b
     have hlt := hr.lt hbk
     have hcomm : (σ.push (.cells ti.size ((rows.drop off).take n ++ ys))).kill b = (σ.kill b).push (.cells ti.size ((rows.drop off).take n ++ ys)) := push_kill (by omega) _
     rwa [hcomm] at this

end
section
variable {P : Program} {o : Oper} {F : Fr} {σ : St}

theorem ktOf_none {t : TypeId} (h : ktOf P t = some none) : P.underlying t = some (.int .i64) := by
 unfold ktOf at h
 split at h
 ·assumption
 ·split at h <;> simp at h
 ·cases h
theorem ktOf_some {t : TypeId} {n : Nat} (h : ktOf P t = some (some n)) : ∃ el ie, P.underlying t = some (.array n el) ∧ P.underlying el = some (.int .i64) ∧ P.info? el = some ie ∧ ie.size = 1 := by
 unfold ktOf at h
 split at h
 ·cases h
 ·rename_i m el hu
  split at h
  ·rename_i hu2 hs
   cases h
   simp only [szOf, Option.map_eq_some_iff] at hs
   obtain ⟨ie, h1, h2⟩ := hs
   exact ⟨el, ie, hu, hu2, h1, h2⟩
  ·cases h
 ·cases h

theorem part_int (w : World) {el : TypeId} (hu : P.underlying el = some (.int .i64)) (q : List Int) (i : Nat) (hi : i < q.length) :
  (part el (q.map fun n => Value.int .i64 n).toArray i).run P w = .ok (.int .i64 (q.getD i 0)) w := by
 simp [part, isAgg, run_underlying hu, hi]

theorem key_check (w : World) {t : TypeId} {kt : Option Nat} (hk : ktOf P t = some kt) {q : List Int} (hq : keyOk kt q) (em : Bool) (n : Nat) : (Instr.checkKey em (n + 2) t (keyV kt q)).run P w = .ok () w := by
 cases kt with
 | none =>
  have hu := ktOf_none hk
  simp [Instr.checkKey, run_underlying hu, keyV]
 | some m =>
  obtain ⟨el, ie, hu, hu2, hi, hs⟩ := ktOf_some hk
  have hlen : q.length = m := hq
  simp only [Instr.checkKey, keyV, Sem.run_bind, run_underlying hu, Result.andThen_ok]
  simp only [Std.Legacy.Range.forIn_eq_forIn_range', Std.Legacy.Range.size, Nat.sub_zero, Nat.add_one_sub_one, Nat.div_one]
  have hall : ∀ i ∈ List.range' 0 m, i < q.length := by intro i hi; simp at hi; omega
  generalize List.range' 0 m = is at hall
  induction is with
  | nil => simp
  | cons j is ih =>
   have hj := hall j (by simp)
   have hp := part_int (P := P) w hu2 q j hj
   simp only [List.forIn_cons, Sem.run_bind, sizeOf, typeInfo, run_program, Result.andThen_ok, hi, Sem.run_pure, hs, Nat.mul_one, hp]
   simp only [Instr.checkKey, Sem.run_bind, run_underlying hu2, Result.andThen_ok, Sem.run_pure]
   simpa [sizeOf, typeInfo, hi, hs] using ih (fun i hi => hall i (by simp [hi]))

theorem eq_items (w : World) {el : TypeId} (hu : P.underlying el = some (.int .i64)) (d : Nat) (q q' : List Int) : ∀ is : List Nat, (∀ i ∈ is, i < q.length ∧ i < q'.length) →
  (Op.eqItems (d + 1) el 1 (q.map fun n => Value.int .i64 n).toArray (q'.map fun n => Value.int .i64 n).toArray is).run P w = .ok (decide (∀ i ∈ is, q.getD i 0 = q'.getD i 0)) w
 | [], _ => by simp [Op.eqItems]
 | j :: is, h => by
  obtain ⟨h1, h2⟩ := h j (by simp)
  have e1 := part_int (P := P) w hu q j h1
  have e2 := part_int (P := P) w hu q' j h2
  have e3 : (Op.equalIn (d + 1) el (.int .i64 (q.getD j 0)) (.int .i64 (q'.getD j 0))).run P w = .ok (q.getD j 0 == q'.getD j 0) w := by simp [Op.equalIn, run_underlying hu]
  simp only [Op.eqItems, Nat.mul_one, Sem.run_bind, e1, e2, e3, Result.andThen_ok]
  by_cases he : q.getD j 0 = q'.getD j 0
  ·have : (q.getD j 0 == q'.getD j 0) = true := by simpa using he
   simp only [this, Bool.not_true, Bool.false_eq_true, if_false]
   rw [eq_items w hu d q q' is (fun i hi => h i (by simp [hi]))]
   congr 1
   rw [decide_eq_decide]
   simp only [List.mem_cons, forall_eq_or_imp, he, true_and]
  ·have : (q.getD j 0 == q'.getD j 0) = false := by simpa using he
   simp only [this, Bool.not_false, if_true, Sem.run_pure]
   congr 1
   symm
   rw [decide_eq_false_iff_not]
   intro hh; exact he (hh j (by simp))

theorem key_equal (w : World) {t : TypeId} {n : Nat} (hk : ktOf P t = some (some n)) {q q' : List Int} (hq : q.length = n) (hq' : q'.length = n) : (Op.equal t (keyV (some n) q) (keyV (some n) q')).run P w = .ok (decide (q = q')) w := by
 obtain ⟨el, ie, hu, hu2, hi, hs⟩ := ktOf_some hk
 show (Op.equalIn (9999 + 1) t _ _).run P w = _
 rw [show keyV (some n) q = .agg (q.map fun n => Value.int .i64 n).toArray from rfl, show keyV (some n) q' = .agg (q'.map fun n => Value.int .i64 n).toArray from rfl]
 rw [run_equalIn_array w 9999 _ _ hu hi]
 have hc : P.cellsOf el = 1 := by simp [Program.cellsOf, hi, hs]
 rw [hc, eq_items w hu2 9998 q q' (List.range n) (fun i hi => by simp at hi; omega)]
 congr 1
 rw [decide_eq_decide]
 constructor
 ·intro h
  apply List.ext_getElem (by omega)
  intro i h1 h2
  have := h i (by simp; omega)
  simpa [List.getD_eq_getElem?_getD, h1, h2] using this
 ·rintro rfl i _; rfl

theorem find_asking (w : World) {t : TypeId} {n : Nat} (hk : ktOf P t = some (some n)) {q : List Int} (hq : q.length = n) : ∀ (es : List (List Int × AV)) (l : List MapEntry) (i : Nat), l.length = es.length →
  (∀ j, j < es.length → (es.getD j ([], .undef)).1.length = n ∧ (l.getD j default).key = keyV (some n) (es.getD j ([], .undef)).1) →
  (Instr.findAsking t (keyV (some n) q) l i).run P w = .ok ((mfind q es).map fun j => (i + j, (l.getD j default).val)) w
 | [], l, i, hl, _ => by
  have : l = [] := List.length_eq_zero_iff.1 (by simpa using hl)
  subst this; simp [Instr.findAsking, mfind]
 | e :: es, l, i, hl, h => by
  cases l with
  | nil => simp at hl
  | cons m l =>
   have h0 := h 0 (by simp)
   simp only [List.getD_cons_zero] at h0
   have he := key_equal (P := P) w hk hq h0.1
   rw [← h0.2] at he
   have ih := find_asking w hk hq es l (i + 1) (by simpa using hl) (fun j hj => by simpa using h (j + 1) (by simpa using hj))
   simp only [Instr.findAsking, Sem.run_bind, he, Result.andThen_ok]
   by_cases hqe : q = e.1
   ·subst hqe; simp [mfind]
   ·have : (decide (q = e.1)) = false := by simpa using hqe
    simp only [this, Bool.false_eq_true, if_false, ih]
    have hne : ¬ e.1 = q := fun h => hqe h.symm
    simp only [mfind, if_neg hne, Option.map_map]
    congr 1
    cases mfind q es with
    | none => rfl
    | some j => simp [Function.comp, Nat.add_assoc, Nat.add_comm 1 j]

theorem find_now : ∀ {q : Int} (es : List (List Int × AV)) (l : List MapEntry) (i : Nat), l.length = es.length →
  (∀ j, j < es.length → (es.getD j ([], .undef)).1.length = 1 ∧ (l.getD j default).key = keyV none (es.getD j ([], .undef)).1) →
  Instr.findNow (.int .i64) (.int .i64 q) l i = some ((mfind [q] es).map fun j => (i + j, (l.getD j default).val))
 | q, [], l, i, hl, _ => by
  have : l = [] := List.length_eq_zero_iff.1 (by simpa using hl)
  subst this; simp [Instr.findNow, mfind]
 | q, e :: es, l, i, hl, h => by
  cases l with
  | nil => simp at hl
  | cons m l =>
   have h0 := h 0 (by simp)
   simp only [List.getD_cons_zero] at h0
   have ih := find_now (q := q) es l (i + 1) (by simpa using hl) (fun j hj => by simpa using h (j + 1) (by simpa using hj))
   obtain ⟨x, hx⟩ := List.length_eq_one_iff.1 h0.1
   have hkey : m.key = .int .i64 x := by rw [h0.2, hx]; rfl
   simp only [Instr.findNow, hkey, Instr.sameNow, if_true, mfind, hx]
   by_cases hqe : q = x
   ·subst hqe; simp
   ·have : (q == x) = false := by simpa using hqe
    have hne : ¬ [x] = [q] := by simpa using fun h => hqe h.symm
    simp only [this, ih, if_neg hne, Option.map_map]
    congr 1
    cases mfind [q] es with
    | none => rfl
    | some j => simp [Function.comp, Nat.add_assoc, Nat.add_comm 1 j]

theorem find_key (w : World) {t : TypeId} {kt : Option Nat} (hk : ktOf P t = some kt) {q : List Int} (hq : keyOk kt q) (es : List (List Int × AV)) (l : List MapEntry) (hl : l.length = es.length)
  (h : ∀ j, j < es.length → keyOk kt (es.getD j ([], .undef)).1 ∧ (l.getD j default).key = keyV kt (es.getD j ([], .undef)).1) :
  (Instr.findKey t (keyV kt q) l).run P w = .ok ((mfind q es).map fun j => (j, (l.getD j default).val)) w := by
 cases kt with
 | none =>
  have hu := ktOf_none hk
  obtain ⟨x, rfl⟩ := List.length_eq_one_iff.1 (show q.length = 1 from hq)
  have := find_now (q := x) es l 0 hl h
  simp only [Nat.zero_add] at this
  simp only [Instr.findKey, Sem.run_bind, run_underlying hu, Result.andThen_ok]
  show (match Instr.findNow (.int .i64) (.int .i64 x) l 0 with | some r => pure r | none => Instr.findAsking t (.int .i64 x) l : Sem _).run P w = _
  rw [this]; rfl
 | some n =>
  obtain ⟨el, ie, hu, _⟩ := ktOf_some hk
  have := find_asking (P := P) w hk hq es l 0 hl h
  simp only [Nat.zero_add] at this
  simp only [Instr.findKey, Sem.run_bind, run_underlying hu, Result.andThen_ok]
  cases l with
  | nil =>
   have : es = [] := List.length_eq_zero_iff.1 (by simpa using hl.symm)
   subst this; simp [Instr.findNow, mfind]
  | cons m l =>
   have : Instr.findNow (.array n el) (keyV (some n) q) (m :: l) 0 = none := by simp [Instr.findNow, Instr.sameNow]
   rw [this]
   assumption

theorem mfind_lt {q : List Int} : ∀ {es : List (List Int × AV)} {i : Nat}, mfind q es = some i → i < es.length ∧ (es.getD i ([], .undef)).1 = q
 | [], i, h => by simp [mfind] at h
 | e :: es, i, h => by
  simp only [mfind] at h
  split at h
  ·rename_i he; cases h; exact ⟨by simp, by simpa using he⟩
  ·simp only [Option.map_eq_some_iff] at h
   obtain ⟨j, hj, rfl⟩ := h
   have := mfind_lt hj
   exact ⟨by simpa using this.1, by simpa using this.2⟩

theorem kA_ok {e : Env} {kt : Option Nat} {a : AV} {v : Value} (h : VR e a v) {q : List Int} (hq : kA kt a = some q) : keyOk kt q ∧ v = keyV kt q := by
 cases kt with
 | none =>
  unfold kA at hq
  split at hq
  ·cases hq; cases h; exact ⟨rfl, rfl⟩
  ·rename_i heq; cases heq
  ·cases hq
 | some n =>
  unfold kA at hq
  split at hq
  ·rename_i heq; cases heq
  ·rename_i m cs heq
   cases heq
   split at hq
   ·rename_i hlen
    cases h with
    | agg _ vs hl ho hh =>
     have hget := mapM_getA hq
     obtain ⟨hl2, hg⟩ := hget
     refine ⟨by show q.length = _; omega, ?_⟩
     show Value.agg vs = Value.agg (q.map fun n => Value.int .i64 n).toArray
     congr 1
     apply Array.ext
     ·simp; omega
     ·intro i h1 h2
      have hi : i < cs.length := by omega
      have h3 := hg i hi
      have h4 := hh i hi
      rw [agetD_lt _ _ _ h1] at h4
      unfold AV.num at h3
      split at h3
      ·rename_i k heq
       rw [heq] at h4
       cases h3' : vs[i] with
       | int kk nn =>
        rw [h3'] at h4; cases h4
        have hq : i < q.length := by omega
        simp only [List.getElem_toArray, List.getElem_map]
        cases h3
        simp [List.getD_eq_getElem?_getD, hq] at *
       | _ => rw [h3'] at h4; cases h4
      ·cases h3
   ·cases hq
  ·cases hq
where
 mapM_getA {cs : List AV} {q : List Int} (h : cs.mapM AV.num = some q) : q.length = cs.length ∧ ∀ i, i < cs.length → (cs.getD i .undef).num = some (q.getD i 0) := by
  induction cs generalizing q with
  | nil => simp at h; subst h; simp
  | cons c cs ih =>
   obtain ⟨x, xs, h1, h2, rfl⟩ := mapM_cons' _ _ _ h
   obtain ⟨i1, i2⟩ := ih h2
   refine ⟨by simp [i1], fun i hi => ?_⟩
   cases i with
   | zero => simpa using h1
   | succ i => simpa using i2 i (by simpa using hi)


/-- A map's block, in the model's memory. -/
theorem Rel.mapAt {W0 : World} {e : Env} {w : World} (hr : Rel W0 e σ w) {b : Nat} {kt : Option Nat} {es : List (List Int × AV)} (hb : σ.blk b = some (.map kt es)) {x : Pl} (hx : e.ι b = some x) :
  x.v = false ∧ ∃ ents, w.heap[x.k]? = some (.map ents es.length) ∧ ents.size = es.length ∧
   (∀ i (h : i < ents.size), ents[i].born = i ∧ keyOk kt (es.getD i ([], .undef)).1 ∧ ents[i].key = keyV kt (es.getD i ([], .undef)).1 ∧ VR e (es.getD i ([], .undef)).2 ents[i].val) := by
 obtain ⟨y, h1, _, h3⟩ := hr.own b _ hb
 rw [hx] at h1; cases h1
 exact h3

theorem getObj_map {w : World} {k : Nat} {ents : Array MapEntry} {c : Nat} (h : w.heap[k]? = some (.map ents c)) : (getObj k).run P w = .ok (.map ents c) w := by
 simp [getObj, Sem.run, h]

theorem lgetD (ents : Array MapEntry) (j : Nat) (h : j < ents.size) : ents.toList.getD j default = ents[j] := by simp [List.getD_eq_getElem?_getD, h]

theorem ok_lk {t kt0 el : TypeId} {x ix : Operand} {x' ix' : Od} {ok : Bool} {kt : Option Nat} {ti : TypeInfo} {z : Value} (ho : o.op = .lookup t x ix ok) (hu : P.underlying t = some (.map kt0 el)) (hk : ktOf P kt0 = some kt)
  (hti : P.info? el = some ti) (hz : ti.zero = some z) (hzo : cstOk z = true) (hx : od x = some x') (hix : od ix = some ix') {b : Nat} {es : List (List Int × AV)} {q : List Int}
  (hb0 : ev F x' = .map b) (hb : σ.blk b = some (.map kt es)) (hq : kA kt (ev F ix') = some q) :
  (∀ i, mfind q es = some i → OpT P o F σ (if ok = true then .tup [(es.getD i ([], .undef)).2, .bool true] else (es.getD i ([], .undef)).2) σ) ∧
  (mfind q es = none → OpT P o F σ (if ok = true then .tup [cst z, .bool false] else cst z) σ) := by
 have run : ∀ {W0 : World} {e : Env} {a : Act} {w : World}, Rel W0 e σ w → (∀ t, uses o t → VR e (F t) (a.tmps.getD t Go.undef)) → ∃ ents : Array MapEntry, (∀ i (h : i < ents.size), VR e (es.getD i ([], .undef)).2 ents[i].val) ∧ ents.size = es.length ∧
   (execOp a.eval o).run P w = (match mfind q es with
    | some i => .ok (.value (if ok = true then .tuple #[(ents.toList.getD i default).val, .bool true] else (ents.toList.getD i default).val)) w
    | none => .ok (.value (if ok = true then .tuple #[z, .bool false] else z)) w) := by
  intro W0 e a w hr hf
  have h1 := use1 hf (x := x) (by simp [ho, Op.operands]) hx
  have h2 := use1 hf (x := ix) (by simp [ho, Op.operands]) hix
  rw [hb0] at h1
  generalize hv : a.eval x = v at h1
  cases h1 with
  | map _ xb hxb hxv =>
   obtain ⟨_, ents, g1, g2, g3⟩ := hr.mapAt hb hxb
   obtain ⟨k1, k2⟩ := kA_ok h2 hq
   have hf := find_key (P := P) w hk k1 es ents.toList (by simpa using g2) (fun j hj => by
    have := g3 j (by omega)
    rw [lgetD _ _ (by omega)]; exact ⟨this.2.1, this.2.2.1⟩)
   have hc := key_check (P := P) w hk k1 ents.isEmpty 9998
   refine ⟨ents, fun i h => (g3 i h).2.2.2, g2, ?_⟩
   have hg := getObj_map (P := P) g1
   simp only [execOp, ho, hv, k2, Instr.lookup, Sem.run_bind, run_underlying hu, Result.andThen_ok, hg, Sem.run_pure, hc, hf]
   cases mfind q es with
   | some i => cases ok <;> simp
   | none => cases ok <;> simp [zeroValue, typeInfo, hti, hz]
 refine ⟨fun i hi => .of_pure fun W0 e a w hr hf => ?_, fun hn => .of_pure fun W0 e a w hr hf => ?_⟩
 ·obtain ⟨ents, h1, h2, h3⟩ := run hr hf
  simp only [hi] at h3
  have hlt := (mfind_lt hi).1
  have hv := h1 i (by omega)
  rw [lgetD ents i (by omega)] at h3
  refine ⟨_, ?_, h3⟩
  cases ok
  ·exact hv
  ·refine .tup _ _ rfl fun k hk => ?_
   match k, hk with
   | 0, _ => exact hv
   | 1, _ => exact .bool true
 ·obtain ⟨ents, h1, h2, h3⟩ := run hr hf
  simp only [hn] at h3
  refine ⟨_, ?_, h3⟩
  cases ok
  ·exact VR.cst hzo
  ·refine .tup _ _ rfl fun k hk => ?_
   match k, hk with
   | 0, _ => exact VR.cst hzo
   | 1, _ => exact .bool false

theorem sameBits_key (kt : Option Nat) (q : List Int) : Instr.sameBits 10000 (keyV kt q) (keyV kt q) = true := by
 cases kt with
 | none => simp [keyV, Instr.sameBits]
 | some n =>
  simp only [keyV, Instr.sameBits, beq_self_eq_true, Bool.true_and, List.all_eq_true]
  rintro ⟨x, y⟩ hm
  have hxy : ∀ (l : List Value) (x y : Value), (x, y) ∈ l.zip l → x = y ∧ x ∈ l := by
   intro l
   induction l with
   | nil => intro x y h; simp at h
   | cons a l ih =>
    intro x y h
    simp only [List.zip_cons_cons, List.mem_cons, Prod.mk.injEq] at h
    rcases h with ⟨rfl, rfl⟩ | h
    ·exact ⟨rfl, by simp⟩
    ·have := ih x y h; exact ⟨this.1, by simp [this.2]⟩
  obtain ⟨rfl, hx⟩ := hxy _ _ _ hm
  simp only [List.mem_map] at hx
  obtain ⟨k, _, rfl⟩ := hx
  simp [Instr.sameBits]

theorem ok_mu {t kt0 el : TypeId} {x ix y : Operand} {x' ix' y' : Od} {kt : Option Nat} (ho : o.op = .mapUpdate t x ix y) (hu : P.underlying t = some (.map kt0 el)) (hk : ktOf P kt0 = some kt)
  (hx : od x = some x') (hix : od ix = some ix') (hy : od y = some y') {b : Nat} {es : List (List Int × AV)} {q : List Int}
  (hb0 : ev F x' = .map b) (hb : σ.blk b = some (.map kt es)) (hq : kA kt (ev F ix') = some q) :
  (∀ i, mfind q es = some i → OpT P o F σ .undef (σ.set b (.map kt (es.set i (q, ev F y'))))) ∧ (mfind q es = none → OpT P o F σ .undef (σ.set b (.map kt (es ++ [(q, ev F y')])))) := by
 have common : ∀ {W0 : World} {e : Env} {a : Act} {w : World}, Rel W0 e σ w → (∀ t, uses o t → VR e (F t) (a.tmps.getD t Go.undef)) → ∃ (xb : Pl) (ents : Array MapEntry), e.ι b = some xb ∧ xb.v = false ∧ w.heap[xb.k]? = some (.map ents es.length) ∧ ents.size = es.length ∧ VR e (ev F y') (a.eval y) ∧ keyOk kt q ∧
   (∀ i (h : i < ents.size), ents[i].born = i ∧ keyOk kt (es.getD i ([], .undef)).1 ∧ ents[i].key = keyV kt (es.getD i ([], .undef)).1 ∧ VR e (es.getD i ([], .undef)).2 ents[i].val) ∧
   (execOp a.eval o).run P w = (match mfind q es with
    | some i => .ok .skip { w with heap := w.heap.setIfInBounds xb.k (.map (ents.modify i fun en => { en with key := keyV kt q, val := a.eval y }) es.length) }
    | none => .ok .skip { w with heap := w.heap.setIfInBounds xb.k (.map (ents.push { key := keyV kt q, val := a.eval y, born := es.length }) (es.length + 1)) }) := by
  intro W0 e a w hr hf
  have h1 := use1 hf (x := x) (by simp [ho, Op.operands]) hx
  have h2 := use1 hf (x := ix) (by simp [ho, Op.operands]) hix
  have h3 := use1 hf (x := y) (by simp [ho, Op.operands]) hy
  rw [hb0] at h1
  generalize hv : a.eval x = v at h1
  cases h1 with
  | map _ xb hxb hxv =>
   obtain ⟨_, ents, g1, g2, g3⟩ := hr.mapAt hb hxb
   obtain ⟨k1, k2⟩ := kA_ok h2 hq
   have hf := find_key (P := P) w hk k1 es ents.toList (by simpa using g2) (fun j hj => by
    have := g3 j (by omega)
    rw [lgetD _ _ (by omega)]; exact ⟨this.2.1, this.2.2.1⟩)
   have hc := key_check (P := P) w hk k1 false 9998
   have hg := getObj_map (P := P) g1
   refine ⟨xb, ents, hxb, hxv, g1, g2, h3, k1, g3, ?_⟩
   simp only [execOp, ho, hv, k2, Instr.mapUpdate, Sem.run_bind, run_underlying hu, Result.andThen_ok, hg, hc, hf]
   cases hfi : mfind q es with
   | none => simp [setObj, Sem.run, g1]
   | some i =>
    obtain ⟨hlt, hkey⟩ := mfind_lt hfi
    have hi : i < ents.size := by omega
    have hold : ((ents[i]?).map (·.key)).getD (keyV kt q) = keyV kt q := by
     have := (g3 i hi).2.2.1
     rw [hkey] at this
     simp [hi, this]
    simp only [Option.map_some, Sem.run_bind, Result.andThen_ok, hold, Instr.keyThatStays, sameBits_key, if_true, Sem.run_pure]
    simp [setObj, Sem.run, g1]
 have set_rel : ∀ {W0 : World} {e : Env} {w : World} {xb : Pl} {ents ents' : Array MapEntry} {es' : List (List Int × AV)}, Rel W0 e σ w → e.ι b = some xb → xb.v = false → w.heap[xb.k]? = some (.map ents es.length) → ents'.size = es'.length →
   (∀ i (h : i < ents'.size), ents'[i].born = i ∧ keyOk kt (es'.getD i ([], .undef)).1 ∧ ents'[i].key = keyV kt (es'.getD i ([], .undef)).1 ∧ VR e (es'.getD i ([], .undef)).2 ents'[i].val) →
   Rel W0 e (σ.set b (.map kt es')) { w with heap := w.heap.setIfInBounds xb.k (.map ents' es'.length) } := by
  intro W0 e w xb ents ents' es' hr hxb hxv g1 g2 g3
  have hW := hr.inn b xb hxb hxv
  refine hr.set (w1 := { w with heap := w.heap.setIfInBounds xb.k (.map ents' es'.length) }) hb hxb hxv (fun k hk => by simp [Array.getElem?_setIfInBounds, Ne.symm hk]) (by simp) ⟨hr.below.os, hr.below.tape, hr.below.output, by simpa using hr.below.size, fun k hk => ?_⟩ (.map kt es') ⟨hxv, ents', ?_, g2, g3⟩
  ·have : xb.k ≠ k := by omega
   simp only [Array.getElem?_setIfInBounds, if_neg this]
   exact hr.below.block k hk
  ·show (w.heap.setIfInBounds xb.k _)[xb.k]? = _
   rw [Array.getElem?_setIfInBounds_self_of_lt hW.2]
 refine ⟨fun i hi => ?_, fun hn => ?_⟩
 ·intro W0 e a w next Q hr hf hnext
  obtain ⟨xb, ents, c1, c2, c3, c4, c5, c6, c7, c8⟩ := common hr hf
  rw [hi] at c8
  obtain ⟨hlt, hkey⟩ := mfind_lt hi
  unfold Oper.wp
  rw [c8]
  refine hnext e Go.undef _ (.refl e) ?_ (.undef _)
  have := set_rel (ents' := ents.modify i fun en => { en with key := keyV kt q, val := a.eval y }) (es' := es.set i (q, ev F y')) hr c1 c2 c3 (by simpa using c4) (fun j hj => by
   have hj' : j < ents.size := by simpa using hj
   have hjs : j < es.length := by omega
   by_cases hij : i = j
   ·subst hij
    have h0 := c7 i hj'
    simp only [Array.getElem_modify, if_true]
    refine ⟨h0.1, ?_, ?_, ?_⟩ <;> simp [List.getD_eq_getElem?_getD, hjs]
    ·exact c6
    ·exact c5
   ·have h0 := c7 j hj'
    simp only [Array.getElem_modify, if_neg hij]
    have he : (es.set i (q, ev F y')).getD j ([], .undef) = es.getD j ([], .undef) := by
     simp [List.getD_eq_getElem?_getD, List.getElem?_set, hij]
    rw [he]; exact h0)
  simpa using this
 ·intro W0 e a w next Q hr hf hnext
  obtain ⟨xb, ents, c1, c2, c3, c4, c5, c6, c7, c8⟩ := common hr hf
  rw [hn] at c8
  unfold Oper.wp
  rw [c8]
  refine hnext e Go.undef _ (.refl e) ?_ (.undef _)
  have := set_rel (ents' := ents.push { key := keyV kt q, val := a.eval y, born := es.length }) (es' := es ++ [(q, ev F y')]) hr c1 c2 c3 (by simp [c4]) (fun j hj => by
   by_cases hj' : j < ents.size
   ·have h0 := c7 j hj'
    have he : (es ++ [(q, ev F y')]).getD j ([], .undef) = es.getD j ([], .undef) := by
     simp only [List.getD_eq_getElem?_getD]; rw [List.getElem?_append_left (by omega)]
    rw [he, Array.getElem_push_lt hj']; exact h0
   ·have hje : j = ents.size := by simp at hj; omega
    subst hje
    have he : (es ++ [(q, ev F y')]).getD ents.size ([], .undef) = (q, ev F y') := by
     simp only [List.getD_eq_getElem?_getD]; rw [List.getElem?_append_right (by omega)]; simp [c4]
    rw [he]
    simp only [Array.getElem_push_eq]
    exact ⟨c4.symm, c6, by trivial, c5⟩)
  simpa using this

theorem ok_lm {t k el : TypeId} {x : Operand} {x' : Od} {ts : Array TypeId} (ho : o.op = .call { callee := .builtin .len, args := #[x], argTypes := ts }) (hts : ts[0]? = some t) (hu : P.underlying t = some (.map k el)) (hx : od x = some x')
  {b : Nat} {kt : Option Nat} {es : List (List Int × AV)} (hb0 : ev F x' = .map b) (hb : σ.blk b = some (.map kt es)) : OpT P o F σ (.int .i64 es.length) σ := by
 refine .of_pure fun W0 e a w hr hf => ?_
 have h1 := use1 hf (x := x) (by simp [ho, Op.operands, Call.operands]) hx
 rw [hb0] at h1
 generalize hv : a.eval x = v at h1
 cases h1 with
 | map _ xb hxb hxv =>
  obtain ⟨_, ents, g1, g2, g3⟩ := hr.mapAt hb hxb
  have hg := getObj_map (P := P) g1
  exact ⟨_, .int _ _, by simp [execOp, ho, hv, resolve, invoke, builtin, Builtin.len_, hts, run_underlying hu, hg, goInt, g2]⟩

theorem ok_rg {t k el : TypeId} {x : Operand} {x' : Od} (ho : o.op = .range t x) (hu : P.underlying t = some (.map k el)) (hx : od x = some x')
  {b : Nat} {kt : Option Nat} {es : List (List Int × AV)} (hb0 : ev F x' = .map b) (hb : σ.blk b = some (.map kt es)) : OpT P o F σ (.iter σ.next) (σ.push (.miter b es.length [])) := by
 refine .of_run fun W0 e a w hr hf => ?_
 have h1 := use1 hf (x := x) (by simp [ho, Op.operands]) hx
 rw [hb0] at h1
 generalize hv : a.eval x = v at h1
 cases h1 with
 | map _ xb hxb hxv =>
  obtain ⟨_, ents, g1, g2, g3⟩ := hr.mapAt hb hxb
  have hg := getObj_map (P := P) g1
  have hm := More.alloc w (.mapIter (some xb.k) es.length #[] es.length)
  have l := Env.le_own hr.fresh ⟨w.heap.size, 0, 0, 0, false⟩
  refine ⟨_, .pointer (some ⟨w.heap.size, 0, none⟩), _, l, hr.push hm.old (by rw [hm.size]; omega) (hm.below hr.below) _ (fun _ => ⟨Nat.le_refl _, by rw [hm.size]; exact Nat.lt_succ_self _⟩) (.miter b es.length []) ⟨rfl, xb, l.ι _ _ hxb, hxv, hm.new⟩, ?_, ?_⟩
  ·exact VR.iter σ.next ⟨w.heap.size, 0, 0, 0, false⟩ (by show (if σ.next = σ.next then _ else _) = _; rw [if_pos rfl]) rfl
  ·simp [execOp, ho, hv, Instr.range, run_underlying hu, hg]

theorem Rel.iterAt {W0 : World} {e : Env} {w : World} (hr : Rel W0 e σ w) {b m n : Nat} {seen : List Nat} (hb : σ.blk b = some (.miter m n seen)) {x : Pl} (hx : e.ι b = some x) :
  x.v = false ∧ ∃ xm, e.ι m = some xm ∧ xm.v = false ∧ w.heap[x.k]? = some (.mapIter (some xm.k) n seen.toArray n) := by
 obtain ⟨y, h1, _, h3⟩ := hr.own b _ hb
 rw [hx] at h1; cases h1
 exact h3

theorem getObj_iter {w : World} {k : Nat} {m : Option Nat} {s : Nat} {seen : Array Nat} {c : Nat} (h : w.heap[k]? = some (.mapIter m s seen c)) : (getObj k).run P w = .ok (.mapIter m s seen c) w := by
 simp [getObj, Sem.run, h]

theorem VR.keyA (e : Env) (kt : Option Nat) (q : List Int) : VR e (keyA kt q) (keyV kt q) := by
 cases kt with
 | none => exact .int _ _
 | some n =>
  refine .agg _ _ (by simp) (fun i hi => ?_) (fun i hi => ?_)
  ·have hi' : i < q.length := by simpa using hi
   simp [hi', Value.oneCell']
  ·have hi' : i < q.length := by simpa using hi
   simp only [List.getD_eq_getElem?_getD, Array.getD_eq_getD_getElem?]
   simp [hi']
   exact .int _ _

theorem ok_en {x : Operand} {x' : Od} (ho : o.op = .entry x) (hx : od x = some x') {b m n i : Nat} {seen : List Nat} {kt : Option Nat} {es : List (List Int × AV)}
  (hb0 : ev F x' = .iter b) (hb : σ.blk b = some (.miter m n seen)) (hm : σ.blk m = some (.map kt es)) (hs : seen.getLast? = some i) (hn : es.length = n) (hi : i < n) :
  OpT P o F σ (.tup [keyA kt (es.getD i ([], .undef)).1, (es.getD i ([], .undef)).2]) σ := by
 refine .of_pure fun W0 e a w hr hf => ?_
 have h1 := use1 hf (x := x) (by simp [ho, Op.operands]) hx
 rw [hb0] at h1
 generalize hv : a.eval x = v at h1
 cases h1 with
 | iter _ xb hxb hxv =>
  obtain ⟨_, xm, q1, q2, q3⟩ := hr.iterAt hb hxb
  obtain ⟨_, ents, g1, g2, g3⟩ := hr.mapAt hm q1
  have hg := getObj_map (P := P) g1
  have hg2 := getObj_iter (P := P) q3
  have hsz : i < ents.size := by omega
  have hfind : ents.find? (fun y => y.born == i) = some ents[i] := by
   rw [Array.find?_eq_some_iff_getElem]
   refine ⟨by simp [(g3 i hsz).1], i, hsz, rfl, fun j hj => ?_⟩
   have := (g3 j (by omega)).1
   simp [this]; omega
  refine ⟨.tuple #[ents[i].key, ents[i].val], .tup _ _ rfl fun k hk => ?_, ?_⟩
  ·match k, hk with
   | 0, _ => have := (g3 i hsz).2.2.1; show VR e (Av.keyA kt _) ents[i].key; rw [this]; exact VR.keyA e kt _
   | 1, _ => exact (g3 i hsz).2.2.2
  ·have hback : seen.toArray.back? = some i := by simpa using hs
   simp [execOp, ho, hv, Instr.entry, hg2, hg, hback, hn, hfind]

/-- One round more over a map, in whatever order. -/
theorem ok_nx {x : Operand} {x' : Od} (ho : o.op = .next x false) (hx : od x = some x') {b m n : Nat} {seen : List Nat} {kt : Option Nat} {es : List (List Int × AV)}
  (hb0 : ev F x' = .iter b) (hb : σ.blk b = some (.miter m n seen)) (hm : σ.blk m = some (.map kt es)) (hn : es.length = n) {K : AV → St → Prop}
  (hend : (∀ i, i < n → i ∈ seen) → K (.tup [.bool false]) σ) (hgo : ∀ i, i < n → i ∉ seen → K (.tup [.bool true, .undef, .undef]) (σ.set b (.miter m n (seen ++ [i])))) :
  ∀ (W0 : World) (e : Env) (a : Act) (w : World) (next : Act → World → Prop) (Q : Exit → Act → World → Prop), Rel W0 e σ w → (∀ t, uses o t → VR e (F t) (a.tmps.getD t Go.undef)) →
   (∀ e' v' w' v σ', K v σ' → e.le e' → Rel W0 e' σ' w' → VR e' v v' → next (a.put o.dst v') w') → o.wp P a w next Q := by
 intro W0 e a w next Q hr hf hnext
 have h1 := use1 hf (x := x) (by simp [ho, Op.operands]) hx
 rw [hb0] at h1
 generalize hv : a.eval x = v at h1
 cases h1 with
 | iter _ xb hxb hxv =>
  obtain ⟨_, xm, q1, q2, q3⟩ := hr.iterAt hb hxb
  obtain ⟨_, ents, g1, g2, g3⟩ := hr.mapAt hm q1
  have hg := getObj_map (P := P) g1
  have hg2 := getObj_iter (P := P) q3
  have hW := hr.inn b xb hxb hxv
  have hsz : ents.size = n := by omega
  have hun : (!seen.toArray.isEmpty && !ents.isEmpty && ents.all (·.born ≥ n)) = false := by
   cases hne : ents.isEmpty with
   | true => simp
   | false =>
    have hpos : 0 < ents.size := by simp at hne; exact Nat.pos_of_ne_zero (by intro h; exact hne (by simpa using h))
    have : ents.all (·.born ≥ n) = false := by
     rw [Array.all_eq_false]
     refine ⟨0, hpos, ?_⟩
     have := (g3 0 hpos).1
     simp [this]; omega
    simp [this]
  have hold : (ents.filter fun y => !seen.toArray.contains y.born).filter (fun y => y.born < n) = ents.filter fun y => !seen.toArray.contains y.born := by
   rw [Array.filter_eq_self]
   intro y hy
   rw [Array.mem_filter] at hy
   obtain ⟨j, hj, rfl⟩ := Array.getElem_of_mem hy.1
   have := (g3 j hj).1
   simp [this]; omega
  have hnew : (ents.filter fun y => !seen.toArray.contains y.born).filter (fun y => y.born ≥ n) = #[] := by
   rw [Array.filter_eq_empty_iff]
   intro y hy
   rw [Array.mem_filter] at hy
   obtain ⟨j, hj, rfl⟩ := Array.getElem_of_mem hy.1
   have := (g3 j hj).1
   simp [this]; omega
  -- the candidates
  generalize hL : (ents.filter fun y => !seen.toArray.contains y.born) = left at hold hnew
  have hmem : ∀ y ∈ left, ∃ j, j < n ∧ j ∉ seen ∧ y.born = j := by
   intro y hy
   rw [← hL, Array.mem_filter] at hy
   obtain ⟨j, hj, rfl⟩ := Array.getElem_of_mem hy.1
   have hbj := (g3 j hj).1
   refine ⟨j, by omega, ?_, hbj⟩
   have := hy.2
   rw [hbj] at this
   simpa using this
  have hempty : left = #[] → ∀ i, i < n → i ∈ seen := by
   intro hle i hi
   rw [← hL, Array.filter_eq_empty_iff] at hle
   have := hle ents[i] (by simp)
   rw [(g3 i (by omega)).1] at this
   simpa using this
  have fin_end : (∀ i, i < n → i ∈ seen) → ∀ w', (w' = w ∨ w' = { w with drawn := w.drawn + 1 }) → next (a.put o.dst (.tuple #[.bool false])) w' := by
   intro hs w' hw'
   refine hnext e _ w' _ σ (hend hs) (.refl e) ?_ (.tup _ _ rfl fun k hk => ?_)
   ·rcases hw' with rfl | rfl
    ·exact hr
    ·exact hr.same (fun _ _ => rfl) (Nat.le_refl _) ⟨hr.below.os, hr.below.tape, hr.below.output, hr.below.size, hr.below.block⟩
   ·match k, hk with
    | 0, _ => exact .bool false
  have fin_go : ∀ y ∈ left, ∀ w', (w' = w ∨ w' = { w with drawn := w.drawn + 1 }) →
    next (a.put o.dst (.tuple #[.bool true, y.key, y.val])) { w' with heap := w'.heap.setIfInBounds xb.k (.mapIter (some xm.k) n (seen.toArray.push y.born) n) } := by
   intro y hy w' hw'
   obtain ⟨j, hj1, hj2, hj3⟩ := hmem y hy
   have hr' : Rel W0 e σ w' := by
    rcases hw' with rfl | rfl
    ·exact hr
    ·exact hr.same (fun _ _ => rfl) (Nat.le_refl _) ⟨hr.below.os, hr.below.tape, hr.below.output, hr.below.size, hr.below.block⟩
   have hheap : w'.heap = w.heap := by rcases hw' with rfl | rfl <;> rfl
   refine hnext e _ _ _ _ (hgo j hj1 hj2) (.refl e) ?_ (.tup _ _ rfl fun k hk => ?_)
   ·refine hr'.set (w1 := { w' with heap := w'.heap.setIfInBounds xb.k (.mapIter (some xm.k) n (seen.toArray.push y.born) n) }) hb hxb hxv (fun k hk => by simp [Array.getElem?_setIfInBounds, Ne.symm hk]) (by simp) ⟨hr'.below.os, hr'.below.tape, hr'.below.output, by simpa using hr'.below.size, fun k hk => ?_⟩ (.miter m n (seen ++ [j])) ⟨hxv, xm, q1, q2, ?_⟩
    ·have : xb.k ≠ k := by omega
     simp only [Array.getElem?_setIfInBounds, if_neg this]
     exact hr'.below.block k hk
    ·show (w'.heap.setIfInBounds xb.k _)[xb.k]? = _
     rw [Array.getElem?_setIfInBounds_self_of_lt (by rw [hheap]; exact hW.2), hj3]
     simp
   ·match k, hk with
    | 0, _ => exact .bool true
    | 1, _ => exact .undef _
    | 2, _ => exact .undef _
  unfold Oper.wp
  simp only [execOp, ho, hv, Instr.next, Sem.run_bind, hg2, Result.andThen_ok, hg, hun, Bool.false_eq_true, if_false]
  rw [hL, hold, hnew]
  have pick : ∀ m : Nat, 0 < m → ∃ k w', (choose (.mapNext m)).run P w = .ok k w' ∧ (w' = w ∨ w' = { w with drawn := w.drawn + 1 }) ∧ k < m := by
   intro m hm
   rw [run_choose]
   split
   ·exact ⟨0, w, rfl, .inl rfl, hm⟩
   ·exact ⟨_, _, rfl, .inr rfl, Nat.mod_lt _ hm⟩
  rw [hn]
  by_cases hle : left = #[]
  ·have hc : ((if left.isEmpty = true then #[none] else #[]) ++ Array.map some (left ++ #[]) : Array (Option MapEntry)) = #[none] := by subst hle; simp
   rw [hc]
   obtain ⟨k, w', p1, p2, p3⟩ := pick 1 (by omega)
   obtain rfl : k = 0 := by omega
   simp only [List.size_toArray, List.length_cons, List.length_nil, Nat.zero_add, p1, Result.andThen_ok]
   exact fin_end (hempty hle) w' p2
  ·have hne : left.isEmpty = false := by simpa using hle
   have hc : ((if left.isEmpty = true then #[none] else #[]) ++ Array.map some (left ++ #[]) : Array (Option MapEntry)) = left.map some := by simp [hne, hle]
   rw [hc]
   have hpos : 0 < left.size := Nat.pos_of_ne_zero (by intro h; exact hle (by simpa using h))
   obtain ⟨k, w', p1, p2, p3⟩ := pick (left.map some).size (by simpa using hpos)
   have hk : k < left.size := by simpa using p3
   have hget : (left.map some)[k]? = some (some left[k]) := by simp [hk]
   have hWk : xb.k < w'.heap.size := by rcases p2 with rfl | rfl <;> exact hW.2
   have hq3 : w'.heap[xb.k]? = some (.mapIter (some xm.k) n seen.toArray n) := by rcases p2 with rfl | rfl <;> exact q3
   have hset : ∀ o, (setObj xb.k o).run P w' = .ok () { w' with heap := w'.heap.setIfInBounds xb.k o } := by
    intro o; simp [setObj, Sem.run, hq3]
   simp only [p1, Result.andThen_ok, hget, Sem.run_bind, hset, Sem.run_pure]
   exact fin_go left[k] (by simp) w' p2

end
end Go.Av
