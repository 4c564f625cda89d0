/- A logic of small values, and walks in it: A small language of values for walks: what a value of a Go program is, with memory that never turns read through (a frozen row is its list),
  and memory of the walk's own as numbered blocks. This text: the words, how they stand to the model's memory, and that what stands so goes on standing. How the walk's own blocks go on standing to the model's memory: a block more, a block turned, a block dropped, a block that turns no more. The operations of the program in few words (types told by the sizes that they come to), and what each asks and gives over the small values. What an operation asks and gives over the small values; a function's law; that what is asked and given there is what the model does. That the model does what is said of the operations: all but appends and calls. That the model does what is said of the operations: reads, writes, places, numbers. That the model does what is said of the operations: numbers, places, cuts, and the rest that turns nothing. -/
import Derived.Calls
import Derived.Below
import Derived.Laws.Sem
import Derived.Laws.AppendOwn
import Derived.Laws.Append
import Derived.Laws.Cells
import Derived.Laws.BitsLemmas
set_option linter.unusedVariables false
set_option linter.unusedSimpArgs false
set_option linter.deprecated false
namespace Go.Av
open Go.RowKit (Below)

inductive AV where
 | undef
 | bool (b : Bool)
 | int (k : IntKind) (n : Int)
 | str (s : ByteArray)
 | raw (v : Value)
 | agg (cs : List AV)
 | tup (vs : List AV)
 | nilp
 | ptr (b i off : Nat)
 | fptr (cs : List AV)
 | sl (b off len : Nat)
 | nils
 | emp (full : Bool) (sz : Nat)
 | lit (sz : Nat) (rows : List (List AV))
 | map (b : Nat)
 | nilmap
 | iter (b : Nat)
 | func (f : FuncId) (captured : List AV)
 | iface (t : TypeId) (v : AV)
 | niliface

instance : Inhabited AV := ⟨.undef⟩

/-- Where a block of the walk's own lies: the model's block, the first cell, the cells of an element, all cells of the model's block; 'v': nowhere (an empty row without memory). -/
structure Pl where
 k : Nat
 o : Nat
 sz : Nat
 tot : Nat
 v : Bool

structure Env where
 H : Nat → Option (Array Value)
 ι : Nat → Option Pl

structure Env.le (e e' : Env) : Prop where
 H : ∀ k c, e.H k = some c → e'.H k = some c
 ι : ∀ b x, e.ι b = some x → e'.ι b = some x

theorem Env.le.refl (e : Env) : e.le e := ⟨fun _ _ h => h, fun _ _ h => h⟩
theorem Env.le.trans {a b c : Env} (h : a.le b) (h' : b.le c) : a.le c := ⟨fun k c h0 => h'.H k c (h.H k c h0), fun k c h0 => h'.ι k c (h.ι k c h0)⟩

/-- No row is longer. -/
def most : Nat := 2 ^ 47

inductive VR (e : Env) : AV → Value → Prop
 | undef (v : Value) : VR e .undef v
 | bool (b : Bool) : VR e (.bool b) (.bool b)
 | int (k : IntKind) (n : Int) : VR e (.int k n) (.int k n)
 | str (s : ByteArray) : VR e (.str s) (.string s)
 | raw (v : Value) : VR e (.raw v) v
 | agg (cs : List AV) (vs : Array Value) (hl : cs.length = vs.size) (ho : ∀ i, i < cs.length → (vs.getD i Go.undef).oneCell' = true)
   (h : ∀ i, i < cs.length → VR e (cs.getD i .undef) (vs.getD i Go.undef)) : VR e (.agg cs) (.agg vs)
 | tup (cs : List AV) (vs : Array Value) (hl : cs.length = vs.size) (h : ∀ i, i < cs.length → VR e (cs.getD i .undef) (vs.getD i Go.undef)) : VR e (.tup cs) (.tuple vs)
 | nilp : VR e .nilp (.pointer none)
 | ptr (b i off : Nat) (x : Pl) (h : e.ι b = some x) (hv : x.v = false) : VR e (.ptr b i off) (.pointer (some ⟨x.k, x.o + i * x.sz + off, none⟩))
 | fptr (cs : List AV) (k off : Nat) (c : Array Value) (hk : e.H k = some c) (hs : off + cs.length ≤ c.size)
   (ho : ∀ j, j < cs.length → (c.getD (off + j) Go.undef).oneCell' = true)
   (h : ∀ j, j < cs.length → VR e (cs.getD j .undef) (c.getD (off + j) Go.undef)) : VR e (.fptr cs) (.pointer (some ⟨k, off, none⟩))
 | sl (b off len cap : Nat) (x : Pl) (h : e.ι b = some x) (hv : x.v = false) (hc : len ≤ cap) (hm : len ≤ most) (ht : x.o + (off + cap) * x.sz ≤ x.tot) :
   VR e (.sl b off len) (.slice (some ⟨x.k, x.o + off * x.sz, none⟩) len cap)
 | sl0 (b off : Nat) (a : Option Addr) (x : Pl) (h : e.ι b = some x) : VR e (.sl b off 0) (.slice a 0 0)
 | nils : VR e .nils (.slice none 0 0)
 | emp (full : Bool) (sz : Nat) (a : Addr) (cap : Nat) (hf : full = true → cap = 0) : VR e (.emp full sz) (.slice (some a) 0 cap)
 | lit0 (sz : Nat) (a : Option Addr) (cap : Nat) (hz : a = none → cap = 0) : VR e (.lit sz []) (.slice a 0 cap)
 | lit (sz : Nat) (rows : List (List AV)) (k off cap : Nat) (c : Array Value) (hk : e.H k = some c)
   (hc : rows.length ≤ cap) (hm : rows.length ≤ most) (hr : ∀ i, i < rows.length → (rows.getD i []).length = sz) (hs : off + rows.length * sz ≤ c.size)
   (ho : ∀ i j, i < rows.length → j < sz → (c.getD (off + i * sz + j) Go.undef).oneCell' = true)
   (h : ∀ i j, i < rows.length → j < sz → VR e ((rows.getD i []).getD j .undef) (c.getD (off + i * sz + j) Go.undef)) :
   VR e (.lit sz rows) (.slice (some ⟨k, off, none⟩) rows.length cap)
 | map (b : Nat) (x : Pl) (h : e.ι b = some x) (hv : x.v = false) : VR e (.map b) (.map (some x.k))
 | nilmap : VR e .nilmap (.map none)
 | iter (b : Nat) (x : Pl) (h : e.ι b = some x) (hv : x.v = false) : VR e (.iter b) (.pointer (some ⟨x.k, 0, none⟩))
 | func (f : FuncId) (cs : List AV) (vs : Array Value) (hl : cs.length = vs.size) (h : ∀ i, i < cs.length → VR e (cs.getD i .undef) (vs.getD i Go.undef)) :
   VR e (.func f cs) (.func (.func f) #[] vs)
 | iface (t : TypeId) (a : AV) (v : Value) (h : VR e a v) : VR e (.iface t a) (.iface t v)
 | niliface : VR e .niliface .nilIface

theorem VR.mono {e e' : Env} (l : e.le e') {a : AV} {v : Value} (h : VR e a v) : VR e' a v := by
 induction h with
 | undef v => exact .undef v
 | bool b => exact .bool b
 | int k n => exact .int k n
 | str s => exact .str s
 | raw v => exact .raw v
 | agg cs vs hl ho _ ih => exact .agg cs vs hl ho ih
 | tup cs vs hl _ ih => exact .tup cs vs hl ih
 | nilp => exact .nilp
 | ptr b i off x h hv => exact .ptr b i off x (l.ι _ _ h) hv
 | fptr cs k off c hk hs ho _ ih => exact .fptr cs k off c (l.H _ _ hk) hs ho ih
 | sl b off len cap x h hv hc hm ht => exact .sl b off len cap x (l.ι _ _ h) hv hc hm ht
 | sl0 b off a x h => exact .sl0 b off a x (l.ι _ _ h)
 | nils => exact .nils
 | emp full sz a cap hf => exact .emp full sz a cap hf
 | lit0 sz a cap hz => exact .lit0 sz a cap hz
 | lit sz rows k off cap c hk hc hm hr hs ho _ ih => exact .lit sz rows k off cap c (l.H _ _ hk) hc hm hr hs ho ih
 | map b x h hv => exact .map b x (l.ι _ _ h) hv
 | nilmap => exact .nilmap
 | iter b x h hv => exact .iter b x (l.ι _ _ h) hv
 | func f cs vs hl _ ih => exact .func f cs vs hl ih
 | iface t a v _ ih => exact .iface t a v ih
 | niliface => exact .niliface

/-- The blocks of the walk's own. -/
inductive Blk where
 | cells (sz : Nat) (rows : List (List AV))
 | map (kt : Option Nat) (es : List (List Int × AV))
 | siter (s : ByteArray) (pos : Nat)
 | miter (m n : Nat) (seen : List Nat)

structure St where
 next : Nat
 blk : Nat → Option Blk

/-- A value that one cell may hold. -/
def AV.cell : AV → Bool
 | .undef | .raw _ | .agg _ | .tup _ => false
 | _ => true

/-- A map's key: a whole number, or a row of so many. -/
def keyV : Option Nat → List Int → Value
 | none, l => .int .i64 (l.getD 0 0)
 | some _, l => .agg (l.map fun n => Value.int .i64 n).toArray
def keyOk : Option Nat → List Int → Prop
 | none, l => l.length = 1
 | some n, l => l.length = n

def BlkRel (e : Env) (w : World) (x : Pl) : Blk → Prop
 | .cells sz rows => x.sz = sz ∧ (∀ i, i < rows.length → (rows.getD i []).length = sz) ∧ rows.length ≤ most ∧ (x.v = true → rows = []) ∧ (x.v = false →
   ∃ c t, w.heap[x.k]? = some (.cells c t (0, 0)) ∧ c.size = x.tot ∧ x.o + rows.length * sz ≤ x.tot ∧
    ∀ i j, i < rows.length → j < sz → (c.getD (x.o + i * sz + j) Go.undef).oneCell' = true ∧ VR e ((rows.getD i []).getD j .undef) (c.getD (x.o + i * sz + j) Go.undef))
 | .map kt es => x.v = false ∧ ∃ ents, w.heap[x.k]? = some (.map ents es.length) ∧ ents.size = es.length ∧
   ∀ i (h : i < ents.size), ents[i].born = i ∧ keyOk kt (es.getD i ([], .undef)).1 ∧ ents[i].key = keyV kt (es.getD i ([], .undef)).1 ∧ VR e (es.getD i ([], .undef)).2 ents[i].val
 | .siter s pos => x.v = false ∧ w.heap[x.k]? = some (.stringIter s pos)
 | .miter m n seen => x.v = false ∧ ∃ xm, e.ι m = some xm ∧ xm.v = false ∧ w.heap[x.k]? = some (.mapIter (some xm.k) n seen.toArray n)

structure Rel (W0 : World) (e : Env) (σ : St) (w : World) : Prop where
 below : Below W0.heap.size W0 w
 dom : ∀ b x, e.ι b = some x → b < σ.next
 fro : ∀ k c, e.H k = some c → ∃ t fr, w.heap[k]? = some (.cells c t fr)
 inn : ∀ b x, e.ι b = some x → x.v = false → W0.heap.size ≤ x.k ∧ x.k < w.heap.size
 own : ∀ b B, σ.blk b = some B → ∃ x, e.ι b = some x ∧ (x.v = false → e.H x.k = none) ∧ BlkRel e w x B
 apart : ∀ b b' B B' x x', σ.blk b = some B → σ.blk b' = some B' → b ≠ b' → e.ι b = some x → e.ι b' = some x' → x.v = false → x'.v = false → x.k ≠ x'.k

theorem getD_lt {α : Type} (l : List α) (i : Nat) (d : α) (h : i < l.length) : l.getD i d = l[i] := by simp [List.getD, h]
theorem agetD_lt {α : Type} (l : Array α) (i : Nat) (d : α) (h : i < l.size) : l.getD i d = l[i] := by simp [Array.getD, h]

def St.push (σ : St) (B : Blk) : St := ⟨σ.next + 1, fun b => if b = σ.next then some B else σ.blk b⟩
def St.set (σ : St) (b : Nat) (B : Blk) : St := ⟨σ.next, fun b' => if b' = b then some B else σ.blk b'⟩
def St.kill (σ : St) (b : Nat) : St := ⟨σ.next, fun b' => if b' = b then none else σ.blk b'⟩
def St.cut (σ : St) (n : Nat) : St := ⟨n, fun b => if b < n then σ.blk b else none⟩
def Env.own (e : Env) (b : Nat) (x : Pl) : Env := ⟨e.H, fun b' => if b' = b then some x else e.ι b'⟩
def Env.ice (e : Env) (k : Nat) (c : Array Value) : Env := ⟨fun k' => if k' = k then some c else e.H k', e.ι⟩
def Env.cut (e : Env) (n : Nat) : Env := ⟨e.H, fun b => if b < n then e.ι b else none⟩

theorem BlkRel.mono {e e' : Env} {w w' : World} {x : Pl} {B : Blk} (l : e.le e') (hk : x.v = false → w'.heap[x.k]? = w.heap[x.k]?) (h : BlkRel e w x B) : BlkRel e' w' x B := by
 cases B with
 | cells sz rows =>
  obtain ⟨h1, h2, h3, hv, h⟩ := h
  refine ⟨h1, h2, h3, hv, fun v => ?_⟩
  obtain ⟨c, t, h4, h5, h6, h7⟩ := h v
  exact ⟨c, t, (hk v).trans h4, h5, h6, fun i j hi hj => ⟨(h7 i j hi hj).1, (h7 i j hi hj).2.mono l⟩⟩
 | map kt es =>
  obtain ⟨v, ents, h1, h2, h3⟩ := h
  exact ⟨v, ents, (hk v).trans h1, h2, fun i hi => ⟨(h3 i hi).1, (h3 i hi).2.1, (h3 i hi).2.2.1, (h3 i hi).2.2.2.mono l⟩⟩
 | siter s pos => exact ⟨h.1, (hk h.1).trans h.2⟩
 | miter m n seen =>
  obtain ⟨v, xm, h1, h2, h3⟩ := h
  exact ⟨v, xm, l.ι _ _ h1, h2, (hk v).trans h3⟩

section
variable {W0 : World} {e : Env} {σ : St} {w : World}

theorem Rel.lt (h : Rel W0 e σ w) {b : Nat} {B : Blk} (hb : σ.blk b = some B) : b < σ.next := by
 obtain ⟨x, hx, _⟩ := h.own b B hb
 exact h.dom b x hx

theorem Rel.fresh (h : Rel W0 e σ w) : e.ι σ.next = none := by
 cases hx : e.ι σ.next with
 | none => rfl
 | some x => exact absurd (h.dom _ _ hx) (Nat.lt_irrefl _)

theorem Env.le_own {b : Nat} (hx : e.ι b = none) (x : Pl) : e.le (e.own b x) := by
 refine ⟨fun _ _ h => h, fun b' y h => ?_⟩
 show (if b' = b then some x else e.ι b') = some y
 split
 ·rename_i hb; subst hb; rw [hx] at h; cases h
 ·exact h

theorem Env.le_ice {k : Nat} (hk : e.H k = none) (c : Array Value) : e.le (e.ice k c) := by
 refine ⟨fun k' d h => ?_, fun _ _ h => h⟩
 show (if k' = k then some c else e.H k') = some d
 split
 ·rename_i hb; subst hb; rw [hk] at h; cases h
 ·exact h

theorem Rel.H_lt (h : Rel W0 e σ w) {k : Nat} {c : Array Value} (hk : e.H k = some c) : k < w.heap.size := by
 obtain ⟨t, fr, h1⟩ := h.fro k c hk
 exact (Array.getElem?_eq_some_iff.1 h1).1

theorem Rel.H_new (h : Rel W0 e σ w) {k : Nat} (hk : w.heap.size ≤ k) : e.H k = none := by
 cases hx : e.H k with
 | none => rfl
 | some c => exact absurd (h.H_lt hx) (by omega)

theorem Rel.push (h : Rel W0 e σ w) {w1 : World} (hw : ∀ k, k < w.heap.size → w1.heap[k]? = w.heap[k]?) (hs : w.heap.size ≤ w1.heap.size) (hb : Below W0.heap.size W0 w1)
  (x : Pl) (hx : x.v = false → w.heap.size ≤ x.k ∧ x.k < w1.heap.size) (B : Blk) (hB : BlkRel (e.own σ.next x) w1 x B) :
  Rel W0 (e.own σ.next x) (σ.push B) w1 := by
 have l := Env.le_own h.fresh x
 refine ⟨hb, ?_, ?_, ?_, ?_, ?_⟩
 ·intro b y hy
  simp only [Env.own] at hy
  split at hy
  ·simp only [St.push]; omega
  ·have := h.dom b y hy; simp only [St.push]; omega
 ·intro k c hk
  obtain ⟨t, fr, h1⟩ := h.fro k c hk
  exact ⟨t, fr, (hw k (h.H_lt hk)).trans h1⟩
 ·intro b y hy hv
  simp only [Env.own] at hy
  split at hy
  ·cases hy
   have := h.below.size
   have := hx hv
   exact ⟨by omega, by omega⟩
  ·have := h.inn b y hy hv; exact ⟨this.1, by omega⟩
 ·intro b B' hB'
  simp only [St.push] at hB'
  split at hB'
  ·rename_i hbn
   cases hB'
   exact ⟨x, by simp [Env.own, hbn], fun hv => h.H_new (hx hv).1, hB⟩
  ·rename_i hbn
   obtain ⟨y, h1, h2, h3⟩ := h.own b B' hB'
   exact ⟨y, by simp [Env.own, hbn, h1], h2, h3.mono l (fun hv => hw _ (h.inn b y h1 hv).2)⟩
 ·intro b b' B1 B2 y y' h1 h2 hne h3 h4 v3 v4
  simp only [St.push] at h1 h2
  simp only [Env.own] at h3 h4
  by_cases hb1 : b = σ.next
  ·by_cases hb2 : b' = σ.next
   ·omega
   ·rw [if_pos hb1] at h3; rw [if_neg hb2] at h4; cases h3
    have := h.inn b' y' h4 v4; have := hx v3; omega
  ·by_cases hb2 : b' = σ.next
   ·rw [if_neg hb1] at h3; rw [if_pos hb2] at h4; cases h4
    have := h.inn b y h3 v3; have := hx v4; omega
   ·rw [if_neg hb1] at h1 h3; rw [if_neg hb2] at h2 h4
    exact h.apart b b' B1 B2 y y' h1 h2 hne h3 h4 v3 v4

/-- A row that is made and never turned: no block of the walk's own. -/
theorem Rel.ice_new (h : Rel W0 e σ w) {w1 : World} (hw : ∀ k, k < w.heap.size → w1.heap[k]? = w.heap[k]?) (hb : Below W0.heap.size W0 w1)
  (hs : w.heap.size ≤ w1.heap.size) (k : Nat) (hk : w.heap.size ≤ k) (c : Array Value) (t : TypeId) (fr : Nat × Nat) (hc : w1.heap[k]? = some (.cells c t fr)) :
  Rel W0 (e.ice k c) σ w1 := by
 have l := Env.le_ice (h.H_new hk) c
 refine ⟨hb, h.dom, ?_, ?_, ?_, h.apart⟩
 ·intro k' c' hk'
  simp only [Env.ice] at hk'
  split at hk'
  ·rename_i he; cases hk'; subst he; exact ⟨t, fr, hc⟩
  ·obtain ⟨t', fr', h1⟩ := h.fro k' c' hk'
   exact ⟨t', fr', (hw k' (h.H_lt hk')).trans h1⟩
 ·intro b x hx hv
  have := h.inn b x hx hv
  exact ⟨this.1, by omega⟩
 ·intro b B hB
  obtain ⟨y, h1, h2, h3⟩ := h.own b B hB
  refine ⟨y, h1, fun hv => ?_, h3.mono l (fun hv => hw _ (h.inn b y h1 hv).2)⟩
  have hlt := h.inn b y h1 hv
  show (if y.k = k then some c else e.H y.k) = none
  rw [if_neg (by omega)]; exact h2 hv

/-- The world goes on and nothing of ours turns. -/
theorem Rel.same (h : Rel W0 e σ w) {w1 : World} (hw : ∀ k, k < w.heap.size → w1.heap[k]? = w.heap[k]?) (hs : w.heap.size ≤ w1.heap.size) (hb : Below W0.heap.size W0 w1) :
  Rel W0 e σ w1 := by
 refine ⟨hb, h.dom, ?_, ?_, ?_, h.apart⟩
 ·intro k' c' hk'
  obtain ⟨t', fr', h1⟩ := h.fro k' c' hk'
  exact ⟨t', fr', (hw k' (h.H_lt hk')).trans h1⟩
 ·intro b x hx hv
  have := h.inn b x hx hv
  exact ⟨this.1, by omega⟩
 ·intro b B hB
  obtain ⟨y, h1, h2, h3⟩ := h.own b B hB
  exact ⟨y, h1, h2, h3.mono (.refl _) (fun hv => hw _ (h.inn b y h1 hv).2)⟩

/-- A block of the walk's own is turned. -/
theorem Rel.set (h : Rel W0 e σ w) {b : Nat} {B0 : Blk} (hb0 : σ.blk b = some B0) {x : Pl} (hx : e.ι b = some x) (hxv : x.v = false) {w1 : World}
  (hw : ∀ k, k ≠ x.k → w1.heap[k]? = w.heap[k]?) (hs : w.heap.size ≤ w1.heap.size) (hb : Below W0.heap.size W0 w1) (B : Blk) (hB : BlkRel e w1 x B) :
  Rel W0 e (σ.set b B) w1 := by
 obtain ⟨x', hx', hHx, _⟩ := h.own b B0 hb0
 rw [hx] at hx'; cases hx'
 have hap : ∀ b' B' y, b' ≠ b → σ.blk b' = some B' → e.ι b' = some y → y.v = false → y.k ≠ x.k := fun b' B' y hne h1 h2 hv => h.apart b' b B' B0 y x h1 hb0 hne h2 hx hv hxv
 refine ⟨hb, h.dom, ?_, ?_, ?_, ?_⟩
 ·intro k' c' hk'
  obtain ⟨t', fr', h1⟩ := h.fro k' c' hk'
  refine ⟨t', fr', (hw k' ?_).trans h1⟩
  rintro rfl
  rw [hHx hxv] at hk'; cases hk'
 ·intro b' y hy hv
  have := h.inn b' y hy hv
  exact ⟨this.1, by omega⟩
 ·intro b' B' hB'
  simp only [St.set] at hB'
  split at hB'
  ·rename_i he; subst he; cases hB'
   exact ⟨x, hx, hHx, hB⟩
  ·rename_i he
   obtain ⟨y, h1, h2, h3⟩ := h.own b' B' hB'
   exact ⟨y, h1, h2, h3.mono (.refl _) (fun hv => hw _ (hap b' B' y he hB' h1 hv))⟩
 ·intro b1 b2 B1 B2 y1 y2 h1 h2 hne h3 h4 v3 v4
  simp only [St.set] at h1 h2
  by_cases e1 : b1 = b
  ·by_cases e2 : b2 = b
   ·omega
   ·rw [if_neg e2] at h2
    subst e1; rw [hx] at h3; cases h3
    exact fun q => hap b2 B2 y2 e2 h2 h4 v4 q.symm
  ·rw [if_neg e1] at h1
   by_cases e2 : b2 = b
   ·subst e2; rw [hx] at h4; cases h4
    exact hap b1 B1 y1 e1 h1 h3 v3
   ·rw [if_neg e2] at h2
    exact h.apart b1 b2 B1 B2 y1 y2 h1 h2 hne h3 h4 v3 v4

theorem Rel.kill (h : Rel W0 e σ w) (b : Nat) : Rel W0 e (σ.kill b) w := by
 have hk : ∀ b' B', (σ.kill b).blk b' = some B' → b' ≠ b ∧ σ.blk b' = some B' := by
  intro b' B' h1
  simp only [St.kill] at h1
  split at h1
  ·cases h1
  ·rename_i hne; exact ⟨hne, h1⟩
 exact ⟨h.below, h.dom, h.fro, h.inn, fun b' B' h1 => h.own b' B' (hk _ _ h1).2, fun b1 b2 B1 B2 y1 y2 h1 h2 hne h3 h4 => h.apart b1 b2 B1 B2 y1 y2 (hk _ _ h1).2 (hk _ _ h2).2 hne h3 h4⟩

/-- A block that turns no more. -/
theorem Rel.ice (h : Rel W0 e σ w) {b : Nat} {sz : Nat} {rows : List (List AV)} (hb0 : σ.blk b = some (.cells sz rows)) {x : Pl} (hx : e.ι b = some x) (hxv : x.v = false) :
  ∃ c t, w.heap[x.k]? = some (.cells c t (0, 0)) ∧ e.H x.k = none ∧ Rel W0 (e.ice x.k c) (σ.kill b) w := by
 obtain ⟨x', hx', hHx0, hB⟩ := h.own b _ hb0
 rw [hx] at hx'; cases hx'
 have hHx := hHx0 hxv
 obtain ⟨_, _, _, _, hB⟩ := hB
 obtain ⟨c, t, h4, _⟩ := hB hxv
 refine ⟨c, t, h4, hHx, ?_⟩
 have l := Env.le_ice hHx c
 have hk : ∀ b' B', (σ.kill b).blk b' = some B' → b' ≠ b ∧ σ.blk b' = some B' := by
  intro b' B' h1
  simp only [St.kill] at h1
  split at h1
  ·cases h1
  ·rename_i hne; exact ⟨hne, h1⟩
 refine ⟨h.below, h.dom, ?_, h.inn, ?_, fun b1 b2 B1 B2 y1 y2 h1 h2 hne h3 h4 => h.apart b1 b2 B1 B2 y1 y2 (hk _ _ h1).2 (hk _ _ h2).2 hne h3 h4⟩
 ·intro k' c' hk'
  simp only [Env.ice] at hk'
  split at hk'
  ·rename_i he; cases hk'; subst he; exact ⟨t, _, h4⟩
  ·exact h.fro k' c' hk'
 ·intro b' B' hB'
  obtain ⟨hne, hB''⟩ := hk _ _ hB'
  obtain ⟨y, h1, h2, h3⟩ := h.own b' B' hB''
  refine ⟨y, h1, fun hv => ?_, h3.mono l (fun _ => rfl)⟩
  show (if y.k = x.k then some c else e.H y.k) = none
  rw [if_neg (h.apart b' b B' _ y x hB'' hb0 hne h1 hx hv hxv)]; exact h2 hv

end

/-- No own block from n on is named. -/
inductive AV.Lt (n : Nat) : AV → Prop
 | undef : AV.Lt n .undef
 | bool (b : Bool) : AV.Lt n (.bool b)
 | int (k : IntKind) (m : Int) : AV.Lt n (.int k m)
 | str (s : ByteArray) : AV.Lt n (.str s)
 | raw (v : Value) : AV.Lt n (.raw v)
 | nils : AV.Lt n .nils
 | emp (full : Bool) (sz : Nat) : AV.Lt n (.emp full sz)
 | agg (cs : List AV) (h : ∀ i, i < cs.length → AV.Lt n (cs.getD i .undef)) : AV.Lt n (.agg cs)
 | tup (cs : List AV) (h : ∀ i, i < cs.length → AV.Lt n (cs.getD i .undef)) : AV.Lt n (.tup cs)
 | nilp : AV.Lt n .nilp
 | ptr (b i off : Nat) (h : b < n) : AV.Lt n (.ptr b i off)
 | fptr (cs : List AV) (h : ∀ i, i < cs.length → AV.Lt n (cs.getD i .undef)) : AV.Lt n (.fptr cs)
 | sl (b off len : Nat) (h : b < n) : AV.Lt n (.sl b off len)
 | lit (sz : Nat) (rows : List (List AV)) (h : ∀ i j, i < rows.length → j < (rows.getD i []).length → AV.Lt n ((rows.getD i []).getD j .undef)) : AV.Lt n (.lit sz rows)
 | map (b : Nat) (h : b < n) : AV.Lt n (.map b)
 | nilmap : AV.Lt n .nilmap
 | iter (b : Nat) (h : b < n) : AV.Lt n (.iter b)
 | func (f : FuncId) (cs : List AV) (h : ∀ i, i < cs.length → AV.Lt n (cs.getD i .undef)) : AV.Lt n (.func f cs)
 | iface (t : TypeId) (a : AV) (h : AV.Lt n a) : AV.Lt n (.iface t a)
 | niliface : AV.Lt n .niliface

/-- The cut of an environment: what names no block from n on stands to the model's value as before, whatever the blocks from n on are. -/
theorem VR.cut {e : Env} {n : Nat} {a : AV} {v : Value} (h : VR e a v) : a.Lt n → VR (e.cut n) a v := by
 induction h with
 | undef v => exact fun _ => .undef v
 | bool b => exact fun _ => .bool b
 | int k n => exact fun _ => .int k n
 | str s => exact fun _ => .str s
 | raw v => exact fun _ => .raw v
 | agg cs vs hl ho _ ih => intro l; cases l with | agg _ l => exact .agg cs vs hl ho fun i hi => ih i hi (l i hi)
 | tup cs vs hl _ ih => intro l; cases l with | tup _ l => exact .tup cs vs hl fun i hi => ih i hi (l i hi)
 | nilp => exact fun _ => .nilp
 | ptr b i off x h hv => intro l; cases l with | ptr _ _ _ l => exact .ptr b i off x (by simp [Env.cut, l, h]) hv
 | fptr cs k off c hk hs ho _ ih => intro l; cases l with | fptr _ l => exact .fptr cs k off c hk hs ho fun i hi => ih i hi (l i hi)
 | sl b off len cap x h hv hc hm ht => intro l; cases l with | sl _ _ _ l => exact .sl b off len cap x (by simp [Env.cut, l, h]) hv hc hm ht
 | sl0 b off a x h => intro l; cases l with | sl _ _ _ l => exact .sl0 b off a x (by simp [Env.cut, l, h])
 | nils => exact fun _ => .nils
 | emp full sz a cap hf => exact fun _ => .emp full sz a cap hf
 | lit0 sz a cap hz => exact fun _ => .lit0 sz a cap hz
 | lit sz rows k off cap c hk hc hm hr hs ho _ ih =>
  intro l; cases l with | lit _ _ l => exact .lit sz rows k off cap c hk hc hm hr hs ho fun i j hi hj => ih i j hi hj (l i j hi (by rw [hr i hi]; exact hj))
 | map b x h hv => intro l; cases l with | map _ l => exact .map b x (by simp [Env.cut, l, h]) hv
 | nilmap => exact fun _ => .nilmap
 | iter b x h hv => intro l; cases l with | iter _ l => exact .iter b x (by simp [Env.cut, l, h]) hv
 | func f cs vs hl _ ih => intro l; cases l with | func _ _ l => exact .func f cs vs hl fun i hi => ih i hi (l i hi)
 | iface t a v _ ih => intro l; cases l with | iface _ _ l => exact .iface t a v (ih l)
 | niliface => exact fun _ => .niliface

theorem VR.lt {e : Env} {n : Nat} (hn : ∀ b x, e.ι b = some x → b < n) {a : AV} {v : Value} (h : VR e a v) : a.Lt n := by
 induction h with
 | undef v => exact .undef
 | bool b => exact .bool b
 | int k n => exact .int k n
 | str s => exact .str s
 | raw v => exact .raw v
 | agg cs vs hl ho _ ih => exact .agg cs ih
 | tup cs vs hl _ ih => exact .tup cs ih
 | nilp => exact .nilp
 | ptr b i off x h hv => exact .ptr b i off (hn _ _ h)
 | fptr cs k off c hk hs ho _ ih => exact .fptr cs ih
 | sl b off len cap x h hv hc hm ht => exact .sl b off len (hn _ _ h)
 | sl0 b off a x h => exact .sl b off 0 (hn _ _ h)
 | nils => exact .nils
 | emp full sz a cap hf => exact .emp full sz
 | lit0 sz a cap hz => exact .lit sz [] (fun i j hi => absurd hi (Nat.not_lt_zero _))
 | lit sz rows k off cap c hk hc hm hr hs ho _ ih => exact .lit sz rows (fun i j hi hj => ih i j hi (by rw [hr i hi] at hj; exact hj))
 | map b x h hv => exact .map b (hn _ _ h)
 | nilmap => exact .nilmap
 | iter b x h hv => exact .iter b (hn _ _ h)
 | func f cs vs hl _ ih => exact .func f cs ih
 | iface t a v _ ih => exact .iface t a ih
 | niliface => exact .niliface

def Blk.Lt (n : Nat) : Blk → Prop
 | .cells _ rows => ∀ i j, i < rows.length → j < (rows.getD i []).length → ((rows.getD i []).getD j .undef).Lt n
 | .map _ es => ∀ i, i < es.length → (es.getD i ([], .undef)).2.Lt n
 | .siter _ _ => True
 | .miter m _ _ => m < n

theorem BlkRel.lt {e : Env} {n : Nat} (hn : ∀ b x, e.ι b = some x → b < n) {w : World} {x : Pl} {B : Blk} (h : BlkRel e w x B) : B.Lt n := by
 cases B with
 | cells sz rows =>
  obtain ⟨h1, h2, h3, hv, h⟩ := h
  intro i j hi hj
  cases hx : x.v with
  | true => rw [hv hx] at hi; exact absurd hi (Nat.not_lt_zero _)
  | false =>
   obtain ⟨c, t, h4, h5, h6, h7⟩ := h hx
   exact (h7 i j hi (by rw [h2 i hi] at hj; exact hj)).2.lt hn
 | map kt es =>
  obtain ⟨v, ents, h1, h2, h3⟩ := h
  intro i hi
  exact (h3 i (by omega)).2.2.2.lt hn
 | siter s pos => trivial
 | miter m k seen =>
  obtain ⟨v, xm, h1, _⟩ := h
  exact hn _ _ h1

theorem BlkRel.cut {e : Env} {n : Nat} {w : World} {x : Pl} {B : Blk} (h : BlkRel e w x B) (l : B.Lt n) : BlkRel (e.cut n) w x B := by
 cases B with
 | cells sz rows =>
  obtain ⟨h1, h2, h3, hv, h⟩ := h
  refine ⟨h1, h2, h3, hv, fun v => ?_⟩
  obtain ⟨c, t, h4, h5, h6, h7⟩ := h v
  exact ⟨c, t, h4, h5, h6, fun i j hi hj => ⟨(h7 i j hi hj).1, (h7 i j hi hj).2.cut (l i j hi (by rw [h2 i hi]; exact hj))⟩⟩
 | map kt es =>
  obtain ⟨v, ents, h1, h2, h3⟩ := h
  exact ⟨v, ents, h1, h2, fun i hi => ⟨(h3 i hi).1, (h3 i hi).2.1, (h3 i hi).2.2.1, (h3 i hi).2.2.2.cut (l i (by omega))⟩⟩
 | siter s pos => exact h
 | miter m k seen =>
  obtain ⟨v, xm, h1, h2, h3⟩ := h
  have hm : m < n := l
  exact ⟨v, xm, by simp [Env.cut, hm, h1], h2, h3⟩

theorem Rel.lts {W0 : World} {e : Env} {σ : St} {w : World} (h : Rel W0 e σ w) {b : Nat} {B : Blk} (hb : σ.blk b = some B) : B.Lt σ.next := by
 obtain ⟨x, _, _, h3⟩ := h.own b B hb
 exact h3.lt h.dom

theorem Rel.cut {W0 : World} {e : Env} {σ : St} {w : World} (h : Rel W0 e σ w) (n : Nat) (hl : ∀ b B, b < n → σ.blk b = some B → B.Lt n) : Rel W0 (e.cut n) (σ.cut n) w := by
 have hc : ∀ b B, (σ.cut n).blk b = some B → b < n ∧ σ.blk b = some B := by
  intro b B h1
  simp only [St.cut] at h1
  split at h1
  ·rename_i hlt; exact ⟨hlt, h1⟩
  ·cases h1
 have hi : ∀ b x, (e.cut n).ι b = some x → b < n ∧ e.ι b = some x := by
  intro b x h1
  simp only [Env.cut] at h1
  split at h1
  ·rename_i hlt; exact ⟨hlt, h1⟩
  ·cases h1
 refine ⟨h.below, fun b x hx => (hi b x hx).1, h.fro, fun b x hx hv => h.inn b x (hi b x hx).2 hv, ?_, ?_⟩
 ·intro b B hB
  obtain ⟨hlt, hB'⟩ := hc b B hB
  obtain ⟨x, h1, h2, h3⟩ := h.own b B hB'
  exact ⟨x, by simp [Env.cut, hlt, h1], h2, h3.cut (hl b B hlt hB')⟩
 ·intro b1 b2 B1 B2 x1 x2 h1 h2 hne h3 h4 v1 v2
  exact h.apart b1 b2 B1 B2 x1 x2 (hc _ _ h1).2 (hc _ _ h2).2 hne (hi _ _ h3).2 (hi _ _ h4).2 v1 v2

inductive Od where
 | t (n : Nat)
 | k (a : AV)
 deriving Inhabited

abbrev Fr := Nat → AV
def ev (F : Fr) : Od → AV
 | .t n => F n
 | .k a => a
def upd (F : Fr) (d : Nat) (v : AV) : Fr := fun i => if i = d then v else F i
def put (F : Fr) (d : Option Nat) (v : AV) : Fr := match d with
 | some d => upd F d v
 | none => F

inductive CO where
 | mv (x : Od)
 | pk (c a b : Od)
 | al (z : List AV)
 | bx (x : Od)
 | bd (z : List AV) (ps : List (Nat × Nat × Od))
 | bs (own : Bool) (sz : Nat) (z : List AV) (len : Nat) (ps : List (Nat × Od))
 | ld (g : Option Nat) (x : Od)
 | st (n : Nat) (a v : Od)
 | nc (x : Od)
 | bin (op : BinOp) (tg : Nat) (x y : Od)
 | un (op : UnOp) (x : Od)
 | cv (k : IntKind) (x : Od)
 | mi (t : TypeId) (x : Od)
 | mf (f : FuncId) (cs : List Od)
 | mm (kt : Option Nat)
 | ms (sz bytes : Nat) (z : List AV) (len cap : Od)
 | sc (sz : Nat) (x : Od) (lo hi mx : Option Od)
 | fa (off : Nat) (x : Od)
 | fl (off : Nat) (g : Option Nat) (x : Od)
 | ia (sz : Nat) (x ix : Od)
 | lk (ok : Bool) (kt : Option Nat) (z : AV) (m k : Od)
 | mu (kt : Option Nat) (m k v : Od)
 | lm (m : Od)
 | rg (m : Od)
 | nx (x : Od)
 | en (x : Od)
 | ta (x : Od) (t : TypeId) (ok : Bool) (z : AV)
 | ex (x : Od) (i : Nat)
 | ln (str : Bool) (x : Od)
 | ap (sz bytes : Nat) (x y : Od)
 | mx (m : Bool) (x y : Od)
 | call (q : Bool) (f : FuncId) (args : List Od)
 | callv (q : Bool) (x : Od) (args : List Od)
 deriving Inhabited

def cst1 : Value → AV
 | .bool b => .bool b
 | .int k n => .int k n
 | .string s => .str s
 | .pointer none => .nilp
 | .slice none 0 0 => .nils
 | .map none => .nilmap
 | .nilIface => .niliface
 | v => .raw v
def cstd : Value → AV
 | .slice none 0 0 => .lit 1 []
 | v => cst1 v
def cst : Value → AV
 | .agg cs => .agg (cs.toList.map cstd)
 | v => cst1 v
def cstOk : Value → Bool
 | .agg cs => cs.toList.all Value.oneCell'
 | _ => true

structure Cfg where
 data : TypeId → Bool
 quiet : FuncId → Bool
 quietv : Nat → Bool
 own : Nat → Bool
 opn : FuncId → Bool := fun _ => false

section erase
variable (P : Program) (c : Cfg)
def od : Operand → Option Od
 | .tmp t => some (.t t)
 | .const v => if cstOk v then some (.k (cst v)) else none
 | .func f => some (.k (.func f []))
 | .global _ => none
def szOf (t : TypeId) : Option Nat := (P.info? t).map (·.size)
def aggOf (t : TypeId) : Option (Option Nat) :=
 match P.underlying t with
 | some (.struct _) | some (.array _ _) => (szOf P t).map some
 | some _ => some none
 | none => none
def zeroOf (d : Bool) (t : TypeId) : Option (List AV) := do
 let z ← (← P.info? t).zero
 if z.cells.toList.all Value.oneCell' then some (z.cells.toList.map (if d = true then cstd else cst1)) else none
def elemOf' (t : TypeId) : Option TypeId := match P.underlying t with
 | some (.slice e) => some e
 | _ => none
def fieldOf (t : TypeId) (f : Nat) : Option Field := match P.underlying t with
 | some (.struct fs) => fs[f]?
 | _ => none
def tagOf (t : TypeId) : Nat := match P.underlying t with
 | some .bool => 1
 | some (.pointer _) => 2
 | some (.slice _) => 3
 | some (.interface _) => 4
 | _ => 0
/-- The kind of a map's keys: whole numbers, rows of so many. -/
def ktOf (t : TypeId) : Option (Option Nat) := match P.underlying t with
 | some (.int .i64) => some none
 | some (.array n e) => match P.underlying e, szOf P e with
  | some (.int .i64), some 1 => some (some n)
  | _, _ => none
 | _ => none
def odO : Option Operand → Option (Option Od)
 | none => some none
 | some x => (od x).map some
def partOf (place : Nat → Option (Nat × Nat)) (ix : Nat × Operand) : Option (Nat × Nat × Od) :=
 match place ix.1, od ix.2 with
 | some (off, n), some x => some (off, n, x)
 | _, _ => none
def partIx (ix : Nat × Operand) : Option (Nat × Od) := (od ix.2).map fun x => (ix.1, x)
def er (o : Oper) : Option CO :=
 match o.op with
 | .move x | .assign x => do some (.mv (← od x))
 | .pick x y z => do some (.pk (← od x) (← od y) (← od z))
 | .alloc t => do some (.al (← zeroOf P (c.data t) t))
 | .box _ x => do some (.bx (← od x))
 | .build t ps => do
  match P.underlying t with
  | some (.struct fs) =>
   let places ← fs.toList.mapM (fun f => (P.info? f.type).map fun i => (f.offset, i.size))
   some (.bd (← zeroOf P (c.data t) t) (← ps.toList.mapM (partOf fun i => places.toArray[i]?)))
  | some (.array _ e) =>
   let i ← P.info? e
   some (.bd (← zeroOf P (c.data t) t) (← ps.toList.mapM (partOf fun j => some (j * i.size, i.size))))
  | _ => none
 | .buildSlice t len ps => do
  let e ← elemOf' P t
  let s ← szOf P e
  let z ← zeroOf P true e
  if len * s ≤ 2 ^ 24 ∧ s ≠ 0 ∧ z.length = s then some (.bs ((o.dst.map c.own).getD false) s z len (← ps.toList.mapM partIx)) else none
 | .load t x => do some (.ld (← aggOf P t) (← od x))
 | .store t x y => do some (.st (← szOf P t) (← od x) (← od y))
 | .nilCheck x => do some (.nc (← od x))
 | .binOp op t x y _ => do some (.bin op (tagOf P t) (← od x) (← od y))
 | .unOp op _ x => do some (.un op (← od x))
 | .convert s t x => do
  match P.underlying s, P.underlying t with
  | some _, some (.int k) => some (.cv k (← od x))
  | _, _ => none
 | .makeInterface t x => do
  match P.underlying t with
  | some (.interface _) | none => none
  | some _ => some (.mi t (← od x))
 | .makeFunc (.func f) first cs => do if first.isEmpty then some (.mf f (← cs.toList.mapM od)) else none
 | .makeMap t none =>
  match P.underlying t with
  | some (.map k _) => do some (.mm (← ktOf P k))
  | _ => none
 | .lookup t x ix ok =>
  match P.underlying t with
  | some (.map k el) => do
   let kt ← ktOf P k
   let z ← (← P.info? el).zero
   if cstOk z then some (.lk ok kt (cst z) (← od x) (← od ix)) else none
  | _ => none
 | .mapUpdate t x ix v =>
  match P.underlying t with
  | some (.map k _) => do some (.mu (← ktOf P k) (← od x) (← od ix) (← od v))
  | _ => none
 | .range t x =>
  match P.underlying t with
  | some (.map _ _) => do some (.rg (← od x))
  | _ => none
 | .next x false => do some (.nx (← od x))
 | .entry x => do some (.en (← od x))
 | .makeSlice t l k => do
  let e ← elemOf' P t
  let i ← P.info? e
  let z ← zeroOf P (c.data e) e
  if i.size = 0 ∨ z.length ≠ i.size then none else
  some (.ms i.size i.bytes z (← od l) (← od k))
 | .slice t x lo hi mx => do
  match P.underlying t with
  | some (.slice e) =>
   let s ← szOf P e
   if s = 0 then none else some (.sc s (← od x) (← odO lo) (← odO hi) (← odO mx))
  | some .string => some (.sc 0 (← od x) (← odO lo) (← odO hi) (← odO mx))
  | _ => none
 | .fieldAddr t x f => do
  let f ← fieldOf P t f
  if (← szOf P f.type) = 0 then none else some (.fa f.offset (← od x))
 | .field t x f => do
  let f ← fieldOf P t f
  some (.fl f.offset (← aggOf P f.type) (← od x))
 | .indexAddr t x ix => do
  let e ← elemOf' P t
  some (.ia (← szOf P e) (← od x) (← od ix))
 | .typeAssert x _ t ok => do
  match P.underlying t with
  | some (.interface _) | none => none
  | some _ =>
   let z ← (← P.info? t).zero
   if cstOk z then some (.ta (← od x) t ok (cst z)) else none
 | .extract x i => do some (.ex (← od x) i)
 | .call { callee := .builtin .len, args, argTypes } =>
  match args.toList, argTypes[0]? with
  | [x], some t => do
   match P.underlying t with
   | some .string => some (.ln true (← od x))
   | some (.slice _) => some (.ln false (← od x))
   | some (.map _ _) => some (.lm (← od x))
   | _ => none
  | _, _ => none
 | .call { callee := .builtin .append, args, argTypes } =>
  match args.toList, argTypes.toList with
  | [x, y], [t, u] => do
   let e ← elemOf' P t
   let i ← P.info? e
   let z ← i.zero
   if i.size = 0 ∨ z.cells.size ≠ i.size ∨ u ≠ t then none else
   some (.ap i.size i.bytes (← od x) (← od y))
  | _, _ => none
 | .call { callee := .builtin .max, args, .. } =>
  match args.toList with
  | [x, y] => do some (.mx true (← od x) (← od y))
  | _ => none
 | .call { callee := .builtin .min, args, .. } =>
  match args.toList with
  | [x, y] => do some (.mx false (← od x) (← od y))
  | _ => none
 | .call { callee := .value (.func f), args, .. } => do some (.call (c.quiet f) f (← args.toList.mapM od))
 | .call { callee := .value (.tmp t), args, .. } => do some (.callv (c.quietv t) (.t t) (← args.toList.mapM od))
 | _ => none
end erase

def row1 : AV → List AV
 | .agg cs => cs
 | a => [a]
def mk (g : Option Nat) (cs : List AV) (off : Nat) : AV := match g with
 | none => cs.getD off .undef
 | some n => .agg ((cs.drop off).take n)
def splice (z : List AV) (off : Nat) (cs : List AV) : List AV := z.take off ++ cs ++ z.drop (off + cs.length)
/-- A value that may be part of a row: one cell each. -/
def AV.parts : AV → Bool
 | .undef | .raw _ | .tup _ => false
 | _ => true
def fillA (F : Fr) (z : List AV) : List (Nat × Nat × Od) → Option (List AV)
 | [] => some z
 | (off, n, x) :: ps => if (row1 (ev F x)).length = n ∧ off + n ≤ z.length ∧ (ev F x).parts = true then fillA F (splice z off (row1 (ev F x))) ps else none
def fillR (F : Fr) (sz : Nat) (rows : List (List AV)) : List (Nat × Od) → Option (List (List AV))
 | [] => some rows
 | (i, x) :: ps => if (row1 (ev F x)).length = sz ∧ i < rows.length ∧ (ev F x).parts = true then fillR F sz (rows.set i (row1 (ev F x))) ps else none

/-- The cells of a slice. -/
def rowsOf (σ : St) (sz : Nat) : AV → Option (List (List AV))
 | .nils => some []
 | .emp _ _ => some []
 | .lit s rows => if s = sz then some rows else none
 | .sl b o n => match σ.blk b with
  | some (.cells s rows) => if s = sz ∧ o + n ≤ rows.length then some ((rows.drop o).take n) else none
  | _ => none
 | _ => none

def AV.num : AV → Option Int
 | .int .i64 n => some n
 | _ => none
/-- A key, as its numbers. -/
def kA : Option Nat → AV → Option (List Int)
 | none, .int .i64 n => some [n]
 | some n, .agg cs => if cs.length = n then cs.mapM AV.num else none
 | _, _ => none
def keyA : Option Nat → List Int → AV
 | none, l => .int .i64 (l.getD 0 0)
 | some _, l => .agg (l.map fun n => .int .i64 n)
/-- The place of a key. -/
def mfind (k : List Int) : List (List Int × AV) → Option Nat
 | [] => none
 | e :: es => if e.1 = k then some 0 else (mfind k es).map (· + 1)

def abin (op : BinOp) (tg : Nat) (x y : AV) (K : AV → Prop) : Prop :=
 match x, y with
 | .int k a, .int k' b => k = k' ∧
  match op with
  | .add => K (.int k (k.wrap (a + b)))
  | .sub => K (.int k (k.wrap (a - b)))
  | .mul => K (.int k (k.wrap (a * b)))
  | .quo => b ≠ 0 ∧ K (.int k (k.wrap (a.tdiv b)))
  | .rem => b ≠ 0 ∧ K (.int k (a.tmod b))
  | .and => K (.int k (bits .and k a b))
  | .eql => K (.bool (a == b))
  | .neq => K (.bool (a != b))
  | .lss => K (.bool (a < b))
  | .leq => K (.bool (a ≤ b))
  | .gtr => K (.bool (a > b))
  | .geq => K (.bool (a ≥ b))
  | _ => False
 | .str a, .str b =>
  match op with
  | .eql => K (.bool (a.toList == b.toList))
  | .neq => K (.bool !(a.toList == b.toList))
  | .add => a.size + b.size ≤ most ∧ K (.str (a ++ b))
  | _ => False
 | .bool a, .bool b => tg = 1 ∧
  match op with
  | .eql => K (.bool (a == b))
  | .neq => K (.bool !(a == b))
  | _ => False
 | .nilp, .nilp => tg = 2 ∧ (match op with | .eql => K (.bool true) | .neq => K (.bool false) | _ => False)
 | .ptr _ _ _, .nilp | .fptr _, .nilp => tg = 2 ∧ (match op with | .eql => K (.bool false) | .neq => K (.bool true) | _ => False)
 | .nils, .nils => tg = 3 ∧ (match op with | .eql => K (.bool true) | .neq => K (.bool false) | _ => False)
 | .emp _ _, .nils => tg = 3 ∧ (match op with | .eql => K (.bool false) | .neq => K (.bool true) | _ => False)
 | .lit _ rows, .nils => tg = 3 ∧ rows ≠ [] ∧ (match op with | .eql => K (.bool false) | .neq => K (.bool true) | _ => False)
 | .iface _ _, .niliface => tg = 4 ∧ (match op with | .eql => K (.bool false) | .neq => K (.bool true) | _ => False)
 | _, _ => False

/-- A function's law: called with values that stand to the small ones, it returns one that stands to 'v', in a memory that stands to 'σ''. -/
def TQ (P : Program) (f : FuncId) (args : List AV) (σ : St) (Q : AV → St → Prop) : Prop :=
 (∃ fn, P.funcs[f]? = some fn ∧ (fn.name == "runtime.NumGoroutine") = false ∧ fn.body.isNone = false) ∧
 ∀ (W0 : World) (e : Env) (w : World) (cargs : Array Value), Rel W0 e σ w → cargs.size = args.length →
  (∀ i, i < args.length → VR e (args.getD i .undef) (cargs.getD i Go.undef)) →
  Calls P f cargs w fun en w' => ∃ e' cv v σ', en = .returned cv ∧ e.le e' ∧ VR e' v cv ∧ Rel W0 e' σ' w' ∧ Q v σ'

def T (P : Program) (f : FuncId) (args : List AV) (σ : St) (v : AV) (σ' : St) : Prop := TQ P f args σ fun v' s' => v' = v ∧ s' = σ'

def asNat : AV → Option Int
 | .int _ n => some n
 | _ => none

/-- The bounds of a cut: from, to, and whether nothing is left behind 'to'. -/
def bounds (F : Fr) (n : Nat) (lo hi mx : Option Od) (K : Nat → Nat → Bool → Prop) : Prop :=
 let l := lo.map (fun x => asNat (ev F x))
 let h := hi.map (fun x => asNat (ev F x))
 let m := mx.map (fun x => asNat (ev F x))
 match l, h, m with
 | none, none, none => K 0 n false
 | some (some l), none, none => 0 ≤ l ∧ l ≤ n ∧ K l.toNat n false
 | none, some (some h), none => 0 ≤ h ∧ h ≤ n ∧ K 0 h.toNat false
 | some (some l), some (some h), none => 0 ≤ l ∧ l ≤ h ∧ h ≤ n ∧ K l.toNat h.toNat false
 | none, some (some h), some (some m) => 0 ≤ h ∧ h = m ∧ m ≤ n ∧ K 0 h.toNat true
 | some (some l), some (some h), some (some m) => 0 ≤ l ∧ l ≤ h ∧ h = m ∧ m ≤ n ∧ K l.toNat h.toNat true
 | _, _, _ => False

def aop (P : Program) (o : CO) (F : Fr) (σ : St) (K : AV → St → Prop) : Prop :=
 match o with
 | .mv x => K (ev F x) σ
 | .pk c a b => match ev F c with
  | .bool t => if t = true then K (ev F a) σ else K (ev F b) σ
  | _ => False
 | .al z => K (.ptr σ.next 0 0) (σ.push (.cells z.length [z]))
 | .bx x => (ev F x).parts = true ∧ K (.ptr σ.next 0 0) (σ.push (.cells (row1 (ev F x)).length [row1 (ev F x)]))
 | .bd z ps => match fillA F z ps with
  | some cs => K (.agg cs) σ
  | none => False
 | .bs own sz z len ps => match fillR F sz (List.replicate len z) ps with
  | some rows => if own = true then K (.sl σ.next 0 len) (σ.push (.cells sz rows)) else if len = 0 then K (.emp true sz) σ else K (.lit sz rows) σ
  | none => False
 | .ld g x => match ev F x with
  | .ptr b i off => match σ.blk b with
   | some (.cells sz rows) => i < rows.length ∧ off + g.getD 1 ≤ sz ∧ K (mk g (rows.getD i []) off) σ
   | _ => False
  | .fptr cs => g.getD 1 ≤ cs.length ∧ K (mk g cs 0) σ
  | _ => False
 | .st n a x => match ev F a with
  | .ptr b i off => match σ.blk b with
   | some (.cells sz rows) => i < rows.length ∧ off + n ≤ sz ∧ (row1 (ev F x)).length = n ∧ (ev F x).parts = true ∧
     K .undef (σ.set b (.cells sz (rows.set i (splice (rows.getD i []) off (row1 (ev F x))))))
   | _ => False
  | _ => False
 | .nc x => match ev F x with
  | .ptr b i off => K (.ptr b i off) σ
  | .fptr cs => K (.fptr cs) σ
  | _ => False
 | .bin op tg x y => abin op tg (ev F x) (ev F y) fun v => K v σ
 | .un op x => match op, ev F x with
  | .not, .bool b => K (.bool !b) σ
  | .neg, .int k n => K (.int k (k.wrap (0 - n))) σ
  | _, _ => False
 | .cv k x => match ev F x with
  | .int _ n => K (.int k (k.wrap n)) σ
  | _ => False
 | .mi t x => K (.iface t (ev F x)) σ
 | .mf f cs => K (.func f (cs.map (ev F))) σ
 | .mm kt => K (.map σ.next) (σ.push (.map kt []))
 | .ms sz bytes z len cap => match ev F len, ev F cap with
  | .int _ n, .int _ c => 0 ≤ n ∧ n ≤ c ∧ c ≤ most ∧ c * bytes ≤ most ∧ z.length = sz ∧ K (.sl σ.next 0 n.toNat) (σ.push (.cells sz (List.replicate n.toNat z)))
  | _, _ => False
 | .sc sz x lo hi mx => match ev F x with
  | .str s => sz = 0 ∧ mx.isNone = true ∧ bounds F s.size lo hi mx fun l h _ => K (.str (s.extract l h)) σ
  | .nils => sz ≠ 0 ∧ bounds F 0 lo hi mx fun _ _ _ => K .nils σ
  | .lit s rows => sz ≠ 0 ∧ s = sz ∧ bounds F rows.length lo hi mx fun l h _ => K (.lit s ((rows.drop l).take (h - l))) σ
  | .sl b o n => match σ.blk b with
   | some (.cells s _) => sz ≠ 0 ∧ s = sz ∧ bounds F n lo hi mx fun l h _ => K (.sl b (o + l) (h - l)) σ
   | _ => False
  | _ => False
 | .fa off x => match ev F x with
  | .ptr b i o => K (.ptr b i (o + off)) σ
  | .fptr cs => off ≤ cs.length ∧ K (.fptr (cs.drop off)) σ
  | _ => False
 | .fl off g x => match ev F x with
  | .agg cs => off + g.getD 1 ≤ cs.length ∧ K (mk g cs off) σ
  | _ => False
 | .ia sz x ix => match ev F x, ev F ix with
  | .lit s rows, .int _ i => s = sz ∧ 0 ≤ i ∧ i < rows.length ∧ K (.fptr (rows.getD i.toNat [])) σ
  | .sl b o n, .int _ i => match σ.blk b with
   | some (.cells s _) => s = sz ∧ 0 ≤ i ∧ i < n ∧ K (.ptr b (o + i.toNat) 0) σ
   | _ => False
  | _, _ => False
 | .ta x t ok z => match ev F x with
  | .iface u v => if u = t then (if ok = true then K (.tup [v, .bool true]) σ else K v σ) else (ok = true ∧ K (.tup [z, .bool false]) σ)
  | .niliface => ok = true ∧ K (.tup [z, .bool false]) σ
  | _ => False
 | .lk ok kt z m k => match ev F m with
  | .map b => match σ.blk b, kA kt (ev F k) with
   | some (.map kt' es), some q => kt' = kt ∧ match mfind q es with
    | some i => K (if ok = true then .tup [(es.getD i ([], .undef)).2, .bool true] else (es.getD i ([], .undef)).2) σ
    | none => K (if ok = true then .tup [z, .bool false] else z) σ
   | _, _ => False
  | _ => False
 | .mu kt m k v => match ev F m with
  | .map b => match σ.blk b, kA kt (ev F k) with
   | some (.map kt' es), some q => kt' = kt ∧ match mfind q es with
    | some i => K .undef (σ.set b (.map kt (es.set i (q, ev F v))))
    | none => K .undef (σ.set b (.map kt (es ++ [(q, ev F v)])))
   | _, _ => False
  | _ => False
 | .lm m => match ev F m with
  | .map b => match σ.blk b with
   | some (.map _ es) => K (.int .i64 es.length) σ
   | _ => False
  | _ => False
 | .rg m => match ev F m with
  | .map b => match σ.blk b with
   | some (.map _ es) => K (.iter σ.next) (σ.push (.miter b es.length []))
   | _ => False
  | _ => False
 | .en x => match ev F x with
  | .iter b => match σ.blk b with
   | some (.miter m n seen) => match σ.blk m, seen.getLast? with
    | some (.map kt es), some i => es.length = n ∧ i < n ∧ K (.tup [keyA kt (es.getD i ([], .undef)).1, (es.getD i ([], .undef)).2]) σ
    | _, _ => False
   | _ => False
  | _ => False
 | .ex x i => match ev F x with
  | .tup vs => i < vs.length ∧ K (vs.getD i .undef) σ
  | _ => False
 | .ln str x => match ev F x with
  | .str s => str = true ∧ K (.int .i64 s.size) σ
  | .nils => str = false ∧ K (.int .i64 0) σ
  | .emp _ _ => str = false ∧ K (.int .i64 0) σ
  | .lit _ rows => str = false ∧ K (.int .i64 rows.length) σ
  | .sl _ _ n => str = false ∧ K (.int .i64 n) σ
  | _ => False
 | .ap sz bytes x y => match rowsOf σ sz (ev F y) with
  | none => False
  | some ys => match ev F x with
   | .nils => ys.length ≤ most ∧ ys.length * bytes ≤ most ∧ K (.sl σ.next 0 ys.length) (σ.push (.cells sz ys))
   | .emp f s => s = sz ∧ f = true ∧ ys.length ≤ most ∧ ys.length * bytes ≤ most ∧ K (.sl σ.next 0 ys.length) (σ.push (.cells sz ys))
   | .sl b o n => match σ.blk b with
    | some (.cells s rows) => s = sz ∧ o + n ≤ rows.length ∧ n + ys.length ≤ most ∧ (n + ys.length) * bytes ≤ most ∧
      K (.sl σ.next 0 (n + ys.length)) ((σ.kill b).push (.cells sz ((rows.drop o).take n ++ ys)))
    | _ => False
   | _ => False
 | .mx m x y => match ev F x, ev F y with
  | .int k a, .int k' b => k = k' ∧ K (.int k (if m = true then max a b else min a b)) σ
  | _, _ => False
 | .call q f xs => if q = true then ∃ v, T P f (xs.map (ev F)) σ v σ ∧ K v σ else ∃ v σ', T P f (xs.map (ev F)) σ v σ' ∧ K v σ'
 | .callv q x xs => match ev F x with
  | .func f cs => if q = true then ∃ v, T P f (xs.map (ev F) ++ cs) σ v σ ∧ K v σ else ∃ v σ', T P f (xs.map (ev F) ++ cs) σ v σ' ∧ K v σ'
  | _ => False
 | _ => False

def uses (o : Oper) (t : Nat) : Prop := Operand.tmp t ∈ o.op.operands

/-- An operation, whatever is done with what it gives: asked for at the values of its own operands alone. -/
def OpT (P : Program) (o : Oper) (F : Fr) (σ : St) (v : AV) (σ' : St) : Prop :=
 ∀ (W0 : World) (e : Env) (a : Act) (w : World) (next : Act → World → Prop) (Q : Exit → Act → World → Prop), Rel W0 e σ w →
  (∀ t, uses o t → VR e (F t) (a.tmps.getD t Go.undef)) →
  (∀ e' v' w', e.le e' → Rel W0 e' σ' w' → VR e' v v' → next (a.put o.dst v') w') → o.wp P a w next Q

theorem OpT.of_run {P : Program} {o : Oper} {F : Fr} {σ : St} {v : AV} {σ' : St}
  (h : ∀ W0 e (a : Act) w, Rel W0 e σ w → (∀ t, uses o t → VR e (F t) (a.tmps.getD t Go.undef)) →
   ∃ e' v' w', e.le e' ∧ Rel W0 e' σ' w' ∧ VR e' v v' ∧ (execOp a.eval o).run P w = .ok (.value v') w') : OpT P o F σ v σ' := by
 intro W0 e a w next Q hr hf hn
 obtain ⟨e', v', w', h1, h2, h3, h4⟩ := h W0 e a w hr hf
 unfold Oper.wp
 rw [h4]
 exact hn e' v' w' h1 h2 h3

/-- One that turns nothing. -/
theorem OpT.of_pure {P : Program} {o : Oper} {F : Fr} {σ : St} {v : AV}
  (h : ∀ W0 e (a : Act) w, Rel W0 e σ w → (∀ t, uses o t → VR e (F t) (a.tmps.getD t Go.undef)) →
   ∃ v', VR e v v' ∧ (execOp a.eval o).run P w = .ok (.value v') w) : OpT P o F σ v σ :=
 .of_run fun W0 e a w hr hf => let ⟨v', h1, h2⟩ := h W0 e a w hr hf; ⟨e, v', w, .refl e, hr, h1, h2⟩

theorem VR.cst1 (e : Env) (v : Value) : VR e (cst1 v) v := by
 unfold Av.cst1
 split <;> constructor

theorem VR.cstd (e : Env) (v : Value) : VR e (cstd v) v := by
 unfold Av.cstd
 split
 ·exact .lit0 1 none 0 (fun _ => rfl)
 ·exact VR.cst1 e v

theorem VR.cst {e : Env} {v : Value} (h : cstOk v = true) : VR e (cst v) v := by
 unfold Av.cst
 split
 ·rename_i cs
  simp only [cstOk, List.all_eq_true] at h
  refine .agg _ _ (by simp) (fun i hi => ?_) (fun i hi => ?_)
  ·have hi' : i < cs.size := by simpa using hi
   rw [agetD_lt _ _ _ hi']
   exact h _ (by simp)
  ·have hi' : i < cs.size := by simpa using hi
   rw [agetD_lt _ _ _ hi', getD_lt _ _ _ hi]
   simpa using VR.cstd e cs[i]
 ·exact VR.cst1 e v

theorem od_ok {e : Env} {F : Fr} {a : Act} {x : Operand} {y : Od} (h : od x = some y) (hf : ∀ t, x = .tmp t → VR e (F t) (a.tmps.getD t Go.undef)) : VR e (ev F y) (a.eval x) := by
 cases x with
 | tmp t => simp only [od, Option.some.injEq] at h; subst h; exact hf t rfl
 | const v =>
  simp only [od] at h
  split at h
  ·rename_i hc; cases h; exact VR.cst hc
  ·cases h
 | func f => simp only [od, Option.some.injEq] at h; subst h; exact .func f [] #[] rfl (fun i hi => absurd hi (by simp))
 | «global» g => cases h

theorem mapM_cons' {α β : Type} (f : α → Option β) (x : α) (xs : List α) {ys : List β} (h : (x :: xs).mapM f = some ys) : ∃ y ys', f x = some y ∧ xs.mapM f = some ys' ∧ ys = y :: ys' := by
 simp only [List.mapM_cons, Option.bind_eq_bind, Option.bind_eq_some_iff, Option.pure_def, Option.some.injEq] at h
 obtain ⟨y, hy, ys', hys, rfl⟩ := h
 exact ⟨y, ys', hy, hys, rfl⟩

theorem ods_ok {e : Env} {F : Fr} {a : Act} : ∀ {xs : List Operand} {ys : List Od}, xs.mapM od = some ys → (∀ t, Operand.tmp t ∈ xs → VR e (F t) (a.tmps.getD t Go.undef)) →
  ys.length = xs.length ∧ ∀ i, i < ys.length → VR e ((ys.map (ev F)).getD i .undef) ((xs.map a.eval).getD i Go.undef)
 | [], ys, h, _ => by simp at h; subst h; exact ⟨rfl, fun i hi => absurd hi (by simp)⟩
 | x :: xs, ys, h, hf => by
  obtain ⟨y, ys', h1, h2, rfl⟩ := mapM_cons' od x xs h
  obtain ⟨i1, i2⟩ := ods_ok h2 (fun t ht => hf t (List.mem_cons_of_mem _ ht))
  refine ⟨by simp [i1], fun i hi => ?_⟩
  cases i with
  | zero => simpa using od_ok (F := F) h1 (fun t ht => hf t (by simp [ht]))
  | succ i => simpa using i2 i (by simpa using hi)

section
variable {P : Program} {o : Oper} {F : Fr} {σ : St}

theorem use1 {o : Oper} {F : Fr} {e : Env} {a : Act} (hf : ∀ t, uses o t → VR e (F t) (a.tmps.getD t Go.undef)) {x : Operand} (hx : x ∈ o.op.operands) {y : Od} (h : od x = some y) :
  VR e (ev F y) (a.eval x) := od_ok h (fun t ht => hf t (by subst ht; exact hx))

theorem ok_mv {x : Operand} {y : Od} (ho : o.op = .move x ∨ o.op = .assign x) (h : od x = some y) : OpT P o F σ (ev F y) σ :=
 .of_pure fun W0 e a w hr hf => ⟨a.eval x, use1 hf (by rcases ho with ho | ho <;> simp [ho, Op.operands]) h, by rcases ho with ho | ho <;> simp [execOp, ho]⟩

theorem ok_pk {c x y : Operand} {c' x' y' : Od} (ho : o.op = .pick c x y) (hc : od c = some c') (hx : od x = some x') (hy : od y = some y') {b : Bool} (hb : ev F c' = .bool b) :
  OpT P o F σ (if b = true then ev F x' else ev F y') σ := by
 refine .of_pure fun W0 e a w hr hf => ?_
 have h1 := use1 hf (x := c) (by simp [ho, Op.operands]) hc
 have h2 := use1 hf (x := x) (by simp [ho, Op.operands]) hx
 have h3 := use1 hf (x := y) (by simp [ho, Op.operands]) hy
 rw [hb] at h1
 generalize hv : a.eval c = v at h1
 cases h1
 cases b
 ·exact ⟨a.eval y, by simpa using h3, by simp [execOp, ho, hv, asBool]⟩
 ·exact ⟨a.eval x, by simpa using h2, by simp [execOp, ho, hv, asBool]⟩

/-- A world with a block more. -/
structure More (w w1 : World) (o : Obj) : Prop where
 heap : w1.heap = w.heap.push o
 os : w1.os = w.os
 tape : w1.tape = w.tape
 output : w1.output = w.output

theorem More.old {w w1 : World} {o : Obj} (h : More w w1 o) : ∀ k, k < w.heap.size → w1.heap[k]? = w.heap[k]? := by
 intro k hk; rw [h.heap, Array.getElem?_push, if_neg (by omega)]
theorem More.new {w w1 : World} {o : Obj} (h : More w w1 o) : w1.heap[w.heap.size]? = some o := by rw [h.heap]; simp
theorem More.size {w w1 : World} {o : Obj} (h : More w w1 o) : w1.heap.size = w.heap.size + 1 := by rw [h.heap]; simp
theorem More.below {W0 w w1 : World} {o : Obj} (h : More w w1 o) (hb : Below W0.heap.size W0 w) : Below W0.heap.size W0 w1 :=
 ⟨h.os.trans hb.os, h.tape.trans hb.tape, h.output.trans hb.output, by have := hb.size; rw [h.size]; omega,
  fun k hk => (h.old k (by have := hb.size; omega)).trans (hb.block k hk)⟩
theorem More.alloc (w : World) (o : Obj) : More w { w with heap := w.heap.push o } o := ⟨rfl, rfl, rfl, rfl⟩

/-- A new row of the walk's own. -/
theorem push_cells {W0 : World} {e : Env} {w w1 : World} (hr : Rel W0 e σ w) {c : Array Value} {t : TypeId} (hm : More w w1 (.cells c t (0, 0))) {sz : Nat} {rows : List (List AV)}
  (hl : ∀ i, i < rows.length → (rows.getD i []).length = sz) (hmost : rows.length ≤ most) (hs : rows.length * sz ≤ c.size)
  (h : ∀ i j, i < rows.length → j < sz → (c.getD (i * sz + j) Go.undef).oneCell' = true ∧ VR e ((rows.getD i []).getD j .undef) (c.getD (i * sz + j) Go.undef)) :
  let x : Pl := ⟨w.heap.size, 0, sz, c.size, false⟩
  e.le (e.own σ.next x) ∧ (e.own σ.next x).ι σ.next = some x ∧ Rel W0 (e.own σ.next x) (σ.push (.cells sz rows)) w1 := by
 intro x
 have l := Env.le_own hr.fresh x
 refine ⟨l, by simp [Env.own], hr.push hm.old (by rw [hm.size]; omega) (hm.below hr.below) x (fun _ => ⟨Nat.le_refl _, by rw [hm.size]; exact Nat.lt_succ_self _⟩) _ ?_⟩
 refine ⟨rfl, hl, hmost, (fun h => by cases h), fun _ => ⟨c, t, hm.new, rfl, by simpa [x] using hs, fun i j hi hj => ?_⟩⟩
 have := h i j hi hj
 simp only [x, Nat.zero_add]
 exact ⟨this.1, this.2.mono l⟩

theorem zero_cells {t : TypeId} {d : Bool} {z : List AV} (h : zeroOf P d t = some z) : ∃ i v, P.info? t = some i ∧ i.zero = some v ∧ v.cells.size = z.length ∧ (∀ e j, j < z.length → VR e (z.getD j .undef) (v.cells.getD j Go.undef)) ∧
  ∀ j, j < z.length → (v.cells.getD j Go.undef).oneCell' = true := by
 unfold zeroOf at h
 simp only [Option.bind_eq_bind, Option.bind_eq_some_iff] at h
 obtain ⟨i, h1, v, h2, h3⟩ := h
 split at h3
 ·rename_i ha
  cases h3
  simp only [List.all_eq_true] at ha
  refine ⟨i, v, h1, h2, by simp, fun e j hj => ?_, fun j hj => ?_⟩
  ·have hj' : j < v.cells.size := by simpa using hj
   rw [agetD_lt _ _ _ hj', getD_lt _ _ _ hj]
   cases d
   ·simpa using VR.cst1 e v.cells[j]
   ·simpa using VR.cstd e v.cells[j]
  ·have hj' : j < v.cells.size := by simpa using hj
   rw [agetD_lt _ _ _ hj']
   exact ha _ (by simp)
 ·cases h3

theorem ok_al {t : TypeId} {d : Bool} {z : List AV} (ho : o.op = .alloc t) (h : zeroOf P d t = some z) : OpT P o F σ (.ptr σ.next 0 0) (σ.push (.cells z.length [z])) := by
 refine .of_run fun W0 e a w hr hf => ?_
 obtain ⟨i, v, h1, h2, h3, h4, h5⟩ := zero_cells h
 have hm := More.alloc w (.cells v.cells t (0, 0))
 obtain ⟨l, hx, hR⟩ := push_cells hr hm (sz := z.length) (rows := [z]) (fun i hi => by simp at hi; subst hi; rfl) (by simp [most]) (by simp [h3])
  (fun i j hi hj => by simp at hi; subst hi; have h5' := h5 j hj; have h4' := h4 e j hj; simp at h5' h4' ⊢; exact ⟨h5', h4'⟩)
 refine ⟨_, .pointer (some ⟨w.heap.size, 0, none⟩), _, l, hR, ?_, ?_⟩
 ·have := VR.ptr σ.next 0 0 _ hx rfl; simpa using this
 ·simp [execOp, ho, Instr.alloc, zeroValue, typeInfo, h1, h2, newVar, newRow]

/-- The cells of a value that may be part of a row. -/
theorem VR.cells {e : Env} {a : AV} {v : Value} (h : VR e a v) (hp : a.parts = true) : v.cells.size = (row1 a).length ∧
  ∀ j, j < (row1 a).length → (v.cells.getD j Go.undef).oneCell' = true ∧ VR e ((row1 a).getD j .undef) (v.cells.getD j Go.undef) := by
 cases h with
 | undef v => cases hp
 | raw v => cases hp
 | tup cs vs hl _ => cases hp
 | agg cs vs hl ho h => exact ⟨hl.symm, fun j hj => ⟨ho j hj, h j hj⟩⟩
 | bool b => exact ⟨rfl, fun j hj => by simp [row1] at hj; subst hj; exact ⟨rfl, .bool b⟩⟩
 | int k n => exact ⟨rfl, fun j hj => by simp [row1] at hj; subst hj; exact ⟨rfl, .int k n⟩⟩
 | str s => exact ⟨rfl, fun j hj => by simp [row1] at hj; subst hj; exact ⟨rfl, .str s⟩⟩
 | nilp => exact ⟨rfl, fun j hj => by simp [row1] at hj; subst hj; exact ⟨rfl, .nilp⟩⟩
 | ptr b i off x h hv => exact ⟨rfl, fun j hj => by simp [row1] at hj; subst hj; exact ⟨rfl, .ptr b i off x h hv⟩⟩
 | fptr cs k off c hk hs ho h => exact ⟨rfl, fun j hj => by simp [row1] at hj; subst hj; exact ⟨rfl, .fptr cs k off c hk hs ho h⟩⟩
 | sl b off len cap x h hv hc hm ht => exact ⟨rfl, fun j hj => by simp [row1] at hj; subst hj; exact ⟨rfl, .sl b off len cap x h hv hc hm ht⟩⟩
 | sl0 b off a x h => exact ⟨rfl, fun j hj => by simp [row1] at hj; subst hj; exact ⟨rfl, .sl0 b off a x h⟩⟩
 | nils => exact ⟨rfl, fun j hj => by simp [row1] at hj; subst hj; exact ⟨rfl, .nils⟩⟩
 | emp full sz a cap hf => exact ⟨rfl, fun j hj => by simp [row1] at hj; subst hj; exact ⟨rfl, .emp full sz a cap hf⟩⟩
 | lit0 sz a cap hz => exact ⟨rfl, fun j hj => by simp [row1] at hj; subst hj; exact ⟨rfl, .lit0 sz a cap hz⟩⟩
 | lit sz rows k off cap c hk hc hm hr hs ho h => exact ⟨rfl, fun j hj => by simp [row1] at hj; subst hj; exact ⟨rfl, .lit sz rows k off cap c hk hc hm hr hs ho h⟩⟩
 | map b x h hv => exact ⟨rfl, fun j hj => by simp [row1] at hj; subst hj; exact ⟨rfl, .map b x h hv⟩⟩
 | nilmap => exact ⟨rfl, fun j hj => by simp [row1] at hj; subst hj; exact ⟨rfl, .nilmap⟩⟩
 | iter b x h hv => exact ⟨rfl, fun j hj => by simp [row1] at hj; subst hj; exact ⟨rfl, .iter b x h hv⟩⟩
 | func f cs vs hl h => exact ⟨rfl, fun j hj => by simp [row1] at hj; subst hj; exact ⟨rfl, .func f cs vs hl h⟩⟩
 | iface t a v h => exact ⟨rfl, fun j hj => by simp [row1] at hj; subst hj; exact ⟨rfl, .iface t a v h⟩⟩
 | niliface => exact ⟨rfl, fun j hj => by simp [row1] at hj; subst hj; exact ⟨rfl, .niliface⟩⟩

theorem ok_bx {t : TypeId} {x : Operand} {y : Od} (ho : o.op = .box t x) (h : od x = some y) (hp : (ev F y).parts = true) :
  OpT P o F σ (.ptr σ.next 0 0) (σ.push (.cells (row1 (ev F y)).length [row1 (ev F y)])) := by
 refine .of_run fun W0 e a w hr hf => ?_
 obtain ⟨h3, h4⟩ := (use1 hf (x := x) (by simp [ho, Op.operands]) h).cells hp
 have hm := More.alloc w (.cells (a.eval x).cells t (0, 0))
 obtain ⟨l, hx, hR⟩ := push_cells hr hm (sz := (row1 (ev F y)).length) (rows := [row1 (ev F y)]) (fun i hi => by simp at hi; subst hi; rfl) (by simp [most]) (by simp [h3])
  (fun i j hi hj => by simp at hi; subst hi; simpa using h4 j hj)
 refine ⟨_, .pointer (some ⟨w.heap.size, 0, none⟩), _, l, hR, ?_, ?_⟩
 ·have := VR.ptr σ.next 0 0 _ hx rfl; simpa using this
 ·simp [execOp, ho, Instr.box, newVar, newRow]


/-- Cells that stand to small values. -/
def CR (e : Env) (cs : List AV) (c : Array Value) : Prop := cs.length = c.size ∧ ∀ j, j < cs.length → (c.getD j Go.undef).oneCell' = true ∧ VR e (cs.getD j .undef) (c.getD j Go.undef)

theorem fold_set (vs : List Value) (off : Nat) : ∀ (k : Nat) (cells : Array Value),
  ((vs.zipIdx k).foldl (fun cs (x : Value × Nat) => cs.setIfInBounds (off + x.2) x.1) cells).size = cells.size ∧
  ∀ m, ((vs.zipIdx k).foldl (fun cs (x : Value × Nat) => cs.setIfInBounds (off + x.2) x.1) cells).getD m Go.undef =
   if off + k ≤ m ∧ m < off + k + vs.length ∧ m < cells.size then vs.getD (m - (off + k)) Go.undef else cells.getD m Go.undef := by
 induction vs with
 | nil => intro k cells; refine ⟨rfl, fun m => ?_⟩; rw [if_neg (by simp; omega)]; rfl
 | cons v vs ih =>
  intro k cells
  obtain ⟨h1, h2⟩ := ih (k + 1) (cells.setIfInBounds (off + k) v)
  simp only [List.zipIdx_cons, List.foldl_cons]
  refine ⟨by simpa using h1, fun m => ?_⟩
  rw [h2 m]
  simp only [Array.size_setIfInBounds, List.length_cons]
  by_cases hm : off + k = m
  ·subst hm
   rw [if_neg (by omega)]
   by_cases hs : off + k < cells.size
   ·rw [if_pos ⟨Nat.le_refl _, by omega, hs⟩, agetD_lt _ _ _ (by simpa using hs)]
    simp
   ·rw [if_neg (by omega)]
    rw [Array.getD, dif_neg (by simpa using hs), Array.getD, dif_neg hs]
  ·have hcell : (cells.setIfInBounds (off + k) v).getD m Go.undef = cells.getD m Go.undef := by
    simp only [Array.getD_eq_getD_getElem?, Array.getElem?_setIfInBounds, if_neg hm]
   rw [hcell]
   by_cases hc : off + (k + 1) ≤ m ∧ m < off + (k + 1) + vs.length ∧ m < cells.size
   ·rw [if_pos hc, if_pos ⟨by omega, by omega, hc.2.2⟩]
    have : m - (off + k) = (m - (off + (k + 1))) + 1 := by omega
    rw [this]; rfl
   ·rw [if_neg hc, if_neg (by omega)]

theorem splice_len (z cs : List AV) (off : Nat) (h : off + cs.length ≤ z.length) : (splice z off cs).length = z.length := by
 simp [splice]; omega
theorem splice_get (z cs : List AV) (off m : Nat) (h : off + cs.length ≤ z.length) : (splice z off cs).getD m .undef = if off ≤ m ∧ m < off + cs.length then cs.getD (m - off) .undef else z.getD m .undef := by
 unfold splice
 simp only [List.getD_eq_getElem?_getD, List.append_assoc]
 by_cases h1 : m < off
 ·rw [if_neg (by omega), List.getElem?_append_left (by simp; omega), List.getElem?_take, if_pos h1]
 ·rw [List.getElem?_append_right (by simp; omega)]
  have ht : (z.take off).length = off := by simp; omega
  rw [ht]
  by_cases h2 : m < off + cs.length
  ·rw [if_pos ⟨by omega, h2⟩, List.getElem?_append_left (by omega)]
  ·rw [if_neg (by omega), List.getElem?_append_right (by omega), List.getElem?_drop]
   congr 2; omega

theorem CR.put {e : Env} {z cs : List AV} {zc : Array Value} {v : Value} (h : CR e z zc) {off : Nat} (hl : off + cs.length ≤ z.length) (hv : v.cells.size = cs.length)
  (hc : ∀ j, j < cs.length → (v.cells.getD j Go.undef).oneCell' = true ∧ VR e (cs.getD j .undef) (v.cells.getD j Go.undef)) :
  CR e (splice z off cs) (v.cells.zipIdx.foldl (fun cs (c, j) => cs.setIfInBounds (off + j) c) zc) := by
 have hf := fold_set v.cells.toList off 0 zc
 have he : v.cells.zipIdx.foldl (fun cs (c, j) => cs.setIfInBounds (off + j) c) zc = (v.cells.toList.zipIdx 0).foldl (fun cs (x : Value × Nat) => cs.setIfInBounds (off + x.2) x.1) zc := by
  rw [← Array.foldl_toList, Array.toList_zipIdx]
 rw [he]
 refine ⟨by rw [splice_len _ _ _ hl, hf.1]; exact h.1, fun j hj => ?_⟩
 rw [splice_len _ _ _ hl] at hj
 have hsz := h.1
 rw [hf.2 j, splice_get _ _ _ _ hl]
 have hlen : v.cells.toList.length = cs.length := by simpa using hv
 by_cases hin : off ≤ j ∧ j < off + cs.length
 ·rw [if_pos ⟨by omega, by omega, by omega⟩, if_pos hin]
  have := hc (j - off) (by omega)
  have he2 : v.cells.toList.getD (j - (off + 0)) Go.undef = v.cells.getD (j - off) Go.undef := by
   simp [List.getD_eq_getElem?_getD, Array.getD_eq_getD_getElem?]
  rw [he2]; exact this
 ·rw [if_neg (by omega), if_neg hin]
  exact h.2 j hj

theorem fill_ok {e : Env} {a : Act} (place : Nat → Option (Nat × Nat)) : ∀ (ps : List (Nat × Operand)) (ps' : List (Nat × Nat × Od)) (z cs : List AV) (zc : Array Value),
  ps.mapM (partOf place) = some ps' → (∀ t, (∃ i, (i, Operand.tmp t) ∈ ps) → VR e (F t) (a.tmps.getD t Go.undef)) → CR e z zc → fillA F z ps' = some cs →
  ∃ c, Instr.fill place zc (ps.map fun (i, x) => (i, a.eval x)) = some c ∧ CR e cs c
 | [], ps', z, cs, zc, h, _, hz, hf => by simp at h; subst h; simp [fillA] at hf; subst hf; exact ⟨zc, rfl, hz⟩
 | (i, x) :: ps, ps', z, cs, zc, h, hu, hz, hf => by
  obtain ⟨y, ys, h1, h2, rfl⟩ := mapM_cons' _ _ _ h
  unfold partOf at h1
  split at h1
  ·rename_i off n x' hp hx
   cases h1
   simp only [fillA] at hf
   split at hf
   ·rename_i hc
    obtain ⟨c1, c2, c3⟩ := hc
    have hv := (od_ok (F := F) (e := e) (a := a) hx (fun t ht => hu t ⟨i, by have ht' : x = .tmp t := ht; simp [ht']⟩)).cells c3
    have hz' := hz.put (off := off) (by omega) hv.1 hv.2
    obtain ⟨c, h3, h4⟩ := fill_ok place ps ys _ cs _ h2 (fun t ⟨j, hj⟩ => hu t ⟨j, List.mem_cons_of_mem _ hj⟩) hz' hf
    refine ⟨c, ?_, h4⟩
    simp only [List.map_cons, Instr.fill, hp]
    have hsz := hz.1
    rw [if_neg (by simp only [Bool.or_eq_true, ne_eq, decide_eq_true_eq, not_or]; rw [hv.1]; omega)]
    exact h3
   ·cases hf
  ·cases h1

theorem ok_bd {t : TypeId} {d : Bool} {ps : Array (Nat × Operand)} {z : List AV} {ps' : List (Nat × Nat × Od)} {place : Nat → Option (Nat × Nat)} (ho : o.op = .build t ps) (h : zeroOf P d t = some z)
  (hplace : (∃ fs places, P.underlying t = some (.struct fs) ∧ fs.toList.mapM (fun f => (P.info? f.type).map fun i => (f.offset, i.size)) = some places ∧ place = fun i => places.toArray[i]?) ∨
   (∃ n el i, P.underlying t = some (.array n el) ∧ P.info? el = some i ∧ place = fun j => some (j * i.size, i.size)))
  (hps : ps.toList.mapM (partOf place) = some ps') {cs : List AV} (hf : fillA F z ps' = some cs) : OpT P o F σ (.agg cs) σ := by
 refine .of_pure fun W0 e a w hr hfr => ?_
 obtain ⟨i, v, h1, h2, h3, h4, h5⟩ := zero_cells h
 have hz : CR e z v.cells := ⟨h3.symm, fun j hj => ⟨h5 j hj, h4 e j hj⟩⟩
 obtain ⟨c, h6, h7⟩ := fill_ok (e := e) (a := a) place ps.toList ps' z cs v.cells hps (fun t ⟨i, hi⟩ => hfr t (by
  simp only [uses, ho, Op.operands, List.mem_toArray, List.mem_map]; exact ⟨_, hi, rfl⟩)) hz hf
 refine ⟨.agg c, .agg cs c h7.1 (fun i hi => (h7.2 i hi).1) (fun i hi => (h7.2 i hi).2), ?_⟩
 have hb : P.built t (ps.map fun (i, x) => (i, a.eval x)).toList = some c := by
  unfold Program.built
  rw [Array.toList_map]
  rcases hplace with ⟨fs, places, q1, q2, rfl⟩ | ⟨n, el, ie, q1, q2, rfl⟩
  ·simp only [h1, q1, h2, q2]; exact h6
  ·simp only [h1, q1, h2, q2]; exact h6
 simp [execOp, ho, run_build w t _ c hb]


/-- Rows that stand to cells, one behind the other. -/
def RR (e : Env) (sz : Nat) (rows : List (List AV)) (c : Array Value) : Prop :=
 (∀ i, i < rows.length → (rows.getD i []).length = sz) ∧ rows.length * sz ≤ c.size ∧
  ∀ i j, i < rows.length → j < sz → (c.getD (i * sz + j) Go.undef).oneCell' = true ∧ VR e ((rows.getD i []).getD j .undef) (c.getD (i * sz + j) Go.undef)

theorem row_at {i i' j sz : Nat} (hj : j < sz) : (i * sz ≤ i' * sz + j ∧ i' * sz + j < i * sz + sz) ↔ i' = i := by
 constructor
 ·rintro ⟨h1, h2⟩
  rcases Nat.lt_trichotomy i' i with h | h | h
  ·have := Nat.mul_le_mul_right sz (show i' + 1 ≤ i by omega)
   rw [Nat.add_mul] at this; omega
  ·exact h
  ·have := Nat.mul_le_mul_right sz (show i + 1 ≤ i' by omega)
   rw [Nat.add_mul] at this; omega
 ·rintro rfl; omega

theorem row_in {i j n sz : Nat} (hi : i < n) (hj : j < sz) : i * sz + j < n * sz := by
 have := Nat.mul_le_mul_right sz (show i + 1 ≤ n by omega)
 rw [Nat.add_mul] at this; omega

theorem lset_get (rows : List (List AV)) (i k : Nat) (r : List AV) : (rows.set i r).getD k [] = if k = i ∧ i < rows.length then r else rows.getD k [] := by
 simp only [List.getD_eq_getElem?_getD, List.getElem?_set]
 by_cases h : i = k
 ·subst h
  by_cases h2 : i < rows.length
  ·simp [h2]
  ·simp [h2]
 ·rw [if_neg h, if_neg (by omega)]

theorem RR.put {e : Env} {sz : Nat} {rows : List (List AV)} {c : Array Value} (h : RR e sz rows c) {i : Nat} (hi : i < rows.length) {r : List AV} {v : Value} (hr : r.length = sz)
  (hv : v.cells.size = r.length) (hc : ∀ j, j < r.length → (v.cells.getD j Go.undef).oneCell' = true ∧ VR e (r.getD j .undef) (v.cells.getD j Go.undef)) :
  RR e sz (rows.set i r) (v.cells.zipIdx.foldl (fun cs (c, j) => cs.setIfInBounds (i * sz + j) c) c) := by
 have hf := fold_set v.cells.toList (i * sz) 0 c
 have he : v.cells.zipIdx.foldl (fun cs (c, j) => cs.setIfInBounds (i * sz + j) c) c = (v.cells.toList.zipIdx 0).foldl (fun cs (x : Value × Nat) => cs.setIfInBounds (i * sz + x.2) x.1) c := by
  rw [← Array.foldl_toList, Array.toList_zipIdx]
 rw [he]
 obtain ⟨h1, h2, h3⟩ := h
 have hlen : v.cells.toList.length = sz := by simp [hv, hr]
 refine ⟨fun k hk => ?_, by rw [hf.1, List.length_set]; exact h2, fun k j hk hj => ?_⟩
 ·rw [lset_get]; split
  ·exact hr
  ·exact h1 k (by simpa using hk)
 ·rw [List.length_set] at hk
  have hin := row_in hk hj
  rw [hf.2, lset_get]
  by_cases hki : k = i
  ·subst hki
   rw [if_pos ⟨by omega, by omega, by omega⟩, if_pos ⟨rfl, hi⟩]
   have he2 : v.cells.toList.getD (k * sz + j - (k * sz + 0)) Go.undef = v.cells.getD j Go.undef := by
    have : k * sz + j - (k * sz + 0) = j := by omega
    simp [this, List.getD_eq_getElem?_getD, Array.getD_eq_getD_getElem?]
   rw [he2]; exact hc j (by omega)
  ·rw [if_neg (by intro hh; exact hki ((row_at hj).1 ⟨by omega, by omega⟩)), if_neg (by simp [hki])]
   exact h3 k j hk hj

theorem fillR_ok {e : Env} {a : Act} {sz : Nat} : ∀ (ps : List (Nat × Operand)) (ps' : List (Nat × Od)) (rows rows' : List (List AV)) (c : Array Value),
  ps.mapM partIx = some ps' → (∀ t, (∃ i, (i, Operand.tmp t) ∈ ps) → VR e (F t) (a.tmps.getD t Go.undef)) → RR e sz rows c → fillR F sz rows ps' = some rows' →
  rows'.length = rows.length ∧ ∃ c', Instr.fill (fun i => some (i * sz, sz)) c (ps.map fun (i, x) => (i, a.eval x)) = some c' ∧ RR e sz rows' c'
 | [], ps', rows, rows', c, h, _, hz, hf => by simp at h; subst h; simp [fillR] at hf; subst hf; exact ⟨rfl, c, rfl, hz⟩
 | (i, x) :: ps, ps', rows, rows', c, h, hu, hz, hf => by
  obtain ⟨y, ys, h1, h2, rfl⟩ := mapM_cons' _ _ _ h
  simp only [partIx, Option.map_eq_some_iff] at h1
  obtain ⟨x', hx, rfl⟩ := h1
  simp only [fillR] at hf
  split at hf
  ·rename_i hc
   obtain ⟨c1, c2, c3⟩ := hc
   have hv := (od_ok (F := F) (e := e) (a := a) hx (fun t ht => hu t ⟨i, by have ht' : x = .tmp t := ht; simp [ht']⟩)).cells c3
   have hz' := hz.put c2 c1 hv.1 hv.2
   obtain ⟨hl, c', h3, h4⟩ := fillR_ok ps ys _ rows' _ h2 (fun t ⟨j, hj⟩ => hu t ⟨j, List.mem_cons_of_mem _ hj⟩) hz' hf
   refine ⟨by simpa using hl, c', ?_, h4⟩
   simp only [List.map_cons, Instr.fill]
   have hsz := hz.2.1
   have hin := Nat.mul_le_mul_right sz (show i + 1 ≤ rows.length by omega)
   rw [Nat.add_mul] at hin
   rw [if_neg (by simp only [Bool.or_eq_true, ne_eq, decide_eq_true_eq, not_or]; rw [hv.1]; omega)]
   exact h3
  ·cases hf

theorem zero_rows {e : Env} {z : List AV} {v : Value} {sz : Nat} (hs : z.length = sz) (h3 : v.cells.size = z.length) (h4 : ∀ e j, j < z.length → VR e (z.getD j .undef) (v.cells.getD j Go.undef))
  (h5 : ∀ j, j < z.length → (v.cells.getD j Go.undef).oneCell' = true) (n m : Nat) (hnm : n ≤ m) : RR e sz (List.replicate n z) ((Array.range (m * sz)).map (v.cells[· % v.cells.size]!)) := by
 have hmul := Nat.mul_le_mul_right sz hnm
 refine ⟨fun i hi => ?_, by simpa using hmul, fun i j hi hj => ?_⟩
 ·simp only [List.length_replicate] at hi
  simp [List.getD_eq_getElem?_getD, List.getElem?_replicate, hi, hs]
 ·simp only [List.length_replicate] at hi
  have hin := row_in hi hj
  rw [agetD_lt _ _ _ (by simp; omega)]
  have hm : (i * sz + j) % v.cells.size = j := by
   rw [h3, hs, Nat.mul_comm, Nat.mul_add_mod]; exact Nat.mod_eq_of_lt hj
  have hj' : j < v.cells.size := by omega
  have e1 : v.cells[(i * sz + j) % v.cells.size]! = v.cells.getD j Go.undef := by
   rw [hm, agetD_lt _ _ _ hj', getElem!_pos v.cells j hj']
  have e2 : ((List.replicate n z).getD i []) = z := by simp [List.getD_eq_getElem?_getD, List.getElem?_replicate, hi]
  simp only [Array.getElem_map, Array.getElem_range]
  rw [e1, e2]
  exact ⟨h5 j (by omega), h4 e j (by omega)⟩

/-- A row that is made and never turned. -/
theorem ice_row {W0 : World} {e : Env} {w w1 : World} (hr : Rel W0 e σ w) {c : Array Value} {t : TypeId} (hm : More w w1 (.cells c t (0, 0))) {sz : Nat} {rows : List (List AV)} (h : RR e sz rows c) (hmost : rows.length ≤ most) :
  e.le (e.ice w.heap.size c) ∧ Rel W0 (e.ice w.heap.size c) σ w1 ∧ VR (e.ice w.heap.size c) (.lit sz rows) (.slice (some ⟨w.heap.size, 0, none⟩) rows.length rows.length) := by
 have l := Env.le_ice (hr.H_new (Nat.le_refl _)) c
 refine ⟨l, hr.ice_new hm.old (hm.below hr.below) (by rw [hm.size]; omega) _ (Nat.le_refl _) c t _ hm.new, ?_⟩
 refine .lit sz rows _ 0 _ c (by simp [Env.ice]) (Nat.le_refl _) hmost h.1 (by simpa using h.2.1) (fun i j hi hj => ?_) (fun i j hi hj => ?_)
 ·simpa using (h.2.2 i j hi hj).1
 ·simpa using (h.2.2 i j hi hj).2.mono l

theorem ok_bs {t el : TypeId} {d : Bool} {len : Nat} {ps : Array (Nat × Operand)} {sz : Nat} {z : List AV} {ps' : List (Nat × Od)} {own : Bool} (ho : o.op = .buildSlice t len ps) (ht : P.underlying t = some (.slice el))
  (hsz : szOf P el = some sz) (hz : zeroOf P d el = some z) (hlen : len * sz ≤ 2 ^ 24) (h0 : sz ≠ 0) (hzl : z.length = sz) (hps : ps.toList.mapM partIx = some ps') {rows : List (List AV)}
  (hf : fillR F sz (List.replicate len z) ps' = some rows) :
  if own = true then OpT P o F σ (.sl σ.next 0 len) (σ.push (.cells sz rows)) else if len = 0 then OpT P o F σ (.emp true sz) σ else OpT P o F σ (.lit sz rows) σ := by
 obtain ⟨i, v, h1, h2, h3, h4, h5⟩ := zero_cells hz
 have hi : i.size = sz := by simpa [szOf, h1] using hsz
 have run : ∀ W0 e (a : Act) w, Rel W0 e σ w → (∀ t, uses o t → VR e (F t) (a.tmps.getD t Go.undef)) → rows.length = len ∧ ∃ c, RR e sz rows c ∧
   (execOp a.eval o).run P w = .ok (.value (.slice (some ⟨w.heap.size, 0, none⟩) len len)) { w with heap := w.heap.push (.cells c el (0, 0)) } := by
  intro W0 e a w hr hfr
  obtain ⟨hl, c, h6, h7⟩ := fillR_ok (e := e) (a := a) ps.toList ps' _ rows _ hps (fun t ⟨i, hi⟩ => hfr t (by
   simp only [uses, ho, Op.operands, List.mem_toArray, List.mem_map]; exact ⟨_, hi, rfl⟩)) (zero_rows hzl h3 h4 h5 len len (Nat.le_refl _)) hf
  rw [List.length_replicate] at hl
  refine ⟨hl, c, h7, ?_⟩
  have hbig : ¬ (len * sz > 2 ^ 24) := by omega
  by_cases hn : len * sz = 0
  ·have hl0 : len = 0 := by rcases Nat.mul_eq_zero.1 hn with h | h; exact h; exact absurd h h0
   subst hl0
   have hz0 : (Array.range (0 * sz)).map (v.cells[· % v.cells.size]!) = (#[] : Array Value) := by simp
   rw [hz0] at h6
   simp [execOp, ho, Instr.buildSlice, run_underlying ht, sizeOf, typeInfo, h1, hi, newRow, Array.range_zero', h6]
  ·simp [execOp, ho, Instr.buildSlice, run_underlying ht, sizeOf, typeInfo, zeroValue, h1, hi, h2, newRow, hbig, hn, h6]
 cases own
 ·rw [if_neg (by simp)]
  split
  ·rename_i hl0
   refine .of_run fun W0 e a w hr hfr => ?_
   obtain ⟨hl, c, h6, h7⟩ := run W0 e a w hr hfr
   obtain ⟨l, hR, _⟩ := ice_row hr (More.alloc w (.cells c el (0, 0))) h6 (by simp only [most]; omega)
   subst hl0
   exact ⟨_, _, _, l, hR, .emp true sz _ 0 (fun _ => rfl), h7⟩
  ·refine .of_run fun W0 e a w hr hfr => ?_
   obtain ⟨hl, c, h6, h7⟩ := run W0 e a w hr hfr
   have hmost : rows.length ≤ most := by
    have : len ≤ len * sz := Nat.le_mul_of_pos_right _ (by omega)
    simp only [most]; omega
   obtain ⟨l, hR, hv⟩ := ice_row hr (More.alloc w (.cells c el (0, 0))) h6 hmost
   rw [hl] at hv
   exact ⟨_, _, _, l, hR, hv, h7⟩
 ·refine .of_run fun W0 e a w hr hfr => ?_
  obtain ⟨hl, c, h6, h7⟩ := run W0 e a w hr hfr
  have hmost : rows.length ≤ most := by
   have : len ≤ len * sz := Nat.le_mul_of_pos_right _ (by omega)
   simp only [most]; omega
  obtain ⟨l, hx, hR⟩ := push_cells hr (More.alloc w (.cells c el (0, 0))) h6.1 hmost h6.2.1 h6.2.2
  refine ⟨_, _, _, l, hR, ?_, h7⟩
  have := VR.sl σ.next 0 len len _ hx rfl (Nat.le_refl _) (by omega) (by have := h6.2.1; rw [hl] at this; simpa using this)
  simpa using this

end
section
variable {P : Program} {o : Oper} {F : Fr} {σ : St}

/-- A read of memory that stands to small values. -/
theorem run_ld {e : Env} {w : World} {t : TypeId} {g : Option Nat} (hg : aggOf P t = some g) {k p : Nat} {c : Array Value} {el : TypeId} {fr : Nat × Nat} (hk : w.heap[k]? = some (.cells c el fr))
  {cs : List AV} {off : Nat} (hs : off + g.getD 1 ≤ cs.length) (hp : p + g.getD 1 ≤ c.size)
  (h : ∀ j, j < g.getD 1 → (c.getD (p + j) Go.undef).oneCell' = true ∧ VR e (cs.getD (off + j) .undef) (c.getD (p + j) Go.undef)) :
  ∃ v, VR e (mk g cs off) v ∧ (Instr.loadAt t (.pointer (some ⟨k, p, none⟩))).run P w = .ok v w := by
 unfold aggOf at hg
 have hcell : ∀ j, j < g.getD 1 → w.cell? ⟨k, p + j, none⟩ = some (c.getD (p + j) Go.undef) := by
  intro j hj
  have : p + j < c.size := by omega
  simp [World.cell?, hk, this]
 split at hg
 ·rename_i fs hu
  simp only [szOf, Option.map_map, Option.map_eq_some_iff, Function.comp] at hg
  obtain ⟨i, hi, rfl⟩ := hg
  simp only [Option.getD_some] at *
  have hl := run_loadCells (P := P) w ⟨k, p, none⟩ i.size (fun j => c.getD (p + j) Go.undef) (fun j hj => by rw [Addr.add_lit]; exact hcell j hj)
  refine ⟨.agg ((List.range i.size).map fun j => c.getD (p + j) Go.undef).toArray, .agg _ _ (by simp; omega) (fun j hj => ?_) (fun j hj => ?_), ?_⟩
  ·have hj' : j < i.size := by simp at hj; omega
   rw [agetD_lt _ _ _ (by simpa using hj')]; simpa using (h j hj').1
  ·have hj' : j < i.size := by simp at hj; omega
   rw [agetD_lt _ _ _ (by simpa using hj')]
   have := (h j hj').2
   simp [List.getD_eq_getElem?_getD, List.getElem?_take, hj', List.getElem?_drop] at this ⊢
   exact this
  ·simp [Instr.loadAt, Instr.sureAddr, loadVar, isAgg, run_underlying hu, sizeOf, typeInfo, hi, hl]
 ·rename_i n el hu
  simp only [szOf, Option.map_map, Option.map_eq_some_iff, Function.comp] at hg
  obtain ⟨i, hi, rfl⟩ := hg
  simp only [Option.getD_some] at *
  have hl := run_loadCells (P := P) w ⟨k, p, none⟩ i.size (fun j => c.getD (p + j) Go.undef) (fun j hj => by rw [Addr.add_lit]; exact hcell j hj)
  refine ⟨.agg ((List.range i.size).map fun j => c.getD (p + j) Go.undef).toArray, .agg _ _ (by simp; omega) (fun j hj => ?_) (fun j hj => ?_), ?_⟩
  ·have hj' : j < i.size := by simp at hj; omega
   rw [agetD_lt _ _ _ (by simpa using hj')]; simpa using (h j hj').1
  ·have hj' : j < i.size := by simp at hj; omega
   rw [agetD_lt _ _ _ (by simpa using hj')]
   have := (h j hj').2
   simp [List.getD_eq_getElem?_getD, List.getElem?_take, hj', List.getElem?_drop] at this ⊢
   exact this
  ·simp [Instr.loadAt, Instr.sureAddr, loadVar, isAgg, run_underlying hu, sizeOf, typeInfo, hi, hl]
 ·rename_i d hd1 hd2 hu
  cases hg
  simp only [Option.getD_none] at *
  have hc0 := hcell 0 (by omega)
  have h0 := (h 0 (by omega)).2
  simp only [Nat.add_zero] at hc0 h0
  refine ⟨_, h0, ?_⟩
  cases d <;> first
   | (exact absurd rfl (hd1 _))
   | (exact absurd rfl (hd2 _ _))
   | simp [Instr.loadAt, Instr.sureAddr, loadVar, isAgg, run_underlying hu, hc0]
 ·cases hg

theorem Rel.cellsAt {W0 : World} {e : Env} {w : World} (hr : Rel W0 e σ w) {b sz : Nat} {rows : List (List AV)} (hb : σ.blk b = some (.cells sz rows)) {x : Pl} (hx : e.ι b = some x) :
  x.sz = sz ∧ (∀ i, i < rows.length → (rows.getD i []).length = sz) ∧ rows.length ≤ most ∧ (x.v = false → ∃ c t, w.heap[x.k]? = some (.cells c t (0, 0)) ∧ c.size = x.tot ∧ x.o + rows.length * sz ≤ x.tot ∧
   ∀ i j, i < rows.length → j < sz → (c.getD (x.o + i * sz + j) Go.undef).oneCell' = true ∧ VR e ((rows.getD i []).getD j .undef) (c.getD (x.o + i * sz + j) Go.undef)) := by
 obtain ⟨y, h1, _, h3⟩ := hr.own b _ hb
 rw [hx] at h1; cases h1
 exact ⟨h3.1, h3.2.1, h3.2.2.1, h3.2.2.2.2⟩

theorem ok_ld_ptr {t : TypeId} {x : Operand} {y : Od} {g : Option Nat} (ho : o.op = .load t x) (hg : aggOf P t = some g) (hx : od x = some y) {b i off sz : Nat} {rows : List (List AV)}
  (hy : ev F y = .ptr b i off) (hb : σ.blk b = some (.cells sz rows)) (hi : i < rows.length) (hs : off + g.getD 1 ≤ sz) : OpT P o F σ (mk g (rows.getD i []) off) σ := by
 refine .of_pure fun W0 e a w hr hf => ?_
 have h1 := use1 hf (x := x) (by simp [ho, Op.operands]) hx
 rw [hy] at h1
 generalize hv : a.eval x = v at h1
 cases h1 with
 | ptr _ _ _ q hq hqv =>
  obtain ⟨r1, r2, r3, r4⟩ := hr.cellsAt hb hq
  obtain ⟨c, el, r5, r6, r7, r8⟩ := r4 hqv
  subst r1
  have hin := Nat.mul_le_mul_right q.sz (show i + 1 ≤ rows.length by omega)
  rw [Nat.add_mul] at hin
  obtain ⟨v, h2, h3⟩ := run_ld (P := P) hg r5 (p := q.o + i * q.sz + off) (cs := rows.getD i []) (off := off) (by rw [r2 i hi]; exact hs) (by omega) (fun j hj => by
   have := r8 i (off + j) hi (by omega)
   rw [show q.o + i * q.sz + off + j = q.o + i * q.sz + (off + j) by omega]; exact this)
  exact ⟨v, h2, by simp [execOp, ho, hv, h3]⟩

theorem ok_ld_fptr {t : TypeId} {x : Operand} {y : Od} {g : Option Nat} (ho : o.op = .load t x) (hg : aggOf P t = some g) (hx : od x = some y) {cs : List AV}
  (hy : ev F y = .fptr cs) (hs : g.getD 1 ≤ cs.length) : OpT P o F σ (mk g cs 0) σ := by
 refine .of_pure fun W0 e a w hr hf => ?_
 have h1 := use1 hf (x := x) (by simp [ho, Op.operands]) hx
 rw [hy] at h1
 generalize hv : a.eval x = v at h1
 cases h1 with
 | fptr _ k off c hk hc hoc h =>
  obtain ⟨el, fr, r5⟩ := hr.fro k c hk
  obtain ⟨v, h2, h3⟩ := run_ld (P := P) hg r5 (p := off) (cs := cs) (off := 0) (by omega) (by omega) (fun j hj => by
   have h1 := h j (by omega)
   have h2 := hoc j (by omega)
   exact ⟨h2, by simpa using h1⟩)
  exact ⟨v, h2, by simp [execOp, ho, hv, h3]⟩

theorem seg_get (c : Array Value) (vs : List Value) (p m : Nat) (h : p + vs.length ≤ c.size) :
  (c.toList.take p ++ vs ++ c.toList.drop (p + vs.length)).toArray.getD m Go.undef = if p ≤ m ∧ m < p + vs.length then vs.getD (m - p) Go.undef else c.getD m Go.undef := by
 simp only [Array.getD_eq_getD_getElem?, List.getElem?_toArray, List.append_assoc]
 by_cases h1 : m < p
 ·rw [if_neg (by omega), List.getElem?_append_left (by simp; omega), List.getElem?_take, if_pos h1]; simp
 ·rw [List.getElem?_append_right (by simp; omega)]
  have ht : (c.toList.take p).length = p := by simp; omega
  rw [ht]
  by_cases h2 : m < p + vs.length
  ·rw [if_pos ⟨by omega, h2⟩, List.getElem?_append_left (by omega), List.getD_eq_getElem?_getD]
  ·rw [if_neg (by omega), List.getElem?_append_right (by omega), List.getElem?_drop]
   simp only [Array.getElem?_toList]
   congr 2; omega
theorem seg_size (c : Array Value) (vs : List Value) (p : Nat) (h : p + vs.length ≤ c.size) : (c.toList.take p ++ vs ++ c.toList.drop (p + vs.length)).toArray.size = c.size := by
 simp; omega

theorem below_setRow {W0 w : World} (hb : Below W0.heap.size W0 w) {g : Nat} (hg : W0.heap.size ≤ g) (cs : Array Value) : Below W0.heap.size W0 (w.setRow g cs) :=
 ⟨hb.os, hb.tape, hb.output, by have := hb.size; simp [World.setRow]; exact this, fun k hk => (setRow_other w g k cs (by omega)).trans (hb.block k hk)⟩

theorem ok_st {t : TypeId} {x y : Operand} {x' y' : Od} {n : Nat} (ho : o.op = .store t x y) (hn : szOf P t = some n) (hx : od x = some x') (hy : od y = some y') {b i off sz : Nat} {rows : List (List AV)}
  (hxe : ev F x' = .ptr b i off) (hb : σ.blk b = some (.cells sz rows)) (hi : i < rows.length) (hs : off + n ≤ sz) (hl : (row1 (ev F y')).length = n) (hp : (ev F y').parts = true) :
  OpT P o F σ .undef (σ.set b (.cells sz (rows.set i (splice (rows.getD i []) off (row1 (ev F y')))))) := by
 intro W0 e a w next Q hr hf hnext
 have h1 := use1 hf (x := x) (by simp [ho, Op.operands]) hx
 have h2 := (use1 hf (x := y) (by simp [ho, Op.operands]) hy).cells hp
 rw [hxe] at h1
 generalize hv : a.eval x = v at h1
 cases h1 with
 | ptr _ _ _ q hq hqv =>
  obtain ⟨r1, r2, r3, r4⟩ := hr.cellsAt hb hq
  obtain ⟨c, el, r5, r6, r7, r8⟩ := r4 hqv
  subst r1
  simp only [szOf, Option.map_eq_some_iff] at hn
  obtain ⟨ti, hti, htn⟩ := hn
  have hin := Nat.mul_le_mul_right q.sz (show i + 1 ≤ rows.length by omega)
  rw [Nat.add_mul] at hin
  have hlen : (a.eval y).cells.toList.length = n := by simp [h2.1, hl]
  have hfit : q.o + i * q.sz + off + (a.eval y).cells.toList.length ≤ c.size := by omega
  have hst := run_storeCells_at P q.k (q.o + i * q.sz + off) el (a.eval y).cells.toList 0 c w r5 (by simpa using hfit) (fun v hv => by
   obtain ⟨j, hj, rfl⟩ := List.getElem_of_mem hv
   have := (h2.2 j (by omega)).1
   have hj' : j < (a.eval y).cells.size := by simpa using hj
   rw [agetD_lt _ _ _ hj'] at this
   simpa using this)
  simp only [Nat.add_zero] at hst
  unfold Oper.wp
  have hrun : (execOp a.eval o).run P w = .ok .skip (w.setRow q.k (c.toList.take (q.o + i * q.sz + off) ++ (a.eval y).cells.toList ++ c.toList.drop (q.o + i * q.sz + off + (a.eval y).cells.toList.length)).toArray) := by
   have hsz : (a.eval y).cells.size = ti.size := by rw [htn, h2.1, hl]
   simp [execOp, ho, hv, Instr.storeAt, Instr.sureAddr, storeVar, sizeOf, typeInfo, hti, hsz]
   simp at hst
   simp [hst, hsz]
  rw [hrun]
  refine hnext e Go.undef _ (.refl e) ?_ (.undef _)
  have hW := hr.inn b q hq hqv
  refine hr.set hb hq hqv (fun k hk => setRow_other w q.k k _ hk) (by simp [World.setRow]) (below_setRow hr.below hW.1 _) _ ?_
  refine ⟨rfl, fun k hk => ?_, by simpa using r3, (fun hh => by rw [hqv] at hh; cases hh), fun _ => ⟨_, el, setRow_heap w q.k c _ el (0, 0) r5, ?_, by simpa using r7, fun k j hk hj => ?_⟩⟩
  ·rw [List.length_set] at hk
   rw [lset_get]; split
   ·rw [splice_len _ _ _ (by rw [r2 i hi, hl]; exact hs)]; exact r2 i hi
   ·exact r2 k hk
  ·rw [seg_size _ _ _ hfit]; exact r6
  ·rw [List.length_set] at hk
   rw [seg_get _ _ _ _ hfit, lset_get, hlen]
   by_cases hki : k = i
   ·subst hki
    rw [if_pos (show k = k ∧ k < rows.length from ⟨rfl, hk⟩), splice_get _ _ _ _ (by rw [r2 k hi, hl]; exact hs), hl]
    by_cases hin2 : off ≤ j ∧ j < off + n
    ·rw [if_pos (by omega), if_pos hin2]
     have := h2.2 (j - off) (by omega)
     have e2 : (a.eval y).cells.toList.getD (q.o + k * q.sz + j - (q.o + k * q.sz + off)) Go.undef = (a.eval y).cells.getD (j - off) Go.undef := by
      rw [show q.o + k * q.sz + j - (q.o + k * q.sz + off) = j - off by omega]
      simp [List.getD_eq_getElem?_getD, Array.getD_eq_getD_getElem?]
     rw [e2]; exact this
    ·rw [if_neg (by omega), if_neg hin2]
     exact r8 k j hk hj
   ·rw [if_neg (show ¬ (k = i ∧ i < rows.length) from fun h => hki h.1), if_neg (by
     intro hh; exact hki ((row_at (i := i) (i' := k) (sz := q.sz) hj).1 ⟨by omega, by omega⟩))]
    exact r8 k j hk hj

end
section
variable {P : Program} {o : Oper} {F : Fr} {σ : St}

theorem equalIn_slice (d : Nat) (w : World) {t e : TypeId} (h : P.underlying t = some (.slice e)) (a : Option Addr) (n c n' c' : Nat) : (Op.equalIn (d + 1) t (.slice a n c) (.slice none n' c')).run P w = .ok a.isNone w := by
 cases a <;> simp [Op.equalIn, run_underlying h]
theorem equal_slice (w : World) {t e : TypeId} (h : P.underlying t = some (.slice e)) (a : Option Addr) (n c n' c' : Nat) : (Op.equal t (.slice a n c) (.slice none n' c')).run P w = .ok a.isNone w := equalIn_slice 9999 w h a n c n' c'
theorem equalIn_ptr (d : Nat) (w : World) {t e : TypeId} (h : P.underlying t = some (.pointer e)) (a : Option Addr) : (Op.equalIn (d + 1) t (.pointer a) (.pointer none)).run P w = .ok a.isNone w := by
 cases a <;> simp [Op.equalIn, run_underlying h]
theorem equal_ptr (w : World) {t e : TypeId} (h : P.underlying t = some (.pointer e)) (a : Option Addr) : (Op.equal t (.pointer a) (.pointer none)).run P w = .ok a.isNone w := equalIn_ptr 9999 w h a
theorem equalIn_bool (d : Nat) (w : World) {t : TypeId} (h : P.underlying t = some .bool) (a b : Bool) : (Op.equalIn (d + 1) t (.bool a) (.bool b)).run P w = .ok (a == b) w := by
 simp [Op.equalIn, run_underlying h]
theorem equal_bool (w : World) {t : TypeId} (h : P.underlying t = some .bool) (a b : Bool) : (Op.equal t (.bool a) (.bool b)).run P w = .ok (a == b) w := equalIn_bool 9999 w h a b
theorem equalIn_iface (d : Nat) (w : World) {t : TypeId} {ms} (h : P.underlying t = some (.interface ms)) (u : TypeId) (v : Value) : (Op.equalIn (d + 1) t (.iface u v) .nilIface).run P w = .ok false w := by
 simp [Op.equalIn, run_underlying h]
theorem equal_iface (w : World) {t : TypeId} {ms} (h : P.underlying t = some (.interface ms)) (u : TypeId) (v : Value) : (Op.equal t (.iface u v) .nilIface).run P w = .ok false w := equalIn_iface 9999 w h u v

theorem tag1 {t : TypeId} (h : tagOf P t = 1) : P.underlying t = some .bool := by unfold tagOf at h; split at h <;> first | assumption | simp at h
theorem tag2 {t : TypeId} (h : tagOf P t = 2) : ∃ e, P.underlying t = some (.pointer e) := by unfold tagOf at h; split at h <;> first | exact ⟨_, by assumption⟩ | simp at h
theorem tag3 {t : TypeId} (h : tagOf P t = 3) : ∃ e, P.underlying t = some (.slice e) := by unfold tagOf at h; split at h <;> first | exact ⟨_, by assumption⟩ | simp at h
theorem tag4 {t : TypeId} (h : tagOf P t = 4) : ∃ e, P.underlying t = some (.interface e) := by unfold tagOf at h; split at h <;> first | exact ⟨_, by assumption⟩ | simp at h

theorem guard_of (op : BinOp) (t : TypeId) (x y : Operand) (a b : Value) (h : a ≠ .nilIface) (h' : ∀ c, a ≠ .agg c) (w : World) : (eqGuard op t x y a b).run P w = .ok () w := by
 cases a <;> first
  | (exact absurd rfl h)
  | (exact absurd rfl (h' _))
  | (cases op <;> rfl)

theorem abin_ok {op : BinOp} {t : TypeId} {a b : AV} {K : AV → Prop} (h : abin op (tagOf P t) a b K) : ∃ r, K r ∧ ∀ (e : Env) (va vb : Value) (x y : Operand) (w : World), VR e a va → VR e b vb →
  ∃ rv, VR e r rv ∧ (do eqGuard op t x y va vb; binOp op t va vb : Sem Value).run P w = .ok rv w := by
 unfold abin at h
 split at h
 ·rename_i k a k' b
  obtain ⟨rfl, h⟩ := h
  have fin : ∀ r rv, K r → (∀ e, VR e r rv) → (∀ w, (binOp op t (.int k a) (.int k b)).run P w = .ok rv w) → ∃ r, K r ∧ ∀ (e : Env) (va vb : Value) (x y : Operand) (w : World), VR e (.int k a) va → VR e (.int k b) vb →
   ∃ rv, VR e r rv ∧ (do eqGuard op t x y va vb; binOp op t va vb : Sem Value).run P w = .ok rv w := by
   intro r rv hK hv hb
   refine ⟨r, hK, fun e va vb x y w h1 h2 => ⟨rv, hv e, ?_⟩⟩
   cases h1; cases h2
   simp [guard_of op t x y (.int k a) (.int k b) (by simp) (by simp) w, hb w]
  cases op <;> simp only at h <;> first
   | (refine fin _ _ h (fun e => .int _ _) (fun w => ?_); simp [binOp, Op.intArith]; done)
   | (refine fin _ _ h.2 (fun e => .int _ _) (fun w => ?_); simp [binOp, Op.intDiv, h.1]; done)
   | (refine fin _ _ h (fun e => .bool _) (fun w => ?_); simp [binOp, Op.intCmp]; done)
   | (refine fin _ _ h (fun e => .int _ _) (fun w => ?_); simp only [binOp, ne_eq, not_true_eq_false, if_false]; rfl)
   | (exact h.elim)
 ·rename_i a b
  have fin : ∀ r rv, K r → (∀ e, VR e r rv) → (∀ w, (binOp op t (.string a) (.string b)).run P w = .ok rv w) → ∃ r, K r ∧ ∀ (e : Env) (va vb : Value) (x y : Operand) (w : World), VR e (.str a) va → VR e (.str b) vb →
   ∃ rv, VR e r rv ∧ (do eqGuard op t x y va vb; binOp op t va vb : Sem Value).run P w = .ok rv w := by
   intro r rv hK hv hb
   refine ⟨r, hK, fun e va vb x y w h1 h2 => ⟨rv, hv e, ?_⟩⟩
   cases h1; cases h2
   simp [guard_of op t x y (.string a) (.string b) (by simp) (by simp) w, hb w]
  cases op <;> simp only at h <;> first
   | (refine fin _ _ h.2 (fun e => .str _) (fun w => ?_)
      have h1 := h.1
      simp only [most] at h1
      have : ¬ (((a.size + b.size : Nat) : Int) > IntKind.i64.max) := by rw [IntKind.max_i64]; omega
      simp only [binOp, Op.stringOp, this, if_false]; rfl)
   | (refine fin _ _ h (fun e => .bool _) (fun w => ?_); simp [binOp, Op.stringOp]; done)
   | (exact h.elim)
 ·rename_i a b
  obtain ⟨ht, h⟩ := h
  have hu := tag1 ht
  cases op <;> simp only at h <;> first
   | (refine ⟨_, h, fun e va vb x y w h1 h2 => ⟨_, .bool _, ?_⟩⟩
      cases h1; cases h2
      simp [guard_of _ t x y (.bool a) (.bool b) (by simp) (by simp) w, binOp, equal_bool w hu])
   | (exact h.elim)
 ·obtain ⟨ht, h⟩ := h
  obtain ⟨el, hu⟩ := tag2 ht
  cases op <;> simp only at h <;> first
   | (refine ⟨_, h, fun e va vb x y w h1 h2 => ⟨_, .bool _, ?_⟩⟩
      cases h1; cases h2
      simp [guard_of _ t x y (.pointer none) (.pointer none) (by simp) (by simp) w, binOp, equal_ptr w hu])
   | (exact h.elim)
 ·obtain ⟨ht, h⟩ := h
  obtain ⟨el, hu⟩ := tag2 ht
  cases op <;> simp only at h <;> first
   | (refine ⟨_, h, fun e va vb x y w h1 h2 => ⟨_, .bool _, ?_⟩⟩
      cases h1; cases h2
      simp [guard_of _ t x y (.pointer (some _)) (.pointer none) (by simp) (by simp) w, binOp, equal_ptr w hu])
   | (exact h.elim)
 ·obtain ⟨ht, h⟩ := h
  obtain ⟨el, hu⟩ := tag2 ht
  cases op <;> simp only at h <;> first
   | (refine ⟨_, h, fun e va vb x y w h1 h2 => ⟨_, .bool _, ?_⟩⟩
      cases h1; cases h2
      simp [guard_of _ t x y (.pointer (some _)) (.pointer none) (by simp) (by simp) w, binOp, equal_ptr w hu])
   | (exact h.elim)
 ·obtain ⟨ht, h⟩ := h
  obtain ⟨el, hu⟩ := tag3 ht
  cases op <;> simp only at h <;> first
   | (refine ⟨_, h, fun e va vb x y w h1 h2 => ⟨_, .bool _, ?_⟩⟩
      cases h1; cases h2
      simp [guard_of _ t x y (.slice none 0 0) (.slice none 0 0) (by simp) (by simp) w, binOp, equal_slice w hu])
   | (exact h.elim)
 ·obtain ⟨ht, h⟩ := h
  obtain ⟨el, hu⟩ := tag3 ht
  cases op <;> simp only at h <;> first
   | (refine ⟨_, h, fun e va vb x y w h1 h2 => ⟨_, .bool _, ?_⟩⟩
      cases h1; cases h2
      simp [guard_of _ t x y (.slice (some _) _ _) (.slice none 0 0) (by simp) (by simp) w, binOp, equal_slice w hu])
   | (exact h.elim)
 ·obtain ⟨ht, hne, h⟩ := h
  obtain ⟨el, hu⟩ := tag3 ht
  cases op <;> simp only at h <;> first
   | (refine ⟨_, h, fun e va vb x y w h1 h2 => ⟨_, .bool _, ?_⟩⟩
      cases h2
      cases h1 with
      | lit0 => exact absurd rfl hne
      | lit => simp [guard_of _ t x y (.slice (some _) _ _) (.slice none 0 0) (by simp) (by simp) w, binOp, equal_slice w hu])
   | (exact h.elim)
 ·obtain ⟨ht, h⟩ := h
  obtain ⟨el, hu⟩ := tag4 ht
  cases op <;> simp only at h <;> first
   | (refine ⟨_, h, fun e va vb x y w h1 h2 => ⟨_, .bool _, ?_⟩⟩
      cases h2
      cases h1
      simp [guard_of _ t x y (.iface _ _) .nilIface (by simp) (by simp) w, binOp, equal_iface w hu])
   | (exact h.elim)
 ·exact h.elim

theorem ok_bin {op : BinOp} {t u : TypeId} {x y : Operand} {x' y' : Od} {K : AV → Prop} (ho : o.op = .binOp op t x y u) (hx : od x = some x') (hy : od y = some y')
  (h : abin op (tagOf P t) (ev F x') (ev F y') K) : ∃ r, OpT P o F σ r σ ∧ K r := by
 obtain ⟨r, hK, hr⟩ := abin_ok h
 refine ⟨r, .of_pure fun W0 e a w hrel hf => ?_, hK⟩
 obtain ⟨rv, h1, h2⟩ := hr e (a.eval x) (a.eval y) x y w (use1 hf (by simp [ho, Op.operands]) hx) (use1 hf (by simp [ho, Op.operands]) hy)
 refine ⟨rv, h1, ?_⟩
 simp only [Sem.run_bind] at h2
 cases hq : (eqGuard op t x y (a.eval x) (a.eval y)).run P w with
 | halt c w' => rw [hq] at h2; cases h2
 | ok u w' =>
  rw [hq] at h2
  simp only [Result.andThen_ok] at h2
  simp [execOp, ho, hq, h2]

end
end Go.Av
