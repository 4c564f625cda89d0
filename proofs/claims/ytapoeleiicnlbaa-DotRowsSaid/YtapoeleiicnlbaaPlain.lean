/- Plain words about shapes: what a shape's numbers are, over lists of whole numbers, without any program. -/
import Derived.Test.YtapoeleiicnlbaaWWords
namespace Go.Proofs.Ytapoeleiicnlbaa.Plain
open Go.RowKit Go.Proofs.YtapoeleiicnlbaaW.PrintWords

theorem w64 {n : Int} (h0 : -9223372036854775808 ≤ n) (h1 : n ≤ 9223372036854775807) : wrap64 n = n := by
  unfold wrap64; omega

/-! ### Reading a list by an index -/
theorem rd_mid (pre : List Int) (x : Int) (post : List Int) : rd (pre ++ x :: post) (pre.length : Int) = x := by
  unfold rd
  simp

theorem rd_nat (l : List Int) (i : Nat) (h : i < l.length) : rd l (i : Int) = l[i] := by
  unfold rd
  simp [h]

theorem len_mid {α : Type} (pre : List α) (x : α) (post : List α) : ((pre ++ x :: post).length : Int) = (pre.length : Int) + 1 + post.length := by
  simp; omega

theorem app_snoc {α : Type} (pre : List α) (x : α) (post : List α) : pre ++ x :: post = (pre ++ [x]) ++ post := by simp

theorem set_mid {α : Type} (pre : List α) (x y : α) (post : List α) : (pre ++ x :: post).set pre.length y = pre ++ y :: post := by
  simp

/-! ### Ev: words beside the kit's -/
theorem Ev.ret {α : Type} {g : Nat → Option α} {r : α} (h : ∀ k, g k = some r) : Ev g r := ⟨0, fun k _ => h k⟩
theorem Ev.one {α : Type} {g : Nat → Option α} {r : α} (h : ∀ k, g (k + 1) = some r) : Ev g r :=
  ⟨1, fun k hk => by obtain ⟨m, rfl⟩ : ∃ m, k = m + 1 := ⟨k - 1, by omega⟩; exact h m⟩
theorem Ev.cast {α : Type} {g : Nat → Option α} {r r' : α} (h : Ev g r) (e : r = r') : Ev g r' := e ▸ h
/-! ### Shapes -/
def prod : List Int → Int
  | [] => 1
  | x :: xs => x * prod xs

def okDim (x : Int) : Bool := decide (0 ≤ x) && decide (x ≤ 32)
theorem okDim_iff {x : Int} : okDim x = true ↔ 0 ≤ x ∧ x ≤ 32 := by simp [okDim]

def sRight (s : List Int) : Bool := decide (s.length ≤ 4) && (s.all okDim && decide (prod s ≤ 4096))
def sSize (s : List Int) : Int := if sRight s then prod s else 0

theorem prod_nonneg (s : List Int) (h : s.all okDim = true) : 0 ≤ prod s := by
  induction s with
  | nil => simp [prod]
  | cons x xs ih =>
    simp only [List.all_cons, Bool.and_eq_true] at h
    have hx := okDim_iff.1 h.1
    exact Int.mul_nonneg hx.1 (ih h.2)

theorem mul_le32 {a x : Int} (h0 : 0 ≤ a) (hx0 : 0 ≤ x) (hx : x ≤ 32) : 0 ≤ a * x ∧ a * x ≤ 32 * a := by
  constructor
  · exact Int.mul_nonneg h0 hx0
  · have := Int.mul_le_mul_of_nonneg_left hx h0
    omega

theorem pow_le (n : Nat) (h : n ≤ 4) : (32 : Int) ^ n ≤ 1048576 := by
  have : n = 0 ∨ n = 1 ∨ n = 2 ∨ n = 3 ∨ n = 4 := by omega
  rcases this with rfl | rfl | rfl | rfl | rfl <;> decide

theorem sRight_iff {s : List Int} : sRight s = true ↔ s.length ≤ 4 ∧ s.all okDim = true ∧ prod s ≤ 4096 := by
  simp [sRight]

theorem right_len {s : List Int} (h : sRight s = true) : s.length ≤ 4 := (sRight_iff.1 h).1
theorem right_dims {s : List Int} (h : sRight s = true) : s.all okDim = true := (sRight_iff.1 h).2.1
theorem right_prod {s : List Int} (h : sRight s = true) : 0 ≤ prod s ∧ prod s ≤ 4096 := ⟨prod_nonneg s (right_dims h), (sRight_iff.1 h).2.2⟩

theorem size_range (s : List Int) : 0 ≤ sSize s ∧ sSize s ≤ 4096 := by
  unfold sSize
  split
  · rename_i h; exact right_prod h
  · omega

/-- The number of a place. -/
def idx : List Int → List Int → Int → Int
  | x :: xs, a :: bs, acc => if a < 0 ∨ x ≤ a then -1 else idx xs bs (acc * x + a)
  | _, _, acc => acc
def sIndex (s l : List Int) : Int := if sRight s = true ∧ l.length = s.length then idx s l 0 else -1

/-- The place of a number. -/
def plc : List Int → Int → List Int
  | [], _ => []
  | x :: xs, i => i / prod xs % x :: plc xs i
def sPlace (s : List Int) (i : Int) : List Int := if i < 0 ∨ sSize s ≤ i then [] else plc s i

theorem plc_length (s : List Int) (i : Int) : (plc s i).length = s.length := by
  induction s with
  | nil => rfl
  | cons x xs ih => simp [plc, ih]

/-! ### A place and its number -/
end Go.Proofs.Ytapoeleiicnlbaa.Plain
