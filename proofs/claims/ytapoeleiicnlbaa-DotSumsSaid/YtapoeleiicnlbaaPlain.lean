/- Plain words about shapes: what a shape's numbers are, over lists of whole numbers, without any program. -/
import Derived.Test.YtapoeleiicnlbaaWWords
namespace Go.Proofs.Ytapoeleiicnlbaa.Plain
open Go.RowKit Go.Proofs.YtapoeleiicnlbaaW.PrintWords

theorem w64 {n : Int} (h0 : -9223372036854775808 ≤ n) (h1 : n ≤ 9223372036854775807) : wrap64 n = n := by
  unfold wrap64; omega

/-! ### Reading a list by an index -/
theorem rd_mid (pre : List Int) (x : Int) (post : List Int) : rd (pre ++ x :: post) (pre.length : Int) = x := by
  unfold rd
  simp

theorem rd_nat (l : List Int) (i : Nat) (h : i < l.length) : rd l (i : Int) = l[i] := by
  unfold rd
  simp [h]

theorem len_mid {α : Type} (pre : List α) (x : α) (post : List α) : ((pre ++ x :: post).length : Int) = (pre.length : Int) + 1 + post.length := by
  simp; omega

theorem app_snoc {α : Type} (pre : List α) (x : α) (post : List α) : pre ++ x :: post = (pre ++ [x]) ++ post := by simp

theorem set_mid {α : Type} (pre : List α) (x y : α) (post : List α) : (pre ++ x :: post).set pre.length y = pre ++ y :: post := by
  simp

/-! ### Ev: words beside the kit's -/
theorem Ev.ret {α : Type} {g : Nat → Option α} {r : α} (h : ∀ k, g k = some r) : Ev g r := ⟨0, fun k _ => h k⟩
theorem Ev.one {α : Type} {g : Nat → Option α} {r : α} (h : ∀ k, g (k + 1) = some r) : Ev g r :=
  ⟨1, fun k hk => by obtain ⟨m, rfl⟩ : ∃ m, k = m + 1 := ⟨k - 1, by omega⟩; exact h m⟩
theorem Ev.cast {α : Type} {g : Nat → Option α} {r r' : α} (h : Ev g r) (e : r = r') : Ev g r' := e ▸ h
theorem Ev.bind' {α β : Type} {g : Nat → Option α} {f : Nat → α → Option β} {a : α} {r : β} (h : Ev g a) (k : Ev (fun n => f n a) r) : Ev (fun n => (g n).bind (f n)) r := Ev.bind h k

/-! ### Shapes -/
def prod : List Int → Int
  | [] => 1
  | x :: xs => x * prod xs

def okDim (x : Int) : Bool := decide (0 ≤ x) && decide (x ≤ 32)
theorem okDim_iff {x : Int} : okDim x = true ↔ 0 ≤ x ∧ x ≤ 32 := by simp [okDim]

def sRight (s : List Int) : Bool := decide (s.length ≤ 4) && (s.all okDim && decide (prod s ≤ 4096))
def sSize (s : List Int) : Int := if sRight s then prod s else 0

theorem prod_append (a b : List Int) : prod (a ++ b) = prod a * prod b := by
  induction a with
  | nil => simp [prod]
  | cons x xs ih => simp [prod, ih, Int.mul_assoc]

theorem prod_nonneg (s : List Int) (h : s.all okDim = true) : 0 ≤ prod s := by
  induction s with
  | nil => simp [prod]
  | cons x xs ih =>
    simp only [List.all_cons, Bool.and_eq_true] at h
    have hx := okDim_iff.1 h.1
    exact Int.mul_nonneg hx.1 (ih h.2)

theorem mul_le32 {a x : Int} (h0 : 0 ≤ a) (hx0 : 0 ≤ x) (hx : x ≤ 32) : 0 ≤ a * x ∧ a * x ≤ 32 * a := by
  constructor
  · exact Int.mul_nonneg h0 hx0
  · have := Int.mul_le_mul_of_nonneg_left hx h0
    omega

theorem prod_le (s : List Int) (h : s.all okDim = true) : prod s ≤ 32 ^ s.length := by
  induction s with
  | nil => simp [prod]
  | cons x xs ih =>
    simp only [List.all_cons, Bool.and_eq_true] at h
    have hx := okDim_iff.1 h.1
    have := mul_le32 (prod_nonneg xs h.2) hx.1 hx.2
    have e : x * prod xs = prod xs * x := Int.mul_comm _ _
    simp only [prod, List.length_cons, Int.pow_succ]
    have := ih h.2
    omega

theorem pow_le (n : Nat) (h : n ≤ 4) : (32 : Int) ^ n ≤ 1048576 := by
  have : n = 0 ∨ n = 1 ∨ n = 2 ∨ n = 3 ∨ n = 4 := by omega
  rcases this with rfl | rfl | rfl | rfl | rfl <;> decide

theorem sRight_iff {s : List Int} : sRight s = true ↔ s.length ≤ 4 ∧ s.all okDim = true ∧ prod s ≤ 4096 := by
  simp [sRight]

theorem right_len {s : List Int} (h : sRight s = true) : s.length ≤ 4 := (sRight_iff.1 h).1
theorem right_dims {s : List Int} (h : sRight s = true) : s.all okDim = true := (sRight_iff.1 h).2.1
theorem right_prod {s : List Int} (h : sRight s = true) : 0 ≤ prod s ∧ prod s ≤ 4096 := ⟨prod_nonneg s (right_dims h), (sRight_iff.1 h).2.2⟩

theorem size_range (s : List Int) : 0 ≤ sSize s ∧ sSize s ≤ 4096 := by
  unfold sSize
  split
  · rename_i h; exact right_prod h
  · omega

/-- How far one step goes, each way. -/
def strs : List Int → List Int
  | [] => []
  | _ :: xs => prod xs :: strs xs
def sStrides (s : List Int) : List Int := if sRight s then strs s else []

/-- The number of a place. -/
def idx : List Int → List Int → Int → Int
  | x :: xs, a :: bs, acc => if a < 0 ∨ x ≤ a then -1 else idx xs bs (acc * x + a)
  | _, _, acc => acc
def sIndex (s l : List Int) : Int := if sRight s = true ∧ l.length = s.length then idx s l 0 else -1

/-- The place of a number. -/
def plc : List Int → Int → List Int
  | [], _ => []
  | x :: xs, i => i / prod xs % x :: plc xs i
def sPlace (s : List Int) (i : Int) : List Int := if i < 0 ∨ sSize s ≤ i then [] else plc s i

theorem strs_length (s : List Int) : (strs s).length = s.length := by
  induction s with
  | nil => rfl
  | cons x xs ih => simp [strs, ih]
theorem plc_length (s : List Int) (i : Int) : (plc s i).length = s.length := by
  induction s with
  | nil => rfl
  | cons x xs ih => simp [plc, ih]

/-! ### A place and its number -/
theorem digit (i x P : Int) (hP : 0 < P) (hx : 0 < x) : i / P % x * P + i % P = i % (x * P) := by
  have h1 : i % (P * x) = P * (i / P % x) + i % P := by
    have a := Int.emod_add_mul_ediv i P
    have b := Int.emod_add_mul_ediv (i / P) x
    have c : i = (P * x) * (i / P / x) + (P * (i / P % x) + i % P) := by
      have e : P * (i / P) = P * (i / P % x) + P * x * (i / P / x) := by
        conv => lhs; rw [← b]
        rw [Int.mul_add, Int.mul_assoc]
      omega
    have d0 : 0 ≤ i / P % x := Int.emod_nonneg _ (by omega)
    have d1 : i / P % x < x := Int.emod_lt_of_pos _ hx
    have e0 : 0 ≤ i % P := Int.emod_nonneg _ (by omega)
    have e1 : i % P < P := Int.emod_lt_of_pos _ hP
    have f0 : 0 ≤ P * (i / P % x) := Int.mul_nonneg (by omega) d0
    have f1 : P * (i / P % x) + P ≤ P * x := by
      have := Int.mul_le_mul_of_nonneg_left (show i / P % x + 1 ≤ x by omega) (show 0 ≤ P by omega)
      rw [Int.mul_add] at this
      omega
    conv => lhs; rw [c, Int.mul_add_emod_self_left]
    exact Int.emod_eq_of_lt (by omega) (by omega)
  rw [Int.mul_comm x P, h1, Int.mul_comm]

/-- The number of the place of a number is the number. -/
theorem idx_plc (s : List Int) (hd : ∀ x ∈ s, 0 < x) (hp : ∀ t, 0 < prod t ∨ ¬ ∀ x ∈ t, 0 < x) (i acc : Int) : idx s (plc s i) acc = acc * prod s + i % prod s := by
  induction s generalizing acc with
  | nil => simp [idx, prod, Int.emod_one]
  | cons x xs ih =>
    have hx : 0 < x := hd x (by simp)
    have hxs : ∀ y ∈ xs, 0 < y := fun y hy => hd y (by simp [hy])
    have hP : 0 < prod xs := (hp xs).resolve_right (fun h => h hxs)
    have d0 : 0 ≤ i / prod xs % x := Int.emod_nonneg _ (by omega)
    have d1 : i / prod xs % x < x := Int.emod_lt_of_pos _ hx
    simp only [plc, idx]
    rw [if_neg (by omega), ih hxs]
    have := digit i x (prod xs) hP hx
    simp only [prod]
    rw [Int.add_mul, Int.mul_assoc]
    omega

/-- The sum of places by strides. -/
def dotp : List Int → List Int → Int
  | a :: xs, b :: ys => a * b + dotp xs ys
  | _, _ => 0

theorem dot_plc (s : List Int) (hd : ∀ x ∈ s, 0 < x) (hp : ∀ t, 0 < prod t ∨ ¬ ∀ x ∈ t, 0 < x) (i : Int) : dotp (plc s i) (strs s) = i % prod s := by
  induction s with
  | nil => simp [dotp, plc, strs, prod, Int.emod_one]
  | cons x xs ih =>
    have hx : 0 < x := hd x (by simp)
    have hxs : ∀ y ∈ xs, 0 < y := fun y hy => hd y (by simp [hy])
    have hP : 0 < prod xs := (hp xs).resolve_right (fun h => h hxs)
    simp only [plc, strs, dotp, prod]
    rw [ih hxs]
    exact digit i x (prod xs) hP hx

theorem plc_nonneg (s : List Int) (hd : ∀ x ∈ s, 0 < x) (i : Int) : ∀ a ∈ plc s i, 0 ≤ a := by
  induction s with
  | nil => intro a ha; simp [plc] at ha
  | cons x xs ih =>
    intro a ha
    simp only [plc, List.mem_cons] at ha
    rcases ha with rfl | ha
    · exact Int.emod_nonneg _ (by have := hd x (by simp); omega)
    · exact ih (fun y hy => hd y (by simp [hy])) a ha

end Go.Proofs.Ytapoeleiicnlbaa.Plain
