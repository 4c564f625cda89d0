/- Names and notes, rune by rune: what both texts come to. -/
import Derived.Test.YtjofogblgjhcfaaPlain
import Derived.Test.YtjofogblgjhcfaaQx1
import Derived.Test.YtjofogblgjhcfaaQx2
import Derived.Test.YtjofogblgjhcfaaQx3
import Derived.Test.YtjofogblgjhcfaaQx4
namespace Go.Proofs.Ytjofogblgjhcfaa.Plain
open Go.RowKit Go.Proofs.YtjofogblgjhcfaaW.PrintWords Go.Proofs.Ytjofogblgjhcfaa.Q

theorem nsucc (n : Nat) (h : n < 9223372036854775807) : wrap64 ((n : Int) + 1) = ((n + 1 : Nat) : Int) := by
  unfold wrap64
  omega

/-! ### Runes -/
def Small (s : ByteArray) : Prop := s.size < 4398046511104
theorem runesGo_len (s : ByteArray) (k : Nat) : ∀ pos : Nat, (runesGo s k pos).length ≤ k := by
  induction k with
  | zero => intro pos; simp [runesGo]
  | succ k ih =>
    intro pos
    simp only [runesGo]
    by_cases h : pos < s.size
    · rw [if_pos h]
      have := ih (pos + (Utf8.decode s pos).2)
      simp only [List.length_cons]
      omega
    · rw [if_neg h]
      simp
theorem runes_len {s : ByteArray} (h : Small s) : (runesOf_ s).length < 4398046511104 := by
  have := runesGo_len s s.size 0
  unfold Small at h
  unfold runesOf_
  omega
theorem names_Runes_is {s : ByteArray} (h : Small s) : names_Runes.f s = some (runesOf_ s) := by
  unfold names_Runes.f
  rw [if_pos (show s.size < 4398046511104 from h)]

/-! ### Where a number stands -/
def findFrom (i : Nat) : List Int → Int → Int
  | [], _ => -1
  | y :: ys, x => if x = y then (i : Int) else findFrom (i + 1) ys x
def find (l : List Int) (x : Int) : Int := findFrom 0 l x
theorem find_range (l : List Int) (x : Int) : ∀ i : Nat, (x ∈ l → (i : Int) ≤ findFrom i l x ∧ findFrom i l x < ((i + l.length : Nat) : Int)) ∧ (x ∉ l → findFrom i l x = -1) := by
  induction l with
  | nil => intro i; exact ⟨fun h => absurd h (by simp), fun _ => rfl⟩
  | cons y ys ih =>
    intro i
    by_cases h : x = y
    · have e : findFrom i (y :: ys) x = (i : Int) := by simp only [findFrom]; rw [if_pos h]
      rw [e]
      exact ⟨fun _ => ⟨Int.le_refl _, by simp only [List.length_cons]; omega⟩, fun hn => absurd (List.mem_cons.2 (Or.inl h)) hn⟩
    · have e : findFrom i (y :: ys) x = findFrom (i + 1) ys x := by simp only [findFrom]; rw [if_neg h]
      rw [e]
      obtain ⟨a, b⟩ := ih (i + 1)
      refine ⟨fun hm => ?_, fun hn => b (fun hm => hn (List.mem_cons_of_mem _ hm))⟩
      have hm' : x ∈ ys := by rcases List.mem_cons.1 hm with h' | h'; exact absurd h' h; exact h'
      obtain ⟨c, d⟩ := a hm'
      simp only [List.length_cons]
      omega
theorem find_in {l : List Int} {x : Int} : (0 ≤ find l x) ↔ x ∈ l := by
  obtain ⟨a, b⟩ := find_range l x 0
  constructor
  · intro h
    refine Decidable.by_contra fun hn => ?_
    have := b hn
    unfold find at h
    omega
  · intro h
    have := (a h).1
    unfold find
    omega
theorem find_lt (l : List Int) (x : Int) : -1 ≤ find l x ∧ find l x < (l.length : Int) := by
  obtain ⟨a, b⟩ := find_range l x 0
  unfold find
  by_cases h : x ∈ l
  · have := a h; omega
  · have := b h; omega
theorem find_first (r : Int) (rs pre : List Int) : ∀ i : Nat, (findFrom i (pre ++ r :: rs) r = ((i + pre.length : Nat) : Int)) ↔ r ∉ pre := by
  induction pre with
  | nil => intro i; simp [findFrom]
  | cons p ps ih =>
    intro i
    by_cases h : r = p
    · simp only [List.cons_append, findFrom]
      rw [if_pos h]
      simp only [List.length_cons]
      constructor
      · intro e; omega
      · intro hn; exact absurd (List.mem_cons.2 (Or.inl h)) hn
    · simp only [List.cons_append, findFrom]
      rw [if_neg h]
      have := ih (i + 1)
      rw [show i + 1 + ps.length = i + (ps.length + 1) by omega] at this
      simp only [List.length_cons]
      rw [this]
      simp [h]

theorem idx_rune_l0 (x : Int) (post : List Int) : ∀ pre : List Int, (pre ++ post).length < 9223372036854775807 →
    Ev (fun k => slices_Index_rune_rune.l0 k (pre ++ post) x ((pre ++ post).length : Int) (pre.length : Int)) (findFrom pre.length post x) := by
  induction post with
  | nil =>
    intro pre _
    refine Ev.one fun k => ?_
    simp only [slices_Index_rune_rune.l0]
    rw [if_neg (by simp)]
    rfl
  | cons y ys ih =>
    intro pre h
    have hl := len_mid pre y ys
    have hn : pre.length < 9223372036854775807 := by rw [List.length_append] at h; omega
    by_cases he : x = y
    · refine Ev.one fun k => ?_
      simp only [slices_Index_rune_rune.l0]
      rw [if_pos (by omega), if_pos (by omega), if_pos (by omega), rd_mid, if_pos he]
      simp only [findFrom]
      rw [if_pos he]
    · have := ih (pre ++ [y]) (by rw [← app_snoc]; exact h)
      rw [← app_snoc, show (pre ++ [y]).length = pre.length + 1 by simp] at this
      have e : findFrom pre.length (y :: ys) x = findFrom (pre.length + 1) ys x := by simp only [findFrom]; rw [if_neg he]
      rw [e]
      refine Ev.step (fun k => ?_) this
      simp only [slices_Index_rune_rune.l0]
      rw [if_pos (by omega), if_pos (by omega), if_pos (by omega), rd_mid, if_neg he, nsucc _ hn]
theorem idx_int_l0 (x : Int) (post : List Int) : ∀ pre : List Int, (pre ++ post).length < 9223372036854775807 →
    Ev (fun k => slices_Index_int_int.l0 k (pre ++ post) x ((pre ++ post).length : Int) (pre.length : Int)) (findFrom pre.length post x) := by
  induction post with
  | nil =>
    intro pre _
    refine Ev.one fun k => ?_
    simp only [slices_Index_int_int.l0]
    rw [if_neg (by simp)]
    rfl
  | cons y ys ih =>
    intro pre h
    have hl := len_mid pre y ys
    have hn : pre.length < 9223372036854775807 := by rw [List.length_append] at h; omega
    by_cases he : x = y
    · refine Ev.one fun k => ?_
      simp only [slices_Index_int_int.l0]
      rw [if_pos (by omega), if_pos (by omega), if_pos (by omega), rd_mid, if_pos he]
      simp only [findFrom]
      rw [if_pos he]
    · have := ih (pre ++ [y]) (by rw [← app_snoc]; exact h)
      rw [← app_snoc, show (pre ++ [y]).length = pre.length + 1 by simp] at this
      have e : findFrom pre.length (y :: ys) x = findFrom (pre.length + 1) ys x := by simp only [findFrom]; rw [if_neg he]
      rw [e]
      refine Ev.step (fun k => ?_) this
      simp only [slices_Index_int_int.l0]
      rw [if_pos (by omega), if_pos (by omega), if_pos (by omega), rd_mid, if_neg he, nsucc _ hn]
theorem idx_rune_ev (l : List Int) (x : Int) (h : l.length < 9223372036854775807) : Ev (fun k => slices_Index_rune_rune.f k l x) (find l x) := by
  unfold slices_Index_rune_rune.f
  exact idx_rune_l0 x l [] h
theorem idx_int_ev (l : List Int) (x : Int) (h : l.length < 9223372036854775807) : Ev (fun k => slices_Index_int_int.f k l x) (find l x) := by
  unfold slices_Index_int_int.f
  exact idx_int_l0 x l [] h
theorem has_rune_ev (l : List Int) (x : Int) (h : l.length < 9223372036854775807) : Ev (fun k => slices_Contains_rune_rune.f k l x) (decide (x ∈ l)) := by
  unfold slices_Contains_rune_rune.f
  refine Ev.bind (idx_rune_ev l x h) (Ev.ret fun k => ?_)
  rw [show (decide (find l x ≥ 0)) = decide (x ∈ l) from decide_eq_decide.2 find_in]
theorem has_int_ev (l : List Int) (x : Int) (h : l.length < 9223372036854775807) : Ev (fun k => slices_Contains_int_int.f k l x) (decide (x ∈ l)) := by
  unfold slices_Contains_int_int.f
  refine Ev.bind (idx_int_ev l x h) (Ev.ret fun k => ?_)
  rw [show (decide (find l x ≥ 0)) = decide (x ∈ l) from decide_eq_decide.2 find_in]
theorem names_Find_ev {s : ByteArray} (h : Small s) (x : Int) : Ev (fun k => names_Find.f k s x) (find (runesOf_ s) x) := by
  have hl := runes_len h
  unfold names_Find.f
  refine Ev.congr (f := fun k => (slices_Index_rune_rune.f k (runesOf_ s) x).bind fun t => some t) (fun k => by rw [names_Runes_is h]; rfl) ?_
  exact Ev.bind (idx_rune_ev _ x (by omega)) (Ev.ret fun k => rfl)

/-! ### Names that may be -/
def mayB (a : Int) : Bool := if a = 46 then false else (if a = 45 then false else (if a = 40 then false else (if a = 41 then false else (if a = 65533 then false else decide (a ≥ 33)))))
theorem may_is (a : Int) : names_may.f a = some (mayB a) := by
  unfold names_may.f mayB
  by_cases h1 : a = 46
  · rw [if_pos h1, if_pos h1]
  · rw [if_neg h1, if_neg h1]
    by_cases h2 : a = 45
    · rw [if_pos h2, if_pos h2]
    · rw [if_neg h2, if_neg h2]
      by_cases h3 : a = 40
      · rw [if_pos h3, if_pos h3]
      · rw [if_neg h3, if_neg h3]
        by_cases h4 : a = 41
        · rw [if_pos h4, if_pos h4]
        · rw [if_neg h4, if_neg h4]
          by_cases h5 : a = 65533
          · rw [if_pos h5, if_pos h5]
          · rw [if_neg h5, if_neg h5]
def rightGo (pre : List Int) : List Int → Bool
  | [] => true
  | r :: rs => if mayB r = true then (if r ∈ pre then false else rightGo (pre ++ [r]) rs) else false
def nRight (l : List Int) (n : Int) : Bool := if (l.length : Int) = n ∧ n ≤ 3 then rightGo [] l else false
theorem names_Right_l0 (post : List Int) : ∀ pre : List Int, (pre ++ post).length < 9223372036854775807 →
    Ev (fun k => names_Right.l0 k (pre ++ post) (pre ++ post) ((pre ++ post).length : Int) (pre.length : Int)) (rightGo pre post) := by
  induction post with
  | nil =>
    intro pre _
    refine Ev.one fun k => ?_
    simp only [names_Right.l0]
    rw [if_neg (by simp)]
    rfl
  | cons y ys ih =>
    intro pre h
    have hl := len_mid pre y ys
    have hn : pre.length < 9223372036854775807 := by rw [List.length_append] at h; omega
    have ht : (pre ++ y :: ys).take (pre.length : Int).toNat = pre := by rw [Int.toNat_natCast]; simp
    by_cases hm : mayB y = true
    · refine Ev.step (f := fun k => (slices_Contains_rune_rune.f k pre y).bind fun t146 => (if t146 = true then (some false) else (names_Right.l0 k (pre ++ y :: ys) (pre ++ y :: ys) ((pre ++ y :: ys).length : Int) ((pre.length + 1 : Nat) : Int)))) (fun k => ?_) ?_
      · simp only [names_Right.l0]
        rw [if_pos (by omega), if_pos (by omega), if_pos (by omega), rd_mid, may_is, Option.bind_some, if_pos hm, if_pos (by omega), ht, nsucc _ hn]
      · refine Ev.bind (has_rune_ev pre y hn) ?_
        simp only [rightGo]
        rw [if_pos hm]
        by_cases hp : y ∈ pre
        · rw [if_pos hp]
          exact Ev.ret fun k => by rw [if_pos (by simpa using hp)]
        · rw [if_neg hp]
          have := ih (pre ++ [y]) (by rw [← app_snoc]; exact h)
          rw [← app_snoc, show (pre ++ [y]).length = pre.length + 1 by simp] at this
          exact Ev.congr (fun k => by rw [if_neg (by simpa using hp)]) this
    · refine Ev.one fun k => ?_
      simp only [names_Right.l0]
      rw [if_pos (by omega), if_pos (by omega), if_pos (by omega), rd_mid, may_is, Option.bind_some, if_neg hm]
      simp only [rightGo]
      rw [if_neg hm]
theorem names_Right_ev {s : ByteArray} (h : Small s) (n : Int) : Ev (fun k => names_Right.f k s n) (nRight (runesOf_ s) n) := by
  have hl := runes_len h
  unfold names_Right.f
  refine Ev.congr (f := fun k => if ((runesOf_ s).length : Int) = n then (names_Right.j0 k (runesOf_ s) (decide (n > 3))) else (names_Right.j0 k (runesOf_ s) true)) (fun k => by rw [names_Runes_is h]; rfl) ?_
  unfold nRight
  by_cases h1 : ((runesOf_ s).length : Int) = n
  · refine Ev.congr (fun k => by rw [if_pos h1]) ?_
    by_cases h2 : n ≤ 3
    · rw [if_pos ⟨h1, h2⟩]
      refine Ev.step (fun k => ?_) (names_Right_l0 (runesOf_ s) [] (by simpa using (by omega : (runesOf_ s).length < 9223372036854775807)))
      simp only [names_Right.j0]
      rw [if_neg (by simpa using h2)]
      rfl
    · rw [if_neg (fun hh => h2 hh.2)]
      refine Ev.one fun k => ?_
      simp only [names_Right.j0]
      rw [if_pos (by simpa using h2)]
  · refine Ev.congr (fun k => by rw [if_neg h1]) ?_
    rw [if_neg (fun hh => h1 hh.1)]
    refine Ev.one fun k => ?_
    simp only [names_Right.j0]
    rw [if_pos trivial]

/-! ### Notes -/
def noteGo (L : List Int) : List Int → List Int → Option (List Int)
  | [], out => some out
  | r :: rs, out => if r = 32 then noteGo L rs out else (if r = 46 then noteGo L rs (out ++ [-1]) else (if find L r < 0 then none else (if find L r ∈ out then none else noteGo L rs (out ++ [find L r]))))
def noteFin (rank : Int) : Option (List Int) → List Int × Bool × Int
  | none => ([], false, 14)
  | some out => if (out.length : Int) = 0 then ([], false, 0) else (if (out.length : Int) = rank then (out, true, 0) else ([], false, 14))
def noteOf (L l : List Int) (rank : Int) : List Int × Bool × Int := if (l.length : Int) > 16 then ([], false, 14) else noteFin rank (noteGo L l [])
theorem names_Note_l0 {s : ByteArray} (hs : Small s) (rank : Int) (post : List Int) : ∀ pre out : List Int, pre.length + post.length ≤ 16 → out.length ≤ pre.length →
    Ev (fun k => names_Note.l0 k s rank out (pre ++ post) ((pre ++ post).length : Int) (pre.length : Int)) (noteFin rank (noteGo (runesOf_ s) post out)) := by
  induction post with
  | nil =>
    intro pre out _ _
    refine Ev.one fun k => ?_
    simp only [names_Note.l0]
    rw [if_neg (by simp)]
    simp only [noteGo, noteFin]
    by_cases h1 : (out.length : Int) = 0
    · rw [if_pos h1, if_pos h1]
    · rw [if_neg h1, if_neg h1]
      by_cases h2 : (out.length : Int) = rank
      · rw [if_pos h2, if_pos h2]
      · rw [if_neg h2, if_neg h2]
  | cons r rs ih =>
    intro pre out h ho
    have hl := len_mid pre r rs
    simp only [List.length_cons] at h
    have next : ∀ out2 : List Int, out2.length ≤ pre.length + 1 → Ev (fun k => names_Note.l0 k s rank out2 (pre ++ r :: rs) ((pre ++ r :: rs).length : Int) ((pre.length + 1 : Nat) : Int)) (noteFin rank (noteGo (runesOf_ s) rs out2)) := by
      intro out2 ho2
      have := ih (pre ++ [r]) out2 (by simp; omega) (by simpa using ho2)
      rwa [← app_snoc, show (pre ++ [r]).length = pre.length + 1 by simp] at this
    refine Ev.step (f := fun k => (names_Find.f k s r).bind fun t126 => (if r = 32 then (names_Note.l0 k s rank out (pre ++ r :: rs) ((pre ++ r :: rs).length : Int) ((pre.length + 1 : Nat) : Int)) else (if r = 46 then (if out.length < 17592186044416 then (names_Note.l0 k s rank (out ++ [(-1)]) (pre ++ r :: rs) ((pre ++ r :: rs).length : Int) ((pre.length + 1 : Nat) : Int)) else (none)) else (if t126 < 0 then (some (([] : List Int), false, 14)) else ((slices_Contains_int_int.f k out t126).bind fun t130 => (if t130 = true then (some (([] : List Int), false, 14)) else (if out.length < 17592186044416 then (names_Note.l0 k s rank (out ++ [t126]) (pre ++ r :: rs) ((pre ++ r :: rs).length : Int) ((pre.length + 1 : Nat) : Int)) else (none)))))))) (fun k => ?_) ?_
    · simp only [names_Note.l0]
      rw [if_pos (by omega), if_pos (by omega), if_pos (by omega), rd_mid, nsucc _ (by omega)]
    · refine Ev.bind (names_Find_ev hs r) ?_
      simp only [noteGo]
      by_cases h1 : r = 32
      · rw [if_pos h1]
        exact Ev.congr (fun k => by rw [if_pos h1]) (next out (by omega))
      · rw [if_neg h1]
        refine Ev.congr (fun k => by rw [if_neg h1]) ?_
        by_cases h2 : r = 46
        · rw [if_pos h2]
          exact Ev.congr (fun k => by rw [if_pos h2, if_pos (by omega)]) (next (out ++ [-1]) (by simpa using ho))
        · rw [if_neg h2]
          refine Ev.congr (fun k => by rw [if_neg h2]) ?_
          by_cases h3 : find (runesOf_ s) r < 0
          · rw [if_pos h3]
            exact Ev.ret fun k => by rw [if_pos h3]; rfl
          · rw [if_neg h3]
            refine Ev.congr (fun k => by rw [if_neg h3]) (Ev.bind (has_int_ev out _ (by omega)) ?_)
            by_cases h4 : find (runesOf_ s) r ∈ out
            · rw [if_pos h4]
              exact Ev.ret fun k => by rw [if_pos (by simpa using h4)]; rfl
            · rw [if_neg h4]
              exact Ev.congr (fun k => by rw [if_neg (by simpa using h4), if_pos (by omega)]) (next (out ++ [find (runesOf_ s) r]) (by simpa using ho))
theorem names_Note_ev {s note : ByteArray} (hs : Small s) (hn : Small note) (rank : Int) : Ev (fun k => names_Note.f k s note rank) (noteOf (runesOf_ s) (runesOf_ note) rank) := by
  unfold names_Note.f
  refine Ev.congr (f := fun k => if ((runesOf_ note).length : Int) > 16 then (some (([] : List Int), false, 14)) else (names_Note.l0 k s rank ([] : List Int) (runesOf_ note) ((runesOf_ note).length : Int) 0)) (fun k => by rw [names_Runes_is hn]; rfl) ?_
  unfold noteOf
  by_cases h : ((runesOf_ note).length : Int) > 16
  · rw [if_pos h]
    exact Ev.ret fun k => by rw [if_pos h]
  · rw [if_neg h]
    exact Ev.congr (fun k => by rw [if_neg h]; rfl) (names_Note_l0 hs rank (runesOf_ note) [] [] (by simp; omega) (by simp))

/-! ### Notes written -/
def textRunes (L spec : List Int) : List Int := spec.map (fun k => if 0 ≤ k ∧ k < (L.length : Int) then rd L k else 46)
def textOf (L spec : List Int) : ByteArray := runesBytes (textRunes L spec)
theorem names_Text_l0 (L : List Int) (post : List Int) : ∀ pre acc : List Int, (pre ++ post).length < 35184372088832 → acc.length = pre.length →
    Ev (fun k => names_Text.l0 k L acc (pre ++ post) ((pre ++ post).length : Int) (pre.length : Int)) (runesBytes (acc ++ textRunes L post)) := by
  induction post with
  | nil =>
    intro pre acc _ _
    refine Ev.one fun k => ?_
    simp only [names_Text.l0]
    rw [if_neg (by simp)]
    simp [textRunes]
  | cons y ys ih =>
    intro pre acc h ha
    have hl := len_mid pre y ys
    have hn : pre.length < 35184372088832 := by rw [List.length_append] at h; omega
    have next : ∀ c : Int, Ev (fun k => names_Text.l0 k L (acc ++ [c]) (pre ++ y :: ys) ((pre ++ y :: ys).length : Int) ((pre.length + 1 : Nat) : Int)) (runesBytes (acc ++ c :: textRunes L ys)) := by
      intro c
      have := ih (pre ++ [y]) (acc ++ [c]) (by rw [← app_snoc]; exact h) (by simp [ha])
      rwa [← app_snoc, ← app_snoc, show (pre ++ [y]).length = pre.length + 1 by simp] at this
    by_cases h1 : y ≥ 0
    · by_cases h2 : y < (L.length : Int)
      · have e : textRunes L (y :: ys) = rd L y :: textRunes L ys := by simp only [textRunes, List.map_cons]; rw [if_pos ⟨h1, h2⟩]
        rw [e]
        refine Ev.step (fun k => ?_) (next (rd L y))
        simp only [names_Text.l0]
        rw [if_pos (by omega), if_pos (by omega), if_pos (by omega), rd_mid, if_pos h1, if_pos h2, if_pos h1, if_pos (by omega), nsucc _ (by omega)]
      · have e : textRunes L (y :: ys) = 46 :: textRunes L ys := by simp only [textRunes, List.map_cons]; rw [if_neg (fun hh => h2 hh.2)]
        rw [e]
        refine Ev.step (fun k => ?_) (next 46)
        simp only [names_Text.l0]
        rw [if_pos (by omega), if_pos (by omega), if_pos (by omega), rd_mid, if_pos h1, if_neg h2, if_pos (by omega), nsucc _ (by omega)]
    · have e : textRunes L (y :: ys) = 46 :: textRunes L ys := by simp only [textRunes, List.map_cons]; rw [if_neg (fun hh => h1 hh.1)]
      rw [e]
      refine Ev.step (fun k => ?_) (next 46)
      simp only [names_Text.l0]
      rw [if_pos (by omega), if_pos (by omega), if_pos (by omega), rd_mid, if_neg h1, if_pos (by omega), nsucc _ (by omega)]
theorem names_Text_ev {s : ByteArray} (hs : Small s) (spec : List Int) (h : spec.length < 35184372088832) : Ev (fun k => names_Text.f k s spec) (textOf (runesOf_ s) spec) := by
  unfold names_Text.f
  refine Ev.congr (f := fun k => names_Text.l0 k (runesOf_ s) ([] : List Int) spec (spec.length : Int) 0) (fun k => by rw [names_Runes_is hs]; rfl) ?_
  exact names_Text_l0 (runesOf_ s) spec [] [] h rfl

/-! ### Rows that are the same -/
theorem same_int_l0 (post : List Int) : ∀ pre : List Int, (pre ++ post).length < 9223372036854775807 → Ev (fun k => parquetrybook_Same_int.l0 k (pre ++ post) (pre ++ post) (pre.length : Int)) true := by
  induction post with
  | nil =>
    intro pre _
    refine Ev.one fun k => ?_
    simp only [parquetrybook_Same_int.l0]
    rw [if_neg (by simp)]
  | cons y ys ih =>
    intro pre h
    have hl := len_mid pre y ys
    have hn : pre.length < 9223372036854775807 := by rw [List.length_append] at h; omega
    have := ih (pre ++ [y]) (by rw [← app_snoc]; exact h)
    rw [← app_snoc, show (pre ++ [y]).length = pre.length + 1 by simp] at this
    refine Ev.step (fun k => ?_) this
    simp only [parquetrybook_Same_int.l0]
    rw [if_pos (by omega), if_pos (by omega), if_pos (by omega), if_pos trivial, nsucc _ hn]
theorem same_int_ev (l : List Int) (h : l.length < 9223372036854775807) : Ev (fun k => parquetrybook_Same_int.f k l l) true := by
  unfold parquetrybook_Same_int.f
  exact Ev.congr (fun k => by rw [if_pos rfl]; rfl) (same_int_l0 l [] h)

end Go.Proofs.Ytjofogblgjhcfaa.Plain
