/- NamesUnique: names of unlike signs are right, each found at its place; with one of them twice they are not. -/
import Derived.Test.YtjofogblgjhcfaaRunes
import Derived.Test.YtjofogblgjhcfaaQx8
import Derived.Test.YtjofogblgjhcfaaQx11
namespace Go.Proofs.Ytjofogblgjhcfaa.Pure
open Go.RowKit Go.Proofs.YtjofogblgjhcfaaW.PrintWords Go.Proofs.Ytjofogblgjhcfaa.Q Go.Proofs.Ytjofogblgjhcfaa.Plain

theorem nu_known : Ev (fun k => parquetrylaw9_known.f k) true := Ev.of (fun k => parquetrylaw9_known.mono k) (k := 40) (by decide +kernel)
theorem nu_end : Ev (fun k => (parquetrylaw9_known.f k).bind fun t => if t = true then some true else none) true :=
  Ev.bind nu_known (Ev.ret fun k => by rw [if_pos rfl])

theorem nu_mod {a n m : Int} (hn : 1 < n) (hn2 : n < 65536) (hm0 : 0 ≤ m) (hm : m < 65536) : ∃ r, wrap32 (m + (Int.tmod (wrap32 ((Int.tmod a n) + n)) n)) = m + r ∧ 0 ≤ r ∧ r < n := by
  have key : ∀ x : Int, -n < Int.tmod x n ∧ Int.tmod x n < n ∧ (0 ≤ x → 0 ≤ Int.tmod x n) := fun x =>
    ⟨by
      have := Int.lt_tmod_of_pos x (show 0 < n by omega)
      omega, Int.tmod_lt_of_pos x (by omega), fun h => Int.tmod_nonneg n h⟩
  obtain ⟨k1, k2, _⟩ := key a
  have e1 : wrap32 (Int.tmod a n + n) = Int.tmod a n + n := by unfold wrap32; omega
  rw [e1]
  obtain ⟨k3, k4, k5⟩ := key (Int.tmod a n + n)
  have k6 := k5 (by omega)
  refine ⟨Int.tmod (Int.tmod a n + n) n, ?_, k6, k4⟩
  generalize Int.tmod (Int.tmod a n + n) n = r at *
  unfold wrap32
  omega

structure Three (a b c : Int) : Prop where
  a0 : 33 ≤ a
  a1 : a ≤ 126
  a2 : a ≠ 46 ∧ a ≠ 45 ∧ a ≠ 40 ∧ a ≠ 41
  b0 : 256 ≤ b
  b1 : b ≤ 4351
  c0 : 19968 ≤ c
  c1 : c ≤ 24063

theorem three_plain {a b c : Int} (h : Three a b c) (t : List Int) (ht : ∀ x ∈ t, x = a ∨ x = b ∨ x = c ∨ x = 46) : Plainly t := by
  intro x hx
  have := h.a0; have := h.a1; have := h.b0; have := h.b1; have := h.c0; have := h.c1
  rcases ht x hx with rfl | rfl | rfl | rfl <;> omega

theorem three_may {a b c : Int} (h : Three a b c) : mayB a = true ∧ mayB b = true ∧ mayB c = true := by
  have := h.a0; have := h.a1; have := h.a2; have := h.b0; have := h.b1; have := h.c0; have := h.c1
  unfold mayB
  refine ⟨?_, ?_, ?_⟩
  · rw [if_neg h.a2.1, if_neg h.a2.2.1, if_neg h.a2.2.2.1, if_neg h.a2.2.2.2, if_neg (by omega)]; simp; omega
  · rw [if_neg (by omega), if_neg (by omega), if_neg (by omega), if_neg (by omega), if_neg (by omega)]; simp; omega
  · rw [if_neg (by omega), if_neg (by omega), if_neg (by omega), if_neg (by omega), if_neg (by omega)]; simp; omega

theorem three_find {a b c : Int} (h : Three a b c) : find [a, b, c] a = 0 ∧ find [a, b, c] b = 1 ∧ find [a, b, c] c = 2 := by
  have := h.a0; have := h.a1; have := h.b0; have := h.b1; have := h.c0; have := h.c1
  unfold find
  simp only [findFrom]
  refine ⟨?_, ?_, ?_⟩
  · rw [if_pos trivial]; rfl
  · rw [if_neg (by omega), if_pos trivial]; rfl
  · rw [if_neg (by omega), if_neg (by omega), if_pos trivial]; rfl

theorem right_go {a b x : Int} (ha : mayB a = true) (hb : mayB b = true) (hx : mayB x = true) (hab : b ≠ a) : rightGo [] [a, b, x] = !(x == a || x == b) := by
  simp only [rightGo]
  rw [if_pos ha, if_neg (by simp), if_pos hb, if_neg (by simpa using hab), if_pos hx]
  by_cases h : x = a ∨ x = b
  · rw [if_pos (by simpa using h)]
    rcases h with rfl | rfl <;> simp
  · rw [if_neg (by simpa using h)]
    have h1 : x ≠ a := fun e => h (Or.inl e)
    have h2 : x ≠ b := fun e => h (Or.inr e)
    simp [h1, h2]

theorem nu_l0 {a b c : Int} (h : Three a b c) (i : Nat) (hi : i < 3) (next : Ev (fun k => parquetrylaw9_NamesUnique.l0 k [a, b, c] (runesBytes [a, b, c]) [a, b, c] 3 ((i + 1 : Nat) : Int)) true) :
    Ev (fun k => parquetrylaw9_NamesUnique.l0 k [a, b, c] (runesBytes [a, b, c]) [a, b, c] 3 (i : Int)) true := by
  have := h.a0; have := h.a1; have := h.b0; have := h.b1; have := h.c0; have := h.c1
  obtain ⟨m1, m2, m3⟩ := three_may h
  obtain ⟨f1, f2, f3⟩ := three_find h
  have hp : Plainly [a, b, c] := three_plain h _ (by simp)
  have hs := small_back [a, b, c] (by simp)
  have hr := runes_back hp
  have main : ∀ x : Int, rd [a, b, c] (i : Int) = x → (x = a ∨ x = b ∨ x = c ∨ x = 46) → find [a, b, c] x = (i : Int) → mayB x = true → ((!(x == a || x == b)) = ((i : Int) == 2)) → Ev (fun k => parquetrylaw9_NamesUnique.l0 k [a, b, c] (runesBytes [a, b, c]) [a, b, c] 3 (i : Int)) true := by
    intro x hx hxx hf hm he
    have hp4 : Plainly [a, b, c, x] := three_plain h _ (by simp; exact hxx)
    have hp3 : Plainly [a, b, x] := three_plain h _ (by simp; exact hxx)
    have e4 : runesBytes [a, b, c] ++ Utf8.encode x = runesBytes [a, b, c, x] := (rb_snoc [a, b, c] x).symm
    have e3 : runesBytes [a, b] ++ Utf8.encode x = runesBytes [a, b, x] := (rb_snoc [a, b] x).symm
    have z4 := runesBytes_size_le [a, b, c]
    have z3 := runesBytes_size_le [a, b]
    have zx := encode_size_le x
    simp only [List.length_cons, List.length_nil] at z4 z3
    refine Ev.step (f := fun k => ((names_Find.f k (runesBytes [a, b, c]) x).bind fun t271 => (if t271 = (i : Int) then (if (runesBytes [a, b, c]).size + (Utf8.encode x).size ≤ 9223372036854775807 then ((names_Right.f k (runesBytes [a, b, c, x]) 4).bind fun t272 => (if t272 = true then (none) else ((names_Right.f k (runesBytes [a, b, x]) 3).bind fun t278 => (if (t278 != ((i : Int) == 2)) = true then (none) else (parquetrylaw9_NamesUnique.l0 k [a, b, c] (runesBytes [a, b, c]) [a, b, c] 3 ((i + 1 : Nat) : Int)))))) else (none)) else (none)))) (fun k => ?_) ?_
    · simp only [parquetrylaw9_NamesUnique.l0]
      have t2 : ([a, b, c] : List Int).take 2 = [a, b] := rfl
      rw [if_pos (by omega), if_pos (by omega), if_pos (by simp; omega), hx, e4, if_pos (show (2 : Int) ≤ (([a, b, c] : List Int).length : Int) by simp), t2, Option.bind_some, if_pos (show (i : Int) < (([a, b, c] : List Int).length : Int) by simp; omega), if_pos (show (runesBytes [a, b]).size + (Utf8.encode x).size ≤ 9223372036854775807 by omega), e3, nsucc _ (by omega)]
    · have F := names_Find_ev hs x
      rw [hr, hf] at F
      refine Ev.bind F (Ev.congr (fun k => by rw [if_pos rfl, if_pos (by omega)]) ?_)
      have R4 := names_Right_ev (small_back [a, b, c, x] (by simp)) 4
      rw [runes_back hp4, show nRight [a, b, c, x] 4 = false from by unfold nRight; rw [if_neg (by omega)]] at R4
      refine Ev.bind R4 (Ev.congr (fun k => by rw [if_neg (by simp)]) ?_)
      have R3 := names_Right_ev (small_back [a, b, x] (by simp)) 3
      rw [runes_back hp3, show nRight [a, b, x] 3 = ((i : Int) == 2) from by unfold nRight; rw [if_pos ⟨by simp, by omega⟩, right_go m1 m2 hm (by omega), he]] at R3
      exact Ev.bind R3 (Ev.congr (fun k => by rw [if_neg (by simp)]) next)
  match i, hi with
  | 0, _ => exact main a rfl (Or.inl rfl) f1 m1 (by simp)
  | 1, _ => exact main b rfl (Or.inr (Or.inl rfl)) f2 m2 (by simp)
  | 2, _ => exact main c rfl (Or.inr (Or.inr (Or.inl rfl))) f3 m3 (by
      have h1 : c ≠ a := by omega
      have h2 : c ≠ b := by omega
      simp [h1, h2])

theorem nu_last {a b c : Int} (h : Three a b c) : Ev (fun k => parquetrylaw9_NamesUnique.l0 k [a, b, c] (runesBytes [a, b, c]) [a, b, c] 3 3) true := by
  have := h.a0; have := h.a1; have := h.a2; have := h.b0; have := h.b1; have := h.c0; have := h.c1
  obtain ⟨m1, m2, m3⟩ := three_may h
  obtain ⟨f1, f2, f3⟩ := three_find h
  have hp : Plainly [a, b, c] := three_plain h _ (by simp)
  have hp4 : Plainly [c, 46, a, b] := three_plain h _ (by simp)
  have hs := small_back [a, b, c] (by simp)
  have hr := runes_back hp
  refine Ev.step (f := fun k => ((names_Note.f k (runesBytes [a, b, c]) (runesBytes [c, 46, a, b]) 4).bind fun bt285 => ((names_Right.f k (runesBytes [a, b, c]) 3).bind fun t290 => (if t290 = true then (if bt285.2.1 = true then (if bt285.2.2 = 0 then ((parquetrybook_Same_int.f k bt285.1 (([2, (-1), 0, 1] : List Int))).bind fun t294 => (if t294 = true then ((parquetrylaw9_known.f k).bind fun t295 => (if t295 = true then (some true) else (none))) else (none))) else (none)) else (none)) else (none))))) (fun k => ?_) ?_
  · simp only [parquetrylaw9_NamesUnique.l0]
    rw [if_neg (by omega), if_pos (by simp), if_pos (by simp), if_pos (by simp)]
    rfl
  · have N := names_Note_ev hs (small_back [c, 46, a, b] (by simp)) 4
    have e : noteOf [a, b, c] [c, 46, a, b] 4 = ([2, -1, 0, 1], true, 0) := by
      unfold noteOf
      rw [if_neg (by simp)]
      simp only [noteGo]
      rw [if_neg (by omega), if_neg (by omega), f3, if_neg (by decide), if_neg (by simp), if_neg (by decide), if_pos trivial, if_neg (by omega), if_neg h.a2.1, f1, if_neg (by decide), if_neg (by decide), if_neg (by omega), if_neg (by omega), f2, if_neg (by decide), if_neg (by decide)]
      rfl
    rw [hr, runes_back hp4, e] at N
    refine Ev.bind N ?_
    have R := names_Right_ev hs 3
    rw [hr, show nRight [a, b, c] 3 = true from by
      unfold nRight
      rw [if_pos ⟨by simp, by omega⟩, right_go m1 m2 m3 (by omega)]
      have h1 : c ≠ a := by omega
      have h2 : c ≠ b := by omega
      simp [h1, h2]] at R
    refine Ev.bind R (Ev.congr (fun k => by rw [if_pos rfl, if_pos rfl, if_pos rfl]) ?_)
    exact Ev.bind (same_int_ev _ (by simp)) (Ev.congr (fun k => by rw [if_pos rfl]) nu_end)

theorem nu_j1 {a b c : Int} (h : Three a b c) : Ev (fun k => parquetrylaw9_NamesUnique.j1 k [a, b, c]) true := by
  have e := nu_l0 h 0 (by omega) (nu_l0 h 1 (by omega) (nu_l0 h 2 (by omega) (nu_last h)))
  refine Ev.step (fun k => ?_) e
  simp only [parquetrylaw9_NamesUnique.j1]
  rfl

theorem NamesUnique : parquetrylaw9_NamesUnique.Pure := by
  intro a0 a1 a2 _ _ _
  refine Ev.rounds (g := fun k => parquetrylaw9_NamesUnique.f k a0 a1 a2) ?_
  unfold parquetrylaw9_NamesUnique.f
  obtain ⟨a, ea, ha0, ha1⟩ := nu_mod (a := a0) (n := 94) (m := 33) (by omega) (by omega) (by omega) (by omega)
  obtain ⟨b, eb, hb0, hb1⟩ := nu_mod (a := a1) (n := 4096) (m := 256) (by omega) (by omega) (by omega) (by omega)
  obtain ⟨c, ec, hc0, hc1⟩ := nu_mod (a := a2) (n := 4096) (m := 19968) (by omega) (by omega) (by omega) (by omega)
  rw [ea, eb, ec]
  have bad : Ev (fun k => parquetrylaw9_NamesUnique.j0 k [33 + a, 256 + b, 19968 + c] true) true := by
    have h : Three 120 (256 + b) (19968 + c) := ⟨by omega, by omega, by omega, by omega, by omega, by omega, by omega⟩
    refine Ev.step (fun k => ?_) (nu_j1 h)
    simp only [parquetrylaw9_NamesUnique.j0]
    rw [if_pos trivial, if_pos (by simp)]
    rfl
  have z : rd [33 + a, 256 + b, 19968 + c] 0 = 33 + a := rfl
  refine Ev.congr (f := fun k => (if 33 + a = 46 then (parquetrylaw9_NamesUnique.j0 k [33 + a, 256 + b, 19968 + c] true) else (if 33 + a = 45 then (parquetrylaw9_NamesUnique.j0 k [33 + a, 256 + b, 19968 + c] true) else (if 33 + a = 40 then (parquetrylaw9_NamesUnique.j0 k [33 + a, 256 + b, 19968 + c] true) else (parquetrylaw9_NamesUnique.j0 k [33 + a, 256 + b, 19968 + c] ((33 + a) == 41)))))) (fun k => by rw [Option.bind_some, if_pos (by simp), z]) ?_
  by_cases h1 : 33 + a = 46
  · exact Ev.congr (fun k => by rw [if_pos h1]) bad
  · refine Ev.congr (fun k => by rw [if_neg h1]) ?_
    by_cases h2 : 33 + a = 45
    · exact Ev.congr (fun k => by rw [if_pos h2]) bad
    · refine Ev.congr (fun k => by rw [if_neg h2]) ?_
      by_cases h3 : 33 + a = 40
      · exact Ev.congr (fun k => by rw [if_pos h3]) bad
      · refine Ev.congr (fun k => by rw [if_neg h3]) ?_
        by_cases h4 : 33 + a = 41
        · exact Ev.congr (fun k => by rw [show ((33 + a) == 41) = true from by simpa using h4]) bad
        · have h : Three (33 + a) (256 + b) (19968 + c) := ⟨by omega, by omega, ⟨h1, h2, h3, h4⟩, by omega, by omega, by omega, by omega⟩
          refine Ev.step (fun k => ?_) (nu_j1 h)
          simp only [parquetrylaw9_NamesUnique.j0]
          rw [if_neg (by simpa using h4)]

end Go.Proofs.Ytjofogblgjhcfaa.Pure
