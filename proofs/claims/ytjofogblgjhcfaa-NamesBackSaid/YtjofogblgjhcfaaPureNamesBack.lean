/- NamesBack: a spec that is written is read as itself, blanks between its signs or none. -/
import Derived.Test.YtjofogblgjhcfaaRunes
import Derived.Test.YtjofogblgjhcfaaQx8
import Derived.Test.YtjofogblgjhcfaaQx12
import Derived.Test.YtjofogblgjhcfaaQx13
namespace Go.Proofs.Ytjofogblgjhcfaa.Pure
open Go.RowKit Go.Proofs.YtjofogblgjhcfaaW.PrintWords Go.Proofs.Ytjofogblgjhcfaa.Q Go.Proofs.Ytjofogblgjhcfaa.Plain

theorem nb_known : Ev (fun k => parquetrylaw9_known.f k) true := Ev.of (fun k => parquetrylaw9_known.mono k) (k := 40) (by decide +kernel)
theorem nb_end : Ev (fun k => (parquetrylaw9_known.f k).bind fun t => if t = true then some true else none) true :=
  Ev.bind nb_known (Ev.ret fun k => by rw [if_pos rfl])
def nb_names : ByteArray := ⟨#[120, 195, 169, 228, 184, 150]⟩
theorem nb_runes : runesOf_ nb_names = [120, 233, 19990] := by decide +kernel
theorem nb_small : Small nb_names := by unfold Small; decide

theorem nb_within (n : Int) : ∃ r, Ev (fun k => parquetrybook_Within.f k n (-1) 2) r ∧ -1 ≤ r ∧ r ≤ 2 := by
  have e4 : wrap64 (wrap64 (2 - -1) + 1) = 4 := by decide +kernel
  have h1 := Int.lt_tmod_of_pos n (show (0 : Int) < 4 by omega)
  have h2 := Int.tmod_lt_of_pos n (show (0 : Int) < 4 by omega)
  have out : ∃ r, Ev (fun k => parquetrybook_Within.j0 k n (-1) 2 false) r ∧ -1 ≤ r ∧ r ≤ 2 := by
    by_cases hc : Int.tmod n 4 < 0
    · refine ⟨wrap64 (-1 + wrap64 (wrap64 (wrap64 (Int.tmod n 4 + 2) - -1) + 1)), Ev.one fun k => ?_, ?_⟩
      · simp only [parquetrybook_Within.j0]
        rw [if_neg (by simp), e4, if_neg (by omega), if_pos hc]
      · generalize Int.tmod n 4 = t at *
        have e1 : wrap64 (t + 2) = t + 2 := w64 (by omega) (by omega)
        rw [e1, w64 (n := t + 2 - -1) (by omega) (by omega), w64 (n := t + 2 - -1 + 1) (by omega) (by omega), w64 (by omega) (by omega)]
        omega
    · refine ⟨wrap64 (-1 + Int.tmod n 4), Ev.one fun k => ?_, ?_⟩
      · simp only [parquetrybook_Within.j0]
        rw [if_neg (by simp), e4, if_neg (by omega), if_neg hc]
      · rw [w64 (by omega) (by omega)]
        omega
  unfold parquetrybook_Within.f
  by_cases h3 : n ≥ -1
  · by_cases h4 : n ≤ 2
    · refine ⟨n, Ev.congr (fun k => by rw [if_pos h3]) (Ev.one fun k => ?_), by omega, h4⟩
      simp only [parquetrybook_Within.j0]
      rw [if_pos (by simpa using h4)]
    · obtain ⟨r, hr, h5⟩ := out
      exact ⟨r, Ev.congr (fun k => by rw [if_pos h3, show decide (n ≤ 2) = false from by simpa using h4]) hr, h5⟩
  · obtain ⟨r, hr, h5⟩ := out
    exact ⟨r, Ev.congr (fun k => by rw [if_neg h3]) hr, h5⟩

/-! ### Specs -/
def okSpec : List Int → List Int → Prop
  | _, [] => True
  | out, m :: ms => (-1 ≤ m ∧ m ≤ 2) ∧ (m = -1 ∨ m ∉ out) ∧ okSpec (out ++ [m]) ms
theorem ok_snoc (l : List Int) : ∀ (out : List Int) (m : Int), okSpec out l → -1 ≤ m → m ≤ 2 → (m = -1 ∨ m ∉ out ++ l) → okSpec out (l ++ [m]) := by
  induction l with
  | nil => intro out m _ h1 h2 h3; exact ⟨⟨h1, h2⟩, by simpa using h3, trivial⟩
  | cons x xs ih =>
    intro out m h h1 h2 h3
    exact ⟨h.1, h.2.1, ih (out ++ [x]) m h.2.2 h1 h2 (by simpa using h3)⟩
theorem sign_of {m : Int} (h0 : -1 ≤ m) (h1 : m ≤ 2) : (m = -1 ∧ textRunes [120, 233, 19990] [m] = [46]) ∨ (0 ≤ m ∧ ∃ r, textRunes [120, 233, 19990] [m] = [r] ∧ r ≠ 32 ∧ r ≠ 46 ∧ find [120, 233, 19990] r = m ∧ 0 ≤ r ∧ r < 55296) := by
  have : m = -1 ∨ m = 0 ∨ m = 1 ∨ m = 2 := by omega
  rcases this with rfl | rfl | rfl | rfl
  · exact Or.inl ⟨rfl, by decide⟩
  · exact Or.inr ⟨by omega, 120, by decide⟩
  · exact Or.inr ⟨by omega, 233, by decide⟩
  · exact Or.inr ⟨by omega, 19990, by decide⟩
theorem text_cons (L : List Int) (m : Int) (ms : List Int) : textRunes L (m :: ms) = textRunes L [m] ++ textRunes L ms := by simp [textRunes]
theorem text_plain (l : List Int) : ∀ out : List Int, okSpec out l → Plainly (textRunes [120, 233, 19990] l) := by
  induction l with
  | nil => intro out _ x hx; simp [textRunes] at hx
  | cons m ms ih =>
    intro out h x hx
    rw [text_cons] at hx
    rcases List.mem_append.1 hx with hx | hx
    · rcases sign_of h.1.1 h.1.2 with ⟨_, e⟩ | ⟨_, r, e, _, _, _, h1, h2⟩
      · rw [e] at hx; simp at hx; omega
      · rw [e] at hx; simp at hx; omega
    · exact ih _ h.2.2 x hx
theorem note_text (l : List Int) : ∀ out : List Int, okSpec out l → noteGo [120, 233, 19990] (textRunes [120, 233, 19990] l) out = some (out ++ l) := by
  induction l with
  | nil => intro out _; simp [textRunes, noteGo]
  | cons m ms ih =>
    intro out h
    have := ih _ h.2.2
    rw [text_cons]
    rcases sign_of h.1.1 h.1.2 with ⟨rfl, e⟩ | ⟨h0, r, e, h1, h2, h3, _, _⟩
    · rw [e]
      simp only [List.cons_append, List.nil_append, noteGo]
      rw [if_neg (by omega), if_pos trivial, this, List.append_assoc]
      rfl
    · rw [e]
      simp only [List.cons_append, List.nil_append, noteGo]
      rw [if_neg h1, if_neg h2, h3, if_neg (by omega), if_neg (by rcases h.2.1 with h4 | h4; omega; exact h4), this, List.append_assoc]
      rfl
def wideOf (l : List Int) : List Int := l.flatMap (fun c => [32, c])
theorem wide_snoc (l : List Int) (c : Int) : wideOf (l ++ [c]) = wideOf l ++ [32] ++ [c] := by simp [wideOf]
theorem note_wide (l : List Int) : ∀ out : List Int, okSpec out l → noteGo [120, 233, 19990] (wideOf (textRunes [120, 233, 19990] l) ++ [32]) out = some (out ++ l) := by
  induction l with
  | nil => intro out _; simp [textRunes, wideOf, noteGo]
  | cons m ms ih =>
    intro out h
    have := ih _ h.2.2
    rw [text_cons]
    rcases sign_of h.1.1 h.1.2 with ⟨rfl, e⟩ | ⟨h0, r, e, h1, h2, h3, _, _⟩
    · rw [e]
      have e2 : wideOf ([46] ++ textRunes [120, 233, 19990] ms) ++ [32] = 32 :: 46 :: (wideOf (textRunes [120, 233, 19990] ms) ++ [32]) := by simp [wideOf]
      rw [e2]
      simp only [noteGo]
      rw [if_pos trivial, if_neg (by omega), if_pos trivial, this, List.append_assoc]
      rfl
    · rw [e]
      have e2 : wideOf ([r] ++ textRunes [120, 233, 19990] ms) ++ [32] = 32 :: r :: (wideOf (textRunes [120, 233, 19990] ms) ++ [32]) := by simp [wideOf]
      rw [e2]
      simp only [noteGo]
      rw [if_pos trivial, if_neg h1, if_neg h2, h3, if_neg (by omega), if_neg (by rcases h.2.1 with h4 | h4; omega; exact h4), this, List.append_assoc]
      rfl
theorem wide_len (l : List Int) : (wideOf l).length = 2 * l.length := by
  induction l with
  | nil => rfl
  | cons c cs ih => simp only [wideOf, List.flatMap_cons, List.length_append, List.length_cons, List.length_nil] at *; omega
theorem wide_plain (l : List Int) (h : Plainly l) : Plainly (wideOf l ++ [32]) := by
  intro x hx
  rcases List.mem_append.1 hx with hx | hx
  · simp only [wideOf, List.mem_flatMap] at hx
    obtain ⟨c, hc, hx⟩ := hx
    simp at hx
    rcases hx with rfl | rfl
    · omega
    · exact h _ hc
  · simp at hx; omega

theorem nb_read {runes spec : List Int} (hp : Plainly runes) (hl : runes.length ≤ 9) (hn : noteGo [120, 233, 19990] runes [] = some spec) (h0 : 0 < spec.length) (h1 : spec.length ≤ 4) :
    Ev (fun k => (names_Note.f k (⟨#[120, 195, 169, 228, 184, 150]⟩ : ByteArray) (runesBytes runes) (spec.length : Int)).bind fun bt => (if bt.2.2 = 0 then (if bt.2.1 = true then ((parquetrybook_Same_int.f k bt.1 spec).bind fun t => (if t = true then ((parquetrylaw9_known.f k).bind fun t2 => (if t2 = true then (some true) else (none))) else (none))) else (none)) else (none))) true := by
  have N := names_Note_ev nb_small (small_back runes (by omega)) (spec.length : Int)
  have e : noteOf (runesOf_ nb_names) (runesOf_ (runesBytes runes)) (spec.length : Int) = (spec, true, 0) := by
    rw [nb_runes, runes_back hp]
    unfold noteOf
    rw [if_neg (by omega), hn]
    simp only [noteFin]
    rw [if_neg (by omega), if_pos trivial]
  rw [e] at N
  refine Ev.bind N (Ev.congr (fun k => by rw [if_pos rfl, if_pos rfl]) ?_)
  exact Ev.bind (same_int_ev spec (by omega)) (Ev.congr (fun k => by rw [if_pos rfl]) nb_end)

theorem enc_blank : (⟨#[32]⟩ : ByteArray) = Utf8.encode 32 := by decide +kernel
theorem nb_l2 {s : ByteArray} {all spec : List Int} (hal : all.length ≤ 4)
    (hend : Ev (fun k => (names_Note.f k (⟨#[120, 195, 169, 228, 184, 150]⟩ : ByteArray) (runesBytes (wideOf all ++ [32])) (spec.length : Int)).bind fun bt => (if bt.2.2 = 0 then (if bt.2.1 = true then ((parquetrybook_Same_int.f k bt.1 spec).bind fun t => (if t = true then ((parquetrylaw9_known.f k).bind fun t2 => (if t2 = true then (some true) else (none))) else (none))) else (none)) else (none))) true)
    (rest : List Int) : ∀ (done : List Int) (p : List UInt8), done ++ rest = all → Plainly rest → s.data.toList = p ++ rest.flatMap encL →
    Ev (fun k => parquetrylaw9_NamesBack.l2 k (spec.length : Int) spec (runesBytes (wideOf done)) s (p.length : Int)) true := by
  induction rest with
  | nil =>
    intro done p hd _ hs
    have hz := size_list s
    rw [hs] at hz
    simp at hz
    have hd' : done = all := by simpa using hd
    have z := runesBytes_size_le (wideOf all)
    rw [wide_len] at z
    refine Ev.step (fun k => ?_) hend
    simp only [parquetrylaw9_NamesBack.l2]
    rw [if_neg (by omega), hd', if_pos (by omega), enc_blank, ← rb_snoc]
  | cons c cs ih =>
    intro done p hd hp hs
    obtain ⟨h0, h1⟩ := hp c List.mem_cons_self
    have hz := size_list s
    have hs2 : s.data.toList = p ++ (encL c ++ cs.flatMap encL) := by rw [hs]; simp
    have hn := enc_len h0 h1
    rw [hs2, List.length_append, List.length_append] at hz
    have hdl : done.length ≤ 4 := by have := congrArg List.length hd; simp at this; omega
    have hde := decode_enc h0 h1 hs2
    have := ih (done ++ [c]) (p ++ encL c) (by simpa using hd) (fun x hx => hp x (List.mem_cons_of_mem _ hx)) (by rw [hs2, List.append_assoc])
    rw [wide_snoc, rb_snoc, rb_snoc] at this
    have z := runesBytes_size_le (wideOf done)
    rw [wide_len] at z
    have z2 := encode_size_le 32
    have z3 := encode_size_le c
    refine Ev.step (fun k => ?_) this
    simp only [parquetrylaw9_NamesBack.l2]
    have e1 : (p.length : Int).toNat = p.length := Int.toNat_natCast _
    have e2 : ((c.toNat : Nat) : Int) = c := by omega
    rw [if_pos (by omega), if_pos (by omega), e1, hde, enc_blank]
    simp only [e2]
    rw [if_pos (by rw [ByteArray.size_append]; omega)]
    simp only [List.length_append]
    rfl

/-! ### The spec is made -/
theorem nb_l1 (wide : Bool) (K : Int) (spec l : List Int) (len i : Int) (post : List Int) : ∀ (pre : List Int) (cur : Int), pre ++ post = spec → spec.length < 100 →
    Ev (fun k => parquetrylaw9_NamesBack.l0 k wide K (spec ++ [if cur ∈ post then -1 else cur]) l len (wrap64 (i + 1))) true →
    Ev (fun k => parquetrylaw9_NamesBack.l1 k wide K spec cur l len i (spec.length : Int) (pre.length : Int)) true := by
  induction post with
  | nil =>
    intro pre cur h hl hend
    have hp : pre = spec := by simpa using h
    rw [if_neg (by simp)] at hend
    refine Ev.step (fun k => ?_) hend
    simp only [parquetrylaw9_NamesBack.l1]
    rw [if_neg (by rw [hp]; omega), if_pos (by omega)]
  | cons y ys ih =>
    intro pre cur h hl hend
    have hlen := len_mid pre y ys
    have hrd : rd spec (pre.length : Int) = y := by rw [← h]; exact rd_mid pre y ys
    rw [h] at hlen
    have hpl : (pre ++ [y]).length = pre.length + 1 := by simp
    by_cases he : y = cur
    · rw [if_pos (by simp [he])] at hend
      have := ih (pre ++ [y]) (-1) (by rw [← app_snoc]; exact h) hl (by rw [ite_self]; exact hend)
      rw [hpl] at this
      refine Ev.step (fun k => ?_) this
      simp only [parquetrylaw9_NamesBack.l1]
      rw [if_pos (by omega), if_pos (by omega), if_pos (by omega), hrd, if_pos he, nsucc _ (by omega)]
    · have e : (if cur ∈ y :: ys then (-1 : Int) else cur) = if cur ∈ ys then -1 else cur := by
        have : cur ∈ y :: ys ↔ cur ∈ ys := by simp; intro hh; exact absurd hh.symm he
        simp only [this]
      rw [e] at hend
      have := ih (pre ++ [y]) cur (by rw [← app_snoc]; exact h) hl hend
      rw [hpl] at this
      refine Ev.step (fun k => ?_) this
      simp only [parquetrylaw9_NamesBack.l1]
      rw [if_pos (by omega), if_pos (by omega), if_pos (by omega), hrd, if_neg he, nsucc _ (by omega)]

theorem nb_l0 (wide : Bool) (l : List Int) (hl0 : 0 < l.length) (hl : l.length ≤ 4) (post : List Int) : ∀ (pre spec : List Int), pre ++ post = l → spec.length = pre.length → okSpec [] spec →
    Ev (fun k => parquetrylaw9_NamesBack.l0 k wide (l.length : Int) spec l (l.length : Int) (pre.length : Int)) true := by
  induction post with
  | nil =>
    intro pre spec h hs hok
    have hp : pre = l := by simpa using h
    have hsl : spec.length = l.length := by rw [hs, hp]
    have T := names_Text_ev nb_small spec (by omega)
    rw [nb_runes] at T
    have hpl := text_plain spec [] hok
    have htl : (textRunes [120, 233, 19990] spec).length = spec.length := by simp [textRunes]
    refine Ev.step (f := fun k => ((names_Text.f k (⟨#[120, 195, 169, 228, 184, 150]⟩ : ByteArray) spec).bind fun t188 => (if wide = true then (parquetrylaw9_NamesBack.l2 k (l.length : Int) spec (⟨#[]⟩ : ByteArray) t188 0) else ((names_Note.f k (⟨#[120, 195, 169, 228, 184, 150]⟩ : ByteArray) t188 (l.length : Int)).bind fun bt196 => (if bt196.2.2 = 0 then (if bt196.2.1 = true then ((parquetrybook_Same_int.f k bt196.1 spec).bind fun t201 => (if t201 = true then ((parquetrylaw9_known.f k).bind fun t202 => (if t202 = true then (some true) else (none))) else (none))) else (none)) else (none)))))) (fun k => ?_) (Ev.bind T ?_)
    · simp only [parquetrylaw9_NamesBack.l0]
      rw [if_neg (by rw [hp]; omega)]
    · rw [← hsl]
      by_cases hw : wide = true
      · refine Ev.congr (fun k => by rw [if_pos hw]) ?_
        have hend := nb_read (wide_plain _ hpl) (by rw [List.length_append, wide_len, htl]; simp; omega) (note_wide spec [] hok) (by simp; omega) (by simp; omega)
        exact nb_l2 (s := textOf [120, 233, 19990] spec) (all := textRunes [120, 233, 19990] spec) (by omega) hend (textRunes [120, 233, 19990] spec) [] [] rfl hpl (by unfold textOf runesBytes; rw [rb_list]; simp)
      · refine Ev.congr (fun k => by rw [if_neg hw]) ?_
        exact nb_read hpl (by omega) (note_text spec [] hok) (by first | omega | (simp; omega)) (by first | omega | (simp; omega))
  | cons y ys ih =>
    intro pre spec h hs hok
    have hlen := len_mid pre y ys
    have hrd : rd l (pre.length : Int) = y := by rw [← h]; exact rd_mid pre y ys
    rw [h] at hlen
    obtain ⟨r, hr, h1, h2⟩ := nb_within y
    refine Ev.step (f := fun k => (parquetrybook_Within.f k y (-1) 2).bind fun t183 => (parquetrylaw9_NamesBack.l1 k wide (l.length : Int) spec t183 l (l.length : Int) (pre.length : Int) (spec.length : Int) 0)) (fun k => ?_) (Ev.bind hr ?_)
    · simp only [parquetrylaw9_NamesBack.l0]
      rw [if_pos (by omega), if_pos (by omega), if_pos (by omega), hrd]
    · refine nb_l1 wide _ spec l _ _ spec [] r rfl (by omega) ?_
      rw [nsucc _ (by omega)]
      have hpl : (pre ++ [y]).length = pre.length + 1 := by simp
      rw [← hpl]
      refine ih (pre ++ [y]) _ (by rw [← app_snoc]; exact h) (by simp [hs]) ?_
      by_cases hm : r ∈ spec
      · rw [if_pos hm]
        exact ok_snoc spec [] (-1) hok (by omega) (by omega) (Or.inl rfl)
      · rw [if_neg hm]
        exact ok_snoc spec [] r hok h1 h2 (Or.inr (by simpa using hm))

theorem NamesBack : parquetrylaw9_NamesBack.Pure := by
  intro a0 a1 a2 a3 a4 _ _ _ _
  refine Ev.rounds (g := fun k => parquetrylaw9_NamesBack.f k a0 a1 a2 a3 a4) ?_
  unfold parquetrylaw9_NamesBack.f
  have e : Go.bits .and .i64 a0 3 = IntKind.i64.wrap (((BitVec.ofInt IntKind.i64.bits a0 &&& BitVec.ofInt IntKind.i64.bits 3).toNat : Nat) : Int) := rfl
  have h : (BitVec.ofInt IntKind.i64.bits a0 &&& BitVec.ofInt IntKind.i64.bits 3).toNat ≤ 3 := by
    rw [BitVec.toNat_and]
    exact Nat.le_trans Nat.and_le_right (by decide)
  have h2 : 0 ≤ Go.bits .and .i64 a0 3 ∧ Go.bits .and .i64 a0 3 ≤ 3 := by
    rw [e, IntKind.wrap_i64]
    omega
  rw [w64 (n := 1 + Go.bits .and .i64 a0 3) (by omega) (by omega)]
  obtain ⟨K, hK⟩ := Int.eq_ofNat_of_zero_le (show 0 ≤ 1 + Go.bits .and .i64 a0 3 by omega)
  rw [hK]
  have hk0 : 1 ≤ K := by omega
  have hk4 : K ≤ 4 := by omega
  have hl : (([a1, a2, a3, -1] : List Int).take K).length = K := by simp; omega
  have := nb_l0 a4 (([a1, a2, a3, -1] : List Int).take K) (by omega) (by omega) _ [] [] rfl rfl trivial
  rw [hl] at this
  refine Ev.congr (fun k => ?_) this
  rw [Option.bind_some, if_pos (by omega), if_pos (by simp; omega), Option.bind_some, Int.toNat_natCast, hl]
  rfl

end Go.Proofs.Ytjofogblgjhcfaa.Pure
