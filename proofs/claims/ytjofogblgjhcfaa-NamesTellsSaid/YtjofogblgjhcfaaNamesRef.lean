/- Names and notes in the reference: the same; what the statements of chapter 9 compare. -/
import Derived.Test.YtjofogblgjhcfaaNames
import Derived.Test.YtjofogblgjhcfaaQx5
import Derived.Test.YtjofogblgjhcfaaQx6
import Derived.Test.YtjofogblgjhcfaaQx7
import Derived.Test.YtjofogblgjhcfaaQx8
namespace Go.Proofs.Ytjofogblgjhcfaa.Plain
open Go.RowKit Go.Proofs.YtjofogblgjhcfaaW.PrintWords Go.Proofs.Ytjofogblgjhcfaa.Q

theorem ref_Runes_is {s : ByteArray} (h : Small s) : parquetryref9_Runes.f s = some (runesOf_ s) := by
  unfold parquetryref9_Runes.f
  rw [if_pos (show s.size < 4398046511104 from h)]
theorem ref_Find_l0 (x : Int) (post : List Int) : ∀ pre : List Int, (pre ++ post).length < 9223372036854775807 →
    Ev (fun k => parquetryref9_Find.l0 k x (pre ++ post) ((pre ++ post).length : Int) (pre.length : Int)) (findFrom pre.length post x) := by
  induction post with
  | nil =>
    intro pre _
    refine Ev.one fun k => ?_
    simp only [parquetryref9_Find.l0]
    rw [if_neg (by simp)]
    rfl
  | cons y ys ih =>
    intro pre h
    have hl := len_mid pre y ys
    have hn : pre.length < 9223372036854775807 := by rw [List.length_append] at h; omega
    by_cases he : x = y
    · refine Ev.one fun k => ?_
      simp only [parquetryref9_Find.l0]
      rw [if_pos (by omega), if_pos (by omega), if_pos (by omega), rd_mid, if_pos he.symm]
      simp only [findFrom]
      rw [if_pos he]
    · have := ih (pre ++ [y]) (by rw [← app_snoc]; exact h)
      rw [← app_snoc, show (pre ++ [y]).length = pre.length + 1 by simp] at this
      have e : findFrom pre.length (y :: ys) x = findFrom (pre.length + 1) ys x := by simp only [findFrom]; rw [if_neg he]
      rw [e]
      refine Ev.step (fun k => ?_) this
      simp only [parquetryref9_Find.l0]
      rw [if_pos (by omega), if_pos (by omega), if_pos (by omega), rd_mid, if_neg (fun hh => he hh.symm), nsucc _ hn]
theorem ref_Find_ev {s : ByteArray} (h : Small s) (x : Int) : Ev (fun k => parquetryref9_Find.f k s x) (find (runesOf_ s) x) := by
  have hl := runes_len h
  unfold parquetryref9_Find.f
  refine Ev.congr (f := fun k => parquetryref9_Find.l0 k x (runesOf_ s) ((runesOf_ s).length : Int) 0) (fun k => by rw [ref_Runes_is h]; rfl) ?_
  exact ref_Find_l0 x (runesOf_ s) [] (by simpa using (by omega : (runesOf_ s).length < 9223372036854775807))

/-! ### Names that may be -/
theorem ref_Right_l0 {s : ByteArray} (hs : Small s) (post : List Int) : ∀ pre : List Int, pre ++ post = runesOf_ s →
    Ev (fun k => parquetryref9_Right.l0 k s (pre ++ post) ((pre ++ post).length : Int) (pre.length : Int)) (rightGo pre post) := by
  have hsl := runes_len hs
  induction post with
  | nil =>
    intro pre _
    refine Ev.one fun k => ?_
    simp only [parquetryref9_Right.l0]
    rw [if_neg (by simp)]
    rfl
  | cons y ys ih =>
    intro pre h
    have hl := len_mid pre y ys
    have hn : pre.length < 4398046511104 := by
      have := congrArg List.length h
      simp only [List.length_append, List.length_cons] at this
      omega
    have no : mayB y = false → rightGo pre (y :: ys) = false := fun e => by simp only [rightGo]; rw [if_neg (by simp [e])]
    by_cases h1 : y < 33
    · rw [no (by unfold mayB; rw [if_neg (by omega), if_neg (by omega), if_neg (by omega), if_neg (by omega), if_neg (by omega)]; simp; omega)] <;> try skip
      refine Ev.one fun k => ?_
      simp only [parquetryref9_Right.l0]
      rw [if_pos (by omega), if_pos (by omega), if_pos (by omega), rd_mid, if_pos h1]
    · by_cases h2 : y = 65533
      · rw [no (by subst h2; rfl)]
        refine Ev.one fun k => ?_
        simp only [parquetryref9_Right.l0]
        rw [if_pos (by omega), if_pos (by omega), if_pos (by omega), rd_mid, if_neg h1, if_pos h2]
      · by_cases h3 : y = 46
        · rw [no (by subst h3; rfl)]
          refine Ev.one fun k => ?_
          simp only [parquetryref9_Right.l0]
          rw [if_pos (by omega), if_pos (by omega), if_pos (by omega), rd_mid, if_neg h1, if_neg h2, if_pos h3]
        · by_cases h4 : y = 45
          · rw [no (by subst h4; rfl)]
            refine Ev.one fun k => ?_
            simp only [parquetryref9_Right.l0]
            rw [if_pos (by omega), if_pos (by omega), if_pos (by omega), rd_mid, if_neg h1, if_neg h2, if_neg h3, if_pos h4]
          · by_cases h5 : y = 40
            · rw [no (by subst h5; rfl)]
              refine Ev.one fun k => ?_
              simp only [parquetryref9_Right.l0]
              rw [if_pos (by omega), if_pos (by omega), if_pos (by omega), rd_mid, if_neg h1, if_neg h2, if_neg h3, if_neg h4, if_pos h5]
            · by_cases h6 : y = 41
              · rw [no (by subst h6; rfl)]
                refine Ev.one fun k => ?_
                simp only [parquetryref9_Right.l0]
                rw [if_pos (by omega), if_pos (by omega), if_pos (by omega), rd_mid, if_neg h1, if_neg h2, if_neg h3, if_neg h4, if_neg h5, if_pos h6]
              · have hm : mayB y = true := by
                  unfold mayB
                  rw [if_neg h3, if_neg h4, if_neg h5, if_neg h6, if_neg h2]
                  simp; omega
                refine Ev.step (f := fun k => (parquetryref9_Find.f k s y).bind fun t => if t = (pre.length : Int) then (parquetryref9_Right.l0 k s (pre ++ y :: ys) ((pre ++ y :: ys).length : Int) ((pre.length + 1 : Nat) : Int)) else some false) (fun k => ?_) ?_
                · simp only [parquetryref9_Right.l0]
                  rw [if_pos (by omega), if_pos (by omega), if_pos (by omega), rd_mid, if_neg h1, if_neg h2, if_neg h3, if_neg h4, if_neg h5, if_neg h6, nsucc _ (by omega)]
                · refine Ev.bind (ref_Find_ev hs y) ?_
                  have hf := find_first y ys pre 0
                  rw [h, Nat.zero_add] at hf
                  simp only [rightGo]
                  rw [if_pos hm]
                  by_cases hp : y ∈ pre
                  · rw [if_pos hp]
                    exact Ev.ret fun k => by rw [if_neg (show ¬ find (runesOf_ s) y = (pre.length : Int) from fun e => hf.1 e hp)]
                  · rw [if_neg hp]
                    have := ih (pre ++ [y]) (by rw [← app_snoc]; exact h)
                    rw [← app_snoc, show (pre ++ [y]).length = pre.length + 1 by simp] at this
                    exact Ev.congr (fun k => by rw [if_pos (show find (runesOf_ s) y = (pre.length : Int) from hf.2 hp)]) this
theorem ref_Right_ev {s : ByteArray} (h : Small s) (n : Int) : Ev (fun k => parquetryref9_Right.f k s n) (nRight (runesOf_ s) n) := by
  have hl := runes_len h
  have no : ∀ b : Bool, b = true → Ev (fun k => parquetryref9_Right.j0 k s (runesOf_ s) b) false := fun b hb => Ev.one fun k => by
    simp only [parquetryref9_Right.j0]
    rw [if_pos hb]
  unfold parquetryref9_Right.f
  refine Ev.congr (f := fun k => (if n < 0 then (parquetryref9_Right.j0 k s (runesOf_ s) true) else (if n > 3 then (parquetryref9_Right.j0 k s (runesOf_ s) true) else (parquetryref9_Right.j0 k s (runesOf_ s) (((runesOf_ s).length : Int) != n))))) (fun k => by rw [ref_Runes_is h]; rfl) ?_
  unfold nRight
  by_cases h1 : n < 0
  · rw [if_neg (by omega)]
    exact Ev.congr (fun k => by rw [if_pos h1]) (no true rfl)
  · refine Ev.congr (fun k => by rw [if_neg h1]) ?_
    by_cases h2 : n > 3
    · rw [if_neg (by omega)]
      exact Ev.congr (fun k => by rw [if_pos h2]) (no true rfl)
    · refine Ev.congr (fun k => by rw [if_neg h2]) ?_
      by_cases h3 : ((runesOf_ s).length : Int) = n
      · rw [if_pos ⟨h3, by omega⟩]
        refine Ev.step (fun k => ?_) (ref_Right_l0 h (runesOf_ s) [] rfl)
        simp only [parquetryref9_Right.j0]
        rw [if_neg (by simp [h3])]
        rfl
      · rw [if_neg (fun hh => h3 hh.1)]
        exact no _ (by simpa using h3)

/-! ### Notes -/
theorem ref_Note_l1 (s : ByteArray) (rank t : Int) (l : List Int) (i len : Int) (out : List Int) (res : List Int × Bool × Int)
    (hend : t ∉ out → Ev (fun k => if out.length < 17592186044416 then (parquetryref9_Note.l0 k s rank (out ++ [t]) l len (wrap64 (i + 1))) else (none)) res) (hbad : t ∈ out → res = ([], false, 14)) (ho : out.length < 9223372036854775807) (post : List Int) : ∀ pre : List Int, pre ++ post = out → t ∉ pre →
    Ev (fun k => parquetryref9_Note.l1 k s rank out t l len i (out.length : Int) (pre.length : Int)) res := by
  induction post with
  | nil =>
    intro pre h hn
    have hp : pre = out := by simpa using h
    refine Ev.step (fun k => ?_) (hend (hp ▸ hn))
    simp only [parquetryref9_Note.l1]
    rw [if_neg (by rw [← hp]; omega)]
  | cons y ys ih =>
    intro pre h hn
    have hl := len_mid pre y ys
    have hrd : rd out (pre.length : Int) = y := by rw [← h]; exact rd_mid pre y ys
    rw [h] at hl
    by_cases he : y = t
    · rw [hbad (by rw [← h]; simp [he])]
      refine Ev.one fun k => ?_
      simp only [parquetryref9_Note.l1]
      rw [if_pos (by omega), if_pos (by omega), if_pos (by omega), hrd, if_pos he]
    · have := ih (pre ++ [y]) (by rw [← app_snoc]; exact h) (by simp [hn]; exact fun hh => he hh.symm)
      rw [show (pre ++ [y]).length = pre.length + 1 by simp] at this
      refine Ev.step (fun k => ?_) this
      simp only [parquetryref9_Note.l1]
      rw [if_pos (by omega), if_pos (by omega), if_pos (by omega), hrd, if_neg he, nsucc _ (by omega)]
theorem ref_Note_l0 {s : ByteArray} (hs : Small s) (rank : Int) (post : List Int) : ∀ pre out : List Int, pre.length + post.length ≤ 16 → out.length ≤ pre.length →
    Ev (fun k => parquetryref9_Note.l0 k s rank out (pre ++ post) ((pre ++ post).length : Int) (pre.length : Int)) (noteFin rank (noteGo (runesOf_ s) post out)) := by
  induction post with
  | nil =>
    intro pre out _ _
    refine Ev.one fun k => ?_
    simp only [parquetryref9_Note.l0]
    rw [if_neg (by simp)]
    simp only [noteGo, noteFin]
    by_cases h1 : (out.length : Int) = 0
    · rw [if_pos h1, if_pos h1]
    · rw [if_neg h1, if_neg h1]
      by_cases h2 : (out.length : Int) = rank
      · rw [if_pos h2, if_pos h2]
      · rw [if_neg h2, if_neg h2]
  | cons r rs ih =>
    intro pre out h ho
    have hl := len_mid pre r rs
    simp only [List.length_cons] at h
    have next : ∀ out2 : List Int, out2.length ≤ pre.length + 1 → Ev (fun k => parquetryref9_Note.l0 k s rank out2 (pre ++ r :: rs) ((pre ++ r :: rs).length : Int) ((pre.length + 1 : Nat) : Int)) (noteFin rank (noteGo (runesOf_ s) rs out2)) := by
      intro out2 ho2
      have := ih (pre ++ [r]) out2 (by simp; omega) (by simpa using ho2)
      rwa [← app_snoc, show (pre ++ [r]).length = pre.length + 1 by simp] at this
    simp only [noteGo]
    by_cases h1 : r = 32
    · rw [if_pos h1]
      refine Ev.step (fun k => ?_) (next out (by omega))
      simp only [parquetryref9_Note.l0]
      rw [if_pos (by omega), if_pos (by omega), if_pos (by omega), rd_mid, if_pos h1, nsucc _ (by omega)]
    · rw [if_neg h1]
      by_cases h2 : r = 46
      · rw [if_pos h2]
        refine Ev.step (fun k => ?_) (next (out ++ [-1]) (by simpa using ho))
        simp only [parquetryref9_Note.l0]
        rw [if_pos (by omega), if_pos (by omega), if_pos (by omega), rd_mid, if_neg h1, if_pos h2, if_pos (by omega), nsucc _ (by omega)]
      · rw [if_neg h2]
        refine Ev.step (f := fun k => (parquetryref9_Find.f k s r).bind fun t158 => (if t158 < 0 then (some (([] : List Int), false, 14)) else (parquetryref9_Note.l1 k s rank out t158 (pre ++ r :: rs) ((pre ++ r :: rs).length : Int) (pre.length : Int) (out.length : Int) 0))) (fun k => ?_) ?_
        · simp only [parquetryref9_Note.l0]
          rw [if_pos (by omega), if_pos (by omega), if_pos (by omega), rd_mid, if_neg h1, if_neg h2]
        · refine Ev.bind (ref_Find_ev hs r) ?_
          by_cases h3 : find (runesOf_ s) r < 0
          · rw [if_pos h3]
            exact Ev.ret fun k => by rw [if_pos h3]; rfl
          · rw [if_neg h3]
            refine Ev.congr (fun k => by rw [if_neg h3]) ?_
            refine ref_Note_l1 s rank _ (pre ++ r :: rs) (pre.length : Int) _ out _ (fun h4 => ?_) (fun h4 => by rw [if_pos h4]; rfl) (by omega) out [] rfl (by simp)
            rw [if_neg h4]
            exact Ev.congr (fun k => by rw [if_pos (by omega), nsucc _ (by omega)]) (next (out ++ [find (runesOf_ s) r]) (by simpa using ho))
theorem ref_Note_ev {s note : ByteArray} (hs : Small s) (hn : Small note) (rank : Int) : Ev (fun k => parquetryref9_Note.f k s note rank) (noteOf (runesOf_ s) (runesOf_ note) rank) := by
  unfold parquetryref9_Note.f
  refine Ev.congr (f := fun k => if ((runesOf_ note).length : Int) > 16 then (some (([] : List Int), false, 14)) else (parquetryref9_Note.l0 k s rank ([] : List Int) (runesOf_ note) ((runesOf_ note).length : Int) 0)) (fun k => by rw [ref_Runes_is hn]; rfl) ?_
  unfold noteOf
  by_cases h : ((runesOf_ note).length : Int) > 16
  · rw [if_pos h]
    exact Ev.ret fun k => by rw [if_pos h]
  · rw [if_neg h]
    exact Ev.congr (fun k => by rw [if_neg h]; rfl) (ref_Note_l0 hs rank (runesOf_ note) [] [] (by simp; omega) (by simp))
theorem noteGo_len (L post : List Int) : ∀ (out r : List Int), noteGo L post out = some r → r.length ≤ out.length + post.length := by
  induction post with
  | nil => intro out r h; simp only [noteGo] at h; injection h with h; subst h; simp
  | cons x xs ih =>
    intro out r h
    simp only [noteGo] at h
    simp only [List.length_cons]
    by_cases h1 : x = 32
    · rw [if_pos h1] at h
      have := ih _ _ h
      omega
    · rw [if_neg h1] at h
      by_cases h2 : x = 46
      · rw [if_pos h2] at h
        have := ih _ _ h
        simp only [List.length_append, List.length_cons, List.length_nil] at this
        omega
      · rw [if_neg h2] at h
        by_cases h3 : find L x < 0
        · rw [if_pos h3] at h; cases h
        · rw [if_neg h3] at h
          by_cases h4 : find L x ∈ out
          · rw [if_pos h4] at h; cases h
          · rw [if_neg h4] at h
            have := ih _ _ h
            simp only [List.length_append, List.length_cons, List.length_nil] at this
            omega
theorem noteOf_len (L l : List Int) (rank : Int) : (noteOf L l rank).1.length ≤ 16 := by
  unfold noteOf
  by_cases h : (l.length : Int) > 16
  · rw [if_pos h]; simp
  · rw [if_neg h]
    cases hg : noteGo L l [] with
    | none => simp [noteFin]
    | some r =>
      have := noteGo_len L l [] r hg
      simp only [List.length_nil, Nat.zero_add] at this
      simp only [noteFin]
      by_cases h1 : (r.length : Int) = 0
      · rw [if_pos h1]; simp
      · rw [if_neg h1]
        by_cases h2 : (r.length : Int) = rank
        · rw [if_pos h2]; simp only; omega
        · rw [if_neg h2]; simp

/-! ### Notes written -/
theorem runesBytes_snoc (l : List Int) (c : Int) : runesBytes (l ++ [c]) = runesBytes l ++ Utf8.encode c := by simp [runesBytes, List.foldl_append]
theorem encode_point : (⟨#[46]⟩ : ByteArray) = Utf8.encode 46 := by decide +kernel
theorem ref_Text_l0 (L : List Int) (post : List Int) : ∀ pre acc : List Int, (pre ++ post).length < 35184372088832 → acc.length = pre.length →
    Ev (fun k => parquetryref9_Text.l0 k (pre ++ post) L (runesBytes acc) ((pre ++ post).length : Int) (pre.length : Int)) (runesBytes (acc ++ textRunes L post)) := by
  induction post with
  | nil =>
    intro pre acc _ _
    refine Ev.one fun k => ?_
    simp only [parquetryref9_Text.l0]
    rw [if_neg (by simp)]
    simp [textRunes]
  | cons y ys ih =>
    intro pre acc h ha
    have hl := len_mid pre y ys
    have hn : pre.length < 35184372088832 := by rw [List.length_append] at h; omega
    have hsz := runesBytes_size_le acc
    have next : ∀ c : Int, Ev (fun k => parquetryref9_Text.l0 k (pre ++ y :: ys) L (runesBytes acc ++ Utf8.encode c) ((pre ++ y :: ys).length : Int) ((pre.length + 1 : Nat) : Int)) (runesBytes (acc ++ c :: textRunes L ys)) := by
      intro c
      have := ih (pre ++ [y]) (acc ++ [c]) (by rw [← app_snoc]; exact h) (by simp [ha])
      rwa [← app_snoc, ← app_snoc, runesBytes_snoc, show (pre ++ [y]).length = pre.length + 1 by simp] at this
    by_cases h1 : y < 0
    · have e : textRunes L (y :: ys) = 46 :: textRunes L ys := by simp only [textRunes, List.map_cons]; rw [if_neg (by omega)]
      rw [e]
      refine Ev.step (fun k => ?_) (next 46)
      simp only [parquetryref9_Text.l0]
      rw [if_pos (by omega), if_pos (by omega), if_pos (by omega), rd_mid, if_pos h1, if_pos (by omega), nsucc _ (by omega), encode_point]
    · by_cases h2 : y ≥ (L.length : Int)
      · have e : textRunes L (y :: ys) = 46 :: textRunes L ys := by simp only [textRunes, List.map_cons]; rw [if_neg (by omega)]
        rw [e]
        refine Ev.step (fun k => ?_) (next 46)
        simp only [parquetryref9_Text.l0]
        rw [if_pos (by omega), if_pos (by omega), if_pos (by omega), rd_mid, if_neg h1, if_pos h2, if_pos (by omega), nsucc _ (by omega), encode_point]
      · have e : textRunes L (y :: ys) = rd L y :: textRunes L ys := by simp only [textRunes, List.map_cons]; rw [if_pos (by omega)]
        have hc := encode_size_le (rd L y)
        rw [e]
        refine Ev.step (fun k => ?_) (next (rd L y))
        simp only [parquetryref9_Text.l0]
        rw [if_pos (by omega), if_pos (by omega), if_pos (by omega), rd_mid, if_neg h1, if_neg h2, if_pos (by omega), if_pos (by omega), if_pos (by omega), nsucc _ (by omega)]
theorem ref_Text_ev {s : ByteArray} (hs : Small s) (spec : List Int) (h : spec.length < 35184372088832) : Ev (fun k => parquetryref9_Text.f k s spec) (textOf (runesOf_ s) spec) := by
  unfold parquetryref9_Text.f
  refine Ev.congr (f := fun k => parquetryref9_Text.l0 k spec (runesOf_ s) (⟨#[]⟩ : ByteArray) (spec.length : Int) 0) (fun k => by rw [ref_Runes_is hs]; rfl) ?_
  exact ref_Text_l0 (runesOf_ s) spec [] [] h rfl

/-! ### What is compared -/
theorem law9_runes_l0 (post : List Int) : ∀ pre : List Int, (pre ++ post).length < 9223372036854775807 → Ev (fun k => parquetrylaw9_runes.l0 k (pre ++ post) (pre ++ post) ((pre ++ post).length : Int) (pre.length : Int)) true := by
  induction post with
  | nil =>
    intro pre _
    refine Ev.one fun k => ?_
    simp only [parquetrylaw9_runes.l0]
    rw [if_neg (by simp)]
  | cons y ys ih =>
    intro pre h
    have hl := len_mid pre y ys
    have hn : pre.length < 9223372036854775807 := by rw [List.length_append] at h; omega
    have := ih (pre ++ [y]) (by rw [← app_snoc]; exact h)
    rw [← app_snoc, show (pre ++ [y]).length = pre.length + 1 by simp] at this
    refine Ev.step (fun k => ?_) this
    simp only [parquetrylaw9_runes.l0]
    rw [if_pos (by omega), if_pos (by omega), if_pos (by omega), if_pos (by omega), if_pos trivial, nsucc _ hn]
theorem law9_same {s note : ByteArray} (hs : Small s) (hn : Small note) (rank : Int) (spec : List Int) (r : Int) (h : spec.length < 35184372088832) : Ev (fun k => parquetrylaw9_same.f k s note rank spec r) true := by
  have hl := runes_len hn
  have hnl := noteOf_len (runesOf_ s) (runesOf_ note) rank
  unfold parquetrylaw9_same.f
  refine Ev.bind (names_Note_ev hs hn rank) (Ev.bind (ref_Note_ev hs hn rank) ?_)
  refine Ev.bind (same_int_ev _ (by omega)) ?_
  refine Ev.congr (fun k => by rw [if_pos rfl, if_pos (by simp), if_pos rfl]) ?_
  refine Ev.bind (names_Right_ev hs rank) (Ev.bind (ref_Right_ev hs rank) ?_)
  refine Ev.congr (fun k => by rw [if_pos (by simp)]) ?_
  refine Ev.bind (names_Find_ev hs r) (Ev.bind (ref_Find_ev hs r) ?_)
  refine Ev.congr (fun k => by rw [if_pos rfl]) ?_
  refine Ev.bind (names_Text_ev hs spec h) (Ev.bind (ref_Text_ev hs spec h) ?_)
  refine Ev.congr (f := fun k => (parquetrylaw9_runes.f k (runesOf_ note) (runesOf_ note)).bind fun t200 => (if t200 = true then (some true) else (none))) (fun k => by rw [if_pos rfl, names_Runes_is hn, ref_Runes_is hn]; rfl) ?_
  have e : Ev (fun k => parquetrylaw9_runes.f k (runesOf_ note) (runesOf_ note)) true := by
    unfold parquetrylaw9_runes.f
    exact Ev.congr (fun k => by rw [if_pos rfl]; rfl) (law9_runes_l0 (runesOf_ note) [] (by simpa using (by omega : (runesOf_ note).length < 9223372036854775807)))
  exact Ev.bind e (Ev.ret fun k => by rw [if_pos rfl])
theorem law9_known : Ev (fun k => parquetrylaw9_known.f k) true := Ev.of (fun k => parquetrylaw9_known.mono k) (k := 40) (by decide +kernel)
theorem law9_end : Ev (fun k => (parquetrylaw9_known.f k).bind fun t => if t = true then some true else none) true :=
  Ev.bind law9_known (Ev.ret fun k => by rw [if_pos rfl])

end Go.Proofs.Ytjofogblgjhcfaa.Plain
