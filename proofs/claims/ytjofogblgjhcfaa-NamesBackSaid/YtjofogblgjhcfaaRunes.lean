/- A string made of runes has these runes. -/
import Derived.Test.YtjofogblgjhcfaaNames
import Derived.Lib.TrimUEq
namespace Go.Proofs.Ytjofogblgjhcfaa.Plain
open Go.RowKit Go.Proofs.YtjofogblgjhcfaaW.PrintWords

def encL (c : Int) : List UInt8 := (Utf8.encode c).data.toList
def Plainly (l : List Int) : Prop := ∀ c ∈ l, 0 ≤ c ∧ c < 55296

theorem getD_behind (p t : List UInt8) (k : Nat) : (p ++ t).getD (p.length + k) 0 = t.getD k 0 := by
  simp [List.getD_eq_getElem?_getD, List.getElem?_append_right]
theorem getD_at (p t : List UInt8) : (p ++ t).getD p.length 0 = t.getD 0 0 := getD_behind p t 0

theorem enc_forms {c : Int} (h0 : 0 ≤ c) (h1 : c < 55296) : (c < 128 ∧ encL c = [UInt8.ofNat c.toNat]) ∨ (128 ≤ c ∧ c < 2048 ∧ encL c = [UInt8.ofNat (192 + c.toNat / 64), UInt8.ofNat (128 + c.toNat % 64)]) ∨ (2048 ≤ c ∧ encL c = [UInt8.ofNat (224 + c.toNat / 4096), UInt8.ofNat (128 + c.toNat / 64 % 64), UInt8.ofNat (128 + c.toNat % 64)]) := by
  have hv : Utf8.valid c = true := by simp [Utf8.valid]; omega
  unfold encL Utf8.encode
  simp only [hv, if_true]
  by_cases a1 : c.toNat < 128
  · exact Or.inl ⟨by omega, by rw [if_pos a1]⟩
  · by_cases a2 : c.toNat < 2048
    · exact Or.inr (Or.inl ⟨by omega, by omega, by rw [if_neg a1, if_pos a2]⟩)
    · exact Or.inr (Or.inr ⟨by omega, by rw [if_neg a1, if_neg a2, if_pos (by omega)]⟩)

theorem toNat_of (n : Nat) (h : n < 256) : (UInt8.ofNat n).toNat = n := by
  simp [UInt8.toNat_ofNat', Nat.mod_eq_of_lt h]

theorem decode_enc {s : ByteArray} {p q : List UInt8} {c : Int} (h0 : 0 ≤ c) (h1 : c < 55296) (hs : s.data.toList = p ++ (encL c ++ q)) : Utf8.decode s p.length = (c.toNat, (encL c).length) := by
  rw [Lib.decode_N, hs, getD_at, getD_behind, getD_behind, getD_behind, List.length_append, Nat.add_sub_cancel_left]
  rcases enc_forms h0 h1 with ⟨a, e⟩ | ⟨a, b, e⟩ | ⟨a, e⟩
  · rw [e]
    have t0 := toNat_of c.toNat (by omega)
    simp only [List.cons_append, List.nil_append, List.getD_cons_zero, List.length_cons, List.length_nil]
    rw [t0, Lib.decodeN_ascii _ _ _ _ _ (by omega)]
  · rw [e]
    have t0 := toNat_of (192 + c.toNat / 64) (by omega)
    have t1 := toNat_of (128 + c.toNat % 64) (by omega)
    simp only [List.cons_append, List.nil_append, List.getD_cons_zero, List.getD_cons_succ, List.length_cons, List.length_nil]
    rw [t0, t1]
    unfold Lib.decodeN
    rw [if_neg (by omega), if_pos (by omega), if_pos (by omega)]
    congr 1
    omega
  · rw [e]
    have t0 := toNat_of (224 + c.toNat / 4096) (by omega)
    have t1 := toNat_of (128 + c.toNat / 64 % 64) (by omega)
    have t2 := toNat_of (128 + c.toNat % 64) (by omega)
    simp only [List.cons_append, List.nil_append, List.getD_cons_zero, List.getD_cons_succ, List.length_cons, List.length_nil]
    rw [t0, t1, t2]
    unfold Lib.decodeN
    rw [if_neg (by omega), if_neg (by omega), if_pos (by omega), if_pos (by omega)]
    congr 1
    omega

theorem enc_len {c : Int} (h0 : 0 ≤ c) (h1 : c < 55296) : 1 ≤ (encL c).length := by
  rcases enc_forms h0 h1 with ⟨_, e⟩ | ⟨_, _, e⟩ | ⟨_, e⟩ <;> rw [e] <;> simp

theorem size_list (s : ByteArray) : s.size = s.data.toList.length := (Array.length_toList (xs := s.data)).symm

theorem runesGo_enc {s : ByteArray} (l : List Int) : ∀ (p : List UInt8) (k : Nat), Plainly l → s.data.toList = p ++ l.flatMap encL → l.length ≤ k → runesGo s k p.length = l := by
  induction l with
  | nil =>
    intro p k _ hs _
    have hz := size_list s
    rw [hs] at hz
    simp at hz
    exact runesGo_end s k p.length (by omega)
  | cons c cs ih =>
    intro p k hl hs hk
    obtain ⟨h0, h1⟩ := hl c List.mem_cons_self
    have hz := size_list s
    have hs2 : s.data.toList = p ++ (encL c ++ cs.flatMap encL) := by rw [hs]; simp
    have hn := enc_len h0 h1
    rw [hs2, List.length_append, List.length_append] at hz
    cases k with
    | zero => simp at hk
    | succ k =>
      have hd := decode_enc h0 h1 hs2
      simp only [runesGo]
      rw [if_pos (by omega), hd]
      have := ih (p ++ encL c) k (fun x hx => hl x (List.mem_cons_of_mem _ hx)) (by rw [hs2, List.append_assoc]) (by simpa using hk)
      rw [List.length_append] at this
      rw [this]
      congr 1
      omega

theorem rb_snoc (l : List Int) (c : Int) : runesBytes (l ++ [c]) = runesBytes l ++ Utf8.encode c := by simp [runesBytes, List.foldl_append]
theorem rb_list (l : List Int) : ∀ s : ByteArray, (l.foldl (fun r n => r ++ Utf8.encode n) s).data.toList = s.data.toList ++ l.flatMap encL := by
  induction l with
  | nil => intro s; simp
  | cons c cs ih =>
    intro s
    simp only [List.foldl_cons, List.flatMap_cons]
    rw [ih]
    simp [encL, ByteArray.data_append]
theorem flat_len (l : List Int) : Plainly l → l.length ≤ (l.flatMap encL).length := by
  induction l with
  | nil => intro _; simp
  | cons c cs ih =>
    intro h
    obtain ⟨h0, h1⟩ := h c List.mem_cons_self
    have := enc_len h0 h1
    have := ih (fun x hx => h x (List.mem_cons_of_mem _ hx))
    simp only [List.flatMap_cons, List.length_append, List.length_cons]
    omega
theorem runes_back {l : List Int} (h : Plainly l) : runesOf_ (runesBytes l) = l := by
  have hs : (runesBytes l).data.toList = [] ++ l.flatMap encL := by
    unfold runesBytes
    rw [rb_list]
    simp
  have := flat_len l h
  refine runesGo_enc l [] _ h hs ?_
  rw [size_list, hs]
  simpa using this
theorem small_back (l : List Int) (h : l.length < 100) : Small (runesBytes l) := by
  have := runesBytes_size_le l
  unfold Small
  omega

end Go.Proofs.Ytjofogblgjhcfaa.Plain
