/- Runes: a string's, one by one (the iterator lies in a block of its own, anywhere in the heap); a string made of runes. -/
import Derived.Test.YtjofogblgjhcfaaWWords
import Derived.Laws.Cover4
import Derived.Laws.Runes
import Derived.Laws.RangeAny
namespace Go.Proofs.YtjofogblgjhcfaaW.PrintWords
open Go.RowKit

def runesGo (s : ByteArray) : Nat → Nat → List Int
  | 0, _ => []
  | k + 1, pos => if pos < s.size then ((Utf8.decode s pos).1 : Int) :: runesGo s k (pos + (Utf8.decode s pos).2) else []
def runesOf_ (s : ByteArray) : List Int := runesGo s s.size 0
theorem runesGo_end (s : ByteArray) (k pos : Nat) (h : ¬ pos < s.size) : runesGo s k pos = [] := by
  cases k with
  | zero => rfl
  | succ k => simp only [runesGo]; rw [if_neg h]
theorem decode_wide (s : ByteArray) (pos : Nat) (h : pos < s.size) : 1 ≤ (Utf8.decode s pos).2 := by
  by_cases ha : (s[pos]'h).toNat < 128
  · rw [decode_ascii s pos h ha]
    exact Nat.le_refl 1
  · exact (decode_high s pos h (by omega)).2
theorem runesGo_on (s : ByteArray) (k pos : Nat) (h : pos < s.size) (hk : s.size ≤ pos + k) : ∃ k', s.size ≤ pos + (Utf8.decode s pos).2 + k' ∧ runesGo s k pos = ((Utf8.decode s pos).1 : Int) :: runesGo s k' (pos + (Utf8.decode s pos).2) := by
  have hw := decode_wide s pos h
  cases k with
  | zero => omega
  | succ k => exact ⟨k, by omega, by simp only [runesGo]; rw [if_pos h]⟩

/-- The world in which the iterator at block g has gone on. -/
def nextW (w : World) (g : Nat) (s : ByteArray) (p : Nat) : World := { w with heap := w.heap.setIfInBounds g (.stringIter s p) }
theorem nextW_at {w : World} {g : Nat} {s : ByteArray} {p : Nat} (h : w.heap[g]? = some (.stringIter s p)) (p' : Nat) : (nextW w g s p').heap[g]? = some (.stringIter s p') := by
  have hlt := blk_lt h
  simp [nextW, hlt]
theorem nextW_far (w : World) (g : Nat) (s : ByteArray) (p k : Nat) (h : k ≠ g) : (nextW w g s p).heap[k]? = w.heap[k]? := by
  simp [nextW, Ne.symm h]
theorem nextW_below {n : Nat} {w0 w : World} (h : Below n w0 w) {g : Nat} (hg : n ≤ g) (s : ByteArray) (p : Nat) : Below n w0 (nextW w g s p) :=
  ⟨h.os, h.tape, h.output, by have := h.size; simpa [nextW] using this, fun k hk => (nextW_far w g s p k (by omega)).trans (h.block k hk)⟩
theorem run_next_at {P : Program} {w : World} {g : Nat} {s : ByteArray} {pos : Nat} (hg : w.heap[g]? = some (.stringIter s pos)) (ty : TypeId) (h : pos < s.size) :
    (Instr.next (.pointer (some ⟨g, 0, none⟩)) true ty).run P w = .ok (.tuple #[.bool true, .int .i64 pos, .int .i32 (Utf8.decode s pos).1]) (nextW w g s (pos + (Utf8.decode s pos).2)) := by
  simp only [Instr.next, getObj, setObj, Sem.run_bind, Sem.run, hg, Result.andThen, h, if_true, nextW]
  simp [goInt]
theorem run_next_over {P : Program} {w : World} {g : Nat} {s : ByteArray} {pos : Nat} (hg : w.heap[g]? = some (.stringIter s pos)) (ty : TypeId) (h : ¬ pos < s.size) :
    (Instr.next (.pointer (some ⟨g, 0, none⟩)) true ty).run P w = .ok (.tuple #[.bool false]) w := by
  simp [Instr.next, getObj, Sem.run, hg, h]
theorem Kd.R_iter {α : Type} {d : Kd α} {e : Nat} {w : World} {base : Nat} {ok : Nat → Prop} {v : Value} {xs : List α} (h : d.R e w base ok v xs) {g : Nat} {s : ByteArray} {p : Nat} (hg : w.heap[g]? = some (.stringIter s p)) (p' : Nat) : d.R e (nextW w g s p') base ok v xs := by
  refine Kd.R_mono (Kd.R_move (ok := fun k => ok k ∧ k ≠ g) (Kd.R_mono (Kd.R_bound h) (fun k hk => ⟨hk.1, ?_⟩)) (fun k hk => nextW_far w g s p' k hk.2)) (fun k hk => hk.1)
  obtain ⟨_, _, _, q, _, cells, hc⟩ := hk
  rintro rfl
  rw [hc] at hg
  cases hg
theorem Kd.R_not_iter {α : Type} {d : Kd α} {e : Nat} {w : World} {base : Nat} {ok : Nat → Prop} {v : Value} {xs : List α} (h : d.R e w base ok v xs) {g : Nat} {s : ByteArray} {p : Nat} (hg : w.heap[g]? = some (.stringIter s p)) : some g ≠ v.ownBlock := by
  intro he
  obtain ⟨cells, hc⟩ := Kd.R_typed h g he.symm
  rw [hc] at hg
  cases hg

/-! ### A string made of runes -/
theorem own_runes {P : Program} {w : World} {base n : Nat} {e' src dst e : TypeId} {v : Value} {xs : List Int} (hs : P.underlying src = some (.slice e)) (he : P.underlying e = some (.int .i32)) (hd : P.underlying dst = some .string)
    (h : w.ownsRow base e' 1 v n (nums .i32 xs)) : (convert src dst v).run P w = .ok (.string (runesBytes xs)) w := by
  have hl : xs.length = n := by have := h.1; simp [nums] at this; exact this
  rcases h.2 with ⟨rfl, rfl⟩ | ⟨g, cap, cur, rfl, _⟩
  · obtain rfl : xs = [] := List.eq_nil_of_length_eq_zero hl
    exact run_convert_runes_nil w src dst e 0 0 hs he hd
  · have := run_convert_runes (P := P) w src dst e ⟨g, 0, none⟩ n cap xs (by omega) hs he hd (fun i hi => by
      have hc := h.cells (g := g) rfl i (.int .i32 (xs.getD i 0)) (by simp [nums, List.getElem?_eq_getElem (show i < xs.length by omega), List.getD_eq_getElem?_getD])
      exact hc)
    subst hl
    rwa [List.take_length] at this
theorem runes_of_reads {P : Program} {w : World} {src dst e : TypeId} {A : Option Addr} {n c : Nat} {xs : List Int} (hs : P.underlying src = some (.slice e)) (he : P.underlying e = some (.int .i32)) (hd : P.underlying dst = some .string)
    (h : ReadsInt w .i32 A n xs) : (convert src dst (.slice A n c)).run P w = .ok (.string (runesBytes xs)) w := by
  have hn : xs.length = n := h.1
  rcases A with _ | ad
  · have h0 : n = 0 := by
      rcases Nat.eq_zero_or_pos n with h0 | h0
      · exact h0
      · obtain ⟨ad, h', _⟩ := h.2.2 h0
        cases h'
    subst h0
    obtain rfl : xs = [] := List.eq_nil_of_length_eq_zero hn
    exact run_convert_runes_nil w src dst e 0 c hs he hd
  · have := run_convert_runes (P := P) w src dst e ad n c xs (by omega) hs he hd (fun j hj => by
      obtain ⟨ad', he', hc⟩ := h.2.2 (by omega)
      injection he' with he'
      subst he'
      exact hc j (by omega))
    subst hn
    rwa [List.take_length] at this
theorem Kd.C_runes {P : Program} {w : World} {src dst e : TypeId} {A : Option Addr} {n c : Nat} {xs : List Int} (hs : P.underlying src = some (.slice e)) (he : P.underlying e = some (.int .i32)) (hd : P.underlying dst = some .string)
    (h : (Kd.int .i32).C w A n xs) : (convert src dst (.slice A n c)).run P w = .ok (.string (runesBytes xs)) w :=
  runes_of_reads hs he hd (Kd.reads_of_C (enc := Value.int .i32) (d := (0 : Int)) (h1 := fun _ => rfl) h)
end Go.Proofs.YtjofogblgjhcfaaW.PrintWords
