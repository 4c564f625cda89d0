/- Copy: numbers copied into the begin of a row of one's own. -/
import Derived.Test.YtapoeleiicnlbaaWArr
import Derived.Laws.IdiomCopy
namespace Go.Proofs.YtapoeleiicnlbaaW.PrintWords
open Go.RowKit

/-- What a row is behind a copy into its m places from lo on. -/
def copyAt (xs : List Int) (lo m : Nat) (ys : List Int) : List Int := xs.take lo ++ (ys.take m ++ xs.drop (lo + min m ys.length))
theorem copyAt_length (xs : List Int) (lo m : Nat) (ys : List Int) (h : lo + m ≤ xs.length) : (copyAt xs lo m ys).length = xs.length := by
  unfold copyAt
  rw [List.length_append, List.length_append, List.length_take, List.length_take, List.length_drop]
  omega
namespace Kd
section
variable {P : Program}
theorem R_copyin_run (k : IntKind) {W : World} (base : Nat) (t t2 ty e : TypeId) (ht : P.underlying t = some (.slice e)) (hi : (P.info? e).map (·.size) = some 1)
    {A0 A1 : Option Addr} {n c lo m cm : Nat} {xs ys : List Int} {ok : Nat → Prop} (HO : (Kd.int k).R e W base ok (.slice A0 n c) xs) (hA1 : A1 = A0 ∧ lo = 0 ∨ A1 = (if c = lo then A0 else A0.map (·.add (lo * 1)))) (hm : lo + m ≤ n) {A : Option Addr} {m2 c2 : Nat} (hC : (Kd.int k).C W A m2 ys) (hy : ys.length = m2) :
    ∃ w1 v1, (Builtin.copy_ #[t, t2] ty #[.slice A1 m cm, .slice A m2 c2]).run P W = .ok v1 w1 ∧ (Kd.int k).R e w1 base ok (.slice A0 n c) (copyAt xs lo m ys) ∧ W.grownBy w1 (Value.slice A0 n c).ownBlock := by
  by_cases h0 : Nat.min m2 m = 0
  · refine ⟨W, goInt 0, run_copy_none W t t2 ty e A1 A m cm m2 c2 ht hi h0, ?_, ⟨rfl, rfl, rfl, Nat.le_refl _, fun _ _ _ => rfl⟩⟩
    have : copyAt xs lo m ys = xs := by
      unfold copyAt
      rcases Nat.eq_zero_or_pos m with h | h
      · subst h; simp
      · have : ys = [] := List.eq_nil_of_length_eq_zero (by have : min m2 m = 0 := h0; omega)
        subst this; simp
    rw [this]; exact HO
  · have hpos : 0 < min m2 m := Nat.pos_of_ne_zero h0
    obtain ⟨hn, hnc, _⟩ := R_reads' HO
    obtain ⟨hok, inner, hown, hr⟩ := HO
    have hsz : (Kd.int k).sz = 1 := rfl
    have hin : inner.length = n := by have := hr.1; rw [hsz] at this; omega
    rcases hown.2 with ⟨hv, hz⟩ | ⟨g', cap', cur, hv, hb, hh, _, hcm, hcs, htake⟩
    · exfalso
      injection hv with _ h2 _
      omega
    injection hv with ha _ hc
    subst ha; subst hc
    have hA2 : A1 = some ⟨g', lo, none⟩ := by
      rcases hA1 with ⟨h, h'⟩ | h
      · rw [h, h']
      · rw [h, if_neg (by omega)]
        simp [Addr.add]
        exact fun h => h.symm
    subst hA2
    clear hA1
    rw [← hn] at htake
    rw [hsz, Nat.mul_one] at htake
    rw [hsz, Nat.mul_one] at hcs
    obtain ⟨ad, rfl, _⟩ := at_int hC 0 (by omega) (by omega)
    obtain ⟨news, hnews⟩ : ∃ news, news = encs (Value.int k) (ys.take m) := ⟨_, rfl⟩
    have hnl : news.length = Nat.min m2 m := by rw [hnews, encs_length, List.length_take, hy, Nat.min_comm]
    have hsrc : ∀ j u, news[j]? = some u → W.cell? (ad.add j) = some u := by
      intro j u hu
      have hj : j < news.length := (List.getElem?_eq_some_iff.1 hu).1
      have hj2 : j < min m2 m := by rw [hnl] at hj; exact hj
      obtain ⟨ad', he, hc'⟩ := at_int hC (j : Int) (by omega) (by omega)
      injection he with he
      subst he
      rw [show ((j : Int)).toNat = j from rfl] at hc'
      rw [hc', ← hu, hnews]
      have h1 : j < ys.length := by omega
      simp [encs, rd, List.getElem?_eq_getElem h1, show j < m by omega]
    have hone : ∀ u ∈ news, u.oneCell' = true := by
      intro u hu
      rw [hnews] at hu
      simp only [encs, List.mem_map] at hu
      obtain ⟨x, _, rfl⟩ := hu
      rfl
    have hle : lo + news.length ≤ cur.size := by rw [hnl]; have : min m2 m ≤ m := Nat.min_le_right _ _; have : Nat.min m2 m = min m2 m := rfl; omega
    have hrun := run_copy_cells (P := P) W t t2 ty e g' lo m cm ad m2 c2 news ht hi hnl hsrc
      (fun j hj => by rw [cell_of_row W g' _ cur e (0, 0) hh]; simp; omega) (fun j _ => blk_frozen hh _) hone
    obtain ⟨cur', h3, h4, h5⟩ := setCells_row news lo W cur hh hle
    obtain ⟨s1, s2, s3, s4⟩ := setCells_same g' news lo W
    have hfar : ∀ k', k' ≠ g' → (W.setCells g' lo news).heap[k']? = W.heap[k']? := fun k' hk' => setCells_far news _ k' hk'
    have hlen : (copyAt xs lo m ys).length = xs.length := copyAt_length xs lo m ys (by omega)
    refine ⟨_, _, hrun, ⟨hok, encs (Value.int k) (copyAt xs lo m ys), ⟨?_, .inr ⟨g', c, cur', by rw [hlen, ← hn], hb, h3, by rw [hlen, ← hn]; exact hnc, hcm, by rw [h4, hcs, hsz, Nat.mul_one], ?_⟩⟩, reps_scalar _⟩, ⟨s1, s2, s3, by rw [s4]; exact Nat.le_refl _, fun k' _ hk' => hfar k' (fun he => hk' (by rw [he]; rfl))⟩⟩
    · rw [encs_length, hsz, Nat.mul_one]
    · rw [hlen, ← hn, hsz, Nat.mul_one, h5]
      have hi2 : inner = encs (Value.int k) xs := reps_encs (α := Int) (enc := Value.int k) hr
      have hcur : cur.toList.take n = encs (Value.int k) xs := by rw [htake, hi2]
      have hcl : n ≤ cur.toList.length := by rw [Array.length_toList]; omega
      have e1 : (encs (Value.int k) (ys.take m)).length = min m ys.length := by rw [encs_length, List.length_take]
      rw [hnews, e1, List.append_assoc]
      have hd : (cur.toList.drop (lo + min m ys.length)).take (n - (lo + min m ys.length)) = (encs (Value.int k) xs).drop (lo + min m ys.length) := by
        rw [← hcur, List.drop_take]
      have ht0 : cur.toList.take lo = (encs (Value.int k) xs).take lo := by
        rw [← hcur, List.take_take, Nat.min_eq_left (by omega)]
      rw [List.take_append, List.take_append, e1, List.length_take, Nat.min_eq_left (show lo ≤ cur.toList.length by omega), List.take_of_length_le (i := n) (l := List.take lo cur.toList) (by rw [List.length_take]; omega),
        List.take_of_length_le (i := n - lo) (l := encs (Value.int k) (ys.take m)) (by rw [e1]; omega), Nat.sub_sub, hd, ht0]
      simp [copyAt, encs]
end
section
variable {P : Program} {ops : Array Oper} {rest : List Oper} {o : Oper} {a : Act} {Q : Exit → Act → World → Prop} {Kc : Act → World → Prop}
theorem R_copyin_step (k : IntKind) {w0 W : World} (base : Nat) (hw : Region.wanted o (yielded ops a.tmps) = true) (s x : Operand) (t t2 e : TypeId) (ho : o.op = .call { callee := .builtin .copy, args := #[s, x], argTypes := #[t, t2] })
    (ht : P.underlying t = some (.slice e)) (hinfo : (P.info? e).map (·.size) = some 1) {A0 A1 A : Option Addr} {n c lo m cm m2 c2 : Nat} {xs ys : List Int} {ok : Nat → Prop}
    (hs : a.eval s = .slice A1 m cm) (hx : a.eval x = .slice A m2 c2) (hy : ys.length = m2)
    (HO : (Kd.int k).R e W base ok (.slice A0 n c) xs) (hC : (Kd.int k).C W A m2 ys) (hA1 : A1 = A0 ∧ lo = 0 ∨ A1 = (if c = lo then A0 else A0.map (·.add (lo * 1)))) (hm : lo + m ≤ n) (HB : Below base w0 W) (hbase : base ≤ W.heap.size)
    (h : ∀ w1 v1, (Kd.int k).R e w1 base ok (.slice A0 n c) (copyAt xs lo m ys) → Below base w0 w1 → W.grownBy w1 (Value.slice A0 n c).ownBlock → Kc (a.put o.dst v1) w1) :
    if Region.wanted o (yielded ops a.tmps) = true then Oper.wp P o a W Kc Q else Kc (a.put o.dst undef) W := by
  obtain ⟨w1, v1, hr, h1, h2⟩ := R_copyin_run (P := P) k base t t2 o.type e ht hinfo (cm := cm) (c2 := c2) HO hA1 hm hC hy
  rw [if_pos hw]
  unfold Oper.wp execOp
  simp only [ho, resolve, invoke, builtin, Sem.run_bind, Sem.run_pure, Result.andThen_ok, List.map_toArray, List.map_cons, List.map_nil, hs, hx, hr]
  exact h w1 v1 h1 (HB.grown h2 hbase (fun k hk => R_base HO _ hk)) h2
end
end Kd
end Go.Proofs.YtapoeleiicnlbaaW.PrintWords
