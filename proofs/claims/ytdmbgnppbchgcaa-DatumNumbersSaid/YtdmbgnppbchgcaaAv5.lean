/- A logic of small values, and walks in it: For the walks: steps that stop at calls; frames told by the slots that are looked at later; states told by what lies in them. More steps that turn nothing: rows in rows. A row of one's own handed to a function: told as a plain list. Datum: tensors, and what the walks share. Within, at; the tape. Shapes: Right, Size; a tensor that is filled. A tensor that is filled; numbers and tensors of a tape. -/
import Derived.Test.YtdmbgnppbchgcaaAv4
set_option linter.unusedVariables false
set_option linter.unusedSimpArgs false
set_option linter.deprecated false
namespace Go.Av

section ops
variable {P : Program} {F : Fr} {σ σ' : St} {K : AV → St → Prop}
/-- Not a call, nor a step through a map. -/
def CO.plain : CO → Bool
  | .call .. | .callv .. | .nx _ => false
  | _ => true
theorem aopq_plain {o : CO} (h : o.plain = true) : aopq P o F σ K = aop P o F σ K := by
  cases o <;> first | rfl | cases h
theorem aopq_call {f : FuncId} {xs : List Od} {args : List AV} {v : AV} (h : T P f args σ v σ) (ha : xs.map (ev F) = args) (k : K v σ) : aopq P (.call true f xs) F σ K := by
  subst ha; simp only [aopq, aop, if_true]; exact ⟨v, h, k⟩
theorem aop_call {f : FuncId} {xs : List Od} {args : List AV} {v : AV} (h : T P f args σ v σ) (ha : xs.map (ev F) = args) (k : K v σ) : aop P (.call true f xs) F σ K := by
  subst ha; simp only [aop, if_true]; exact ⟨v, h, k⟩
theorem aopq_callQ {f : FuncId} {xs : List Od} {args : List AV} {Q : AV → St → Prop} (h : TQ P f args σ Q) (ha : xs.map (ev F) = args) (k : ∀ v σ', Q v σ' → K v σ') : aopq P (.call false f xs) F σ K := by
  subst ha; simp only [aopq, Bool.false_eq_true, if_false]; exact ⟨Q, h, k⟩
theorem aop_callF {f : FuncId} {xs : List Od} {args : List AV} {v : AV} (h : T P f args σ v σ') (ha : xs.map (ev F) = args) (k : K v σ') : aop P (.call false f xs) F σ K := by
  subst ha; simp only [aop, Bool.false_eq_true, if_false]; exact ⟨v, σ', h, k⟩
theorem aopq_callv {x : Od} {f : FuncId} {cs : List AV} {xs : List Od} {args : List AV} {v : AV} (hx : ev F x = .func f cs) (h : T P f args σ v σ) (ha : xs.map (ev F) ++ cs = args) (k : K v σ) : aopq P (.callv true x xs) F σ K := by
  subst ha; simp only [aopq, aop, hx, if_true]; exact ⟨v, h, k⟩
theorem aop_callv {x : Od} {f : FuncId} {cs : List AV} {xs : List Od} {args : List AV} {v : AV} (hx : ev F x = .func f cs) (h : T P f args σ v σ) (ha : xs.map (ev F) ++ cs = args) (k : K v σ) : aop P (.callv true x xs) F σ K := by
  subst ha; simp only [aop, hx, if_true]; exact ⟨v, h, k⟩
theorem aopq_callvQ {x : Od} {f : FuncId} {cs : List AV} {xs : List Od} {args : List AV} {Q : AV → St → Prop} (hx : ev F x = .func f cs) (h : TQ P f args σ Q) (ha : xs.map (ev F) ++ cs = args) (k : ∀ v σ', Q v σ' → K v σ') : aopq P (.callv false x xs) F σ K := by
  subst ha; simp only [aopq, hx, Bool.false_eq_true, if_false]; exact ⟨Q, h, k⟩
theorem T.to {f : FuncId} {args : List AV} {v v' : AV} {s s' : St} (h : T P f args σ v s) (hv : v = v') (hs : s = s') : T P f args σ v' s' := by subst hv hs; exact h
theorem TQ.mono {f : FuncId} {args : List AV} {Q Q' : AV → St → Prop} (h : TQ P f args σ Q) (hq : ∀ v s, Q v s → Q' v s) : TQ P f args σ Q' :=
  ⟨h.1, fun W0 e w cargs hr hl hv => (h.2 W0 e w cargs hr hl hv).mono fun en w' ⟨e', cv, v, s, h1, h2, h3, h4, h5⟩ => ⟨e', cv, v, s, h1, h2, h3, h4, hq _ _ h5⟩⟩
theorem aopq_callT {f : FuncId} {xs : List Od} {args : List AV} {v : AV} (h : T P f args σ v σ') (ha : xs.map (ev F) = args) (k : K v σ') : aopq P (.call false f xs) F σ K :=
  aopq_callQ h ha fun v' s' hq => by obtain ⟨rfl, rfl⟩ := hq; exact k
end ops

section
variable {P : Program} {F : Fr} {σ : St} {K : AV → St → Prop}
theorem aopq_mv (x : Od) : aopq P (.mv x) F σ K = aop P (.mv x) F σ K := rfl
theorem aopq_pk (c a b : Od) : aopq P (.pk c a b) F σ K = aop P (.pk c a b) F σ K := rfl
theorem aopq_al (z : List AV) : aopq P (.al z) F σ K = aop P (.al z) F σ K := rfl
theorem aopq_bx (x : Od) : aopq P (.bx x) F σ K = aop P (.bx x) F σ K := rfl
theorem aopq_bd (z : List AV) (ps : List (Nat × Nat × Od)) : aopq P (.bd z ps) F σ K = aop P (.bd z ps) F σ K := rfl
theorem aopq_bs (own : Bool) (sz : Nat) (z : List AV) (len : Nat) (ps : List (Nat × Od)) : aopq P (.bs own sz z len ps) F σ K = aop P (.bs own sz z len ps) F σ K := rfl
theorem aopq_ld (g : Option Nat) (x : Od) : aopq P (.ld g x) F σ K = aop P (.ld g x) F σ K := rfl
theorem aopq_st (n : Nat) (a v : Od) : aopq P (.st n a v) F σ K = aop P (.st n a v) F σ K := rfl
theorem aopq_nc (x : Od) : aopq P (.nc x) F σ K = aop P (.nc x) F σ K := rfl
theorem aopq_bin (op : BinOp) (tg : Nat) (x y : Od) : aopq P (.bin op tg x y) F σ K = aop P (.bin op tg x y) F σ K := rfl
theorem aopq_un (op : UnOp) (x : Od) : aopq P (.un op x) F σ K = aop P (.un op x) F σ K := rfl
theorem aopq_cv (k : IntKind) (x : Od) : aopq P (.cv k x) F σ K = aop P (.cv k x) F σ K := rfl
theorem aopq_mi (t : TypeId) (x : Od) : aopq P (.mi t x) F σ K = aop P (.mi t x) F σ K := rfl
theorem aopq_mf (f : FuncId) (cs : List Od) : aopq P (.mf f cs) F σ K = aop P (.mf f cs) F σ K := rfl
theorem aopq_mm (kt : Option Nat) : aopq P (.mm kt) F σ K = aop P (.mm kt) F σ K := rfl
theorem aopq_ms (sz bytes : Nat) (z : List AV) (len cap : Od) : aopq P (.ms sz bytes z len cap) F σ K = aop P (.ms sz bytes z len cap) F σ K := rfl
theorem aopq_sc (sz : Nat) (x : Od) (lo hi mx : Option Od) : aopq P (.sc sz x lo hi mx) F σ K = aop P (.sc sz x lo hi mx) F σ K := rfl
theorem aopq_fa (off : Nat) (x : Od) : aopq P (.fa off x) F σ K = aop P (.fa off x) F σ K := rfl
theorem aopq_fl (off : Nat) (g : Option Nat) (x : Od) : aopq P (.fl off g x) F σ K = aop P (.fl off g x) F σ K := rfl
theorem aopq_ia (sz : Nat) (x ix : Od) : aopq P (.ia sz x ix) F σ K = aop P (.ia sz x ix) F σ K := rfl
theorem aopq_lk (ok : Bool) (kt : Option Nat) (z : AV) (m k : Od) : aopq P (.lk ok kt z m k) F σ K = aop P (.lk ok kt z m k) F σ K := rfl
theorem aopq_mu (kt : Option Nat) (m k v : Od) : aopq P (.mu kt m k v) F σ K = aop P (.mu kt m k v) F σ K := rfl
theorem aopq_lm (m : Od) : aopq P (.lm m) F σ K = aop P (.lm m) F σ K := rfl
theorem aopq_rg (m : Od) : aopq P (.rg m) F σ K = aop P (.rg m) F σ K := rfl
theorem aopq_msl (sz bytes : Nat) (z : List AV) (len cap : Od) : aopq P (.msl sz bytes z len cap) F σ K = aop P (.msl sz bytes z len cap) F σ K := rfl
theorem aopq_rgs (m : Od) : aopq P (.rgs m) F σ K = aop P (.rgs m) F σ K := rfl
theorem aopq_nxs (m : Od) : aopq P (.nxs m) F σ K = aop P (.nxs m) F σ K := rfl
theorem aopq_en (x : Od) : aopq P (.en x) F σ K = aop P (.en x) F σ K := rfl
theorem aopq_ta (x : Od) (t : TypeId) (ok : Bool) (z : AV) : aopq P (.ta x t ok z) F σ K = aop P (.ta x t ok z) F σ K := rfl
theorem aopq_ex (x : Od) (i : Nat) : aopq P (.ex x i) F σ K = aop P (.ex x i) F σ K := rfl
theorem aopq_ln (str : Bool) (x : Od) : aopq P (.ln str x) F σ K = aop P (.ln str x) F σ K := rfl
theorem aopq_ap (sz bytes : Nat) (x y : Od) : aopq P (.ap sz bytes x y) F σ K = aop P (.ap sz bytes x y) F σ K := rfl
theorem aopq_mx (m : Bool) (x y : Od) : aopq P (.mx m x y) F σ K = aop P (.mx m x y) F σ K := rfl
end

def atS (K : AV → St → Prop) (σ : St) : AV → Prop := fun v => K v σ
theorem atS_apply (K : AV → St → Prop) (σ : St) (v : AV) : atS K σ v = K v σ := by simp only [atS]
theorem aop_bin {P : Program} {F : Fr} {σ : St} {K : AV → St → Prop} (op : BinOp) (tg : Nat) (x y : Od) : aop P (.bin op tg x y) F σ K = abin op tg (ev F x) (ev F y) (atS K σ) := by simp only [aop]; rfl
def cutS (K : AV → St → Prop) (σ : St) (s : ByteArray) : Nat → Nat → Bool → Prop := fun l h _ => K (.str (s.extract l h)) σ
def cutN (K : AV → St → Prop) (σ : St) : Nat → Nat → Bool → Prop := fun _ _ _ => K .nils σ
def cutL (K : AV → St → Prop) (σ : St) (s : Nat) (rows : List (List AV)) : Nat → Nat → Bool → Prop := fun l h _ => K (.lit s ((rows.drop l).take (h - l))) σ
def cutO (K : AV → St → Prop) (σ : St) (b o : Nat) : Nat → Nat → Bool → Prop := fun l h _ => K (.sl b (o + l) (h - l)) σ
theorem cutS_apply (K : AV → St → Prop) (σ : St) (s : ByteArray) (l h : Nat) (t : Bool) : cutS K σ s l h t = K (.str (s.extract l h)) σ := by simp only [cutS]
theorem cutN_apply (K : AV → St → Prop) (σ : St) (l h : Nat) (t : Bool) : cutN K σ l h t = K .nils σ := by simp only [cutN]
theorem cutL_apply (K : AV → St → Prop) (σ : St) (s : Nat) (rows : List (List AV)) (l h : Nat) (t : Bool) : cutL K σ s rows l h t = K (.lit s ((rows.drop l).take (h - l))) σ := by simp only [cutL]
theorem cutO_apply (K : AV → St → Prop) (σ : St) (b o : Nat) (l h : Nat) (t : Bool) : cutO K σ b o l h t = K (.sl b (o + l) (h - l)) σ := by simp only [cutO]
theorem aop_sc {P : Program} {F : Fr} {σ : St} {K : AV → St → Prop} (sz : Nat) (x : Od) (lo hi mx : Option Od) : aop P (.sc sz x lo hi mx) F σ K = (match ev F x with
    | .str s => sz = 0 ∧ mx.isNone = true ∧ bounds F s.size lo hi mx (cutS K σ s)
    | .nils => sz ≠ 0 ∧ bounds F 0 lo hi mx (cutN K σ)
    | .lit s rows => sz ≠ 0 ∧ s = sz ∧ bounds F rows.length lo hi mx (cutL K σ s rows)
    | .sl b o n => match σ.blk b with
      | some (.cells s _) => sz ≠ 0 ∧ s = sz ∧ bounds F n lo hi mx (cutO K σ b o)
      | _ => False
    | _ => False) := by simp only [aop]; rfl
theorem aop_un_not {P : Program} {F : Fr} {σ : St} {K : AV → St → Prop} (x : Od) : aop P (.un .not x) F σ K = match ev F x with
    | .bool b => K (.bool !b) σ
    | _ => False := by
  cases h : ev F x <;> simp [aop, h]
theorem aop_un_neg {P : Program} {F : Fr} {σ : St} {K : AV → St → Prop} (x : Od) : aop P (.un .neg x) F σ K = match ev F x with
    | .int k n => K (.int k (k.wrap (0 - n))) σ
    | _ => False := by
  cases h : ev F x <;> simp [aop, h]

theorem pure_mv (x : Od) : CO.pure (.mv x) = true := by simp only [CO.pure]
theorem eff_mv (x : Od) : CO.eff (.mv x) = false := by simp [CO.eff, CO.pure]
theorem pure_pk (c a b : Od) : CO.pure (.pk c a b) = true := by simp only [CO.pure]
theorem eff_pk (c a b : Od) : CO.eff (.pk c a b) = false := by simp [CO.eff, CO.pure]
theorem pure_al (z : List AV) : CO.pure (.al z) = false := by simp only [CO.pure]
theorem eff_al (z : List AV) : CO.eff (.al z) = true := by simp [CO.eff, CO.pure]
theorem pure_bx (x : Od) : CO.pure (.bx x) = false := by simp only [CO.pure]
theorem eff_bx (x : Od) : CO.eff (.bx x) = true := by simp [CO.eff, CO.pure]
theorem pure_bd (z : List AV) (ps : List (Nat × Nat × Od)) : CO.pure (.bd z ps) = true := by simp only [CO.pure]
theorem eff_bd (z : List AV) (ps : List (Nat × Nat × Od)) : CO.eff (.bd z ps) = false := by simp [CO.eff, CO.pure]
theorem pure_bs (own : Bool) (sz : Nat) (z : List AV) (len : Nat) (ps : List (Nat × Od)) : CO.pure (.bs own sz z len ps) = !own := by simp only [CO.pure]
theorem eff_bs (own : Bool) (sz : Nat) (z : List AV) (len : Nat) (ps : List (Nat × Od)) : CO.eff (.bs own sz z len ps) = own := by simp [CO.eff, CO.pure]
theorem pure_ld (g : Option Nat) (x : Od) : CO.pure (.ld g x) = false := by simp only [CO.pure]
theorem eff_ld (g : Option Nat) (x : Od) : CO.eff (.ld g x) = false := by simp [CO.eff, CO.pure]
theorem pure_st (n : Nat) (a v : Od) : CO.pure (.st n a v) = false := by simp only [CO.pure]
theorem eff_st (n : Nat) (a v : Od) : CO.eff (.st n a v) = true := by simp [CO.eff, CO.pure]
theorem pure_nc (x : Od) : CO.pure (.nc x) = true := by simp only [CO.pure]
theorem eff_nc (x : Od) : CO.eff (.nc x) = false := by simp [CO.eff, CO.pure]
theorem pure_bin (op : BinOp) (tg : Nat) (x y : Od) : CO.pure (.bin op tg x y) = true := by simp only [CO.pure]
theorem eff_bin (op : BinOp) (tg : Nat) (x y : Od) : CO.eff (.bin op tg x y) = false := by simp [CO.eff, CO.pure]
theorem pure_un (op : UnOp) (x : Od) : CO.pure (.un op x) = true := by simp only [CO.pure]
theorem eff_un (op : UnOp) (x : Od) : CO.eff (.un op x) = false := by simp [CO.eff, CO.pure]
theorem pure_cv (k : IntKind) (x : Od) : CO.pure (.cv k x) = true := by simp only [CO.pure]
theorem eff_cv (k : IntKind) (x : Od) : CO.eff (.cv k x) = false := by simp [CO.eff, CO.pure]
theorem pure_mi (t : TypeId) (x : Od) : CO.pure (.mi t x) = true := by simp only [CO.pure]
theorem eff_mi (t : TypeId) (x : Od) : CO.eff (.mi t x) = false := by simp [CO.eff, CO.pure]
theorem pure_mf (f : FuncId) (cs : List Od) : CO.pure (.mf f cs) = true := by simp only [CO.pure]
theorem eff_mf (f : FuncId) (cs : List Od) : CO.eff (.mf f cs) = false := by simp [CO.eff, CO.pure]
theorem pure_mm (kt : Option Nat) : CO.pure (.mm kt) = false := by simp only [CO.pure]
theorem eff_mm (kt : Option Nat) : CO.eff (.mm kt) = true := by simp [CO.eff, CO.pure]
theorem pure_ms (sz bytes : Nat) (z : List AV) (len cap : Od) : CO.pure (.ms sz bytes z len cap) = false := by simp only [CO.pure]
theorem pure_msl (sz bytes : Nat) (z : List AV) (len cap : Od) : CO.pure (.msl sz bytes z len cap) = true := by simp only [CO.pure]
theorem eff_msl (sz bytes : Nat) (z : List AV) (len cap : Od) : CO.eff (.msl sz bytes z len cap) = false := by simp [CO.eff, CO.pure]
theorem eff_ms (sz bytes : Nat) (z : List AV) (len cap : Od) : CO.eff (.ms sz bytes z len cap) = true := by simp [CO.eff, CO.pure]
theorem pure_sc (sz : Nat) (x : Od) (lo hi mx : Option Od) : CO.pure (.sc sz x lo hi mx) = false := by simp only [CO.pure]
theorem eff_sc (sz : Nat) (x : Od) (lo hi mx : Option Od) : CO.eff (.sc sz x lo hi mx) = false := by simp [CO.eff, CO.pure]
theorem pure_fa (off : Nat) (x : Od) : CO.pure (.fa off x) = true := by simp only [CO.pure]
theorem eff_fa (off : Nat) (x : Od) : CO.eff (.fa off x) = false := by simp [CO.eff, CO.pure]
theorem pure_fl (off : Nat) (g : Option Nat) (x : Od) : CO.pure (.fl off g x) = true := by simp only [CO.pure]
theorem eff_fl (off : Nat) (g : Option Nat) (x : Od) : CO.eff (.fl off g x) = false := by simp [CO.eff, CO.pure]
theorem pure_ia (sz : Nat) (x ix : Od) : CO.pure (.ia sz x ix) = false := by simp only [CO.pure]
theorem eff_ia (sz : Nat) (x ix : Od) : CO.eff (.ia sz x ix) = false := by simp [CO.eff, CO.pure]
theorem pure_lk (ok : Bool) (kt : Option Nat) (z : AV) (m k : Od) : CO.pure (.lk ok kt z m k) = false := by simp only [CO.pure]
theorem eff_lk (ok : Bool) (kt : Option Nat) (z : AV) (m k : Od) : CO.eff (.lk ok kt z m k) = false := by simp [CO.eff, CO.pure]
theorem pure_mu (kt : Option Nat) (m k v : Od) : CO.pure (.mu kt m k v) = false := by simp only [CO.pure]
theorem eff_mu (kt : Option Nat) (m k v : Od) : CO.eff (.mu kt m k v) = true := by simp [CO.eff, CO.pure]
theorem pure_lm (m : Od) : CO.pure (.lm m) = false := by simp only [CO.pure]
theorem eff_lm (m : Od) : CO.eff (.lm m) = false := by simp [CO.eff, CO.pure]
theorem pure_rg (m : Od) : CO.pure (.rg m) = false := by simp only [CO.pure]
theorem eff_rg (m : Od) : CO.eff (.rg m) = true := by simp [CO.eff, CO.pure]
theorem pure_nx (x : Od) : CO.pure (.nx x) = false := by simp only [CO.pure]
theorem eff_nx (x : Od) : CO.eff (.nx x) = true := by simp [CO.eff, CO.pure]
theorem pure_en (x : Od) : CO.pure (.en x) = false := by simp only [CO.pure]
theorem eff_en (x : Od) : CO.eff (.en x) = false := by simp [CO.eff, CO.pure]
theorem pure_ta (x : Od) (t : TypeId) (ok : Bool) (z : AV) : CO.pure (.ta x t ok z) = true := by simp only [CO.pure]
theorem eff_ta (x : Od) (t : TypeId) (ok : Bool) (z : AV) : CO.eff (.ta x t ok z) = false := by simp [CO.eff, CO.pure]
theorem pure_ex (x : Od) (i : Nat) : CO.pure (.ex x i) = true := by simp only [CO.pure]
theorem eff_ex (x : Od) (i : Nat) : CO.eff (.ex x i) = false := by simp [CO.eff, CO.pure]
theorem pure_ln (str : Bool) (x : Od) : CO.pure (.ln str x) = true := by simp only [CO.pure]
theorem eff_ln (str : Bool) (x : Od) : CO.eff (.ln str x) = false := by simp [CO.eff, CO.pure]
theorem pure_ap (sz bytes : Nat) (x y : Od) : CO.pure (.ap sz bytes x y) = false := by simp only [CO.pure]
theorem eff_ap (sz bytes : Nat) (x y : Od) : CO.eff (.ap sz bytes x y) = true := by simp [CO.eff, CO.pure]
theorem pure_mx (m : Bool) (x y : Od) : CO.pure (.mx m x y) = true := by simp only [CO.pure]
theorem eff_mx (m : Bool) (x y : Od) : CO.eff (.mx m x y) = false := by simp [CO.eff, CO.pure]
theorem pure_call (q : Bool) (f : FuncId) (args : List Od) : CO.pure (.call q f args) = false := by simp only [CO.pure]
theorem eff_call (q : Bool) (f : FuncId) (args : List Od) : CO.eff (.call q f args) = !q := by simp [CO.eff, CO.pure]
theorem pure_callv (q : Bool) (x : Od) (args : List Od) : CO.pure (.callv q x args) = false := by simp only [CO.pure]
theorem eff_callv (q : Bool) (x : Od) (args : List Od) : CO.eff (.callv q x args) = !q := by simp [CO.eff, CO.pure]

section states
theorem blk_push (σ : St) (B : Blk) (b : Nat) : (σ.push B).blk b = if b = σ.next then some B else σ.blk b := rfl
theorem next_push (σ : St) (B : Blk) : (σ.push B).next = σ.next + 1 := rfl
theorem blk_set (σ : St) (c : Nat) (B : Blk) (b : Nat) : (σ.set c B).blk b = if b = c then some B else σ.blk b := rfl
theorem next_set (σ : St) (c : Nat) (B : Blk) : (σ.set c B).next = σ.next := rfl
theorem blk_kill (σ : St) (c : Nat) (b : Nat) : (σ.kill c).blk b = if b = c then none else σ.blk b := rfl
theorem next_kill (σ : St) (c : Nat) : (σ.kill c).next = σ.next := rfl
end states

/-- A frame of a few slots. -/
def frL : List (Nat × AV) → Fr
  | [] => fun _ => .undef
  | p :: r => fun t => if t = p.1 then p.2 else frL r t
theorem frL_nil (t : Nat) : frL [] t = .undef := rfl
theorem frL_cons (k : Nat) (v : AV) (r : List (Nat × AV)) (t : Nat) : frL ((k, v) :: r) t = if t = k then v else frL r t := rfl
def Fits (F : Fr) : List (Nat × AV) → Prop
  | [] => True
  | p :: r => F p.1 = p.2 ∧ Fits F r
theorem Fits_nil (F : Fr) : Fits F [] = True := rfl
theorem Fits_cons (F : Fr) (k : Nat) (v : AV) (r : List (Nat × AV)) : Fits F ((k, v) :: r) = (F k = v ∧ Fits F r) := rfl
theorem Fits.frL {F : Fr} {L : List (Nat × AV)} (h : Fits F L) (t : Nat) : frL L t = .undef ∨ Av.frL L t = F t := by
  induction L with
  | nil => exact .inl rfl
  | cons p r ih =>
    simp only [Av.frL]
    split
    · rename_i ht; subst ht; exact .inr h.1.symm
    · exact ih h.2
theorem Fits.ent {n0 : Nat} {F : Fr} {σ : St} {L : List (Nat × AV)} (h : Fits F L) : Ent n0 F σ (Av.frL L) σ := by
  rintro W0 e0 N a w ⟨hn, e, hle, hrel, hf, hN, hd⟩
  refine ⟨hn, e, hle, hrel, fun t => ?_, hN, hd⟩
  rcases h.frL t with h' | h' <;> rw [h']
  · exact .undef _
  · exact hf t
theorem Fits.entUpd {n0 : Nat} {F : Fr} {σ : St} {L : List (Nat × AV)} (h : Fits F L) (t : Nat) (v : AV) : Ent n0 (upd F t v) σ (upd (Av.frL L) t v) σ := by
  rintro W0 e0 N a w ⟨hn, e, hle, hrel, hf, hN, hd⟩
  refine ⟨hn, e, hle, hrel, fun i => ?_, hN, hd⟩
  have := hf i
  unfold upd at *
  split
  · rename_i hi; rw [if_pos hi] at this; exact this
  · rename_i hi; rw [if_neg hi] at this
    rcases h.frL i with h' | h' <;> rw [h']
    · exact .undef _
    · exact this

section
variable {P : Program} {n0 : Nat} {Q : Exit → Fr → St → Prop} {F : Fr} {σ : St}
theorem SWP.keep {c : C} (L : List (Nat × AV)) (h : Fits F L) (k : SWP P n0 c Q (frL L) σ) : SWP P n0 c Q F σ := .ent h.ent k
/-- What holds between two parts, told by slots. -/
theorem SWP.midK {a b : C} (J : List (Nat × AV) → St → Prop) (h : SWP P n0 a (thenQ (fun F' σ' => ∃ L, J L σ' ∧ Fits F' L) Q) F σ) (h' : ∀ L σ', J L σ' → SWP P n0 b Q (frL L) σ') : SWP P n0 (.seq a b) Q F σ :=
  .mid (fun F' σ' => ∃ L, J L σ' ∧ Fits F' L) h fun _ _ ⟨L, hJ, hL⟩ => .keep L hL (h' L _ hJ)

def loopQ (id : Nat) (m : Nat) (J : Nat → List (Nat × AV) → St → Prop) (Q : Exit → Fr → St → Prop) : Exit → Fr → St → Prop
  | .normal, F, σ => ∃ m', m' < m ∧ ∃ L, J m' L σ ∧ Fits F L
  | .exit k, F, σ => if k = id then Q .normal F σ else Q (.exit k) F σ
  | ex, F, σ => Q ex F σ
theorem SWP.loopK {id : Nat} {body : C} (J : Nat → List (Nat × AV) → St → Prop) (m : Nat) (h0 : ∃ L, J m L σ ∧ Fits F L) (h : ∀ m L σ, J m L σ → SWP P n0 body (loopQ id m J Q) (frL L) σ) : SWP P n0 (.block id (.loop body)) Q F σ := by
  refine .block (.loop (fun m F σ => ∃ L, J m L σ ∧ Fits F L) m h0 fun m F σ ⟨L, hJ, hL⟩ => .keep L hL ((h m L σ hJ).mono fun ex F' σ' hq => ?_))
  cases ex with
  | normal => exact hq
  | exit k => exact hq
  | _ => exact hq

def roundK (id id2 ti tx i : Nat) (J : Nat → List (Nat × AV) → St → Prop) (Q : Exit → Fr → St → Prop) : Exit → Fr → St → Prop
  | .normal, F, σ => F ti = .int .i64 i ∧ ∃ L, J (i + 1) L σ ∧ Fits (upd (upd F tx (.int .i64 ((i + 1 : Nat) : Int))) ti (.int .i64 ((i + 1 : Nat) : Int))) L
  | .exit k, F, σ => if k = id2 then F ti = .int .i64 i ∧ ∃ L, J (i + 1) L σ ∧ Fits (upd (upd F tx (.int .i64 ((i + 1 : Nat) : Int))) ti (.int .i64 ((i + 1 : Nat) : Int))) L else if k = id then Q .normal F σ else Q (.exit k) F σ
  | ex, F, σ => Q ex F σ

/-- The slots of a counting loop's head. -/
structure Heads (ti tn t : Nat) (i N : Nat) (L : List (Nat × AV)) : Prop where
  i : frL L ti = .int .i64 i
  n : frL L tn = .int .i64 N
  t : (L.all fun p => p.1 != t) = true

theorem Fits.upd {F : Fr} {L : List (Nat × AV)} {t : Nat} (h : Fits F L) (ht : (L.all fun p => p.1 != t) = true) (v : AV) : Fits (Av.upd F t v) L := by
  induction L with
  | nil => trivial
  | cons p r ih =>
    simp only [List.all_cons, Bool.and_eq_true, bne_iff_ne, ne_eq] at ht
    refine ⟨?_, ih h.2 ht.2⟩
    rw [Av.upd, if_neg ht.1]; exact h.1
theorem Fits.int {F : Fr} {L : List (Nat × AV)} {t : Nat} {n : Int} (h : Fits F L) (hl : Av.frL L t = .int .i64 n) : F t = .int .i64 n := by
  rcases h.frL t with h' | h' <;> rw [hl] at h'
  · cases h'
  · exact h'.symm

theorem SWP.rangeK {id id2 t ti tn tx N : Nat} {body : C} (J : Nat → List (Nat × AV) → St → Prop) (hN : N ≤ most) (h0 : ∃ L, J 0 L σ ∧ Fits F L) (hF : ∀ i L σ, J i L σ → Heads ti tn t i N L)
    (hstep : ∀ i L σ, i < N → J i L σ → SWP P n0 body (roundK id id2 ti tx i J Q) (frL L) σ)
    (hend : ∀ L σ F, J N L σ → Fits F L → Q .normal F σ) :
    SWP P n0 (.block id (.loop (.seq (.reg [⟨some t, none, .bin .lss 0 (.t ti) (.t tn)⟩]) (.seq (.cond (.t t) .skip (.exit id))
      (.seq (.block id2 body) (.reg [⟨some tx, none, .bin .add 0 (.t ti) (.k (.int .i64 1))⟩, ⟨some ti, none, .mv (.t tx)⟩])))))) Q F σ := by
  refine .range (N := N) (fun i F σ => ∃ L, J i L σ ∧ Fits F L) hN h0 (fun i F σ ⟨L, hJ, hL⟩ => ⟨hL.int (hF i L σ hJ).i, hL.int (hF i L σ hJ).n⟩) ?_ ?_
  · rintro i F σ hi ⟨L, hJ, hL⟩
    refine .keep L (hL.upd (hF i L σ hJ).t _) ((hstep i L σ hi hJ).mono fun ex F' σ' hq => ?_)
    cases ex with
    | normal => exact hq
    | exit k => exact hq
    | _ => exact hq
  · rintro F σ ⟨L, hJ, hL⟩
    exact hend L σ _ hJ (hL.upd (hF N L σ hJ).t _)

def roundC (id id2 ti ta tx i : Nat) (J : Nat → List (Nat × AV) → St → Prop) (Q : Exit → Fr → St → Prop) : Exit → Fr → St → Prop
  | .normal, F, σ => F ti = .int .i64 i ∧ ∃ L, J (i + 1) L σ ∧ Fits (upd (upd (upd F ta (.int .i64 i)) tx (.int .i64 ((i + 1 : Nat) : Int))) ti (.int .i64 ((i + 1 : Nat) : Int))) L
  | .exit k, F, σ => if k = id2 then F ti = .int .i64 i ∧ ∃ L, J (i + 1) L σ ∧ Fits (upd (upd (upd F ta (.int .i64 i)) tx (.int .i64 ((i + 1 : Nat) : Int))) ti (.int .i64 ((i + 1 : Nat) : Int))) L else if k = id then Q .normal F σ else Q (.exit k) F σ
  | ex, F, σ => Q ex F σ

theorem SWP.countK {id id2 t ti ta tx N : Nat} {hd body : C} (J : Nat → List (Nat × AV) → St → Prop) (hN : N ≤ most) (h0 : ∃ L, J 0 L σ ∧ Fits F L)
    (hhd : ∀ i L σ, i ≤ N → J i L σ → SWP P n0 hd (fun ex F' σ' => ex = .normal ∧ F' t = .bool (decide (i < N)) ∧ ∃ L', J i L' σ' ∧ Fits F' L') (frL L) σ)
    (hstep : ∀ i L σ, i < N → J i L σ → SWP P n0 body (roundC id id2 ti ta tx i J Q) (frL L) σ)
    (hend : ∀ L σ F, J N L σ → Fits F L → Q .normal F σ) :
    SWP P n0 (.block id (.loop (.seq (.seq hd (.cond (.t t) .skip (.exit id)))
      (.seq (.block id2 body) (.reg [⟨some ta, none, .mv (.t ti)⟩, ⟨some tx, none, .bin .add 0 (.t ta) (.k (.int .i64 1))⟩, ⟨some ti, none, .mv (.t tx)⟩]))))) Q F σ := by
  refine .count (N := N) (fun i F σ => ∃ L, J i L σ ∧ Fits F L) hN h0 (fun i F σ hi ⟨L, hJ, hL⟩ => .keep L hL (hhd i L σ hi hJ)) ?_ ?_
  · rintro i F σ hi ⟨L, hJ, hL⟩ -
    refine .keep L hL ((hstep i L σ hi hJ).mono fun ex F' σ' hq => ?_)
    cases ex with
    | normal => exact hq
    | exit k => exact hq
    | _ => exact hq
  · rintro F σ ⟨L, hJ, hL⟩ -
    exact hend L σ F hJ hL
end

section ret
variable {n0 : Nat} {F : Fr} {σ σ0 : St}
/-- One value, in a state that may have grown. -/
theorem retS {n : Nat} {v : AV} {Q : AV → St → Prop} (h : F n = v) (hq : Q v σ) : retQ n0 [.t n] Q .ret F σ :=
  ⟨[v], by simp [resOne, h], v, σ, .refl _ _ _, hq⟩
/-- One value; the state is told anew, without what has come since. -/
theorem retB {n : Nat} {v : AV} {Q : AV → St → Prop} (h : F n = v) (wf : σ0.Wf) (hs : ∀ b, b < σ0.next → σ.blk b = σ0.blk b) (hv : v.Lt σ0.next) (hq : Q v σ0) : retQ σ0.next [.t n] Q .ret F σ :=
  ⟨[v], by simp [resOne, h], v, σ0, .back rfl wf hs hv, hq⟩
theorem retB0 {Q : AV → St → Prop} (wf : σ0.Wf) (hs : ∀ b, b < σ0.next → σ.blk b = σ0.blk b) (hq : Q (.tup []) σ0) : retQ σ0.next [] Q .ret F σ :=
  ⟨[], by simp, .tup [], σ0, .back rfl wf hs (.tup _ (by simp)), hq⟩
theorem retS2 {n m : Nat} {v u : AV} {Q : AV → St → Prop} (h : F n = v) (h' : F m = u) (hq : Q (.tup [v, u]) σ) : retQ n0 [.t n, .t m] Q .ret F σ :=
  ⟨[v, u], by simp [resOne, h, h'], .tup [v, u], σ, .refl _ _ _, hq⟩
end ret

def stepD (A : Nat → List (Nat × CO × Tr) → List RO → Fr → St → (Fr → St → Prop) → Prop) (i : Nat) (h : List (Nat × CO × Tr)) (os : List RO) (d : Option Nat) (F : Fr) (K : Fr → St → Prop) : AV → St → Prop := fun v σ' => A i h os (put F d v) σ' K
theorem stepD_apply (A : Nat → List (Nat × CO × Tr) → List RO → Fr → St → (Fr → St → Prop) → Prop) (i : Nat) (h : List (Nat × CO × Tr)) (os : List RO) (d : Option Nat) (F : Fr) (K : Fr → St → Prop) (v : AV) (σ : St) : stepD A i h os d F K v σ = A i h os (put F d v) σ K := by simp only [stepD]
def stepE (P : Program) (tbl : List (List Nat)) (A : Nat → List (Nat × CO × Tr) → List RO → Fr → St → (Fr → St → Prop) → Prop) (i : Nat) (h : List (Nat × CO × Tr)) (o : CO) (σ : St) (os : List RO) (d : Option Nat) (F : Fr) (K : Fr → St → Prop) : AV → St → Prop :=
  fun v σ' => (o.eff = true ∨ σ' = σ) ∧ chk P (tbl.getD i []) o F v σ' h ∧ A (i + 1) ((i, o, ⟨F, σ, v, σ', true⟩) :: h) os (put F d v) σ' K
theorem stepE_apply (P : Program) (tbl : List (List Nat)) (A : Nat → List (Nat × CO × Tr) → List RO → Fr → St → (Fr → St → Prop) → Prop) (i : Nat) (h : List (Nat × CO × Tr)) (o : CO) (σ : St) (os : List RO) (d : Option Nat) (F : Fr) (K : Fr → St → Prop) (v : AV) (σ' : St) :
    stepE P tbl A i h o σ os d F K v σ' = ((o.eff = true ∨ σ' = σ) ∧ chk P (tbl.getD i []) o F v σ' h ∧ A (i + 1) ((i, o, ⟨F, σ, v, σ', true⟩) :: h) os (put F d v) σ' K) := by simp only [stepE]

/-- What a drawn region's formula does, told by equations alone. -/
structure RLD (P : Program) (tbl : List (List Nat)) (A : Nat → List (Nat × CO × Tr) → List RO → Fr → St → (Fr → St → Prop) → Prop) : Prop where
  nil : ∀ i h F σ K, A i h [] F σ K = K F σ
  pur : ∀ i h d o os F σ K, o.pure = true → A i h (⟨d, none, o⟩ :: os) F σ K = aop P o F σ (stepD A (i + 1) h os d F K)
  go : ∀ i h d o os F σ K, o.pure = false → A i h (⟨d, none, o⟩ :: os) F σ K = aop P o F σ (stepE P tbl A i h o σ os d F K)
  yes : ∀ i h d t want o os F σ K, F t = .bool want → A i h (⟨d, some (t, want), o⟩ :: os) F σ K = A i h (⟨d, none, o⟩ :: os) F σ K
  noT : ∀ i h d t o os F σ K, F t = .bool false → A i h (⟨d, some (t, true), o⟩ :: os) F σ K = A (i + 1) h os (put F d (.raw (.tuple #[]))) σ K
  noF : ∀ i h d t o os F σ K, F t = .bool true → A i h (⟨d, some (t, false), o⟩ :: os) F σ K = A (i + 1) h os (put F d (.raw (.tuple #[]))) σ K
  skp : ∀ i h d t want o os F σ K, F t = .raw (.tuple #[]) → A i h (⟨d, some (t, want), o⟩ :: os) F σ K = A (i + 1) h os (put F d (.raw (.tuple #[]))) σ K

theorem chk_nil (P : Program) (b : List Nat) (o : CO) (F : Fr) (v : AV) (σ : St) : chk P b o F v σ [] = True := rfl
theorem chk_cons (P : Program) (b : List Nat) (o : CO) (F : Fr) (v : AV) (σ : St) (j : Nat) (o' : CO) (t : Tr) (hs : List (Nat × CO × Tr)) : chk P b o F v σ ((j, o', t) :: hs) = ((b.contains j = true ∨ (if o.eff = true then (o'.eff = true ∨ again P o' t.F t.v σ) else (o'.eff = false ∨ again P o F v t.s))) ∧ chk P b o F v σ hs) := rfl
theorem chk_pure {P : Program} {b : List Nat} {o : CO} (hp : o.pure = true) (he : o.eff = false) {F : Fr} {v : AV} {σ' : St} : ∀ h, chk P b o F v σ' h
  | [] => trivial
  | (j, o', t) :: hs => ⟨.inr (by rw [if_neg (by rw [he]; simp)]; exact .inr (.inl hp)), chk_pure hp he hs⟩

theorem RLD.adr (P : Program) (tbl : List (List Nat)) : RLD P tbl (Av.adr P tbl) := by
  refine ⟨fun _ _ _ _ _ => rfl, fun i h d o os F σ K hp => ?_, fun i h d o os F σ K hp => ?_, fun i h d t want o os F σ K hf => ?_, fun i h d t o os F σ K hf => ?_, fun i h d t o os F σ K hf => ?_, fun i h d t want o os F σ K hf => ?_⟩
  · have he := pure_eff hp
    unfold stepD
    simp only [Av.adr]
    refine propext ⟨fun hh => ?_, fun hh => ?_⟩
    · obtain ⟨v, h1, h2⟩ := aop_det hp hh
      refine h2 σ _ ?_
      have := h1.2.2
      rwa [if_pos hp] at this
    · obtain ⟨v, h1, h2⟩ := aop_det hp hh
      refine h2 σ _ ⟨.inr rfl, chk_pure hp he h, ?_⟩
      rw [if_pos hp]; exact h1
  · unfold stepE
    simp only [Av.adr]
    simp only [hp, Bool.false_eq_true, if_false]
  · simp [Av.adr, hf]
  · simp [Av.adr, hf]
  · simp [Av.adr, hf]
  · simp [Av.adr, hf]

theorem SWP.rdx {P : Program} {n0 : Nat} {Q : Exit → Fr → St → Prop} {F : Fr} {σ : St} {tbl : List (List Nat)} {ops : List RO} (h : ∀ A, RLD P tbl A → ∀ K : Fr → St → Prop, (∀ F' σ', Q .normal F' σ' → K F' σ') → A 0 [] ops F σ K) : SWP P n0 (.dr tbl ops) Q F σ :=
  .rx fun K hK => h _ (.adr P tbl) K hK
theorem SWP.rdx2 {P : Program} {n0 : Nat} {Q : Exit → Fr → St → Prop} {F : Fr} {σ : St} {tA tB : List (List Nat)} {oA oB : List RO} (h1 : ∀ A, RLD P tA A → ∀ K : Fr → St → Prop, (∀ F' σ', Q .normal F' σ' → K F' σ') → A 0 [] oA F σ K)
    (h2 : ∀ A, RLD P tB A → ∀ K : Fr → St → Prop, (∀ F' σ', Q .normal F' σ' → K F' σ') → A 0 [] oB F σ K) : SWP P n0 (.dr2 tA oA tB oB) Q F σ :=
  .rx2 fun K hK => ⟨h1 _ (.adr P tA) K hK, h2 _ (.adr P tB) K hK⟩
theorem SWP.nilK {P : Program} {n0 : Nat} {c : C} {Q : Exit → Fr → St → Prop} {F : Fr} {σ : St} (i : Nat) {sz : Nat} (hF : F i = .lit sz []) (h1 : ∀ F', (∀ t, t ≠ i → F' t = F t) → F' i = .nils → SWP P n0 c Q F' σ)
    (h2 : ∀ F', (∀ t, t ≠ i → F' t = F t) → F' i = .emp false sz → SWP P n0 c Q F' σ) : SWP P n0 c Q F σ :=
  .nilOr i hF (h1 _ (fun t ht => by simp [Av.upd, ht]) (by simp [Av.upd])) (h2 _ (fun t ht => by simp [Av.upd, ht]) (by simp [Av.upd]))
end Go.Av

namespace Go.Av
section
variable {n0 : Nat} {F : Fr} {σ : St}
theorem Ent.lit0At {b' sz' i j sz : Nat} {rows' : List (List AV)} (hb' : σ.blk b' = some (.cells sz' rows')) (hi : i < rows'.length) (hj : j < (rows'.getD i []).length)
    (hc : (rows'.getD i []).getD j .undef = .nils) :
    Ent n0 F σ F (σ.set b' (.cells sz' (rows'.set i ((rows'.getD i []).set j (.lit sz []))))) := by
  rintro W0 e0 N a w ⟨hn, e, hle, hrel, hf, hN, hd⟩
  obtain ⟨x', hx', _⟩ := hrel.own b' _ hb'
  obtain ⟨r1, r2, r3, r4⟩ := hrel.cellsAt hb' hx'
  have hv : x'.v = false := by
    cases h : x'.v with
    | false => rfl
    | true =>
      obtain ⟨y, h1, _, h3⟩ := hrel.own b' _ hb'
      rw [hx'] at h1; cases h1
      have := h3.2.2.2.1 h
      subst this; simp at hi
  obtain ⟨c, t, s5, s6, s7, s8⟩ := r4 hv
  refine ⟨hn, e, hle, hrel.set hb' hx' hv (fun _ _ => rfl) (Nat.le_refl _) hrel.below _ ?_, hf, hN, hd⟩
  have hlen : ((rows'.getD i []).set j (.lit sz [])).length = sz' := by rw [List.length_set]; exact r2 i hi
  refine ⟨r1, fun k hk => ?_, by simpa using r3, (fun h => by rw [hv] at h; cases h), fun _ => ⟨c, t, s5, s6, by simpa using s7, fun k m hk hm => ?_⟩⟩
  · rw [lset_get]; split
    · exact hlen
    · exact r2 k (by simpa using hk)
  · have hk' : k < rows'.length := by simpa using hk
    refine ⟨(s8 k m hk' hm).1, ?_⟩
    rw [lset_get]
    split
    · rename_i hki; obtain ⟨rfl, _⟩ := hki
      by_cases hmj : m = j
      · subst hmj
        have := (s8 k m hk' hm).2
        rw [hc] at this
        rw [List.getD_eq_getElem?_getD, List.getElem?_set, if_pos rfl, if_pos hj]
        simp only [Option.getD_some]
        generalize c.getD (x'.o + k * sz' + m) Go.undef = v at this
        cases this
        exact .lit0 sz none 0 (fun _ => rfl)
      · rw [List.getD_eq_getElem?_getD, List.getElem?_set, if_neg (by omega), ← List.getD_eq_getElem?_getD]; exact (s8 k m hk' hm).2
    · exact (s8 k m hk' hm).2

theorem Ent.virtAt {b' sz' i j : Nat} (sz : Nat) {rows' : List (List AV)} (hb' : σ.blk b' = some (.cells sz' rows')) (hi : i < rows'.length) (hj : j < (rows'.getD i []).length)
    (hc : (rows'.getD i []).getD j .undef = .nils) :
    Ent n0 F σ F ((σ.push (.cells sz [])).set b' (.cells sz' (rows'.set i ((rows'.getD i []).set j (.sl σ.next 0 0))))) := by
  rintro W0 e0 N a w ⟨hn, e, hle, hrel, hf, hN, hd⟩
  obtain ⟨x', hx', _⟩ := hrel.own b' _ hb'
  obtain ⟨l, hxv, hR⟩ := hrel.virt sz
  have hlt : b' < σ.next := hrel.lt hb'
  have hb2 : (σ.push (.cells sz [])).blk b' = some (.cells sz' rows') := by simp only [St.push]; rw [if_neg (by omega)]; exact hb'
  obtain ⟨r1, r2, r3, r4⟩ := hR.cellsAt hb2 (l.ι _ _ hx')
  have hv : x'.v = false := by
    cases h : x'.v with
    | false => rfl
    | true =>
      obtain ⟨y, h1, _, h3⟩ := hrel.own b' _ hb'
      rw [hx'] at h1; cases h1
      have := h3.2.2.2.1 h
      subst this; simp at hi
  obtain ⟨c, t, s5, s6, s7, s8⟩ := r4 hv
  refine ⟨hn, _, hle.trans l, hR.set hb2 (l.ι _ _ hx') hv (fun _ _ => rfl) (Nat.le_refl _) hR.below _ ?_, fun t => (hf t).mono l, hN, hd⟩
  have hlen : ((rows'.getD i []).set j (.sl σ.next 0 0)).length = sz' := by rw [List.length_set]; exact r2 i hi
  refine ⟨r1, fun k hk => ?_, by simpa using r3, (fun h => by rw [hv] at h; cases h), fun _ => ⟨c, t, s5, s6, by simpa using s7, fun k m hk hm => ?_⟩⟩
  · rw [lset_get]; split
    · exact hlen
    · exact r2 k (by simpa using hk)
  · have hk' : k < rows'.length := by simpa using hk
    refine ⟨(s8 k m hk' hm).1, ?_⟩
    rw [lset_get]
    split
    · rename_i hki; obtain ⟨rfl, _⟩ := hki
      by_cases hmj : m = j
      · subst hmj
        have := (s8 k m hk' hm).2
        rw [hc] at this
        rw [List.getD_eq_getElem?_getD, List.getElem?_set, if_pos rfl, if_pos hj]
        simp only [Option.getD_some]
        generalize c.getD (x'.o + k * sz' + m) Go.undef = v at this
        cases this
        exact .sl0 _ _ _ _ hxv
      · rw [List.getD_eq_getElem?_getD, List.getElem?_set, if_neg (by omega), ← List.getD_eq_getElem?_getD]; exact (s8 k m hk' hm).2
    · exact (s8 k m hk' hm).2

variable {P : Program} {c : C} {Q : Exit → Fr → St → Prop}
theorem SWP.frz (i : Nat) {b n sz : Nat} {rows : List (List AV)} (hF : F i = .sl b 0 n) (hb : σ.blk b = some (.cells sz rows)) (hn : n = rows.length)
    (h : SWP P n0 c Q (upd F i (.lit sz rows)) (σ.kill b)) : SWP P n0 c Q F σ := by
  refine .ent (.freeze (i := i) hF hb (by omega)) ?_
  subst hn; simpa using h
theorem SWP.frzAt (b' i : Nat) {c' n sz : Nat} {rows' rows : List (List AV)} (hb' : σ.blk b' = some (.cells 1 rows')) (hi : i < rows'.length) (hc : rows'.getD i [] = [.sl c' 0 n]) (hb : σ.blk c' = some (.cells sz rows)) (hne : b' ≠ c') (hn : n = rows.length)
    (h : SWP P n0 c Q F ((σ.kill c').set b' (.cells 1 (rows'.set i [.lit sz rows])))) : SWP P n0 c Q F σ := by
  refine .ent (.freezeAt (j := 0) hb' hi (by rw [hc]; simp) (by rw [hc]; rfl) hb hne (by omega)) ?_
  rw [hc]; subst hn; simpa using h
/-- What comes behind may be told another way. -/
theorem SWP.entQ (h : SWP P n0 c (fun ex F σ => ∃ F' σ', Ent n0 F σ F' σ' ∧ Q ex F' σ') F σ) : SWP P n0 c Q F σ := by
  intro cc N k hk W0 e0 a w hr
  refine wp_mono (h cc N k hk W0 e0 a w hr) fun ex a w ⟨F, σ, ⟨F', σ', h1, h2⟩, h3⟩ => ⟨F', σ', h2, h1 _ _ _ _ _ h3⟩
theorem Ent.frzAt (b' i : Nat) {c' n sz : Nat} {rows' rows : List (List AV)} (hb' : σ.blk b' = some (.cells 1 rows')) (hi : i < rows'.length) (hc : rows'.getD i [] = [.sl c' 0 n]) (hb : σ.blk c' = some (.cells sz rows)) (hne : b' ≠ c') (hn : n = rows.length) :
    Ent n0 F σ F ((σ.kill c').set b' (.cells 1 (rows'.set i [.lit sz rows]))) := by
  have := Ent.freezeAt (n0 := n0) (F := F) (j := 0) hb' hi (by rw [hc]; simp) (by rw [hc]; rfl) hb hne (by omega)
  rw [hc] at this; subst hn; simpa using this
theorem Ent.litAt (b' i sz : Nat) {rows' : List (List AV)} (hb' : σ.blk b' = some (.cells 1 rows')) (hi : i < rows'.length) (hc : rows'.getD i [] = [.nils]) :
    Ent n0 F σ F (σ.set b' (.cells 1 (rows'.set i [.lit sz []]))) := by
  have := Ent.lit0At (n0 := n0) (F := F) (sz := sz) (j := 0) hb' hi (by rw [hc]; simp) (by rw [hc]; rfl)
  rw [hc] at this; simpa using this
theorem SWP.litAt (b' i : Nat) {sz : Nat} {rows' : List (List AV)} (hb' : σ.blk b' = some (.cells 1 rows')) (hi : i < rows'.length) (hc : rows'.getD i [] = [.nils])
    (h : SWP P n0 c Q F (σ.set b' (.cells 1 (rows'.set i [.lit sz []])))) : SWP P n0 c Q F σ := by
  refine .ent (.lit0At (sz := sz) (j := 0) hb' hi (by rw [hc]; simp) (by rw [hc]; rfl)) ?_
  rw [hc]; simpa using h
end

theorem SWP.thenK {P : Program} {n0 : Nat} {Q : Exit → Fr → St → Prop} {F : Fr} {σ : St} {a b : C} (J : List (Nat × AV) → St → Prop) (h : SWP P n0 a (thenQ (fun F' σ' => ∃ L, J L σ' ∧ Fits F' L) Q) F σ) (h' : ∀ L σ', J L σ' → SWP P n0 b Q (frL L) σ') :
    SWP P n0 a (thenQ (fun F' σ' => SWP P n0 b Q F' σ') Q) F σ :=
  h.mono fun ex F' σ' hq => by
    cases ex with
    | normal => obtain ⟨L, hJ, hL⟩ := hq; exact SWP.keep L hL (h' L _ hJ)
    | _ => exact hq

/-- What stands to the one stands to the other. -/
def Sub (a a' : AV) : Prop := ∀ e v, VR e a v → VR e a' v
theorem Sub.refl (a : AV) : Sub a a := fun _ _ h => h
theorem Sub.nils (sz : Nat) : Sub .nils (.lit sz []) := fun e v h => by cases h; exact .lit0 sz none 0 (fun _ => rfl)
theorem Sub.undef (a : AV) : Sub a .undef := fun e v _ => .undef v
theorem Sub.lit {sz : Nat} {rows rows' : List (List AV)} (hl : rows.length = rows'.length) (hr : ∀ i, i < rows.length → (rows.getD i []).length = (rows'.getD i []).length)
    (h : ∀ i j, i < rows.length → j < (rows.getD i []).length → Sub ((rows.getD i []).getD j .undef) ((rows'.getD i []).getD j .undef)) : Sub (.lit sz rows) (.lit sz rows') := by
  intro e v hv
  cases hv with
  | lit0 _ a cap hz =>
    have : rows' = [] := List.length_eq_zero_iff.1 (by simpa using hl.symm)
    subst this; exact .lit0 sz a cap hz
  | lit _ _ k off cap c hk hc hm hrr hs ho hh =>
    have q : VR e (.lit sz rows') (.slice (some ⟨k, off, none⟩) rows'.length cap) := ?_
    · rwa [← hl] at q
    exact .lit sz rows' k off cap c hk (by omega) (by omega) (fun i hi => by rw [← hr i (by omega)]; exact hrr i (by omega)) (by rw [← hl]; exact hs) (fun i j hi hj => ho i j (by omega) hj)
      (fun i j hi hj => h i j (by omega) (by rw [hrr i (by omega)]; exact hj) _ _ (hh i j (by omega) hj))
theorem TQ.sub {P : Program} {f : FuncId} {args args' : List AV} {σ : St} {Q : AV → St → Prop} (hl : args.length = args'.length) (hs : ∀ i, i < args.length → Sub (args.getD i .undef) (args'.getD i .undef)) (h : TQ P f args' σ Q) : TQ P f args σ Q :=
  ⟨h.1, fun W0 e w cargs hr hlen hv => h.2 W0 e w cargs hr (by omega) fun i hi => hs i (by omega) _ _ (hv i (by omega))⟩
theorem Sub.agg {cs cs' : List AV} (hl : cs.length = cs'.length) (h : ∀ i, i < cs.length → Sub (cs.getD i .undef) (cs'.getD i .undef)) : Sub (.agg cs) (.agg cs') := by
  intro e v hv
  cases hv with
  | agg _ vs hl' ho hh => exact .agg cs' vs (by omega) (fun i hi => ho i (by omega)) fun i hi => h i (by omega) _ _ (hh i (by omega))
theorem Ent.sub {n0 : Nat} {F : Fr} {σ : St} (i : Nat) {a a' : AV} (hF : F i = a) (hs : Sub a a') : Ent n0 F σ (upd F i a') σ := by
  rintro W0 e0 N ac w ⟨hn, e, hle, hrel, hf, hN, hd⟩
  refine ⟨hn, e, hle, hrel, fun t => ?_, hN, hd⟩
  unfold upd; split
  · rename_i ht; subst ht; exact hs _ _ (by rw [← hF]; exact hf t)
  · exact hf t
end Go.Av

namespace Go.Av
theorem TQ.frz {P : Program} {f : FuncId} {args : List AV} {σ : St} {Q : AV → St → Prop} (i : Nat) {b n sz : Nat} {rows : List (List AV)} (hi : args.getD i .undef = .sl b 0 n) (hb : σ.blk b = some (.cells sz rows)) (hn : n = rows.length)
    (h : TQ P f (args.set i (.lit sz rows)) (σ.kill b) Q) : TQ P f args σ Q := by
  refine ⟨h.1, fun W0 e w cargs hr hlen hv => ?_⟩
  obtain ⟨x, hx, _⟩ := hr.own b _ hb
  obtain ⟨e', l, hR, hcut⟩ := hr.freeze hb hx
  refine (h.2 W0 e' w cargs hR (by simpa using hlen) fun j hj => ?_).mono fun en w' ⟨e'', cv, v, s, h1, h2, h3, h4, h5⟩ => ⟨e'', cv, v, s, h1, l.trans h2, h3, h4, h5⟩
  have hj' : j < args.length := by simpa using hj
  by_cases hji : j = i
  · subst hji
    have hq := hv j hj'
    rw [hi] at hq
    have := hcut 0 n _ hq (by omega)
    rw [List.getD_eq_getElem?_getD, List.getElem?_set, if_pos rfl, if_pos hj', Option.getD_some]
    subst hn; simpa using this
  · rw [List.getD_eq_getElem?_getD, List.getElem?_set, if_neg (by omega), ← List.getD_eq_getElem?_getD]; exact (hv j hj').mono l
theorem T.toQ {P : Program} {f : FuncId} {args : List AV} {σ : St} {v : AV} {σ' : St} (h : T P f args σ v σ') : TQ P f args σ fun v' s' => v' = v ∧ s' = σ' := h
end Go.Av

namespace Go.Proofs.Ytdmbgnppbchgcaa.Av
open Go Go.Av
set_option maxRecDepth 20000
set_option maxHeartbeats 4000000

section ret
variable {n0 : Nat} {F : Fr} {σ σ0 : St}
theorem ret1 {n : Nat} {v : AV} (h : F n = v) (hs : σ = σ0) : retQ n0 [.t n] (fun v' s' => v' = v ∧ s' = σ0) .ret F σ :=
  ⟨[v], by simp [resOne, h], v, σ, .refl _ _ _, rfl, hs⟩
theorem retBc {n b sz : Nat} {row : List AV} {g : Option Nat} {v : AV} {Q : AV → St → Prop} (h : F n = .ptr b 0 0) (hb : σ.blk b = some (.cells sz [row])) (hg : g.getD 1 ≤ sz) (hm : mk g row 0 = v) (wf : σ0.Wf) (hs : ∀ b, b < σ0.next → σ.blk b = σ0.blk b) (hv : v.Lt σ0.next) (hq : Q v σ0) : retQ σ0.next [.c g n] Q .ret F σ :=
  ⟨[v], by simp [resOne, h, hb, hg, hm], v, σ0, .back rfl wf hs hv, hq⟩
/-- One out of a variable in memory, and another one; the memory is what it has become. -/
theorem retC2 {n b sz k : Nat} {row : List AV} {g : Option Nat} {v u : AV} {Q : AV → St → Prop} (h : F n = .ptr b 0 0) (hb : σ.blk b = some (.cells sz [row])) (hg : g.getD 1 ≤ sz) (hm : mk g row 0 = v) (hk : F k = u) (hq : Q (.tup [v, u]) σ) : retQ n0 [.c g n, .t k] Q .ret F σ :=
  ⟨[v, u], by simp [resOne, h, hb, hg, hm, hk], .tup [v, u], σ, .refl _ _ _, hq⟩
theorem retC1 {n b sz : Nat} {row : List AV} {g : Option Nat} {v : AV} {Q : AV → St → Prop} (h : F n = .ptr b 0 0) (hb : σ.blk b = some (.cells sz [row])) (hg : g.getD 1 ≤ sz) (hm : mk g row 0 = v) (hq : Q v σ) : retQ n0 [.c g n] Q .ret F σ :=
  ⟨[v], by simp [resOne, h, hb, hg, hm], v, σ, .refl _ _ _, hq⟩
end ret

abbrev I (n : Int) : AV := .int .i64 n
def ints (l : List Int) : AV := .lit 1 (l.map fun n => [I n])
def tenA (s d : List Int) : AV := .agg [ints s, ints d]
theorem ints_get {l : List Int} {i : Nat} (h : i < l.length) : (l.map fun n => [I n]).getD i [] = [I l[i]] := by simp [h]
theorem hab_ints {l : List Int} (h : Hab (ints l)) : l.length ≤ most := by simpa using h.lit.1
theorem parts_agg (cs : List AV) : (AV.agg cs).parts = true := rfl
theorem parts_bool (b : Bool) : (AV.bool b).parts = true := rfl
theorem parts_int (k : IntKind) (b : Int) : (AV.int k b).parts = true := rfl
theorem parts_str (b : ByteArray) : (AV.str b).parts = true := rfl
theorem parts_lit (n : Nat) (b : List (List AV)) : (AV.lit n b).parts = true := rfl
theorem parts_nils : (AV.nils).parts = true := rfl
theorem parts_sl (b o n : Nat) : (AV.sl b o n).parts = true := rfl
theorem parts_ptr (b o n : Nat) : (AV.ptr b o n).parts = true := rfl
theorem parts_iface (t : TypeId) (a : AV) : (AV.iface t a).parts = true := rfl
theorem parts_nilp : (AV.nilp).parts = true := rfl
theorem parts_niliface : (AV.niliface).parts = true := rfl
theorem getD_drop (l : List AV) (k j : Nat) : (l.drop k).getD j .undef = l.getD (k + j) .undef := by simp [List.getD_eq_getElem?_getD]
theorem wrap_nat {n : Nat} (h : n < 2 ^ 62) : IntKind.i64.wrap n = n := IntWalk.i64_in _ (by omega)
theorem foldl_take {α β : Type} (f : β → α → β) (a : β) (l : List α) (i : Nat) (h : i < l.length) : (l.take (i + 1)).foldl f a = f ((l.take i).foldl f a) l[i] := by
  rw [List.take_add_one, List.foldl_append]; simp [h]
theorem getD_set_ne {α : Type} {l : List α} {d k : Nat} (x y : α) (h : k ≠ d) : (l.set d x).getD k y = l.getD k y := by
  rw [List.getD_eq_getElem?_getD, List.getElem?_set, if_neg (by omega), ← List.getD_eq_getElem?_getD]
theorem getD_set_eq {α : Type} {l : List α} {d : Nat} (x y : α) (h : d < l.length) : (l.set d x).getD d y = x := by
  simp [List.getD_eq_getElem?_getD, h]
theorem getD_at' {α : Type} {l : List α} {i : Nat} (h : i < l.length) (x : α) : l.getD i x = l[i] := by simp [List.getD_eq_getElem?_getD, h]
def Ext (σ σ' : St) : Prop := σ.next ≤ σ'.next ∧ ∀ b, b < σ.next → σ'.blk b = σ.blk b
theorem Ext.refl (σ : St) : Ext σ σ := ⟨Nat.le_refl _, fun _ _ => rfl⟩
theorem Ext.trans {a b c : St} (h : Ext a b) (h' : Ext b c) : Ext a c := ⟨Nat.le_trans h.1 h'.1, fun x hx => by rw [h'.2 x (Nat.lt_of_lt_of_le hx h.1), h.2 x hx]⟩
theorem lt_agg {n : Nat} {cs : List AV} (h : ∀ x ∈ cs, x.Lt n) : (AV.agg cs).Lt n := .agg _ fun i hi => by
  rw [List.getD_eq_getElem?_getD, List.getElem?_eq_getElem hi]; exact h _ (List.getElem_mem hi)
theorem lt_tup {n : Nat} {cs : List AV} (h : ∀ x ∈ cs, x.Lt n) : (AV.tup cs).Lt n := .tup _ fun i hi => by
  rw [List.getD_eq_getElem?_getD, List.getElem?_eq_getElem hi]; exact h _ (List.getElem_mem hi)
theorem lt_lit {n sz : Nat} {rows : List (List AV)} (h : ∀ r ∈ rows, ∀ x ∈ r, x.Lt n) : (AV.lit sz rows).Lt n := .lit _ _ fun i j hi hj => by
  have e : rows.getD i [] = rows[i] := by rw [List.getD_eq_getElem?_getD, List.getElem?_eq_getElem hi]; rfl
  rw [e] at hj ⊢
  rw [List.getD_eq_getElem?_getD, List.getElem?_eq_getElem hj]; exact h _ (List.getElem_mem hi) _ (List.getElem_mem hj)
theorem ints_lt {n : Nat} (l : List Int) : (ints l).Lt n := lt_lit (by simp; intro a _; exact .int _ _)
theorem tenA_lt {n : Nat} (s d : List Int) : (tenA s d).Lt n := lt_agg (by simp only [List.forall_mem_cons, List.not_mem_nil, false_imp_iff, implies_true, and_true]; exact ⟨ints_lt s, ints_lt d⟩)
theorem frz {P : Program} {n0 : Nat} {c : C} {Q : Exit → Fr → St → Prop} {F : Fr} {σ : St} (i : Nat) {b n sz : Nat} {rows : List (List AV)} (hF : F i = .sl b 0 n) (hb : σ.blk b = some (.cells sz rows)) (hn : n = rows.length)
    (h : SWP P n0 c Q (upd F i (.lit sz rows)) (σ.kill b)) : SWP P n0 c Q F σ := by
  refine .ent (.freeze (i := i) hF hb (by omega)) ?_
  subst hn; simpa using h
/-- A cell of a struct in a slot's block becomes plain. -/
theorem frz1 {P : Program} {n0 : Nat} {c : C} {Q : Exit → Fr → St → Prop} {F : Fr} {σ : St} (b' j : Nat) {c' n sz sz' : Nat} {row : List AV} {rows : List (List AV)} (hb' : σ.blk b' = some (.cells sz' [row])) (hj : j < row.length) (hc : row.getD j .undef = .sl c' 0 n) (hb : σ.blk c' = some (.cells sz rows)) (hne : b' ≠ c') (hn : n = rows.length)
    (h : SWP P n0 c Q F ((σ.kill c').set b' (.cells sz' [row.set j (.lit sz rows)]))) : SWP P n0 c Q F σ := by
  refine .ent (.freezeAt (i := 0) (j := j) hb' (by simp) (by simpa using hj) (by simpa using hc) hb hne (by omega)) ?_
  subst hn; simpa using h
theorem aop_msl {P : Program} {F : Fr} {σ : St} {K : AV → St → Prop} (sz bytes : Nat) (z : List AV) (len cap : Od) : aop P (.msl sz bytes z len cap) F σ K = match ev F len, ev F cap with
    | .int _ n, .int _ c => 0 ≤ n ∧ n = c ∧ c ≤ most ∧ c * bytes ≤ most ∧ z.length = sz ∧ K (.lit sz (List.replicate n.toNat z)) σ
    | _, _ => False := rfl
theorem aop_rgs {P : Program} {F : Fr} {σ : St} {K : AV → St → Prop} (x : Od) : aop P (.rgs x) F σ K = match ev F x with
    | .str s => K (.iter σ.next) (σ.push (.siter s 0))
    | _ => False := rfl
theorem aop_nxs {P : Program} {F : Fr} {σ : St} {K : AV → St → Prop} (x : Od) : aop P (.nxs x) F σ K = match ev F x with
    | .iter b => match σ.blk b with
      | some (.siter s pos) => if pos < s.size then K (.tup [.bool true, .int .i64 pos, .int .i32 (Utf8.decode s pos).1]) (σ.set b (.siter s (pos + (Utf8.decode s pos).2))) else K (.tup [.bool false]) σ
      | _ => False
    | _ => False := rfl
end Go.Proofs.Ytdmbgnppbchgcaa.Av

namespace Go.Proofs.Ytdmbgnppbchgcaa.Av
open Go Go.Av
set_option maxRecDepth 20000
set_option maxHeartbeats 4000000

attribute [local go_sem] step_apply stepD_apply stepE_apply
attribute [local go_sem] aopq_mv aopq_pk aopq_al aopq_bx aopq_bd aopq_bs aopq_ld aopq_st aopq_nc aopq_bin aopq_un aopq_cv aopq_mi aopq_mf aopq_mm aopq_ms aopq_sc aopq_fa aopq_fl aopq_ia aopq_lk aopq_mu aopq_lm aopq_rg aopq_rgs aopq_nxs aopq_msl aop_msl aop_rgs aop_nxs aopq_en aopq_ta aopq_ex aopq_ln aopq_ap aopq_mx aopq.eq_3 aop.eq_1 aop.eq_2 aop.eq_3 aop.eq_4 aop.eq_5 aop.eq_6 aop.eq_7 aop.eq_8 aop.eq_9 aop_bin atS_apply aop_un_not aop_un_neg aop.eq_14 aop.eq_15 aop.eq_16 aop.eq_17 aop.eq_18 aop_sc cutS_apply cutN_apply cutL_apply cutO_apply aop.eq_20 aop.eq_21 aop.eq_22 aop.eq_23 aop.eq_24 aop.eq_25 aop.eq_26 aop.eq_27 aop.eq_28 aop.eq_29 aop.eq_30 aop.eq_31 aop.eq_32 blk_push next_push blk_set next_set blk_kill next_kill frL_nil frL_cons Fits_nil Fits_cons Int.reduceBEq Int.reduceBNe Nat.sub_zero Option.map_some Option.map_none List.set_cons_succ true_or or_true false_or or_false Int.le_refl Int.cast_ofNat_Int decide_true decide_false List.cons_append fillA fillR rowsOf List.replicate_succ List.replicate_zero Nat.zero_mul getD_drop List.length_drop splice List.nil_append List.append_nil cond_true cond_false List.set_cons_zero List.length_set ev put_some put_none upd_apply abin asNat bounds row1 mk List.length_cons List.length_nil List.length_map List.drop_zero List.drop_succ_cons List.drop_nil List.getD_cons_zero List.getD_cons_succ Option.getD_none Option.getD_some List.take_succ_cons List.take_zero List.take_nil true_and and_true Int.toNat_natCast if_true if_false Nat.zero_add Nat.add_zero List.map_cons List.map_nil Nat.reduceEqDiff Nat.left_eq_add Nat.add_eq_left Nat.add_left_cancel_iff Nat.add_assoc Nat.reduceSub Nat.reduceAdd Nat.reduceLeDiff Nat.le_refl Nat.zero_le Nat.zero_lt_one Nat.lt_add_one Int.reduceLT Int.reduceLE Int.reduceToNat Nat.reduceLT Nat.reduceBEq Bool.false_eq_true Nat.reduceBNe ne_eq not_false_eq_true not_true_eq_false false_and and_false reduceIte Int.natCast_nonneg reduceCtorEq parts_agg parts_bool parts_int parts_str parts_lit parts_nils parts_sl parts_ptr parts_iface parts_nilp parts_niliface Int.natCast_nonneg Int.natCast_nonneg beq_self_eq_true bne_self_eq_false Bool.true_and Bool.false_and Bool.and_true Bool.and_false Bool.true_or Bool.false_or Bool.or_true Bool.or_false Bool.not_true Bool.not_false
attribute [local go_sem] I ints tenA

def withinE (n lo hi : Int) : Int :=
  if n ≥ lo ∧ n ≤ hi then n else lo + (if n.tmod (hi - lo + 1) < 0 then n.tmod (hi - lo + 1) + (hi - lo + 1) else n.tmod (hi - lo + 1))
theorem tmod_small (n k : Int) (h : 0 < k) : -k < n.tmod k ∧ n.tmod k < k := by
  have h1 := Int.tmod_lt_of_pos n h
  have h2 := Int.tmod_lt_of_pos (-n) h
  rw [Int.neg_tmod] at h2
  exact ⟨by omega, h1⟩
theorem withinE_in (n lo hi : Int) (h : lo ≤ hi) : lo ≤ withinE n lo hi ∧ withinE n lo hi ≤ hi := by
  unfold withinE
  have := tmod_small n (hi - lo + 1) (by omega)
  split
  · omega
  · split <;> omega

/-- parquetrybook.Within -/
theorem within_spec (n lo hi : Int) (h : lo ≤ hi) (hl : -2 ^ 60 ≤ lo) (hh : hi ≤ 2 ^ 60) (σ : St) : T Try.prog 32 [I n, I lo, I hi] σ (I (withinE n lo hi)) σ := by
  refine in32 (by simp) fun wf hab => ?_
  clear hab
  have w1 : IntKind.i64.wrap (hi - lo) = hi - lo := IntWalk.i64_in _ (by omega)
  have w2 : IntKind.i64.wrap (hi - lo + 1) = hi - lo + 1 := IntWalk.i64_in _ (by omega)
  have w0 : ¬ (hi - lo + 1 = 0) := by omega
  have hm := tmod_small n (hi - lo + 1) (by omega)
  have rest : ∀ F s, F 0 = I n → F 1 = I lo → F 2 = I hi → s = σ → ¬ (n ≥ lo ∧ n ≤ hi) → SWP Try.prog σ.next (.seq (.reg [⟨some 16, none, .mv (.t 0)⟩, ⟨some 17, none, .mv (.t 2)⟩, ⟨some 18, none, .mv (.t 1)⟩, ⟨some 19, none, .bin .sub 0 (.t 17) (.t 18)⟩, ⟨some 20, none, .bin .add 0 (.t 19) (.k (.int .i64 1))⟩, ⟨some 21, none, .bin .rem 0 (.t 16) (.t 20)⟩, ⟨some 0, none, .mv (.t 21)⟩])
      (.seq (.seq (.reg [⟨some 22, none, .mv (.t 0)⟩, ⟨some 23, none, .bin .lss 0 (.t 22) (.k (.int .i64 0))⟩])
      (.cond (.t 23)
        (.reg [⟨some 24, none, .mv (.t 0)⟩, ⟨some 25, none, .mv (.t 2)⟩, ⟨some 26, none, .bin .add 0 (.t 24) (.t 25)⟩, ⟨some 27, none, .mv (.t 1)⟩, ⟨some 28, none, .bin .sub 0 (.t 26) (.t 27)⟩, ⟨some 29, none, .bin .add 0 (.t 28) (.k (.int .i64 1))⟩, ⟨some 0, none, .mv (.t 29)⟩])
        .skip))
      (.seq (.reg [⟨some 30, none, .mv (.t 1)⟩, ⟨some 31, none, .mv (.t 0)⟩, ⟨some 32, none, .bin .add 0 (.t 30) (.t 31)⟩, ⟨some 6, none, .mv (.t 32)⟩])
      .ret))) (retQ σ.next [.t 6] fun v' s' => v' = I (withinE n lo hi) ∧ s' = σ) F s := by
    rintro F s h0 h1 h2 rfl hno
    first | refine .seq (.rg fun A hA K hK => ?_) | refine .seq (.seq (.rg fun A hA K hK => ?_)) | refine .rg fun A hA K hK => ?_ | refine .seq (.rd fun A hA K hK => ?_) | refine .seq (.seq (.rd fun A hA K hK => ?_)) | refine .rd fun A hA K hK => ?_
    simp (maxSteps := 1000000) only [go_sem, hA.nil, hA.go, hA.yes, hA.noT, hA.noF, hA.skp, h0, h1, h2, w1, w2, w0]
    refine hK _ _ ?_; clear hK K hA A
    first | refine .seq (.rg fun A hA K hK => ?_) | refine .seq (.seq (.rg fun A hA K hK => ?_)) | refine .rg fun A hA K hK => ?_ | refine .seq (.rd fun A hA K hK => ?_) | refine .seq (.seq (.rd fun A hA K hK => ?_)) | refine .rd fun A hA K hK => ?_
    simp (maxSteps := 1000000) only [go_sem, hA.nil, hA.go, hA.yes, hA.noT, hA.noF, hA.skp]
    refine hK _ _ ?_; clear hK K hA A
    by_cases hneg : n.tmod (hi - lo + 1) < 0
    · have w3 : IntKind.i64.wrap (n.tmod (hi - lo + 1) + hi) = n.tmod (hi - lo + 1) + hi := IntWalk.i64_in _ (by omega)
      have w4 : IntKind.i64.wrap (n.tmod (hi - lo + 1) + hi - lo) = n.tmod (hi - lo + 1) + hi - lo := IntWalk.i64_in _ (by omega)
      have w5 : IntKind.i64.wrap (n.tmod (hi - lo + 1) + hi - lo + 1) = n.tmod (hi - lo + 1) + hi - lo + 1 := IntWalk.i64_in _ (by omega)
      have w6 : IntKind.i64.wrap (lo + (n.tmod (hi - lo + 1) + hi - lo + 1)) = withinE n lo hi := by
        rw [withinE, if_neg hno, if_pos hneg, IntWalk.i64_in _ (by omega)]; omega
      refine .cond (t := true) (by simp (maxSteps := 1000000) only [go_sem, hneg]) (fun _ => ?_) (fun h => by cases h)
      first | refine .seq (.rg fun A hA K hK => ?_) | refine .seq (.seq (.rg fun A hA K hK => ?_)) | refine .rg fun A hA K hK => ?_ | refine .seq (.rd fun A hA K hK => ?_) | refine .seq (.seq (.rd fun A hA K hK => ?_)) | refine .rd fun A hA K hK => ?_
      simp (maxSteps := 1000000) only [go_sem, hA.nil, hA.go, hA.yes, hA.noT, hA.noF, hA.skp, h1, h2, w3, w4, w5]
      refine hK _ _ ?_; clear hK K hA A
      first | refine .seq (.rg fun A hA K hK => ?_) | refine .seq (.seq (.rg fun A hA K hK => ?_)) | refine .rg fun A hA K hK => ?_ | refine .seq (.rd fun A hA K hK => ?_) | refine .seq (.seq (.rd fun A hA K hK => ?_)) | refine .rd fun A hA K hK => ?_
      simp (maxSteps := 1000000) only [go_sem, hA.nil, hA.go, hA.yes, hA.noT, hA.noF, hA.skp, h1, w6]
      refine hK _ _ ?_; clear hK K hA A
      exact .ret (ret1 (by simp (maxSteps := 1000000) only [go_sem]) rfl)
    · have w6 : IntKind.i64.wrap (lo + n.tmod (hi - lo + 1)) = withinE n lo hi := by
        rw [withinE, if_neg hno, if_neg hneg, IntWalk.i64_in _ (by omega)]
      refine .cond (t := false) (by simp (maxSteps := 1000000) only [go_sem, hneg]) (fun h => by cases h) (fun _ => .skip ?_)
      first | refine .seq (.rg fun A hA K hK => ?_) | refine .seq (.seq (.rg fun A hA K hK => ?_)) | refine .rg fun A hA K hK => ?_ | refine .seq (.rd fun A hA K hK => ?_) | refine .seq (.seq (.rd fun A hA K hK => ?_)) | refine .rd fun A hA K hK => ?_
      simp (maxSteps := 1000000) only [go_sem, hA.nil, hA.go, hA.yes, hA.noT, hA.noF, hA.skp, h1, w6]
      refine hK _ _ ?_; clear hK K hA A
      exact .ret (ret1 (by simp (maxSteps := 1000000) only [go_sem]) rfl)
  unfold c32
  first | refine .seq (.rg fun A hA K hK => ?_) | refine .seq (.seq (.rg fun A hA K hK => ?_)) | refine .rg fun A hA K hK => ?_ | refine .seq (.rd fun A hA K hK => ?_) | refine .seq (.seq (.rd fun A hA K hK => ?_)) | refine .rd fun A hA K hK => ?_
  simp (maxSteps := 1000000) only [go_sem, hA.nil, hA.go, hA.yes, hA.noT, hA.noF, hA.skp]
  refine hK _ _ ?_; clear hK K hA A
  by_cases h1 : n ≥ lo
  · by_cases h2 : n ≤ hi
    · first | refine .seq (.rg fun A hA K hK => ?_) | refine .seq (.seq (.rg fun A hA K hK => ?_)) | refine .rg fun A hA K hK => ?_ | refine .seq (.rd fun A hA K hK => ?_) | refine .seq (.seq (.rd fun A hA K hK => ?_)) | refine .rd fun A hA K hK => ?_
      simp (maxSteps := 1000000) only [go_sem, hA.nil, hA.go, hA.yes, hA.noT, hA.noF, hA.skp, h1, h2]
      refine hK _ _ ?_; clear hK K hA A
      refine .cond (t := true) (by simp (maxSteps := 1000000) only [go_sem, h1, h2]) (fun _ => ?_) (fun h => by cases h)
      first | refine .seq (.rg fun A hA K hK => ?_) | refine .seq (.seq (.rg fun A hA K hK => ?_)) | refine .rg fun A hA K hK => ?_ | refine .seq (.rd fun A hA K hK => ?_) | refine .seq (.seq (.rd fun A hA K hK => ?_)) | refine .rd fun A hA K hK => ?_
      simp (maxSteps := 1000000) only [go_sem, hA.nil, hA.go, hA.yes, hA.noT, hA.noF, hA.skp]
      refine hK _ _ ?_; clear hK K hA A
      exact .ret (ret1 (by rw [withinE, if_pos ⟨h1, h2⟩]; simp (maxSteps := 1000000) only [go_sem]) rfl)
    · first | refine .seq (.rg fun A hA K hK => ?_) | refine .seq (.seq (.rg fun A hA K hK => ?_)) | refine .rg fun A hA K hK => ?_ | refine .seq (.rd fun A hA K hK => ?_) | refine .seq (.seq (.rd fun A hA K hK => ?_)) | refine .rd fun A hA K hK => ?_
      simp (maxSteps := 1000000) only [go_sem, hA.nil, hA.go, hA.yes, hA.noT, hA.noF, hA.skp, h1, h2]
      refine hK _ _ ?_; clear hK K hA A
      refine .cond (t := false) (by simp (maxSteps := 1000000) only [go_sem, h1, h2]) (fun h => by cases h) (fun _ => .skip ?_)
      exact rest _ _ (by simp (maxSteps := 1000000) only [go_sem]) (by simp (maxSteps := 1000000) only [go_sem]) (by simp (maxSteps := 1000000) only [go_sem]) rfl (fun h => h2 h.2)
  · first | refine .seq (.rg fun A hA K hK => ?_) | refine .seq (.seq (.rg fun A hA K hK => ?_)) | refine .rg fun A hA K hK => ?_ | refine .seq (.rd fun A hA K hK => ?_) | refine .seq (.seq (.rd fun A hA K hK => ?_)) | refine .rd fun A hA K hK => ?_
    simp (maxSteps := 1000000) only [go_sem, hA.nil, hA.go, hA.yes, hA.noT, hA.noF, hA.skp, h1]
    refine hK _ _ ?_; clear hK K hA A
    refine .cond (t := false) (by simp (maxSteps := 1000000) only [go_sem, h1]) (fun h => by cases h) (fun _ => .skip ?_)
    exact rest _ _ (by simp (maxSteps := 1000000) only [go_sem]) (by simp (maxSteps := 1000000) only [go_sem]) (by simp (maxSteps := 1000000) only [go_sem]) rfl (fun h => h1 h.1)

def nxE (l : List Int) (p : Nat) (n : Int) : Int := if l.length ≤ p ∨ n < 1 then 0 else (withinE (l.getD p 0) 0 1073741824).tmod n
def nxP (l : List Int) (p : Nat) (n : Int) : Nat := if l.length ≤ p ∨ n < 1 then p else p + 1
theorem nxE_in (l : List Int) (p : Nat) (n : Int) : 0 ≤ nxE l p n ∧ (1 ≤ n → nxE l p n < n) ∧ nxE l p n ≤ 1073741824 := by
  have h1 := withinE_in (l.getD p 0) 0 1073741824 (by decide)
  unfold nxE
  split
  · omega
  · refine ⟨Int.tmod_nonneg _ h1.1, fun h => Int.tmod_lt_of_pos _ (by omega), ?_⟩
    have h2 : (withinE (l.getD p 0) 0 1073741824).tmod n ≤ withinE (l.getD p 0) 0 1073741824 := by
      rcases Int.lt_or_le (withinE (l.getD p 0) 0 1073741824) n with h | h
      · rw [Int.tmod_eq_of_lt h1.1 h]; omega
      · have := Int.tmod_lt_of_pos (withinE (l.getD p 0) 0 1073741824) (show 0 < n by omega)
        omega
    omega
abbrev tapeB (l : List Int) (p : Nat) : Blk := .cells 2 [[ints l, I p]]

theorem set_same {σ : St} {b : Nat} {B : Blk} (h : σ.blk b = some B) : σ.set b B = σ := by
  cases σ with
  | mk nx bl =>
    simp only [St.set, St.mk.injEq, true_and]
    funext c
    by_cases hc : c = b
    · subst hc; rw [if_pos rfl]; exact h.symm
    · rw [if_neg hc]


/-- Tape.Next -/
theorem next_spec {σ : St} {l : List Int} {p bT : Nat} (hb : σ.blk bT = some (tapeB l p)) (n : Int) (hp : p ≤ 2 ^ 50) : T Try.prog 18 [.ptr bT 0 0, I n] σ (I (nxE l p n)) (σ.set bT (tapeB l (nxP l p n))) := by
  refine in18 (by simp) fun wf hab => ?_
  clear hab
  simp only [tapeB] at hb
  unfold c18
  first | refine .seq (.rg fun A hA K hK => ?_) | refine .seq (.seq (.rg fun A hA K hK => ?_)) | refine .rg fun A hA K hK => ?_ | refine .seq (.rd fun A hA K hK => ?_) | refine .seq (.seq (.rd fun A hA K hK => ?_)) | refine .rd fun A hA K hK => ?_
  simp (maxSteps := 1000000) only [go_sem, hA.nil, hA.go, hA.yes, hA.noT, hA.noF, hA.skp]
  refine hK _ _ ?_; clear hK K hA A
  by_cases h1 : (p : Int) ≥ l.length
  · have e1 : nxE l p n = 0 := if_pos (.inl (by omega))
    have e2 : nxP l p n = p := if_pos (.inl (by omega))
    first | refine .seq (.rg fun A hA K hK => ?_) | refine .seq (.seq (.rg fun A hA K hK => ?_)) | refine .rg fun A hA K hK => ?_ | refine .seq (.rd fun A hA K hK => ?_) | refine .seq (.seq (.rd fun A hA K hK => ?_)) | refine .rd fun A hA K hK => ?_
    simp (maxSteps := 1000000) only [go_sem, hA.nil, hA.go, hA.yes, hA.noT, hA.noF, hA.skp, hb, h1]
    refine hK _ _ ?_; clear hK K hA A
    refine .cond (t := true) (by simp (maxSteps := 1000000) only [go_sem]) (fun _ => ?_) (fun h => by cases h)
    first | refine .seq (.rg fun A hA K hK => ?_) | refine .seq (.seq (.rg fun A hA K hK => ?_)) | refine .rg fun A hA K hK => ?_ | refine .seq (.rd fun A hA K hK => ?_) | refine .seq (.seq (.rd fun A hA K hK => ?_)) | refine .rd fun A hA K hK => ?_
    simp (maxSteps := 1000000) only [go_sem, hA.nil, hA.go, hA.yes, hA.noT, hA.noF, hA.skp]
    refine hK _ _ ?_; clear hK K hA A
    exact .ret (retS (by simp (maxSteps := 1000000) only [go_sem]; try rfl) ⟨by rw [e1], by rw [e2, set_same hb]⟩)
  · by_cases h2 : n < 1
    · have e1 : nxE l p n = 0 := if_pos (.inr h2)
      have e2 : nxP l p n = p := if_pos (.inr h2)
      first | refine .seq (.rg fun A hA K hK => ?_) | refine .seq (.seq (.rg fun A hA K hK => ?_)) | refine .rg fun A hA K hK => ?_ | refine .seq (.rd fun A hA K hK => ?_) | refine .seq (.seq (.rd fun A hA K hK => ?_)) | refine .rd fun A hA K hK => ?_
      simp (maxSteps := 1000000) only [go_sem, hA.nil, hA.go, hA.yes, hA.noT, hA.noF, hA.skp, hb, h1, h2]
      refine hK _ _ ?_; clear hK K hA A
      refine .cond (t := true) (by simp (maxSteps := 1000000) only [go_sem]) (fun _ => ?_) (fun h => by cases h)
      first | refine .seq (.rg fun A hA K hK => ?_) | refine .seq (.seq (.rg fun A hA K hK => ?_)) | refine .rg fun A hA K hK => ?_ | refine .seq (.rd fun A hA K hK => ?_) | refine .seq (.seq (.rd fun A hA K hK => ?_)) | refine .rd fun A hA K hK => ?_
      simp (maxSteps := 1000000) only [go_sem, hA.nil, hA.go, hA.yes, hA.noT, hA.noF, hA.skp]
      refine hK _ _ ?_; clear hK K hA A
      exact .ret (retS (by simp (maxSteps := 1000000) only [go_sem]; try rfl) ⟨by rw [e1], by rw [e2, set_same hb]⟩)
    · have hp' : p < l.length := by omega
      have e1 : nxE l p n = (withinE (l.getD p 0) 0 1073741824).tmod n := if_neg (by omega)
      have e2 : nxP l p n = p + 1 := if_neg (by omega)
      have w1 : IntKind.i64.wrap ((p : Int) + 1) = ((p + 1 : Nat) : Int) := IntWalk.i64_in _ (by omega)
      have w2 : IntKind.i64.wrap (((p + 1 : Nat) : Int) - 1) = p := by rw [IntWalk.i64_in _ (by omega)]; omega
      have e0 : (p : Int) < l.length := by omega
      have n0 : ¬ n = 0 := by omega
      have hg : (l.map fun n => [I n]).getD p [] = [I (l.getD p 0)] := by rw [ints_get hp']; simp [List.getD_eq_getElem?_getD, hp']
      first | refine .seq (.rg fun A hA K hK => ?_) | refine .seq (.seq (.rg fun A hA K hK => ?_)) | refine .rg fun A hA K hK => ?_ | refine .seq (.rd fun A hA K hK => ?_) | refine .seq (.seq (.rd fun A hA K hK => ?_)) | refine .rd fun A hA K hK => ?_
      simp (maxSteps := 1000000) only [go_sem, hA.nil, hA.go, hA.yes, hA.noT, hA.noF, hA.skp, hb, h1, h2]
      refine hK _ _ ?_; clear hK K hA A
      refine .cond (t := false) (by simp (maxSteps := 1000000) only [go_sem]) (fun h => by cases h) (fun _ => .skip ?_)
      first | refine .seq (.rg fun A hA K hK => ?_) | refine .seq (.seq (.rg fun A hA K hK => ?_)) | refine .rg fun A hA K hK => ?_ | refine .seq (.rd fun A hA K hK => ?_) | refine .seq (.seq (.rd fun A hA K hK => ?_)) | refine .rd fun A hA K hK => ?_
      simp (maxSteps := 1000000) only [go_sem, hA.nil, hA.go, hA.yes, hA.noT, hA.noF, hA.skp, hb, w1]
      refine hK _ _ ?_; clear hK K hA A
      first | refine .seq (.rg fun A hA K hK => ?_) | refine .seq (.seq (.rg fun A hA K hK => ?_)) | refine .rg fun A hA K hK => ?_ | refine .seq (.rd fun A hA K hK => ?_) | refine .seq (.seq (.rd fun A hA K hK => ?_)) | refine .rd fun A hA K hK => ?_
      simp (maxSteps := 1000000) only [go_sem, hA.nil, hA.go, hA.yes, hA.noT, hA.noF, hA.skp, w2, e0, hg]
      first | refine aopq_call (within_spec (l.getD p 0) 0 1073741824 (by decide) (by decide) (by decide) _) (by simp (maxSteps := 1000000) only [go_sem, n0]) ?_ | refine aop_call (within_spec (l.getD p 0) 0 1073741824 (by decide) (by decide) (by decide) _) (by simp (maxSteps := 1000000) only [go_sem, n0]) ?_
      try simp (maxSteps := 1000000) only [go_sem, hA.nil, hA.go, hA.yes, hA.noT, hA.noF, hA.skp, n0]
      refine hK _ _ ?_; clear hK K hA A
      exact .ret (retS (by simp (maxSteps := 1000000) only [go_sem]; try rfl) ⟨by rw [e1], by rw [e2]; simp only [tapeB, ints]⟩)

end Go.Proofs.Ytdmbgnppbchgcaa.Av

namespace Go.Proofs.Ytdmbgnppbchgcaa.Av
open Go Go.Av
set_option maxRecDepth 20000
set_option maxHeartbeats 4000000

attribute [local go_sem] step_apply stepD_apply stepE_apply
attribute [local go_sem] aopq_mv aopq_pk aopq_al aopq_bx aopq_bd aopq_bs aopq_ld aopq_st aopq_nc aopq_bin aopq_un aopq_cv aopq_mi aopq_mf aopq_mm aopq_ms aopq_sc aopq_fa aopq_fl aopq_ia aopq_lk aopq_mu aopq_lm aopq_rg aopq_rgs aopq_nxs aopq_msl aop_msl aop_rgs aop_nxs aopq_en aopq_ta aopq_ex aopq_ln aopq_ap aopq_mx aopq.eq_3 aop.eq_1 aop.eq_2 aop.eq_3 aop.eq_4 aop.eq_5 aop.eq_6 aop.eq_7 aop.eq_8 aop.eq_9 aop_bin atS_apply aop_un_not aop_un_neg aop.eq_14 aop.eq_15 aop.eq_16 aop.eq_17 aop.eq_18 aop_sc cutS_apply cutN_apply cutL_apply cutO_apply aop.eq_20 aop.eq_21 aop.eq_22 aop.eq_23 aop.eq_24 aop.eq_25 aop.eq_26 aop.eq_27 aop.eq_28 aop.eq_29 aop.eq_30 aop.eq_31 aop.eq_32 blk_push next_push blk_set next_set blk_kill next_kill frL_nil frL_cons Fits_nil Fits_cons Int.reduceBEq Int.reduceBNe Nat.sub_zero Option.map_some Option.map_none List.set_cons_succ true_or or_true false_or or_false Int.le_refl Int.cast_ofNat_Int decide_true decide_false List.cons_append fillA fillR rowsOf List.replicate_succ List.replicate_zero Nat.zero_mul getD_drop List.length_drop splice List.nil_append List.append_nil cond_true cond_false List.set_cons_zero List.length_set ev put_some put_none upd_apply abin asNat bounds row1 mk List.length_cons List.length_nil List.length_map List.drop_zero List.drop_succ_cons List.drop_nil List.getD_cons_zero List.getD_cons_succ Option.getD_none Option.getD_some List.take_succ_cons List.take_zero List.take_nil true_and and_true Int.toNat_natCast if_true if_false Nat.zero_add Nat.add_zero List.map_cons List.map_nil Nat.reduceEqDiff Nat.left_eq_add Nat.add_eq_left Nat.add_left_cancel_iff Nat.add_assoc Nat.reduceSub Nat.reduceAdd Nat.reduceLeDiff Nat.le_refl Nat.zero_le Nat.zero_lt_one Nat.lt_add_one Int.reduceLT Int.reduceLE Int.reduceToNat Nat.reduceLT Nat.reduceBEq Bool.false_eq_true Nat.reduceBNe ne_eq not_false_eq_true not_true_eq_false false_and and_false reduceIte Int.natCast_nonneg reduceCtorEq parts_agg parts_bool parts_int parts_str parts_lit parts_nils parts_sl parts_ptr parts_iface parts_nilp parts_niliface Int.natCast_nonneg Int.natCast_nonneg beq_self_eq_true bne_self_eq_false Bool.true_and Bool.false_and Bool.and_true Bool.and_false Bool.true_or Bool.false_or Bool.or_true Bool.or_false Bool.not_true Bool.not_false
attribute [local go_sem] I ints tenA

/-- parquetryref1.Right -/
def okDim (s : List Int) (i : Nat) : Bool := decide (0 ≤ s.getD i 0) && decide (s.getD i 0 ≤ 32) && decide (i < 4)
def prodI (s : List Int) : Int := s.foldl (fun n x => n * x) 1
def rightS (s : List Int) : Bool := (List.range s.length).all (okDim s) && decide (prodI s ≤ 4096)

theorem prodI_take {s : List Int} {i : Nat} (h : i < s.length) : prodI (s.take (i + 1)) = prodI (s.take i) * s[i] := foldl_take _ _ s i h
theorem prodI_bound {s : List Int} : ∀ i, i ≤ s.length → (List.range i).all (okDim s) = true → i ≤ 4 ∧ 0 ≤ prodI (s.take i) ∧ prodI (s.take i) ≤ 32 ^ i
  | 0, _, _ => by simp [prodI]
  | i + 1, hi, h => by
    rw [List.range_succ, List.all_append, Bool.and_eq_true] at h
    obtain ⟨h1, h2, h3⟩ := prodI_bound i (by omega) h.1
    have h4 : okDim s i = true := by simpa using h.2
    simp only [okDim, Bool.and_eq_true, decide_eq_true_eq] at h4
    have hs : s.getD i 0 = s[i] := by simp [List.getD_eq_getElem?_getD, show i < s.length by omega]
    rw [hs] at h4
    rw [prodI_take (by omega)]
    refine ⟨by omega, Int.mul_nonneg h2 h4.1.1, ?_⟩
    rw [Int.pow_succ]
    exact Int.mul_le_mul h3 h4.1.2 h4.1.1 (Int.pow_nonneg (by decide))

theorem right1_spec (s : List Int) (σ : St) : T Try.prog 39 [ints s] σ (.bool (rightS s)) σ := by
  refine in39 (by simp) fun wf hab => ?_
  have hl := hab_ints (hab 0 (by simp))
  clear hab
  unfold c39
  first | refine .seq (.rg fun A hA K hK => ?_) | refine .seq (.seq (.rg fun A hA K hK => ?_)) | refine .rg fun A hA K hK => ?_ | refine .seq (.rd fun A hA K hK => ?_) | refine .seq (.seq (.rd fun A hA K hK => ?_)) | refine .rd fun A hA K hK => ?_
  simp (maxSteps := 1000000) only [go_sem, hA.nil, hA.go, hA.yes, hA.noT, hA.noF, hA.skp]
  refine hK _ _ ?_; clear hK K hA A
  first | refine .seq (.rg fun A hA K hK => ?_) | refine .seq (.seq (.rg fun A hA K hK => ?_)) | refine .rg fun A hA K hK => ?_ | refine .seq (.rd fun A hA K hK => ?_) | refine .seq (.seq (.rd fun A hA K hK => ?_)) | refine .rd fun A hA K hK => ?_
  simp (maxSteps := 1000000) only [go_sem, hA.nil, hA.go, hA.yes, hA.noT, hA.noF, hA.skp]
  refine hK _ _ ?_; clear hK K hA A
  first | refine .seq (.rg fun A hA K hK => ?_) | refine .seq (.seq (.rg fun A hA K hK => ?_)) | refine .rg fun A hA K hK => ?_ | refine .seq (.rd fun A hA K hK => ?_) | refine .seq (.seq (.rd fun A hA K hK => ?_)) | refine .rd fun A hA K hK => ?_
  simp (maxSteps := 1000000) only [go_sem, hA.nil, hA.go, hA.yes, hA.noT, hA.noF, hA.skp]
  refine hK _ _ ?_; clear hK K hA A
  refine .countK (N := s.length) (fun i L t => L = [(0, ints s), (3, I (prodI (s.take i))), (4, I i)] ∧ σ = t ∧ (List.range i).all (okDim s) = true) hl
    ⟨_, ⟨rfl, rfl, by simp⟩, by simp (maxSteps := 1000000) only [go_sem, prodI, List.foldl_nil]; try rfl⟩ ?_ ?_ ?_
  · rintro i L t hi ⟨rfl, rfl, ha⟩
    first | refine .seq (.rg fun A hA K hK => ?_) | refine .seq (.seq (.rg fun A hA K hK => ?_)) | refine .rg fun A hA K hK => ?_ | refine .seq (.rd fun A hA K hK => ?_) | refine .seq (.seq (.rd fun A hA K hK => ?_)) | refine .rd fun A hA K hK => ?_
    simp (maxSteps := 1000000) only [go_sem, hA.nil, hA.go, hA.yes, hA.noT, hA.noF, hA.skp]
    refine hK _ _ ?_; clear hK K hA A
    exact ⟨rfl, by simp (maxSteps := 1000000) only [go_sem, Int.ofNat_lt], _, ⟨rfl, rfl, ha⟩, by simp (maxSteps := 1000000) only [go_sem]⟩
  · rintro i L t hi ⟨rfl, rfl, ha⟩
    have e0 : (i : Int) < s.length := by omega
    have hg : (s.map fun n => [I n]).getD i [] = [I (s.getD i 0)] := by rw [ints_get hi]; simp [List.getD_eq_getElem?_getD, hi]
    obtain ⟨b1, b2, b3⟩ := prodI_bound i (by omega) ha
    have hsi : s.getD i 0 = s[i] := by simp [List.getD_eq_getElem?_getD, hi]
    have bad : okDim s i = false → rightS s = false := by
      intro h
      simp only [rightS, Bool.and_eq_false_iff]
      refine .inl (Bool.eq_false_iff.2 fun hall => ?_)
      rw [List.all_eq_true] at hall
      have := hall i (by simpa using hi)
      rw [this] at h; cases h
    refine .midK (fun L t => L = [(0, ints s), (3, I (prodI (s.take i))), (4, I i)] ∧ σ = t ∧ okDim s i = true) ?_ ?_
    · by_cases h1 : s.getD i 0 < 0
      · have hb := bad (by simp only [okDim, Bool.and_eq_false_iff, decide_eq_false_iff_not]; omega)
        first | refine .seq (.rg fun A hA K hK => ?_) | refine .seq (.seq (.rg fun A hA K hK => ?_)) | refine .rg fun A hA K hK => ?_ | refine .seq (.rd fun A hA K hK => ?_) | refine .seq (.seq (.rd fun A hA K hK => ?_)) | refine .rd fun A hA K hK => ?_
        simp (maxSteps := 1000000) only [go_sem, hA.nil, hA.go, hA.yes, hA.noT, hA.noF, hA.skp, e0, hg, h1]
        refine hK _ _ ?_; clear hK K hA A
        refine .cond (t := true) (by simp (maxSteps := 1000000) only [go_sem]) (fun _ => ?_) (fun h => by cases h)
        first | refine .seq (.rg fun A hA K hK => ?_) | refine .seq (.seq (.rg fun A hA K hK => ?_)) | refine .rg fun A hA K hK => ?_ | refine .seq (.rd fun A hA K hK => ?_) | refine .seq (.seq (.rd fun A hA K hK => ?_)) | refine .rd fun A hA K hK => ?_
        simp (maxSteps := 1000000) only [go_sem, hA.nil, hA.go, hA.yes, hA.noT, hA.noF, hA.skp]
        refine hK _ _ ?_; clear hK K hA A
        exact .ret (ret1 (by simp (maxSteps := 1000000) only [go_sem, hb]) rfl)
      · by_cases h2 : s.getD i 0 > 32
        · have hb := bad (by simp only [okDim, Bool.and_eq_false_iff, decide_eq_false_iff_not]; omega)
          first | refine .seq (.rg fun A hA K hK => ?_) | refine .seq (.seq (.rg fun A hA K hK => ?_)) | refine .rg fun A hA K hK => ?_ | refine .seq (.rd fun A hA K hK => ?_) | refine .seq (.seq (.rd fun A hA K hK => ?_)) | refine .rd fun A hA K hK => ?_
          simp (maxSteps := 1000000) only [go_sem, hA.nil, hA.go, hA.yes, hA.noT, hA.noF, hA.skp, e0, hg, h1, h2]
          refine hK _ _ ?_; clear hK K hA A
          refine .cond (t := true) (by simp (maxSteps := 1000000) only [go_sem]) (fun _ => ?_) (fun h => by cases h)
          first | refine .seq (.rg fun A hA K hK => ?_) | refine .seq (.seq (.rg fun A hA K hK => ?_)) | refine .rg fun A hA K hK => ?_ | refine .seq (.rd fun A hA K hK => ?_) | refine .seq (.seq (.rd fun A hA K hK => ?_)) | refine .rd fun A hA K hK => ?_
          simp (maxSteps := 1000000) only [go_sem, hA.nil, hA.go, hA.yes, hA.noT, hA.noF, hA.skp]
          refine hK _ _ ?_; clear hK K hA A
          exact .ret (ret1 (by simp (maxSteps := 1000000) only [go_sem, hb]) rfl)
        · by_cases h3 : (i : Int) ≥ 4
          · have hb := bad (by simp only [okDim, Bool.and_eq_false_iff, decide_eq_false_iff_not]; omega)
            first | refine .seq (.rg fun A hA K hK => ?_) | refine .seq (.seq (.rg fun A hA K hK => ?_)) | refine .rg fun A hA K hK => ?_ | refine .seq (.rd fun A hA K hK => ?_) | refine .seq (.seq (.rd fun A hA K hK => ?_)) | refine .rd fun A hA K hK => ?_
            simp (maxSteps := 1000000) only [go_sem, hA.nil, hA.go, hA.yes, hA.noT, hA.noF, hA.skp, e0, hg, h1, h2, h3]
            refine hK _ _ ?_; clear hK K hA A
            refine .cond (t := true) (by simp (maxSteps := 1000000) only [go_sem]) (fun _ => ?_) (fun h => by cases h)
            first | refine .seq (.rg fun A hA K hK => ?_) | refine .seq (.seq (.rg fun A hA K hK => ?_)) | refine .rg fun A hA K hK => ?_ | refine .seq (.rd fun A hA K hK => ?_) | refine .seq (.seq (.rd fun A hA K hK => ?_)) | refine .rd fun A hA K hK => ?_
            simp (maxSteps := 1000000) only [go_sem, hA.nil, hA.go, hA.yes, hA.noT, hA.noF, hA.skp]
            refine hK _ _ ?_; clear hK K hA A
            exact .ret (ret1 (by simp (maxSteps := 1000000) only [go_sem, hb]) rfl)
          · first | refine .seq (.rg fun A hA K hK => ?_) | refine .seq (.seq (.rg fun A hA K hK => ?_)) | refine .rg fun A hA K hK => ?_ | refine .seq (.rd fun A hA K hK => ?_) | refine .seq (.seq (.rd fun A hA K hK => ?_)) | refine .rd fun A hA K hK => ?_
            simp (maxSteps := 1000000) only [go_sem, hA.nil, hA.go, hA.yes, hA.noT, hA.noF, hA.skp, e0, hg, h1, h2, h3]
            refine hK _ _ ?_; clear hK K hA A
            refine .cond (t := false) (by simp (maxSteps := 1000000) only [go_sem]) (fun h => by cases h) (fun _ => .skip ?_)
            exact ⟨_, ⟨rfl, rfl, by simp only [okDim, Bool.and_eq_true, decide_eq_true_eq]; omega⟩, by simp (maxSteps := 1000000) only [go_sem]⟩
    · rintro L t ⟨rfl, rfl, hok⟩
      have hok' := hok
      simp only [okDim, Bool.and_eq_true, decide_eq_true_eq] at hok'
      have ha' : (List.range (i + 1)).all (okDim s) = true := by rw [List.range_succ, List.all_append, ha]; simpa using hok
      have b4 := prodI_bound (i + 1) (by omega) ha'
      have b5 : (32 : Int) ^ (i + 1) ≤ 32 ^ 4 := by
        rcases (by omega : i = 0 ∨ i = 1 ∨ i = 2 ∨ i = 3) with rfl | rfl | rfl | rfl <;> decide
      have w1 : IntKind.i64.wrap (prodI (s.take i) * s.getD i 0) = prodI (s.take (i + 1)) := by
        rw [prodI_take hi, ← hsi, IntWalk.i64_in]
        rw [prodI_take hi, ← hsi] at b4; omega
      first | refine .seq (.rg fun A hA K hK => ?_) | refine .seq (.seq (.rg fun A hA K hK => ?_)) | refine .rg fun A hA K hK => ?_ | refine .seq (.rd fun A hA K hK => ?_) | refine .seq (.seq (.rd fun A hA K hK => ?_)) | refine .rd fun A hA K hK => ?_
      simp (maxSteps := 1000000) only [go_sem, hA.nil, hA.go, hA.yes, hA.noT, hA.noF, hA.skp, e0, hg, w1]
      refine hK _ _ ?_; clear hK K hA A
      exact ⟨by simp (maxSteps := 1000000) only [go_sem], _, ⟨rfl, rfl, ha'⟩, by simp (maxSteps := 1000000) only [go_sem]; try rfl⟩
  · rintro L t F ⟨rfl, rfl, ha⟩ hf
    simp (maxSteps := 1000000) only [go_sem] at hf
    rw [List.take_length] at hf
    have hr : rightS s = decide (prodI s ≤ 4096) := by rw [rightS, ha]; rfl
    first | refine .seq (.rg fun A hA K hK => ?_) | refine .seq (.seq (.rg fun A hA K hK => ?_)) | refine .rg fun A hA K hK => ?_ | refine .seq (.rd fun A hA K hK => ?_) | refine .seq (.seq (.rd fun A hA K hK => ?_)) | refine .rd fun A hA K hK => ?_
    simp (maxSteps := 1000000) only [go_sem, hA.nil, hA.go, hA.yes, hA.noT, hA.noF, hA.skp, hf]
    refine hK _ _ ?_; clear hK K hA A
    exact .ret (ret1 (by simp (maxSteps := 1000000) only [go_sem, hr]) rfl)


def sizeE (s : List Int) : Int := if rightS s = true then prodI s else 0
theorem sizeE_in (s : List Int) : 0 ≤ sizeE s ∧ sizeE s ≤ 4096 := by
  unfold sizeE; split
  · rename_i h
    simp only [rightS, Bool.and_eq_true, decide_eq_true_eq] at h
    have := prodI_bound s.length (Nat.le_refl _) h.1
    rw [List.take_length] at this
    exact ⟨this.2.1, h.2⟩
  · omega

/-- parquetryref1.Size -/
theorem size_spec (s : List Int) (σ : St) : T Try.prog 31 [ints s] σ (I (sizeE s)) σ := by
  refine in31 (by simp) fun wf hab => ?_
  have hl := hab_ints (hab 0 (by simp))
  clear hab
  unfold c31
  first | refine .seq (.rg fun A hA K hK => ?_) | refine .seq (.seq (.rg fun A hA K hK => ?_)) | refine .rg fun A hA K hK => ?_ | refine .seq (.rd fun A hA K hK => ?_) | refine .seq (.seq (.rd fun A hA K hK => ?_)) | refine .rd fun A hA K hK => ?_
  simp (maxSteps := 1000000) only [go_sem, hA.nil, hA.go, hA.yes, hA.noT, hA.noF, hA.skp]
  refine hK _ _ ?_; clear hK K hA A
  first | refine .seq (.rg fun A hA K hK => ?_) | refine .seq (.seq (.rg fun A hA K hK => ?_)) | refine .rg fun A hA K hK => ?_ | refine .seq (.rd fun A hA K hK => ?_) | refine .seq (.seq (.rd fun A hA K hK => ?_)) | refine .rd fun A hA K hK => ?_
  simp (maxSteps := 1000000) only [go_sem, hA.nil, hA.go, hA.yes, hA.noT, hA.noF, hA.skp]
  first | refine aopq_call (right1_spec s _) (by simp (maxSteps := 1000000) only [go_sem]) ?_ | refine aop_call (right1_spec s _) (by simp (maxSteps := 1000000) only [go_sem]) ?_
  try simp (maxSteps := 1000000) only [go_sem, hA.nil, hA.go, hA.yes, hA.noT, hA.noF, hA.skp]
  refine hK _ _ ?_; clear hK K hA A
  refine .cond (t := !rightS s) (by simp (maxSteps := 1000000) only [go_sem]) (fun ht => ?_) (fun ht => .skip ?_)
  · have hs : sizeE s = 0 := if_neg (by intro h; rw [h] at ht; cases ht)
    first | refine .seq (.rg fun A hA K hK => ?_) | refine .seq (.seq (.rg fun A hA K hK => ?_)) | refine .rg fun A hA K hK => ?_ | refine .seq (.rd fun A hA K hK => ?_) | refine .seq (.seq (.rd fun A hA K hK => ?_)) | refine .rd fun A hA K hK => ?_
    simp (maxSteps := 1000000) only [go_sem, hA.nil, hA.go, hA.yes, hA.noT, hA.noF, hA.skp]
    refine hK _ _ ?_; clear hK K hA A
    exact .ret (ret1 (by simp (maxSteps := 1000000) only [go_sem, hs]) rfl)
  have hr : rightS s = true := by simpa using ht
  have hs : sizeE s = prodI s := if_pos hr
  have ha : (List.range s.length).all (okDim s) = true := by
    simp only [rightS, Bool.and_eq_true] at hr; exact hr.1
  first | refine .seq (.rg fun A hA K hK => ?_) | refine .seq (.seq (.rg fun A hA K hK => ?_)) | refine .rg fun A hA K hK => ?_ | refine .seq (.rd fun A hA K hK => ?_) | refine .seq (.seq (.rd fun A hA K hK => ?_)) | refine .rd fun A hA K hK => ?_
  simp (maxSteps := 1000000) only [go_sem, hA.nil, hA.go, hA.yes, hA.noT, hA.noF, hA.skp]
  refine hK _ _ ?_; clear hK K hA A
  first | refine .seq (.rg fun A hA K hK => ?_) | refine .seq (.seq (.rg fun A hA K hK => ?_)) | refine .rg fun A hA K hK => ?_ | refine .seq (.rd fun A hA K hK => ?_) | refine .seq (.seq (.rd fun A hA K hK => ?_)) | refine .rd fun A hA K hK => ?_
  simp (maxSteps := 1000000) only [go_sem, hA.nil, hA.go, hA.yes, hA.noT, hA.noF, hA.skp]
  refine hK _ _ ?_; clear hK K hA A
  refine .countK (N := s.length) (fun i L t => L = [(0, ints s), (3, I (prodI (s.take i))), (4, I i)] ∧ σ = t) hl
    ⟨_, ⟨rfl, rfl⟩, by simp (maxSteps := 1000000) only [go_sem, prodI, List.foldl_nil]; try rfl⟩ ?_ ?_ ?_
  · rintro i L t hi ⟨rfl, rfl⟩
    first | refine .seq (.rg fun A hA K hK => ?_) | refine .seq (.seq (.rg fun A hA K hK => ?_)) | refine .rg fun A hA K hK => ?_ | refine .seq (.rd fun A hA K hK => ?_) | refine .seq (.seq (.rd fun A hA K hK => ?_)) | refine .rd fun A hA K hK => ?_
    simp (maxSteps := 1000000) only [go_sem, hA.nil, hA.go, hA.yes, hA.noT, hA.noF, hA.skp]
    refine hK _ _ ?_; clear hK K hA A
    exact ⟨rfl, by simp (maxSteps := 1000000) only [go_sem, Int.ofNat_lt], _, ⟨rfl, rfl⟩, by simp (maxSteps := 1000000) only [go_sem]⟩
  · rintro i L t hi ⟨rfl, rfl⟩
    have e0 : (i : Int) < s.length := by omega
    have hg : (s.map fun n => [I n]).getD i [] = [I (s.getD i 0)] := by rw [ints_get hi]; simp [List.getD_eq_getElem?_getD, hi]
    have hsi : s.getD i 0 = s[i] := by simp [List.getD_eq_getElem?_getD, hi]
    have ha' : (List.range (i + 1)).all (okDim s) = true := by
      rw [List.all_eq_true] at ha ⊢
      intro x hx
      exact ha x (by simp at hx ⊢; omega)
    have b4 := prodI_bound (i + 1) (by omega) ha'
    have b5 : (32 : Int) ^ (i + 1) ≤ 32 ^ 4 := by
      rcases (by omega : i = 0 ∨ i = 1 ∨ i = 2 ∨ i = 3) with rfl | rfl | rfl | rfl <;> decide
    have w1 : IntKind.i64.wrap (prodI (s.take i) * s.getD i 0) = prodI (s.take (i + 1)) := by
      rw [prodI_take hi, ← hsi, IntWalk.i64_in]
      rw [prodI_take hi, ← hsi] at b4; omega
    first | refine .seq (.rg fun A hA K hK => ?_) | refine .seq (.seq (.rg fun A hA K hK => ?_)) | refine .rg fun A hA K hK => ?_ | refine .seq (.rd fun A hA K hK => ?_) | refine .seq (.seq (.rd fun A hA K hK => ?_)) | refine .rd fun A hA K hK => ?_
    simp (maxSteps := 1000000) only [go_sem, hA.nil, hA.go, hA.yes, hA.noT, hA.noF, hA.skp, e0, hg, w1]
    refine hK _ _ ?_; clear hK K hA A
    exact ⟨by simp (maxSteps := 1000000) only [go_sem], _, ⟨rfl, rfl⟩, by simp (maxSteps := 1000000) only [go_sem]; try rfl⟩
  · rintro L t F ⟨rfl, rfl⟩ hf
    simp (maxSteps := 1000000) only [go_sem] at hf
    rw [List.take_length] at hf
    first | refine .seq (.rg fun A hA K hK => ?_) | refine .seq (.seq (.rg fun A hA K hK => ?_)) | refine .rg fun A hA K hK => ?_ | refine .seq (.rd fun A hA K hK => ?_) | refine .seq (.seq (.rd fun A hA K hK => ?_)) | refine .rd fun A hA K hK => ?_
    simp (maxSteps := 1000000) only [go_sem, hA.nil, hA.go, hA.yes, hA.noT, hA.noF, hA.skp, hf]
    refine hK _ _ ?_; clear hK K hA A
    exact .ret (ret1 (by simp (maxSteps := 1000000) only [go_sem, hs]) rfl)

end Go.Proofs.Ytdmbgnppbchgcaa.Av

namespace Go.Proofs.Ytdmbgnppbchgcaa.Av
open Go Go.Av
set_option maxRecDepth 20000
set_option maxHeartbeats 4000000

attribute [local go_sem] step_apply stepD_apply stepE_apply
attribute [local go_sem] aopq_mv aopq_pk aopq_al aopq_bx aopq_bd aopq_bs aopq_ld aopq_st aopq_nc aopq_bin aopq_un aopq_cv aopq_mi aopq_mf aopq_mm aopq_ms aopq_sc aopq_fa aopq_fl aopq_ia aopq_lk aopq_mu aopq_lm aopq_rg aopq_rgs aopq_nxs aopq_msl aop_msl aop_rgs aop_nxs aopq_en aopq_ta aopq_ex aopq_ln aopq_ap aopq_mx aopq.eq_3 aop.eq_1 aop.eq_2 aop.eq_3 aop.eq_4 aop.eq_5 aop.eq_6 aop.eq_7 aop.eq_8 aop.eq_9 aop_bin atS_apply aop_un_not aop_un_neg aop.eq_14 aop.eq_15 aop.eq_16 aop.eq_17 aop.eq_18 aop_sc cutS_apply cutN_apply cutL_apply cutO_apply aop.eq_20 aop.eq_21 aop.eq_22 aop.eq_23 aop.eq_24 aop.eq_25 aop.eq_26 aop.eq_27 aop.eq_28 aop.eq_29 aop.eq_30 aop.eq_31 aop.eq_32 blk_push next_push blk_set next_set blk_kill next_kill frL_nil frL_cons Fits_nil Fits_cons Int.reduceBEq Int.reduceBNe Nat.sub_zero Option.map_some Option.map_none List.set_cons_succ true_or or_true false_or or_false Int.le_refl Int.cast_ofNat_Int decide_true decide_false List.cons_append fillA fillR rowsOf List.replicate_succ List.replicate_zero Nat.zero_mul getD_drop List.length_drop splice List.nil_append List.append_nil cond_true cond_false List.set_cons_zero List.length_set ev put_some put_none upd_apply abin asNat bounds row1 mk List.length_cons List.length_nil List.length_map List.drop_zero List.drop_succ_cons List.drop_nil List.getD_cons_zero List.getD_cons_succ Option.getD_none Option.getD_some List.take_succ_cons List.take_zero List.take_nil true_and and_true Int.toNat_natCast if_true if_false Nat.zero_add Nat.add_zero List.map_cons List.map_nil Nat.reduceEqDiff Nat.left_eq_add Nat.add_eq_left Nat.add_left_cancel_iff Nat.add_assoc Nat.reduceSub Nat.reduceAdd Nat.reduceLeDiff Nat.le_refl Nat.zero_le Nat.zero_lt_one Nat.lt_add_one Int.reduceLT Int.reduceLE Int.reduceToNat Nat.reduceLT Nat.reduceBEq Bool.false_eq_true Nat.reduceBNe ne_eq not_false_eq_true not_true_eq_false false_and and_false reduceIte Int.natCast_nonneg reduceCtorEq parts_agg parts_bool parts_int parts_str parts_lit parts_nils parts_sl parts_ptr parts_iface parts_nilp parts_niliface Int.natCast_nonneg Int.natCast_nonneg beq_self_eq_true bne_self_eq_false Bool.true_and Bool.false_and Bool.and_true Bool.and_false Bool.true_or Bool.false_or Bool.or_true Bool.or_false Bool.not_true Bool.not_false
attribute [local go_sem] I ints tenA

/-- parquetryref1.Fill: its numbers are the caller's own. -/
theorem fill_spec (s : List Int) (hs : s.length ≤ 2 ^ 20) (n : Int) (σ : St) : TQ Try.prog 13 [ints s, I n] σ fun v t => ∃ b, v = .agg [ints s, .sl b 0 (sizeE s).toNat] ∧ t.blk b = some (.cells 1 (List.replicate (sizeE s).toNat [I n])) ∧ σ.next ≤ b ∧ b < t.next ∧ Ext σ t := by
  refine in13 (by simp) fun wf hab => ?_
  clear hab
  obtain ⟨z0, z1⟩ := sizeE_in s
  obtain ⟨N, hN⟩ := Int.eq_ofNat_of_zero_le z0
  rw [hN] at z1 ⊢
  rw [Int.toNat_natCast]
  have m1 : s.length ≤ most := by simp only [most]; omega
  have m2 : s.length * 8 ≤ most := by simp only [most]; omega
  unfold c13
  first | refine .seq (.rg fun A hA K hK => ?_) | refine .seq (.seq (.rg fun A hA K hK => ?_)) | refine .rg fun A hA K hK => ?_ | refine .seq (.rd fun A hA K hK => ?_) | refine .seq (.seq (.rd fun A hA K hK => ?_)) | refine .rd fun A hA K hK => ?_
  simp (maxSteps := 1000000) only [go_sem, hA.nil, hA.go, hA.yes, hA.noT, hA.noF, hA.skp]
  refine hK _ _ ?_; clear hK K hA A
  refine .midK (fun L t => L = [(0, ints s), (1, I n), (4, .ptr σ.next 0 0), (5, .ptr (σ.next + 2) 0 0)] ∧ ∃ c, t.blk (σ.next + 2) = some (.cells 2 [[ints s, .sl c 0 0]]) ∧ t.blk c = some (.cells 1 []) ∧ t.blk σ.next = some (.cells 2 [[.nils, .nils]]) ∧
    σ.next + 2 < c ∧ c < t.next ∧ ∀ b, b < σ.next → t.blk b = σ.blk b) (.entQ ?_) ?_
  · first | refine .seq (.rg fun A hA K hK => ?_) | refine .seq (.seq (.rg fun A hA K hK => ?_)) | refine .rg fun A hA K hK => ?_ | refine .seq (.rd fun A hA K hK => ?_) | refine .seq (.seq (.rd fun A hA K hK => ?_)) | refine .rd fun A hA K hK => ?_
    simp (maxSteps := 1000000) only [go_sem, hA.nil, hA.go, hA.yes, hA.noT, hA.noF, hA.skp, m1, m2, List.length_map]
    refine hK _ _ ?_; clear hK K hA A
    have ht : List.take s.length (s.map fun n => [I n]) = s.map fun n => [I n] := List.take_of_length_le (by simp)
    refine ⟨_, _, Ent.trans (.freezeAt (b' := σ.next + 2) (b := σ.next + 1) (sz' := 2) (sz := 1) (i := 0) (j := 0) (off := 0) (n := s.length) (rows' := [[.sl (σ.next + 1) 0 s.length, .nils]]) (rows := s.map fun n => [I n]) (by simp (maxSteps := 1000000) only [go_sem]) (by simp) (by simp) rfl (by simp (maxSteps := 1000000) only [go_sem]) (by omega) (by simp))
      (.virtAt (b' := σ.next + 2) (i := 0) (j := 1) 1 (sz' := 2) (rows' := [[ints s, .nils]]) (by simp (maxSteps := 1000000) only [go_sem, ht]) (by simp) (by simp) rfl), _, ⟨rfl, σ.next + 3, ?_, ?_, ?_, by omega, ?_, fun b hb => ?_⟩, by simp (maxSteps := 1000000) only [go_sem]⟩
    · simp (maxSteps := 1000000) only [go_sem, ht]
    · simp (maxSteps := 1000000) only [go_sem]
    · simp (maxSteps := 1000000) only [go_sem]
    · simp (maxSteps := 1000000) only [go_sem]; try omega
    · simp (disch := omega) only [go_sem, if_neg]
  rintro L t ⟨rfl, c, h5, hc, h4, hcn, hct, hx⟩
  first | refine .seq (.rg fun A hA K hK => ?_) | refine .seq (.seq (.rg fun A hA K hK => ?_)) | refine .rg fun A hA K hK => ?_ | refine .seq (.rd fun A hA K hK => ?_) | refine .seq (.seq (.rd fun A hA K hK => ?_)) | refine .rd fun A hA K hK => ?_
  simp (maxSteps := 1000000) only [go_sem, hA.nil, hA.go, hA.yes, hA.noT, hA.noF, hA.skp]
  refine hK _ _ ?_; clear hK K hA A
  refine .countK (N := N) (fun i L t => L = [(0, ints s), (1, I n), (4, .ptr σ.next 0 0), (5, .ptr (σ.next + 2) 0 0), (6, I i)] ∧ ∃ c, t.blk (σ.next + 2) = some (.cells 2 [[ints s, .sl c 0 i]]) ∧ t.blk c = some (.cells 1 (List.replicate i [I n])) ∧ t.blk σ.next = some (.cells 2 [[.nils, .nils]]) ∧
    σ.next + 2 < c ∧ c < t.next ∧ ∀ b, b < σ.next → t.blk b = σ.blk b) (by simp only [most]; omega) ⟨_, ⟨rfl, c, h5, hc, h4, hcn, hct, hx⟩, by simp (maxSteps := 1000000) only [go_sem]; try rfl⟩ ?_ ?_ ?_
  · rintro i L t hi ⟨rfl, hh⟩
    first | refine .seq (.rg fun A hA K hK => ?_) | refine .seq (.seq (.rg fun A hA K hK => ?_)) | refine .rg fun A hA K hK => ?_ | refine .seq (.rd fun A hA K hK => ?_) | refine .seq (.seq (.rd fun A hA K hK => ?_)) | refine .rd fun A hA K hK => ?_
    simp (maxSteps := 1000000) only [go_sem, hA.nil, hA.go, hA.yes, hA.noT, hA.noF, hA.skp]
    first | refine aopq_call (size_spec s _) (by simp (maxSteps := 1000000) only [go_sem, hN]) ?_ | refine aop_call (size_spec s _) (by simp (maxSteps := 1000000) only [go_sem, hN]) ?_
    try simp (maxSteps := 1000000) only [go_sem, hA.nil, hA.go, hA.yes, hA.noT, hA.noF, hA.skp, hN]
    refine hK _ _ ?_; clear hK K hA A
    exact ⟨rfl, by simp (maxSteps := 1000000) only [go_sem, Int.ofNat_lt], _, ⟨rfl, hh⟩, by simp (maxSteps := 1000000) only [go_sem]⟩
  · rintro i L t hi ⟨rfl, c, h5, hc, h4, hcn, hct, hx⟩
    have e1 : ¬ σ.next + 2 = t.next := by omega
    have e2 : ¬ σ.next + 2 = c := by omega
    have e3 : ¬ σ.next = t.next := by omega
    have e4 : ¬ σ.next = c := by omega
    have e5 : ¬ t.next = σ.next + 2 := by omega
    have m3 : i + 1 ≤ most := by simp only [most]; omega
    have m4 : (i + 1) * 8 ≤ most := by simp only [most]; omega
    have ht : List.take i (List.replicate i [I n]) = List.replicate i [I n] := List.take_of_length_le (by simp)
    first | refine .seq (.rg fun A hA K hK => ?_) | refine .seq (.seq (.rg fun A hA K hK => ?_)) | refine .rg fun A hA K hK => ?_ | refine .seq (.rd fun A hA K hK => ?_) | refine .seq (.seq (.rd fun A hA K hK => ?_)) | refine .rd fun A hA K hK => ?_
    simp (maxSteps := 1000000) only [go_sem, hA.nil, hA.go, hA.yes, hA.noT, hA.noF, hA.skp, h5, hc, e1, e2, m3, m4, ht, List.length_replicate]
    refine hK _ _ ?_; clear hK K hA A
    refine ⟨by simp (maxSteps := 1000000) only [go_sem], _, ⟨rfl, t.next, ?_, ?_, ?_, by omega, ?_, fun b hb => ?_⟩, by simp (maxSteps := 1000000) only [go_sem]; try rfl⟩
    · simp (maxSteps := 1000000) only [go_sem]; try rfl
    · simp (maxSteps := 1000000) only [go_sem, e5, List.replicate_succ']
    · simp (maxSteps := 1000000) only [go_sem, e3, e4, h4]; try (simp; omega)
    · simp (maxSteps := 1000000) only [go_sem]; try omega
    · simp (disch := omega) only [go_sem, if_neg, hx b hb]
  · rintro L t F ⟨rfl, c, h5, hc, h4, hcn, hct, hx⟩ hf
    simp (maxSteps := 1000000) only [go_sem] at hf
    have e6 : ¬ σ.next = σ.next + 2 := by omega
    have e7 : ¬ c = σ.next := by omega
    first | refine .seq (.rg fun A hA K hK => ?_) | refine .seq (.seq (.rg fun A hA K hK => ?_)) | refine .rg fun A hA K hK => ?_ | refine .seq (.rd fun A hA K hK => ?_) | refine .seq (.seq (.rd fun A hA K hK => ?_)) | refine .rd fun A hA K hK => ?_
    simp (maxSteps := 1000000) only [go_sem, hA.nil, hA.go, hA.yes, hA.noT, hA.noF, hA.skp, hf, h5, h4]
    refine hK _ _ ?_; clear hK K hA A
    refine .ret ⟨[.agg [ints s, .sl c 0 N]], by simp [resOne, hf, go_sem], _, _, .refl _ _ _, c, rfl, by simp (maxSteps := 1000000) only [go_sem, e7, hc], by omega, by simp (maxSteps := 1000000) only [go_sem]; exact hct, by simp (maxSteps := 1000000) only [go_sem]; omega, fun b hb => ?_⟩
    simp (disch := omega) only [go_sem, if_neg, hx b hb]

end Go.Proofs.Ytdmbgnppbchgcaa.Av
