/- A logic of small values, and walks in it: That the model does what is said of the operations: calls; all of them together. Code in few words; what it asks and gives; that the model does so; a function's law from its code. Operations whose order is left open: those that turn nothing, and at most a chain of those that do. They are gone through in one order; where one that reads may come before or behind one that writes, it must give the same both times. Operations whose order is left open: that each order comes to the same. -/
import Derived.Test.YtfjbabacpnnjmaaAv1
import Derived.Orders
import Derived.Deep.LoopGhost
set_option linter.unusedVariables false
set_option linter.unusedSimpArgs false
set_option linter.deprecated false
namespace Go.Av
open Go.RowKit (Below)

section
variable {P : Program} {o : Oper} {F : Fr} {σ : St}

theorem run_callFunc_body {f : FuncId} {fn : Func} {c : Code} (hf : P.funcs[f]? = some fn) (hname : (fn.name == "runtime.NumGoroutine") = false) (hb : fn.body = some c) (args : Array Value) (w : World) :
  (callFunc f args).run P w = .ok (.enter f args) w := by
 have h1 : fn.name ≠ "runtime.NumGoroutine" := by simpa using hname
 simp [callFunc, hf, h1, hb]

theorem enter_ok {f : FuncId} {args : List AV} {v : AV} {σ' : St} (hT : T P f args σ v σ') {W0 : World} {e : Env} {w : World} (hr : Rel W0 e σ w) {cargs : Array Value} (hl : cargs.size = args.length)
  (hv : ∀ i, i < args.length → VR e (args.getD i .undef) (cargs.getD i Go.undef)) (a : Act) (next : Act → World → Prop) (Q : Exit → Act → World → Prop)
  (hrun : (execOp a.eval o).run P w = (callFunc f cargs).run P w) (hn : ∀ e' v' w', e.le e' → Rel W0 e' σ' w' → VR e' v v' → next (a.put o.dst v') w') : o.wp P a w next Q := by
 obtain ⟨⟨fn, h1, h2, h3⟩, hc⟩ := hT
 obtain ⟨c, hb⟩ : ∃ c, fn.body = some c := by
  cases hb : fn.body with
  | none => simp [hb] at h3
  | some c => exact ⟨c, rfl⟩
 unfold Oper.wp
 rw [hrun, run_callFunc_body h1 h2 hb cargs w, Oper.upon_enter]
 refine (hc W0 e w cargs hr hl hv).mono fun en w' ⟨e', cv, v', s', he, hle, hvr, hrel, hq1, hq2⟩ => ?_
 subst he; subst hq1; subst hq2
 exact hn e' cv w' hle hrel hvr

theorem ok_call {f : FuncId} {args : Array Operand} {ts : Array TypeId} {xs : List Od} (ho : o.op = .call { callee := .value (.func f), args := args, argTypes := ts }) (h : args.toList.mapM od = some xs) {v : AV} {σ' : St}
  (hT : T P f (xs.map (ev F)) σ v σ') : OpT P o F σ v σ' := by
 intro W0 e a w next Q hr hf hn
 obtain ⟨h1, h2⟩ := ods_ok (F := F) (e := e) (a := a) h (fun t ht => hf t (by
  simp only [uses, ho, Op.operands, Call.operands]; simp only [Array.mem_append]; exact .inr (by simpa using ht)))
 refine enter_ok hT hr (cargs := args.map a.eval) (by simp [h1]) (fun i hi => ?_) a next Q ?_ hn
 ·have := h2 i (by simpa using hi)
  simpa [Array.getD_eq_getD_getElem?, List.getD_eq_getElem?_getD] using this
 ·have : a.eval (.func f) = .func (.func f) #[] #[] := rfl
  simp [execOp, ho, resolve, this, Deferred.ofValue, invoke]

theorem ok_callv {t : Nat} {args : Array Operand} {ts : Array TypeId} {xs : List Od} (ho : o.op = .call { callee := .value (.tmp t), args := args, argTypes := ts }) (h : args.toList.mapM od = some xs) {f : FuncId} {cs : List AV}
  (hy : F t = .func f cs) {v : AV} {σ' : St} (hT : T P f (xs.map (ev F) ++ cs) σ v σ') : OpT P o F σ v σ' := by
 intro W0 e a w next Q hr hf hn
 obtain ⟨h1, h2⟩ := ods_ok (F := F) (e := e) (a := a) h (fun t ht => hf t (by
  simp only [uses, ho, Op.operands, Call.operands]; simp only [Array.mem_append]; exact .inr (by simpa using ht)))
 have hfv := hf t (by simp [uses, ho, Op.operands, Call.operands])
 rw [hy] at hfv
 have hev : a.eval (.tmp t) = a.tmps.getD t Go.undef := rfl
 generalize hv : a.tmps.getD t Go.undef = fv at hfv
 cases hfv with
 | func _ _ vs hl hh =>
  refine enter_ok hT hr (cargs := args.map a.eval ++ vs) (by simp [h1, hl]) (fun i hi => ?_) a next Q ?_ hn
  ·have e0 : args.size = xs.length := by simp [h1]
   simp only [List.length_append, List.length_map] at hi
   by_cases hlt : i < xs.length
   ·have := h2 i hlt
    rw [List.getD_eq_getElem?_getD, List.getElem?_append_left (by simpa using hlt), ← List.getD_eq_getElem?_getD]
    rw [Array.getD_eq_getD_getElem?, Array.getElem?_append_left (by simp only [Array.size_map]; omega)]
    simpa [List.getD_eq_getElem?_getD] using this
   ·have := hh (i - xs.length) (by omega)
    rw [List.getD_eq_getElem?_getD, List.getElem?_append_right (by simp; omega)]
    rw [Array.getD_eq_getD_getElem?, Array.getElem?_append_right (by simp only [Array.size_map]; omega)]
    have e1 : args.size = xs.length := by simp [h1]
    simpa [Array.getD_eq_getD_getElem?, List.getD_eq_getElem?_getD, e1] using this
  ·simp [execOp, ho, resolve, hev, hv, Deferred.ofValue, invoke]

theorem ok_mm {t : TypeId} {kt : Option Nat} (ho : o.op = .makeMap t none) : OpT P o F σ (.map σ.next) (σ.push (.map kt [])) := by
 refine .of_run fun W0 e a w hr hf => ?_
 have hm := More.alloc w (.map #[] 0)
 have l := Env.le_own hr.fresh ⟨w.heap.size, 0, 0, 0, false⟩
 refine ⟨_, .map (some w.heap.size), _, l, hr.push hm.old (by rw [hm.size]; omega) (hm.below hr.below) _ (fun _ => ⟨Nat.le_refl _, by rw [hm.size]; exact Nat.lt_succ_self _⟩) (.map kt []) ⟨rfl, #[], hm.new, rfl, fun i hi => absurd hi (by simp)⟩, ?_, ?_⟩
 ·exact VR.map σ.next ⟨w.heap.size, 0, 0, 0, false⟩ (by show (if σ.next = σ.next then _ else _) = _; rw [if_pos rfl]) rfl
 ·simp [execOp, ho, Instr.makeMap]

theorem bind_some {α β : Type} {x : Option α} {f : α → Option β} {b : β} (h : (x >>= f) = some b) : ∃ a, x = some a ∧ f a = some b := Option.bind_eq_some_iff.1 h

theorem op_ok {c : Cfg} {co : CO} {K : AV → St → Prop} (h : er P c o = some co) (ha : aop P co F σ K) : ∃ v σ', OpT P o F σ v σ' ∧ K v σ' := by
 unfold er at h
 split at h
 ·-- move
  rename_i x ho
  obtain ⟨y, hy, h⟩ := bind_some h; cases h
  exact ⟨_, _, ok_mv (.inl ho) hy, ha⟩
 ·rename_i x ho
  obtain ⟨y, hy, h⟩ := bind_some h; cases h
  exact ⟨_, _, ok_mv (.inr ho) hy, ha⟩
 ·rename_i x y z ho
  obtain ⟨x', hx, h⟩ := bind_some h
  obtain ⟨y', hy, h⟩ := bind_some h
  obtain ⟨z', hz, h⟩ := bind_some h; cases h
  simp only [aop] at ha
  split at ha
  ·rename_i t ht
   refine ⟨_, _, ok_pk ho hx hy hz ht, ?_⟩
   cases t <;> simpa using ha
  ·exact ha.elim
 ·-- alloc
  rename_i t ho
  obtain ⟨z, hz, h⟩ := bind_some h; cases h
  exact ⟨_, _, ok_al ho hz, ha⟩
 ·rename_i t x ho
  obtain ⟨y, hy, h⟩ := bind_some h; cases h
  exact ⟨_, _, ok_bx ho hy ha.1, ha.2⟩
 ·-- build
  rename_i t ps ho
  split at h
  ·rename_i fs hu
   obtain ⟨places, hp, h⟩ := bind_some h
   obtain ⟨z, hz, h⟩ := bind_some h
   obtain ⟨ps', hps, h⟩ := bind_some h; cases h
   simp only [aop] at ha
   split at ha
   ·rename_i cs hcs
    exact ⟨_, _, ok_bd ho hz (.inl ⟨fs, places, hu, hp, rfl⟩) hps hcs, ha⟩
   ·exact ha.elim
  ·rename_i n el hu
   obtain ⟨i, hi, h⟩ := bind_some h
   obtain ⟨z, hz, h⟩ := bind_some h
   obtain ⟨ps', hps, h⟩ := bind_some h; cases h
   simp only [aop] at ha
   split at ha
   ·rename_i cs hcs
    exact ⟨_, _, ok_bd ho hz (.inr ⟨n, el, i, hu, hi, rfl⟩) hps hcs, ha⟩
   ·exact ha.elim
  ·cases h
 ·-- buildSlice
  rename_i t len ps ho
  obtain ⟨el, hel, h⟩ := bind_some h
  obtain ⟨s, hs, h⟩ := bind_some h
  obtain ⟨z, hz, h⟩ := bind_some h
  split at h
  ·rename_i hc
   obtain ⟨ps', hps, h⟩ := bind_some h; cases h
   simp only [aop] at ha
   split at ha
   ·rename_i rows hrows
    have := ok_bs (F := F) (σ := σ) (own := (o.dst.map c.own).getD false) ho (elem_of hel) hs hz hc.1 hc.2.1 hc.2.2 hps hrows
    split at this
    ·rename_i hown; rw [if_pos hown] at ha; exact ⟨_, _, this, ha⟩
    ·rename_i hown
     rw [if_neg hown] at ha
     split at this
     ·rename_i hl; rw [if_pos hl] at ha; exact ⟨_, _, this, ha⟩
     ·rename_i hl; rw [if_neg hl] at ha; exact ⟨_, _, this, ha⟩
   ·exact ha.elim
  ·cases h
 ·-- load
  rename_i t x ho
  obtain ⟨g, hg, h⟩ := bind_some h
  obtain ⟨y, hy, h⟩ := bind_some h; cases h
  simp only [aop] at ha
  split at ha
  ·rename_i b i off hp
   split at ha
   ·rename_i sz rows hb
    exact ⟨_, _, ok_ld_ptr ho hg hy hp hb ha.1 ha.2.1, ha.2.2⟩
   ·exact ha.elim
  ·rename_i cs hp
   exact ⟨_, _, ok_ld_fptr ho hg hy hp ha.1, ha.2⟩
  ·exact ha.elim
 ·-- store
  rename_i t x y ho
  obtain ⟨n, hn, h⟩ := bind_some h
  obtain ⟨x', hx, h⟩ := bind_some h
  obtain ⟨y', hy, h⟩ := bind_some h; cases h
  simp only [aop] at ha
  split at ha
  ·rename_i b i off hp
   split at ha
   ·rename_i sz rows hb
    exact ⟨_, _, ok_st ho hn hx hy hp hb ha.1 ha.2.1 ha.2.2.1 ha.2.2.2.1, ha.2.2.2.2⟩
   ·exact ha.elim
  ·exact ha.elim
 ·rename_i x ho
  obtain ⟨y, hy, h⟩ := bind_some h; cases h
  simp only [aop] at ha
  split at ha
  ·rename_i b i off hp; rw [← hp] at ha; exact ⟨_, _, ok_nc ho hy (.inl ⟨b, i, off, hp⟩), ha⟩
  ·rename_i cs hp; rw [← hp] at ha; exact ⟨_, _, ok_nc ho hy (.inr ⟨cs, hp⟩), ha⟩
  ·exact ha.elim
 ·rename_i op t x y u ho
  obtain ⟨x', hx, h⟩ := bind_some h
  obtain ⟨y', hy, h⟩ := bind_some h; cases h
  obtain ⟨r, h1, h2⟩ := ok_bin (σ := σ) (K := fun v => K v σ) ho hx hy ha
  exact ⟨r, σ, h1, h2⟩
 ·rename_i op t x ho
  obtain ⟨y, hy, h⟩ := bind_some h; cases h
  simp only [aop] at ha
  split at ha
  ·rename_i b hb; exact ⟨_, _, (ok_un ho hy).1 b rfl hb, ha⟩
  ·rename_i k n hb; exact ⟨_, _, (ok_un ho hy).2 k n rfl hb, ha⟩
  ·exact ha.elim
 ·-- convert
  rename_i s t x ho
  split at h
  ·rename_i d k hs ht
   obtain ⟨y, hy, h⟩ := bind_some h; cases h
   simp only [aop] at ha
   split at ha
   ·rename_i j n hn; exact ⟨_, _, ok_cv ho hs ht hy hn, ha⟩
   ·exact ha.elim
  ·cases h
 ·-- makeInterface
  rename_i t x ho
  split at h
  ·cases h
  ·cases h
  ·rename_i _ d hd hu
   obtain ⟨y, hy, h⟩ := bind_some h; cases h
   exact ⟨_, _, ok_mi ho hu (fun ms hms => hd ms hms) hy, ha⟩
 ·-- makeFunc
  rename_i f first cs ho
  split at h
  ·rename_i hfirst
   obtain ⟨ys, hys, h⟩ := bind_some h; cases h
   obtain rfl : first = #[] := by simpa using hfirst
   exact ⟨_, _, ok_mf ho hys, ha⟩
  ·cases h
 ·-- makeMap
  rename_i t ho
  split at h
  ·rename_i k el hu
   obtain ⟨kt, hk, h⟩ := bind_some h
   cases h
   exact ⟨_, _, ok_mm ho, ha⟩
  ·cases h
 ·-- lookup
  rename_i t x ix ok ho
  split at h
  ·rename_i k el hu
   obtain ⟨kt, hk, h⟩ := bind_some h
   obtain ⟨ti, hti, h⟩ := bind_some h
   obtain ⟨z, hz, h⟩ := bind_some h
   split at h
   ·rename_i hzo
    obtain ⟨x', hx, h⟩ := bind_some h
    obtain ⟨ix', hix, h⟩ := bind_some h
    cases h
    simp only [aop] at ha
    split at ha
    ·rename_i b hb0
     split at ha
     ·rename_i kt' es q hb hq
      obtain ⟨rfl, ha⟩ := ha
      obtain ⟨k1, k2⟩ := ok_lk (F := F) (σ := σ) ho hu hk hti hz hzo hx hix hb0 hb hq
      split at ha
      ·rename_i i hi; exact ⟨_, _, k1 i hi, ha⟩
      ·rename_i hi; exact ⟨_, _, k2 hi, ha⟩
     ·exact ha.elim
    ·exact ha.elim
   ·cases h
  ·cases h
 ·-- mapUpdate
  rename_i t x ix y ho
  split at h
  ·rename_i k el hu
   obtain ⟨kt, hk, h⟩ := bind_some h
   obtain ⟨x', hx, h⟩ := bind_some h
   obtain ⟨ix', hix, h⟩ := bind_some h
   obtain ⟨y', hy, h⟩ := bind_some h
   cases h
   simp only [aop] at ha
   split at ha
   ·rename_i b hb0
    split at ha
    ·rename_i kt' es q hb hq
     obtain ⟨rfl, ha⟩ := ha
     obtain ⟨k1, k2⟩ := ok_mu (F := F) (σ := σ) ho hu hk hx hix hy hb0 hb hq
     split at ha
     ·rename_i i hi; exact ⟨_, _, k1 i hi, ha⟩
     ·rename_i hi; exact ⟨_, _, k2 hi, ha⟩
    ·exact ha.elim
   ·exact ha.elim
  ·cases h
 ·-- range
  rename_i t x ho
  split at h
  ·rename_i k el hu
   obtain ⟨x', hx, h⟩ := bind_some h
   cases h
   simp only [aop] at ha
   split at ha
   ·rename_i b hb0
    split at ha
    ·rename_i kt es hb; exact ⟨_, _, ok_rg ho hu hx hb0 hb, ha⟩
    ·exact ha.elim
   ·exact ha.elim
  ·cases h
 ·-- next
  rename_i x ho
  obtain ⟨x', hx, h⟩ := bind_some h
  cases h
  exact ha.elim
 ·-- entry
  rename_i x ho
  obtain ⟨x', hx, h⟩ := bind_some h
  cases h
  simp only [aop] at ha
  split at ha
  ·rename_i b hb0
   split at ha
   ·rename_i m n seen hb
    split at ha
    ·rename_i kt es i hm hs
     exact ⟨_, _, ok_en ho hx hb0 hb hm hs ha.1 ha.2.1, ha.2.2⟩
    ·exact ha.elim
   ·exact ha.elim
  ·exact ha.elim
 ·-- makeSlice
  rename_i t l k ho
  obtain ⟨el, hel, h⟩ := bind_some h
  obtain ⟨i, hi, h⟩ := bind_some h
  obtain ⟨z, hz, h⟩ := bind_some h
  split at h
  ·cases h
  ·rename_i hc
   obtain ⟨l', hl, h⟩ := bind_some h
   obtain ⟨k', hk, h⟩ := bind_some h; cases h
   simp only [aop] at ha
   split at ha
   ·rename_i kl n kc m hn hm
    obtain ⟨a1, a2, a3, a4, a5, a6⟩ := ha
    exact ⟨_, _, ok_ms ho hel hi hz a5 (by omega) hl hk hn hm a1 a2 a3 a4, a6⟩
   ·exact ha.elim
 ·-- slice
  rename_i t x lo hi mx ho
  split at h
  ·rename_i el hu
   obtain ⟨s, hs, h⟩ := bind_some h
   split at h
   ·cases h
   rename_i hs0
   obtain ⟨y, hy, h⟩ := bind_some h
   obtain ⟨lo', hlo, h⟩ := bind_some h
   obtain ⟨hi', hhi, h⟩ := bind_some h
   obtain ⟨mx', hmx, h⟩ := bind_some h; cases h
   simp only [szOf, Option.map_eq_some_iff] at hs
   obtain ⟨ti, hti, rfl⟩ := hs
   obtain ⟨k1, k2, k3⟩ := ok_sc (F := F) (σ := σ) ho hu hti hy hlo hhi hmx
   simp only [aop] at ha
   split at ha
   ·exact absurd ha.1 hs0
   ·rename_i hp
    obtain ⟨v, h1, h2⟩ := k1 (fun v => K v σ) hp ha.2
    exact ⟨v, σ, h1, h2⟩
   ·rename_i s rows hp
    obtain ⟨_, rfl, ha⟩ := ha
    obtain ⟨v, h1, h2⟩ := k2 (fun v => K v σ) rows hp ha
    exact ⟨v, σ, h1, h2⟩
   ·rename_i b off n hp
    split at ha
    ·rename_i s rows hb
     obtain ⟨_, rfl, ha⟩ := ha
     obtain ⟨v, h1, h2⟩ := k3 (fun v => K v σ) b off n rows hp hb ha
     exact ⟨v, σ, h1, h2⟩
    ·exact ha.elim
   ·exact ha.elim
  ·rename_i hu
   obtain ⟨y, hy, h⟩ := bind_some h
   obtain ⟨lo', hlo, h⟩ := bind_some h
   obtain ⟨hi', hhi, h⟩ := bind_some h
   obtain ⟨mx', hmx, h⟩ := bind_some h; cases h
   simp only [aop] at ha
   split at ha
   ·rename_i s hp
    obtain ⟨_, hm, ha⟩ := ha
    have hm' : mx' = none := by simpa using hm
    subst hm'
    have : mx = none := by cases mx <;> simp [odO] at hmx ⊢
    subst this
    obtain ⟨v, h1, h2⟩ := ok_sc_str (σ := σ) (K := fun v => K v σ) ho hu hy hlo hhi hp ha
    exact ⟨v, σ, h1, h2⟩
   ·exact absurd rfl ha.1
   ·exact absurd rfl ha.1
   ·split at ha
    ·exact absurd rfl ha.1
    ·exact ha.elim
   ·exact ha.elim
  ·cases h
 ·-- fieldAddr
  rename_i t x n ho
  obtain ⟨f, hf, h⟩ := bind_some h
  obtain ⟨s, hs, h⟩ := bind_some h
  split at h
  ·cases h
  ·rename_i hs0
   obtain ⟨y, hy, h⟩ := bind_some h; cases h
   obtain ⟨k1, k2⟩ := ok_fa (F := F) (σ := σ) ho hf hs hs0 hy
   simp only [aop] at ha
   split at ha
   ·rename_i b i off hp; exact ⟨_, _, k1 b i off hp, ha⟩
   ·rename_i cs hp; exact ⟨_, _, k2 cs hp ha.1, ha.2⟩
   ·exact ha.elim
 ·-- field
  rename_i t x n ho
  obtain ⟨f, hf, h⟩ := bind_some h
  obtain ⟨g, hg, h⟩ := bind_some h
  obtain ⟨y, hy, h⟩ := bind_some h; cases h
  simp only [aop] at ha
  split at ha
  ·rename_i cs hp; exact ⟨_, _, ok_fl ho hf hg hy hp ha.1, ha.2⟩
  ·exact ha.elim
 ·-- indexAddr
  rename_i t x ix ho
  obtain ⟨el, hel, h⟩ := bind_some h
  obtain ⟨s, hs, h⟩ := bind_some h
  obtain ⟨x', hx, h⟩ := bind_some h
  obtain ⟨ix', hix, h⟩ := bind_some h; cases h
  simp only [aop] at ha
  split at ha
  ·rename_i s rows k i hp hi
   obtain ⟨rfl, a1, a2, a3⟩ := ha
   exact ⟨_, _, (ok_ia ho hel hs hx hix hi a1).1 rows hp a2, a3⟩
  ·rename_i b off n k i hp hi
   split at ha
   ·rename_i s rows hb
    obtain ⟨rfl, a1, a2, a3⟩ := ha
    exact ⟨_, _, (ok_ia ho hel hs hx hix hi a1).2 b off n rows hp hb a2, a3⟩
   ·exact ha.elim
  ·exact ha.elim
 ·-- typeAssert
  rename_i x s t ok ho
  split at h
  ·cases h
  ·cases h
  ·rename_i _ d hd hu
   obtain ⟨ti, hti, h⟩ := bind_some h
   obtain ⟨z, hz, h⟩ := bind_some h
   split at h
   ·rename_i hzo
    obtain ⟨y, hy, h⟩ := bind_some h; cases h
    obtain ⟨k1, k2, k3⟩ := ok_ta (F := F) (σ := σ) ho hy hu (fun ms hms => hd ms hms) hti hz hzo
    simp only [aop] at ha
    split at ha
    ·rename_i u v hp
     split at ha
     ·rename_i hut
      refine ⟨_, _, k1 u v hp hut, ?_⟩
      cases ok <;> simpa using ha
     ·rename_i hut; exact ⟨_, _, k2 u v hp hut ha.1, ha.2⟩
    ·rename_i hp; exact ⟨_, _, k3 hp ha.1, ha.2⟩
    ·exact ha.elim
   ·cases h
 ·-- extract
  rename_i x i ho
  obtain ⟨y, hy, h⟩ := bind_some h; cases h
  simp only [aop] at ha
  split at ha
  ·rename_i vs hp; exact ⟨_, _, ok_ex ho hy hp ha.1, ha.2⟩
  ·exact ha.elim
 ·-- len
  rename_i args ts ho
  split at h
  ·rename_i x t hargs hts
   have hargs' : args = #[x] := by
    apply Array.ext'; simpa using hargs
   subst hargs'
   split at h
   ·rename_i hu
    obtain ⟨y, hy, h⟩ := bind_some h; cases h
    obtain ⟨k1, k2⟩ := ok_ln (F := F) (σ := σ) ho hy hts (.inl rfl) hu
    simp only [aop] at ha
    split at ha
    ·rename_i s hp; exact ⟨_, _, k1 s rfl hp, ha.2⟩
    all_goals first | exact ha.elim | (have := ha.1; simp at this)
   ·rename_i el hu
    obtain ⟨y, hy, h⟩ := bind_some h; cases h
    obtain ⟨k1, k2⟩ := ok_ln (F := F) (σ := σ) ho hy hts (.inr ⟨el, rfl⟩) hu
    simp only [aop] at ha
    split at ha
    ·have := ha.1; simp at this
    ·rename_i hp; exact ⟨_, _, k2 0 ⟨el, rfl⟩ (.inl ⟨hp, rfl⟩), ha.2⟩
    ·rename_i f z hp; exact ⟨_, _, k2 0 ⟨el, rfl⟩ (.inr (.inl ⟨⟨f, z, hp⟩, rfl⟩)), ha.2⟩
    ·rename_i z rows hp; exact ⟨_, _, k2 _ ⟨el, rfl⟩ (.inr (.inr (.inl ⟨z, rows, hp, rfl⟩))), ha.2⟩
    ·rename_i b off n hp; exact ⟨_, _, k2 _ ⟨el, rfl⟩ (.inr (.inr (.inr ⟨b, off, hp⟩))), ha.2⟩
    ·exact ha.elim
   ·rename_i k el hu
    obtain ⟨y, hy, h⟩ := bind_some h; cases h
    simp only [aop] at ha
    split at ha
    ·rename_i b hb0
     split at ha
     ·rename_i kt es hb; exact ⟨_, _, ok_lm ho hts hu hy hb0 hb, ha⟩
     ·exact ha.elim
    ·exact ha.elim
   ·cases h
  ·cases h
 ·-- append
  rename_i args ts ho
  split at h
  ·rename_i x y t u hargs hts
   have hargs' : args = #[x, y] := by apply Array.ext'; simpa using hargs
   have hts' : ts = #[t, u] := by apply Array.ext'; simpa using hts
   subst hargs'; subst hts'
   obtain ⟨el, hel, h⟩ := bind_some h
   obtain ⟨i, hi, h⟩ := bind_some h
   obtain ⟨z, hz, h⟩ := bind_some h
   split at h
   ·cases h
   ·rename_i hc
    obtain ⟨x', hx, h⟩ := bind_some h
    obtain ⟨y', hy, h⟩ := bind_some h; cases h
    have hut : u = t := by
     by_cases hq : u = t
     ·exact hq
     ·exact absurd (Or.inr (Or.inr hq)) hc
    subst hut
    have hzs : z.cells.size = i.size := by
     by_cases hq : z.cells.size = i.size
     ·exact hq
     ·exact absurd (Or.inr (Or.inl hq)) hc
    simp only [aop] at ha
    split at ha
    ·exact ha.elim
    ·rename_i ys hys
     obtain ⟨k1, k2⟩ := ok_ap (F := F) (σ := σ) ho hel hi hz hzs hx hy hys
     split at ha
     ·rename_i hp; exact ⟨_, _, k1 (.inl hp) ha.1 ha.2.1, ha.2.2⟩
     ·rename_i f s hp
      obtain ⟨rfl, rfl, a1, a2, a3⟩ := ha
      exact ⟨_, _, k1 (.inr ⟨_, hp⟩) a1 a2, a3⟩
     ·rename_i b off n hp
      split at ha
      ·rename_i s rows hb
       obtain ⟨rfl, a1, a2, a3, a4⟩ := ha
       exact ⟨_, _, k2 b off n rows hp hb a1 a2 a3, a4⟩
      ·exact ha.elim
     ·exact ha.elim
  ·cases h
 ·-- max
  rename_i args ts ho
  split at h
  ·rename_i x y hargs
   have hargs' : args = #[x, y] := by apply Array.ext'; simpa using hargs
   subst hargs'
   obtain ⟨x', hx, h⟩ := bind_some h
   obtain ⟨y', hy, h⟩ := bind_some h; cases h
   simp only [aop] at ha
   split at ha
   ·rename_i k p k' q hp hq
    obtain ⟨rfl, ha⟩ := ha
    exact ⟨_, _, ok_mx (m := true) (by simp) ho hx hy hp hq, ha⟩
   ·exact ha.elim
  ·cases h
 ·rename_i args ts ho
  split at h
  ·rename_i x y hargs
   have hargs' : args = #[x, y] := by apply Array.ext'; simpa using hargs
   subst hargs'
   obtain ⟨x', hx, h⟩ := bind_some h
   obtain ⟨y', hy, h⟩ := bind_some h; cases h
   simp only [aop] at ha
   split at ha
   ·rename_i k p k' q hp hq
    obtain ⟨rfl, ha⟩ := ha
    exact ⟨_, _, ok_mx (m := false) (by simp) ho hx hy hp hq, ha⟩
   ·exact ha.elim
  ·cases h
 ·-- call
  rename_i f args ts ho
  obtain ⟨xs, hxs, h⟩ := bind_some h; cases h
  simp only [aop] at ha
  split at ha
  ·obtain ⟨v, hT, hK⟩ := ha; exact ⟨_, _, ok_call ho hxs hT, hK⟩
  ·obtain ⟨v, s', hT, hK⟩ := ha; exact ⟨_, _, ok_call ho hxs hT, hK⟩
 ·rename_i t args ts ho
  obtain ⟨xs, hxs, h⟩ := bind_some h; cases h
  simp only [aop] at ha
  split at ha
  ·rename_i f cs hp
   split at ha
   ·obtain ⟨v, hT, hK⟩ := ha; exact ⟨_, _, ok_callv ho hxs hp hT, hK⟩
   ·obtain ⟨v, s', hT, hK⟩ := ha; exact ⟨_, _, ok_callv ho hxs hp hT, hK⟩
  ·exact ha.elim
 ·cases h

end
/-- Every value and state that an operation may give. -/
def OpK (P : Program) (o : Oper) (F : Fr) (σ : St) (K : AV → St → Prop) : Prop :=
 ∀ (W0 : World) (e : Env) (a : Act) (w : World) (next : Act → World → Prop) (Q : Exit → Act → World → Prop), Rel W0 e σ w →
  (∀ t, uses o t → VR e (F t) (a.tmps.getD t Go.undef)) →
  (∀ e' v' w' v σ', K v σ' → e.le e' → Rel W0 e' σ' w' → VR e' v v' → next (a.put o.dst v') w') → o.wp P a w next Q

theorem OpT.toK {P : Program} {o : Oper} {F : Fr} {σ σ' : St} {v : AV} {K : AV → St → Prop} (h : OpT P o F σ v σ') (hK : K v σ') : OpK P o F σ K :=
 fun W0 e a w next Q hr hf hn => h W0 e a w next Q hr hf fun e' v' w' h1 h2 h3 => hn e' v' w' v σ' hK h1 h2 h3

structure RO where
 dst : Option Nat
 g : Option (Nat × Bool)
 op : CO

/-- A call with a law that leaves its answer open: as an operation of its own, beside 'CO'. -/
def aopq (P : Program) (o : CO) (F : Fr) (σ : St) (K : AV → St → Prop) : Prop :=
 match o with
 | .call q f xs => if q = true then aop P (.call q f xs) F σ K else ∃ Q, TQ P f (xs.map (ev F)) σ Q ∧ ∀ v σ', Q v σ' → K v σ'
 | .callv q x xs => match ev F x with
  | .func f cs => if q = true then aop P (.callv q x xs) F σ K else ∃ Q, TQ P f (xs.map (ev F) ++ cs) σ Q ∧ ∀ v σ', Q v σ' → K v σ'
  | _ => False
 | .nx x => match ev F x with
  | .iter b => match σ.blk b with
   | some (.miter m n seen) => match σ.blk m with
    | some (.map _ es) => es.length = n ∧ ((∀ i, i < n → i ∈ seen) → K (.tup [.bool false]) σ) ∧ ∀ i, i < n → i ∉ seen → K (.tup [.bool true, .undef, .undef]) (σ.set b (.miter m n (seen ++ [i])))
    | _ => False
   | _ => False
  | _ => False
 | o => aop P o F σ K

def aops (P : Program) : List RO → Fr → St → (Fr → St → Prop) → Prop
 | [], F, σ, K => K F σ
 | ⟨d, none, o⟩ :: os, F, σ, K => aopq P o F σ fun v σ' => aops P os (put F d v) σ' K
 | ⟨d, some (t, want), o⟩ :: os, F, σ, K => match F t with
  | .bool b => if b = want then aopq P o F σ fun v σ' => aops P os (put F d v) σ' K else aops P os (put F d (.raw (.tuple #[]))) σ K
  | .raw (.tuple _) => aops P os (put F d (.raw (.tuple #[]))) σ K
  | _ => False

/-- What a guard finds: a truth, or that the guarding one was passed over. -/
def gdv : AV → Option (Option Bool)
 | .bool b => some (some b)
 | .raw (.tuple _) => some none
 | _ => none

section
variable (P : Program) (c : Cfg) (N : Nat)
def erO (ops : Array Oper) (o : Oper) : Option RO := do
 let co ← er P c o
 if o.dst.all (· < N) then
  match o.guard with
  | none => some ⟨o.dst, none, co⟩
  | some (j, want) => do
   let d ← (ops[j]?).bind (·.dst)
   some ⟨o.dst, some (d, want), co⟩
 else none
end

/-- How a frame and a state stand to the model's. 'e0', 'n0': what stood when the function began. -/
def R (W0 : World) (e0 : Env) (n0 N : Nat) (F : Fr) (σ : St) (a : Act) (w : World) : Prop :=
 (∀ b x, e0.ι b = some x → b < n0) ∧ ∃ e, e0.le e ∧ Rel W0 e σ w ∧ (∀ t, VR e (F t) (a.tmps.getD t Go.undef)) ∧ a.tmps.size = N ∧ a.defers = []

def QL (W0 : World) (e0 : Env) (n0 N : Nat) (Q : Exit → Fr → St → Prop) (ex : Exit) (a : Act) (w : World) : Prop := ∃ F σ, Q ex F σ ∧ R W0 e0 n0 N F σ a w

theorem tmps_put {e : Env} {F : Fr} {a : Act} {N : Nat} {d : Option Nat} {v : AV} {v' : Value} (hN : a.tmps.size = N) (hd : d.all (· < N) = true) (hf : ∀ t, VR e (F t) (a.tmps.getD t Go.undef)) (hv : VR e v v') :
  (∀ t, VR e (put F d v t) ((a.put d v').tmps.getD t Go.undef)) ∧ (a.put d v').tmps.size = N ∧ (a.put d v').defers = a.defers := by
 cases d with
 | none => exact ⟨hf, hN, rfl⟩
 | some d =>
  simp only [Option.all_some, decide_eq_true_eq] at hd
  refine ⟨fun t => ?_, by simpa [Act.put] using hN, rfl⟩
  simp only [put, upd, Act.put]
  by_cases ht : t = d
  ·subst ht
   rw [if_pos rfl]
   rw [Array.getD_eq_getD_getElem?, Array.getElem?_setIfInBounds_self_of_lt (by omega)]
   exact hv
  ·rw [if_neg ht, Array.getD_eq_getD_getElem?, Array.getElem?_setIfInBounds, if_neg (by omega), ← Array.getD_eq_getD_getElem?]
   exact hf t

section
variable {P : Program} {c : Cfg}

theorem TQ.opcall {o : Oper} {F : Fr} {σ : St} {f : FuncId} {args : Array Operand} {ts : Array TypeId} {xs : List Od} (ho : o.op = .call { callee := .value (.func f), args := args, argTypes := ts }) (h : args.toList.mapM od = some xs)
  {Q : AV → St → Prop} {K : AV → St → Prop} (hT : TQ P f (xs.map (ev F)) σ Q) (hQ : ∀ v σ', Q v σ' → K v σ') : OpK P o F σ K := by
 intro W0 e a w next Q' hr hf hn
 obtain ⟨h1, h2⟩ := ods_ok (F := F) (e := e) (a := a) h (fun t ht => hf t (by
  simp only [uses, ho, Op.operands, Call.operands]; simp only [Array.mem_append]; exact .inr (by simpa using ht)))
 obtain ⟨⟨fn, g1, g2, g3⟩, hc⟩ := hT
 obtain ⟨cb, hb⟩ : ∃ c, fn.body = some c := by
  cases hb : fn.body with
  | none => simp [hb] at g3
  | some c => exact ⟨c, rfl⟩
 have hrun : (execOp a.eval o).run P w = (callFunc f (args.map a.eval)).run P w := by
  have : a.eval (.func f) = .func (.func f) #[] #[] := rfl
  simp [execOp, ho, resolve, this, Deferred.ofValue, invoke]
 unfold Oper.wp
 rw [hrun, run_callFunc_body g1 g2 hb _ w, Oper.upon_enter]
 refine (hc W0 e w _ hr (by simp [h1]) (fun i hi => ?_)).mono fun en w' ⟨e', cv, v', s', he, hle, hvr, hrel, hq⟩ => ?_
 ·have := h2 i (by simpa using hi)
  simpa [Array.getD_eq_getD_getElem?, List.getD_eq_getElem?_getD] using this
 ·subst he
  exact hn e' cv w' v' s' (hQ _ _ hq) hle hrel hvr

theorem TQ.opcallv {o : Oper} {F : Fr} {σ : St} {t : Nat} {args : Array Operand} {ts : Array TypeId} {xs : List Od} (ho : o.op = .call { callee := .value (.tmp t), args := args, argTypes := ts }) (h : args.toList.mapM od = some xs)
  {f : FuncId} {cs : List AV} (hy : F t = .func f cs) {Q : AV → St → Prop} {K : AV → St → Prop} (hT : TQ P f (xs.map (ev F) ++ cs) σ Q) (hQ : ∀ v σ', Q v σ' → K v σ') : OpK P o F σ K := by
 intro W0 e a w next Q' hr hf hn
 obtain ⟨h1, h2⟩ := ods_ok (F := F) (e := e) (a := a) h (fun t ht => hf t (by
  simp only [uses, ho, Op.operands, Call.operands]; simp only [Array.mem_append]; exact .inr (by simpa using ht)))
 have hfv := hf t (by simp [uses, ho, Op.operands, Call.operands])
 rw [hy] at hfv
 have hev : a.eval (.tmp t) = a.tmps.getD t Go.undef := rfl
 generalize hv : a.tmps.getD t Go.undef = fv at hfv
 cases hfv with
 | func _ _ vs hl hh =>
  obtain ⟨⟨fn, g1, g2, g3⟩, hc⟩ := hT
  obtain ⟨cb, hb⟩ : ∃ c, fn.body = some c := by
   cases hb : fn.body with
   | none => simp [hb] at g3
   | some c => exact ⟨c, rfl⟩
  have hrun : (execOp a.eval o).run P w = (callFunc f (args.map a.eval ++ vs)).run P w := by
   simp [execOp, ho, resolve, hev, hv, Deferred.ofValue, invoke]
  unfold Oper.wp
  rw [hrun, run_callFunc_body g1 g2 hb _ w, Oper.upon_enter]
  refine (hc W0 e w _ hr (by simp [h1, hl]) (fun i hi => ?_)).mono fun en w' ⟨e', cv, v', s', he, hle, hvr, hrel, hq⟩ => ?_
  ·have e0 : args.size = xs.length := by simp [h1]
   simp only [List.length_append, List.length_map] at hi
   by_cases hlt : i < xs.length
   ·have := h2 i hlt
    rw [List.getD_eq_getElem?_getD, List.getElem?_append_left (by simpa using hlt), ← List.getD_eq_getElem?_getD]
    rw [Array.getD_eq_getD_getElem?, Array.getElem?_append_left (by simp only [Array.size_map]; omega)]
    simpa [List.getD_eq_getElem?_getD] using this
   ·have := hh (i - xs.length) (by omega)
    rw [List.getD_eq_getElem?_getD, List.getElem?_append_right (by simp; omega)]
    rw [Array.getD_eq_getD_getElem?, Array.getElem?_append_right (by simp only [Array.size_map]; omega)]
    simpa [Array.getD_eq_getD_getElem?, List.getD_eq_getElem?_getD, e0] using this
  ·subst he
   exact hn e' cv w' v' s' (hQ _ _ hq) hle hrel hvr

theorem er_call {o : Oper} {q : Bool} {f : FuncId} {xs : List Od} (h : er P c o = some (.call q f xs)) : ∃ args ts, o.op = .call { callee := .value (.func f), args := args, argTypes := ts } ∧ args.toList.mapM od = some xs := by
 unfold er at h
 split at h
 case h_33 g args ts ho =>
  obtain ⟨ys, hys, h⟩ := bind_some h
  cases h
  exact ⟨args, ts, ho, hys⟩
 all_goals (repeat' (split at h)) <;> simp [Option.bind_eq_some_iff] at h

theorem er_callv {o : Oper} {q : Bool} {x : Od} {xs : List Od} (h : er P c o = some (.callv q x xs)) : ∃ t args ts, o.op = .call { callee := .value (.tmp t), args := args, argTypes := ts } ∧ x = .t t ∧ args.toList.mapM od = some xs := by
 unfold er at h
 split at h
 case h_34 t args ts ho =>
  obtain ⟨ys, hys, h⟩ := bind_some h
  cases h
  exact ⟨t, args, ts, ho, rfl, hys⟩
 all_goals (repeat' (split at h)) <;> simp [Option.bind_eq_some_iff] at h

theorem er_nx {o : Oper} {x : Od} (h : er P c o = some (.nx x)) : ∃ y, o.op = .next y false ∧ od y = some x := by
 unfold er at h
 split at h
 case h_20 y ho =>
  obtain ⟨z, hz, h⟩ := bind_some h
  cases h
  exact ⟨y, ho, hz⟩
 all_goals (repeat' (split at h)) <;> simp [Option.bind_eq_some_iff] at h

theorem opq_ok {o : Oper} {co : CO} {F : Fr} {σ : St} {K : AV → St → Prop} (h : er P c o = some co) (ha : aopq P co F σ K) : OpK P o F σ K := by
 have base : aop P co F σ K → OpK P o F σ K := fun ha => let ⟨v, σ', h1, h2⟩ := op_ok h ha; h1.toK h2
 unfold aopq at ha
 split at ha
 ·rename_i q f xs
  split at ha
  ·exact base ha
  ·obtain ⟨Q, hT, hQ⟩ := ha
   -- the operation is a call of that function
   obtain ⟨args, ts, ho, hxs⟩ := er_call h
   exact hT.opcall ho hxs hQ
 ·rename_i q x xs
  split at ha
  ·rename_i f cs hx
   split at ha
   ·rename_i hq; exact base (by simpa only [aopq, hx, hq, if_true] using ha)
   ·obtain ⟨Q, hT, hQ⟩ := ha
    obtain ⟨t, args, ts, ho, rfl, hxs⟩ := er_callv h
    exact hT.opcallv ho hxs hx hQ
  ·exact ha.elim
 ·rename_i x
  split at ha
  ·rename_i b hb0
   split at ha
   ·rename_i m n seen hb
    split at ha
    ·rename_i kt es hm
     obtain ⟨y, ho, hy⟩ := er_nx h
     exact ok_nx ho hy hb0 hb hm ha.1 ha.2.1 ha.2.2
    ·exact ha.elim
   ·exact ha.elim
  ·exact ha.elim
 ·exact base ha


theorem wanted_ok {ops : Array Oper} {o : Oper} {a : Act} {e : Env} {F : Fr} (hf : ∀ t, VR e (F t) (a.tmps.getD t Go.undef)) {j : Nat} {want : Bool} {y : Option Bool} {d : Nat} (hg : o.guard = some (j, want)) (hd : (ops[j]?).bind (·.dst) = some d)
  (hb : gdv (F d) = some y) : Region.wanted o (yielded ops a.tmps) = (y == some want) := by
 have hv := hf d
 have hy : yielded ops a.tmps j = y := by
  unfold yielded
  rw [hd]
  simp only [Option.bind_some]
  rw [Array.getD_eq_getD_getElem?] at hv
  cases hx : a.tmps[d]? with
  | none =>
   rw [hx] at hv; simp only [Option.getD_none] at hv
   generalize F d = z at hv hb
   simp only [gdv] at hb
   split at hb
   ·cases hv
   ·cases hb; rfl
   ·cases hb
  | some x =>
   rw [hx] at hv; simp only [Option.getD_some] at hv
   generalize F d = z at hv hb
   simp only [gdv] at hb
   split at hb
   ·cases hb; cases hv; rfl
   ·cases hb; cases hv; rfl
   ·cases hb
 simp only [Region.wanted, hg, hy]

/-- Operations one behind the other. -/
theorem aops_ok {W0 : World} {e0 : Env} {n0 N : Nat} {Q : Exit → Act → World → Prop} {K : Fr → St → Prop} (hK : ∀ F' σ', K F' σ' → ∀ a w, R W0 e0 n0 N F' σ' a w → Q .normal a w) (ops : Array Oper) : ∀ (is : List Nat) (os : List Oper) (ros : List RO), (∀ k : Nat, (is[k]?).bind (fun i => ops[i]?) = os[k]?) → is.length = os.length → os.mapM (erO P c N ops) = some ros →
  ∀ (F : Fr) (σ : St) (a : Act) (w : World), R W0 e0 n0 N F σ a w → aops P ros F σ K → wpOps P ops Q is a w
 | [], os, ros, hi, hl, h, F, σ, a, w, hr, ha => by
  have : os = [] := List.length_eq_zero_iff.1 (by simpa using hl.symm)
  subst this
  simp at h; subst h
  exact hK _ _ ha a w hr
 | i :: is, os, ros, hi, hl, h, F, σ, a, w, hr, ha => by
  cases os with
  | nil => simp at hl
  | cons o os =>
   obtain ⟨r, rs, h1, h2, rfl⟩ := mapM_cons' _ _ _ h
   have ho : ops[i]? = some o := by simpa using hi 0
   have ih := aops_ok hK ops is os rs (fun k => by simpa using hi (k + 1)) (by simpa using hl) h2
   obtain ⟨hn0, e, hle, hrel, hf, hN, hdf⟩ := hr
   unfold erO at h1
   obtain ⟨co, hco, h1⟩ := bind_some h1
   split at h1
   ·rename_i hdst
    have step : aopq P co F σ (fun v σ' => aops P rs (put F o.dst v) σ' K) → o.wp P a w (wpOps P ops Q is) Q := by
     intro hop
     refine opq_ok hco hop W0 e a w _ Q hrel (fun t _ => hf t) fun e' v' w' v σ' hk hle' hrel' hv => ?_
     obtain ⟨q1, q2, q3⟩ := tmps_put hN hdst (fun t => (hf t).mono hle') hv
     exact ih _ _ _ _ ⟨hn0, e', hle.trans hle', hrel', q1, q2, by rw [q3, hdf]⟩ hk
    simp only [wpOps, ho]
    split at h1
    ·rename_i hg
     cases h1
     have hw : Region.wanted o (yielded ops a.tmps) = true := by simp [Region.wanted, hg]
     rw [if_pos hw]
     exact .inl (step ha)
    ·rename_i j want hg
     obtain ⟨d, hd, h1⟩ := bind_some h1
     cases h1
     simp only [aops] at ha
     split at ha
     ·rename_i b hb
      have hw := wanted_ok hf hg hd (y := some b) (by rw [hb]; rfl)
      by_cases hbw : b = want
      ·subst hbw
       rw [if_pos rfl] at ha
       rw [if_pos (by rw [hw]; simp)]
       exact .inl (step ha)
      ·rw [if_neg hbw] at ha
       rw [if_neg (by rw [hw]; simpa using hbw)]
       obtain ⟨q1, q2, q3⟩ := tmps_put hN hdst hf (VR.raw (e := e) Go.undef)
       exact ih _ _ _ _ ⟨hn0, e, hle, hrel, q1, q2, by rw [q3, hdf]⟩ ha
     ·rename_i vs hb
      have hw := wanted_ok hf hg hd (y := none) (by rw [hb]; rfl)
      rw [if_neg (by rw [hw]; simp)]
      obtain ⟨q1, q2, q3⟩ := tmps_put hN hdst hf (VR.raw (e := e) Go.undef)
      exact ih _ _ _ _ ⟨hn0, e, hle, hrel, q1, q2, by rw [q3, hdf]⟩ ha
     ·exact ha.elim
   ·cases h1

end
def CO.pure : CO → Bool
 | .mv _ | .pk .. | .bd .. | .nc _ | .bin .. | .un .. | .cv .. | .mi .. | .mf .. | .fa .. | .fl .. | .ta .. | .ex .. | .ln .. | .mx .. => true
 | .bs own .. => !own
 | _ => false
def CO.eff : CO → Bool
 | .ld .. | .sc .. | .ia .. | .lk .. | .lm _ | .en _ => false
 | .call q .. | .callv q .. => !q
 | o => !o.pure

/-- Of an operation that asks nothing of the state: what it gives in one it gives in each. -/
theorem abin_det {op : BinOp} {tg : Nat} {x y : AV} {K : AV → Prop} (h : abin op tg x y K) : ∃ v, K v ∧ ∀ K2 : AV → Prop, K2 v → abin op tg x y K2 := by
 unfold abin at *
 split at h
 ·obtain ⟨rfl, h⟩ := h
  cases op <;> simp only at h <;> first
   | exact ⟨_, h, fun K2 h2 => ⟨rfl, h2⟩⟩
   | exact ⟨_, h.2, fun K2 h2 => ⟨rfl, h.1, h2⟩⟩
   | exact h.elim
 ·cases op <;> simp only at h <;> first
   | exact ⟨_, h, fun K2 h2 => h2⟩
   | exact ⟨_, h.2, fun K2 h2 => ⟨h.1, h2⟩⟩
   | exact h.elim
 ·obtain ⟨h0, h⟩ := h
  cases op <;> simp only at h <;> first
   | exact ⟨_, h, fun K2 h2 => ⟨h0, h2⟩⟩
   | exact h.elim
 ·obtain ⟨h0, h⟩ := h
  cases op <;> simp only at h <;> first
   | exact ⟨_, h, fun K2 h2 => ⟨h0, h2⟩⟩
   | exact h.elim
 ·obtain ⟨h0, h⟩ := h
  cases op <;> simp only at h <;> first
   | exact ⟨_, h, fun K2 h2 => ⟨h0, h2⟩⟩
   | exact h.elim
 ·obtain ⟨h0, h⟩ := h
  cases op <;> simp only at h <;> first
   | exact ⟨_, h, fun K2 h2 => ⟨h0, h2⟩⟩
   | exact h.elim
 ·obtain ⟨h0, h⟩ := h
  cases op <;> simp only at h <;> first
   | exact ⟨_, h, fun K2 h2 => ⟨h0, h2⟩⟩
   | exact h.elim
 ·obtain ⟨h0, h⟩ := h
  cases op <;> simp only at h <;> first
   | exact ⟨_, h, fun K2 h2 => ⟨h0, h2⟩⟩
   | exact h.elim
 ·obtain ⟨h0, h1, h⟩ := h
  cases op <;> simp only at h <;> first
   | exact ⟨_, h, fun K2 h2 => ⟨h0, h1, h2⟩⟩
   | exact h.elim
 ·obtain ⟨h0, h⟩ := h
  cases op <;> simp only at h <;> first
   | exact ⟨_, h, fun K2 h2 => ⟨h0, h2⟩⟩
   | exact h.elim
 ·exact h.elim

theorem aop_det {P : Program} {co : CO} {F : Fr} {σ : St} {K : AV → St → Prop} (hp : co.pure = true) (h : aop P co F σ K) : ∃ v, K v σ ∧ ∀ σ2 (K2 : AV → St → Prop), K2 v σ2 → aop P co F σ2 K2 := by
 cases co <;> simp only [CO.pure, Bool.not_eq_true', reduceCtorEq] at hp <;> simp only [aop] at h ⊢
 case mv x => exact ⟨_, h, fun σ2 K2 h2 => h2⟩
 case pk c a b =>
  split at h
  ·rename_i t ht
   cases t
   ·exact ⟨_, by simpa using h, fun σ2 K2 h2 => by simpa [ht] using h2⟩
   ·exact ⟨_, by simpa using h, fun σ2 K2 h2 => by simpa [ht] using h2⟩
  ·exact h.elim
 case bd z ps =>
  split at h
  ·rename_i cs hcs; exact ⟨_, h, fun σ2 K2 h2 => by simpa [hcs] using h2⟩
  ·exact h.elim
 case bs own sz z len ps =>
  split at h
  ·rename_i rows hrows
   subst hp
   rw [if_neg (by simp)] at h
   split at h
   ·rename_i hl; exact ⟨_, h, fun σ2 K2 h2 => by simpa [hrows, hl] using h2⟩
   ·rename_i hl; exact ⟨_, h, fun σ2 K2 h2 => by simpa [hrows, hl] using h2⟩
  ·exact h.elim
 case nc x =>
  split at h
  ·rename_i hx; exact ⟨_, h, fun σ2 K2 h2 => by simpa [hx] using h2⟩
  ·rename_i hx; exact ⟨_, h, fun σ2 K2 h2 => by simpa [hx] using h2⟩
  ·exact h.elim
 case bin op tg x y =>
  obtain ⟨v, h1, h2⟩ := abin_det h
  exact ⟨v, h1, fun σ2 K2 h3 => h2 (fun v => K2 v σ2) h3⟩
 case un op x =>
  split at h
  ·rename_i hx; exact ⟨_, h, fun σ2 K2 h2 => by simpa [hx] using h2⟩
  ·rename_i hx; exact ⟨_, h, fun σ2 K2 h2 => by simpa [hx] using h2⟩
  ·exact h.elim
 case cv k x =>
  split at h
  ·rename_i hx; exact ⟨_, h, fun σ2 K2 h2 => by simpa [hx] using h2⟩
  ·exact h.elim
 case mi t x => exact ⟨_, h, fun σ2 K2 h2 => h2⟩
 case mf f cs => exact ⟨_, h, fun σ2 K2 h2 => h2⟩
 case fa off x =>
  split at h
  ·rename_i hx; exact ⟨_, h, fun σ2 K2 h2 => by simpa [hx] using h2⟩
  ·rename_i hx; exact ⟨_, h.2, fun σ2 K2 h2 => by simpa [hx] using ⟨h.1, h2⟩⟩
  ·exact h.elim
 case fl off g x =>
  split at h
  ·rename_i hx; exact ⟨_, h.2, fun σ2 K2 h2 => by simpa [hx] using ⟨h.1, h2⟩⟩
  ·exact h.elim
 case ta x t ok z =>
  split at h
  ·rename_i u v hx
   split at h
   ·rename_i hu
    split at h
    ·rename_i hok; exact ⟨_, h, fun σ2 K2 h2 => by simpa [hx, hu, hok] using h2⟩
    ·rename_i hok; exact ⟨_, h, fun σ2 K2 h2 => by simpa [hx, hu, hok] using h2⟩
   ·rename_i hu; exact ⟨_, h.2, fun σ2 K2 h2 => by simpa [hx, hu] using ⟨h.1, h2⟩⟩
  ·rename_i hx; exact ⟨_, h.2, fun σ2 K2 h2 => by simpa [hx] using ⟨h.1, h2⟩⟩
  ·exact h.elim
 case ex x i =>
  split at h
  ·rename_i vs hx; exact ⟨_, h.2, fun σ2 K2 h2 => ⟨h.1, h2⟩⟩
  ·exact h.elim
 case ln str x =>
  split at h
  ·rename_i hx; exact ⟨_, h.2, fun σ2 K2 h2 => by simpa [hx] using ⟨h.1, h2⟩⟩
  ·rename_i hx; exact ⟨_, h.2, fun σ2 K2 h2 => by simpa [hx] using ⟨h.1, h2⟩⟩
  ·rename_i hx; exact ⟨_, h.2, fun σ2 K2 h2 => by simpa [hx] using ⟨h.1, h2⟩⟩
  ·rename_i hx; exact ⟨_, h.2, fun σ2 K2 h2 => by simpa [hx] using ⟨h.1, h2⟩⟩
  ·rename_i hx; exact ⟨_, h.2, fun σ2 K2 h2 => by simpa [hx] using ⟨h.1, h2⟩⟩
  ·exact h.elim
 case mx m x y =>
  split at h
  ·rename_i hx hy; exact ⟨_, h.2, fun σ2 K2 h2 => ⟨h.1, h2⟩⟩
  ·exact h.elim


/-- What was done at one place: the frame and the state ahead of it, what it gave, the state behind it, whether it was done at all. -/
structure Tr where
 F : Fr
 s : St
 v : AV
 s' : St
 run : Bool

/-- A read that may come before or behind: at another state it gives the same. -/
def again (P : Program) (o : CO) (F : Fr) (v : AV) (σ : St) : Prop := o.pure = true ∨ aop P o F σ fun v' s' => v' = v ∧ s' = σ

def chk (P : Program) (before : List Nat) (o : CO) (F : Fr) (v : AV) (σ' : St) : List (Nat × CO × Tr) → Prop
 | [] => True
 | (j, o', t) :: hs => (before.contains j = true ∨ (if o.eff = true then (o'.eff = true ∨ again P o' t.F t.v σ') else (o'.eff = false ∨ again P o F v t.s))) ∧ chk P before o F v σ' hs

theorem chk_mem {P : Program} {before : List Nat} {o : CO} {F : Fr} {v : AV} {σ' : St} : ∀ {hs : List (Nat × CO × Tr)}, chk P before o F v σ' hs → ∀ j o' t, (j, o', t) ∈ hs → j ∈ before ∨ (o.eff = true → o'.eff = false → again P o' t.F t.v σ') ∧ (o.eff = false → o'.eff = true → again P o F v t.s)
 | (j0, o0, t0) :: hs, h, j, o', t, hm => by
  rcases List.mem_cons.1 hm with he | hm
  ·cases he
   rcases h.1 with h1 | h1
   ·exact .inl (by simpa using h1)
   ·refine .inr ⟨fun he hne => ?_, fun he hne => ?_⟩
    ·rw [if_pos he] at h1
     rcases h1 with h1 | h1
     ·rw [hne] at h1; cases h1
     ·exact h1
    ·rw [if_neg (by rw [he]; simp)] at h1
     rcases h1 with h1 | h1
     ·rw [hne] at h1; cases h1
     ·exact h1
  ·exact chk_mem h.2 j o' t hm

def adr (P : Program) (tbl : List (List Nat)) : Nat → List (Nat × CO × Tr) → List RO → Fr → St → (Fr → St → Prop) → Prop
 | _, _, [], F, σ, K => K F σ
 | i, hist, ⟨d, none, o⟩ :: os, F, σ, K => aop P o F σ fun v σ' => (o.eff = true ∨ σ' = σ) ∧ chk P (tbl.getD i []) o F v σ' hist ∧ adr P tbl (i + 1) (if o.pure = true then hist else (i, o, ⟨F, σ, v, σ', true⟩) :: hist) os (put F d v) σ' K
 | i, hist, ⟨d, some (t, want), o⟩ :: os, F, σ, K => match F t with
  | .bool b => if b = want then aop P o F σ fun v σ' => (o.eff = true ∨ σ' = σ) ∧ chk P (tbl.getD i []) o F v σ' hist ∧ adr P tbl (i + 1) (if o.pure = true then hist else (i, o, ⟨F, σ, v, σ', true⟩) :: hist) os (put F d v) σ' K
   else adr P tbl (i + 1) hist os (put F d (.raw (.tuple #[]))) σ K
  | .raw (.tuple _) => adr P tbl (i + 1) hist os (put F d (.raw (.tuple #[]))) σ K
  | _ => False

section
variable {P : Program} {c : Cfg} {N : Nat} {ops : Array Oper} {ros : List RO} {tbl : List (List Nat)}

/-- 'q': one whose answer is left open. -/
def Good (P : Program) (ops : Array Oper) (ros : List RO) (tbl : List (List Nat)) (q : Nat) (L : List Tr) (k : Nat) : Prop :=
 ∃ r t t', ros[k]? = some r ∧ L[k]? = some t ∧ L[k + 1]? = some t' ∧ t'.F = put t.F r.dst t.v ∧ t'.s = t.s' ∧
  (t.run = true → (r.op.eff = true ∨ t.s' = t.s) ∧ (k ≠ q → ∀ o, ops[k]? = some o → OpT P o t.F t.s t.v t.s' ∧ (r.op.pure = true → ∀ σ, OpT P o t.F σ t.v σ))) ∧ (t.run = false → t.v = .raw (.tuple #[]) ∧ t.s' = t.s) ∧
  (r.g = none → t.run = true) ∧ (∀ d want, r.g = some (d, want) → ∃ y, gdv (t.F d) = some y ∧ (t.run = true ↔ y = some want)) ∧
  ∀ j tj rj, j < k → L[j]? = some tj → ros[j]? = some rj → t.run = true → tj.run = true → j ∈ tbl.getD k [] ∨
   ((r.op.eff = true → rj.op.eff = false → ∀ oj, ops[j]? = some oj → OpT P oj tj.F t.s' tj.v t.s') ∧ (r.op.eff = false → rj.op.eff = true → ∀ o, ops[k]? = some o → OpT P o t.F tj.s t.v tj.s))

theorem ero_op {o : Oper} {r : RO} (h : erO P c N ops o = some r) : er P c o = some r.op ∧ r.dst = o.dst ∧ o.dst.all (· < N) = true ∧ (o.guard = none → r.g = none) ∧
  (∀ j want, o.guard = some (j, want) → ∃ d, (ops[j]?).bind (·.dst) = some d ∧ r.g = some (d, want)) := by
 unfold erO at h
 obtain ⟨co, hco, h1⟩ := bind_some h
 split at h1
 ·rename_i hdst
  split at h1
  ·rename_i hg; cases h1; exact ⟨hco, rfl, hdst, fun _ => rfl, fun j w hh => by rw [hg] at hh; cases hh⟩
  ·rename_i j want hg
   obtain ⟨d, hd, h1⟩ := bind_some h1
   cases h1
   exact ⟨hco, rfl, hdst, fun hh => (by rw [hg] at hh; cases hh), fun j' w' hh => by rw [hg] at hh; cases hh; exact ⟨d, hd, rfl⟩⟩
 ·cases h1

theorem mapM_get {α β : Type} {f : α → Option β} : ∀ {xs : List α} {ys : List β}, xs.mapM f = some ys → ∀ i : Nat, (∀ y, ys[i]? = some y → ∃ x, xs[i]? = some x ∧ f x = some y) ∧ ∀ x, xs[i]? = some x → ∃ y, ys[i]? = some y ∧ f x = some y
 | [], ys, h, i => by simp at h; subst h; simp
 | x :: xs, ys, h, i => by
  obtain ⟨y, ys', h1, h2, rfl⟩ := mapM_cons' _ _ _ h
  cases i with
  | zero => simp [h1]
  | succ i => simpa using mapM_get h2 i

theorem again_ok {o : Oper} {co : CO} {F : Fr} {v : AV} {σ : St} (h : er P c o = some co) (hp : co.pure = true → ∀ σ, OpT P o F σ v σ) (ha : again P co F v σ) : OpT P o F σ v σ := by
 rcases ha with ha | ha
 ·exact hp ha σ
 ·obtain ⟨v', s', h1, rfl, rfl⟩ := op_ok h ha
  exact h1

theorem pure_eff {co : CO} (h : co.pure = true) : co.eff = false := by
 cases co <;> simp [CO.pure, CO.eff] at h ⊢
 exact h

theorem adr_good (q : Nat) (hm : ∀ (i : Nat) r, ros[i]? = some r → ∃ o, ops.toList[i]? = some o ∧ erO P c N ops o = some r) {K : Fr → St → Prop} : ∀ (os : List RO) (i : Nat) (hist : List (Nat × CO × Tr)) (F : Fr) (σ : St) (pre : List Tr), ros.drop i = os → i ≤ ros.length → pre.length = i →
  (∀ (j : Nat) (tj : Tr) (rj : RO), pre[j]? = some tj → ros[j]? = some rj → tj.run = true → rj.op.pure = false → (j, rj.op, tj) ∈ hist) →
  (∀ (j : Nat) (tj : Tr) (rj : RO) (oj : Oper), pre[j]? = some tj → ros[j]? = some rj → ops[j]? = some oj → tj.run = true → rj.op.pure = true → ∀ σ, OpT P oj tj.F σ tj.v σ) →
  adr P tbl i hist os F σ K → ∃ t0 post tl, t0.F = F ∧ t0.s = σ ∧ post.length = os.length ∧ (∀ k, i ≤ k → k < ros.length → Good P ops ros tbl q (pre ++ t0 :: post) k) ∧
   (pre ++ t0 :: post)[ros.length]? = some tl ∧ K tl.F tl.s := by
 intro os
 induction os with
 | nil =>
  intro i hist F σ pre hd hi hp _ _ ha
  have he : i = ros.length := by
   have := congrArg List.length hd
   simp at this; omega
  refine ⟨⟨F, σ, .undef, σ, false⟩, [], ⟨F, σ, .undef, σ, false⟩, rfl, rfl, rfl, fun k h1 h2 => by omega, ?_, ha⟩
  rw [List.getElem?_append_right (by omega)]
  have : ros.length - pre.length = 0 := by omega
  rw [this]; rfl
 | cons r os ih =>
  intro i hist F σ pre hd hi hp hH hU ha
  have hri : ros[i]? = some r := by
   have := congrArg (fun l => l[0]?) hd
   simpa using this
  have hilt : i < ros.length := (List.getElem?_eq_some_iff.1 hri).1
  have hd' : ros.drop (i + 1) = os := by
   rw [← List.drop_drop, hd]; rfl
  obtain ⟨o, ho, hero⟩ := hm i r hri
  have hops : ops[i]? = some o := by simpa using ho
  obtain ⟨her, _⟩ := ero_op hero
  -- one place more
  have step : ∀ (v : AV) (σ' : St) (run : Bool), (run = true → (r.op.eff = true ∨ σ' = σ) ∧ OpT P o F σ v σ' ∧ (r.op.pure = true → ∀ σ, OpT P o F σ v σ) ∧ chk P (tbl.getD i []) r.op F v σ' hist) →
    (run = false → v = .raw (.tuple #[]) ∧ σ' = σ) → (r.g = none → run = true) → (∀ d want, r.g = some (d, want) → ∃ y, gdv (F d) = some y ∧ (run = true ↔ y = some want)) →
    adr P tbl (i + 1) (if run = true ∧ r.op.pure = false then (i, r.op, ⟨F, σ, v, σ', run⟩) :: hist else hist) os (put F r.dst v) σ' K →
    ∃ t0 post tl, t0.F = F ∧ t0.s = σ ∧ post.length = (r :: os).length ∧ (∀ k, i ≤ k → k < ros.length → Good P ops ros tbl q (pre ++ t0 :: post) k) ∧ (pre ++ t0 :: post)[ros.length]? = some tl ∧ K tl.F tl.s := by
   intro v σ' run h1 h2 h3 h4 ha
   obtain ⟨t0, post, tl, q1, q2, q3, q4, q5, q6⟩ := ih (i + 1) _ _ _ (pre ++ [⟨F, σ, v, σ', run⟩]) hd' (by omega) (by simp [hp]) (by
     intro j tj rj hj hrj hrun hpu
     by_cases hji : j < i
     ·rw [List.getElem?_append_left (by omega)] at hj
      have := hH j tj rj hj hrj hrun hpu
      split
      ·exact List.mem_cons_of_mem _ this
      ·exact this
     ·have hje : j = i := by
       have := (List.getElem?_eq_some_iff.1 hj).1
       simp at this; omega
      subst hje
      rw [List.getElem?_append_right (by omega), hp, Nat.sub_self] at hj
      simp at hj; subst hj
      rw [hri] at hrj; cases hrj
      rw [if_pos ⟨hrun, hpu⟩]
      exact List.mem_cons_self) (by
     intro j tj rj oj hj hrj hoj hrun hpu
     by_cases hji : j < i
     ·rw [List.getElem?_append_left (by omega)] at hj
      exact hU j tj rj oj hj hrj hoj hrun hpu
     ·have hje : j = i := by
       have := (List.getElem?_eq_some_iff.1 hj).1
       simp at this; omega
      subst hje
      rw [List.getElem?_append_right (by omega), hp, Nat.sub_self] at hj
      simp at hj; subst hj
      rw [hri] at hrj; cases hrj
      rw [hops] at hoj; cases hoj
      exact (h1 hrun).2.2.1 hpu) ha
   have hL : pre ++ [⟨F, σ, v, σ', run⟩] ++ t0 :: post = pre ++ (⟨F, σ, v, σ', run⟩ :: t0 :: post) := by simp
   rw [hL] at q4 q5
   refine ⟨⟨F, σ, v, σ', run⟩, t0 :: post, tl, rfl, rfl, by simp [q3], fun k hk1 hk2 => ?_, q5, q6⟩
   by_cases hki : i + 1 ≤ k
   ·exact q4 k hki hk2
   ·obtain rfl : k = i := by omega
    refine ⟨r, ⟨F, σ, v, σ', run⟩, t0, hri, ?_, ?_, q1, q2, fun hr => ⟨(h1 hr).1, fun _ o' ho' => ?_⟩, h2, h3, h4, fun j tj rj hj hLj hrj hr hrunj => ?_⟩
    ·rw [List.getElem?_append_right (by omega), hp, Nat.sub_self]; rfl
    ·rw [List.getElem?_append_right (by omega), hp, show k + 1 - k = 1 by omega]; rfl
    ·rw [hops] at ho'; cases ho'; exact ⟨(h1 hr).2.1, (h1 hr).2.2.1⟩
    ·rw [List.getElem?_append_left (by omega)] at hLj
     obtain ⟨_, _, hpur, hc⟩ := h1 hr
     cases hpj : rj.op.pure with
     | true =>
      refine .inr ⟨fun _ _ oj hoj => hU j tj rj oj hLj hrj hoj hrunj hpj σ', fun _ he => ?_⟩
      rw [pure_eff hpj] at he; cases he
     | false =>
      rcases chk_mem hc j rj.op tj (hH j tj rj hLj hrj hrunj hpj) with hb | ⟨hA, hB⟩
      ·exact .inl hb
      ·refine .inr ⟨fun he hne oj hoj => ?_, fun he hne o' ho' => ?_⟩
       ·obtain ⟨oj', hoj', heroj⟩ := hm j rj hrj
        have : oj' = oj := by
         have h5 : ops[j]? = some oj' := by simpa using hoj'
         rw [hoj] at h5; cases h5; rfl
        subst this
        exact again_ok (ero_op heroj).1 (fun hh => by rw [hpj] at hh; cases hh) (hA he hne)
       ·rw [hops] at ho'; cases ho'
        exact again_ok her hpur (hB he hne)
  have run : ∀ (hg : (r.g = none → True) ∧ (∀ d want, r.g = some (d, want) → ∃ b, F d = .bool b ∧ b = want)),
    aop P r.op F σ (fun v σ' => (r.op.eff = true ∨ σ' = σ) ∧ chk P (tbl.getD i []) r.op F v σ' hist ∧ adr P tbl (i + 1) (if r.op.pure = true then hist else (i, r.op, ⟨F, σ, v, σ', true⟩) :: hist) os (put F r.dst v) σ' K) →
    ∃ t0 post tl, t0.F = F ∧ t0.s = σ ∧ post.length = (r :: os).length ∧ (∀ k, i ≤ k → k < ros.length → Good P ops ros tbl q (pre ++ t0 :: post) k) ∧ (pre ++ t0 :: post)[ros.length]? = some tl ∧ K tl.F tl.s := by
   intro hg hop
   have hgd : ∀ d want, r.g = some (d, want) → ∃ y, gdv (F d) = some y ∧ (true = true ↔ y = some want) := by
    intro d want hh
    obtain ⟨b, hb1, hb2⟩ := hg.2 d want hh
    exact ⟨some b, by rw [hb1]; rfl, by simp [hb2]⟩
   cases hpu : r.op.pure with
   | true =>
    obtain ⟨v, ⟨k1, k2, k3⟩, htr⟩ := aop_det hpu hop
    have hall : ∀ σ, OpT P o F σ v σ := by
     intro σ2
     obtain ⟨v', s', h1, rfl, rfl⟩ := op_ok her (htr σ2 (fun v' s' => v' = v ∧ s' = σ2) ⟨rfl, rfl⟩)
     exact h1
    refine step v σ true (fun _ => ⟨k1, hall σ, fun _ => hall, k2⟩) (fun h => by cases h) (fun _ => rfl) hgd ?_
    rw [if_pos hpu] at k3
    rw [if_neg (by rw [hpu]; simp)]
    exact k3
   | false =>
    obtain ⟨v, σ', h1, k1, k2, k3⟩ := op_ok her hop
    refine step v σ' true (fun _ => ⟨k1, h1, fun hh => (by rw [hpu] at hh; cases hh), k2⟩) (fun h => by cases h) (fun _ => rfl) hgd ?_
    rw [if_neg (by rw [hpu]; simp)] at k3
    rw [if_pos ⟨rfl, hpu⟩]
    exact k3
  obtain ⟨d, g, op⟩ := r
  cases g with
  | none => exact run ⟨fun _ => trivial, fun d want h => by cases h⟩ ha
  | some tw =>
   obtain ⟨t, want⟩ := tw
   simp only [adr] at ha
   split at ha
   ·rename_i b hb
    split at ha
    ·rename_i hbw
     exact run ⟨fun _ => trivial, fun d' w' h => by cases h; exact ⟨b, hb, hbw⟩⟩ ha
    ·rename_i hbw
     refine step (.raw (.tuple #[])) σ false (fun h => by cases h) (fun _ => ⟨rfl, rfl⟩) (fun h => by cases h) (fun d' w' h => by cases h; exact ⟨some b, by rw [hb]; rfl, by simp [hbw]⟩) ?_
     rw [if_neg (by simp)]
     exact ha
   ·rename_i vs hb
    refine step (.raw (.tuple #[])) σ false (fun h => by cases h) (fun _ => ⟨rfl, rfl⟩) (fun h => by cases h) (fun d' w' h => by cases h; exact ⟨none, by rw [hb]; rfl, by simp⟩) ?_
    rw [if_neg (by simp)]
    exact ha
   ·exact ha.elim
end


/-- The simple case: whatever turns something stands in a fixed order to whatever reads. -/
def aopd (P : Program) : List RO → Fr → St → (Fr → St → Prop) → Prop
 | [], F, σ, K => K F σ
 | ⟨d, none, o⟩ :: os, F, σ, K => aop P o F σ fun v σ' => aopd P os (put F d v) σ' K
 | ⟨d, some (t, want), o⟩ :: os, F, σ, K => match F t with
  | .bool b => if b = want then aop P o F σ fun v σ' => aopd P os (put F d v) σ' K else aopd P os (put F d (.raw (.tuple #[]))) σ K
  | .raw (.tuple _) => aopd P os (put F d (.raw (.tuple #[]))) σ K
  | _ => False

theorem aop_quiet {P : Program} {co : CO} {F : Fr} {σ : St} {K : AV → St → Prop} (he : co.eff = false) (h : aop P co F σ K) : aop P co F σ fun v σ' => σ' = σ ∧ K v σ' := by
 cases hp : co.pure with
 | true =>
  obtain ⟨v, h1, h2⟩ := aop_det hp h
  exact h2 σ _ ⟨rfl, h1⟩
 | false =>
  cases co <;> simp only [CO.pure, CO.eff, Bool.not_eq_true', Bool.not_eq_false', reduceCtorEq, Bool.not_not] at hp he <;> simp only [aop] at h ⊢
  case bs => rw [hp] at he; cases he
  case ld g x =>
   split at h
   ·split at h
    ·exact ⟨h.1, h.2.1, trivial, h.2.2⟩
    ·exact h.elim
   ·exact ⟨h.1, trivial, h.2⟩
   ·exact h.elim
  case sc sz x lo hi mx =>
   have bnd : ∀ (n : Nat) (K K2 : Nat → Nat → Bool → Prop), (∀ l h m, K l h m → K2 l h m) → bounds F n lo hi mx K → bounds F n lo hi mx K2 := by
    intro n K K2 hk hb
    simp only [bounds] at hb ⊢
    split at hb <;> first
     | exact hk _ _ _ hb
     | exact ⟨hb.1, hb.2.1, hk _ _ _ hb.2.2⟩
     | exact ⟨hb.1, hb.2.1, hb.2.2.1, hk _ _ _ hb.2.2.2⟩
     | exact ⟨hb.1, hb.2.1, hb.2.2.1, hb.2.2.2.1, hk _ _ _ hb.2.2.2.2⟩
     | exact hb.elim
   split at h
   ·exact ⟨h.1, h.2.1, bnd _ _ _ (fun _ _ _ hh => ⟨trivial, hh⟩) h.2.2⟩
   ·exact ⟨h.1, bnd _ _ _ (fun _ _ _ hh => ⟨trivial, hh⟩) h.2⟩
   ·exact ⟨h.1, h.2.1, bnd _ _ _ (fun _ _ _ hh => ⟨trivial, hh⟩) h.2.2⟩
   ·split at h
    ·exact ⟨h.1, h.2.1, bnd _ _ _ (fun _ _ _ hh => ⟨trivial, hh⟩) h.2.2⟩
    ·exact h.elim
   ·exact h.elim
  case ia sz x ix =>
   split at h
   ·exact ⟨h.1, h.2.1, h.2.2.1, trivial, h.2.2.2⟩
   ·split at h
    ·exact ⟨h.1, h.2.1, h.2.2.1, trivial, h.2.2.2⟩
    ·exact h.elim
   ·exact h.elim
  case lk ok kt z m k =>
   split at h
   ·split at h
    ·refine ⟨h.1, ?_⟩
     have h2 := h.2
     split at h2
     ·exact ⟨trivial, h2⟩
     ·exact ⟨trivial, h2⟩
    ·exact h.elim
   ·exact h.elim
  case lm m =>
   split at h
   ·split at h
    ·exact ⟨trivial, h⟩
    ·exact h.elim
   ·exact h.elim
  case en x =>
   split at h
   ·split at h
    ·split at h
     ·exact ⟨h.1, h.2.1, trivial, h.2.2⟩
     ·exact h.elim
    ·exact h.elim
   ·exact h.elim
  case call q f xs =>
   subst he
   rw [if_pos rfl] at h ⊢
   obtain ⟨v, h1, h2⟩ := h
   exact ⟨v, h1, trivial, h2⟩
  case callv q x xs =>
   subst he
   split at h
   ·rw [if_pos rfl] at h ⊢
    obtain ⟨v, h1, h2⟩ := h
    exact ⟨v, h1, trivial, h2⟩
   ·exact h.elim

theorem aop_mono' {P : Program} {co : CO} {F : Fr} {σ : St} {K K2 : AV → St → Prop} (hk : ∀ v s, K v s → K2 v s) (h : aop P co F σ K) : aop P co F σ K2 := by
 cases hp : co.pure with
 | true =>
  obtain ⟨v, h1, h2⟩ := aop_det hp h
  exact h2 σ _ (hk _ _ h1)
 | false =>
  cases co <;> simp only [CO.pure, Bool.not_eq_true', Bool.not_eq_false', reduceCtorEq, Bool.not_not] at hp <;> simp only [aop] at h ⊢
  case al z => exact hk _ _ h
  case bx x => exact ⟨h.1, hk _ _ h.2⟩
  case bs own sz z len ps =>
   split at h
   ·subst hp
    rw [if_pos rfl] at h ⊢
    exact hk _ _ h
   ·exact h.elim
  case ld g x =>
   split at h
   ·split at h
    ·exact ⟨h.1, h.2.1, hk _ _ h.2.2⟩
    ·exact h.elim
   ·exact ⟨h.1, hk _ _ h.2⟩
   ·exact h.elim
  case st n a x =>
   split at h
   ·split at h
    ·exact ⟨h.1, h.2.1, h.2.2.1, h.2.2.2.1, hk _ _ h.2.2.2.2⟩
    ·exact h.elim
   ·exact h.elim
  case mm => exact hk _ _ h
  case lk ok kt z m k =>
   split at h
   ·split at h
    ·refine ⟨h.1, ?_⟩
     have h2 := h.2
     split at h2
     ·exact hk _ _ h2
     ·exact hk _ _ h2
    ·exact h.elim
   ·exact h.elim
  case mu kt m k v =>
   split at h
   ·split at h
    ·refine ⟨h.1, ?_⟩
     have h2 := h.2
     split at h2
     ·exact hk _ _ h2
     ·exact hk _ _ h2
    ·exact h.elim
   ·exact h.elim
  case lm m =>
   split at h
   ·split at h
    ·exact hk _ _ h
    ·exact h.elim
   ·exact h.elim
  case rg m =>
   split at h
   ·split at h
    ·exact hk _ _ h
    ·exact h.elim
   ·exact h.elim
  case en x =>
   split at h
   ·split at h
    ·split at h
     ·exact ⟨h.1, h.2.1, hk _ _ h.2.2⟩
     ·exact h.elim
    ·exact h.elim
   ·exact h.elim
  case ms sz bytes z l c =>
   split at h
   ·exact ⟨h.1, h.2.1, h.2.2.1, h.2.2.2.1, h.2.2.2.2.1, hk _ _ h.2.2.2.2.2⟩
   ·exact h.elim
  case sc sz x lo hi mx =>
   have bnd : ∀ (n : Nat) (K K2 : Nat → Nat → Bool → Prop), (∀ l h m, K l h m → K2 l h m) → bounds F n lo hi mx K → bounds F n lo hi mx K2 := by
    intro n K K2 hk hb
    simp only [bounds] at hb ⊢
    split at hb <;> first
     | exact hk _ _ _ hb
     | exact ⟨hb.1, hb.2.1, hk _ _ _ hb.2.2⟩
     | exact ⟨hb.1, hb.2.1, hb.2.2.1, hk _ _ _ hb.2.2.2⟩
     | exact ⟨hb.1, hb.2.1, hb.2.2.1, hb.2.2.2.1, hk _ _ _ hb.2.2.2.2⟩
     | exact hb.elim
   split at h
   ·exact ⟨h.1, h.2.1, bnd _ _ _ (fun _ _ _ hh => hk _ _ hh) h.2.2⟩
   ·exact ⟨h.1, bnd _ _ _ (fun _ _ _ hh => hk _ _ hh) h.2⟩
   ·exact ⟨h.1, h.2.1, bnd _ _ _ (fun _ _ _ hh => hk _ _ hh) h.2.2⟩
   ·split at h
    ·exact ⟨h.1, h.2.1, bnd _ _ _ (fun _ _ _ hh => hk _ _ hh) h.2.2⟩
    ·exact h.elim
   ·exact h.elim
  case ia sz x ix =>
   split at h
   ·exact ⟨h.1, h.2.1, h.2.2.1, hk _ _ h.2.2.2⟩
   ·split at h
    ·exact ⟨h.1, h.2.1, h.2.2.1, hk _ _ h.2.2.2⟩
    ·exact h.elim
   ·exact h.elim
  case ap sz bytes x y =>
   split at h
   ·exact h.elim
   ·split at h
    ·exact ⟨h.1, h.2.1, hk _ _ h.2.2⟩
    ·exact ⟨h.1, h.2.1, h.2.2.1, h.2.2.2.1, hk _ _ h.2.2.2.2⟩
    ·split at h
     ·exact ⟨h.1, h.2.1, h.2.2.1, h.2.2.2.1, hk _ _ h.2.2.2.2⟩
     ·exact h.elim
    ·exact h.elim
  case call q f xs =>
   split at h
   ·rename_i hq; obtain ⟨v, h1, h2⟩ := h; simp only [if_pos hq]; exact ⟨v, h1, hk _ _ h2⟩
   ·rename_i hq; obtain ⟨v, s, h1, h2⟩ := h; simp only [if_neg hq]; exact ⟨v, s, h1, hk _ _ h2⟩
  case callv q x xs =>
   split at h
   ·split at h
    ·rename_i hq; obtain ⟨v, h1, h2⟩ := h; rw [if_pos hq]; exact ⟨v, h1, hk _ _ h2⟩
    ·rename_i hq; obtain ⟨v, s, h1, h2⟩ := h; rw [if_neg hq]; exact ⟨v, s, h1, hk _ _ h2⟩
   ·exact h.elim

def drsOk (ros : List RO) (tbl : List (List Nat)) : Bool :=
 (List.range ros.length).all fun i => (List.range i).all fun j => match ros[i]?, ros[j]? with
  | some a, some b => !(a.op.eff && !b.op.eff && !b.op.pure || !a.op.eff && !a.op.pure && b.op.eff) || (tbl.getD i []).contains j
  | _, _ => true

theorem drs_spec {ros : List RO} {tbl : List (List Nat)} (h : drsOk ros tbl = true) {i j : Nat} {a b : RO} (ha : ros[i]? = some a) (hb : ros[j]? = some b) (hlt : j < i) :
  (tbl.getD i []).contains j = true ∨ (a.op.eff = true → b.op.eff = true ∨ b.op.pure = true) ∧ (a.op.eff = false → b.op.eff = false ∨ a.op.pure = true) := by
 have hi : i < ros.length := (List.getElem?_eq_some_iff.1 ha).1
 simp only [drsOk, List.all_eq_true, List.mem_range] at h
 have := h i hi j hlt
 simp only [ha, hb, Bool.or_eq_true, Bool.not_eq_true'] at this
 rcases this with h1 | h1
 ·refine .inr ⟨fun h2 => ?_, fun h2 => ?_⟩ <;> cases h3 : b.op.eff <;> cases h4 : b.op.pure <;> cases h5 : a.op.pure <;> simp [h2, h3, h4, h5] at h1 ⊢
 ·exact .inl h1

theorem aopd_adr {P : Program} {ros : List RO} {tbl : List (List Nat)} (h : drsOk ros tbl = true) {K : Fr → St → Prop} : ∀ (os : List RO) (i : Nat) (hist : List (Nat × CO × Tr)) (F : Fr) (σ : St), ros.drop i = os →
  (∀ j o t, (j, o, t) ∈ hist → j < i ∧ ∃ r, ros[j]? = some r ∧ r.op = o) → aopd P os F σ K → adr P tbl i hist os F σ K := by
 intro os
 induction os with
 | nil => intro i hist F σ _ _ ha; exact ha
 | cons r os ih =>
  intro i hist F σ hd hh ha
  have hri : ros[i]? = some r := by
   have := congrArg (fun l => l[0]?) hd
   simpa using this
  have hd' : ros.drop (i + 1) = os := by rw [← List.drop_drop, hd]; rfl
  have hchk : ∀ (v : AV) (σ' : St) (l : List (Nat × CO × Tr)), (∀ j o t, (j, o, t) ∈ l → j < i ∧ ∃ r, ros[j]? = some r ∧ r.op = o) → chk P (tbl.getD i []) r.op F v σ' l := by
   intro v σ' l
   induction l with
   | nil => exact fun _ => trivial
   | cons x l ihl =>
    obtain ⟨j, o', t⟩ := x
    intro hl
    obtain ⟨hji, r', hr', rfl⟩ := hl j o' t List.mem_cons_self
    refine ⟨?_, ihl fun j o t hm => hl j o t (List.mem_cons_of_mem _ hm)⟩
    rcases drs_spec h hri hr' hji with h1 | ⟨h1, h2⟩
    ·exact .inl h1
    ·refine .inr ?_
     cases he : r.op.eff with
     | true => rw [if_pos rfl]; exact (h1 he).imp id .inl
     | false => rw [if_neg (by simp)]; exact (h2 he).imp id .inl
  have one : ∀ (d : Option Nat), r.dst = d → aop P r.op F σ (fun v σ' => aopd P os (put F d v) σ' K) →
    aop P r.op F σ fun v σ' => (r.op.eff = true ∨ σ' = σ) ∧ chk P (tbl.getD i []) r.op F v σ' hist ∧ adr P tbl (i + 1) (if r.op.pure = true then hist else (i, r.op, ⟨F, σ, v, σ', true⟩) :: hist) os (put F d v) σ' K := by
   intro d hdd hop
   have fin : ∀ (v : AV) (σ' : St), aopd P os (put F d v) σ' K → adr P tbl (i + 1) (if r.op.pure = true then hist else (i, r.op, ⟨F, σ, v, σ', true⟩) :: hist) os (put F d v) σ' K := by
    intro v σ' hk
    refine ih _ _ _ _ hd' (fun j o t hm => ?_) hk
    split at hm
    ·obtain ⟨a1, a2⟩ := hh j o t hm; exact ⟨by omega, a2⟩
    ·rcases List.mem_cons.1 hm with he | hm
     ·cases he; exact ⟨by omega, r, hri, rfl⟩
     ·obtain ⟨a1, a2⟩ := hh j o t hm; exact ⟨by omega, a2⟩
   cases he : r.op.eff with
   | true => exact aop_mono' (fun v s hk => ⟨.inl rfl, hchk v s hist hh, fin v s hk⟩) hop
   | false => exact aop_mono' (fun v s ⟨hs, hk⟩ => ⟨.inr hs, hchk v s hist hh, fin v s hk⟩) (aop_quiet he hop)
  obtain ⟨d, g, op⟩ := r
  cases g with
  | none => exact one d rfl ha
  | some tw =>
   obtain ⟨t, want⟩ := tw
   simp only [aopd, adr] at ha ⊢
   split at ha
   ·rename_i b hb
    split at ha
    ·rename_i hbw; rw [if_pos hbw]; exact one d rfl ha
    ·rename_i hbw
     rw [if_neg hbw]
     refine ih _ _ _ _ hd' (fun j o t hm => ?_) ha
     obtain ⟨a1, a2⟩ := hh j o t hm; exact ⟨by omega, a2⟩
   ·refine ih _ _ _ _ hd' (fun j o t hm => ?_) ha
    obtain ⟨a1, a2⟩ := hh j o t hm; exact ⟨by omega, a2⟩
   ·exact ha.elim

def aft (o : Oper) : List Nat := (o.after.toList.filter (Region.binds .any ·)).map (·.on)
def tblOk (ops : Array Oper) (tbl : List (List Nat)) : Bool :=
 (List.range ops.size).all fun i => match ops[i]? with
  | none => false
  | some o => (aft o).all (· < i) && (tbl.getD i []).all fun j => (aft o).contains j || (aft o).any fun m => (tbl.getD m []).contains j
def tmpsOk (ops : Array Oper) (tbl : List (List Nat)) : Bool :=
 (List.range ops.size).all fun j => match (ops[j]?).bind (·.dst) with
  | none => true
  | some t => (List.range ops.size).all fun i => i == j || (match ops[i]? with
   | none => true
   | some o => !((o.looksAt ops).contains t || o.dst == some t)) || (tbl.getD i []).contains j || (tbl.getD j []).contains i
def effsOk (ros : List RO) (tbl : List (List Nat)) : Bool :=
 (List.range ros.length).all fun i => (List.range i).all fun j => match ros[i]?, ros[j]? with
  | some a, some b => !(a.op.eff && b.op.eff) || (tbl.getD i []).contains j
  | _, _ => true
def drOk (ops : Array Oper) (ros : List RO) (tbl : List (List Nat)) : Bool := tblOk ops tbl && tmpsOk ops tbl && effsOk ros tbl

instance : Inhabited Tr := ⟨⟨fun _ => .undef, ⟨0, fun _ => none⟩, .undef, ⟨0, fun _ => none⟩, false⟩⟩

section
variable {P : Program} {c : Cfg} {N : Nat} {ops : Array Oper} {ros : List RO} {tbl : List (List Nat)} {L : List Tr}

def effr (ros : List RO) (L : List Tr) (j : Nat) : Prop := ∃ r t, ros[j]? = some r ∧ L[j]? = some t ∧ r.op.eff = true ∧ t.run = true
def dstr (ros : List RO) (j : Nat) : Option Nat := (ros[j]?).bind (·.dst)

/-- The state behind those that are done. -/
def StOk (ros : List RO) (L : List Tr) (s0 : St) (S : Nat → Prop) (σ : St) : Prop :=
 (∃ j t, S j ∧ effr ros L j ∧ (∀ k, S k → effr ros L k → k ≤ j) ∧ L[j]? = some t ∧ σ = t.s') ∨ ((∀ k, S k → ¬ effr ros L k) ∧ σ = s0)
def FrOk (ros : List RO) (L : List Tr) (F0 : Fr) (S : Nat → Prop) (t : Nat) (x : AV) : Prop :=
 (∃ j q, S j ∧ dstr ros j = some t ∧ (∀ k, S k → dstr ros k = some t → k ≤ j) ∧ L[j]? = some q ∧ x = q.v) ∨ ((∀ k, S k → dstr ros k ≠ some t) ∧ x = F0 t)

theorem StOk.same {s0 : St} {S S' : Nat → Prop} {σ σ' : St} (h : StOk ros L s0 S σ) (h' : StOk ros L s0 S' σ') (he : ∀ k, effr ros L k → (S k ↔ S' k)) : σ = σ' := by
 rcases h with ⟨j, t, h1, h2, h3, h4, rfl⟩ | ⟨h1, rfl⟩ <;> rcases h' with ⟨j', t', g1, g2, g3, g4, rfl⟩ | ⟨g1, rfl⟩
 ·have a1 := h3 j' ((he j' g2).2 g1) g2
  have a2 := g3 j ((he j h2).1 h1) h2
  obtain rfl : j = j' := by omega
  rw [h4] at g4; cases g4; rfl
 ·exact absurd h2 (g1 j ((he j h2).1 h1))
 ·exact absurd g2 (h1 j' ((he j' g2).2 g1))
 ·rfl

theorem FrOk.same {F0 : Fr} {S S' : Nat → Prop} {t : Nat} {x x' : AV} (h : FrOk ros L F0 S t x) (h' : FrOk ros L F0 S' t x') (he : ∀ k, dstr ros k = some t → (S k ↔ S' k)) : x = x' := by
 rcases h with ⟨j, q, h1, h2, h3, h4, rfl⟩ | ⟨h1, rfl⟩ <;> rcases h' with ⟨j', q', g1, g2, g3, g4, rfl⟩ | ⟨g1, rfl⟩
 ·have a1 := h3 j' ((he j' g2).2 g1) g2
  have a2 := g3 j ((he j h2).1 h1) h2
  obtain rfl : j = j' := by omega
  rw [h4] at g4; cases g4; rfl
 ·exact absurd h2 (g1 j ((he j h2).1 h1))
 ·exact absurd g2 (h1 j' ((he j' g2).2 g1))
 ·rfl

/-- In the one order: the state and the frame ahead of each. -/
theorem canon {F0 : Fr} {s0 : St} {t0 : Tr} {q lim : Nat} (h0 : L[0]? = some t0) (hF : t0.F = F0) (hs : t0.s = s0) (hg : ∀ k, k < lim → Good P ops ros tbl q L k) : ∀ i, i ≤ lim → ∃ t, L[i]? = some t ∧ StOk ros L s0 (· < i) t.s ∧ ∀ d, FrOk ros L F0 (· < i) d (t.F d) := by
 intro i
 induction i with
 | zero => exact fun _ => ⟨t0, h0, .inr ⟨fun k hk => absurd hk (Nat.not_lt_zero _), hs⟩, fun d => .inr ⟨fun k hk => absurd hk (Nat.not_lt_zero _), by rw [hF]⟩⟩
 | succ i ih =>
  intro hi
  obtain ⟨t, ht, hst, hfr⟩ := ih (by omega)
  obtain ⟨r, t1, t', hr, ht1, ht', hF', hs', hrun, hnrun, _⟩ := hg i (by omega)
  rw [ht] at ht1; cases ht1
  refine ⟨t', ht', ?_, fun d => ?_⟩
  ·rw [hs']
   by_cases he : effr ros L i
   ·exact .inl ⟨i, t, by omega, he, fun k hk _ => by omega, ht, rfl⟩
   ·have hsame : t.s' = t.s := by
     cases hq : t.run with
     | false => exact (hnrun hq).2
     | true =>
      rcases (hrun hq).1 with h1 | h1
      ·exact absurd ⟨r, t, hr, ht, h1, hq⟩ he
      ·exact h1
    rw [hsame]
    rcases hst with ⟨j, q, h1, h2, h3, h4, h5⟩ | ⟨h1, h2⟩
    ·exact .inl ⟨j, q, by omega, h2, fun k hk hke => by
      rcases Nat.lt_succ_iff_lt_or_eq.1 hk with h | h
      ·exact h3 k h hke
      ·subst h; exact absurd hke he, h4, h5⟩
    ·exact .inr ⟨fun k hk hke => by
      rcases Nat.lt_succ_iff_lt_or_eq.1 hk with h | h
      ·exact h1 k h hke
      ·subst h; exact he hke, h2⟩
  ·have hdr : dstr ros i = r.dst := by simp [dstr, hr]
   rw [hF']
   by_cases hd : r.dst = some d
   ·refine .inl ⟨i, t, by omega, by rw [hdr, hd], fun k hk _ => by omega, ht, ?_⟩
    rw [hd]; simp [put, upd]
   ·have hput : put t.F r.dst t.v d = t.F d := by
     cases hdd : r.dst with
     | none => rfl
     | some d' => simp only [put, upd]; rw [if_neg (by intro he; subst he; exact hd hdd)]
    rw [hput]
    rcases hfr d with ⟨j, q, h1, h2, h3, h4, h5⟩ | ⟨h1, h2⟩
    ·exact .inl ⟨j, q, by omega, h2, fun k hk hke => by
      rcases Nat.lt_succ_iff_lt_or_eq.1 hk with h | h
      ·exact h3 k h hke
      ·subst h; rw [hdr] at hke; exact absurd hke hd, h4, h5⟩
    ·exact .inr ⟨fun k hk hke => by
      rcases Nat.lt_succ_iff_lt_or_eq.1 hk with h | h
      ·exact h1 k h hke
      ·subst h; rw [hdr] at hke; exact hd hke, h2⟩


theorem tbl_spec (h : tblOk ops tbl = true) {i : Nat} {o : Oper} (ho : ops[i]? = some o) : (∀ j ∈ aft o, j < i) ∧ ∀ j ∈ tbl.getD i [], j ∈ aft o ∨ ∃ m ∈ aft o, j ∈ tbl.getD m [] := by
 have hlt : i < ops.size := (Array.getElem?_eq_some_iff.1 ho).1
 simp only [tblOk, List.all_eq_true, List.mem_range] at h
 have := h i hlt
 simp only [ho, Bool.and_eq_true, List.all_eq_true, decide_eq_true_eq, Bool.or_eq_true, List.contains_iff_mem, List.any_eq_true] at this
 exact ⟨this.1, fun j hj => this.2 j hj⟩

theorem tmps_spec (h : tmpsOk ops tbl = true) {i j t : Nat} {o oj : Oper} (ho : ops[i]? = some o) (hoj : ops[j]? = some oj) (hd : oj.dst = some t) (hne : i ≠ j) (hu : t ∈ o.looksAt ops ∨ o.dst = some t) : j ∈ tbl.getD i [] ∨ i ∈ tbl.getD j [] := by
 have hi : i < ops.size := (Array.getElem?_eq_some_iff.1 ho).1
 have hj : j < ops.size := (Array.getElem?_eq_some_iff.1 hoj).1
 simp only [tmpsOk, List.all_eq_true, List.mem_range] at h
 have := h j hj
 simp only [hoj, Option.bind_some, hd, List.all_eq_true, List.mem_range] at this
 have := this i hi
 simp only [ho, Bool.or_eq_true, beq_iff_eq, Bool.not_eq_true', Bool.or_eq_false_iff, List.contains_iff_mem] at this
 rcases this with ((h1 | h1) | h1) | h1
 ·exact absurd h1 hne
 ·rcases hu with hu | hu
  ·have := h1.1; simp at this; exact absurd hu this
  ·have := h1.2; rw [hu] at this; simp at this
 ·exact .inl h1
 ·exact .inr h1

theorem effs_spec (h : effsOk ros tbl = true) {i j : Nat} {a b : RO} (ha : ros[i]? = some a) (hb : ros[j]? = some b) (hlt : j < i) (h1 : a.op.eff = true) (h2 : b.op.eff = true) : j ∈ tbl.getD i [] := by
 have hi : i < ros.length := (List.getElem?_eq_some_iff.1 ha).1
 simp only [effsOk, List.all_eq_true, List.mem_range] at h
 have := h i hi j hlt
 simpa [ha, hb, h1, h2] using this

/-- What is listed is closed below. -/
def Closed (ops : Array Oper) (S : Nat → Prop) : Prop := ∀ i o, S i → ops[i]? = some o → ∀ j ∈ aft o, S j

theorem closed_tbl (h : tblOk ops tbl = true) {S : Nat → Prop} (hS : ∀ i, S i → i < ops.size) (hc : Closed ops S) : ∀ i, S i → ∀ j ∈ tbl.getD i [], S j ∧ j < i := by
 intro i
 induction i using Nat.strongRecOn with
 | _ i ih =>
  intro hi j hj
  obtain ⟨o, ho⟩ : ∃ o, ops[i]? = some o := ⟨ops[i]'(hS i hi), by simp [hS i hi]⟩
  obtain ⟨h1, h2⟩ := tbl_spec h ho
  rcases h2 j hj with hj | ⟨m, hm, hj⟩
  ·exact ⟨hc i o hi ho j hj, h1 j hj⟩
  ·have := ih m (h1 m hm) (hc i o hi ho m hm) j hj
   exact ⟨this.1, by have := h1 m hm; omega⟩

theorem countP_lt {α : Type} {p q : α → Bool} {l : List α} (h : ∀ x ∈ l, q x = true → p x = true) {i : α} (hi : i ∈ l) (hp : p i = true) (hq : q i = false) : l.countP q < l.countP p := by
 induction l with
 | nil => cases hi
 | cons a l ih =>
  simp only [List.countP_cons]
  have hle : l.countP q ≤ l.countP p := List.countP_mono_left (fun x hx => h x (List.mem_cons_of_mem _ hx))
  rcases List.mem_cons.1 hi with rfl | hi
  ·rw [hp, hq]; simp; omega
  ·have := ih (fun x hx => h x (List.mem_cons_of_mem _ hx)) hi
   have ha := h a List.mem_cons_self
   cases hqa : q a <;> cases hpa : p a <;> simp [hqa, hpa] at ha ⊢ <;> omega

theorem draw_gen (hm : ops.toList.mapM (erO P c N ops) = some ros) (hd : drOk ops ros tbl = true) {Q : Exit → Act → World → Prop} {W0 : World} {e0 : Env} {F0 : Fr} {s0 : St} {t0 tl : Tr} (q lim : Nat) (hlim : lim ≤ ros.length) (h0 : L[0]? = some t0) (hF : t0.F = F0) (hs : t0.s = s0)
  (hg : ∀ k, k < lim → Good P ops ros tbl q L k) (hl : L[lim]? = some tl)
  (hbar : lim < ros.length → (∀ j, j < lim → j ∈ tbl.getD lim []) ∧ ∀ i, lim < i → i < ros.length → lim ∈ tbl.getD i [])
  (hQ : ∀ (fuel : Nat) (listed : Array Bool) (a : Act) (w : World), listed.size = ops.size → (List.range ops.size).countP (fun i => !listed.getD i false) ≤ fuel → Closed ops (fun i => listed.getD i false = true) → (∀ k, k < lim → listed.getD k false = true) → (∀ k, lim ≤ k → listed.getD k false = false) →
   (∃ e, e0.le e ∧ Rel W0 e tl.s w ∧ (∀ t, VR e (tl.F t) (a.tmps.getD t Go.undef)) ∧ a.tmps.size = N ∧ a.defers = []) → wpAny P .any ops Q fuel listed a w) :
  ∀ (fuel : Nat) (listed : Array Bool) (a : Act) (w : World), listed.size = ops.size → (List.range ops.size).countP (fun i => !listed.getD i false) ≤ fuel → Closed ops (fun i => listed.getD i false = true) → (q < lim → listed.getD q false = true) → (∀ k, lim ≤ k → listed.getD k false = false) →
   (∃ e, e0.le e ∧ (∃ σ, StOk ros L s0 (fun i => listed.getD i false = true) σ ∧ Rel W0 e σ w) ∧ (∀ t, ∃ x, FrOk ros L F0 (fun i => listed.getD i false = true) t x ∧ VR e x (a.tmps.getD t Go.undef)) ∧ a.tmps.size = N ∧ a.defers = []) →
   wpAny P .any ops Q fuel listed a w := by
 have hlen : ros.length = ops.size := by
  have : ∀ (xs : List Oper) (ys : List RO), xs.mapM (erO P c N ops) = some ys → ys.length = xs.length := by
   intro xs
   induction xs with
   | nil => intro ys h; simp at h; subst h; rfl
   | cons x xs ih => intro ys h; obtain ⟨y, ys', _, h2, rfl⟩ := mapM_cons' _ _ _ h; simp [ih _ h2]
  simpa using this _ _ hm
 simp only [drOk, Bool.and_eq_true] at hd
 obtain ⟨⟨htbl, htmp⟩, heff⟩ := hd
 have hops : ∀ i, i < ops.size → ∃ o r, ops[i]? = some o ∧ ros[i]? = some r ∧ erO P c N ops o = some r := by
  intro i hi
  obtain ⟨r, hr, he⟩ := (mapM_get hm i).2 ops[i] (by simp [hi])
  exact ⟨ops[i], r, by simp [hi], hr, he⟩
 -- where nothing is ready all is listed
 have notready : ∀ (listed : Array Bool), Region.ready .any ops listed = [] → listed.size = ops.size → ∀ i, i < ops.size → listed.getD i false = true := by
  intro listed hready hsz i
  induction i using Nat.strongRecOn with
  | _ i ih =>
   intro hi
   cases hb : listed.getD i false with
   | true => rfl
   | false =>
    exfalso
    obtain ⟨o, r, ho, hr, _⟩ := hops i hi
    have : i ∈ Region.ready .any ops listed := by
     rw [mem_ready]
     refine ⟨?_, o, ho, fun ed hed hbind => ?_⟩
     ·rw [Array.getD_eq_getD_getElem?] at hb ⊢
      have : i < listed.size := by omega
      simp [this] at hb ⊢; exact hb
     ·have hmem : ed.on ∈ aft o := by
       simp only [aft, List.mem_map, List.mem_filter]
       exact ⟨ed, ⟨by simpa using hed, hbind⟩, rfl⟩
      exact ih ed.on ((tbl_spec htbl ho).1 _ hmem) (by have := (tbl_spec htbl ho).1 _ hmem; omega)
    rw [hready] at this; cases this
 -- all of them listed
 have full : ∀ (fuel : Nat) (listed : Array Bool) (a : Act) (w : World), listed.size = ops.size → (List.range ops.size).countP (fun i => !listed.getD i false) ≤ fuel → Closed ops (fun i => listed.getD i false = true) → (∀ k, k < lim → listed.getD k false = true) → (∀ k, lim ≤ k → listed.getD k false = false) →
   (∃ e, e0.le e ∧ (∃ σ, StOk ros L s0 (fun i => listed.getD i false = true) σ ∧ Rel W0 e σ w) ∧ (∀ t, ∃ x, FrOk ros L F0 (fun i => listed.getD i false = true) t x ∧ VR e x (a.tmps.getD t Go.undef)) ∧ a.tmps.size = N ∧ a.defers = []) → wpAny P .any ops Q fuel listed a w := by
  intro fuel listed a w hsz hcnt hcl hall hge ⟨e, hle, ⟨σ, hst, hrel⟩, hfr, hN, hdf⟩
  obtain ⟨t, ht, hst', hfr'⟩ := canon h0 hF hs hg lim (Nat.le_refl _)
  rw [hl] at ht; cases ht
  have both : ∀ k, listed.getD k false = true ↔ k < lim := fun k => by
   refine ⟨fun h => ?_, hall k⟩
   rcases Nat.lt_or_ge k lim with h1 | h1
   ·exact h1
   ·rw [hge k h1] at h; cases h
  have hσ : σ = tl.s := hst.same hst' (fun k _ => both k)
  subst hσ
  refine hQ fuel listed a w hsz hcnt hcl hall hge ⟨e, hle, hrel, fun d => ?_, hN, hdf⟩
  obtain ⟨x, hx, hv⟩ := hfr d
  have : x = tl.F d := hx.same (hfr' d) (fun k _ => both k)
  rw [← this]; exact hv
 have lenL : ∀ (listed : Array Bool), ¬ (∀ k, k < lim → listed.getD k false = true) → ∃ k, k < ops.size ∧ listed.getD k false = false := by
  intro listed h
  rcases Classical.not_forall.1 h with ⟨k, hk⟩
  rcases Classical.not_imp.1 hk with ⟨h1, h2⟩
  exact ⟨k, by omega, by simpa using h2⟩
 intro fuel
 induction fuel with
 | zero =>
  intro listed a w hsz hcnt hcl hql hge hinv
  by_cases hall : ∀ k, k < lim → listed.getD k false = true
  ·exact full 0 listed a w hsz hcnt hcl hall hge hinv
  ·exfalso
   obtain ⟨k, hk, hkf⟩ := lenL listed hall
   have hz : (List.range ops.size).countP (fun i => !listed.getD i false) = 0 := by omega
   rw [List.countP_eq_zero] at hz
   have := hz k (List.mem_range.2 hk)
   rw [hkf] at this; simp at this
 | succ fuel ih =>
  intro listed a w hsz hcnt hcl hql hge hinv
  by_cases hall : ∀ k, k < lim → listed.getD k false = true
  ·exact full (fuel + 1) listed a w hsz hcnt hcl hall hge hinv
  refine ⟨fun hready => ?_, fun i hi => ?_⟩
  ·exfalso
   obtain ⟨k, hk, hkf⟩ := lenL listed hall
   rw [notready listed hready hsz k hk] at hkf; cases hkf
  rw [mem_ready] at hi
  obtain ⟨hun, o, ho, haft⟩ := hi
  have hlt : i < ops.size := (Array.getElem?_eq_some_iff.1 ho).1
  have hlt' : i < listed.size := by omega
  obtain ⟨o', r, ho', hr, hero⟩ := hops i hlt
  rw [ho] at ho'; cases ho'
  obtain ⟨her, hdst, hdN, hgn, hgs⟩ := ero_op hero
  have hnot : listed.getD i false = false := by
   rw [Array.getD_eq_getD_getElem?] at hun ⊢
   simp [hlt'] at hun ⊢; exact hun
  have hS : ∀ k, listed.getD k false = true → k < ops.size := by
   intro k hk
   rw [Array.getD_eq_getD_getElem?] at hk
   rcases Nat.lt_or_ge k listed.size with h | h
   ·omega
   ·simp [Array.getElem?_eq_none h] at hk
  have hct := closed_tbl htbl hS hcl
  have haftS : ∀ j ∈ aft o, listed.getD j false = true := by
   intro j hj
   simp only [aft, List.mem_map, List.mem_filter] at hj
   obtain ⟨ed, ⟨hed, hb⟩, rfl⟩ := hj
   exact haft ed (by simpa using hed) hb
  have htblS : ∀ j ∈ tbl.getD i [], listed.getD j false = true ∧ j < i := by
   intro j hj
   obtain ⟨h1, h2⟩ := tbl_spec htbl ho
   rcases h2 j hj with hj | ⟨m, hm', hj⟩
   ·exact ⟨haftS j hj, h1 j hj⟩
   ·have := hct m (haftS m hm') j hj
    exact ⟨this.1, by have := h1 m hm'; omega⟩
  have hil : i < lim := by
   rcases Nat.lt_trichotomy i lim with h | h | h
   ·exact h
   ·exfalso
    subst h
    exact hall fun j hj => (htblS j ((hbar (by omega)).1 j hj)).1
   ·exfalso
    have := (htblS lim ((hbar (by omega)).2 i h (by omega))).1
    rw [hge lim (Nat.le_refl _)] at this; cases this
  have hiq : i ≠ q := by
   rintro rfl
   have := hql hil
   rw [hnot] at this; cases this
  have hafter : ∀ k, i ∈ tbl.getD k [] → k < ops.size → listed.getD k false = false ∧ i < k := by
   intro k hk hks
   refine ⟨?_, ?_⟩
   ·cases hb : listed.getD k false with
    | false => rfl
    | true => have := (hct k hb i hk).1; rw [hnot] at this; cases this
   ·-- below k in the order of the text
    have hall : ∀ j, j < ops.size → ∀ q ∈ tbl.getD j [], q < j := by
     intro j
     induction j using Nat.strongRecOn with
     | _ j ihj =>
      intro hj q hq
      obtain ⟨oj, _, hoj, _⟩ := hops j hj
      obtain ⟨h1, h2⟩ := tbl_spec htbl hoj
      rcases h2 q hq with hq | ⟨m, hm', hq⟩
      ·exact h1 q hq
      ·have := ihj m (h1 m hm') (by have := h1 m hm'; omega) q hq
       have := h1 m hm'; omega
    exact hall k hks i hk
  obtain ⟨t, ht, hst', hfr'⟩ := canon h0 hF hs hg i (by omega)
  obtain ⟨r1, t1, t', hr1, ht1, ht', hF', hs', hrun, hnrun, hgr, hgsome, hchk⟩ := hg i (by omega)
  rw [hr] at hr1; cases hr1
  rw [ht] at ht1; cases ht1
  obtain ⟨e, hle, ⟨σ, hst, hrel⟩, hfr, hN, hdf⟩ := hinv
  -- the temporaries that it looks at
  have hlook : ∀ d, d ∈ o.looksAt ops → VR e (t.F d) (a.tmps.getD d Go.undef) := by
   intro d hdl
   obtain ⟨x, hx, hv⟩ := hfr d
   have : x = t.F d := hx.same (hfr' d) (fun k hk => by
    have hk' : k < ops.size := by
     unfold dstr at hk
     cases hrk : ros[k]? with
     | none => simp [hrk] at hk
     | some r => have := (List.getElem?_eq_some_iff.1 hrk).1; omega
    obtain ⟨ok, rk, hok, hrk, herok⟩ := hops k hk'
    have hdk : ok.dst = some d := by
     have := (ero_op herok).2.1
     simp [dstr, hrk] at hk; rw [← this]; exact hk
    by_cases hki : i = k
    ·subst hki; exact ⟨(fun h => by rw [hnot] at h; cases h), fun h => absurd h (Nat.lt_irrefl _)⟩
    ·rcases tmps_spec htmp ho hok hdk hki (.inl hdl) with h1 | h1
     ·exact ⟨fun _ => (htblS k h1).2, fun _ => (htblS k h1).1⟩
     ·have := hafter k h1 hk'
      exact ⟨(fun h => by rw [this.1] at h; cases h), fun h => by omega⟩)
   rw [← this]; exact hv
  have huse : ∀ d, uses o d → VR e (t.F d) (a.tmps.getD d Go.undef) := fun d hu => hlook d (List.mem_append_left _ (List.mem_filterMap.2 ⟨.tmp d, by simpa [uses] using hu, rfl⟩))
  -- is it wanted?
  have hwant : Region.wanted o (yielded ops a.tmps) = t.run := by
   cases hog : o.guard with
   | none => rw [hgr (hgn hog)]; simp [Region.wanted, hog]
   | some jw =>
    obtain ⟨j, want⟩ := jw
    obtain ⟨d, hdj, hrg⟩ := hgs j want hog
    obtain ⟨b, hb, hbw⟩ := hgsome d want hrg
    have hvd := hlook d (List.mem_append_right _ (by simp [hog, hdj]))
    have hy : yielded ops a.tmps j = b := by
     unfold yielded
     rw [hdj]
     simp only [Option.bind_some]
     rw [Array.getD_eq_getD_getElem?] at hvd
     generalize t.F d = z at hvd hb
     cases hx : a.tmps[d]? with
     | none =>
      rw [hx] at hvd; simp only [Option.getD_none] at hvd
      simp only [gdv] at hb
      split at hb
      ·cases hvd
      ·cases hb; rfl
      ·cases hb
     | some x =>
      rw [hx] at hvd; simp only [Option.getD_some] at hvd
      simp only [gdv] at hb
      split at hb
      ·cases hb; cases hvd; rfl
      ·cases hb; cases hvd; rfl
      ·cases hb
    simp only [Region.wanted, hog, hy]
    cases hq : t.run with
    | true => rw [hbw.1 hq]; simp
    | false =>
     have : b ≠ some want := fun h => by have := hbw.2 h; rw [hq] at this; cases this
     simpa using this
  have hset : ∀ k, (listed.setIfInBounds i true).getD k false = true ↔ listed.getD k false = true ∨ k = i := by
   intro k
   by_cases hki : i = k
   ·subst hki; simp [Array.getD_eq_getD_getElem?, hlt']
   ·rw [getD_set_ne false hki]; exact ⟨.inl, fun h => h.resolve_right (fun h => hki h.symm)⟩
  -- one more is listed
  have next : ∀ (e' : Env) (v' : Value) (w' : World) (σ' : St), e.le e' → Rel W0 e' σ' w' → VR e' t.v v' → StOk ros L s0 (fun k => (listed.setIfInBounds i true).getD k false = true) σ' →
    wpAny P .any ops Q fuel (listed.setIfInBounds i true) (a.put o.dst v') w' := by
   intro e' v' w' σ' hle' hrel' hv' hst2
   refine ih _ _ _ (by simp [hsz]) ?_ ?_ (fun h => (hset q).2 (.inl (hql h))) (fun k hk => by
    cases hb : (listed.setIfInBounds i true).getD k false with
    | false => rfl
    | true =>
     rcases (hset k).1 hb with h | h
     ·rw [hge k hk] at h; cases h
     ·omega) ⟨e', hle.trans hle', ⟨σ', hst2, hrel'⟩, fun d => ?_, ?_, ?_⟩
   ·have : (List.range ops.size).countP (fun k => !(listed.setIfInBounds i true).getD k false) < (List.range ops.size).countP (fun k => !listed.getD k false) := by
     refine countP_lt (fun x hx h => ?_) (List.mem_range.2 hlt) (by rw [hnot]; rfl) (by rw [(hset i).2 (.inr rfl)]; rfl)
     cases hb : listed.getD x false with
     | false => rfl
     | true => rw [(hset x).2 (.inl hb)] at h; cases h
    omega
   ·intro k ok hk hok j hj
    rcases (hset k).1 hk with hk | rfl
    ·exact (hset j).2 (.inl (hcl k ok hk hok j hj))
    ·rw [ho] at hok; cases hok
     exact (hset j).2 (.inl (haftS j hj))
   ·by_cases hdd : r.dst = some d
    ·refine ⟨t.v, .inl ⟨i, t, (hset i).2 (.inr rfl), by simp [dstr, hr, hdd], fun k hk hkd => ?_, ht, rfl⟩, ?_⟩
     ·rcases (hset k).1 hk with hk | rfl
      ·have hks := hS k hk
       obtain ⟨ok, rk, hok, hrk, herok⟩ := hops k hks
       have hdk : ok.dst = some d := by
        have := (ero_op herok).2.1
        simp [dstr, hrk] at hkd; rw [← this]; exact hkd
       have hki : i ≠ k := by rintro rfl; rw [hnot] at hk; cases hk
       rcases tmps_spec htmp ho hok hdk hki (.inr (by rw [← hdst]; exact hdd)) with h1 | h1
       ·exact Nat.le_of_lt (htblS k h1).2
       ·have := (hafter k h1 hks).1; rw [hk] at this; cases this
      ·exact Nat.le_refl _
     ·rw [← hdst, hdd]
      have hdlt : d < N := by rw [← hdst, hdd] at hdN; simpa using hdN
      simp only [Act.put, Array.getD_eq_getD_getElem?]
      rw [Array.getElem?_setIfInBounds_self_of_lt (by omega)]
      exact hv'
    ·obtain ⟨x, hx, hv⟩ := hfr d
     refine ⟨x, ?_, ?_⟩
     ·rcases hx with ⟨j, q, h1, h2, h3, h4, h5⟩ | ⟨h1, h2⟩
      ·refine .inl ⟨j, q, (hset j).2 (.inl h1), h2, fun k hk hkd => ?_, h4, h5⟩
       rcases (hset k).1 hk with hk | rfl
       ·exact h3 k hk hkd
       ·exfalso; simp [dstr, hr] at hkd; exact hdd hkd
      ·refine .inr ⟨fun k hk hkd => ?_, h2⟩
       rcases (hset k).1 hk with hk | rfl
       ·exact h1 k hk hkd
       ·simp [dstr, hr] at hkd; exact hdd hkd
     ·rw [← hdst]
      cases hrd : r.dst with
      | none => exact hv.mono hle'
      | some d' =>
       have hne : d' ≠ d := by rintro rfl; exact hdd hrd
       simp only [Act.put, Array.getD_eq_getD_getElem?]
       rw [Array.getElem?_setIfInBounds_ne hne, ← Array.getD_eq_getD_getElem?]
       exact hv.mono hle'
   ·cases o.dst <;> simp [Act.put, hN]
   ·cases o.dst <;> exact hdf
  have noeff : ∀ σ', (t.run = false ∨ r.op.eff = false) → StOk ros L s0 (fun i => listed.getD i false = true) σ' → StOk ros L s0 (fun k => (listed.setIfInBounds i true).getD k false = true) σ' := by
   intro σ' hne h
   have hni : ¬ effr ros L i := by
    rintro ⟨r2, t2, g1, g2, g3, g4⟩
    rw [hr] at g1; cases g1
    rw [ht] at g2; cases g2
    rcases hne with h1 | h1
    ·rw [h1] at g4; cases g4
    ·rw [h1] at g3; cases g3
   rcases h with ⟨j, q, h1, h2, h3, h4, h5⟩ | ⟨h1, h2⟩
   ·refine .inl ⟨j, q, (hset j).2 (.inl h1), h2, fun k hk hkd => ?_, h4, h5⟩
    rcases (hset k).1 hk with hk | rfl
    ·exact h3 k hk hkd
    ·exact absurd hkd hni
   ·refine .inr ⟨fun k hk hkd => ?_, h2⟩
    rcases (hset k).1 hk with hk | rfl
    ·exact h1 k hk hkd
    ·exact hni hkd
  unfold wpOp
  simp only [ho]
  cases hq : t.run with
  | false =>
   rw [hwant, hq]
   simp only [Bool.false_eq_true, if_false]
   refine next e Go.undef w σ (.refl e) hrel ?_ (noeff σ (.inl hq) hst)
   rw [(hnrun hq).1]; exact .raw _
  | true =>
   rw [hwant, hq]
   simp only [if_true]
   refine .inl ?_
   obtain ⟨hr1, hr2⟩ := hrun hq
   have hOp := (hr2 hiq o ho).1
   cases hre : r.op.eff with
   | true =>
    have hσ : σ = t.s := hst.same hst' (fun k hk => by
     obtain ⟨rk, tk, hrk, htk, hek, hrunk⟩ := hk
     have hks : k < ops.size := by have := (List.getElem?_eq_some_iff.1 hrk).1; omega
     rcases Nat.lt_trichotomy k i with h | h | h
     ·exact ⟨fun _ => h, fun _ => (htblS k (effs_spec heff hr hrk h hre hek)).1⟩
     ·subst h; exact ⟨(fun h => by rw [hnot] at h; cases h), fun h => absurd h (Nat.lt_irrefl _)⟩
     ·have := (hafter k (effs_spec heff hrk hr h hek hre) hks).1
      exact ⟨(fun h' => by rw [this] at h'; cases h'), fun h' => by omega⟩)
    subst hσ
    refine hOp W0 e a w _ Q hrel huse fun e' v' w' h1 h2 h3 => next e' v' w' _ h1 h2 h3 (.inl ⟨i, t, (hset i).2 (.inr rfl), ⟨r, t, hr, ht, hre, hq⟩, fun k hk hke => ?_, ht, rfl⟩)
    obtain ⟨rk, tk, hrk, htk, hek, hrunk⟩ := hke
    rcases (hset k).1 hk with hk | rfl
    ·rcases Nat.lt_trichotomy k i with h | h | h
     ·omega
     ·omega
     ·have := (hafter k (effs_spec heff hrk hr h hek hre) (hS k hk)).1
      rw [hk] at this; cases this
    ·exact Nat.le_refl _
   | false =>
    have hsame : t.s' = t.s := by
     rcases hr1 with h1 | h1
     ·rw [hre] at h1; cases h1
     ·exact h1
    have hgo : OpT P o t.F σ t.v σ := by
     -- the first effect behind j that is ahead of i
     have least : ∀ (lo : Nat), (∃ k, lo ≤ k ∧ k < i ∧ effr ros L k) → ∃ k, lo ≤ k ∧ k < i ∧ effr ros L k ∧ ∀ m, lo ≤ m → m < k → ¬ effr ros L m := by
      intro lo hex
      obtain ⟨k, ⟨h1, h2, h3⟩, h4⟩ := exists_least (p := fun k => lo ≤ k ∧ k < i ∧ effr ros L k) hex
      exact ⟨k, h1, h2, h3, fun m hm1 hm2 hm3 => by have := h4 m ⟨hm1, by omega, hm3⟩; omega⟩
     have before : ∀ k tk, k < i → effr ros L k → listed.getD k false = false → L[k]? = some tk → OpT P o t.F tk.s t.v tk.s := by
      intro k tk hk ⟨rk, tk', hrk, htk, hek, hrunk⟩ hnk hLk
      rw [hLk] at htk; cases htk
      rcases hchk k tk rk hk hLk hrk hq hrunk with hb | ⟨_, hB⟩
      ·have := (htblS k hb).1; rw [hnk] at this; cases this
      ·exact hB hre hek o ho
     rcases hst with ⟨j, q, h1, h2, h3, h4, h5⟩ | ⟨h1, h2⟩
     ·rcases Nat.lt_trichotomy j i with hji | hji | hji
      ·by_cases hex : ∃ k, j + 1 ≤ k ∧ k < i ∧ effr ros L k
       ·obtain ⟨k, k1, k2, k3, k4⟩ := least _ hex
        have hnk : listed.getD k false = false := by
         cases hb : listed.getD k false with
         | false => rfl
         | true => have := h3 k hb k3; omega
        obtain ⟨tk, htk, hstk, _⟩ := canon h0 hF hs hg k (by omega)
        have hσk : σ = tk.s := by
         rcases hstk with ⟨j', q', g1, g2, g3, g4, g5⟩ | ⟨g1, g2⟩
         ·have a1 : j' = j := by
           have a2 := g3 j (by omega) h2
           rcases Nat.lt_or_ge j j' with h | h
           ·exact absurd g2 (k4 j' (by omega) g1)
           ·omega
          subst a1
          rw [h4] at g4; cases g4
          rw [h5, g5]
         ·exact absurd h2 (g1 j (by omega))
        rw [hσk]
        exact before k tk k2 k3 hnk htk
       ·have : σ = t.s := by
         rcases hst' with ⟨j', q', g1, g2, g3, g4, g5⟩ | ⟨g1, g2⟩
         ·have a1 : j' = j := by
           have a2 := g3 j hji h2
           rcases Nat.lt_or_ge j j' with h | h
           ·exact absurd ⟨j', h, g1, g2⟩ hex
           ·omega
          subst a1
          rw [h4] at g4; cases g4
          rw [h5, g5]
         ·exact absurd h2 (g1 j hji)
        rw [this]; rw [hsame] at hOp; exact hOp
      ·subst hji; rw [hnot] at h1; cases h1
      ·-- an effect that was done ahead of it stands behind it in the text
       obtain ⟨rj, tj, hrj, htj, hej, hrunj⟩ := h2
       rw [h4] at htj; cases htj
       obtain ⟨rj', tj', _, hrj', htj', _, _, _, _, _, _, _, hchkj⟩ := hg j (by
        rcases Nat.lt_or_ge j lim with h9 | h9
        ·exact h9
        ·rw [hge j h9] at h1; cases h1)
       rw [hrj] at hrj'; cases hrj'
       rw [h4] at htj'; cases htj'
       rcases hchkj i t r hji ht hr hrunj hq with hb | ⟨hA, _⟩
       ·have := (hct j h1 i hb).1; rw [hnot] at this; cases this
       ·rw [h5]; exact hA hej hre o ho
     ·by_cases hex : ∃ k, 0 ≤ k ∧ k < i ∧ effr ros L k
      ·obtain ⟨k, k1, k2, k3, k4⟩ := least _ hex
       have hnk : listed.getD k false = false := by
        cases hb : listed.getD k false with
        | false => rfl
        | true => exact absurd k3 (h1 k hb)
       obtain ⟨tk, htk, hstk, _⟩ := canon h0 hF hs hg k (by omega)
       have hσk : σ = tk.s := by
        rcases hstk with ⟨j', q', g1, g2, g3, g4, g5⟩ | ⟨g1, g2⟩
        ·exact absurd g2 (k4 j' (Nat.zero_le _) g1)
        ·rw [h2, g2]
       rw [hσk]
       exact before k tk k2 k3 hnk htk
      ·have : σ = t.s := by
        rcases hst' with ⟨j', q', g1, g2, g3, g4, g5⟩ | ⟨g1, g2⟩
        ·exact absurd ⟨j', Nat.zero_le _, g1, g2⟩ hex
        ·rw [h2, g2]
       rw [this]; rw [hsame] at hOp; exact hOp
    exact hgo W0 e a w _ Q hrel huse fun e' v' w' h1 h2 h3 => next e' v' w' σ h1 h2 h3 (noeff σ (.inr hre) hst)

theorem draw_ok (hm : ops.toList.mapM (erO P c N ops) = some ros) (hd : drOk ops ros tbl = true) {Q : Exit → Act → World → Prop} {W0 : World} {e0 : Env} {F0 : Fr} {s0 : St} {t0 tl : Tr} (q : Nat) (h0 : L[0]? = some t0) (hF : t0.F = F0) (hs : t0.s = s0)
  (hg : ∀ k, k < ros.length → Good P ops ros tbl q L k) (hl : L[ros.length]? = some tl)
  (hQ : ∀ (e : Env) (a : Act) (w : World), e0.le e → Rel W0 e tl.s w → (∀ t, VR e (tl.F t) (a.tmps.getD t Go.undef)) → a.tmps.size = N → a.defers = [] → Q .normal a w) :
  ∀ (fuel : Nat) (listed : Array Bool) (a : Act) (w : World), listed.size = ops.size → (List.range ops.size).countP (fun i => !listed.getD i false) ≤ fuel → Closed ops (fun i => listed.getD i false = true) → (q < ros.length → listed.getD q false = true) →
   (∃ e, e0.le e ∧ (∃ σ, StOk ros L s0 (fun i => listed.getD i false = true) σ ∧ Rel W0 e σ w) ∧ (∀ t, ∃ x, FrOk ros L F0 (fun i => listed.getD i false = true) t x ∧ VR e x (a.tmps.getD t Go.undef)) ∧ a.tmps.size = N ∧ a.defers = []) →
   wpAny P .any ops Q fuel listed a w := by
 have hlen : ros.length = ops.size := by
  have : ∀ (xs : List Oper) (ys : List RO), xs.mapM (erO P c N ops) = some ys → ys.length = xs.length := by
   intro xs
   induction xs with
   | nil => intro ys h; simp at h; subst h; rfl
   | cons x xs ih => intro ys h; obtain ⟨y, ys', _, h2, rfl⟩ := mapM_cons' _ _ _ h; simp [ih _ h2]
  simpa using this _ _ hm
 intro fuel listed a w hsz hcnt hcl hql hinv
 have hge : ∀ k, ros.length ≤ k → listed.getD k false = false := fun k hk => by
  rw [Array.getD_eq_getD_getElem?, Array.getElem?_eq_none (by omega)]; rfl
 have fin : ∀ (fuel : Nat) (listed : Array Bool) (a : Act) (w : World), listed.size = ops.size → (List.range ops.size).countP (fun i => !listed.getD i false) ≤ fuel → Closed ops (fun i => listed.getD i false = true) → (∀ k, k < ros.length → listed.getD k false = true) → (∀ k, ros.length ≤ k → listed.getD k false = false) →
   (∃ e, e0.le e ∧ Rel W0 e tl.s w ∧ (∀ t, VR e (tl.F t) (a.tmps.getD t Go.undef)) ∧ a.tmps.size = N ∧ a.defers = []) → wpAny P .any ops Q fuel listed a w := by
  intro fuel listed a w hsz hcnt hcl hall hge ⟨e, h1, h2, h3, h4, h5⟩
  have hno : ∀ i, ¬ i ∈ Region.ready .any ops listed := fun i hi => by
   rw [mem_ready] at hi
   obtain ⟨h6, o, ho, _⟩ := hi
   have hlt : i < ops.size := (Array.getElem?_eq_some_iff.1 ho).1
   have := hall i (by omega)
   rw [Array.getD_eq_getD_getElem?] at h6 this
   have hlt' : i < listed.size := by omega
   simp [hlt'] at h6 this
   rw [this] at h6; cases h6
  have hnil : Region.ready .any ops listed = [] := List.eq_nil_iff_forall_not_mem.2 hno
  cases fuel with
  | zero => exact ⟨hnil, hQ e a w h1 h2 h3 h4 h5⟩
  | succ fuel => exact ⟨fun _ => hQ e a w h1 h2 h3 h4 h5, fun i hi => absurd hi (hno i)⟩
 exact draw_gen hm hd q ros.length (Nat.le_refl _) h0 hF hs hg hl (fun h => absurd h (Nat.lt_irrefl _)) fin fuel listed a w hsz hcnt hcl hql hge hinv

end
end Go.Av
