/- Calls by contract; 'eff' is sound. -/
import Derived.Test.YtfeijnbommgigaaAbsP
namespace Go.Proofs.Ytfeijnbommgigaa.Abs
open Go Go.RowKit

def RepVs (w : World) (St : Nat → Nat → Prop) : List ((t : Ty) × t.den) → List Value → Prop
  | [], [] => True
  | d :: l, v :: vs => RepV w St d.1 d.2 v ∧ RepVs w St l vs
  | _, _ => False

def DatAll : List AV → List ((t : Ty) × t.den) → Prop
  | [], [] => True
  | a :: l, d :: r => dat? d.1 a = some d.2 ∧ DatAll l r
  | _, _ => False

def Callable (P : Program) (f : FuncId) : Prop := ∃ fn, P.funcs[f]? = some fn ∧ fn.body.isSome = true ∧ (fn.name == "runtime.NumGoroutine") = false

def emptyGh (w : World) (St : Nat → Nat → Prop) : Gh := ⟨[], St, fun _ => 0, fun _ => undef, w, fun _ => 0⟩

/-- How a call ends: with a value that reads as res; what was there before is as it was. -/
def Post (w : World) (St : Nat → Nat → Prop) (res : AV) : Ending → World → Prop := fun e w' =>
  ∃ v St', e = .returned v ∧ Below w.heap.size w w' ∧ w.drawn ≤ w'.drawn ∧ (∀ b o, St b o → St' b o) ∧ (∀ b o, St' b o → St b o ∨ (w.heap.size ≤ b ∧ b < w'.heap.size)) ∧ RA (emptyGh w' St') res [v]

/-- A function, called with data, gives a result. -/
def MeetsD (P : Program) (f : FuncId) (ds : List ((t : Ty) × t.den)) (res : AV) : Prop :=
  Callable P f ∧ ∀ w St, (∀ b o, St b o → b < w.heap.size) → ∀ vs, RepVs w St ds vs → Calls P f vs.toArray w (Post w St res)

/-- A function, called with these values, gives a result: R says what is needed of the arguments. -/
def MeetsR (P : Program) (f : FuncId) (args : List AV) (res : AV) : Prop :=
  ∃ R : World → (Nat → Nat → Prop) → List Value → Prop, (∀ c vs, RAs c args vs → R c.w c.St vs) ∧ Callable P f ∧ ∀ w St, (∀ b o, St b o → b < w.heap.size) → ∀ vs, R w St vs → Calls P f vs.toArray w (Post w St res)

def SpecsOk (P : Program) (T : Specs) : Prop := ∀ f args res, T f args = some (true, res) → MeetsR P f args res

section
variable {P : Program} {tab : Tab} {T : Specs} {B : Nat} {w0 : World} {St0 : Nat → Nat → Prop} {c : Gh} {o : Oper} {a : Act}

theorem RAs.dat : ∀ {us : List AV} {vs : List Value} {ds : List ((t : Ty) × t.den)}, DatAll us ds → RAs c us vs → RepVs c.w c.St ds vs
  | [], [], [], _, _ => trivial
  | _ :: _, _ :: _, _ :: _, ⟨h, hs⟩, ⟨r, rs⟩ => ⟨dat?_sound h r, RAs.dat hs rs⟩
  | [], [], _ :: _, h, _ => h.elim
  | _ :: _, _ :: _, [], h, _ => h.elim

theorem meetsR_of {f : FuncId} {args : List AV} {ds : List ((t : Ty) × t.den)} {res : AV} (hd : DatAll args ds) (hm : MeetsD P f ds res) : MeetsR P f args res :=
  ⟨fun w St vs => RepVs w St ds vs, fun _ _ h => h.dat hd, hm.1, hm.2⟩

theorem ev_empty {c' : Gh} {St : Nat → Nat → Prop} (hs : ∀ b o, St b o → c'.St b o) : Ev (emptyGh c'.w St) c' :=
  ⟨hs, fun _ _ _ _ h => h, fun k cells h => by simp [emptyGh] at h, fun k t e v h => by simp [emptyGh] at h, fun k t e v l h => by simp [emptyGh] at h, fun k h => by simp [emptyGh] at h, fun k h => by simp [emptyGh] at h⟩

theorem ok_call (hi : Inv B w0 St0 c) {cl : Call} {x : Operand} (ho : o.op = .call cl) (hcl : cl.callee = .value x) {f : FuncId} {args : List AV} (hx : RA c (.fn f .pnil) [a.eval x]) (hargs : RAs c args (cl.args.toList.map a.eval)) {res : AV} (hm : MeetsR P f args res) :
    Ok P B w0 St0 o a c c.heap res := by
  obtain ⟨R, hR, ⟨fn, f1, f2, f3⟩, hm⟩ := hm
  obtain ⟨cs, e, hcs, _⟩ := hx
  have hcs : cs = [] := hcs
  subst hcs
  simp only [List.cons.injEq, and_true] at e
  have hbody : ¬ fn.body = none := by cases hb : fn.body <;> simp_all
  have f3 : ¬ fn.name = "runtime.NumGoroutine" := by simpa using f3
  have hrun : (execOp a.eval o).run P c.w = .ok (.enter f (cl.args.toList.map a.eval).toArray) c.w := by
    have e2 : cl.args.map a.eval = (cl.args.toList.map a.eval).toArray := Array.ext' (by simp)
    unfold execOp
    simp [ho, resolve, hcl, e, Deferred.ofValue, invoke, callFunc, run_program, f1, f3, hbody, e2]
  intro K Q h
  unfold Oper.wp
  rw [hrun]
  refine (hm c.w c.St hi.bnd _ (hR c _ hargs)).mono ?_
  rintro _ w' ⟨v, St', rfl, hb, hdr, hs, hn, hr⟩
  obtain ⟨hI, hE⟩ := hi.grow hb hs hn hdr
  exact h v { c with w := w', St := St' } rfl hI hE (hr.mono (ev_empty (c' := { c with w := w', St := St' }) (fun _ _ x => x)))

theorem RAs_nil {us : List AV} (h : RAs c us []) : us = [] := by cases us with | nil => rfl | cons _ _ => exact h.elim
theorem RAs_one {us : List AV} {v : Value} (h : RAs c us [v]) : ∃ u, us = [u] ∧ RA c u [v] := by
  match us, h with
  | [u], ⟨r, _⟩ => exact ⟨u, rfl, r⟩
  | _ :: _ :: _, ⟨_, h⟩ => exact h.elim
theorem RAs_cons {us : List AV} {v : Value} {vs : List Value} (h : RAs c us (v :: vs)) : ∃ u r, us = u :: r ∧ RA c u [v] ∧ RAs c r vs := by
  match us, h with
  | u :: r, ⟨h1, h2⟩ => exact ⟨u, r, rfl, h1, h2⟩
theorem RAs_two {us : List AV} {v v' : Value} (h : RAs c us [v, v']) : ∃ u u', us = [u, u'] ∧ RA c u [v] ∧ RA c u' [v'] := by
  obtain ⟨u, r, rfl, h1, h2⟩ := RAs_cons h
  obtain ⟨u', rfl, h3⟩ := RAs_one h2
  exact ⟨u, u', rfl, h1, h3⟩
theorem RAs_three {us : List AV} {v v' v'' : Value} (h : RAs c us [v, v', v'']) : ∃ u u' u'', us = [u, u', u''] ∧ RA c u [v] ∧ RA c u' [v'] ∧ RA c u'' [v''] := by
  obtain ⟨u, r, rfl, h1, h2⟩ := RAs_cons h
  obtain ⟨u', u'', rfl, h3, h4⟩ := RAs_two h2
  exact ⟨u, u', u'', rfl, h1, h3, h4⟩

theorem set_same {α : Type} {l : List α} {k : Nat} {x : α} (h : l[k]? = some x) : l.set k x = l := by
  apply List.ext_getElem?
  intro i
  rw [get_set]
  split
  · rename_i e
    subst e
    rw [if_pos (lt_of_get h), h]
  · rfl

/-- The heap behind an operation. -/
def heapAfter (op : Op) (vals : List AV) (fresh : Nat) (heap : List HO) (ho' : HO) : List HO :=
  match touch op vals fresh with
  | some k => heap.set k ho'
  | none => heap

theorem intAV_sound {u : AV} {v : Value} {n : Int} (h : intAV u = some n) (r : RA c u [v]) : ∃ k, v = .int k n := by
  cases u with
  | val t x =>
    cases t with
    | int k =>
      simp only [intAV, Option.some.injEq] at h
      subst h
      exact ⟨k, rep_int r.val_inv⟩
    | _ => simp [intAV] at h
  | _ => simp [intAV] at h

theorem bounds_sound {low high : Option Operand} {r : List AV} {lo hi : Option Int} (h : bounds low high r = some (lo, hi)) (hr : RAs c r ((low.toList ++ high.toList).map a.eval)) : bdOk (low.map a.eval) lo ∧ bdOk (high.map a.eval) hi := by
  cases low with
  | none =>
    cases high with
    | none =>
      have := RAs_nil hr
      subst this
      simp only [bounds, Option.some.injEq, Prod.mk.injEq] at h
      obtain ⟨rfl, rfl⟩ := h
      exact ⟨trivial, trivial⟩
    | some y =>
      obtain ⟨u, rfl, hu⟩ := RAs_one hr
      simp only [bounds] at h
      split at h
      · rename_i n hn
        simp only [Option.some.injEq, Prod.mk.injEq] at h
        obtain ⟨rfl, rfl⟩ := h
        exact ⟨trivial, intAV_sound hn hu⟩
      · cases h
  | some x =>
    cases high with
    | none =>
      obtain ⟨u, rfl, hu⟩ := RAs_one hr
      simp only [bounds] at h
      split at h
      · rename_i n hn
        simp only [Option.some.injEq, Prod.mk.injEq] at h
        obtain ⟨rfl, rfl⟩ := h
        exact ⟨intAV_sound hn hu, trivial⟩
      · cases h
    | some y =>
      obtain ⟨u, u', rfl, hu, hu'⟩ := RAs_two hr
      simp only [bounds] at h
      split at h
      · rename_i n m hn hm
        simp only [Option.some.injEq, Prod.mk.injEq] at h
        obtain ⟨rfl, rfl⟩ := h
        exact ⟨intAV_sound hn hu, intAV_sound hm hu'⟩
      · cases h

theorem heapAfter_same {op : Op} {vals : List AV} {fresh : Nat} {heap : List HO} {ho : HO} (h : ∀ k, touch op vals fresh = some k → heap[k]? = some ho) : heapAfter op vals fresh heap ho = heap := by
  unfold heapAfter
  split
  · rename_i k hk; exact set_same (h k hk)
  · rfl

set_option maxHeartbeats 1000000 in
theorem effA_sound (tk : TabOk P tab) (ts : SpecsOk P T) (hi : Inv B w0 St0 c) {g : Bool} (hg : g = true) {vals : List AV} (hv : RAs c vals (o.op.operands.toList.map a.eval)) {fresh : Nat} {ho : HO}
    (hho : ∀ k, touch o.op vals fresh = some k → c.heap[k]? = some ho) {out : AV} {ho' : HO} (he : effA tab T o g vals fresh ho = some (true, out, ho')) : Ok P B w0 St0 o a c (heapAfter o.op vals fresh c.heap ho') out := by
  unfold effA at he
  cases hop : o.op with
  | move x =>
    simp only [hop, Op.operands] at he hv
    obtain ⟨u, rfl, hu⟩ := RAs_one (v := a.eval x) hv
    split at he <;> simp only [Option.some.injEq, Prod.mk.injEq, reduceCtorEq] at he
    rename_i hx
    simp only [List.cons.injEq, and_true] at hx
    obtain ⟨_, rfl, rfl⟩ := he
    exact ok_move hi (.inl hop) (hx ▸ hu)
  | assign x =>
    simp only [hop, Op.operands] at he hv
    obtain ⟨u, rfl, hu⟩ := RAs_one (v := a.eval x) hv
    split at he <;> simp only [Option.some.injEq, Prod.mk.injEq, reduceCtorEq] at he
    rename_i hx
    simp only [List.cons.injEq, and_true] at hx
    obtain ⟨_, rfl, rfl⟩ := he
    exact ok_move hi (.inr hop) (hx ▸ hu)
  | pick x y z =>
    simp only [hop, Op.operands] at he hv
    obtain ⟨u, u', u'', rfl, h1, h2, h3⟩ := RAs_three (v := a.eval x) (v' := a.eval y) (v'' := a.eval z) hv
    split at he
    · rename_i cb p q hx
      simp only [List.cons.injEq, and_true] at hx
      obtain ⟨rfl, rfl, rfl⟩ := hx
      split at he
      · rename_i t xx t' yy hp hq
        split at he
        · rename_i yy' hc
          obtain ⟨e, hyy⟩ := cast?_some hc
          subst e
          have hyy : yy' = yy := hyy
          subst hyy
          simp only [Option.some.injEq, Prod.mk.injEq, Bool.and_eq_true] at he
          obtain ⟨⟨k1, k2⟩, rfl, rfl⟩ := he
          refine ok_pick hi hop h1 (fun hb => ?_) (fun hb => ?_) hp hq
          · exact pickArm_sound h2 k1 (by simp [hg, hb])
          · exact pickArm_sound h3 k2 (by simp [hg, hb])
        · cases he
      · cases he
    · cases he
  | alloc t =>
    simp only [hop] at he hho
    have hf := hho fresh rfl
    split at he
    · split at he
      · rename_i τ ht
        simp only [Option.some.injEq, Prod.mk.injEq] at he
        obtain ⟨_, rfl, rfl⟩ := he
        exact ok_alloc hi tk hop hf ht
      · split at he
        · rename_i n ht
          simp only [Option.some.injEq, Prod.mk.injEq] at he
          obtain ⟨_, rfl, rfl⟩ := he
          exact ok_alloc_any hi tk hop hf ht
        · cases he
    · cases he
  | box t x =>
    simp only [hop, Op.operands] at he hv hho
    have hf := hho fresh rfl
    obtain ⟨u, rfl, hu⟩ := RAs_one (v := a.eval x) hv
    split at he
    · rename_i hx
      simp only [List.cons.injEq, and_true] at hx
      subst hx
      split at he
      · rename_i hs
        simp only [Option.some.injEq, Prod.mk.injEq] at he
        obtain ⟨_, rfl, rfl⟩ := he
        exact ok_box hi hop hf hu hs
      · cases he
    · cases he
  | load t x =>
    simp only [hop, Op.operands] at he hv hho
    obtain ⟨u, rfl, hu⟩ := RAs_one (v := a.eval x) hv
    split at he
    · rename_i k off cells hx
      simp only [List.cons.injEq, and_true] at hx
      subst hx
      have hk : c.heap[k]? = some (.box cells) := hho k rfl
      have hsame : heapAfter (.load t x) [.box k off] fresh c.heap (.box cells) = c.heap := by
        show c.heap.set k _ = _
        exact set_same hk
      split at he
      · rename_i τ ht
        split at he
        · split at he
          · rename_i y hy
            simp only [Option.some.injEq, Prod.mk.injEq] at he
            obtain ⟨_, rfl, rfl⟩ := he
            rw [hsame]
            exact ok_load_struct hi tk hop hu hk ht hy
          · cases he
        · rename_i hs
          split at he
          · rename_i u' hu'
            simp only [Option.some.injEq, Prod.mk.injEq] at he
            obtain ⟨_, rfl, rfl⟩ := he
            rw [hsame]
            obtain ⟨i, z, _, _, _, _, _, _, hund⟩ := tk.ty t τ ht
            obtain ⟨d, hd, hn⟩ := und_cell (by simpa using hs) hund
            exact ok_load_cell hi hop hu hk hd hn hu'
          · cases he
      · rename_i ht
        split at he
        · rename_i hc
          split at he
          · rename_i u' hu'
            simp only [Option.some.injEq, Prod.mk.injEq] at he
            obtain ⟨_, rfl, rfl⟩ := he
            rw [hsame]
            obtain ⟨i, z, d, _, _, _, _, hd, hn⟩ := tk.cells t 1 hc
            exact ok_load_cell hi hop hu hk hd (hn ht rfl) hu'
          · cases he
        · cases he
    · rename_i τ y hx
      simp only [List.cons.injEq, and_true] at hx
      subst hx
      split at he
      · rename_i ht
        simp only [Option.some.injEq, Prod.mk.injEq] at he
        obtain ⟨_, rfl, rfl⟩ := he
        exact ok_load_ref hi tk hop hu ht
      · cases he
    · cases he
  | store t x y =>
    simp only [hop, Op.operands] at he hv hho
    obtain ⟨u, u', rfl, h1, h2⟩ := RAs_two (v := a.eval x) (v' := a.eval y) hv
    split at he
    · rename_i k off v cells hx
      simp only [List.cons.injEq, and_true] at hx
      obtain ⟨rfl, rfl⟩ := hx
      have hk : c.heap[k]? = some (.box cells) := hho k rfl
      split at he
      · rename_i hs
        simp only [Bool.and_eq_true, decide_eq_true_eq] at hs
        simp only [Option.some.injEq, Prod.mk.injEq] at he
        obtain ⟨_, rfl, rfl⟩ := he
        exact ok_store hi tk hop h1 h2 hk hs.1.1 hs.1.2 hs.2
      · cases he
    · cases he
  | fieldAddr s x f =>
    simp only [hop, Op.operands] at he hv
    obtain ⟨u, rfl, hu⟩ := RAs_one (v := a.eval x) hv
    split at he
    · rename_i k off hx
      simp only [List.cons.injEq, and_true] at hx
      subst hx
      split at he
      · rename_i d hd
        simp only [Option.some.injEq, Prod.mk.injEq] at he
        obtain ⟨_, rfl, rfl⟩ := he
        exact ok_fieldAddr_box hi tk hop hu hd
      · cases he
    · rename_i τ y hx
      simp only [List.cons.injEq, and_true] at hx
      subst hx
      split at he
      · rename_i ht
        split at he
        · rename_i τ' y' hp
          simp only [Option.some.injEq, Prod.mk.injEq] at he
          obtain ⟨_, rfl, rfl⟩ := he
          exact ok_fieldAddr_ref hi tk hop hu ht hp
        · cases he
      · cases he
    · cases he
  | field s x f =>
    simp only [hop, Op.operands] at he hv
    obtain ⟨u, rfl, hu⟩ := RAs_one (v := a.eval x) hv
    split at he
    · rename_i τ y hx
      simp only [List.cons.injEq, and_true] at hx
      subst hx
      split at he
      · rename_i ht
        split at he
        · rename_i τ' y' hp
          simp only [Option.some.injEq, Prod.mk.injEq] at he
          obtain ⟨_, rfl, rfl⟩ := he
          exact ok_field hi tk hop hu ht hp
        · cases he
      · cases he
    · cases he
  | indexAddr t x y =>
    simp only [hop, Op.operands] at he hv
    obtain ⟨u, u', rfl, h1, h2⟩ := RAs_two (v := a.eval x) (v' := a.eval y) hv
    split at he
    · rename_i s k n hx
      simp only [List.cons.injEq, and_true] at hx
      obtain ⟨rfl, rfl⟩ := hx
      split at he
      · rename_i τ l hl
        simp only [Option.some.injEq, Prod.mk.injEq, Bool.and_eq_true, decide_eq_true_eq] at he
        obtain ⟨⟨k1, k2⟩, rfl, rfl⟩ := he
        rw [heapAfter_same (by simpa only [hop] using hho)]
        exact ok_indexAddr hi tk hop h1 h2 hl k1 k2
      · cases he
    · cases he
  | index t x y =>
    simp only [hop, Op.operands] at he hv
    obtain ⟨u, u', rfl, h1, h2⟩ := RAs_two (v := a.eval x) (v' := a.eval y) hv
    split at he
    · rename_i s k n hx
      simp only [List.cons.injEq, and_true] at hx
      obtain ⟨rfl, rfl⟩ := hx
      split at he
      · rename_i l hl
        simp only [Option.some.injEq, Prod.mk.injEq, Bool.and_eq_true, decide_eq_true_eq] at he
        obtain ⟨⟨k1, k2⟩, rfl, rfl⟩ := he
        exact ok_index_str hi tk hop h1 h2 hl k1 k2
      · cases he
    · cases he
  | binOp op tx x y ty =>
    simp only [hop, Op.operands] at he hv
    obtain ⟨u, u', rfl, h1, h2⟩ := RAs_two (v := a.eval x) (v' := a.eval y) hv
    simp only at he
    split at he
    · rename_i cb v hb
      simp only [Option.some.injEq, Prod.mk.injEq] at he
      obtain ⟨rfl, rfl, rfl⟩ := he
      have hb' := hb
      unfold binEff at hb
      split at hb
      · split at hb
        · simp only [Option.some.injEq, Prod.mk.injEq, decide_eq_true_eq] at hb
          obtain ⟨hn, rfl⟩ := hb
          exact (ok_shift hi hop h1 h2 hn).1 rfl
        · simp only [Option.some.injEq, Prod.mk.injEq, decide_eq_true_eq] at hb
          obtain ⟨hn, rfl⟩ := hb
          exact (ok_shift hi hop h1 h2 hn).2 rfl
        · split at hb
          · rename_i hk
            subst hk
            exact ok_bin_int hi hop h1 h2 hb
          · cases hb
      · exact ok_bin_str hi hop h1 h2 hb'
      · exact ok_bin_bool hi tk hop h1 h2 hb'
      · exact ok_bin_nil hi tk hop h1 h2 hb'
      · exact ok_bin_struct hi tk hop h1 h2 hb'
      · cases hb
    · cases he
  | unOp op t x =>
    simp only [hop, Op.operands] at he hv
    obtain ⟨u, rfl, hu⟩ := RAs_one (v := a.eval x) hv
    cases op <;> simp only at he <;> first | (cases he; done) | skip
    all_goals split at he
    all_goals first | (cases he; done) | skip
    all_goals
      rename_i hx
      simp only [List.cons.injEq, and_true] at hx
      subst hx
      simp only [Option.some.injEq, Prod.mk.injEq] at he
      obtain ⟨_, rfl, rfl⟩ := he
      first | exact ok_not hi hop hu | exact ok_neg hi hop hu
  | convert s t x =>
    simp only [hop, Op.operands] at he hv
    obtain ⟨u, rfl, hu⟩ := RAs_one (v := a.eval x) hv
    split at he
    · rename_i k' n k τ hx ht hts
      simp only [List.cons.injEq, and_true] at hx
      subst hx
      simp only [Option.some.injEq, Prod.mk.injEq] at he
      obtain ⟨_, rfl, rfl⟩ := he
      obtain ⟨i, z, hin, _⟩ := tk.ty s _ hts
      refine ok_conv_int hi tk hop hu ht ?_
      obtain ⟨_, _, _, _, _, _, _, _, hund⟩ := tk.ty s _ hts
      cases hs : τ.isStruct with
      | true => obtain ⟨fs, hf, _⟩ := und_struct hs hund; exact ⟨_, hf⟩
      | false => obtain ⟨d, hd, _⟩ := und_cell hs hund; exact ⟨_, hd⟩
    · rename_i x2 hx ht hts
      simp only [List.cons.injEq, and_true] at hx
      subst hx
      split at he
      · rename_i l hl
        simp only [Option.some.injEq, Prod.mk.injEq] at he
        obtain ⟨_, rfl, rfl⟩ := he
        exact ok_conv_bytes hi tk hop hu hl ht hts
      · cases he
    · cases he
  | build t parts =>
    simp only [hop, Op.operands] at he hv
    split at he
    · rename_i τ ht
      split at he
      · rename_i hs
        split at he
        · rename_i hc
          unfold oneB at hc
          split at hc
          · rename_i n hn
            simp only [Bool.and_eq_true, decide_eq_true_eq, List.length_map, Array.length_toList] at hc
            simp only [Option.some.injEq, Prod.mk.injEq] at he
            obtain ⟨_, rfl, rfl⟩ := he
            exact ok_build_zero hi tk hop hv ht hn hc.1.1 hc.1.2 hc.2
          · cases hc
        · split at he
          · rename_i y hy
            simp only [Option.some.injEq, Prod.mk.injEq] at he
            obtain ⟨_, rfl, rfl⟩ := he
            exact ok_build hi tk hop hv ht hs hy
          · cases he
      · cases he
    · split at he
      · rename_i n hn
        split at he
        · rename_i hs
          simp only [Bool.and_eq_true] at hs
          simp only [Option.some.injEq, Prod.mk.injEq] at he
          obtain ⟨_, rfl, rfl⟩ := he
          exact ok_build_agg hi tk hop hv hn (Nat.eq_of_beq_eq_true hs.1.1) hs.1.2 hs.2
        · cases he
      · cases he
  | buildSlice t len parts =>
    simp only [hop, Op.operands] at he hv hho
    have hf := hho fresh rfl
    split at he
    · rename_i τ e ht hel
      split at he
      · rename_i hs
        simp only [Bool.and_eq_true, decide_eq_true_eq] at hs
        split at he
        · rename_i l hl
          simp only [Option.some.injEq, Prod.mk.injEq] at he
          obtain ⟨_, rfl, rfl⟩ := he
          exact ok_buildSlice hi tk hop hv ht hel hs.1.1 hs.1.2 hs.2 hl hf
        · cases he
      · cases he
    · cases he
  | makeSlice t x y =>
    simp only [hop, Op.operands] at he hv hho
    have hf := hho fresh rfl
    obtain ⟨u, u', rfl, h1, h2⟩ := RAs_two (v := a.eval x) (v' := a.eval y) hv
    split at he
    · rename_i q n q' m hx
      simp only [List.cons.injEq, and_true] at hx
      obtain ⟨rfl, rfl⟩ := hx
      split at he
      · rename_i τ e ht hel
        simp only [Option.some.injEq, Prod.mk.injEq, Bool.and_eq_true, decide_eq_true_eq] at he
        obtain ⟨⟨⟨k1, k2⟩, k3⟩, rfl, rfl⟩ := he
        exact ok_make hi tk hop hf h1 h2 ht hel k1 k2 k3
      · cases he
    · cases he
  | slice t x low high mx =>
    cases mx with
    | some m => simp [hop] at he
    | none =>
      simp only [hop, Op.operands] at he hv
      obtain ⟨s, r, rfl, h1, h2⟩ := RAs_cons (v := a.eval x) (vs := (low.toList ++ high.toList).map a.eval) (by cases low <;> cases high <;> simpa using hv)
      simp only at he
      split at he
      · rename_i lo hi' hb
        obtain ⟨b1, b2⟩ := bounds_sound hb h2
        split at he
        · rename_i τ l hl
          simp only [Option.some.injEq, Prod.mk.injEq] at he
          obtain ⟨k1, rfl, rfl⟩ := he
          rw [heapAfter_same (by simpa only [hop] using hho)]
          exact ok_slice hi tk hop h1 b1 b2 hl k1
        · split at he
          · rename_i l hl
            simp only [Option.some.injEq, Prod.mk.injEq] at he
            obtain ⟨k1, rfl, rfl⟩ := he
            rw [heapAfter_same (by simpa only [hop] using hho)]
            exact ok_slice_str hi tk hop h1 b1 b2 hl k1
          · cases he
      · cases he
  | extract x i =>
    simp only [hop, Op.operands] at he hv
    obtain ⟨u, rfl, hu⟩ := RAs_one (v := a.eval x) hv
    split at he
    · rename_i p hx
      simp only [List.cons.injEq, and_true] at hx
      subst hx
      split at he
      · rename_i u' hp
        simp only [Option.some.injEq, Prod.mk.injEq] at he
        obtain ⟨_, rfl, rfl⟩ := he
        exact ok_extract hi hop hu hp
      · cases he
    · cases he
  | makeFunc fn first captured =>
    simp only [hop, Op.operands] at he hv
    cases fn <;> simp only at he <;> first | (cases he; done) | skip
    split at he
    · rename_i hs
      simp only [Option.some.injEq, Prod.mk.injEq] at he
      obtain ⟨_, rfl, rfl⟩ := he
      have hfe : first = #[] := Array.size_eq_zero_iff.1 hs
      exact ok_makeFunc hi hop hs (by simpa [hfe] using hv)
    · cases he
  | call cl =>
    simp only [hop, Op.operands] at he hv hho
    cases hcl : cl.callee with
    | invoke r m => simp [hcl] at he
    | value x =>
      simp only [hcl] at he
      have hv : RAs c vals (a.eval x :: cl.args.toList.map a.eval) := by simpa [Call.operands, hcl] using hv
      obtain ⟨u, r, rfl, h1, h2⟩ := RAs_cons hv
      split at he
      · rename_i f args hx
        simp only [List.cons.injEq] at hx
        obtain ⟨rfl, rfl⟩ := hx
        split at he
        · rename_i b v hT
          simp only [Option.some.injEq, Prod.mk.injEq] at he
          obtain ⟨rfl, rfl, rfl⟩ := he
          have hm := ts f r _ hT
          have : heapAfter (.call cl) (.fn f .pnil :: r) fresh c.heap ho = c.heap := by
            simp only [heapAfter, touch, hcl]
          rw [this]
          exact ok_call hi hop hcl h1 h2 hm
        · cases he
      · cases he
    | builtin b =>
      simp only [hcl] at he
      have hv : RAs c vals (cl.args.toList.map a.eval) := by simpa [Call.operands, hcl] using hv
      cases b <;> simp only at he <;> first | (cases he; done) | skip
      case len =>
        have hh : heapAfter (.call cl) vals fresh c.heap ho = c.heap := heapAfter_same hho
        split at he
        · rename_i s
          have hal : ∃ x, cl.args = #[x] := by
            have := hv.length
            simp at this
            exact Array.size_eq_one_iff.1 this.symm
          obtain ⟨x, hx⟩ := hal
          rw [hx] at hv
          obtain ⟨u, e, hu⟩ := RAs_one (v := a.eval x) hv
          simp only [List.cons.injEq, and_true] at e
          subst e
          cases hty : cl.argTypes[0]? with
          | none =>
            rw [hty] at he
            simp [slOf, strOf] at he
          | some t =>
            rw [hty] at he
            simp only [Option.bind_some] at he
            split at he
            · rename_i τ l hl
              simp only [Option.some.injEq, Prod.mk.injEq] at he
              obtain ⟨_, rfl, rfl⟩ := he
              rw [hh]
              exact ok_len hi tk hop hcl hx hty hu hl
            · split at he
              · rename_i l hl
                simp only [Option.some.injEq, Prod.mk.injEq] at he
                obtain ⟨_, rfl, rfl⟩ := he
                rw [hh]
                exact ok_len_str hi tk hop hcl hx hty hu hl
              · cases he
        · cases he
      case append =>
        split at he
        · rename_i s x t1 t2 htys _
          have hty : cl.argTypes = #[t1, t2] := Array.ext' (by simpa using htys)
          have hal : ∃ p q, cl.args = #[p, q] := by
            have := hv.length
            simp at this
            match h : cl.args.toList, (by simpa using this.symm : cl.args.toList.length = 2) with
            | [p, q], _ => exact ⟨p, q, Array.ext' (by simpa using h)⟩
          obtain ⟨p, q, hpq⟩ := hal
          rw [hpq] at hv
          obtain ⟨u, u', e, h1, h2⟩ := RAs_two (v := a.eval p) (v' := a.eval q) hv
          simp only [List.cons.injEq, and_true] at e
          obtain ⟨rfl, rfl⟩ := e
          split at he
          · rename_i e12
            subst e12
            split at he
            · rename_i e τ l' hel hl
              split at he
              · rename_i k v t l _
                split at he
                · rename_i t' e' v'
                  split at he
                  · rename_i q1
                    split at he
                    · rename_i q2
                      split at he
                      · rename_i q3
                        split at he
                        · rename_i l2 hc
                          obtain ⟨et, hl2⟩ := cast?_some hc
                          injection et with et
                          subst et
                          have hl2 : l2 = l := hl2
                          subst hl2
                          subst q1; subst q2; subst q3
                          simp only [Option.some.injEq, Prod.mk.injEq, decide_eq_true_eq] at he
                          obtain ⟨k1, rfl, rfl⟩ := he
                          have htch : touch (.call cl) [.own k v' t' l2, x] fresh = some k := by simp only [touch, hcl]
                          have hk := hho k htch
                          have hh : heapAfter (.call cl) [.own k v' t' l2, x] fresh c.heap (.row t' e' (v' + 1)) = c.heap.set k (.row t' e' (v' + 1)) := by unfold heapAfter; rw [htch]
                          rw [hh]
                          exact ok_append hi tk hop hcl hpq hty h1 h2 hl hel hk k1
                        · cases he
                      · cases he
                    · cases he
                  · cases he
                · cases he
              · split at he
                · simp only [Option.some.injEq, Prod.mk.injEq, decide_eq_true_eq] at he
                  obtain ⟨k1, rfl, rfl⟩ := he
                  have htch : touch (.call cl) [.nil, x] fresh = some fresh := by simp only [touch, hcl]
                  have hf := hho fresh htch
                  have hh : heapAfter (.call cl) [.nil, x] fresh c.heap (.row τ e 1) = c.heap.set fresh (.row τ e 1) := by unfold heapAfter; rw [htch]
                  rw [hh]
                  exact ok_append_nil hi tk hop hcl hpq hty h1 h2 hl hel hf k1
                · cases he
              · cases he
            · cases he
          · cases he
        · cases he
  | _ => simp [hop] at he

theorem effM_sound (tk : TabOk P tab) (hi : Inv B w0 St0 c) {vals : List AV} (hv : RAs c vals (o.op.operands.toList.map a.eval)) {fresh : Nat} {ho : HO}
    (hho : ∀ k, touch o.op vals fresh = some k → c.heap[k]? = some ho) {out : AV} {ho' : HO} (he : effM tab o vals ho = some (true, out, ho')) : Ok P B w0 St0 o a c (heapAfter o.op vals fresh c.heap ho') out := by
  unfold effM at he
  split at he
  · rename_i τ e v' l
    have same : ∀ k, touch o.op vals fresh = some k → heapAfter o.op vals fresh c.heap (.mrow τ e v' l) = c.heap := fun k hk => by
      unfold heapAfter; rw [hk]; exact set_same (hho k hk)
    have after : ∀ k ho', touch o.op vals fresh = some k → heapAfter o.op vals fresh c.heap ho' = c.heap.set k ho' := fun k ho' hk => by
      unfold heapAfter; rw [hk]
    split at he
    · rename_i t x y hop
      rw [hop] at hv hho same
      split at he
      · rename_i k v lo hi' q n
        obtain ⟨u, u', e1, h1, h2⟩ := RAs_two (v := a.eval x) (v' := a.eval y) hv
        simp only [List.cons.injEq, and_true] at e1
        obtain ⟨rfl, rfl⟩ := e1
        split at he
        · rename_i q1
          subst q1
          split at he
          · rename_i q2
            split at he
            · simp only [Option.some.injEq, Prod.mk.injEq, Bool.and_eq_true, decide_eq_true_eq] at he
              obtain ⟨⟨k1, k2⟩, rfl, rfl⟩ := he
              rw [hop, same k rfl]
              exact ok_m_index hi tk hop h1 h2 (hho k rfl) q2 k1 k2
            · cases he
          · cases he
        · cases he
      · cases he
    · rename_i s x f hop
      rw [hop] at hv hho same
      split at he
      · rename_i k v i off
        obtain ⟨u, e1, h1⟩ := RAs_one (v := a.eval x) hv
        simp only [List.cons.injEq, and_true] at e1
        subst e1
        split at he
        · rename_i q1
          subst q1
          split at he
          · rename_i d hd
            simp only [Option.some.injEq, Prod.mk.injEq] at he
            obtain ⟨_, rfl, rfl⟩ := he
            rw [hop, same k rfl]
            exact ok_m_field hi tk hop h1 (hho k rfl) hd
          · cases he
        · cases he
      · cases he
    · rename_i t x hop
      rw [hop] at hv hho same
      split at he
      · rename_i k v i off
        obtain ⟨u, e1, h1⟩ := RAs_one (v := a.eval x) hv
        simp only [List.cons.injEq, and_true] at e1
        subst e1
        split at he
        · rename_i q1
          subst q1
          split at he
          · rename_i τ' ht
            split at he
            · rename_i y hy
              simp only [Option.some.injEq, Prod.mk.injEq] at he
              obtain ⟨_, rfl, rfl⟩ := he
              rw [hop, same k rfl]
              exact ok_m_load hi tk hop h1 (hho k rfl) ht hy
            · cases he
          · cases he
        · cases he
      · cases he
    · rename_i t x y hop
      rw [hop] at hv hho after
      split at he
      · rename_i k v i off u
        obtain ⟨u1, u2, e1, h1, h2⟩ := RAs_two (v := a.eval x) (v' := a.eval y) hv
        simp only [List.cons.injEq, and_true] at e1
        obtain ⟨rfl, rfl⟩ := e1
        split at he
        · rename_i q1
          subst q1
          split at he
          · rename_i τ' ht
            split at he
            · rename_i d hd
              split at he
              · rename_i z hz
                simp only [Option.some.injEq, Prod.mk.injEq] at he
                obtain ⟨_, rfl, rfl⟩ := he
                rw [hop, after k _ rfl]
                exact ok_m_store hi tk hop h1 h2 (hho k rfl) ht hd hz
              · cases he
            · cases he
          · cases he
        · cases he
      · cases he
    · rename_i t x low high hop
      rw [hop] at hv hho same
      split at he
      · rename_i k v lo hi' r
        obtain ⟨s, r', e1, h1, h2⟩ := RAs_cons (v := a.eval x) (vs := (low.toList ++ high.toList).map a.eval) (by cases low <;> cases high <;> simpa [Op.operands] using hv)
        simp only [List.cons.injEq] at e1
        obtain ⟨rfl, rfl⟩ := e1
        split at he
        · rename_i q1
          subst q1
          split at he
          · rename_i q2
            split at he
            · split at he
              · rename_i a1 b1 hb
                obtain ⟨g1, g2⟩ := bounds_sound hb h2
                simp only [Option.some.injEq, Prod.mk.injEq] at he
                obtain ⟨k1, rfl, rfl⟩ := he
                rw [hop, same k rfl]
                exact ok_m_slice hi tk hop h1 (hho k rfl) q2 g1 g2 k1
              · cases he
            · cases he
          · cases he
        · cases he
      · cases he
    · rename_i cl hop
      rw [hop] at hv hho same after
      split at he
      · rename_i hcl
        replace hv : RAs c vals (cl.args.toList.map a.eval) := by simpa [Op.operands, Call.operands, hcl] using hv
        split at he
        · rename_i k v lo hi'
          have hal : ∃ x, cl.args = #[x] := by
            have := hv.length
            simp at this
            exact Array.size_eq_one_iff.1 this.symm
          obtain ⟨x, hx⟩ := hal
          rw [hx] at hv
          obtain ⟨u, e1, hu⟩ := RAs_one (v := a.eval x) hv
          simp only [List.cons.injEq, and_true] at e1
          subst e1
          have htch : touch (.call cl) [.msl k v lo hi'] fresh = some k := by simp only [touch, hcl]
          split at he
          · rename_i q1
            subst q1
            split at he
            · rename_i q2
              simp only [Option.some.injEq, Prod.mk.injEq] at he
              obtain ⟨_, rfl, rfl⟩ := he
              rw [hop, same k htch]
              cases hty : cl.argTypes[0]? with
              | none => rw [hty] at q2; cases q2
              | some t =>
                rw [hty] at q2
                exact ok_m_len hi tk hop hcl hx hty hu (hho k htch) q2
            · cases he
          · cases he
        · cases he
      · rename_i hcl
        replace hv : RAs c vals (cl.args.toList.map a.eval) := by simpa [Op.operands, Call.operands, hcl] using hv
        split at he
        · rename_i k v m x t1 t2 htys
          have hty : cl.argTypes = #[t1, t2] := Array.ext' (by simpa using htys)
          have hal : ∃ p q, cl.args = #[p, q] := by
            have := hv.length
            simp at this
            match h : cl.args.toList, (by simpa using this.symm : cl.args.toList.length = 2) with
            | [p, q], _ => exact ⟨p, q, Array.ext' (by simpa using h)⟩
          obtain ⟨p, q, hpq⟩ := hal
          rw [hpq] at hv
          obtain ⟨u, u', e1, h1, h2⟩ := RAs_two (v := a.eval p) (v' := a.eval q) hv
          simp only [List.cons.injEq, and_true] at e1
          obtain ⟨rfl, rfl⟩ := e1
          have htch : touch (.call cl) [.msl k v 0 m, x] fresh = some k := by simp only [touch, hcl]
          split at he
          · rename_i e12
            subst e12
            split at he
            · rename_i q1
              subst q1
              split at he
              · rename_i e1 τ1 l' hel hl
                split at he
                · rename_i q2
                  subst q2
                  split at he
                  · rename_i l2 hc
                    obtain ⟨et, hl2⟩ := cast?_some hc
                    injection et with et
                    subst et
                    have hl2 : l2 = l' := hl2
                    subst hl2
                    simp only [Option.some.injEq, Prod.mk.injEq, decide_eq_true_eq] at he
                    obtain ⟨k1, rfl, rfl⟩ := he
                    rw [hop, after k _ htch]
                    obtain ⟨ht, hxv⟩ := slOf_sound hl h2
                    exact ok_m_append hi tk hop hcl hpq hty h1 ht (src_rep hxv) hel (hho k htch) k1
                  · cases he
                · cases he
              · cases he
            · cases he
          · cases he
        · cases he
      · cases he
    · cases he
  · cases he

theorem eff_sound (tk : TabOk P tab) (ts : SpecsOk P T) (hi : Inv B w0 St0 c) {g : Bool} (hg : g = true) {vals : List AV} (hv : RAs c vals (o.op.operands.toList.map a.eval)) {fresh : Nat} {ho : HO}
    (hho : ∀ k, touch o.op vals fresh = some k → c.heap[k]? = some ho) {out : AV} {ho' : HO} (he : eff tab T o g vals fresh ho = some (true, out, ho')) : Ok P B w0 St0 o a c (heapAfter o.op vals fresh c.heap ho') out := by
  unfold eff at he
  split at he
  · rename_i r hr
    injection he with he
    subst he
    exact effM_sound tk hi hv hho hr
  · exact effA_sound tk ts hi hg hv hho he

theorem effG_sound (tk : TabOk P tab) (hi : Inv B w0 St0 c) {vals : List AV} (hv : RAs c vals (o.op.operands.toList.map a.eval)) {out : AV} (he : effG tab o vals = some out) : Ok P B w0 St0 o a c c.heap out := by
  unfold effG at he
  split at he
  · rename_i t len parts hop
    rw [hop] at hv
    simp only [Op.operands] at hv
    split at he
    · rename_i τ e ht hel
      split at he
      · rename_i hs
        simp only [Bool.and_eq_true, decide_eq_true_eq] at hs
        split at he
        · rename_i l hl
          simp only [Option.some.injEq] at he
          subst he
          exact ok_buildSlice_val hi tk hop (by simpa using hv) ht hel hs.1.1 hs.1.2 hs.2 hl
        · cases he
      · cases he
    · cases he
  · cases he

end
end Go.Proofs.Ytfeijnbommgigaa.Abs
