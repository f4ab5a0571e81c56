/- One operation: what 'eff' says is what the model does. -/
import Derived.Test.YtboikinjlmjgjaaGreatAbsD
namespace Go.Proofs.YtboikinjlmjgjaaGreat.Abs
open Go Go.RowKit
def zl : Ty → List Value
 | .int k => [.int k 0]
 | .bool => [.bool false]
 | .str => [.string ⟨#[]⟩]
 | .slice _ => [.slice none 0 0]
 | .unit => []
 | .cons a b => zl a ++ zl b
 | .tree => [.int .i64 0, .string ⟨#[]⟩, .slice none 0 0, .slice none 0 0]
def pu : TypeDesc → Bool
 | .struct _ | .array _ _ => false
 | _ => true
def FOk (ty : TypeId → Option Ty) : List Field → List Ty → Nat → Prop
 | [], [], _ => True
 | f :: fs, a :: as, off => ty f.type = some a ∧ f.offset = off ∧ 0 < a.size ∧ f.name ≠ "_" ∧ FOk ty fs as (off + a.size)
 | _, _, _ => False
def RS (P : Program) (tab : Tab) (t : TypeId) : Ty → Prop
 | .int k => P.underlying t = some (.int k)
 | .bool => P.underlying t = some .bool
 | .str => P.underlying t = some .string
 | .slice a => ∃ e, P.underlying t = some (.slice e) ∧ tab.ty e = some a ∧ tab.elem t = some e ∧ 0 < a.size
 | τ => ∃ fs, P.underlying t = some (.struct fs) ∧ P.stoodInHeld t = false ∧ P.eqGuardType P.depth t = false ∧ FOk tab.ty fs.toList τ.fields 0
structure TabOk (P : Program) (tab : Tab) : Prop where
 ty : ∀ t τ, tab.ty t = some τ → ∃ i z, P.info? t = some i ∧ i.size = τ.size ∧ i.zero = some z ∧ z.cells.toList = zl τ ∧ i.bytes ≤ 16384 ∧ (τ.isStruct = true → ∃ cs, z = .agg cs) ∧ RS P tab t τ
 cells : ∀ t n, tab.cells t = some n → ∃ i z d, P.info? t = some i ∧ i.size = n ∧ i.zero = some z ∧ z.cells.size = n ∧ P.underlying t = some d ∧ (tab.ty t = none → n = 1 → pu d = true)
 offs : ∀ t i d, tab.offs t i = some d → ∃ fs f j, P.underlying t = some (.struct fs) ∧ fs[i]? = some f ∧ f.offset = d ∧ P.info? f.type = some j ∧ 0 < j.size
 elem : ∀ t e, tab.elem t = some e → P.underlying t = some (.slice e)
 one : ∀ t n, tab.one t = some n → ∃ fs i z, P.underlying t = some (.struct fs) ∧ fs.size = n ∧ (∀ (k : Nat) f, fs[k]? = some f → f.offset = k ∧ ∃ j, P.info? f.type = some j ∧ j.size = 1) ∧ P.info? t = some i ∧ i.zero = some z ∧ z.cells.size = n
 arr : ∀ t n, tab.arr t = some n → ∃ e i z j, P.underlying t = some (.array n e) ∧ P.info? e = some j ∧ j.size = 1 ∧ P.info? t = some i ∧ i.zero = some z ∧ z.cells.size = n
section
variable {P : Program} {tab : Tab}
theorem eL {t : TypeId} {τ : Ty} (hs : τ.isStruct = true) (h : RS P tab t τ) : ∃ fs, P.underlying t = some (.struct fs) ∧ P.stoodInHeld t = false ∧ P.eqGuardType P.depth t = false ∧ FOk tab.ty fs.toList τ.fields 0 := by
 cases τ <;> simp [Ty.isStruct] at hs <;> exact h
theorem EN (tk : TabOk P tab) {t : TypeId} {τ : Ty} (h : tab.ty t = some τ) (w : World) : (isAgg t).run P w = .ok τ.isStruct w := by
 obtain ⟨i, z, _, _, _, _, _, _, hu⟩ := tk.ty t τ h
 cases τ with
 | slice a => obtain ⟨e, he, _⟩ := hu; simp [isAgg, run_underlying he, Ty.isStruct]
 | int k => have hu : P.underlying t = some (.int k) := hu; simp [isAgg, run_underlying hu, Ty.isStruct]
 | bool => have hu : P.underlying t = some .bool := hu; simp [isAgg, run_underlying hu, Ty.isStruct]
 | str => have hu : P.underlying t = some .string := hu; simp [isAgg, run_underlying hu, Ty.isStruct]
 | unit => obtain ⟨fs, hf, _⟩ := hu; simp [isAgg, run_underlying hf, Ty.isStruct]
 | cons a b => obtain ⟨fs, hf, _⟩ := hu; simp [isAgg, run_underlying hf, Ty.isStruct]
 | tree => obtain ⟨fs, hf, _⟩ := hu; simp [isAgg, run_underlying hf, Ty.isStruct]
theorem cj (tk : TabOk P tab) {t : TypeId} {τ : Ty} (h : tab.ty t = some τ) (w : World) : (sizeOf t).run P w = .ok τ.size w := by
 obtain ⟨i, z, hi, hs, _⟩ := tk.ty t τ h
 simp [sizeOf, typeInfo, hi, hs]
theorem nN {τ : Ty} (h : τ.isStruct = false) : τ.size = 1 := by cases τ <;> simp [Ty.isStruct] at h <;> rfl
theorem cd (tk : TabOk P tab) {t : TypeId} {τ : Ty} (h : tab.ty t = some τ) (w : World) (ad : Addr) (ds : List Value) (hl : ds.length = τ.size) (hc : ∀ j u, ds[j]? = some u → w.cell? (ad.add j) = some u) :
  ∃ v, (loadVar t ad).run P w = .ok v w ∧ (if τ.isStruct then v = .agg ds.toArray else ds = [v]) := by
 simp only [loadVar, Sem.run_bind, EN tk h, Result.andThen_ok]
 cases hs : τ.isStruct with
 | true =>
  simp only [if_true, Sem.run_bind, cj tk h, Result.andThen_ok]
  rw [← hl, run_loadCells_list (P := P) w ad ds hc]
  simp
 | false =>
  have h1 := nN hs
  rw [h1] at hl
  match ds, hl with
  | [u], _ =>
   have := hc 0 u rfl
   rw [add_zero] at this
   simp [run_load, this]
theorem eu {w : World} {St : Nat → Nat → Prop} {τ : Ty} {x : τ.den} {ds : List Value} {v : Value} (h : Rep w St (toD τ x) ds) (hv : if τ.isStruct then v = .agg ds.toArray else ds = [v]) : cr w St τ x v := by
 unfold cr
 split
 ·rename_i hs; simp only [hs, if_true] at hv; exact ⟨ds, hv, h⟩
 ·rename_i hs; simp only [hs] at hv; simp only [Bool.false_eq_true, if_false] at hv; rw [hv] at h; exact h
end
section
variable {P : Program} {tab : Tab} {B : Bd} {w0 : World} {St0 : Nat → Nat → Prop} {c : Gh} {o : Oper} {a : Act}
def Ok (P : Program) (B : Bd) (w0 : World) (St0 : Nat → Nat → Prop) (o : Oper) (a : Act) (c : Gh) (heap' : List HO) (out : AV) : Prop :=
 ∀ (K : Act → World → Prop) (Q : Exit → Act → World → Prop), (∀ v c', c'.heap = heap' → Inv B w0 St0 c' → Ev c c' → RA c' out [v] → K (a.put o.dst v) c'.w) → o.wp P a c.w K Q
theorem cB {v : Value} {c' : Gh} {heap' : List HO} {out : AV} (hr : (execOp a.eval o).run P c.w = .ok (.value v) c'.w) (hh : c'.heap = heap') (hi : Inv B w0 St0 c') (he : Ev c c') (ho : RA c' out [v]) :
  Ok P B w0 St0 o a c heap' out := fun K Q h => by
 unfold Oper.wp
 rw [hr]
 exact h v c' hh hi he ho
theorem aC {v : Value} {out : AV} (hi : Inv B w0 St0 c) (hr : (execOp a.eval o).run P c.w = .ok (.value v) c.w) (ho : RA c out [v]) : Ok P B w0 St0 o a c c.heap out :=
 cB hr rfl hi (Ev.refl c) ho
theorem QM {x : Operand} (hi : Inv B w0 St0 c) (ho : o.op = .move x ∨ o.op = .assign x) {u : AV} (hv : RA c u [a.eval x]) : Ok P B w0 St0 o a c c.heap u := by
 refine aC hi (v := a.eval x) ?_ hv
 unfold execOp
 rcases ho with ho | ho <;> simp [ho]
theorem RA.val_inv {t : Ty} {x : t.den} {v : Value} (h : RA c (.val t x) [v]) : cr c.w c.St t x v := by
 obtain ⟨v', e, h⟩ := h
 simp at e; subst e; exact h
theorem dF {w : World} {St : Nat → Nat → Prop} {b : Bool} {v : Value} (h : cr w St .bool b v) : v = .bool b := by
 have h := (ay rfl).1 h
 obtain ⟨h, _⟩ := h
 simpa using h
theorem b6 {w : World} {St : Nat → Nat → Prop} {k : IntKind} {n : Int} {v : Value} (h : cr w St (.int k) n v) : v = .int k n := by
 have h := (ay rfl).1 h
 obtain ⟨h, _⟩ := h
 simpa using h
theorem uk {w : World} {St : Nat → Nat → Prop} {s : Str} {v : Value} (h : cr w St .str s v) : v = .string ⟨s.toArray⟩ := by
 have h := (ay rfl).1 h
 obtain ⟨h, _⟩ := h
 simpa using h
theorem KO (w : World) (St : Nat → Nat → Prop) (b : Bool) : cr w St .bool b (.bool b) := (ay rfl).2 ⟨rfl, rfl⟩
theorem NO (w : World) (St : Nat → Nat → Prop) (k : IntKind) (n : Int) : cr w St (.int k) n (.int k n) := (ay rfl).2 ⟨rfl, rfl⟩
theorem NN (w : World) (St : Nat → Nat → Prop) (s : Str) : cr w St .str s (.string ⟨s.toArray⟩) := (ay rfl).2 ⟨rfl, rfl⟩
theorem bP (b : Bool) : RA c (.val .bool b) [.bool b] := ⟨_, rfl, KO _ _ b⟩
theorem cw (k : IntKind) (n : Int) : RA c (.val (.int k) n) [.int k n] := ⟨_, rfl, NO _ _ k n⟩
theorem ww (s : Str) : RA c (.val .str s) [.string ⟨s.toArray⟩] := ⟨_, rfl, NN _ _ s⟩
theorem rW {need : Bool} {u : AV} {v : Value} (h : RA c u [v]) (hc : (uw need u).1 = true) (hn : need = true) : RA c (uw need u).2 [v] := by
 unfold uw at *
 split at hc
 ·rename_i g u'
  have hc : aM need g = true := hc
  rw [hn, mu] at hc
  simp only [RA, hc, if_true] at h
  exact h
 ·exact h
theorem aaz {x y z : Operand} (hi : Inv B w0 St0 c) (ho : o.op = .pick x y z) {b : Bool} {p q : AV} (hx : RA c (.val .bool b) [a.eval x]) (hy : b = true → RA c p [a.eval y]) (hz : b = false → RA c q [a.eval z])
  {t : Ty} {s r : t.den} (hp : p = .val t s) (hq : q = .val t r) : Ok P B w0 St0 o a c c.heap (.val t (bif b then s else r)) := by
 subst hp; subst hq
 have hb := dF hx.val_inv
 refine aC hi (v := if b then a.eval y else a.eval z) ?_ ?_
 ·unfold execOp
  simp [ho, hb, asBool]
 ·cases b
  ·exact hz rfl
  ·exact hy rfl
theorem cx {w : World} {St : Nat → Nat → Prop} : ∀ t : Ty, Rep w St (toD t (zero t)) (zl t)
 | .int _ => ⟨rfl, rfl⟩
 | .bool => ⟨rfl, rfl⟩
 | .str => ⟨rfl, rfl⟩
 | .slice _ => ⟨none, 0, 0, rfl, rfl, Nat.le_refl _, .inl rfl⟩
 | .unit => rfl
 | .cons a b => ⟨_, _, rfl, cx a, cx b⟩
 | .tree => ⟨[.int .i64 0], _, rfl, ⟨rfl, rfl⟩, [.string ⟨#[]⟩], _, rfl, ⟨rfl, rfl⟩, [.slice none 0 0], _, rfl, ⟨none, 0, 0, rfl, rfl, Nat.le_refl _, .inl rfl⟩, [.slice none 0 0], _, rfl, ⟨none, 0, 0, rfl, rfl, Nat.le_refl _, .inl rfl⟩, rfl⟩
theorem kL : ∀ t : Ty, RAs c (xt t) (zl t)
 | .int k => ⟨cw k 0, trivial⟩
 | .bool => ⟨bP false, trivial⟩
 | .str => ⟨ww [], trivial⟩
 | .slice _ => ⟨rfl, trivial⟩
 | .unit => trivial
 | .cons a b => (kL a).append (kL b)
 | .tree => ⟨cw .i64 0, ww [], rfl, rfl, trivial⟩
theorem Hi (hi : Inv B w0 St0 c) {fresh : Nat} (hf : c.heap[fresh]? = some .none) {t : TypeId} {arr : Array Value} {cells : List AV} (hr : RAs c cells arr.toList) :
  ∃ c', c'.w = c.w.alloc (.cells arr t) ∧ c'.heap = c.heap.set fresh (.box cells) ∧ Inv B w0 St0 c' ∧ Ev c c' ∧ RA c' (.box fresh 0) [.pointer (some ⟨c.w.heap.size, 0, none⟩)] := by
 obtain ⟨h1, e1⟩ := hi.grow (w' := c.w.alloc (.cells arr t)) (St' := c.St) ((Below.refl _ _).alloc (Nat.le_refl _) _) (fun _ _ x => x) (fun _ _ x => .inl x) (Nat.le_refl _)
 obtain ⟨h2, e2⟩ := h1.addBox (k := fresh) (g := c.w.heap.size) (arr := arr) (t := t) (cells := cells) hf (heap_alloc_new c.w _) hi.size (fun f => by have := hi.fl _ f; omega)
  (fun o x => by have := hi.bnd _ _ x; omega) (fun k' x => by have := (eR hi (k := k') x).1; omega) (hr.mono e1)
 refine ⟨_, rfl, rfl, h2, e1.trans e2, cells, ?_, ?_⟩
 ·show (c.heap.set fresh _)[fresh]? = _
  rw [aY, if_pos rfl, if_pos (az hf)]
 ·simp
theorem VO (hi : Inv B w0 St0 c) (tk : TabOk P tab) {t : TypeId} (ho : o.op = .alloc t) {fresh : Nat} (hf : c.heap[fresh]? = some .none) {τ : Ty} (ht : tab.ty t = some τ) :
  Ok P B w0 St0 o a c (c.heap.set fresh (.box (xt τ))) (.box fresh 0) := by
 obtain ⟨i, z, h1, h2, h3, h4, _⟩ := tk.ty t τ ht
 obtain ⟨c', hw, hh, hI, hE, hR⟩ := Hi (t := t) hi hf (arr := z.cells) (cells := xt τ) (by rw [h4]; exact kL τ)
 refine cB (v := .pointer (some ⟨c.w.heap.size, 0, none⟩)) ?_ hh hI hE hR
 rw [hw]
 unfold execOp
 simp [ho, Instr.alloc, zeroValue, typeInfo, h1, h3, newVar, newRow]
theorem zP : ∀ {n : Nat} {vs : List Value}, vs.length = n → RAs c (List.replicate n .unk) vs
 | 0, [], _ => trivial
 | n + 1, v :: vs, h => ⟨⟨v, rfl⟩, zP (by simpa using h)⟩
theorem Hg (hi : Inv B w0 St0 c) (tk : TabOk P tab) {t : TypeId} (ho : o.op = .alloc t) {fresh : Nat} (hf : c.heap[fresh]? = some .none) {n : Nat} (ht : tab.cells t = some n) :
  Ok P B w0 St0 o a c (c.heap.set fresh (.box (List.replicate n .unk))) (.box fresh 0) := by
 obtain ⟨i, z, d, h1, h2, h3, h4, _⟩ := tk.cells t n ht
 obtain ⟨c', hw, hh, hI, hE, hR⟩ := Hi (t := t) hi hf (arr := z.cells) (cells := List.replicate n .unk) (zP (by simpa using h4))
 refine cB (v := .pointer (some ⟨c.w.heap.size, 0, none⟩)) ?_ hh hI hE hR
 rw [hw]
 unfold execOp
 simp [ho, Instr.alloc, zeroValue, typeInfo, h1, h3, newVar, newRow]
theorem mc {u : AV} {v : Value} (h : RA c u [v]) (hu : u.solid = true) :
  RAs c (cellsOf u) v.cells.toList ∧ ∀ x ∈ v.cells.toList, x.oneCell' = true := by
 cases u with
 | unk => simp [AV.solid] at hu
 | cond g u => simp [AV.solid] at hu
 | tup p => simp [AV.solid] at hu
 | pcons a b => simp [AV.solid] at hu
 | pnil => simp [AV.solid] at hu
 | fix C w => simp [AV.solid] at hu
 | val t x => exact ⟨kv h.val_inv.cells, h.val_inv.cells.one⟩
 | nil =>
  have h : [v] = [.slice none 0 0] := h
  simp at h; subst h
  exact ⟨⟨rfl, trivial⟩, by simp [Value.cells, Value.oneCell']⟩
 | own k n t l =>
  have h' := h
  obtain ⟨s, e, r, _⟩ := h
  simp at e; subst e
  have hc := ((ay (t := .slice t) rfl).1 r)
  obtain ⟨A, n', cp, e, _⟩ := hc
  simp at e; subst e
  exact ⟨⟨h', trivial⟩, by simp [Value.cells, Value.oneCell']⟩
 | ref t x =>
  have h' := h
  obtain ⟨ad, ds, e, _⟩ := h
  simp at e; subst e
  exact ⟨⟨h', trivial⟩, by simp [Value.cells, Value.oneCell']⟩
 | box k off =>
  have h' := h
  obtain ⟨cs, _, e⟩ := h
  simp at e; subst e
  exact ⟨⟨h', trivial⟩, by simp [Value.cells, Value.oneCell']⟩
 | fn f caps =>
  have h' := h
  obtain ⟨cs, e, _⟩ := h
  simp at e; subst e
  exact ⟨⟨h', trivial⟩, by simp [Value.cells, Value.oneCell']⟩
 | agg p =>
  obtain ⟨cs, e, r, hc, h1⟩ := h
  simp at e; subst e
  exact ⟨by simpa [Value.cells, cellsOf] using r.parts hc, by simpa [Value.cells] using h1⟩
 | msl k n lo hi =>
  have h' := h
  obtain ⟨s, e, o1, _⟩ := h
  simp at e; subst e
  have hc : v.cells = #[v] := by cases v <;> simp_all [Value.oneCell', Value.cells]
  rw [hc]
  exact ⟨⟨h', trivial⟩, by simpa using o1⟩
 | yld j =>
  have h' := h
  obtain ⟨_, e⟩ := h
  simp at e; subst e
  exact ⟨⟨h', trivial⟩, by simp [Value.cells, Value.oneCell']⟩
 | mpt k n i off =>
  have h' := h
  obtain ⟨s, e, o1, _⟩ := h
  simp at e; subst e
  have hc : v.cells = #[v] := by cases v <;> simp_all [Value.oneCell', Value.cells]
  rw [hc]
  exact ⟨⟨h', trivial⟩, by simpa using o1⟩
theorem aew (hi : Inv B w0 St0 c) {t : TypeId} {x : Operand} (ho : o.op = .box t x) {fresh : Nat} (hf : c.heap[fresh]? = some .none) {u : AV} (hv : RA c u [a.eval x])
  (hu : u.solid = true) :
  Ok P B w0 St0 o a c (c.heap.set fresh (.box (cellsOf u))) (.box fresh 0) := by
 obtain ⟨hr, _⟩ := mc hv hu
 obtain ⟨c', hw, hh, hI, hE, hR⟩ := Hi (t := t) hi hf hr
 refine cB (v := .pointer (some ⟨c.w.heap.size, 0, none⟩)) ?_ hh hI hE hR
 rw [hw]
 unfold execOp
 simp [ho, Instr.box, newVar, newRow]
theorem np (hi : Inv B w0 St0 c) {k : Nat} {cells : List AV} (hk : c.heap[k]? = some (.box cells)) :
  ∃ arr t, c.w.heap[c.blk k]? = some (.cells arr t (0, 0)) ∧ RAs c cells arr.toList ∧ ∀ j, c.w.cell? ⟨c.blk k, j, none⟩ = arr.toList[j]? := by
 obtain ⟨arr, t, h1, _, _, h4⟩ := hi.box k cells hk
 refine ⟨arr, t, h1, h4, fun j => ?_⟩
 rw [cell_of_row c.w (c.blk k) j arr t (0, 0) h1]
 simp
theorem de (b off j : Nat) : (⟨b, off, none⟩ : Addr).add j = ⟨b, off + j, none⟩ := by unfold Addr.add; split <;> simp_all
theorem Bq (hi : Inv B w0 St0 c) (tk : TabOk P tab) {t : TypeId} {x : Operand} (ho : o.op = .load t x) {k off : Nat} (hv : RA c (.box k off) [a.eval x]) {cells : List AV} (hk : c.heap[k]? = some (.box cells)) {τ : Ty}
  (ht : tab.ty t = some τ) {y : τ.den} (hy : asm τ ((cells.drop off).take τ.size) = some y) : Ok P B w0 St0 o a c c.heap (.val τ y) := by
 obtain ⟨cs, hk', e⟩ := hv
 obtain ⟨arr, t', h1, h2, h3⟩ := np hi hk
 have hrep := ff hy ((h2.drop off).take τ.size)
 obtain ⟨v, hrun, hval⟩ := cd tk ht c.w ⟨c.blk k, off, none⟩ _ hrep.size (fun j u hu => by
  rw [de, h3, ← hu, List.getElem?_take]
  have hj : j < τ.size := by
   rcases Nat.lt_or_ge j τ.size with h | h
   ·exact h
   ·rw [List.getElem?_take, if_neg (by omega)] at hu; cases hu
  rw [if_pos hj, List.getElem?_drop])
 refine aC hi (v := v) ?_ ⟨v, rfl, eu hrep hval⟩
 unfold execOp
 simp at e
 simp [ho, e, Instr.loadAt, Instr.sureAddr, hrun]
theorem wq {t : TypeId} {d : TypeDesc} (hd : P.underlying t = some d) (hn : pu d = true) (w : World) (ad : Addr) (u : Value) (hc : w.cell? ad = some u) : (loadVar t ad).run P w = .ok u w := by
 have : (isAgg t).run P w = .ok false w := by
  cases d <;> simp [isAgg, run_underlying hd, pu] at hn ⊢
 simp [loadVar, this, run_load, hc]
theorem uA (hi : Inv B w0 St0 c) {t : TypeId} {x : Operand} (ho : o.op = .load t x) {k off : Nat} (hv : RA c (.box k off) [a.eval x]) {cells : List AV} (hk : c.heap[k]? = some (.box cells)) {d : TypeDesc} (hd : P.underlying t = some d)
  (hn : pu d = true) {u : AV} (hu : cells[off]? = some u) : Ok P B w0 St0 o a c c.heap u := by
 obtain ⟨cs, hk', e⟩ := hv
 obtain ⟨arr, t', h1, h2, h3⟩ := np hi hk
 obtain ⟨v, hv1, hv2⟩ := h2.get off u hu
 refine aC hi (v := v) ?_ hv2
 unfold execOp
 simp at e
 simp [ho, e, Instr.loadAt, Instr.sureAddr, wq hd hn c.w ⟨c.blk k, off, none⟩ v ((h3 off).trans hv1)]
theorem Ad {t : TypeId} {τ : Ty} (hs : τ.isStruct = false) (h : RS P tab t τ) : ∃ d, P.underlying t = some d ∧ pu d = true := by
 cases τ with
 | int k => exact ⟨_, h, rfl⟩
 | bool => exact ⟨_, h, rfl⟩
 | str => exact ⟨_, h, rfl⟩
 | slice t => obtain ⟨e, he, _⟩ := h; exact ⟨_, he, rfl⟩
 | _ => simp [Ty.isStruct] at hs
theorem Lj (hi : Inv B w0 St0 c) (tk : TabOk P tab) {t : TypeId} {x : Operand} (ho : o.op = .load t x) {τ : Ty} {y : τ.den} (hv : RA c (.ref τ y) [a.eval x]) (ht : tab.ty t = some τ) : Ok P B w0 St0 o a c c.heap (.val τ y) := by
 obtain ⟨ad, ds, e, hs, hd, hc⟩ := hv
 obtain ⟨v, hrun, hval⟩ := cd tk ht c.w ad ds hd.size (fun j u hu => (hc j u hu).1)
 refine aC hi (v := v) ?_ ⟨v, rfl, eu hd hval⟩
 unfold execOp
 simp at e
 simp [ho, e, Instr.loadAt, Instr.sureAddr, hrun]
theorem VJ (hi : Inv B w0 St0 c) (tk : TabOk P tab) {t : TypeId} {x y : Operand} (ho : o.op = .store t x y) {k off : Nat} {u : AV} (hx : RA c (.box k off) [a.eval x]) (hy : RA c u [a.eval y]) {cells : List AV} (hk : c.heap[k]? = some (.box cells))
  (hu : u.solid = true) (hoff : off + (cellsOf u).length ≤ cells.length) (ht : tab.cells t = some (cellsOf u).length) :
  Ok P B w0 St0 o a c (c.heap.set k (.box (Gw cells off (cellsOf u)))) .unk := by
 obtain ⟨hr, h1c⟩ := mc hy hu
 obtain ⟨cs, hk', e⟩ := hx
 obtain ⟨arr, t', h1, h2, h3⟩ := np hi hk
 obtain ⟨i, z, d, hinfo, hsz, _⟩ := tk.cells t _ ht
 have hlen := h2.length
 have hlen' := hr.length
 have hfit : off + 0 + (a.eval y).cells.toList.length ≤ arr.size := by rw [← hlen']; simp at hlen; omega
 have hst := run_storeCells_at (P := P) (c.blk k) off t' (a.eval y).cells.toList 0 arr c.w h1 hfit h1c
 obtain ⟨hI, hE⟩ := hi.setBox (cells' := Gw cells off (cellsOf u)) (arr' := (arr.toList.take off ++ (a.eval y).cells.toList ++ arr.toList.drop (off + (a.eval y).cells.toList.length)).toArray) hk h1 (by
  have := ((h2.take off).append hr).append (h2.drop (off + (cellsOf u).length))
  rw [hlen'] at this
  unfold Gw
  rw [hlen']
  simpa using this)
 intro K Q h
 have hrun : (execOp a.eval o).run P c.w = .ok .skip (c.w.setRow (c.blk k) (arr.toList.take off ++ (a.eval y).cells.toList ++ arr.toList.drop (off + (a.eval y).cells.toList.length)).toArray) := by
  unfold execOp
  simp at e
  have hcs : (a.eval y).cells.size = i.size := by rw [hsz, hlen']; simp
  simp only [Nat.add_zero] at hst
  simp [ho, e, Instr.storeAt, Instr.sureAddr, storeVar, sizeOf, typeInfo, hinfo, hcs, hst]
 unfold Oper.wp
 rw [hrun]
 exact h undef _ rfl hI hE ⟨_, rfl⟩
theorem wB (hi : Inv B w0 St0 c) (tk : TabOk P tab) {s : TypeId} {x : Operand} {f : Nat} (ho : o.op = .fieldAddr s x f) {k off d : Nat} (hx : RA c (.box k off) [a.eval x]) (hd : tab.offs s f = some d) :
  Ok P B w0 St0 o a c c.heap (.box k (off + d)) := by
 obtain ⟨cs, hk, e⟩ := hx
 obtain ⟨fs, fl, j, h1, h2, h3, h4, h5⟩ := tk.offs s f d hd
 refine aC hi (v := .pointer (some ⟨c.blk k, off + d, none⟩)) ?_ ⟨cs, hk, rfl⟩
 unfold execOp
 simp at e
 have hj : ¬ j.size = 0 := by omega
 simp [ho, e, Instr.fieldAt, run_underlying h1, h2, Instr.sureAddr, fieldPlace, sizeOf, typeInfo, h4, hj, de, h3]
end
end Go.Proofs.YtboikinjlmjgjaaGreat.Abs
