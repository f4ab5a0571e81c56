/- Functions that turn a struct of data behind a pointer: their contracts. -/
import Derived.Test.YtboikinjlmjgjaaGreatAbsX
namespace Go.Proofs.YtboikinjlmjgjaaGreat.Abs
open Go Go.RowKit
def AV.isVal : AV → Bool
 | .val _ _ => true
 | _ => false
def AH (tab : Tab) (rs : List ResultVar) (τ : Ty) (tys : List Ty) : KT := fun e σ =>
 match e with
 | .exit _ => none
 | _ => match fB tab σ rs, (σ.heap[0]? : Option HO) with
  | some l, some (.box cells) => match Dc σ.heap tys l, asm τ cells with
   | some l, some x => some (.pcons (.val τ x) (ux l))
   | _, _ => none
  | _, _ => none
def Sz (fi : FuncId → Option Fi) (hs : Hs) (d : Nat) (x : Fi) (τ : Ty) (tys : List Ty) (fuel : Nat) (p : τ.den) (args : List AV) : Option AV :=
 be (aH fi hs fuel d) x.S 1 fuel x.code ⟨.box 0 0 :: args ++ List.replicate (x.ntmps - (args.length + 1)) .unk, [.box (sU τ p)]⟩ (AH x.S.tab x.results τ tys)
def Jp (τ : Ty) (R : τ.den → List AV → Option (Bool × τ.den × AV)) : Bnt := fun cells aG => match aG.all AV.isVal with
 | true => match asm τ cells with
  | some p => match R p aG with
   | some (b, p', out) => some (b, sU τ p', out)
   | none => none
  | none => none
 | false => none
section
variable {P : Program} {B : Bd} {w0 : World} {St0 : Nat → Nat → Prop} {c : Gh}
theorem ad7 {c c' : Gh} {u : AV} {v : Value} (hu : u.isVal = true) (hw : c'.w = c.w) (hs : ∀ b o, c.St b o → c'.St b o) (h : RA c u [v]) : RA c' u [v] := by
 cases u with
 | val t x =>
  obtain ⟨v', e, r⟩ := h
  exact ⟨v', e, r.mono hs (fun _ _ _ _ y => by rw [hw]; exact y)⟩
 | _ => cases hu
theorem Gq {c c' : Gh} (hw : c'.w = c.w) (hs : ∀ b o, c.St b o → c'.St b o) : ∀ {us : List AV} {vs : List Value}, us.all AV.isVal = true → RAs c us vs → RAs c' us vs
 | [], [], _, _ => trivial
 | _ :: _, _ :: _, hu, ⟨h1, h2⟩ => by
  simp only [List.all_cons, Bool.and_eq_true] at hu
  exact ⟨ad7 hu.1 hw hs h1, Gq hw hs hu.2 h2⟩
theorem FM {heap : List HO} : ∀ {ts : List Ty} {l l' : List AV}, Dc heap ts l = some l' → l'.all AV.isVal = true
 | [], [], l', h => by
  simp only [Dc, Option.some.injEq] at h
  subst h
  rfl
 | t :: ts, u :: l, l', h => by
  simp only [Dc] at h
  split at h
  ·rename_i x r' hx hr'
   simp only [Option.some.injEq] at h
   subst h
   simp only [List.all_cons, AV.isVal, Bool.true_and]
   exact FM hr'
  ·cases h
theorem Inv.turned (hI : Inv B w0 St0 c) {k : Nat} {cells cells' : List AV} (hk : c.heap[k]? = some (.box cells)) {w' : World} {arr' : Array Value} {t' : TypeId} (hbel : Below B.b c.w w') (hdr : c.w.drawn ≤ w'.drawn)
  (hoth : ∀ (b : Nat) (o : Obj), c.w.heap[b]? = some o → o.isCells = false → w'.heap[b]? = some o) (same : ∀ b, b < c.w.heap.size → b ≠ c.blk k → w'.heap[b]? = c.w.heap[b]?)
  (hnew : w'.heap[c.blk k]? = some (.cells arr' t' (0, 0)))
  (hcells : RAs { c with w := w', heap := c.heap.set k (.box cells'), St := fun b o => c.St b o ∨ (c.w.heap.size ≤ b ∧ b < w'.heap.size) } cells' arr'.toList) :
  Inv B w0 St0 { c with w := w', heap := c.heap.set k (.box cells'), St := fun b o => c.St b o ∨ (c.w.heap.size ≤ b ∧ b < w'.heap.size) } ∧ Ev c { c with w := w', heap := c.heap.set k (.box cells'), St := fun b o => c.St b o ∨ (c.w.heap.size ≤ b ∧ b < w'.heap.size) } := by
 obtain ⟨arr, t, b1, b2, b3, b4⟩ := hI.box k cells hk
 have hlt := az hk
 have hok : obk c k = some (c.blk k) := by unfold obk; rw [hk]
 have hbl := (Array.getElem?_eq_some_iff.1 b1).1
 have old : ∀ i, i ≠ k → (c.heap.set k (.box cells'))[i]? = c.heap[i]? := fun i hi => by rw [aY, if_neg (fun e => hi e.symm)]
 have new : (c.heap.set k (.box cells'))[k]? = some (.box cells') := by rw [aY, if_pos rfl, if_pos hlt]
 have ev : Ev c { c with w := w', heap := c.heap.set k (.box cells'), St := fun b o => c.St b o ∨ (c.w.heap.size ≤ b ∧ b < w'.heap.size) } := by
  refine ⟨fun _ _ x => .inl x, fun a v hst _ hc => ?_, fun i cs x => ?_, fun i t e v x => ?_, fun i t e v l x => ?_, fun i x => ?_, fun _ _ => rfl⟩
  ·exact (World.cell?_of_block (same a.block (hI.bnd _ _ hst) (fun e => b3 a.off (e ▸ hst)))).trans hc
  ·by_cases hi : i = k
   ·subst hi; exact ⟨cells', new, rfl⟩
   ·exact ⟨cs, (old i hi).trans x, rfl⟩
  ·have hi : i ≠ k := fun e => by subst e; rw [hk] at x; cases x
   exact ⟨t, e, v, (old i hi).trans x, Nat.le_refl _, fun _ => rfl⟩
  ·have hi : i ≠ k := fun e => by subst e; rw [hk] at x; cases x
   exact .inl ⟨v, l, (old i hi).trans x, Nat.le_refl _, fun _ => rfl⟩
  ·have hi : i ≠ k := fun e => by subst e; rw [hk] at x; cases x
   exact (old i hi).trans x
 have hob : ∀ i, obk { c with w := w', heap := c.heap.set k (.box cells'), St := fun b o => c.St b o ∨ (c.w.heap.size ≤ b ∧ b < w'.heap.size) } i = obk c i := fun i => by
  by_cases hi : i = k
  ·subst hi; unfold obk; simp only [new, hk]
  ·exact eZ (old i hi) rfl rfl
 have keepO : ∀ i b, i ≠ k → obk c i = some b → w'.heap[b]? = c.w.heap[b]? := fun i b hi hb =>
  same b (eR hI hb).1 (fun e => hI.sep i k b hi hb (by rw [e]; exact hok))
 have noNew : ∀ b o, b < c.w.heap.size → (c.St b o ∨ (c.w.heap.size ≤ b ∧ b < w'.heap.size)) → c.St b o := fun b o hb x => by
  rcases x with x | x
  ·exact x
  ·omega
 refine ⟨⟨hI.below.trans hbel, Nat.le_trans hI.size hbel.size, ?_, fun b o x => .inl (hI.st0 b o x), ?_, ?_, ?_, ?_, ?_, hI.drawn.trans ⟨hdr, hoth, fun b f => same b (hI.fl b f) (fun e => hI.fo k b (by rw [e]; exact hok) f)⟩, fun i b hb => hI.fo i b (by rw [hob i] at hb; exact hb), fun b f => Nat.lt_of_lt_of_le (hI.fl b f) hbel.size⟩, ev⟩
 ·intro b o x
  rcases x with x | x
  ·exact Nat.lt_of_lt_of_le (hI.bnd b o x) hbel.size
  ·exact x.2
 ·intro b o x
  rcases x with x | x
  ·exact hI.stN b o x
  ·exact .inr ⟨Nat.le_trans hI.size x.1, fun f => by have := hI.fl b f; omega⟩
 ·intro i cs hi
  by_cases ei : i = k
  ·subst ei
   have := new.symm.trans hi
   injection this with this
   injection this with this
   subst this
   exact ⟨arr', t', hnew, b2, fun o x => b3 o (noNew _ o hbl x), hcells⟩
  ·have hi := (old i ei).symm.trans hi
   obtain ⟨a1, t1, q1, q2, q3, q4⟩ := hI.box i cs hi
   have hoi : obk c i = some (c.blk i) := by unfold obk; rw [hi]
   exact ⟨a1, t1, (keepO i _ ei hoi).trans q1, q2, fun o x => q3 o (noNew _ o (Array.getElem?_eq_some_iff.1 q1).1 x), q4.mono ev⟩
 ·intro i t1 e1 v1 hi
  have ei : i ≠ k := fun e => by subst e; have := new.symm.trans hi; injection this with this; cases this
  have hi := (old i ei).symm.trans hi
  obtain ⟨n1, xs1, q1, q2⟩ := hI.row i t1 e1 v1 hi
  have hoi : obk c i = (c.rv i).ownBlock := by unfold obk; rw [hi]
  refine ⟨n1, xs1, ⟨q1.1, ?_⟩, fun b hb o hle x => q2 b hb o hle (noNew b o (eR hI (hoi.trans hb)).1 x)⟩
  rcases q1.2 with x | ⟨g, cap, cur, r1, r2, r3, r⟩
  ·exact .inl x
  ·exact .inr ⟨g, cap, cur, r1, r2, (keepO i g ei (by rw [hoi, r1]; rfl)).trans r3, r⟩
 ·intro i j b hij hb hb'
  rw [hob] at hb hb'
  exact hI.sep i j b hij hb hb'
 ·intro i t1 e1 v1 l1 hi
  have ei : i ≠ k := fun e => by subst e; have := new.symm.trans hi; injection this with this; cases this
  have hi := (old i ei).symm.trans hi
  obtain ⟨xs1, q1, qr, q2⟩ := hI.mrow i t1 e1 v1 l1 hi
  have hoi : obk c i = (c.rv i).ownBlock := by unfold obk; rw [hi]
  refine ⟨xs1, ⟨q1.1, ?_⟩, qr.mono ev.st ev.cell, fun b hb o x => q2 b hb o (noNew b o (eR hI (hoi.trans hb)).1 x)⟩
  rcases q1.2 with x | ⟨g, cap, cur, r1, r2, r3, r⟩
  ·exact .inl x
  ·exact .inr ⟨g, cap, cur, r1, r2, (keepO i g ei (by rw [hoi, r1]; rfl)).trans r3, r⟩
theorem tp (hm : P.follows .mixedOrders = true) {fi : FuncId → Option Fi} {hs : Hs} (hfi : ∀ f x, fi f = some x → FiOk P f x) (hhs : gx P hs) {d : Nat} {f : FuncId} {x : Fi} (hx : FiOk P f x) {τ : Ty} {tys : List Ty} {R : τ.den → List AV → Option (Bool × τ.den × AV)}
  (h : ∀ p args p' out, args.all AV.isVal = true → R p args = some (true, p', out) → ∃ fuel, Sz fi hs d x τ tys fuel p args = some (.pcons (.val τ p') out)) : dS P f (Jp τ R) := by
 obtain ⟨⟨fn, f1, f2, f3, f4, f5⟩, tk, ts⟩ := hx
 intro cells aG cells' out he
 refine ⟨⟨fn, f1, by simp [f2], f5⟩, fun B w0 St0 c hI k hk vs hr => ?_⟩
 unfold Jp at he
 split at he
 ·rename_i hall
  ··split at he
    ·rename_i p hp
     split at he
     ·rename_i b p' out' hR
      simp only [Option.some.injEq, Prod.mk.injEq] at he
      obtain ⟨rfl, rfl, rfl⟩ := he
      obtain ⟨fuel, hrun⟩ := h p aG p' out' hall hR
      match vs, hr with
      | v :: vs, ⟨hv, hrest⟩ =>
      have hv0 := hv
      obtain ⟨_, _, ev⟩ := hv
      simp only [List.cons.injEq, and_true] at ev
      obtain ⟨arr, t, b1, b2, b3, b4⟩ := hI.box k cells hk
      have hbl := (Array.getElem?_eq_some_iff.1 b1).1
      have hrep : Rep c.w c.St (toD τ p) arr.toList := ff hp b4
      have hIs : Inv ⟨B.b, fun b => b < c.w.heap.size ∧ b ≠ c.blk k⟩ c.w c.St ⟨[.box (sU τ p)], c.St, fun _ => c.blk k, fun _ => .slice none 0 0, c.w, fun _ => 0⟩ := by
       refine ⟨Below.refl _ _, hI.size, hI.bnd, fun _ _ x => x, fun _ _ x => .inl x, fun i cs hi => ?_, fun i t e v hi => ?_, fun i j b hij hb hb' => ?_, fun i t e v l hi => ?_, Og.refl _, fun i b hb f => ?_, fun b f => f.1⟩
       ·cases i with
        | zero =>
         simp only [List.getElem?_cons_zero, Option.some.injEq, HO.box.injEq] at hi
         subst hi
         exact ⟨arr, t, b1, b2, b3, kv hrep⟩
        | succ i => simp at hi
       ·cases i with
        | zero => simp at hi
        | succ i => simp at hi
       ·cases i with
        | zero =>
         cases j with
         | zero => exact hij rfl
         | succ j => simp [obk] at hb'
        | succ i => simp [obk] at hb
       ·cases i with
        | zero => simp at hi
        | succ i => simp at hi
       ·cases i with
        | zero =>
         simp only [obk, List.getElem?_cons_zero, Option.some.injEq] at hb
         exact f.2 hb.symm
        | succ i => simp [obk] at hb
      have hptr : RAs (⟨[.box (sU τ p)], c.St, fun _ => c.blk k, fun _ => .slice none 0 0, c.w, fun _ => 0⟩ : Gh) [.box 0 0] [v] := ⟨⟨_, rfl, by rw [ev]⟩, trivial⟩
      have hrest' : RAs (⟨[.box (sU τ p)], c.St, fun _ => c.blk k, fun _ => .slice none 0 0, c.w, fun _ => 0⟩ : Gh) aG vs := Gq (c := c) (c' := ⟨[.box (sU τ p)], c.St, fun _ => c.blk k, fun _ => .slice none 0 0, c.w, fun _ => 0⟩) rfl (fun _ _ x => x) hall hrest
      refine callsIn_wide.1 (callsIn_of_wp_marks (F := RF none) (n := 0) f1 f2 trivial (wpIn_mono (kB hm tk ts (oq hm hfi hhs d) x.code none 0 [([.box 0 0], [v])] 1 ⟨B.b, fun b => b < c.w.heap.size ∧ b ≠ c.blk k⟩ c.w c.St _ (fun _ e => by cases e) (fun _ h => by cases h) (.inl rfl) _ _ _ c.w (Nat.le_refl _) hrun ⟨⟨[.box (sU τ p)], c.St, fun _ => c.blk k, fun _ => .slice none 0 0, c.w, fun _ => 0⟩, c.w, rfl, rfl, hIs, ?_, lU.none _ _, fun fr hfr => ?_⟩) fun e a w' hn => ?_))
      ·have := nn (RAs.append hptr hrest') (x.ntmps - (aG.length + 1))
       rw [f3]
       have hlen := hrest.length
       simpa [hlen, Nat.add_comm] using this
      ·rw [List.mem_singleton.1 hfr]
       exact ⟨hptr, rfl⟩
      ·have fin : ∀ σ', (match fB x.S.tab σ' x.results, (σ'.heap[0]? : Option HO) with | some l, some (.box cells) => (match Dc σ'.heap tys l, asm τ cells with | some l, some x => some (AV.pcons (.val τ x) (ux l)) | _, _ => none) | _, _ => none) = some (.pcons (.val τ p') out') → Rel [([.box 0 0], [v])] 1 ⟨B.b, fun b => b < c.w.heap.size ∧ b ≠ c.blk k⟩ c.w c.St σ' a w' ∧ 1 ≤ σ'.heap.length →
         LeavesInM (RF none) 0 P fn a.tmps (fun e w' => ∃ v c2, e = .returned v ∧ c2.heap = c.heap.set k (.box (sU τ p')) ∧ c2.w = w' ∧ Inv B w0 St0 c2 ∧ Ev c c2 ∧ RA c2 out' [v]) a.defers .returning w' := by
        rintro σ' h1 ⟨⟨c1, w1, rfl, hh1, hI1, hE1, ⟨hb1, ho1, ms, hms, hnod, hmk⟩, hfs1⟩, hle⟩
        rw [hms]
        refine e7 ms c1 w1 hI1 hnod (fun D hD => ⟨(hmk D hD).1, hI1.drawn.keep D _ (hmk D hD).2.2.1 rfl⟩) (fun c' w2 g1 hI2 hE2 g4 g5 g6 => ?_)
        have hh' : c'.heap = σ'.heap := g1.trans hh1
        have hE' := hE1.mono hE2
        have ho' : Og (fun b => b < c.w.heap.size ∧ b ≠ c.blk k) c.w c'.w := ⟨by rw [g5]; exact (ho1.trans hI1.drawn).dr, fun k o x y => by
         rw [g6 k (fun hm => by have := (hmk k hm).2.1; have := (Array.getElem?_eq_some_iff.1 x).1; omega)]
         exact (ho1.trans hI1.drawn).keep k o x y, fun k f => by
         rw [g6 k (fun hm => (hmk k hm).2.2.2 f)]
         exact (ho1.trans hI1.drawn).kb k f⟩
        have hI' : Inv ⟨B.b, fun b => b < c.w.heap.size ∧ b ≠ c.blk k⟩ c.w c.St c' := hI2.base ((hb1.trans hI1.below).trans g4) ho'
        split at h1
        ·rename_i l cells1 hl hc1
         split at h1
         ·rename_i l' p1 hl' hp1
          simp only [Option.some.injEq, AV.pcons.injEq] at h1
          obtain ⟨e1, rfl⟩ := h1
          injection e1 with _ e1
          subst e1
          rw [← f4] at hl
          obtain ⟨v', vs', q1, q2, q3⟩ := er tk hI' hh' hE' hl
          have hbk : c'.blk 0 = c.blk k := by
           have := ((hfs1 _ (List.mem_singleton.2 rfl)).1.mono hE2).1
           obtain ⟨_, _, e2⟩ := this
           simp only [List.cons.injEq, and_true] at e2
           rw [ev] at e2
           injection e2 with e2
           injection e2 with e2
           injection e2 with e2
           exact e2.symm
          rw [← hh'] at hc1
          obtain ⟨arr', t', a1, a2, a3, a4⟩ := hI'.box 0 cells1 hc1
          rw [hbk] at a1 a3
          have st' : ∀ b o, c'.St b o → c.St b o ∨ (c.w.heap.size ≤ b ∧ b < c'.w.heap.size) := fun b o x => by
           rcases hI'.stN b o x with y | ⟨_, y⟩
           ·exact .inl y
           ·have hbn := hI'.bnd b o x
            rcases Nat.lt_or_ge b c.w.heap.size with z | z
            ·by_cases eb : b = c.blk k
             ·subst eb; exact absurd x (a3 o)
             ·exact absurd ⟨z, eb⟩ y
            ·exact .inr ⟨z, hbn⟩
          rw [← hh'] at hl'
          have mr' : ∀ (k' b o : Nat) (t : Ty) (e : TypeId) (v : Nat) (l : List t.den), c'.heap[k']? = some (.mrow t e v l) → (c'.rv k').ownBlock = some b → c.St b o ∨ (c.w.heap.size ≤ b ∧ b < c'.w.heap.size) := fun k' b o t e v l hk' hb => by
           have ho : obk c' k' = some b := by unfold obk; rw [hk']; exact hb
           have h0 : obk c' 0 = some (c.blk k) := by unfold obk; rw [hc1, hbk]
           have hne : k' ≠ 0 := fun e => by rw [e, hc1] at hk'; cases hk'
           have hnb : b ≠ c.blk k := fun e => hI'.sep k' 0 b hne ho (by rw [e]; exact h0)
           have hf := hI'.fo k' b ho
           refine .inr ⟨?_, (eR hI' ho).1⟩
           rcases Nat.lt_or_ge b c.w.heap.size with z | z
           ·exact absurd ⟨z, hnb⟩ hf
           ·exact z
          obtain ⟨i1, i2⟩ := hI.turned hk (w' := c'.w) (cells' := sU τ p1) (arr' := arr') (t' := t') hI'.below hI'.drawn.dr hI'.drawn.keep (fun b hb hne => hI'.drawn.kb b ⟨hb, hne⟩) a1
           (kv ((ff hp1 a4).mono st' (fun _ _ _ _ y => y)))
          exact ⟨v', q1, v', { c with w := c'.w, heap := c.heap.set k (.box (sU τ p1)), St := fun b o => c.St b o ∨ (c.w.heap.size ≤ b ∧ b < c'.w.heap.size) }, rfl, rfl, rfl, i1, i2, by rw [q3]; exact pv (Gq (c := aX c'.w (fun b o => c.St b o ∨ (c.w.heap.size ≤ b ∧ b < c'.w.heap.size))) (c' := { c with w := c'.w, heap := c.heap.set k (.box (sU τ p1)), St := fun b o => c.St b o ∨ (c.w.heap.size ≤ b ∧ b < c'.w.heap.size) }) rfl (fun _ _ x => x) (FM hl') (ta hI' st' mr' hl' q2))⟩
         ·cases h1
        ·cases h1
       cases e with
       | normal => obtain ⟨σ', h1, h2⟩ := hn; exact fin σ' h1 h2
       | ret => obtain ⟨σ', h1, h2⟩ := hn; exact fin σ' h1 h2
       | exit id => obtain ⟨σ', h1, _⟩ := hn; cases h1
       | goto l => exact hn.elim
       | panic ch => exact hn.elim
       | outgrown => exact hn.elim
     ·cases he
    ·cases he
 ·cases he
end
def bx0 (τ : Ty) (G : τ.den → Bool) (F : τ.den → τ.den × AV) : τ.den → List AV → Option (Bool × τ.den × AV) := fun p args => match args with
 | [] => some (G p, F p)
 | _ => none
def bx1 (τ a : Ty) (G : τ.den → a.den → Bool) (F : τ.den → a.den → τ.den × AV) : τ.den → List AV → Option (Bool × τ.den × AV) := fun p args => match args with
 | [x] => match dat? a x with
  | some x => some (G p x, F p x)
  | none => none
 | _ => none
theorem akc {P : Program} (hm : P.follows .mixedOrders = true) {fi : FuncId → Option Fi} {hs : Hs} (hfi : ∀ f x, fi f = some x → FiOk P f x) (hhs : gx P hs) {d : Nat} {f : FuncId} {x : Fi} (hx : FiOk P f x) {τ : Ty} {tys : List Ty} {G : τ.den → Bool} {F : τ.den → τ.den × AV}
  (h : ∀ p, G p = true → ∃ fuel, Sz fi hs d x τ tys fuel p [] = some (.pcons (.val τ (F p).1) (F p).2)) : dS P f (Jp τ (bx0 τ G F)) :=
 tp hm hfi hhs hx (d := d) (tys := tys) fun p args p' out _ he => by
  unfold bx0 at he
  split at he
  ·simp only [Option.some.injEq, Prod.mk.injEq] at he
   obtain ⟨h1, h2⟩ := he
   have h3 : F p = (p', out) := by rw [h2]
   have := h p h1
   rwa [h3] at this
  ·cases he
theorem akb {P : Program} (hm : P.follows .mixedOrders = true) {fi : FuncId → Option Fi} {hs : Hs} (hfi : ∀ f x, fi f = some x → FiOk P f x) (hhs : gx P hs) {d : Nat} {f : FuncId} {x : Fi} (hx : FiOk P f x) {τ a : Ty} {tys : List Ty} {G : τ.den → a.den → Bool} {F : τ.den → a.den → τ.den × AV}
  (h : ∀ p y, G p y = true → ∃ fuel, Sz fi hs d x τ tys fuel p [.val a y] = some (.pcons (.val τ (F p y).1) (F p y).2)) : dS P f (Jp τ (bx1 τ a G F)) :=
 tp hm hfi hhs hx (d := d) (tys := tys) fun p args p' out ha he => by
  unfold bx1 at he
  split at he
  ·rename_i z
   split at he
   ·rename_i y hy
    simp only [Option.some.injEq, Prod.mk.injEq] at he
    obtain ⟨h1, h2⟩ := he
    have h3 : F p y = (p', out) := by rw [h2]
    have hz : z = .val a y := by
     cases z with
     | val t x =>
      simp only [dat?, one?] at hy
      obtain ⟨e, e2⟩ := cast?_some hy
      subst e
      rw [e2]
     | _ => simp [AV.isVal] at ha
    have := h p y h1
    rw [h3] at this
    rw [hz]
    exact this
   ·cases he
  ·cases he
end Go.Proofs.YtboikinjlmjgjaaGreat.Abs
