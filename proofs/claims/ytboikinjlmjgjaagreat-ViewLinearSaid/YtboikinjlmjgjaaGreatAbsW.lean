/- A function's run is sound: its contract; the table of types, checked. -/
import Derived.Test.YtboikinjlmjgjaaGreatAbsV
namespace Go.Proofs.YtboikinjlmjgjaaGreat.Abs
open Go Go.RowKit
def wu (tmps : Array Value) : ResultVar → Sem Value
 | .tmp t => pure (tmps.getD t undef)
 | .cell t ty => do loadVar ty (← asAddr (tmps.getD t undef))
section
variable {P : Program} {tab : Tab} {B : Bd} {lo : Nat} {w0 : World} {St0 : Nat → Nat → Prop} {fs : List (List AV × List Value)} {σ : Sg} {a : Act} {c : Gh}
theorem e7 {fn : Func} {tmps : Array Value} {R : Ending → World → Prop} {n : Nat} : ∀ (ms : List Nat) (c : Gh) (w1 : World), Inv B w1 St0 c → ms.Nodup → (∀ D ∈ ms, B ≤ D ∧ c.w.heap[D]? = some (.deferred (some []))) →
  (∀ (c' : Gh) (w2 : World), c'.heap = c.heap → Inv B w2 St0 c' → Ev c c' → Below B c.w c'.w → c'.w.drawn = c.w.drawn → (∀ k, k ∉ ms → c'.w.heap[k]? = c.w.heap[k]?) → ∃ v, (results fn tmps).run P c'.w = .ok v c'.w ∧ R (.returned v) c'.w) →
  LeavesInM (RF none) n P fn tmps R (ms.map fun D => { target := .collected D, args := #[] }) .returning c.w
 | [], c, w1, hI, _, _, h => h c w1 rfl hI (Ev.refl c) (Below.refl _ _) rfl (fun _ _ => rfl)
 | D :: ms, c, w1, hI, hnd, hall, h => by
  obtain ⟨hB, hD⟩ := hall D (List.mem_cons_self ..)
  obtain ⟨hn1, hn2⟩ := List.nodup_cons.1 hnd
  obtain ⟨hI2, hE2⟩ := hI.other (grownBy_putObj' c.w D (.deferred none)) hD rfl
  refine ⟨by simp, .inl ⟨D, _, rfl, run_takeDeferred hD, ?_⟩⟩
  refine e7 ms { c with w := c.w.putObj D (.deferred none) } _ hI2 hn2 (fun D' hD' => ?_) (fun c' w2 q1 q2 q3 q4 q5 q6 => ?_)
  ·obtain ⟨h1, h2⟩ := hall D' (List.mem_cons_of_mem _ hD')
   have hne : D' ≠ D := fun e => hn1 (by rw [← e]; exact hD')
   exact ⟨h1, (World.putObj_heap_other hne).trans h2⟩
  ·refine h c' w2 q1 q2 (hE2.trans q3) (Below.trans ((Below.refl B c.w).grown (grownBy_putObj' c.w D (.deferred none)) hI.size (fun k e => by cases e; exact hB)) q4) q5 (fun k hk => ?_)
   rw [q6 k (fun hm => hk (List.mem_cons_of_mem _ hm))]
   have hne : k ≠ D := fun e => hk (by rw [e]; exact List.mem_cons_self ..)
   exact World.putObj_heap_other hne
theorem KF (tk : TabOk P tab) (hI : Inv B w0 St0 c) (hh : c.heap = σ.heap) (hE : RAs c σ.env a.tmps.toList) {rv : ResultVar} {u : AV} (h : QC tab σ rv = some u) :
  ∃ v, (wu a.tmps rv).run P c.w = .ok v c.w ∧ RA c u [v] := by
 cases rv with
 | tmp t =>
  have hx := jZ hE (.tmp t)
  simp only [Lc, Act.eval] at hx
  simp only [QC] at h
  split at h
  ·cases h
  ·simp only [Option.some.injEq] at h
   subst h
   exact ⟨_, by simp [wu], hx⟩
 | cell t ty =>
  have hx := jZ hE (.tmp t)
  simp only [Lc, Act.eval] at hx
  simp only [QC] at h
  split at h
  ·rename_i k off hk
   rw [hk] at hx
   obtain ⟨cells, hc, e⟩ := hx
   simp only [List.cons.injEq, and_true] at e
   split at h
   ·rename_i cells' τ hc' ht
    rw [hh] at hc
    have : cells' = cells := by
     simp only [List.getD, hc, Option.getD_some, HO.box.injEq] at hc'
     exact hc'.symm
    subst this
    split at h
    ·rename_i x hx
     simp only [Option.some.injEq] at h
     subst h
     obtain ⟨arr, t', h1, h2, h3⟩ := np hI (by rw [hh]; exact hc)
     have hrep := ff hx ((h2.drop off).take τ.size)
     obtain ⟨v, hrun, hval⟩ := cd tk ht c.w ⟨c.blk k, off, none⟩ _ hrep.size (fun j u hu => by
      rw [de, h3, ← hu, List.getElem?_take]
      have hj : j < τ.size := by
       rcases Nat.lt_or_ge j τ.size with h | h
       ·exact h
       ·rw [List.getElem?_take, if_neg (by omega)] at hu; cases hu
      rw [if_pos hj, List.getElem?_drop])
     refine ⟨v, ?_, v, rfl, eu hrep hval⟩
     simp [wu, e, asAddr, hrun]
    ·split at h
     ·rename_i hs
      simp only [Bool.and_eq_true] at hs
      simp only [Option.some.injEq] at h
      subst h
      obtain ⟨hst, hon⟩ := hs
      unfold aaw at hon
      split at hon
      ·rename_i n hn
       simp only [Bool.and_eq_true] at hon
       obtain ⟨arr, t', h1, h2, h3⟩ := np hI (by rw [hh]; exact hc)
       have h4 := (h2.drop off).take τ.size
       obtain ⟨_, _, s3⟩ := eq h4 hon.2
       have hsz : ((arr.toList.drop off).take τ.size).length = τ.size := by
        rw [← h4.length, Nat.eq_of_beq_eq_true hon.1]
        obtain ⟨i, z, q1, q2, q3, q4, _⟩ := tk.ty ty τ ht
        obtain ⟨fs, i', z', f1, f2, f3, f4, f5, f6⟩ := tk.one ty n hn
        rw [q1] at f4
        injection f4 with f4
        subst f4
        rw [q3] at f5
        injection f5 with f5
        subst f5
        rw [← f6, ← Array.length_toList, q4]
        exact (cx (w := c.w) (St := c.St) τ).size
       obtain ⟨v, hrun, hval⟩ := cd tk ht c.w ⟨c.blk k, off, none⟩ _ hsz (fun j u hu => by
        rw [de, h3, ← hu, List.getElem?_take]
        have hj : j < τ.size := by
         rcases Nat.lt_or_ge j τ.size with h | h
         ·exact h
         ·rw [List.getElem?_take, if_neg (by omega)] at hu; cases hu
        rw [if_pos hj, List.getElem?_drop])
       have hv' : v = .agg ((arr.toList.drop off).take τ.size).toArray := by
        rw [hst] at hval
        simpa using hval
       subst hv'
       refine ⟨_, ?_, _, rfl, RA.of_chain h4, dN _, s3⟩
       simp [wu, e, asAddr, hrun]
      ·cases hon
     ·cases h
   ·cases h
  ·cases h
theorem uh (tk : TabOk P tab) (hI : Inv B w0 St0 c) (hh : c.heap = σ.heap) (hE : RAs c σ.env a.tmps.toList) : ∀ {rs : List ResultVar} {l : List AV}, fB tab σ rs = some l →
  ∃ vs, (rs.mapM (wu a.tmps)).run P c.w = .ok vs c.w ∧ RAs c l vs
 | [], l, h => by
  simp only [fB, Option.some.injEq] at h
  subst h
  exact ⟨[], by simp, trivial⟩
 | rv :: rs, l, h => by
  simp only [fB] at h
  split at h
  ·rename_i u us h1 h2
   simp only [Option.some.injEq] at h
   subst h
   obtain ⟨v, g1, g2⟩ := KF tk hI hh hE h1
   obtain ⟨vs, q1, q2⟩ := uh tk hI hh hE h2
   refine ⟨v :: vs, ?_, g2, q2⟩
   rw [List.mapM_cons, Sem.run_bind, g1, Result.andThen_ok, Sem.run_bind, q1, Result.andThen_ok]
   rfl
  ·cases h
theorem pv {l : List AV} {vs : List Value} (h : RAs c l vs) : RA c (ux l) [if h : vs.length = 1 then vs[0] else .tuple vs.toArray] := by
 match l, vs, h with
 | [], [], _ => exact ⟨[], by simp, rfl, rfl⟩
 | [u], [v], ⟨h1, _⟩ => simpa [ux] using h1
 | u :: u' :: l, v :: v' :: vs, h =>
  refine ⟨v :: v' :: vs, by simp, RA.of_chain h, dN _⟩
theorem er (tk : TabOk P tab) (hI : Inv B w0 St0 c) (hh : c.heap = σ.heap) (hE : RAs c σ.env a.tmps.toList) {fn : Func} {l : List AV} (h : fB tab σ fn.results.toList = some l) :
  ∃ v vs, (results fn a.tmps).run P c.w = .ok v c.w ∧ RAs c l vs ∧ v = (if h : vs.length = 1 then vs[0] else .tuple vs.toArray) := by
 obtain ⟨vs, h1, h2⟩ := uh tk hI hh hE h
 refine ⟨_, vs, ?_, h2, rfl⟩
 have e : results fn a.tmps = (do let vs ← fn.results.mapM (wu a.tmps); pure (if h : vs.size = 1 then vs[0] else .tuple vs)) := by
  unfold results
  congr 2
 rw [e, Array.mapM_eq_mapM_toList, Sem.run_bind, map_eq_pure_bind, Sem.run_bind, h1, Result.andThen_ok]
 simp
structure FiOk (P : Program) (f : FuncId) (x : Fi) : Prop where
 fn : ∃ fn, P.funcs[f]? = some fn ∧ fn.body = some x.code ∧ fn.ntmps = x.ntmps ∧ fn.results.toList = x.results ∧ (fn.name == "runtime.NumGoroutine") = false
 tab : TabOk P x.S.tab
 av : SpecsOk P x.S.T
theorem nn {l : List AV} {vs : List Value} (h : RAs c l vs) (n : Nat) : RAs c (l ++ List.replicate n .unk) (vs ++ List.replicate n undef) :=
 h.append (zP (by simp))
def gx (P : Program) (hs : Hs) : Prop := ∀ f args heap out heap', hs f args heap = some (true, out, heap') → cO P f ∧
 ∀ (B : Bd) (w0 : World) (St0 : Nat → Nat → Prop) (c : Gh), Inv B w0 St0 c → c.heap = heap → ∀ vs, RAs c args vs →
  Calls P f vs.toArray c.w fun e w' => ∃ v c', e = .returned v ∧ c'.heap = heap' ∧ heap'.length = heap.length ∧ c'.w = w' ∧ Inv B w0 St0 c' ∧ Ev c c' ∧ RA c' out [v]
theorem lx (hm : P.follows .mixedOrders = true) {fi : FuncId → Option Fi} {hs : Hs} {fuel : Nat} (hfi : ∀ f x, fi f = some x → FiOk P f x) (hhs : gx P hs) : ∀ d yk Γ, ahH P yk Γ → Qk P (Ff fi hs fuel d yk) Γ
 | d, yk, Γ, hyk, .yld j, args, heap, k, r, h => hyk j args heap k r (by cases d <;> exact h)
 | 0, yk, Γ, hyk, .fn f, args, heap, k, r, h => by cases h
 | d + 1, yk, Γ, hyk, .fn f, args, heap, k, r, h => by
  simp only [Ff] at h
  split at h
  ·rename_i b out heap' hsf
   cases b with
   | false => cases h
   | true =>
    obtain ⟨h1, h2⟩ := hhs f args heap out heap' hsf
    refine fun fs B w0 St0 c hI hh vs hr hfs hcx => ⟨h1, (h2 B w0 St0 c hI hh vs hr).mono ?_⟩
    rintro e w' ⟨v, c', he, q1, q2, q3, q4, q5, q6⟩
    exact ⟨v, out, c', he, by rw [q1]; exact h, q3, q4, q6, by rw [q1, q2]; exact Nat.le_refl _, fun fr hfr => (hfs fr hfr).1.mono q5⟩
  split at h
  ·rename_i x hx
   obtain ⟨⟨fn, f1, f2, f3, f4, f5⟩, tk, ts⟩ := hfi f x hx
   refine fun fs B w0 St0 c hI hh vs hr hfs hcx => ⟨⟨fn, f1, by simp [f2], f5⟩, ?_⟩
   refine callsIn_wide.1 (callsIn_of_wp_marks (F := RF none) (n := 0) f1 f2 trivial (wpIn_mono (kB hm tk ts ⟨lx hm hfi hhs d yk Γ hyk, lx hm hfi hhs d⟩ x.code none 0 fs heap.length B w0 St0 r (fun _ e => by cases e) hcx (.inl rfl) _ _ _ c.w (Nat.le_refl _) h ⟨c, w0, rfl, hh, hI, ?_, lU.none B w0, hfs⟩) fun e a w hn => ?_))
   ·have := nn hr (x.ntmps - args.length)
    rw [f3]
    have hlen := hr.length
    simpa [hlen] using this
   ·have fin : ∀ σ', (match fB x.S.tab σ' x.results with | some l => k (ux l) σ'.heap | none => none) = some r → Rel fs heap.length B w0 St0 σ' a w ∧ heap.length ≤ σ'.heap.length → LeavesInM (RF none) 0 P fn a.tmps (fun e w => ∃ v' out c', e = .returned v' ∧ k out c'.heap = some r ∧ c'.w = w ∧ Inv B w0 St0 c' ∧ RA c' out [v'] ∧ heap.length ≤ c'.heap.length ∧ ∀ fr ∈ fs, RAs c' fr.1 fr.2) a.defers .returning w := by
     rintro σ' h1 ⟨⟨c1, w1, rfl, hh1, hI1, hE1, ⟨hb1, ho1, ms, hms, hnod, hmk⟩, hfs1⟩, hle⟩
     rw [hms]
     refine e7 ms c1 w1 hI1 hnod (fun D hD => ⟨(hmk D hD).1, hI1.drawn.keep D _ (hmk D hD).2.2.1 rfl⟩) (fun c' w2 g1 hI2 hE2 g4 g5 g6 => ?_)
     have hh' : c'.heap = σ'.heap := g1.trans hh1
     have hE' := hE1.mono hE2
     have ho' : Og B.F w0 c'.w := ⟨by rw [g5]; exact (ho1.trans hI1.drawn).dr, fun k o x y => by
      rw [g6 k (fun hm => by have := (hmk k hm).2.1; have := (Array.getElem?_eq_some_iff.1 x).1; omega)]
      exact (ho1.trans hI1.drawn).keep k o x y, fun k f => by
      rw [g6 k (fun hm => (hmk k hm).2.2.2 f)]
      exact (ho1.trans hI1.drawn).kb k f⟩
     have hI' : Inv B w0 St0 c' := hI2.base ((hb1.trans hI1.below).trans g4) ho'
     split at h1
     ·rename_i l hl
      rw [← f4] at hl
      obtain ⟨v, vs', q1, q2, q3⟩ := er tk hI' hh' hE' hl
      exact ⟨v, q1, v, ux l, c', rfl, by rw [hh']; exact h1, rfl, hI', by rw [q3]; exact pv q2, by rw [hh']; exact hle, fun fr hfr => (hfs1 fr hfr).1.mono hE2⟩
     ·cases h1
    cases e with
    | normal => obtain ⟨σ', h1, h2⟩ := hn; exact fin σ' h1 h2
    | ret => obtain ⟨σ', h1, h2⟩ := hn; exact fin σ' h1 h2
    | exit id => obtain ⟨σ', h1, _⟩ := hn; cases h1
    | goto l => exact hn.elim
    | panic ch => exact hn.elim
    | outgrown => exact hn.elim
  ·cases h
theorem oq (hm : P.follows .mixedOrders = true) {fi : FuncId → Option Fi} {hs : Hs} {fuel : Nat} (hfi : ∀ f x, fi f = some x → FiOk P f x) (hhs : gx P hs) (d : Nat) : CkOk P (aH fi hs fuel d) [] :=
 ⟨lx hm hfi hhs d noY [] (fun _ _ _ _ _ h => by cases h), lx hm hfi hhs d⟩
theorem c9 (hI : Inv B w0 St0 c) {St' : Nat → Nat → Prop} (h1 : ∀ b o, c.St b o → St' b o) (h2 : ∀ k b o t e v l, c.heap[k]? = some (.mrow t e v l) → (c.rv k).ownBlock = some b → St' b o) {t : Ty} {u : AV} {x : t.den} {v : Value} (h : Bp c.heap t u = some x) (r : RA c u [v]) : cr c.w St' t x v := by
 have plain : ∀ {t : Ty} {u : AV} {x : t.den}, one? t u = some x → RA c u [v] → cr c.w St' t x v := fun h r => (one?_sound h r).mono h1 (fun _ _ _ _ x => x)
 unfold Bp at h
 split at h
 ·rename_i k ver lo hi
  split at h
  ·rename_i τ
   split at h
   ·rename_i τ' e v' l hk
    split at h
    ·rename_i q1
     subst q1
     split at h
     ·rename_i l2 hc
      obtain ⟨et, hl2⟩ := cast?_some hc
      injection et with et
      subst et
      have hl2 : l2 = l := hl2
      subst hl2
      injection h with h
      subst h
      have hlive := cK r hk
      obtain ⟨xs, m1, m2, m3⟩ := hI.mrow k _ _ _ _ hk
      exact (ay rfl).2 (Ik (B := B) (e := e) (xs := xs) m1 (m2.mono h1 (fun _ _ _ _ x => x)) (fun b o hb => h2 k b o _ _ _ _ hk hb) hlive)
     ·cases h
    ·cases h
   ·cases h
  ·cases h
 ·exact plain h r
theorem tq (hI : Inv B w0 St0 c) {St' : Nat → Nat → Prop} (h1 : ∀ b o, c.St b o → St' b o) (h2 : ∀ k b o t e v l, c.heap[k]? = some (.mrow t e v l) → (c.rv k).ownBlock = some b → St' b o) : ∀ {t : Ty} {l : List AV} {x : t.den} {vs : List Value}, Uw c.heap t l = some x → RAs c l vs → Rep c.w St' (toD t x) vs
 | .int k, [a], x, [v], h, r => (ay rfl).1 (c9 hI h1 h2 h r.1)
 | .bool, [a], x, [v], h, r => (ay rfl).1 (c9 hI h1 h2 h r.1)
 | .str, [a], x, [v], h, r => (ay rfl).1 (c9 hI h1 h2 h r.1)
 | .slice t, [a], x, [v], h, r => (ay rfl).1 (c9 hI h1 h2 h r.1)
 | .unit, [], x, [], h, r => rfl
 | .cons a b, l, x, vs, h, r => by
  simp only [Uw] at h
  split at h
  ·rename_i y z hy hz
   have : x = (y, z) := (Option.some.inj h).symm
   subst this
   exact ⟨_, _, (List.take_append_drop a.size vs).symm, tq hI h1 h2 hy (r.take _), tq hI h1 h2 hz (r.drop _)⟩
  ·cases h
 | .tree, [a, b, d, e], x, [v1, v2, v3, v4], h, r => by
  simp only [Uw] at h
  split at h
  ·rename_i k t ls ks q1 q2 q3 q4
   have : x = Tree.mk k t ls ks := (Option.some.inj h).symm
   subst this
   obtain ⟨r1, r2, r3, r4, _⟩ := r
   refine ⟨[v1], [v2, v3, v4], rfl, (ay rfl).1 (c9 hI h1 h2 q1 r1), [v2], [v3, v4], rfl, (ay rfl).1 (c9 hI h1 h2 q2 r2), [v3], [v4], rfl, (ay rfl).1 (c9 hI h1 h2 q3 r3), [v4], [], rfl, ?_, rfl⟩
   rw [f8]
   exact (ay rfl).1 (c9 hI h1 h2 q4 r4)
  ·cases h
theorem Qd (hI : Inv B w0 St0 c) {St' : Nat → Nat → Prop} (h1 : ∀ b o, c.St b o → St' b o) (h2 : ∀ k b o t e v l, c.heap[k]? = some (.mrow t e v l) → (c.rv k).ownBlock = some b → St' b o) {t : Ty} {u : AV} {x : t.den} {v : Value} (h : acT c.heap t u = some x) (r : RA c u [v]) : cr c.w St' t x v := by
 cases u with
 | agg p =>
  simp only [acT] at h
  split at h
  ·rename_i hs
   obtain ⟨cs, e, hr, hc, _⟩ := r
   simp at e; subst e
   unfold cr
   rw [if_pos hs]
   exact ⟨cs, rfl, tq hI h1 h2 h (hr.parts hc)⟩
  ·cases h
 | _ => simp only [acT] at h; exact c9 hI h1 h2 h r
theorem ta (hI : Inv B w0 St0 c) {St' : Nat → Nat → Prop} (h1 : ∀ b o, c.St b o → St' b o) (h2 : ∀ k b o t e v l, c.heap[k]? = some (.mrow t e v l) → (c.rv k).ownBlock = some b → St' b o) : ∀ {ts : List Ty} {l l' : List AV} {vs : List Value}, Dc c.heap ts l = some l' → RAs c l vs → RAs (aX c.w St') l' vs
 | [], [], l', [], h, _ => by
  simp only [Dc, Option.some.injEq] at h
  subst h
  trivial
 | t :: ts, u :: l, l', v :: vs, h, ⟨r, rs⟩ => by
  simp only [Dc] at h
  split at h
  ·rename_i x r' hx hr'
   simp only [Option.some.injEq] at h
   subst h
   exact ⟨⟨v, rfl, Qd hI h1 h2 hx r⟩, ta hI h1 h2 hr' rs⟩
  ·cases h
theorem tu {w : World} {St : Nat → Nat → Prop} : ∀ {ds : List ((t : Ty) × t.den)} {vs : List Value}, v8 w St ds vs → RAs (aX w St) (ds.map fun d => .val d.1 d.2) vs
 | [], [], _ => trivial
 | _ :: _, v :: _, ⟨h, hs⟩ => ⟨⟨v, rfl, h⟩, tu hs⟩
theorem sa (hm : P.follows .mixedOrders = true) {fi : FuncId → Option Fi} {hs : Hs} (hfi : ∀ f x, fi f = some x → FiOk P f x) (hhs : gx P hs) {d fuel : Nat} {f : FuncId} {x : Fi} (hx : FiOk P f x) {tys : List Ty} {args : List AV} {res : AV}
  (h : f0 fi hs d x tys fuel args = some res) : cO P f ∧ ∀ w St, (∀ b o, St b o → b < w.heap.size) → ∀ vs, RAs (aX w St) args vs → Calls P f vs.toArray w (UD w St res) := by
 obtain ⟨⟨fn, f1, f2, f3, f4, f5⟩, tk, ts⟩ := hx
 refine ⟨⟨fn, f1, by simp [f2], f5⟩, fun w St hb vs hr => ?_⟩
 have hI : Inv ⟨w.heap.size, fun _ => False⟩ w St (aX w St) := ⟨Below.refl _ _, Nat.le_refl _, hb, fun _ _ x => x, fun _ _ x => .inl x, fun k cells hk => by simp [aX] at hk, fun k t e v hk => by simp [aX] at hk, fun k k' b _ hk => by simp [obk, aX] at hk, fun k t e v l hk => by simp [aX] at hk, Og.refl _, fun _ _ _ f => f, fun _ f => f.elim⟩
 have hrs := hr
 refine callsIn_wide.1 (callsIn_of_wp_marks (F := RF none) (n := 0) f1 f2 trivial (wpIn_mono (kB hm tk ts (oq hm hfi hhs d) x.code none 0 [] 0 ⟨w.heap.size, fun _ => False⟩ w St res (fun _ e => by cases e) (fun _ h => by cases h) (.inl rfl) _ _ _ w (Nat.zero_le _) h ⟨aX w St, w, rfl, rfl, hI, ?_, lU.none _ _, fun _ hfr => by cases hfr⟩) fun e a w' hn => ?_))
 ·have := nn hrs (x.ntmps - args.length)
  rw [f3]
  have hlen := hrs.length
  simpa [hlen] using this
 ·have fin : ∀ σ', (match fB x.S.tab σ' x.results with | some l => (match Dc σ'.heap tys l with | some l => some (ux l) | none => none) | none => none) = some res → Rel [] 0 ⟨w.heap.size, fun _ => False⟩ w St σ' a w' ∧ 0 ≤ σ'.heap.length → LeavesInM (RF none) 0 P fn a.tmps (UD w St res) a.defers .returning w' := by
   rintro σ' h1 ⟨⟨c1, w1, rfl, hh1, hI1, hE1, ⟨hb1, ho1, ms, hms, hnod, hmk⟩, _⟩, _⟩
   rw [hms]
   refine e7 ms c1 w1 hI1 hnod (fun D hD => ⟨(hmk D hD).1, hI1.drawn.keep D _ (hmk D hD).2.2.1 rfl⟩) (fun c' w2 g1 hI2 hE2 g4 g5 g6 => ?_)
   have hh' : c'.heap = σ'.heap := g1.trans hh1
   have hE' := hE1.mono hE2
   have ho' : Og (fun _ => False) w c'.w := ⟨by rw [g5]; exact (ho1.trans hI1.drawn).dr, fun k o x y => by
    rw [g6 k (fun hm => by have := (hmk k hm).2.1; have := (Array.getElem?_eq_some_iff.1 x).1; omega)]
    exact (ho1.trans hI1.drawn).keep k o x y, fun k f => by
    rw [g6 k (fun hm => (hmk k hm).2.2.2 f)]
    exact (ho1.trans hI1.drawn).kb k f⟩
   have hI' : Inv ⟨w.heap.size, fun _ => False⟩ w St c' := hI2.base ((hb1.trans hI1.below).trans g4) ho'
   split at h1
   ·rename_i l hl
    rw [← f4] at hl
    obtain ⟨v, vs', q1, q2, q3⟩ := er tk hI' hh' hE' hl
    split at h1
    ·rename_i l' hl'
     simp only [Option.some.injEq] at h1
     subst h1
     rw [← hh'] at hl'
     refine ⟨v, q1, v, fun b o => c'.St b o ∨ (w.heap.size ≤ b ∧ b < c'.w.heap.size), rfl, hI'.below, hI'.drawn.dr, fun b o x => .inl (hI'.st0 b o x), fun b o x => ?_, by rw [q3]; exact pv (ta hI' (fun _ _ x => .inl x) (fun k b o t e v l hk hb => .inr (by obtain ⟨xs, m1, _⟩ := hI'.mrow k t e v l hk; exact m1.lt b hb)) hl' q2)⟩
     rcases x with x | x
     ·rcases hI'.stN b o x with y | y
      ·exact .inl y
      ·exact .inr ⟨y.1, hI'.bnd b o x⟩
     ·exact .inr x
    ·cases h1
   ·cases h1
  cases e with
  | normal => obtain ⟨σ', h1, h2⟩ := hn; exact fin σ' h1 h2
  | ret => obtain ⟨σ', h1, h2⟩ := hn; exact fin σ' h1 h2
  | exit id => obtain ⟨σ', h1, _⟩ := hn; cases h1
  | goto l => exact hn.elim
  | panic ch => exact hn.elim
  | outgrown => exact hn.elim
theorem aO (hm : P.follows .mixedOrders = true) {fi : FuncId → Option Fi} {hs : Hs} (hfi : ∀ f x, fi f = some x → FiOk P f x) (hhs : gx P hs) {d fuel : Nat} {f : FuncId} {x : Fi} (hx : FiOk P f x) {tys : List Ty} {ds : List ((t : Ty) × t.den)} {res : AV}
  (h : f0 fi hs d x tys fuel (ds.map fun d => .val d.1 d.2) = some res) : gw P f ds res :=
 let ⟨h1, h2⟩ := sa hm hfi hhs hx h
 ⟨h1, fun w St hb vs hr => h2 w St hb vs (tu hr)⟩
end
def veq : Value → Value → Bool
 | .int k n, .int k' n' => decide (k = k') && decide (n = n')
 | .bool b, .bool b' => decide (b = b')
 | .string s, .string s' => decide (s.data.toList = s'.data.toList)
 | .slice none 0 0, .slice none 0 0 => true
 | _, _ => false
theorem ad6 {a b : Value} (h : veq a b = true) : a = b := by
 unfold veq at h
 split at h
 ·simp only [Bool.and_eq_true, decide_eq_true_eq] at h
  obtain ⟨rfl, rfl⟩ := h
  rfl
 ·simp only [decide_eq_true_eq] at h
  subst h
  rfl
 ·rename_i s s'
  simp only [decide_eq_true_eq] at h
  obtain ⟨⟨l⟩⟩ := s
  obtain ⟨⟨l'⟩⟩ := s'
  simp only at h
  subst h
  rfl
 ·rfl
 ·cases h
def ZV : List Value → List Value → Bool
 | [], [] => true
 | a :: l, b :: m => veq a b && ZV l m
 | _, _ => false
theorem Qq : ∀ {l m : List Value}, ZV l m = true → l = m
 | [], [], _ => rfl
 | a :: l, b :: m, h => by
  simp only [ZV, Bool.and_eq_true] at h
  rw [ad6 h.1, Qq h.2]
def ac4 (ty : TypeId → Option Ty) : List Field → List Ty → Nat → Bool
 | [], [], _ => true
 | f :: fs, a :: as, off => decide (ty f.type = some a) && decide (f.offset = off) && decide (0 < a.size) && decide (f.name ≠ "_") && ac4 ty fs as (off + a.size)
 | _, _, _ => false
theorem RK {ty : TypeId → Option Ty} : ∀ {fs : List Field} {as : List Ty} {off : Nat}, ac4 ty fs as off = true → FOk ty fs as off
 | [], [], _, _ => trivial
 | f :: fs, a :: as, off, h => by
  simp only [ac4, Bool.and_eq_true, decide_eq_true_eq] at h
  exact ⟨h.1.1.1.1, h.1.1.1.2, h.1.1.2, h.1.2, RK h.2⟩
def ajZ (P : Program) (tab : Tab) (t : TypeId) (τ : Ty) : TypeDesc → Bool
 | .int k => decide (τ = .int k)
 | .bool => decide (τ = .bool)
 | .string => decide (τ = .str)
 | .slice e => match τ with
  | .slice a => decide (tab.ty e = some a) && decide (tab.elem t = some e) && decide (0 < a.size)
  | _ => false
 | .struct fs => τ.isStruct && !P.stoodInHeld t && !P.eqGuardType P.depth t && ac4 tab.ty fs.toList τ.fields 0
 | _ => false
def ahv (P : Program) (tab : Tab) (t : TypeId) (τ : Ty) : Bool :=
 match P.info? t, P.underlying t with
 | some i, some d => decide (i.size = τ.size) && decide (i.bytes ≤ 16384) && (match i.zero with | some z => ZV z.cells.toList (zl τ) && (!τ.isStruct || (match z with | .agg _ => true | _ => false)) | none => false) && ajZ P tab t τ d
 | _, _ => false
theorem ac2 {P : Program} {tab : Tab} {t : TypeId} {τ : Ty} (h : ahv P tab t τ = true) : ∃ i z, P.info? t = some i ∧ i.size = τ.size ∧ i.zero = some z ∧ z.cells.toList = zl τ ∧ i.bytes ≤ 16384 ∧ (τ.isStruct = true → ∃ cs, z = .agg cs) ∧ RS P tab t τ := by
 unfold ahv at h
 split at h
 ·rename_i i d hi hd
  simp only [Bool.and_eq_true, decide_eq_true_eq] at h
  obtain ⟨⟨⟨h1, h2⟩, h3⟩, h4⟩ := h
  split at h3
  ·rename_i z hz
   simp only [Bool.and_eq_true] at h3
   refine ⟨i, z, hi, h1, hz, Qq h3.1, h2, fun hs => ?_, ?_⟩
   ·have := h3.2
    rw [hs] at this
    simp only [Bool.not_true, Bool.false_or] at this
    split at this
    ·exact ⟨_, rfl⟩
    ·cases this
   ·unfold ajZ at h4
    split at h4
    ·have := of_decide_eq_true h4; subst this; exact hd
    ·have := of_decide_eq_true h4; subst this; exact hd
    ·have := of_decide_eq_true h4; subst this; exact hd
    ·split at h4
     ·rename_i e τ' a
      simp only [Bool.and_eq_true, decide_eq_true_eq] at h4
      exact ⟨_, hd, h4.1.1, h4.1.2, h4.2⟩
     ·cases h4
    ·rename_i fs
     simp only [Bool.and_eq_true, Bool.not_eq_true'] at h4
     have fact : ∃ fs, P.underlying t = some (.struct fs) ∧ P.stoodInHeld t = false ∧ P.eqGuardType P.depth t = false ∧ FOk tab.ty fs.toList τ.fields 0 := ⟨fs, hd, h4.1.1.2, h4.1.2, RK h4.2⟩
     have hs := h4.1.1.1
     cases τ <;> simp [Ty.isStruct] at hs <;> exact fact
    ·cases h4
  ·cases h3
 ·cases h
def ahx (P : Program) (tab : Tab) (t : TypeId) (n : Nat) : Bool :=
 match P.info? t, P.underlying t with
 | some i, some d => decide (i.size = n) && (match i.zero with | some z => decide (z.cells.size = n) | none => false) && ((tab.ty t).isSome || !decide (n = 1) || pu d)
 | _, _ => false
theorem ac5 {P : Program} {tab : Tab} {t : TypeId} {n : Nat} (h : ahx P tab t n = true) : ∃ i z d, P.info? t = some i ∧ i.size = n ∧ i.zero = some z ∧ z.cells.size = n ∧ P.underlying t = some d ∧ (tab.ty t = none → n = 1 → pu d = true) := by
 unfold ahx at h
 split at h
 ·rename_i i d hi hd
  simp only [Bool.and_eq_true, decide_eq_true_eq] at h
  obtain ⟨⟨h1, h2⟩, h3⟩ := h
  split at h2
  ·rename_i z hz
   refine ⟨i, z, d, hi, h1, hz, of_decide_eq_true h2, hd, fun hn h1n => ?_⟩
   simpa [hn, h1n] using h3
  ·cases h2
 ·cases h
def ahw (P : Program) (t : TypeId) (i d : Nat) : Bool :=
 match P.underlying t with
 | some (.struct fs) => match fs[i]? with
  | some f => decide (f.offset = d) && (match P.info? f.type with | some j => decide (0 < j.size) | none => false)
  | none => false
 | _ => false
theorem ac3 {P : Program} {t : TypeId} {i d : Nat} (h : ahw P t i d = true) : ∃ fs f j, P.underlying t = some (.struct fs) ∧ fs[i]? = some f ∧ f.offset = d ∧ P.info? f.type = some j ∧ 0 < j.size := by
 unfold ahw at h
 split at h
 ·rename_i fs hu
  split at h
  ·rename_i f hf
   simp only [Bool.and_eq_true, decide_eq_true_eq] at h
   obtain ⟨h1, h2⟩ := h
   split at h2
   ·rename_i j hj
    exact ⟨fs, f, j, hu, hf, h1, hj, of_decide_eq_true h2⟩
   ·cases h2
  ·cases h
 ·cases h
def ahz (P : Program) (t : TypeId) (n : Nat) : Bool :=
 match P.underlying t, P.info? t with
 | some (.struct fs), some i => Nat.beq fs.size n && (List.range n).all (fun k => match fs[k]? with | some f => Nat.beq f.offset k && (match P.info? f.type with | some j => Nat.beq j.size 1 | none => false) | none => false) && (match i.zero with | some z => Nat.beq z.cells.size n | none => false)
 | _, _ => false
theorem ac7 {P : Program} {t : TypeId} {n : Nat} (h : ahz P t n = true) : ∃ fs i z, P.underlying t = some (.struct fs) ∧ fs.size = n ∧ (∀ (k : Nat) f, fs[k]? = some f → f.offset = k ∧ ∃ j, P.info? f.type = some j ∧ j.size = 1) ∧ P.info? t = some i ∧ i.zero = some z ∧ z.cells.size = n := by
 unfold ahz at h
 split at h
 ·rename_i fs i hu hi
  simp only [Bool.and_eq_true, List.all_eq_true, List.mem_range] at h
  obtain ⟨⟨h1, h2⟩, h3⟩ := h
  have h1 := Nat.eq_of_beq_eq_true h1
  split at h3
  ·rename_i z hz
   refine ⟨fs, i, z, hu, h1, fun k f hf => ?_, hi, hz, Nat.eq_of_beq_eq_true h3⟩
   have hk : k < n := by rw [← h1]; exact (Array.getElem?_eq_some_iff.1 hf).1
   have := h2 k hk
   rw [hf] at this
   simp only [Bool.and_eq_true] at this
   refine ⟨Nat.eq_of_beq_eq_true this.1, ?_⟩
   have h4 := this.2
   split at h4
   ·rename_i j hj
    exact ⟨j, hj, Nat.eq_of_beq_eq_true h4⟩
   ·cases h4
  ·cases h3
 ·cases h
def ahy (P : Program) (t : TypeId) (n : Nat) : Bool :=
 match P.underlying t, P.info? t with
 | some (.array m e), some i => Nat.beq m n && (match P.info? e with | some j => Nat.beq j.size 1 | none => false) && (match i.zero with | some z => Nat.beq z.cells.size n | none => false)
 | _, _ => false
theorem ac6 {P : Program} {t : TypeId} {n : Nat} (h : ahy P t n = true) : ∃ e i z j, P.underlying t = some (.array n e) ∧ P.info? e = some j ∧ j.size = 1 ∧ P.info? t = some i ∧ i.zero = some z ∧ z.cells.size = n := by
 unfold ahy at h
 split at h
 ·rename_i m e i hu hi
  simp only [Bool.and_eq_true] at h
  obtain ⟨⟨h1, h2⟩, h3⟩ := h
  have h1 := Nat.eq_of_beq_eq_true h1
  split at h2
  ·rename_i j hj
   split at h3
   ·rename_i z hz
    exact ⟨e, i, z, j, by rw [hu, h1], hj, Nat.eq_of_beq_eq_true h2, hi, hz, Nat.eq_of_beq_eq_true h3⟩
   ·cases h3
  ·cases h2
 ·cases h
structure TabL where
 ty : List (TypeId × Ty)
 cells : List (TypeId × Nat)
 offs : List ((TypeId × Nat) × Nat)
 elem : List (TypeId × TypeId)
 one : List (TypeId × Nat)
 inp : List Nat := []
 arr : List (TypeId × Nat) := []
def ak {α : Type} : List (Nat × α) → Nat → Option α
 | [], _ => none
 | (k, v) :: r, i => match Nat.beq k i with
  | true => some v
  | false => ak r i
def QX : List ((Nat × Nat) × Nat) → Nat → Nat → Option Nat
 | [], _, _ => none
 | ((k, j), v) :: r, i, q => match Nat.beq k i && Nat.beq j q with
  | true => some v
  | false => QX r i q
theorem fM {α : Type} : ∀ {l : List (Nat × α)} {i : Nat} {v : α}, ak l i = some v → (i, v) ∈ l
 | [], _, _, h => by cases h
 | (k, u) :: r, i, v, h => by
  simp only [ak] at h
  split at h
  ·rename_i hb
   have := Nat.eq_of_beq_eq_true hb
   simp only [Option.some.injEq] at h
   subst this; subst h
   simp
  ·exact List.mem_cons_of_mem _ (fM h)
theorem Fj : ∀ {l : List ((Nat × Nat) × Nat)} {i q v : Nat}, QX l i q = some v → ((i, q), v) ∈ l
 | [], _, _, _, h => by cases h
 | ((k, j), u) :: r, i, q, v, h => by
  simp only [QX] at h
  split at h
  ·rename_i hb
   simp only [Bool.and_eq_true] at hb
   have h1 := Nat.eq_of_beq_eq_true hb.1
   have h2 := Nat.eq_of_beq_eq_true hb.2
   simp only [Option.some.injEq] at h
   subst h1; subst h2; subst h
   simp
  ·exact List.mem_cons_of_mem _ (Fj h)
def TabL.tab (l : TabL) : Tab := ⟨ak l.ty, ak l.cells, QX l.offs, ak l.elem, ak l.one, fun t => l.inp.any (Nat.beq t), ak l.arr⟩
def TabL.chk (P : Program) (l : TabL) : Bool :=
 l.ty.all (fun p => ahv P l.tab p.1 p.2) && l.cells.all (fun p => ahx P l.tab p.1 p.2) && l.offs.all (fun p => ahw P p.1.1 p.1.2 p.2) && l.elem.all (fun p => match P.underlying p.1 with | some (.slice e) => Nat.beq e p.2 | _ => false) && l.one.all (fun p => ahz P p.1 p.2) && l.arr.all (fun p => ahy P p.1 p.2)
theorem TabL.ok {P : Program} {l : TabL} (h : l.chk P = true) : TabOk P l.tab := by
 simp only [TabL.chk, Bool.and_eq_true, List.all_eq_true] at h
 obtain ⟨⟨⟨⟨⟨h1, h2⟩, h3⟩, h4⟩, h5⟩, h6⟩ := h
 refine ⟨fun t τ ht => ac2 (h1 (t, τ) (fM ht)), fun t n ht => ac5 (h2 (t, n) (fM ht)), fun t i d ht => ac3 (h3 ((t, i), d) (Fj ht)), fun t e ht => ?_, fun t n ht => ac7 (h5 (t, n) (fM ht)), fun t n ht => ac6 (h6 (t, n) (fM ht))⟩
 have := h4 (t, e) (fM ht)
 simp only at this
 split at this
 ·rename_i e' hu
  rw [hu, Nat.eq_of_beq_eq_true this]
 ·cases this
abbrev Ent := List AV → Option (Bool × AV)
def sp0 (R : AV) : Ent := fun args => match args with | [] => some (true, R) | _ => none
def sp1 (a : Ty) (G : a.den → Bool) (R : a.den → AV) : Ent := fun args => match args with
 | [x] => match dat? a x with | some x => some (G x, R x) | none => none
 | _ => none
def sp2 (a b : Ty) (G : a.den → b.den → Bool) (R : a.den → b.den → AV) : Ent := fun args => match args with
 | [x, y] => match dat? a x, dat? b y with | some x, some y => some (G x y, R x y) | _, _ => none
 | _ => none
def sp3 (a b c : Ty) (G : a.den → b.den → c.den → Bool) (R : a.den → b.den → c.den → AV) : Ent := fun args => match args with
 | [x, y, z] => match dat? a x, dat? b y, dat? c z with | some x, some y, some z => some (G x y z, R x y z) | _, _, _ => none
 | _ => none
def sp4 (a b c d : Ty) (G : a.den → b.den → c.den → d.den → Bool) (R : a.den → b.den → c.den → d.den → AV) : Ent := fun args => match args with
 | [x, y, z, u] => match dat? a x, dat? b y, dat? c z, dat? d u with | some x, some y, some z, some u => some (G x y z u, R x y z u) | _, _, _, _ => none
 | _ => none
def sp5 (a b c d e : Ty) (G : a.den → b.den → c.den → d.den → e.den → Bool) (R : a.den → b.den → c.den → d.den → e.den → AV) : Ent := fun args => match args with
 | [x0, x1, x2, x3, x4] => match dat? a x0, dat? b x1, dat? c x2, dat? d x3, dat? e x4 with | some x0, some x1, some x2, some x3, some x4 => some (G x0 x1 x2 x3 x4, R x0 x1 x2 x3 x4) | _, _, _, _, _ => none
 | _ => none
def sp6 (a b c d e f : Ty) (G : a.den → b.den → c.den → d.den → e.den → f.den → Bool) (R : a.den → b.den → c.den → d.den → e.den → f.den → AV) : Ent := fun args => match args with
 | [x0, x1, x2, x3, x4, x5] => match dat? a x0, dat? b x1, dat? c x2, dat? d x3, dat? e x4, dat? f x5 with | some x0, some x1, some x2, some x3, some x4, some x5 => some (G x0 x1 x2 x3 x4 x5, R x0 x1 x2 x3 x4 x5) | _, _, _, _, _, _ => none
 | _ => none
def ap (P : Program) (f : FuncId) (e : Ent) : Prop := ∀ args res, e args = some (true, res) → DA P f args res
theorem aki {P : Program} {f : FuncId} {R : AV} (h : gw P f [] R) : ap P f (sp0 R) := fun args res he => by
 unfold sp0 at he
 split at he
 ·simp only [Option.some.injEq, Prod.mk.injEq] at he
  obtain ⟨_, rfl⟩ := he
  exact e6 (ds := []) trivial h
 ·cases he
theorem gc {P : Program} {f : FuncId} {a : Ty} {G : a.den → Bool} {R : a.den → AV} (h : ∀ x, G x = true → gw P f [⟨a, x⟩] (R x)) : ap P f (sp1 a G R) := fun args res he => by
 unfold sp1 at he
 split at he
 ·split at he
  ·rename_i x hx
   simp only [Option.some.injEq, Prod.mk.injEq] at he
   obtain ⟨h1, rfl⟩ := he
   exact e6 (ds := [⟨a, x⟩]) ⟨hx, trivial⟩ (h x h1)
  ·cases he
 ·cases he
theorem Nl {P : Program} {f : FuncId} {a b : Ty} {G : a.den → b.den → Bool} {R : a.den → b.den → AV} (h : ∀ x y, G x y = true → gw P f [⟨a, x⟩, ⟨b, y⟩] (R x y)) : ap P f (sp2 a b G R) := fun args res he => by
 unfold sp2 at he
 split at he
 ·split at he
  ·rename_i x y hx hy
   simp only [Option.some.injEq, Prod.mk.injEq] at he
   obtain ⟨h1, rfl⟩ := he
   exact e6 (ds := [⟨a, x⟩, ⟨b, y⟩]) ⟨hx, hy, trivial⟩ (h x y h1)
  ·cases he
 ·cases he
theorem U7 {P : Program} {f : FuncId} {a b c : Ty} {G : a.den → b.den → c.den → Bool} {R : a.den → b.den → c.den → AV} (h : ∀ x y z, G x y z = true → gw P f [⟨a, x⟩, ⟨b, y⟩, ⟨c, z⟩] (R x y z)) : ap P f (sp3 a b c G R) := fun args res he => by
 unfold sp3 at he
 split at he
 ·split at he
  ·rename_i x y z hx hy hz
   simp only [Option.some.injEq, Prod.mk.injEq] at he
   obtain ⟨h1, rfl⟩ := he
   exact e6 (ds := [⟨a, x⟩, ⟨b, y⟩, ⟨c, z⟩]) ⟨hx, hy, hz, trivial⟩ (h x y z h1)
  ·cases he
 ·cases he
theorem Nk {P : Program} {f : FuncId} {a b c d : Ty} {G : a.den → b.den → c.den → d.den → Bool} {R : a.den → b.den → c.den → d.den → AV} (h : ∀ x y z u, G x y z u = true → gw P f [⟨a, x⟩, ⟨b, y⟩, ⟨c, z⟩, ⟨d, u⟩] (R x y z u)) : ap P f (sp4 a b c d G R) := fun args res he => by
 unfold sp4 at he
 split at he
 ·split at he
  ·rename_i x y z u hx hy hz hu
   simp only [Option.some.injEq, Prod.mk.injEq] at he
   obtain ⟨h1, rfl⟩ := he
   exact e6 (ds := [⟨a, x⟩, ⟨b, y⟩, ⟨c, z⟩, ⟨d, u⟩]) ⟨hx, hy, hz, hu, trivial⟩ (h x y z u h1)
  ·cases he
 ·cases he
theorem akh {P : Program} {f : FuncId} {a b c d e : Ty} {G : a.den → b.den → c.den → d.den → e.den → Bool} {R : a.den → b.den → c.den → d.den → e.den → AV} (h : ∀ x0 x1 x2 x3 x4, G x0 x1 x2 x3 x4 = true → gw P f [⟨a, x0⟩, ⟨b, x1⟩, ⟨c, x2⟩, ⟨d, x3⟩, ⟨e, x4⟩] (R x0 x1 x2 x3 x4)) : ap P f (sp5 a b c d e G R) := fun args res he => by
 unfold sp5 at he
 split at he
 ·split at he
  ·rename_i x0 x1 x2 x3 x4 h0 h1 h2 h3 h4
   simp only [Option.some.injEq, Prod.mk.injEq] at he
   obtain ⟨g1, rfl⟩ := he
   exact e6 (ds := [⟨a, x0⟩, ⟨b, x1⟩, ⟨c, x2⟩, ⟨d, x3⟩, ⟨e, x4⟩]) ⟨h0, h1, h2, h3, h4, trivial⟩ (h x0 x1 x2 x3 x4 g1)
  ·cases he
 ·cases he
theorem akg {P : Program} {fn : FuncId} {a b c d e f : Ty} {G : a.den → b.den → c.den → d.den → e.den → f.den → Bool} {R : a.den → b.den → c.den → d.den → e.den → f.den → AV} (h : ∀ x0 x1 x2 x3 x4 x5, G x0 x1 x2 x3 x4 x5 = true → gw P fn [⟨a, x0⟩, ⟨b, x1⟩, ⟨c, x2⟩, ⟨d, x3⟩, ⟨e, x4⟩, ⟨f, x5⟩] (R x0 x1 x2 x3 x4 x5)) : ap P fn (sp6 a b c d e f G R) := fun args res he => by
 unfold sp6 at he
 split at he
 ·split at he
  ·rename_i x0 x1 x2 x3 x4 x5 h0 h1 h2 h3 h4 h5
   simp only [Option.some.injEq, Prod.mk.injEq] at he
   obtain ⟨g1, rfl⟩ := he
   exact e6 (ds := [⟨a, x0⟩, ⟨b, x1⟩, ⟨c, x2⟩, ⟨d, x3⟩, ⟨e, x4⟩, ⟨f, x5⟩]) ⟨h0, h1, h2, h3, h4, h5, trivial⟩ (h x0 x1 x2 x3 x4 x5 g1)
  ·cases he
 ·cases he
def ah2 (g : FuncId) (a b : Ty) (G : a.den → b.den → Bool) (R : a.den → b.den → AV) : Ent := fun args => match args with
 | [x, y, .fn g' .pnil] => match Nat.beq g g' with
  | true => match dat? a x, dat? b y with | some x, some y => some (G x y, R x y) | _, _ => none
  | false => none
 | _ => none
theorem acC {c c' : Gh} {g : FuncId} {vs : List Value} (h : RA c (.fn g .pnil) vs) : RA c' (.fn g .pnil) vs := by
 obtain ⟨cs, e, hcs, hc⟩ := h
 exact ⟨cs, e, hcs, hc⟩
theorem aj6 {P : Program} {f g : FuncId} {a b : Ty} {G : a.den → b.den → Bool} {R : a.den → b.den → AV}
  (h : ∀ x y, G x y = true → cO P f ∧ ∀ w St, (∀ b o, St b o → b < w.heap.size) → ∀ vs, RAs (aX w St) [.val a x, .val b y, .fn g .pnil] vs → Calls P f vs.toArray w (UD w St (R x y))) : ap P f (ah2 g a b G R) := fun args res he => by
 unfold ah2 at he
 split at he
 ·rename_i x0 y0 g'
  split at he
  ·rename_i hg
   have hg := Nat.eq_of_beq_eq_true hg
   subst hg
   split at he
   ·rename_i x y hx hy
    simp only [Option.some.injEq, Prod.mk.injEq] at he
    obtain ⟨h1, rfl⟩ := he
    obtain ⟨k1, k2⟩ := h x y h1
    refine ⟨fun w St vs => RAs (aX w St) [.val a x, .val b y, .fn g .pnil] vs, fun c vs hr => ?_, k1, k2⟩
    match vs, hr with
    | [v1, v2, v3], ⟨r1, r2, r3, _⟩ => exact ⟨⟨v1, rfl, (dat?_sound (c := c) hx r1 : cr c.w c.St a x v1)⟩, ⟨v2, rfl, (dat?_sound (c := c) hy r2 : cr c.w c.St b y v2)⟩, acC r3, trivial⟩
   ·cases he
  ·cases he
 ·cases he
def Jo (l : List (Nat × Ent)) (f : FuncId) (args : List AV) : Option (Bool × AV) := match ak l f with
 | some e => e args
 | none => none
def av (l : List (Nat × Ent)) : Specs := { call := Jo l }
abbrev Rnt := List AV → List AV → Option (Bool × AV)
def aej (l : List (Nat × Rnt)) (f : FuncId) (cells aG : List AV) : Option (Bool × AV) := match ak l f with
 | some e => e cells aG
 | none => none
abbrev Bnt := List AV → List AV → Option (Bool × List AV × AV)
def ahC (l : List (Nat × Bnt)) (f : FuncId) (cells aG : List AV) : Option (Bool × List AV × AV) := match ak l f with
 | some e => e cells aG
 | none => none
def bQ (l : List (Nat × Ent)) (lr : List (Nat × Rnt)) (lb : List (Nat × Bnt)) (lw : List (Nat × Rw)) (ln : List (Nat × Nw)) : Specs := { call := Jo l, rd := aej lr, wr := fun f => (ak lb f).isSome || (ak lw f).isSome, bx := ahC lb, rb := ak lw, nw := ak ln }
def aU (P : Program) : List (Nat × Ent) → Prop
 | [] => True
 | (f, e) :: r => ap P f e ∧ aU P r
theorem bA {P : Program} : gx P hs0 := fun _ _ _ _ _ h => by cases h
def Dx (P : Program) (f : FuncId) (e : Rnt) : Prop := ∀ cells aG res, e cells aG = some (true, res) → RU P f cells aG res
def adr (P : Program) : List (Nat × Rnt) → Prop
 | [] => True
 | (f, e) :: r => Dx P f e ∧ adr P r
theorem aao {P : Program} {l : List (Nat × Rnt)} (h : adr P l) : ∀ f cells aG res, aej l f cells aG = some (true, res) → RU P f cells aG res := fun f cells aG res he => by
 unfold aej at he
 split at he
 ·rename_i e hl
  have : ∀ {l : List (Nat × Rnt)}, adr P l → ak l f = some e → Dx P f e := by
   intro l
   induction l with
   | nil => intro _ h; cases h
   | cons p r ih =>
    obtain ⟨k, e'⟩ := p
    intro ha hlk
    simp only [ak] at hlk
    split at hlk
    ·rename_i hb
     have := Nat.eq_of_beq_eq_true hb
     simp only [Option.some.injEq] at hlk
     subst this; subst hlk
     exact ha.1
    ·exact ih ha.2 hlk
  exact this h hl cells aG res he
 ·cases he
theorem FR {P : Program} {l : List (Nat × Ent)} (h : aU P l) : ∀ f args res, Jo l f args = some (true, res) → DA P f args res := fun f args res he => by
 unfold Jo at he
 split at he
 ·rename_i e hl
  have : ∀ {l : List (Nat × Ent)}, aU P l → ak l f = some e → ap P f e := by
   intro l
   induction l with
   | nil => intro _ h; cases h
   | cons p r ih =>
    obtain ⟨k, e'⟩ := p
    intro ha hlk
    simp only [ak] at hlk
    split at hlk
    ·rename_i hb
     have := Nat.eq_of_beq_eq_true hb
     simp only [Option.some.injEq] at hlk
     subst this; subst hlk
     exact ha.1
    ·exact ih ha.2 hlk
  exact this h hl args res he
 ·cases he
theorem ah {P : Program} {l : List (Nat × Ent)} (h : aU P l) : SpecsOk P (av l) := ⟨FR h, (fun _ _ _ _ h => by cases h), (fun _ _ _ _ _ h => by cases h), (fun _ _ h => by cases h), (fun _ _ h => by cases h)⟩
def dS (P : Program) (f : FuncId) (e : Bnt) : Prop := ∀ cells aG cells' res, e cells aG = some (true, cells', res) → RT P f cells aG cells' res
def adt (P : Program) : List (Nat × Bnt) → Prop
 | [] => True
 | (f, e) :: r => dS P f e ∧ adt P r
theorem ada {P : Program} {l : List (Nat × Bnt)} (h : adt P l) : ∀ f cells aG cells' res, ahC l f cells aG = some (true, cells', res) → RT P f cells aG cells' res := fun f cells aG cells' res he => by
 unfold ahC at he
 split at he
 ·rename_i e hl
  have : ∀ {l : List (Nat × Bnt)}, adt P l → ak l f = some e → dS P f e := by
   intro l
   induction l with
   | nil => intro _ h; cases h
   | cons p r ih =>
    obtain ⟨k, e'⟩ := p
    intro ha hlk
    simp only [ak] at hlk
    split at hlk
    ·rename_i hb
     have := Nat.eq_of_beq_eq_true hb
     simp only [Option.some.injEq] at hlk
     subst this; subst hlk
     exact ha.1
    ·exact ih ha.2 hlk
  exact this h hl cells aG cells' res he
 ·cases he
def kK (P : Program) (f : FuncId) (q : Rw) : Prop := ∀ l aG l', q.F l aG = some (true, l') → ado P f q.t q.e l aG l'
def ahM (P : Program) : List (Nat × Rw) → Prop
 | [] => True
 | (f, q) :: r => kK P f q ∧ ahM P r
theorem Ly {P : Program} {f : FuncId} {q : Rw} : ∀ {l : List (Nat × Rw)}, ahM P l → ak l f = some q → kK P f q
 | [], _, h => by cases h
 | (k, e') :: r, ha, hlk => by
  simp only [ak] at hlk
  split at hlk
  ·rename_i hb
   have := Nat.eq_of_beq_eq_true hb
   simp only [Option.some.injEq] at hlk
   subst this; subst hlk
   exact ha.1
  ·exact Ly ha.2 hlk
def Eg (P : Program) (f : FuncId) (q : Nw) : Prop := ∀ args l', q.F args = some (true, l') → ahJ P f q.t q.e args l'
def ahN (P : Program) : List (Nat × Nw) → Prop
 | [] => True
 | (f, q) :: r => Eg P f q ∧ ahN P r
theorem Lz {P : Program} {f : FuncId} {q : Nw} : ∀ {l : List (Nat × Nw)}, ahN P l → ak l f = some q → Eg P f q
 | [], _, h => by cases h
 | (k, e') :: r, ha, hlk => by
  simp only [ak] at hlk
  split at hlk
  ·rename_i hb
   have := Nat.eq_of_beq_eq_true hb
   simp only [Option.some.injEq] at hlk
   subst this; subst hlk
   exact ha.1
  ·exact Lz ha.2 hlk
theorem aW {P : Program} {l : List (Nat × Ent)} {lr : List (Nat × Rnt)} {lb : List (Nat × Bnt)} {lw : List (Nat × Rw)} {ln : List (Nat × Nw)} (h : aU P l) (hr : adr P lr) (hb : adt P lb) (hw : ahM P lw) (hn : ahN P ln) : SpecsOk P (bQ l lr lb lw ln) := ⟨FR h, aao hr, ada hb, fun _ _ hq => Ly hw hq, fun _ _ hq => Lz hn hq⟩
abbrev Qj := List AV → List HO → Option (Bool × AV × List HO)
def aeK (l : List (Nat × Qj)) : Hs := fun f args heap => match ak l f with
 | some h => h args heap
 | none => none
def fu {α : Type} (cmp : α → α → Int) (l : List α) : List α := l.mergeSort (fun a b => decide (cmp a b ≤ 0))
def Vb (τ : Ty) (e : TypeId) (g : FuncId) (cmp : τ.den → τ.den → Int) (good : τ.den → Bool) : Qj := fun args heap => match args with
 | [.msl k v lo hi, .fn g' .pnil] => match Nat.beq g g' with
  | true => match heap[k]? with
   | some (.mrow τ' e' v' l) => if v' = v then if e' = e then match cast? (.slice τ') (.slice τ) l with
     | some l => some (decide (l.length ≤ LIM) && l.all good, .tup .pnil, heap.set k (.mrow τ e v (l.take lo ++ fu cmp ((l.take hi).drop lo) ++ l.drop hi)))
     | none => none
    else none else none
   | _ => none
  | false => none
 | _ => none
def JB (P : Program) (f : FuncId) (h : Qj) : Prop := ∀ args heap out heap', h args heap = some (true, out, heap') → cO P f ∧
 ∀ (B : Bd) (w0 : World) (St0 : Nat → Nat → Prop) (c : Gh), Inv B w0 St0 c → c.heap = heap → ∀ vs, RAs c args vs →
  Calls P f vs.toArray c.w fun e w' => ∃ v c', e = .returned v ∧ c'.heap = heap' ∧ heap'.length = heap.length ∧ c'.w = w' ∧ Inv B w0 St0 c' ∧ Ev c c' ∧ RA c' out [v]
def ads (P : Program) : List (Nat × Qj) → Prop
 | [] => True
 | (f, h) :: r => JB P f h ∧ ads P r
theorem aaU {P : Program} {l : List (Nat × Qj)} (h : ads P l) : gx P (aeK l) := fun f args heap out heap' he => by
 unfold aeK at he
 split at he
 ·rename_i e hl
  have : ∀ {l : List (Nat × Qj)}, ads P l → ak l f = some e → JB P f e := by
   intro l
   induction l with
   | nil => intro _ h; cases h
   | cons p r ih =>
    obtain ⟨k, e'⟩ := p
    intro ha hlk
    simp only [ak] at hlk
    split at hlk
    ·rename_i hb
     have := Nat.eq_of_beq_eq_true hb
     simp only [Option.some.injEq] at hlk
     subst this; subst hlk
     exact ha.1
    ·exact ih ha.2 hlk
  exact this h hl args heap out heap' he
 ·cases he
end Go.Proofs.YtboikinjlmjgjaaGreat.Abs
