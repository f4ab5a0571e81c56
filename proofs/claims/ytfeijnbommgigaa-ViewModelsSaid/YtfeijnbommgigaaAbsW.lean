/- A function's run is sound: its contract; the table of types, checked. -/
import Derived.Test.YtfeijnbommgigaaAbsV
namespace Go.Proofs.Ytfeijnbommgigaa.Abs
open Go Go.RowKit

/-- How a result is read. -/
def resSem (tmps : Array Value) : ResultVar → Sem Value
  | .tmp t => pure (tmps.getD t undef)
  | .cell t ty => do loadVar ty (← asAddr (tmps.getD t undef))

section
variable {P : Program} {tab : Tab} {B lo : Nat} {w0 : World} {St0 : Nat → Nat → Prop} {fs : List (List AV × List Value)} {σ : Sg} {a : Act} {c : Gh}

theorem leave_marks {fn : Func} {tmps : Array Value} {R : Ending → World → Prop} {n : Nat} : ∀ (ms : List Nat) (c : Gh) (w1 : World), Inv B w1 St0 c → ms.Nodup → (∀ D ∈ ms, B ≤ D ∧ c.w.heap[D]? = some (.deferred (some []))) →
    (∀ (c' : Gh) (w2 : World), c'.heap = c.heap → Inv B w2 St0 c' → Ev c c' → Below B c.w c'.w → c'.w.drawn = c.w.drawn → (∀ k, k ∉ ms → c'.w.heap[k]? = c.w.heap[k]?) → ∃ v, (results fn tmps).run P c'.w = .ok v c'.w ∧ R (.returned v) c'.w) →
    LeavesInM (RF none) n P fn tmps R (ms.map fun D => { target := .collected D, args := #[] }) .returning c.w
  | [], c, w1, hI, _, _, h => h c w1 rfl hI (Ev.refl c) (Below.refl _ _) rfl (fun _ _ => rfl)
  | D :: ms, c, w1, hI, hnd, hall, h => by
    obtain ⟨hB, hD⟩ := hall D (List.mem_cons_self ..)
    obtain ⟨hn1, hn2⟩ := List.nodup_cons.1 hnd
    obtain ⟨hI2, hE2⟩ := hI.other (grownBy_putObj' c.w D (.deferred none)) hD rfl
    refine ⟨by simp, .inl ⟨D, _, rfl, run_takeDeferred hD, ?_⟩⟩
    refine leave_marks ms { c with w := c.w.putObj D (.deferred none) } _ hI2 hn2 (fun D' hD' => ?_) (fun c' w2 q1 q2 q3 q4 q5 q6 => ?_)
    · obtain ⟨h1, h2⟩ := hall D' (List.mem_cons_of_mem _ hD')
      have hne : D' ≠ D := fun e => hn1 (by rw [← e]; exact hD')
      exact ⟨h1, (World.putObj_heap_other hne).trans h2⟩
    · refine h c' w2 q1 q2 (hE2.trans q3) (Below.trans ((Below.refl B c.w).grown (grownBy_putObj' c.w D (.deferred none)) hI.size (fun k e => by cases e; exact hB)) q4) q5 (fun k hk => ?_)
      rw [q6 k (fun hm => hk (List.mem_cons_of_mem _ hm))]
      have hne : k ≠ D := fun e => hk (by rw [e]; exact List.mem_cons_self ..)
      exact World.putObj_heap_other hne

theorem resOf_sound (tk : TabOk P tab) (hI : Inv B w0 St0 c) (hh : c.heap = σ.heap) (hE : RAs c σ.env a.tmps.toList) {rv : ResultVar} {u : AV} (h : resOf tab σ rv = some u) :
    ∃ v, (resSem a.tmps rv).run P c.w = .ok v c.w ∧ RA c u [v] := by
  cases rv with
  | tmp t =>
    have hx := opnd_sound hE (.tmp t)
    simp only [opnd, Act.eval] at hx
    simp only [resOf] at h
    split at h
    · cases h
    · simp only [Option.some.injEq] at h
      subst h
      exact ⟨_, by simp [resSem], hx⟩
  | cell t ty =>
    have hx := opnd_sound hE (.tmp t)
    simp only [opnd, Act.eval] at hx
    simp only [resOf] at h
    split at h
    · rename_i k off hk
      rw [hk] at hx
      obtain ⟨cells, hc, e⟩ := hx
      simp only [List.cons.injEq, and_true] at e
      split at h
      · rename_i cells' τ hc' ht
        rw [hh] at hc
        have : cells' = cells := by
          simp only [List.getD, hc, Option.getD_some, HO.box.injEq] at hc'
          exact hc'.symm
        subst this
        split at h
        · rename_i x hx
          simp only [Option.some.injEq] at h
          subst h
          obtain ⟨arr, t', h1, h2, h3⟩ := box_cell hI (by rw [hh]; exact hc)
          have hrep := asm_sound hx ((h2.drop off).take τ.size)
          obtain ⟨v, hrun, hval⟩ := run_loadVar_data tk ht c.w ⟨c.blk k, off, none⟩ _ hrep.size (fun j u hu => by
            rw [addr_add, h3, ← hu, List.getElem?_take]
            have hj : j < τ.size := by
              rcases Nat.lt_or_ge j τ.size with h | h
              · exact h
              · rw [List.getElem?_take, if_neg (by omega)] at hu; cases hu
            rw [if_pos hj, List.getElem?_drop])
          refine ⟨v, ?_, v, rfl, repV_of_cells hrep hval⟩
          simp [resSem, e, asAddr, hrun]
        · cases h
      · cases h
    · cases h

theorem resAll_sound (tk : TabOk P tab) (hI : Inv B w0 St0 c) (hh : c.heap = σ.heap) (hE : RAs c σ.env a.tmps.toList) : ∀ {rs : List ResultVar} {l : List AV}, resAll tab σ rs = some l →
    ∃ vs, (rs.mapM (resSem a.tmps)).run P c.w = .ok vs c.w ∧ RAs c l vs
  | [], l, h => by
    simp only [resAll, Option.some.injEq] at h
    subst h
    exact ⟨[], by simp, trivial⟩
  | rv :: rs, l, h => by
    simp only [resAll] at h
    split at h
    · rename_i u us h1 h2
      simp only [Option.some.injEq] at h
      subst h
      obtain ⟨v, g1, g2⟩ := resOf_sound tk hI hh hE h1
      obtain ⟨vs, q1, q2⟩ := resAll_sound tk hI hh hE h2
      refine ⟨v :: vs, ?_, g2, q2⟩
      rw [List.mapM_cons, Sem.run_bind, g1, Result.andThen_ok, Sem.run_bind, q1, Result.andThen_ok]
      rfl
    · cases h

theorem packR_sound {l : List AV} {vs : List Value} (h : RAs c l vs) : RA c (packR l) [if h : vs.length = 1 then vs[0] else .tuple vs.toArray] := by
  match l, vs, h with
  | [], [], _ => exact ⟨[], by simp, rfl, rfl⟩
  | [u], [v], ⟨h1, _⟩ => simpa [packR] using h1
  | u :: u' :: l, v :: v' :: vs, h =>
    refine ⟨v :: v' :: vs, by simp, RA.of_chain h, isCh_chainA _⟩

theorem results_sound (tk : TabOk P tab) (hI : Inv B w0 St0 c) (hh : c.heap = σ.heap) (hE : RAs c σ.env a.tmps.toList) {fn : Func} {l : List AV} (h : resAll tab σ fn.results.toList = some l) :
    ∃ v vs, (results fn a.tmps).run P c.w = .ok v c.w ∧ RAs c l vs ∧ v = (if h : vs.length = 1 then vs[0] else .tuple vs.toArray) := by
  obtain ⟨vs, h1, h2⟩ := resAll_sound tk hI hh hE h
  refine ⟨_, vs, ?_, h2, rfl⟩
  have e : results fn a.tmps = (do let vs ← fn.results.mapM (resSem a.tmps); pure (if h : vs.size = 1 then vs[0] else .tuple vs)) := by
    unfold results
    congr 2
  rw [e, Array.mapM_eq_mapM_toList, Sem.run_bind, map_eq_pure_bind, Sem.run_bind, h1, Result.andThen_ok]
  simp

/-- What is needed of the functions that are entered. -/
structure FiOk (P : Program) (f : FuncId) (x : Fi) : Prop where
  fn : ∃ fn, P.funcs[f]? = some fn ∧ fn.body = some x.code ∧ fn.ntmps = x.ntmps ∧ fn.results.toList = x.results ∧ (fn.name == "runtime.NumGoroutine") = false
  tab : TabOk P x.S.tab
  specs : SpecsOk P x.S.T

theorem enter_env {l : List AV} {vs : List Value} (h : RAs c l vs) (n : Nat) : RAs c (l ++ List.replicate n .unk) (vs ++ List.replicate n undef) :=
  h.append (RAs_unk (by simp))

/-- A contract of a function that turns rows in place. -/
def HsOk (P : Program) (hs : Hs) : Prop := ∀ f args heap out heap', hs f args heap = some (true, out, heap') → Callable P f ∧
  ∀ (B : Nat) (w0 : World) (St0 : Nat → Nat → Prop) (c : Gh), Inv B w0 St0 c → c.heap = heap → ∀ vs, RAs c args vs →
    Calls P f vs.toArray c.w fun e w' => ∃ v c', e = .returned v ∧ c'.heap = heap' ∧ heap'.length = heap.length ∧ c'.w = w' ∧ Inv B w0 St0 c' ∧ Ev c c' ∧ RA c' out [v]

theorem mkCkY_sound (hm : P.follows .mixedOrders = true) {fi : FuncId → Option Fi} {hs : Hs} {fuel : Nat} (hfi : ∀ f x, fi f = some x → FiOk P f x) (hhs : HsOk P hs) : ∀ d yk Γ, YkOk P yk Γ → CallOk P (mkCkY fi hs fuel d yk) Γ
  | d, yk, Γ, hyk, .yld j, args, heap, k, r, h => hyk j args heap k r (by cases d <;> exact h)
  | 0, yk, Γ, hyk, .fn f, args, heap, k, r, h => by cases h
  | d + 1, yk, Γ, hyk, .fn f, args, heap, k, r, h => by
    simp only [mkCkY] at h
    split at h
    · rename_i b out heap' hsf
      cases b with
      | false => cases h
      | true =>
        obtain ⟨h1, h2⟩ := hhs f args heap out heap' hsf
        refine fun fs B w0 St0 c hI hh vs hr hfs hcx => ⟨h1, (h2 B w0 St0 c hI hh vs hr).mono ?_⟩
        rintro e w' ⟨v, c', he, q1, q2, q3, q4, q5, q6⟩
        exact ⟨v, out, c', he, by rw [q1]; exact h, q3, q4, q6, by rw [q1, q2]; exact Nat.le_refl _, fun fr hfr => (hfs fr hfr).1.mono q5⟩
    split at h
    · rename_i x hx
      obtain ⟨⟨fn, f1, f2, f3, f4, f5⟩, tk, ts⟩ := hfi f x hx
      refine fun fs B w0 St0 c hI hh vs hr hfs hcx => ⟨⟨fn, f1, by simp [f2], f5⟩, ?_⟩
      refine callsIn_wide.1 (callsIn_of_wp_marks (F := RF none) (n := 0) f1 f2 trivial (wpIn_mono (exec_sound hm tk ts ⟨mkCkY_sound hm hfi hhs d yk Γ hyk, mkCkY_sound hm hfi hhs d⟩ x.code none 0 fs heap.length B w0 St0 r (fun _ e => by cases e) hcx (.inl rfl) _ _ _ c.w (Nat.le_refl _) h ⟨c, w0, rfl, hh, hI, ?_, Marks.none B w0, hfs⟩) fun e a w hn => ?_))
      · have := enter_env hr (x.ntmps - args.length)
        rw [f3]
        have hlen := hr.length
        simpa [hlen] using this
      · have fin : ∀ σ', (match resAll x.S.tab σ' x.results with | some l => k (packR l) σ'.heap | none => none) = some r → Rel fs heap.length B w0 St0 σ' a w ∧ heap.length ≤ σ'.heap.length → LeavesInM (RF none) 0 P fn a.tmps (fun e w => ∃ v' out c', e = .returned v' ∧ k out c'.heap = some r ∧ c'.w = w ∧ Inv B w0 St0 c' ∧ RA c' out [v'] ∧ heap.length ≤ c'.heap.length ∧ ∀ fr ∈ fs, RAs c' fr.1 fr.2) a.defers .returning w := by
          rintro σ' h1 ⟨⟨c1, w1, rfl, hh1, hI1, hE1, ⟨hb1, ho1, ms, hms, hnod, hmk⟩, hfs1⟩, hle⟩
          rw [hms]
          refine leave_marks ms c1 w1 hI1 hnod (fun D hD => ⟨(hmk D hD).1, hI1.drawn.keep D _ (hmk D hD).2.2 rfl⟩) (fun c' w2 g1 hI2 hE2 g4 g5 g6 => ?_)
          have hh' : c'.heap = σ'.heap := g1.trans hh1
          have hE' := hE1.mono hE2
          have ho' : Og w0 c'.w := ⟨by rw [g5]; exact (ho1.trans hI1.drawn).dr, fun k o x y => by
            rw [g6 k (fun hm => by have := (hmk k hm).2.1; have := (Array.getElem?_eq_some_iff.1 x).1; omega)]
            exact (ho1.trans hI1.drawn).keep k o x y⟩
          have hI' : Inv B w0 St0 c' := hI2.base ((hb1.trans hI1.below).trans g4) ho'
          split at h1
          · rename_i l hl
            rw [← f4] at hl
            obtain ⟨v, vs', q1, q2, q3⟩ := results_sound tk hI' hh' hE' hl
            exact ⟨v, q1, v, packR l, c', rfl, by rw [hh']; exact h1, rfl, hI', by rw [q3]; exact packR_sound q2, by rw [hh']; exact hle, fun fr hfr => (hfs1 fr hfr).1.mono hE2⟩
          · cases h1
        cases e with
        | normal => obtain ⟨σ', h1, h2⟩ := hn; exact fin σ' h1 h2
        | ret => obtain ⟨σ', h1, h2⟩ := hn; exact fin σ' h1 h2
        | exit id => obtain ⟨σ', h1, _⟩ := hn; cases h1
        | goto l => exact hn.elim
        | panic ch => exact hn.elim
        | outgrown => exact hn.elim
    · cases h

theorem mkCk_sound (hm : P.follows .mixedOrders = true) {fi : FuncId → Option Fi} {hs : Hs} {fuel : Nat} (hfi : ∀ f x, fi f = some x → FiOk P f x) (hhs : HsOk P hs) (d : Nat) : CkOk P (mkCk fi hs fuel d) [] :=
  ⟨mkCkY_sound hm hfi hhs d noY [] (fun _ _ _ _ _ h => by cases h), mkCkY_sound hm hfi hhs d⟩

theorem datH_sound (hI : Inv B w0 St0 c) {St' : Nat → Nat → Prop} (h1 : ∀ b o, c.St b o → St' b o) (h2 : ∀ b o, B ≤ b → b < c.w.heap.size → St' b o) {t : Ty} {u : AV} {x : t.den} {v : Value} (h : datH c.heap t u = some x) (r : RA c u [v]) : RepV c.w St' t x v := by
  have plain : ∀ {t : Ty} {u : AV} {x : t.den}, dat? t u = some x → RA c u [v] → RepV c.w St' t x v := fun h r => (dat?_sound h r).mono h1 (fun _ _ _ _ x => x)
  unfold datH at h
  split at h
  · rename_i k ver lo hi
    split at h
    · rename_i τ
      split at h
      · rename_i τ' e v' l hk
        split at h
        · rename_i q1
          subst q1
          split at h
          · rename_i l2 hc
            obtain ⟨et, hl2⟩ := cast?_some hc
            injection et with et
            subst et
            have hl2 : l2 = l := hl2
            subst hl2
            injection h with h
            subst h
            have hlive := msl_live r hk
            obtain ⟨xs, m1, m2, m3⟩ := hI.mrow k _ _ _ _ hk
            exact (repv_cell rfl).2 (frz_rep (B := B) (e := e) (xs := xs) m1 (m2.mono h1 (fun _ _ _ _ x => x)) (fun b o hb => by have := m1.lt b hb; exact h2 b o this.1 this.2) hlive)
          · cases h
        · cases h
      · cases h
    · cases h
  · exact plain h r

theorem datR_sound (hI : Inv B w0 St0 c) {St' : Nat → Nat → Prop} (h1 : ∀ b o, c.St b o → St' b o) (h2 : ∀ b o, B ≤ b → b < c.w.heap.size → St' b o) : ∀ {ts : List Ty} {l l' : List AV} {vs : List Value}, datR c.heap ts l = some l' → RAs c l vs → RAs (emptyGh c.w St') l' vs
  | [], [], l', [], h, _ => by
    simp only [datR, Option.some.injEq] at h
    subst h
    trivial
  | t :: ts, u :: l, l', v :: vs, h, ⟨r, rs⟩ => by
    simp only [datR] at h
    split at h
    · rename_i x r' hx hr'
      simp only [Option.some.injEq] at h
      subst h
      exact ⟨⟨v, rfl, datH_sound hI h1 h2 hx r⟩, datR_sound hI h1 h2 hr' rs⟩
    · cases h

theorem args_sound {w : World} {St : Nat → Nat → Prop} : ∀ {ds : List ((t : Ty) × t.den)} {vs : List Value}, RepVs w St ds vs → RAs (emptyGh w St) (ds.map fun d => .val d.1 d.2) vs
  | [], [], _ => trivial
  | _ :: _, v :: _, ⟨h, hs⟩ => ⟨⟨v, rfl, h⟩, args_sound hs⟩

/-- A FUNCTION'S CONTRACT OUT OF ITS RUN. -/
theorem meets_of_args (hm : P.follows .mixedOrders = true) {fi : FuncId → Option Fi} {hs : Hs} (hfi : ∀ f x, fi f = some x → FiOk P f x) (hhs : HsOk P hs) {d fuel : Nat} {f : FuncId} {x : Fi} (hx : FiOk P f x) {tys : List Ty} {args : List AV} {res : AV}
    (h : runF fi hs d x tys fuel args = some res) : Callable P f ∧ ∀ w St, (∀ b o, St b o → b < w.heap.size) → ∀ vs, RAs (emptyGh w St) args vs → Calls P f vs.toArray w (Post w St res) := by
  obtain ⟨⟨fn, f1, f2, f3, f4, f5⟩, tk, ts⟩ := hx
  refine ⟨⟨fn, f1, by simp [f2], f5⟩, fun w St hb vs hr => ?_⟩
  have hI : Inv w.heap.size w St (emptyGh w St) := ⟨Below.refl _ _, Nat.le_refl _, hb, fun _ _ x => x, fun _ _ x => .inl x, fun k cells hk => by simp [emptyGh] at hk, fun k t e v hk => by simp [emptyGh] at hk, fun k k' b _ hk => by simp [obk, emptyGh] at hk, fun k t e v l hk => by simp [emptyGh] at hk, Og.refl _⟩
  have hrs := hr
  refine callsIn_wide.1 (callsIn_of_wp_marks (F := RF none) (n := 0) f1 f2 trivial (wpIn_mono (exec_sound hm tk ts (mkCk_sound hm hfi hhs d) x.code none 0 [] 0 w.heap.size w St res (fun _ e => by cases e) (fun _ h => by cases h) (.inl rfl) _ _ _ w (Nat.zero_le _) h ⟨emptyGh w St, w, rfl, rfl, hI, ?_, Marks.none _ _, fun _ hfr => by cases hfr⟩) fun e a w' hn => ?_))
  · have := enter_env hrs (x.ntmps - args.length)
    rw [f3]
    have hlen := hrs.length
    simpa [hlen] using this
  · have fin : ∀ σ', (match resAll x.S.tab σ' x.results with | some l => (match datR σ'.heap tys l with | some l => some (packR l) | none => none) | none => none) = some res → Rel [] 0 w.heap.size w St σ' a w' ∧ 0 ≤ σ'.heap.length → LeavesInM (RF none) 0 P fn a.tmps (Post w St res) a.defers .returning w' := by
      rintro σ' h1 ⟨⟨c1, w1, rfl, hh1, hI1, hE1, ⟨hb1, ho1, ms, hms, hnod, hmk⟩, _⟩, _⟩
      rw [hms]
      refine leave_marks ms c1 w1 hI1 hnod (fun D hD => ⟨(hmk D hD).1, hI1.drawn.keep D _ (hmk D hD).2.2 rfl⟩) (fun c' w2 g1 hI2 hE2 g4 g5 g6 => ?_)
      have hh' : c'.heap = σ'.heap := g1.trans hh1
      have hE' := hE1.mono hE2
      have ho' : Og w c'.w := ⟨by rw [g5]; exact (ho1.trans hI1.drawn).dr, fun k o x y => by
        rw [g6 k (fun hm => by have := (hmk k hm).2.1; have := (Array.getElem?_eq_some_iff.1 x).1; omega)]
        exact (ho1.trans hI1.drawn).keep k o x y⟩
      have hI' : Inv w.heap.size w St c' := hI2.base ((hb1.trans hI1.below).trans g4) ho'
      split at h1
      · rename_i l hl
        rw [← f4] at hl
        obtain ⟨v, vs', q1, q2, q3⟩ := results_sound tk hI' hh' hE' hl
        split at h1
        · rename_i l' hl'
          simp only [Option.some.injEq] at h1
          subst h1
          rw [← hh'] at hl'
          refine ⟨v, q1, v, fun b o => c'.St b o ∨ (w.heap.size ≤ b ∧ b < c'.w.heap.size), rfl, hI'.below, hI'.drawn.dr, fun b o x => .inl (hI'.st0 b o x), fun b o x => ?_, by rw [q3]; exact packR_sound (datR_sound hI' (fun _ _ x => .inl x) (fun _ _ x y => .inr ⟨x, y⟩) hl' q2)⟩
          rcases x with x | x
          · rcases hI'.stN b o x with y | y
            · exact .inl y
            · exact .inr ⟨y, hI'.bnd b o x⟩
          · exact .inr x
        · cases h1
      · cases h1
    cases e with
    | normal => obtain ⟨σ', h1, h2⟩ := hn; exact fin σ' h1 h2
    | ret => obtain ⟨σ', h1, h2⟩ := hn; exact fin σ' h1 h2
    | exit id => obtain ⟨σ', h1, _⟩ := hn; cases h1
    | goto l => exact hn.elim
    | panic ch => exact hn.elim
    | outgrown => exact hn.elim

theorem meets_of_run (hm : P.follows .mixedOrders = true) {fi : FuncId → Option Fi} {hs : Hs} (hfi : ∀ f x, fi f = some x → FiOk P f x) (hhs : HsOk P hs) {d fuel : Nat} {f : FuncId} {x : Fi} (hx : FiOk P f x) {tys : List Ty} {ds : List ((t : Ty) × t.den)} {res : AV}
    (h : runF fi hs d x tys fuel (ds.map fun d => .val d.1 d.2) = some res) : MeetsD P f ds res :=
  let ⟨h1, h2⟩ := meets_of_args hm hfi hhs hx h
  ⟨h1, fun w St hb vs hr => h2 w St hb vs (args_sound hr)⟩

end

/- THE TABLE OF TYPES. -/
def veq : Value → Value → Bool
  | .int k n, .int k' n' => decide (k = k') && decide (n = n')
  | .bool b, .bool b' => decide (b = b')
  | .string s, .string s' => decide (s.data.toList = s'.data.toList)
  | .slice none 0 0, .slice none 0 0 => true
  | _, _ => false

theorem veq_eq {a b : Value} (h : veq a b = true) : a = b := by
  unfold veq at h
  split at h
  · simp only [Bool.and_eq_true, decide_eq_true_eq] at h
    obtain ⟨rfl, rfl⟩ := h
    rfl
  · simp only [decide_eq_true_eq] at h
    subst h
    rfl
  · rename_i s s'
    simp only [decide_eq_true_eq] at h
    obtain ⟨⟨l⟩⟩ := s
    obtain ⟨⟨l'⟩⟩ := s'
    simp only at h
    subst h
    rfl
  · rfl
  · cases h

def veqs : List Value → List Value → Bool
  | [], [] => true
  | a :: l, b :: m => veq a b && veqs l m
  | _, _ => false

theorem veqs_eq : ∀ {l m : List Value}, veqs l m = true → l = m
  | [], [], _ => rfl
  | a :: l, b :: m, h => by
    simp only [veqs, Bool.and_eq_true] at h
    rw [veq_eq h.1, veqs_eq h.2]

def chkF (ty : TypeId → Option Ty) : List Field → List Ty → Nat → Bool
  | [], [], _ => true
  | f :: fs, a :: as, off => decide (ty f.type = some a) && decide (f.offset = off) && decide (0 < a.size) && decide (f.name ≠ "_") && chkF ty fs as (off + a.size)
  | _, _, _ => false

theorem chkF_ok {ty : TypeId → Option Ty} : ∀ {fs : List Field} {as : List Ty} {off : Nat}, chkF ty fs as off = true → FOk ty fs as off
  | [], [], _, _ => trivial
  | f :: fs, a :: as, off, h => by
    simp only [chkF, Bool.and_eq_true, decide_eq_true_eq] at h
    exact ⟨h.1.1.1.1, h.1.1.1.2, h.1.1.2, h.1.2, chkF_ok h.2⟩

def chkU (P : Program) (tab : Tab) (t : TypeId) (τ : Ty) : TypeDesc → Bool
  | .int k => decide (τ = .int k)
  | .bool => decide (τ = .bool)
  | .string => decide (τ = .str)
  | .slice e => match τ with
    | .slice a => decide (tab.ty e = some a) && decide (tab.elem t = some e) && decide (0 < a.size)
    | _ => false
  | .struct fs => τ.isStruct && !P.stoodInHeld t && !P.eqGuardType P.depth t && chkF tab.ty fs.toList τ.fields 0
  | _ => false

def chkT (P : Program) (tab : Tab) (t : TypeId) (τ : Ty) : Bool :=
  match P.info? t, P.underlying t with
  | some i, some d => decide (i.size = τ.size) && decide (i.bytes ≤ 16384) && (match i.zero with | some z => veqs z.cells.toList (zl τ) && (!τ.isStruct || (match z with | .agg _ => true | _ => false)) | none => false) && chkU P tab t τ d
  | _, _ => false

theorem chkT_ok {P : Program} {tab : Tab} {t : TypeId} {τ : Ty} (h : chkT P tab t τ = true) : ∃ i z, P.info? t = some i ∧ i.size = τ.size ∧ i.zero = some z ∧ z.cells.toList = zl τ ∧ i.bytes ≤ 16384 ∧ (τ.isStruct = true → ∃ cs, z = .agg cs) ∧ UndOk P tab t τ := by
  unfold chkT at h
  split at h
  · rename_i i d hi hd
    simp only [Bool.and_eq_true, decide_eq_true_eq] at h
    obtain ⟨⟨⟨h1, h2⟩, h3⟩, h4⟩ := h
    split at h3
    · rename_i z hz
      simp only [Bool.and_eq_true] at h3
      refine ⟨i, z, hi, h1, hz, veqs_eq h3.1, h2, fun hs => ?_, ?_⟩
      · have := h3.2
        rw [hs] at this
        simp only [Bool.not_true, Bool.false_or] at this
        split at this
        · exact ⟨_, rfl⟩
        · cases this
      · unfold chkU at h4
        split at h4
        · have := of_decide_eq_true h4; subst this; exact hd
        · have := of_decide_eq_true h4; subst this; exact hd
        · have := of_decide_eq_true h4; subst this; exact hd
        · split at h4
          · rename_i e τ' a
            simp only [Bool.and_eq_true, decide_eq_true_eq] at h4
            exact ⟨_, hd, h4.1.1, h4.1.2, h4.2⟩
          · cases h4
        · rename_i fs
          simp only [Bool.and_eq_true, Bool.not_eq_true'] at h4
          have fact : ∃ fs, P.underlying t = some (.struct fs) ∧ P.stoodInHeld t = false ∧ P.eqGuardType P.depth t = false ∧ FOk tab.ty fs.toList τ.fields 0 := ⟨fs, hd, h4.1.1.2, h4.1.2, chkF_ok h4.2⟩
          have hs := h4.1.1.1
          cases τ <;> simp [Ty.isStruct] at hs <;> exact fact
        · cases h4
    · cases h3
  · cases h

def chkC (P : Program) (tab : Tab) (t : TypeId) (n : Nat) : Bool :=
  match P.info? t, P.underlying t with
  | some i, some d => decide (i.size = n) && (match i.zero with | some z => decide (z.cells.size = n) | none => false) && ((tab.ty t).isSome || !decide (n = 1) || plainD d)
  | _, _ => false

theorem chkC_ok {P : Program} {tab : Tab} {t : TypeId} {n : Nat} (h : chkC P tab t n = true) : ∃ i z d, P.info? t = some i ∧ i.size = n ∧ i.zero = some z ∧ z.cells.size = n ∧ P.underlying t = some d ∧ (tab.ty t = none → n = 1 → plainD d = true) := by
  unfold chkC at h
  split at h
  · rename_i i d hi hd
    simp only [Bool.and_eq_true, decide_eq_true_eq] at h
    obtain ⟨⟨h1, h2⟩, h3⟩ := h
    split at h2
    · rename_i z hz
      refine ⟨i, z, d, hi, h1, hz, of_decide_eq_true h2, hd, fun hn h1n => ?_⟩
      simpa [hn, h1n] using h3
    · cases h2
  · cases h

def chkO (P : Program) (t : TypeId) (i d : Nat) : Bool :=
  match P.underlying t with
  | some (.struct fs) => match fs[i]? with
    | some f => decide (f.offset = d) && (match P.info? f.type with | some j => decide (0 < j.size) | none => false)
    | none => false
  | _ => false

theorem chkO_ok {P : Program} {t : TypeId} {i d : Nat} (h : chkO P t i d = true) : ∃ fs f j, P.underlying t = some (.struct fs) ∧ fs[i]? = some f ∧ f.offset = d ∧ P.info? f.type = some j ∧ 0 < j.size := by
  unfold chkO at h
  split at h
  · rename_i fs hu
    split at h
    · rename_i f hf
      simp only [Bool.and_eq_true, decide_eq_true_eq] at h
      obtain ⟨h1, h2⟩ := h
      split at h2
      · rename_i j hj
        exact ⟨fs, f, j, hu, hf, h1, hj, of_decide_eq_true h2⟩
      · cases h2
    · cases h
  · cases h

def chk1 (P : Program) (t : TypeId) (n : Nat) : Bool :=
  match P.underlying t, P.info? t with
  | some (.struct fs), some i => Nat.beq fs.size n && (List.range n).all (fun k => match fs[k]? with | some f => Nat.beq f.offset k && (match P.info? f.type with | some j => Nat.beq j.size 1 | none => false) | none => false) && (match i.zero with | some z => Nat.beq z.cells.size n | none => false)
  | _, _ => false

theorem chk1_ok {P : Program} {t : TypeId} {n : Nat} (h : chk1 P t n = true) : ∃ fs i z, P.underlying t = some (.struct fs) ∧ fs.size = n ∧ (∀ (k : Nat) f, fs[k]? = some f → f.offset = k ∧ ∃ j, P.info? f.type = some j ∧ j.size = 1) ∧ P.info? t = some i ∧ i.zero = some z ∧ z.cells.size = n := by
  unfold chk1 at h
  split at h
  · rename_i fs i hu hi
    simp only [Bool.and_eq_true, List.all_eq_true, List.mem_range] at h
    obtain ⟨⟨h1, h2⟩, h3⟩ := h
    have h1 := Nat.eq_of_beq_eq_true h1
    split at h3
    · rename_i z hz
      refine ⟨fs, i, z, hu, h1, fun k f hf => ?_, hi, hz, Nat.eq_of_beq_eq_true h3⟩
      have hk : k < n := by rw [← h1]; exact (Array.getElem?_eq_some_iff.1 hf).1
      have := h2 k hk
      rw [hf] at this
      simp only [Bool.and_eq_true] at this
      refine ⟨Nat.eq_of_beq_eq_true this.1, ?_⟩
      have h4 := this.2
      split at h4
      · rename_i j hj
        exact ⟨j, hj, Nat.eq_of_beq_eq_true h4⟩
      · cases h4
    · cases h3
  · cases h

/-- A table laid as lists. -/
structure TabL where
  ty : List (TypeId × Ty)
  cells : List (TypeId × Nat)
  offs : List ((TypeId × Nat) × Nat)
  elem : List (TypeId × TypeId)
  one : List (TypeId × Nat)

def look {α : Type} : List (Nat × α) → Nat → Option α
  | [], _ => none
  | (k, v) :: r, i => match Nat.beq k i with
    | true => some v
    | false => look r i

def look2 : List ((Nat × Nat) × Nat) → Nat → Nat → Option Nat
  | [], _, _ => none
  | ((k, j), v) :: r, i, q => match Nat.beq k i && Nat.beq j q with
    | true => some v
    | false => look2 r i q

theorem look_mem {α : Type} : ∀ {l : List (Nat × α)} {i : Nat} {v : α}, look l i = some v → (i, v) ∈ l
  | [], _, _, h => by cases h
  | (k, u) :: r, i, v, h => by
    simp only [look] at h
    split at h
    · rename_i hb
      have := Nat.eq_of_beq_eq_true hb
      simp only [Option.some.injEq] at h
      subst this; subst h
      simp
    · exact List.mem_cons_of_mem _ (look_mem h)

theorem look2_mem : ∀ {l : List ((Nat × Nat) × Nat)} {i q v : Nat}, look2 l i q = some v → ((i, q), v) ∈ l
  | [], _, _, _, h => by cases h
  | ((k, j), u) :: r, i, q, v, h => by
    simp only [look2] at h
    split at h
    · rename_i hb
      simp only [Bool.and_eq_true] at hb
      have h1 := Nat.eq_of_beq_eq_true hb.1
      have h2 := Nat.eq_of_beq_eq_true hb.2
      simp only [Option.some.injEq] at h
      subst h1; subst h2; subst h
      simp
    · exact List.mem_cons_of_mem _ (look2_mem h)

def TabL.tab (l : TabL) : Tab := ⟨look l.ty, look l.cells, look2 l.offs, look l.elem, look l.one⟩

def TabL.chk (P : Program) (l : TabL) : Bool :=
  l.ty.all (fun p => chkT P l.tab p.1 p.2) && l.cells.all (fun p => chkC P l.tab p.1 p.2) && l.offs.all (fun p => chkO P p.1.1 p.1.2 p.2) && l.elem.all (fun p => match P.underlying p.1 with | some (.slice e) => Nat.beq e p.2 | _ => false) && l.one.all (fun p => chk1 P p.1 p.2)

theorem TabL.ok {P : Program} {l : TabL} (h : l.chk P = true) : TabOk P l.tab := by
  simp only [TabL.chk, Bool.and_eq_true, List.all_eq_true] at h
  obtain ⟨⟨⟨⟨h1, h2⟩, h3⟩, h4⟩, h5⟩ := h
  refine ⟨fun t τ ht => chkT_ok (h1 (t, τ) (look_mem ht)), fun t n ht => chkC_ok (h2 (t, n) (look_mem ht)), fun t i d ht => chkO_ok (h3 ((t, i), d) (look2_mem ht)), fun t e ht => ?_, fun t n ht => chk1_ok (h5 (t, n) (look_mem ht))⟩
  have := h4 (t, e) (look_mem ht)
  simp only at this
  split at this
  · rename_i e' hu
    rw [hu, Nat.eq_of_beq_eq_true this]
  · cases this

/- CONTRACTS AS ENTRIES OF A TABLE. -/
abbrev Ent := List AV → Option (Bool × AV)

def sp0 (R : AV) : Ent := fun args => match args with | [] => some (true, R) | _ => none
def sp1 (a : Ty) (G : a.den → Bool) (R : a.den → AV) : Ent := fun args => match args with
  | [x] => match dat? a x with | some x => some (G x, R x) | none => none
  | _ => none
def sp2 (a b : Ty) (G : a.den → b.den → Bool) (R : a.den → b.den → AV) : Ent := fun args => match args with
  | [x, y] => match dat? a x, dat? b y with | some x, some y => some (G x y, R x y) | _, _ => none
  | _ => none
def sp3 (a b c : Ty) (G : a.den → b.den → c.den → Bool) (R : a.den → b.den → c.den → AV) : Ent := fun args => match args with
  | [x, y, z] => match dat? a x, dat? b y, dat? c z with | some x, some y, some z => some (G x y z, R x y z) | _, _, _ => none
  | _ => none
def sp4 (a b c d : Ty) (G : a.den → b.den → c.den → d.den → Bool) (R : a.den → b.den → c.den → d.den → AV) : Ent := fun args => match args with
  | [x, y, z, u] => match dat? a x, dat? b y, dat? c z, dat? d u with | some x, some y, some z, some u => some (G x y z u, R x y z u) | _, _, _, _ => none
  | _ => none

def sp5 (a b c d e : Ty) (G : a.den → b.den → c.den → d.den → e.den → Bool) (R : a.den → b.den → c.den → d.den → e.den → AV) : Ent := fun args => match args with
  | [x0, x1, x2, x3, x4] => match dat? a x0, dat? b x1, dat? c x2, dat? d x3, dat? e x4 with | some x0, some x1, some x2, some x3, some x4 => some (G x0 x1 x2 x3 x4, R x0 x1 x2 x3 x4) | _, _, _, _, _ => none
  | _ => none
def sp6 (a b c d e f : Ty) (G : a.den → b.den → c.den → d.den → e.den → f.den → Bool) (R : a.den → b.den → c.den → d.den → e.den → f.den → AV) : Ent := fun args => match args with
  | [x0, x1, x2, x3, x4, x5] => match dat? a x0, dat? b x1, dat? c x2, dat? d x3, dat? e x4, dat? f x5 with | some x0, some x1, some x2, some x3, some x4, some x5 => some (G x0 x1 x2 x3 x4 x5, R x0 x1 x2 x3 x4 x5) | _, _, _, _, _, _ => none
  | _ => none

def EntOk (P : Program) (f : FuncId) (e : Ent) : Prop := ∀ args res, e args = some (true, res) → MeetsR P f args res

theorem sp0_ok {P : Program} {f : FuncId} {R : AV} (h : MeetsD P f [] R) : EntOk P f (sp0 R) := fun args res he => by
  unfold sp0 at he
  split at he
  · simp only [Option.some.injEq, Prod.mk.injEq] at he
    obtain ⟨_, rfl⟩ := he
    exact meetsR_of (ds := []) trivial h
  · cases he
theorem sp1_ok {P : Program} {f : FuncId} {a : Ty} {G : a.den → Bool} {R : a.den → AV} (h : ∀ x, G x = true → MeetsD P f [⟨a, x⟩] (R x)) : EntOk P f (sp1 a G R) := fun args res he => by
  unfold sp1 at he
  split at he
  · split at he
    · rename_i x hx
      simp only [Option.some.injEq, Prod.mk.injEq] at he
      obtain ⟨h1, rfl⟩ := he
      exact meetsR_of (ds := [⟨a, x⟩]) ⟨hx, trivial⟩ (h x h1)
    · cases he
  · cases he
theorem sp2_ok {P : Program} {f : FuncId} {a b : Ty} {G : a.den → b.den → Bool} {R : a.den → b.den → AV} (h : ∀ x y, G x y = true → MeetsD P f [⟨a, x⟩, ⟨b, y⟩] (R x y)) : EntOk P f (sp2 a b G R) := fun args res he => by
  unfold sp2 at he
  split at he
  · split at he
    · rename_i x y hx hy
      simp only [Option.some.injEq, Prod.mk.injEq] at he
      obtain ⟨h1, rfl⟩ := he
      exact meetsR_of (ds := [⟨a, x⟩, ⟨b, y⟩]) ⟨hx, hy, trivial⟩ (h x y h1)
    · cases he
  · cases he
theorem sp3_ok {P : Program} {f : FuncId} {a b c : Ty} {G : a.den → b.den → c.den → Bool} {R : a.den → b.den → c.den → AV} (h : ∀ x y z, G x y z = true → MeetsD P f [⟨a, x⟩, ⟨b, y⟩, ⟨c, z⟩] (R x y z)) : EntOk P f (sp3 a b c G R) := fun args res he => by
  unfold sp3 at he
  split at he
  · split at he
    · rename_i x y z hx hy hz
      simp only [Option.some.injEq, Prod.mk.injEq] at he
      obtain ⟨h1, rfl⟩ := he
      exact meetsR_of (ds := [⟨a, x⟩, ⟨b, y⟩, ⟨c, z⟩]) ⟨hx, hy, hz, trivial⟩ (h x y z h1)
    · cases he
  · cases he
theorem sp4_ok {P : Program} {f : FuncId} {a b c d : Ty} {G : a.den → b.den → c.den → d.den → Bool} {R : a.den → b.den → c.den → d.den → AV} (h : ∀ x y z u, G x y z u = true → MeetsD P f [⟨a, x⟩, ⟨b, y⟩, ⟨c, z⟩, ⟨d, u⟩] (R x y z u)) : EntOk P f (sp4 a b c d G R) := fun args res he => by
  unfold sp4 at he
  split at he
  · split at he
    · rename_i x y z u hx hy hz hu
      simp only [Option.some.injEq, Prod.mk.injEq] at he
      obtain ⟨h1, rfl⟩ := he
      exact meetsR_of (ds := [⟨a, x⟩, ⟨b, y⟩, ⟨c, z⟩, ⟨d, u⟩]) ⟨hx, hy, hz, hu, trivial⟩ (h x y z u h1)
    · cases he
  · cases he

theorem sp5_ok {P : Program} {f : FuncId} {a b c d e : Ty} {G : a.den → b.den → c.den → d.den → e.den → Bool} {R : a.den → b.den → c.den → d.den → e.den → AV} (h : ∀ x0 x1 x2 x3 x4, G x0 x1 x2 x3 x4 = true → MeetsD P f [⟨a, x0⟩, ⟨b, x1⟩, ⟨c, x2⟩, ⟨d, x3⟩, ⟨e, x4⟩] (R x0 x1 x2 x3 x4)) : EntOk P f (sp5 a b c d e G R) := fun args res he => by
  unfold sp5 at he
  split at he
  · split at he
    · rename_i x0 x1 x2 x3 x4 h0 h1 h2 h3 h4
      simp only [Option.some.injEq, Prod.mk.injEq] at he
      obtain ⟨g1, rfl⟩ := he
      exact meetsR_of (ds := [⟨a, x0⟩, ⟨b, x1⟩, ⟨c, x2⟩, ⟨d, x3⟩, ⟨e, x4⟩]) ⟨h0, h1, h2, h3, h4, trivial⟩ (h x0 x1 x2 x3 x4 g1)
    · cases he
  · cases he
theorem sp6_ok {P : Program} {fn : FuncId} {a b c d e f : Ty} {G : a.den → b.den → c.den → d.den → e.den → f.den → Bool} {R : a.den → b.den → c.den → d.den → e.den → f.den → AV} (h : ∀ x0 x1 x2 x3 x4 x5, G x0 x1 x2 x3 x4 x5 = true → MeetsD P fn [⟨a, x0⟩, ⟨b, x1⟩, ⟨c, x2⟩, ⟨d, x3⟩, ⟨e, x4⟩, ⟨f, x5⟩] (R x0 x1 x2 x3 x4 x5)) : EntOk P fn (sp6 a b c d e f G R) := fun args res he => by
  unfold sp6 at he
  split at he
  · split at he
    · rename_i x0 x1 x2 x3 x4 x5 h0 h1 h2 h3 h4 h5
      simp only [Option.some.injEq, Prod.mk.injEq] at he
      obtain ⟨g1, rfl⟩ := he
      exact meetsR_of (ds := [⟨a, x0⟩, ⟨b, x1⟩, ⟨c, x2⟩, ⟨d, x3⟩, ⟨e, x4⟩, ⟨f, x5⟩]) ⟨h0, h1, h2, h3, h4, h5, trivial⟩ (h x0 x1 x2 x3 x4 x5 g1)
    · cases he
  · cases he

/-- Two data and a function that is given. -/
def spf2 (g : FuncId) (a b : Ty) (G : a.den → b.den → Bool) (R : a.den → b.den → AV) : Ent := fun args => match args with
  | [x, y, .fn g' .pnil] => match Nat.beq g g' with
    | true => match dat? a x, dat? b y with | some x, some y => some (G x y, R x y) | _, _ => none
    | false => none
  | _ => none

theorem fn_pnil {c c' : Gh} {g : FuncId} {vs : List Value} (h : RA c (.fn g .pnil) vs) : RA c' (.fn g .pnil) vs := by
  obtain ⟨cs, e, hcs, hc⟩ := h
  exact ⟨cs, e, hcs, hc⟩

theorem spf2_ok {P : Program} {f g : FuncId} {a b : Ty} {G : a.den → b.den → Bool} {R : a.den → b.den → AV}
    (h : ∀ x y, G x y = true → Callable P f ∧ ∀ w St, (∀ b o, St b o → b < w.heap.size) → ∀ vs, RAs (emptyGh w St) [.val a x, .val b y, .fn g .pnil] vs → Calls P f vs.toArray w (Post w St (R x y))) : EntOk P f (spf2 g a b G R) := fun args res he => by
  unfold spf2 at he
  split at he
  · rename_i x0 y0 g'
    split at he
    · rename_i hg
      have hg := Nat.eq_of_beq_eq_true hg
      subst hg
      split at he
      · rename_i x y hx hy
        simp only [Option.some.injEq, Prod.mk.injEq] at he
        obtain ⟨h1, rfl⟩ := he
        obtain ⟨k1, k2⟩ := h x y h1
        refine ⟨fun w St vs => RAs (emptyGh w St) [.val a x, .val b y, .fn g .pnil] vs, fun c vs hr => ?_, k1, k2⟩
        match vs, hr with
        | [v1, v2, v3], ⟨r1, r2, r3, _⟩ => exact ⟨⟨v1, rfl, (dat?_sound (c := c) hx r1 : RepV c.w c.St a x v1)⟩, ⟨v2, rfl, (dat?_sound (c := c) hy r2 : RepV c.w c.St b y v2)⟩, fn_pnil r3, trivial⟩
      · cases he
    · cases he
  · cases he

/-- The specifications of the functions that one function calls. -/
def specs (l : List (Nat × Ent)) : Specs := fun f args => match look l f with
  | some e => e args
  | none => none

def AllOk (P : Program) : List (Nat × Ent) → Prop
  | [] => True
  | (f, e) :: r => EntOk P f e ∧ AllOk P r

theorem hs0_ok {P : Program} : HsOk P hs0 := fun _ _ _ _ _ h => by cases h

theorem specs_ok {P : Program} {l : List (Nat × Ent)} (h : AllOk P l) : SpecsOk P (specs l) := fun f args res he => by
  unfold specs at he
  split at he
  · rename_i e hl
    have : ∀ {l : List (Nat × Ent)}, AllOk P l → look l f = some e → EntOk P f e := by
      intro l
      induction l with
      | nil => intro _ h; cases h
      | cons p r ih =>
        obtain ⟨k, e'⟩ := p
        intro ha hlk
        simp only [look] at hlk
        split at hlk
        · rename_i hb
          have := Nat.eq_of_beq_eq_true hb
          simp only [Option.some.injEq] at hlk
          subst this; subst hlk
          exact ha.1
        · exact ih ha.2 hlk
    exact this h hl args res he
  · cases he

/- FUNCTIONS THAT SORT A ROW IN PLACE. -/
abbrev HEnt := List AV → List HO → Option (Bool × AV × List HO)

def hsOf (l : List (Nat × HEnt)) : Hs := fun f args heap => match look l f with
  | some h => h args heap
  | none => none

def sortD {α : Type} (cmp : α → α → Int) (l : List α) : List α := l.mergeSort (fun a b => decide (cmp a b ≤ 0))

/-- The contract of slices.SortFunc at one element type and one comparison. -/
def sortE (τ : Ty) (e : TypeId) (g : FuncId) (cmp : τ.den → τ.den → Int) (good : τ.den → Bool) : HEnt := fun args heap => match args with
  | [.msl k v lo hi, .fn g' .pnil] => match Nat.beq g g' with
    | true => match heap[k]? with
      | some (.mrow τ' e' v' l) => if v' = v then if e' = e then match cast? (.slice τ') (.slice τ) l with
          | some l => some (decide (l.length ≤ LIM) && l.all good, .tup .pnil, heap.set k (.mrow τ e v (l.take lo ++ sortD cmp ((l.take hi).drop lo) ++ l.drop hi)))
          | none => none
        else none else none
      | _ => none
    | false => none
  | _ => none

/-- What is asked of one function's contract. -/
def HEntOk (P : Program) (f : FuncId) (h : HEnt) : Prop := ∀ args heap out heap', h args heap = some (true, out, heap') → Callable P f ∧
  ∀ (B : Nat) (w0 : World) (St0 : Nat → Nat → Prop) (c : Gh), Inv B w0 St0 c → c.heap = heap → ∀ vs, RAs c args vs →
    Calls P f vs.toArray c.w fun e w' => ∃ v c', e = .returned v ∧ c'.heap = heap' ∧ heap'.length = heap.length ∧ c'.w = w' ∧ Inv B w0 St0 c' ∧ Ev c c' ∧ RA c' out [v]

def AllH (P : Program) : List (Nat × HEnt) → Prop
  | [] => True
  | (f, h) :: r => HEntOk P f h ∧ AllH P r

theorem hsOf_ok {P : Program} {l : List (Nat × HEnt)} (h : AllH P l) : HsOk P (hsOf l) := fun f args heap out heap' he => by
  unfold hsOf at he
  split at he
  · rename_i e hl
    have : ∀ {l : List (Nat × HEnt)}, AllH P l → look l f = some e → HEntOk P f e := by
      intro l
      induction l with
      | nil => intro _ h; cases h
      | cons p r ih =>
        obtain ⟨k, e'⟩ := p
        intro ha hlk
        simp only [look] at hlk
        split at hlk
        · rename_i hb
          have := Nat.eq_of_beq_eq_true hb
          simp only [Option.some.injEq] at hlk
          subst this; subst hlk
          exact ha.1
        · exact ih ha.2 hlk
    exact this h hl args heap out heap' he
  · cases he

end Go.Proofs.Ytfeijnbommgigaa.Abs
