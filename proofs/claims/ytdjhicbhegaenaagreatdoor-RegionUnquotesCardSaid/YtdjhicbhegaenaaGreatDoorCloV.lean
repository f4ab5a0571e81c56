/- Closed runs: operations of a region. Closed runs: regions in the text's order. -/
import Derived.Test.YtdjhicbhegaenaaGreatDoorCloT
import Derived.RangeFuncCalls
import Derived.RangeFuncLeaves
import Derived.OrdersIn
import Derived.LoopNIn
import Derived.LoopN
import Derived.RangeFuncIn
import Derived.RangeFuncRecord
namespace Go.Proofs.YtdjhicbhegaenaaGreatDoor.Clo
open Go Go.RowKit

/-- The wide fence, in a round or not. -/
def RF (ro : Option Nat) : Fence := { Fence.wide with round := ro }
theorem callsRF {P : Program} {ro : Option Nat} {n : Nat} {f : FuncId} {args : Array Value} {w : World} {R : Ending → World → Prop} (h : Calls P f args w R) : CallsIn (RF ro) n P f args w R := by
  have h' : CallsIn Fence.wide n P f args w R := callsIn_wide.2 h
  exact h'
/-- An operation is put off to the round's end: none of ours. -/
def NoDef (ro : Option Nat) (o : Oper) : Prop := ro = none ∨ ∀ c, o.op ≠ .defer c
theorem op_in {P : Program} {ro : Option Nat} {n : Nat} {o : Oper} {a : Act} {w : World} {K : Act → World → Prop} {Q : Exit → Act → World → Prop} (hd : NoDef ro o) (h : o.wp P a w K Q) : o.wpIn (RF ro) n P a w K Q := by
  refine ⟨fun _ _ => trivial, ?_⟩
  have e : o.semAt (RF ro).round a.eval = execOp a.eval o := by
    rcases hd with rfl | hd
    · rfl
    · exact Oper.semAt_eq _ _ _ hd
  rw [e]
  unfold Oper.wp at h
  generalize (execOp a.eval o).run P w = r at h ⊢
  cases r with
  | ok x w' =>
    cases x <;> simp only [Oper.upon, Oper.uponIn] at h ⊢
    case value => exact h
    case skip => exact h
    case defer => exact h
    case enter => exact ⟨(fun q => by cases q), callsRF h⟩
    case row =>
      refine ⟨(fun q => by cases q), fun c cs _ => ?_⟩
      obtain ⟨v, w'', r1, r2⟩ := h c cs
      exact ⟨v, w'', r1, stepsIn_wide.2 r2⟩
  | halt x w' => cases x <;> simp only [Oper.upon, Oper.uponIn] at h ⊢ <;> exact h

/-- What leads from a state to another one, from whatever base it is seen. -/
def Nn (h h' : Pos → EO) : Prop := ∀ k, blank (h' k) = true → blank (h k) = true
def Step (B : Nat) (φ : Gx) (h : Pos → EO) (w : World) (ψ : Gx) (h' : Pos → EO) (w' : World) : Prop := φ.le ψ ∧ (∀ W, Inv B W φ h w → Inv B W ψ h' w') ∧ Nn h h'
theorem Step.refl {B : Nat} {φ : Gx} {h : Pos → EO} {w : World} : Step B φ h w φ h w := ⟨Gx.le.refl φ, fun _ h => h, fun _ h => h⟩
theorem blank_cases {o : EO} (h : blank o = true) : isRes o = true ∨ o = .none := by cases o <;> first | exact .inl rfl | exact .inr rfl | cases h
theorem upd_nn {h : Pos → EO} {wr : Option (Pos × EO)} (hno : ∀ k o', wr = some (k, o') → blank o' = false) : Nn h (updO h wr) := fun k hk => by
  cases wr with
  | none => exact hk
  | some p =>
    obtain ⟨k0, o'⟩ := p
    simp only [updO, upd] at hk
    split at hk
    · rw [hno k0 o' rfl] at hk; cases hk
    · exact hk
theorem Step.trans {B : Nat} {φ1 φ2 φ3 : Gx} {h1 h2 h3 : Pos → EO} {w1 w2 w3 : World} (a : Step B φ1 h1 w1 φ2 h2 w2) (b : Step B φ2 h2 w2 φ3 h3 w3) : Step B φ1 h1 w1 φ3 h3 w3 := ⟨a.1.trans b.1, fun W h => b.2.1 W (a.2.1 W h), fun k hk => a.2.2 k (b.2.2 k hk)⟩
theorem Inv.self {B : Nat} {W : W0} {φ : Gx} {h : Pos → EO} {w : World} (hI : Inv B W φ h w) : Inv B ⟨w, φ⟩ φ h w :=
  ⟨Below.refl _ _, Kp.refl _, Gx.le.refl _, fun _ _ => ⟨fun _ => rfl, rfl, rfl, fun _ _ _ => rfl⟩, hI.size, hI.obj, hI.sep⟩
theorem step_self {B : Nat} {φ ψ : Gx} {h h' : Pos → EO} {w w' : World} (hle : φ.le ψ) (hI' : Inv B ⟨w, φ⟩ ψ h' w') (hno : Nn h h') : Step B φ h w ψ h' w' :=
  ⟨hle, (fun W hI => ⟨hI.below.trans hI'.below, hI.kp.trans hI'.kp, hI.le.trans hle, (fun k hk => by
    obtain ⟨a1, a2, a3, a4⟩ := hI'.res k hk
    rcases blank_cases (hno k (res_blank hk)) with h1 | h1
    · obtain ⟨b1, b2, b3, b4⟩ := hI.res k h1
      exact ⟨fun g => (a1 g).trans (b1 g), a2.trans b2, a3.trans b3, fun g l hl => (a4 g l hl).trans (b4 g l (by rw [← hl]; exact (a1 g).symm))⟩
    · obtain ⟨b1, b2, b3⟩ := hI.free h1
      have hn : ∀ {α : Type} {x y : Option α}, y = none → (∀ v, x = some v → y = some v) → x = none := fun {α x y} hy hx => by
        cases x with
        | none => rfl
        | some v => rw [hx v rfl] at hy; cases hy
      refine ⟨fun g => (a1 g).trans ((b1 g).trans (hn (b1 g) fun v hv => hI.le.loc k g v hv).symm), a2.trans (b2.trans (hn b2 fun v hv => hI.le.val k v hv).symm), a3.trans (b3.trans (hn b3 fun v hv => hI.le.mu k v hv).symm), fun g l hl => ?_⟩
      rw [a1 g, show (W0.φ ⟨w, φ⟩).loc k g = φ.loc k g from rfl, b1 g] at hl
      cases hl), hI'.size, hI'.obj, hI'.sep⟩), hno⟩

/-- The environment and the temporaries. -/
def ER (φ : Gx) (e : Env) (tmps : Array Value) : Prop := ∀ t, t + 2 ≤ 2 ^ 64 → RT φ (e.get .unk (pos t)) (tmps.getD t undef)
theorem ER.mono {φ ψ : Gx} (h : φ.le ψ) {e : Env} {tmps : Array Value} (hE : ER φ e tmps) : ER ψ e tmps := fun t ht => (hE t ht).mono h
theorem pos_inj {t t' : Nat} (h : t + 2 ≤ 2 ^ 64) (h' : t' + 2 ≤ 2 ^ 64) (e : pos t = pos t') : t = t' := by
  have h1 := posF_num 64 t h
  have h2 := posF_num 64 t' h'
  unfold pos at e
  rw [e, h2] at h1
  exact h1.symm
theorem ER.set {φ : Gx} {e : Env} {tmps : Array Value} (hE : ER φ e tmps) {d : Nat} (hd : d < tmps.size) (h64 : d + 2 ≤ 2 ^ 64) {out : TV} {v : Value} (hr : RT φ out v) : ER φ (PM.set .unk (pos d) e out) (tmps.setIfInBounds d v) := fun t ht => by
  rw [PM.get_set]
  simp only [upd, Array.getD_eq_getD_getElem?, Array.getElem?_setIfInBounds]
  by_cases hdt : d = t
  · subst hdt
    rw [if_pos rfl, if_pos rfl, if_pos hd]
    exact hr
  · rw [if_neg (fun e => hdt (pos_inj h64 ht e)), if_neg hdt]
    have := hE t ht
    rw [Array.getD_eq_getD_getElem?] at this
    exact this
theorem eval_sound {φ : Gx} {e : Env} {a : Act} (hE : ER φ e a.tmps) (x : Operand) : RT φ (valS e (srcOf x)) (a.eval x) := by
  cases x with
  | tmp t =>
    simp only [srcOf]
    split
    · rename_i h; exact hE t h
    · exact trivial
  | const v =>
    simp only [srcOf, valS, tvOf]
    split
    · rename_i p hp; exact pvOf_sound hp φ
    · exact trivial
  | global g => exact rfl
  | func f => exact rfl
theorem evals_sound {φ : Gx} {e : Env} {a : Act} (hE : ER φ e a.tmps) : ∀ xs : List Operand, RTs φ (valsS e (xs.map srcOf)) (xs.map a.eval)
  | [] => trivial
  | x :: xs => ⟨eval_sound hE x, evals_sound hE xs⟩
theorem put_sound {φ : Gx} {e : Env} {a : Act} (hE : ER φ e a.tmps) {nt : Nat} (hsz : a.tmps.size = nt) {d : Option Tmp} {dst : Option Pos} (hc : cDst nt d = some dst) {out : TV} {v : Value} (hr : RT φ out v) : ER φ (setD e dst out) (a.put d v).tmps ∧ (a.put d v).tmps.size = nt := by
  unfold cDst at hc
  split at hc
  · simp only [Option.some.injEq] at hc
    subst hc
    exact ⟨hE, hsz⟩
  · rename_i d
    split at hc
    · rename_i h
      simp only [Option.some.injEq] at hc
      subst hc
      exact ⟨hE.set (by rw [hsz]; exact h.1) h.2 hr, by simp [Act.put, hsz]⟩
    · cases hc
theorem undef_sound {φ : Gx} : RT φ (.tup []) undef := ⟨[], rfl, rfl⟩

theorem gd_sound {φ : Gx} {e : Env} {a : Act} (hE : ER φ e a.tmps) {ops : Array Oper} {o : Oper} {g : Option (Pos × Bool)} (hg : cGuard ops.toList o.guard = some g) {b : Bool} (hb : gd e g = some b) : Region.wanted o (yielded ops a.tmps) = b := by
  unfold cGuard at hg
  split at hg
  · rename_i hgd
    simp only [Option.some.injEq] at hg
    subst hg
    simp only [gd, Option.some.injEq] at hb
    subst hb
    simp [Region.wanted, hgd]
  · rename_i j want hgd
    split at hg
    · rename_i d hd
      split at hg
      · rename_i h64
        simp only [Option.some.injEq] at hg
        subst hg
        have hv := hE d h64
        have hyd : yielded ops a.tmps j = match a.tmps[d]? with | some (.bool b) => some b | _ => none := by
          have hd : (ops[j]?).bind (·.dst) = some d := by simpa using hd
          unfold yielded
          rw [hd]
          rfl
        simp only [Region.wanted, hgd, hyd]
        simp only [gd] at hb
        rw [Array.getD_eq_getD_getElem?] at hv
        split at hb
        · rename_i c hc
          simp only [Option.some.injEq] at hb
          rw [hc] at hv
          have hv := rt_bl hv
          have : a.tmps[d]? = some (.bool c) := by
            cases ht : a.tmps[d]? with
            | none => rw [ht] at hv; cases hv
            | some x => rw [ht] at hv; rw [show x = Value.bool c from hv]
          rw [this]
          subst hb
          cases want <;> cases c <;> rfl
        · rename_i l hc
          simp only [Option.some.injEq] at hb
          rw [hc] at hv
          obtain ⟨vs, _, hv⟩ := hv
          subst hb
          cases ht : a.tmps[d]? with
          | none => rfl
          | some x =>
            rw [ht] at hv
            rw [show x = Value.tuple vs.toArray from hv]
            rfl
        · cases hb
      · cases hg
    · cases hg

theorem GlOk.more {Gl : Nat → TypeId → Option Value} {P : Program} {B : Nat} {W : W0} (h : GlOk Gl P B W) {φ ψ : Gx} {hh : Pos → EO} {w : World} (hI : Inv B W φ hh w) : GlOk Gl P B ⟨w, ψ⟩ := fun g t v hg w' hb => h g t v hg w' (hI.below.trans hb)

structure Lq where
  j : Pos
  l : Nat
  lrec : Loop
  env : Env
  tmps : Array Value
/-- The loops over functions that are under way. -/
def Ctx (Γ : List Lq) (φ : Gx) (w : World) : Prop := ∀ q ∈ Γ, (∃ l, φ.loc q.j 0 = some l ∧ l.b = q.l) ∧ w.heap[q.l]? = some (.loop q.lrec) ∧ ER φ q.env q.tmps
theorem Ctx.more {Γ : List Lq} {B : Nat} {W : W0} {φ ψ : Gx} {h h' : Pos → EO} {w w' : World} (hc : Ctx Γ φ w) (hI : Inv B W φ h w) (hs : Step B φ h w ψ h' w') : Ctx Γ ψ w' := fun q hq => by
  obtain ⟨⟨l, h1, h2⟩, h3, h4⟩ := hc q hq
  exact ⟨⟨l, hs.1.loc _ _ _ h1, h2⟩, (hs.2.1 _ hI.self).kp.keep _ _ h3 rfl, h4.mono hs.1⟩

def Callable (P : Program) (f : FuncId) : Prop := ∃ fn, P.funcs[f]? = some fn ∧ fn.body.isSome = true ∧ (fn.name == "runtime.NumGoroutine") = false
def TgtOk (P : Program) (t : Tgt) (φ : Gx) (w : World) (vs : List Value) (R : Ending → World → Prop) : Prop := match t with
  | .fn f => Callable P f ∧ Calls P f vs.toArray w R
  | .yld j => ∀ l, φ.loc j 0 = some l → ∀ (ro : Option Nat) (n : Nat), ∃ f tmps assign body, (Instr.yield l.b vs.toArray).run P w = .ok (.round l.b f tmps assign body) w ∧ RoundIn (RF ro) n P l.b f tmps assign body w R
/-- What a call leads to. -/
def CRes (B : Nat) (φ : Gx) (h : Pos → EO) (w : World) (h' : Pos → EO) (out : TV) : Ending → World → Prop := fun e w' => ∃ v ψ, e = .returned v ∧ Step B φ h w ψ h' w' ∧ RT ψ out v
def CallOk (P : Program) (Gl : Nat → TypeId → Option Value) (B : Nat) (call : Ck) (Γ : List Lq) : Prop := ∀ b t args d n v d' n', call b t args d n = .ok v d' n' → ∀ W φ w, GlOk Gl P B W → Inv B W φ (HP.ov b d).get w → ∀ vs, RTs φ args vs → Ctx Γ φ w → TgtOk P t φ w vs (CRes B φ (HP.ov b d).get w (HP.ov b d').get v)
def YkOk (P : Program) (Gl : Nat → TypeId → Option Value) (B : Nat) (yk : Yk) (Γ : List Lq) : Prop := ∀ b j args d n v d' n', yk b j args d n = .ok v d' n' → ∀ W φ w, GlOk Gl P B W → Inv B W φ (HP.ov b d).get w → ∀ vs, RTs φ args vs → Ctx Γ φ w → TgtOk P (.yld j) φ w vs (CRes B φ (HP.ov b d).get w (HP.ov b d').get v)
structure CkOk (P : Program) (Gl : Nat → TypeId → Option Value) (B : Nat) (ck : Callk) (Γ : List Lq) : Prop where
  call : CallOk P Gl B ck.call Γ
  iter : ∀ yk' Γ', YkOk P Gl B yk' Γ' → CallOk P Gl B (ck.iter yk') Γ'

section
variable {P : Program} {Gl : Nat → TypeId → Option Value} {B : Nat} {W : W0} {φ : Gx} {h : Pos → EO} {w : World} {o : Oper} {a : Act} {e : Env} {nt : Nat} {ops : Array Oper} {Γ : List Lq}

theorem cOp_op {fo : FO} {al : Bool} (hc : cOp P Gl nt ops.toList o = .op fo al) : ∃ dst xs, cDst nt o.dst = some dst ∧ cGuard ops.toList o.guard = some fo.guard ∧ cK P Gl o.op = some (fo.k, xs) ∧ fo.args = xs.map srcOf ∧ fo.dst = dst ∧ al = kAl fo.k := by
  unfold cOp at hc
  split at hc
  · cases hc
  · rename_i dst hd
    split at hc
    · cases hc
    · rename_i g hg
      split at hc
      · rename_i k xs hk
        injection hc with h1 h2
        subst h1; subst h2
        exact ⟨dst, xs, hd, hg, hk, rfl, rfl, rfl⟩
      · split at hc
        · split at hc <;> cases hc
        · split at hc <;> cases hc
        · cases hc

/-- One operation. -/
theorem op_sound {ro : Option Nat} {n i : Nat} (hi : ops[i]? = some o) {fo : FO} {al : Bool} (hc : cOp P Gl nt ops.toList o = .op fo al) (hI : Inv B W φ h w) (hG : GlOk Gl P B W) (hE : ER φ e a.tmps) (hnd : NoDef ro o) {f : Pos} (hf : al = true → h f = .none) {out : TV} {wr : Option (Pos × EO)} (hs : stepF e h f fo = some (out, wr))
    {Q : Exit → Act → World → Prop} {K : Act → World → Prop} (hK : ∀ ψ v w', Step B φ h w ψ (updO h wr) w' → RT ψ out v → K (a.put o.dst v) w') : wpOpIn (RF ro) n P ops Q i K a w := by
  obtain ⟨dst, xs, _, hg, hk, hxs, _, hal⟩ := cOp_op hc
  unfold wpOpIn
  simp only [hi]
  unfold stepF at hs
  split at hs
  · rename_i b hb
    rw [gd_sound hE hg hb]
    cases b with
    | false =>
      simp only [Option.some.injEq, Prod.mk.injEq] at hs
      obtain ⟨rfl, rfl⟩ := hs
      simp only [Bool.false_eq_true, if_false]
      exact ⟨fun _ _ => trivial, hK φ undef w Step.refl undef_sound⟩
    | true =>
      simp only [if_true]
      refine op_in hnd ?_
      have hv := evals_sound hE xs
      rw [← hxs] at hv
      obtain ⟨h1, h2⟩ := cK_sound (hG.more hI (ψ := φ)) hI.self hk (fun h' => hf (by rw [hal, h'])) hv hs
      refine h1 K Q fun v ψ w' hle hI' hr => hK ψ v w' (step_self hle hI' (upd_nn h2)) hr
  · cases hs

theorem cOp_nxt {x : Src} {dst : Option Pos} (hc : cOp P Gl nt ops.toList o = .nxt x dst) : ∃ it, o.op = .next it false ∧ x = srcOf it ∧ cDst nt o.dst = some dst ∧ o.guard = none := by
  unfold cOp at hc
  split at hc
  · cases hc
  · rename_i dst' hd
    split at hc
    · cases hc
    · rename_i g hg
      split at hc
      · cases hc
      · split at hc
        · split at hc <;> cases hc
        · rename_i it hop
          split at hc
          · injection hc with h1 h2
            subst h1; subst h2
            refine ⟨it, hop, rfl, hd, ?_⟩
            unfold cGuard at hg
            split at hg
            · assumption
            · split at hg
              · split at hg
                · cases hg
                · cases hg
              · cases hg
          · cases hc
        · cases hc

theorem nextQ_noRes {h : Pos → EO} {t out : TV} {k : Pos} {o' : EO} (hq : nextQ h t = some (out, some (k, o'))) : blank o' = false := by
  unfold nextQ at hq
  split at hq
  · split at hq
    · simp only [Option.some.injEq, Prod.mk.injEq] at hq; cases hq.2
    · rename_i m since seen sp hk
      split at hq
      · rename_i es clock hm
        split at hq
        · cases hc : (seen.isEmpty || es.isEmpty || es.any (fun e => Nat.blt e.born sp)) with
          | false => rw [hc] at hq; cases hq
          | true => rw [hc] at hq; simp only [cond_true, Option.some.injEq, Prod.mk.injEq] at hq; cases hq.2
        · rename_i x hx
          cases hc : (Nat.blt x.born since && Nat.blt x.born sp) with
          | false => rw [hc] at hq; cases hq
          | true =>
            rw [hc] at hq
            simp only [cond_true, Option.some.injEq, Prod.mk.injEq] at hq
            obtain ⟨_, _, rfl⟩ := hq
            rfl
        · cases hq
      · cases hq
    · cases hq
  · cases hq

theorem nxt_sound {ro : Option Nat} {n i : Nat} (hi : ops[i]? = some o) {x : Src} {dst : Option Pos} (hc : cOp P Gl nt ops.toList o = .nxt x dst) (hI : Inv B W φ h w) (hE : ER φ e a.tmps) (hnd : NoDef ro o) {out : TV} {wr : Option (Pos × EO)} (hs : nextQ h (valS e x) = some (out, wr))
    {Q : Exit → Act → World → Prop} {K : Act → World → Prop} (hK : ∀ ψ v w', Step B φ h w ψ (updO h wr) w' → RT ψ out v → K (a.put o.dst v) w') : wpOpIn (RF ro) n P ops Q i K a w := by
  obtain ⟨it, hop, rfl, _, hg⟩ := cOp_nxt hc
  unfold wpOpIn
  simp only [hi]
  rw [if_pos (by simp [Region.wanted, hg])]
  refine op_in hnd ?_
  refine (ok_next hI.self hop (eval_sound hE it) hs).1 K Q fun v ψ w' hle hI' hr => hK ψ v w' (step_self hle hI' (upd_nn fun k o' e => by subst e; exact nextQ_noRes hs)) hr

theorem cOp_call {args : List Src} {dst : Option Pos} {g : Option (Pos × Bool)} (hc : cOp P Gl nt ops.toList o = .call args dst g) : ∃ cl f, o.op = .call cl ∧ cl.callee = .value f ∧ args = (f :: cl.args.toList).map srcOf ∧ cDst nt o.dst = some dst ∧ cGuard ops.toList o.guard = some g := by
  unfold cOp at hc
  split at hc
  · cases hc
  · rename_i dst' hd
    split at hc
    · cases hc
    · rename_i g' hg
      split at hc
      · cases hc
      · split at hc
        · rename_i cl hop
          split at hc
          · rename_i f hcl
            injection hc with h1 h2 h3
            subst h1; subst h2; subst h3
            exact ⟨cl, f, hop, hcl, by simp, hd, hg⟩
          · cases hc
        · split at hc <;> cases hc
        · cases hc

/-- What is called. -/
theorem enters_sound (hI : Inv B W φ h w) {args : List TV} {t : Tgt} {vs : List TV} (he : enters h args = some (t, vs)) {us : List Value} (hr : RTs φ args us) : ∃ f xs, us = f :: xs ∧ match t with
    | .fn g => ∃ first caps, f = .func (.func g) first caps ∧ RTs φ vs (first.toList ++ xs ++ caps.toList)
    | .yld j => ∃ l, φ.loc j 0 = some l ∧ f = .func (.yield l.b) #[] #[] ∧ RTs φ vs xs := by
  unfold enters at he
  split at he
  · rename_i f r
    simp only [Option.some.injEq, Prod.mk.injEq] at he
    obtain ⟨rfl, rfl⟩ := he
    obtain ⟨v, ws, rfl, h1, h2⟩ := hr.cons
    have h1 : some (Value.func (.func f) #[] #[]) = some v := h1
    injection h1 with h1
    exact ⟨v, ws, rfl, #[], #[], h1.symm, by simpa using h2⟩
  · rename_i k r
    obtain ⟨v, ws, rfl, h1, h2⟩ := hr.cons
    have hob := hI.obj k
    have h1 : den φ (.clo k) = some v := h1
    simp only at he
    split at he
    · rename_i f first caps hk
      simp only [Option.some.injEq, Prod.mk.injEq] at he
      obtain ⟨rfl, rfl⟩ := he
      rw [hk] at hob
      obtain ⟨_, A, C, q1, q2, q3⟩ := hob
      simp only [den, q3, Option.some.injEq] at h1
      exact ⟨v, ws, rfl, A.toArray, C.toArray, h1.symm, by simpa using ((RTs_pvT q1).append h2).append (RTs_pvT q2)⟩
    · rename_i hk
      simp only [Option.some.injEq, Prod.mk.injEq] at he
      obtain ⟨rfl, rfl⟩ := he
      rw [hk] at hob
      obtain ⟨_, l, q1, _, q3, _⟩ := hob
      simp only [den, q3, Option.some.injEq] at h1
      exact ⟨v, ws, rfl, l, q1, h1.symm, h2⟩
    · cases he
  · cases he

/-- A call. -/
theorem call_sound {ro : Option Nat} {n i : Nat} (hi : ops[i]? = some o) {args : List Src} {dst : Option Pos} {g : Option (Pos × Bool)} (hc : cOp P Gl nt ops.toList o = .call args dst g) (hgd : gd e g = some true) (hI : Inv B W φ h w) (hE : ER φ e a.tmps) (hnd : NoDef ro o) {t : Tgt} {vs : List TV} (he : enters h (valsS e args) = some (t, vs)) {h' : Pos → EO} {out : TV}
    (hck : ∀ us, RTs φ vs us → TgtOk P t φ w us (CRes B φ h w h' out)) {Q : Exit → Act → World → Prop} {K : Act → World → Prop} (hK : ∀ ψ v w', Step B φ h w ψ h' w' → RT ψ out v → K (a.put o.dst v) w') : wpOpIn (RF ro) n P ops Q i K a w := by
  obtain ⟨cl, f, hop, hcl, rfl, _, hg⟩ := cOp_call hc
  unfold wpOpIn
  simp only [hi]
  rw [gd_sound hE hg hgd, if_pos rfl]
  obtain ⟨fv, xs, hus, ht⟩ := enters_sound hI he (evals_sound hE (f :: cl.args.toList))
  simp only [List.map_cons, List.cons.injEq] at hus
  obtain ⟨hf, hxs⟩ := hus
  have post : ∀ e w', CRes B φ h w h' out e w' → ∃ v, e = .returned v ∧ K (a.put o.dst v) w' := fun e w' hr => by
    obtain ⟨v, ψ, h1, h2, h3⟩ := hr
    exact ⟨v, h1, hK ψ v w' h2 h3⟩
  cases t with
  | fn f' =>
    obtain ⟨first, caps, h1, h2⟩ := ht
    obtain ⟨⟨fn, f1, f2, f3⟩, hcalls⟩ := hck _ h2
    have hbody : ¬ fn.body = none := by cases hb : fn.body <;> simp_all
    have f3 : ¬ fn.name = "runtime.NumGoroutine" := by simpa using f3
    have hrun : (execOp a.eval o).run P w = .ok (.enter f' (first.toList ++ xs ++ caps.toList).toArray) w := by
      have e2 : first ++ cl.args.map a.eval ++ caps = (first.toList ++ xs ++ caps.toList).toArray := Array.ext' (by simp [hxs])
      unfold execOp
      simp only [hop, resolve, hcl, hf, h1, Deferred.ofValue, Sem.run_bind, Sem.run_pure, Result.andThen_ok, invoke, callFunc, run_program, f1, e2]
      simp [f3, hbody]
    refine op_in hnd ?_
    unfold Oper.wp
    rw [hrun]
    refine hcalls.mono ?_
    intro e w' hr
    obtain ⟨v, rfl, hk⟩ := post e w' hr
    exact hk
  | yld j =>
    obtain ⟨l, h1, h2, h3⟩ := ht
    obtain ⟨f', tmps, assign, body, hy, hround⟩ := hck _ h3 l h1 ro (n - 1)
    have hrun : (execOp a.eval o).run P w = .ok (.round l.b f' tmps assign body) w := by
      have e2 : cl.args.map a.eval = xs.toArray := Array.ext' (by simp [hxs])
      unfold execOp
      simp only [hop, resolve, hcl, hf, h2, Deferred.ofValue, Sem.run_bind, Sem.run_pure, Result.andThen_ok, invoke, Array.empty_append, e2, hy]
    refine ⟨fun _ _ => trivial, ?_⟩
    have es : o.semAt (RF ro).round a.eval = execOp a.eval o := by
      rcases hnd with rfl | hd
      · rfl
      · exact Oper.semAt_eq _ _ _ hd
    rw [es, hrun, Oper.uponIn_round]
    refine ⟨(fun q => by cases q), hround.mono ?_⟩
    intro e w' hr
    obtain ⟨v, rfl, hk⟩ := post e w' hr
    exact hk

/-- A call that is not carried out. -/
theorem skip_sound {ro : Option Nat} {n i : Nat} (hi : ops[i]? = some o) {args : List Src} {dst : Option Pos} {g : Option (Pos × Bool)} (hc : cOp P Gl nt ops.toList o = .call args dst g) (hgd : gd e g = some false) (hE : ER φ e a.tmps)
    {Q : Exit → Act → World → Prop} {K : Act → World → Prop} (hK : K (a.put o.dst undef) w) : wpOpIn (RF ro) n P ops Q i K a w := by
  obtain ⟨cl, f, hop, hcl, rfl, _, hg⟩ := cOp_call hc
  unfold wpOpIn
  simp only [hi]
  rw [gd_sound hE hg hgd]
  simp only [Bool.false_eq_true, if_false]
  exact ⟨fun _ _ => trivial, hK⟩

end
end Go.Proofs.YtdjhicbhegaenaaGreatDoor.Clo
namespace Go.Proofs.YtdjhicbhegaenaaGreatDoor.Clo
open Go Go.RowKit

/-- The executor's state and the model's, since a beginning. -/
structure Rl (B lo : Nat) (φ0 : Gx) (h0 : Pos → EO) (w0 : World) (nt : Nat) (e : Env) (h : Pos → EO) (a : Act) (w : World) : Prop where
  ex : ∃ φ, Step B φ0 h0 w0 φ h w ∧ ER φ e a.tmps
  sz : a.tmps.size = nt
  df : ∃ ms : List Nat, a.defers = ms.map (fun D => { target := .collected D, args := #[] }) ∧ ms.Nodup ∧ ∀ D ∈ ms, lo ≤ D ∧ w.heap[D]? = some (.deferred (some []))

theorem setW_get (b : HP) (d : DM) (wr : Option (Pos × EO)) : (HP.ov b (setW d wr)).get = updO (HP.ov b d).get wr := by
  cases wr with
  | none => rfl
  | some p => exact HP.get_set b d p.1 p.2
theorem updO_upd (h : Pos → EO) (wr : Option (Pos × EO)) : updO h wr = match wr with | some (k, o) => upd h k o | none => h := by cases wr <;> rfl

section
variable {P : Program} {Gl : Nat → TypeId → Option Value} {B lo : Nat} {W : W0} {φ0 : Gx} {h0 : Pos → EO} {w0 : World} {nt : Nat} {ops : Array Oper} {Γ : List Lq} {ck : Callk}

/-- A step that ends an operation. -/
theorem Rl.step (hI0 : Inv B W φ0 h0 w0) {e : Env} {h : Pos → EO} {a : Act} {w : World} (hr : Rl B lo φ0 h0 w0 nt e h a w) {φ ψ : Gx} {h' : Pos → EO} {w' : World} (hs : Step B φ0 h0 w0 φ h w) (hE : ER φ e a.tmps) (hst : Step B φ h w ψ h' w') {d : Option Tmp} {dst : Option Pos} (hd : cDst nt d = some dst) {out : TV} {v : Value} (hv : RT ψ out v) : Rl B lo φ0 h0 w0 nt (setD e dst out) h' (a.put d v) w' := by
  obtain ⟨h1, h2⟩ := put_sound (hE.mono hst.1) hr.sz hd hv
  obtain ⟨ms, m1, m2, m3⟩ := hr.df
  refine ⟨⟨ψ, hs.trans hst, h1⟩, h2, ms, ?_, m2, fun D hD => ⟨(m3 D hD).1, (hst.2.1 _ (hs.2.1 _ hI0).self).kp.keep _ _ (m3 D hD).2 rfl⟩⟩
  cases d <;> exact m1

def NPost (B lo : Nat) (φ0 : Gx) (h0 : Pos → EO) (w0 : World) (nt : Nat) (e : Env) (h : Pos → EO) : Exit → Act → World → Prop
  | .normal, a, w => Rl B lo φ0 h0 w0 nt e h a w
  | _, _, _ => False

theorem runOps_sound {ro : Option Nat} {n : Nat} (hI0 : Inv B W φ0 h0 w0) (hG : GlOk Gl P B W) (ckok : CkOk P Gl B ck Γ) (hcx : Ctx Γ φ0 w0) (hnd : ∀ o ∈ ops.toList, NoDef ro o) {b : HP} {e' : Env} {d' : DM} {n' : Pos} {Q : Exit → Act → World → Prop} (hQ : ∀ a w, Rl B lo φ0 h0 w0 nt e' (HP.ov b d').get a w → Q .normal a w) : ∀ (l : List Oper) (i : Nat) (e : Env) (d : DM) (f : Pos) (a : Act) (w : World), ops.toList.drop i = l →
    runOps ck b (cOps P Gl nt ops.toList l) e d f = .ok e' d' n' → Rl B lo φ0 h0 w0 nt e (HP.ov b d).get a w → wpOpsIn (RF ro) n P ops Q (List.range' i (ops.size - i)) a w
  | [], i, e, d, f, a, w, hd, h, hr => by
    have hsz : ops.size - i = 0 := by
      have := congrArg List.length hd
      simpa using this
    rw [hsz]
    simp only [cOps, runOps] at h
    injection h with h1 h2 h3
    subst h1; subst h2
    exact hQ _ _ hr
  | o :: l, i, e, d, f, a, w, hd, h, hr => by
    have hlt : i < ops.size := by
      have := congrArg List.length hd
      simp at this
      omega
    have hoi : ops[i]? = some o := by
      have : (ops.toList.drop i)[0]? = some o := by rw [hd]; rfl
      rw [List.getElem?_drop] at this
      simpa using this
    have hd' : ops.toList.drop (i + 1) = l := by
      rw [← List.drop_drop, hd]
      rfl
    have hno : NoDef ro o := hnd o (Array.mem_toList_iff.2 (Array.mem_of_getElem? hoi))
    rw [show ops.size - i = (ops.size - (i + 1)) + 1 by omega, List.range'_succ, wpOpsIn_cons]
    obtain ⟨φ, hs, hE⟩ := hr.ex
    have hI := hs.2.1 _ hI0
    simp only [cOps, runOps] at h
    split at h
    · rename_i fo al hc
      obtain ⟨dst, xs, hdst, _, _, _, hfd, _⟩ := cOp_op hc
      cases hfr : freeO al (HP.ov b d).get f with
      | false => rw [hfr] at h; cases h
      | true =>
        rw [hfr, cond_true] at h
        split at h
        · rename_i out wr hst
          have hf : al = true → (HP.ov b d).get f = .none := fun hal => by
            subst hal
            unfold freeO at hfr
            simp only at hfr
            split at hfr
            · rename_i hn; exact hn
            · cases hfr
          refine op_sound hoi hc hI hG hE hno hf hst fun ψ v w' hst' hv => ?_
          have := hr.step hI0 hs hE hst' hdst hv
          rw [← setW_get] at this
          rw [hfd] at h
          exact runOps_sound hI0 hG ckok hcx hnd hQ l (i + 1) _ _ _ _ w' hd' h this
        · cases h
    · rename_i args dst g hc
      obtain ⟨_, _, _, _, _, hdst, _⟩ := cOp_call hc
      split at h
      · rename_i hg
        split at h
        · rename_i t vs hen
          split at h
          · rename_i out d1 n1 hcall
            refine call_sound hoi hc hg hI hE hno hen (fun us hus => ckok.call _ _ _ _ _ _ _ _ hcall W φ w hG hI us hus (hcx.more hI0 hs)) fun ψ v w' hst' hv => ?_
            exact runOps_sound hI0 hG ckok hcx hnd hQ l (i + 1) _ _ _ _ w' hd' h (hr.step hI0 hs hE hst' hdst hv)
          · cases h
        · cases h
      · rename_i hg
        refine skip_sound hoi hc hg hE ?_
        exact runOps_sound hI0 hG ckok hcx hnd hQ l (i + 1) _ _ _ _ w hd' h (hr.step hI0 hs hE Step.refl hdst undef_sound)
      · cases h
    · rename_i x dst hc
      obtain ⟨_, _, _, hdst, _⟩ := cOp_nxt hc
      split at h
      · rename_i out wr hst
        refine nxt_sound hoi hc hI hE hno hst fun ψ v w' hst' hv => ?_
        have := hr.step hI0 hs hE hst' hdst hv
        rw [← setW_get] at this
        exact runOps_sound hI0 hG ckok hcx hnd hQ l (i + 1) _ _ _ _ w' hd' h this
      · cases h
    · cases h

end
end Go.Proofs.YtdjhicbhegaenaaGreatDoor.Clo
