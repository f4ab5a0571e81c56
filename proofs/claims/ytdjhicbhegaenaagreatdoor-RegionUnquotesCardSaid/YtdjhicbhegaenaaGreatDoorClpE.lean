/- Closed runs: loops over maps are sound. Closed runs: the run of a function's code is sound. Closed runs: the run of a function's code is sound. Closed runs: a function's run is sound. Closed runs: calls are sound. -/
import Derived.Test.YtdjhicbhegaenaaGreatDoorCloZ
namespace Go.Proofs.YtdjhicbhegaenaaGreatDoor.Clo
open Go Go.RowKit

/-- Where the code leads. -/
def XPost (B lo : Nat) (φ0 : Gx) (h0 : Pos → EO) (w0 : World) (nt : Nat) (x : Ex) (e : Env) (h : Pos → EO) : Exit → Act → World → Prop
  | .normal, a, w => x = .normal ∧ Rl B lo φ0 h0 w0 nt e h a w
  | .exit id, a, w => x = .exit id ∧ Rl B lo φ0 h0 w0 nt e h a w
  | .ret, a, w => x = .ret ∧ Rl B lo φ0 h0 w0 nt e h a w
  | _, _, _ => False
def NoDefs (ro : Option Nat) (c : Code) : Prop := ro = none ∨ noDefB c = true
theorem NoDefs.left {ro : Option Nat} {p q : Bool} (h : ro = none ∨ (p && q) = true) : ro = none ∨ p = true := h.imp id fun h => (Bool.and_eq_true_iff.1 h).1
theorem NoDefs.right {ro : Option Nat} {p q : Bool} (h : ro = none ∨ (p && q) = true) : ro = none ∨ q = true := h.imp id fun h => (Bool.and_eq_true_iff.1 h).2
theorem NoDefs.ops {ro : Option Nat} {i : Nat} {ops : Array Oper} {draw : Bool} (h : NoDefs ro (.region i ops draw)) : ∀ o ∈ ops.toList, NoDef ro o := fun o ho => h.imp id fun h c e => by
  have := List.all_eq_true.1 h o ho
  rw [e] at this
  cases this
def RoOk (ro : Option Nat) (w0 : World) : Prop := ∀ l, ro = some l → ∃ r, w0.heap[l]? = some (.loop r)
theorem RoOk.more {ro : Option Nat} {w w' : World} (h : RoOk ro w) (hk : Kp w w') : RoOk ro w' := fun l hl => by
  obtain ⟨r, hr⟩ := h l hl
  exact ⟨r, hk.keep _ _ hr rfl⟩

/-- The run of a piece of code is sound. -/
def SoundC (P : Program) (Gl : Nat → TypeId → Option Value) (B : Nat) (ck : Callk) (Γ : List Lq) (fuel nt : Nat) (c : Code) : Prop :=
  ∀ (ro : Option Nat) (n lo : Nat) (W : W0) (φ0 : Gx) (h0 : Pos → EO) (w0 : World), Inv B W φ0 h0 w0 → GlOk Gl P B W → Ctx Γ φ0 w0 → RoOk ro w0 → NoDefs ro c → lo ≤ w0.heap.size → ∀ (b : HP) (e : Env) (d : DM) (n1 : Pos) (a : Act) (w : World) (x : Ex) (e' : Env) (d' : DM) (n' : Pos),
    exec ck fuel (cC P Gl nt c) b e d n1 = .ok x e' d' n' → Rl B lo φ0 h0 w0 nt e (HP.ov b d).get a w → c.wpIn (RF ro) n P (XPost B lo φ0 h0 w0 nt x e' (HP.ov b d').get) a w

section
variable {P : Program} {Gl : Nat → TypeId → Option Value} {B : Nat} {ck : Callk} {Γ : List Lq} {fuel nt : Nat}

theorem dead_step {φ : Gx} {h : Pos → EO} {w : World} {k : Pos} (hn : blank (h k) = false) : Step B φ h w φ (upd h k .dead) w := by
  refine ⟨Gx.le.refl _, fun W hI => ⟨hI.below, hI.kp, hI.le, fun q hq => ?_, hI.size, fun q => ?_, hI.sep⟩, fun q hq => ?_⟩
  · by_cases e : k = q
    · subst e; rw [upd_self] at hq; cases hq
    · rw [upd_ne _ _ e] at hq; exact hI.res q hq
  · by_cases e : k = q
    · subst e; rw [upd_self]; exact fun g l hl => hI.blk hl
    · rw [upd_ne _ _ e]; exact hI.obj q
  · by_cases e : k = q
    · subst e; rw [upd_self] at hq; cases hq
    · rwa [upd_ne _ _ e] at hq

theorem ov_leaf (b : HP) : (HP.ov b .leaf).get = b.get := rfl

theorem borns_mem {y : ME} : ∀ {es : List ME}, y ∈ es → y.born ∈ borns es
  | [], h => by cases h
  | z :: es, h => by
    simp only [borns]
    rcases List.mem_cons.1 h with rfl | h
    · exact List.mem_cons_self ..
    · exact List.mem_cons_of_mem _ (borns_mem h)
theorem cntU_lt {bs seen : List Nat} {c : Nat} (hm : c ∈ bs) (hn : seen.toArray.contains c = false) : cntU bs (seen ++ [c]).toArray < cntU bs seen.toArray := by
  have e : (bs.filter fun b => !(seen ++ [c]).toArray.contains b) = (bs.filter fun b => !seen.toArray.contains b).filter fun b => decide (b ≠ c) := by
    rw [List.filter_filter]
    apply List.filter_congr
    intro b _
    by_cases h : b = c <;> simp [h]
  unfold cntU
  rw [e]
  refine List.length_filter_lt_length_iff_exists.2 ⟨c, ?_, by simp⟩
  rw [List.mem_filter]
  exact ⟨hm, by rw [hn]; rfl⟩

theorem rloop_sound {id : Nat} {ops : Array Oper} {y : Code} {x : Src} {dst : Option Pos} {l : List OP} (hco : cOps P Gl nt ops.toList ops.toList = .nxt x dst :: l) (ckok : CkOk P Gl B ck Γ) (Sy : SoundC P Gl B ck Γ fuel nt y)
    {ro : Option Nat} {n lo : Nat} {W : W0} {φ0 : Gx} {h0 : Pos → EO} {w0 : World} (hI0 : Inv B W φ0 h0 w0) (hG : GlOk Gl P B W) (hcx : Ctx Γ φ0 w0) (hro : RoOk ro w0) (hnd : NoDefs ro (.seq (.region id ops false) y)) (hlo : lo ≤ w0.heap.size)
    {b : HP} {e0 : Env} {d : DM} {n1 : Pos} {it m : Pos} {g since sp0 clock : Nat} {es : List ME} (hx : valS e0 x = .pv (.one (.ptr it g 0))) (hit0 : (HP.ov b d).get it = .mit (some m) since [] sp0) (hm0 : (HP.ov b d).get m = .map es clock) (hold : es.all (fun x => Nat.blt x.born since) = true) (hclk : since ≤ clock)
    (heach : eachE (fun y' => thenX (runOps ck (.ov b (dset d it (.mitU m since (borns es) none))) l (setD e0 dst (tNext y'.key y'.val)) (dset .leaf it (.mitU m since (borns es) (some (y'.born, clock)))) n1) (exec ck fuel (cC P Gl nt y) (.ov b (dset d it (.mitU m since (borns es) none)))))
                  (fun e' d' => allO it (HP.ov b (dset d it (.mitU m since (borns es) none))).get d' (fun p => p) && subE e0 e' && sameU m since (borns es) ((HP.ov (.ov b (dset d it (.mitU m since (borns es) none))) d').get it)) es = true)
    {X : Ex} {e' : Env} {d' : DM} {n' : Pos} (hfin : thenX (runOps ck b l (setD e0 dst tOver) (dset d it .dead) n1) (exec ck fuel (cC P Gl nt y) b) = .ok X e' d' n') (hX : X ≠ .normal) :
    ∀ (j : Nat) (seen : List Nat) (sp : Nat) (a : Act) (w : World), since ≤ sp → cntU (borns es) seen.toArray < j → Rl B lo φ0 h0 w0 nt e0 (upd (HP.ov b d).get it (.mit (some m) since seen sp)) a w → Code.roundsIn (RF ro) n P (.seq (.region id ops false) y) (XPost B lo φ0 h0 w0 nt X e' (HP.ov b d').get) j a w := by
  obtain ⟨o0, rest, hL⟩ : ∃ o0 rest, ops.toList = o0 :: rest := by
    cases hL : ops.toList with
    | nil => rw [hL] at hco; simp only [cOps] at hco; cases hco
    | cons o0 rest => exact ⟨o0, rest, rfl⟩
  have hco' := hco
  rw [show cOps P Gl nt ops.toList ops.toList = cOps P Gl nt ops.toList (o0 :: rest) from congrArg (cOps P Gl nt ops.toList) hL] at hco'
  simp only [cOps, List.cons.injEq] at hco'
  obtain ⟨hc0, hcr⟩ := hco'
  have hoi : ops[0]? = some o0 := by
    rw [← Array.getElem?_toList, hL]
    rfl
  have hsz : 0 < ops.size := by
    have := congrArg List.length hL
    simp at this
    omega
  have hdrop : ops.toList.drop 1 = rest := by rw [hL]; rfl
  have hno : NoDef ro o0 := (NoDefs.ops (NoDefs.left hnd)) o0 (by rw [hL]; exact List.mem_cons_self ..)
  obtain ⟨itop, hop, hxe, hdst, hg⟩ := cOp_nxt hc0
  have hmit : m ≠ it := fun e => by rw [e, hit0] at hm0; cases hm0
  intro j
  induction j with
  | zero => exact fun seen sp a w hsp hcnt hr => by omega
  | succ j ih =>
      intro seen sp a w hsp hcnt hr
      rw [roundsIn_succ]
      refine wpIn_seq (wpIn_region ?_)
      rw [List.range_eq_range', show ops.size = (ops.size - 1) + 1 by omega, List.range'_succ, wpOpsIn_cons]
      obtain ⟨φ, hs, hE⟩ := hr.ex
      have hI := hs.2.1 _ hI0
      unfold wpOpIn
      simp only [hoi]
      rw [if_pos (by simp [Region.wanted, hg])]
      refine op_in hno ?_
      have hv := eval_sound hE itop
      rw [← hxe, hx] at hv
      refine next_many hI hop hv (upd_self _ _ _) ((upd_ne _ _ fun e => hmit e.symm).trans hm0) hold hsp (fun v hv => ?_) (fun y0 hy hnb v w1 hv hst => ?_)
      · have hst : Step B φ (upd (HP.ov b d).get it (.mit (some m) since seen sp)) w φ (HP.ov b (dset d it .dead)).get w := by
          have e : (HP.ov b (dset d it .dead)).get = upd (upd (HP.ov b d).get it (.mit (some m) since seen sp)) it .dead := by rw [HP.get_set, upd_upd]
          rw [e]
          exact dead_step (by rw [upd_self]; rfl)
        have hr' := hr.step hI0 hs hE hst hdst hv
        unfold thenX at hfin
        split at hfin
        · rename_i e1 d1 n2 hrun
          refine runOps_sound (n := n) hI0 hG ckok hcx (NoDefs.ops (NoDefs.left hnd)) (fun a' w' hr2 => ?_) rest 1 _ _ n1 _ _ hdrop (by rw [hcr]; exact hrun) hr'
          refine wpIn_mono (Sy ro n lo W φ0 h0 w0 hI0 hG hcx hro (NoDefs.right hnd) hlo b e1 d1 n2 a' w' X e' d' n' hfin hr2) fun ex a3 w3 hn => ?_
          cases ex with
          | normal => exact (hX hn.1).elim
          | exit _ => exact hn
          | ret => exact hn
          | goto _ => exact hn
          | panic _ => exact hn
          | outgrown => exact hn
        · cases hfin
      · -- a round
        obtain ⟨e1, d1, n2, hf, hok⟩ := eachE_mem heach y0 hy
        simp only [Bool.and_eq_true] at hok
        obtain ⟨⟨hall, hsub⟩, hsame⟩ := hok
        rw [upd_upd] at hst
        have hs2 := hs.trans hst
        have hI2 := hs2.2.1 _ hI0
        have hob := hI2.obj it
        rw [upd_self] at hob
        obtain ⟨g1, li, q1, q2, lm, q3, q4⟩ := hob
        generalize hn0 : cntU (borns es) (seen ++ [y0.born]).toArray + 1 = n0
        have hU := toU (bs := borns es) hI2 (upd_self _ _ _) hclk
        rw [upd_upd, hn0] at hU
        have eH : (HP.ov (.ov b (dset d it (.mitU m since (borns es) none))) (dset .leaf it (.mitU m since (borns es) (some (y0.born, clock))))).get = upd (HP.ov b d).get it (.mitU m since (borns es) (some (y0.born, clock))) := by
          rw [HP.get_set, ov_leaf, HP.get_set, upd_upd]
        obtain ⟨p1, p2⟩ := put_sound (hE.mono hst.1) hr.sz hdst hv
        obtain ⟨ms, m1, m2, m3⟩ := hr.df
        have hKp := (hst.2.1 _ hI.self).kp
        have hr1 : Rl B lo (φ.setMu it n0) (upd (HP.ov b d).get it (.mitU m since (borns es) (some (y0.born, clock)))) w1 nt (setD e0 dst (tNext y0.key y0.val)) (HP.ov (.ov b (dset d it (.mitU m since (borns es) none))) (dset .leaf it (.mitU m since (borns es) (some (y0.born, clock))))).get (a.put o0.dst v) w1 := by
          rw [eH]
          refine ⟨⟨_, Step.refl, ER_mu p1⟩, p2, ms, ?_, m2, fun D hD => ⟨(m3 D hD).1, hKp.keep _ _ (m3 D hD).2 rfl⟩⟩
          cases o0.dst <;> exact m1
        have hG1 : GlOk Gl P B ⟨w1, φ.setMu it n0⟩ := hG.more hI2
        have hcx1 : Ctx Γ (φ.setMu it n0) w1 := fun q hq => by
          obtain ⟨z1, z2, z3⟩ := (hcx.more hI0 hs2) q hq
          exact ⟨z1, z2, ER_mu z3⟩
        have hro1 : RoOk ro w1 := hro.more (hs2.2.1 _ hI0.self).kp
        unfold thenX at hf
        split at hf
        · rename_i e2 d2 n3 hrun
          refine runOps_sound (n := n) hU hG1 ckok hcx1 (NoDefs.ops (NoDefs.left hnd)) (fun a' w' hr2 => ?_) rest 1 _ _ n1 _ _ hdrop (by rw [hcr]; exact hrun) hr1
          refine wpIn_mono (Sy ro n lo _ _ _ _ hU hG1 hcx1 hro1 (NoDefs.right hnd) (Nat.le_trans hlo (hs2.2.1 _ hI0.self).below.size) _ e2 d2 n3 a' w' .normal e1 d1 n2 hf hr2) fun ex a3 w3 hn => ?_
          cases ex with
          | exit _ => exact (by cases hn.1)
          | ret => exact (by cases hn.1)
          | goto _ => exact hn.elim
          | panic _ => exact hn.elim
          | outgrown => exact hn.elim
          | normal =>
            obtain ⟨_, hr3⟩ := hn
            obtain ⟨ψ, hs3, hE3⟩ := hr3.ex
            have J := hs3.2.1 _ hU
            obtain ⟨seen', sp', f1, f2, f3⟩ := forget (h := upd (HP.ov b d).get it (.mit (some m) since (seen ++ [y0.born]) clock)) ⟨lm, q3⟩ ⟨li, q1⟩ g1 J hs3.1 (fun k hk => by
              rw [upd_ne _ _ (fun e => hk e.symm)]
              cases hd : PM.get none d1 k with
              | none =>
                refine .inl ?_
                simp only [HP.get, hd, dset, PM.get_set]
                rw [upd_ne _ _ (fun e => hk e.symm)]
              | some o =>
                refine .inr ?_
                rcases allO_get hall k o hd with h1 | h1
                · rw [HP.get_set, upd_ne _ _ (fun e => hk e.symm)] at h1
                  exact h1
                · exact (hk h1).elim) (sameU_spec hsame)
            refine ih seen' sp' a3 w3 f1 ?_ ⟨⟨φ, ⟨hs.1, fun W hW => ?_, fun k hk => ?_⟩, ?_⟩, hr3.sz, hr3.df⟩
            · -- fewer are left
              have hlt : cntU (borns es) (seen ++ [y0.born]).toArray < cntU (borns es) seen.toArray := cntU_lt (borns_mem hy) hnb
              omega
            · have := f3 W (hs2.2.1 _ hW)
              rwa [upd_upd] at this
            · refine hs.2.2 k ?_
              by_cases e : it = k
              · subst e; rw [upd_self] at hk ⊢; exact hk
              · rw [upd_ne _ _ e] at hk ⊢; exact hk
            · exact ER.back (φ := φ) (ψ := ψ) (fun k g l h => hs3.1.loc k g l h) (fun k v h => hs3.1.val k v h) hE hE3 hsub
        · cases hf

end
end Go.Proofs.YtdjhicbhegaenaaGreatDoor.Clo
namespace Go.Proofs.YtdjhicbhegaenaaGreatDoor.Clo
open Go Go.RowKit

def noGo (Q : Exit → Act → World → Prop) : Exit → Act → World → Prop
  | .goto _, _, _ => False
  | e, a, w => Q e a w
theorem wpIn_scope_straight {F : Fence} {n : Nat} {P : Program} {Q : Exit → Act → World → Prop} {a : Act} {w : World} {c : Code} (h : c.wpIn F n P (noGo Q) a w) : (Code.scope c).wpIn F n P Q a w := by
  intro b k cs hro hb hr
  have s1 : step P (lone (b.atR a (.code (.scope c) :: k)) cs w) = .next (lone (b.atR a (.code c :: .inScope c :: k)) cs w) := step_lone_go (by simp [stepG, stepG.exec, Frame.atR])
  have s2 : ∀ (a : Act) (w : World), step P (lone (b.atR a (.inScope c :: k)) cs w) = .next (lone (b.atR a k) cs w) := fun a w => step_lone_go (by simp [stepG, stepG.exec, Frame.atR])
  have h0 : (lone (b.atR a (.code (.scope c) :: k)) cs w).fenced P F := fenced_calm hb hr rfl
  obtain ⟨e, a₁, w₁, hq, harr⟩ := h b (.inScope c :: k) cs hro hb hr
  cases e with
  | normal => exact ⟨.normal, a₁, w₁, hq, .head h0 s1 (StepsIn.trans harr (.one (fenced_calm hb hr rfl) (s2 _ _)))⟩
  | exit id =>
    have hx : exitTo id (.inScope c :: k) = exitTo id k := by simp [exitTo]
    exact ⟨.exit id, a₁, w₁, hq, fun k' hk => .head h0 s1 (harr.1 k' (by rw [hx]; exact hk)),
      fun hr' hk => let ⟨k₁, h1, h2⟩ := harr.2 hr' (by rw [hx]; exact hk); ⟨k₁, h1, .head h0 s1 h2⟩⟩
  | goto l => exact hq.elim
  | ret => exact ⟨.ret, a₁, w₁, hq, .of_steps (.one h0 s1) harr⟩
  | panic ch => exact ⟨.panic ch, a₁, w₁, hq, .of_steps (.one h0 s1) harr⟩
  | outgrown => exact ⟨.outgrown, a₁, w₁, hq, .of_steps (.one h0 s1) harr⟩

section
variable {P : Program} {Gl : Nat → TypeId → Option Value} {B lo : Nat} {ck : Callk} {Γ : List Lq} {fuel nt : Nat}

theorem enterLoop_run {w : World} (fn : FuncId) (tmps : Array Value) (ps : Array Tmp) (assign body : Code) {ro : Option Nat} (hro : ∀ l, ro = some l → ∃ r, w.heap[l]? = some (.loop r)) :
    ∃ (l : Nat) (mark : List Deferred) (w2 : World) (D : Nat), (Instr.enterLoop fn tmps ps assign body ro).run P w = .ok (l, mark) w2 ∧ w.grownBy w2 none ∧ w.heap.size ≤ l ∧ w2.drawn = w.drawn ∧
      w2.heap[l]? = some (.loop { state := .ready, pending := none, fn, tmps, params := ps, assign, body, defers := D }) ∧
      ∃ ms : List Nat, mark = ms.map (fun D => { target := .collected D, args := #[] }) ∧ ms.Nodup ∧ ∀ D ∈ ms, w.heap.size ≤ D ∧ D ≠ l ∧ w2.heap[D]? = some (.deferred (some [])) := by
  cases ro with
  | none =>
    refine ⟨_, _, _, w.heap.size, run_enterLoop_outer fn tmps ps assign body, (World.grownBy_alloc w _ none).trans (World.grownBy_alloc _ _ none), by omega, rfl, ?_, [w.heap.size], rfl, by simp, fun D hD => ?_⟩
    · have := World.alloc_heap_new (w.alloc (.deferred (some []))) (.loop { state := .ready, pending := none, fn, tmps, params := ps, assign, body, defers := w.heap.size })
      rw [World.size_alloc] at this
      exact this
    · simp only [List.mem_singleton] at hD
      subst hD
      refine ⟨Nat.le_refl _, by omega, ?_⟩
      rw [Below.heap_alloc _ _ _ (by rw [World.size_alloc]; omega)]
      exact World.alloc_heap_new _ _
  | some l0 =>
    obtain ⟨r0, h0⟩ := hro l0 rfl
    refine ⟨w.heap.size, [], w.alloc (.loop { state := .ready, pending := none, fn, tmps, params := ps, assign, body, defers := r0.defers }), r0.defers, ?_, World.grownBy_alloc w _ none, Nat.le_refl _, rfl, World.alloc_heap_new _ _, [], rfl, by simp, fun D hD => by cases hD⟩
    unfold Instr.enterLoop
    simp only [Sem.run_bind, run_getLoop h0, run_newObj_alloc, Result.andThen, Sem.run_pure]


theorem loopU_sound {c : Code} (Sc : SoundC P Gl B ck Γ fuel nt c) {ro : Option Nat} {n : Nat} {W : W0} {φ0 : Gx} {h0 : Pos → EO} {w0 : World} (hI0 : Inv B W φ0 h0 w0) (hG : GlOk Gl P B W) (hcx : Ctx Γ φ0 w0) (hro : RoOk ro w0) (hnd : NoDefs ro c) (hlo : lo ≤ w0.heap.size) {b : HP} : ∀ (j : Nat) (e : Env) (d : DM) (n1 : Pos) (a : Act) (w : World) (x : Ex) (e' : Env) (d' : DM) (n' : Pos),
    loopU (exec ck fuel (cC P Gl nt c) b) j e d n1 = .ok x e' d' n' → Rl B lo φ0 h0 w0 nt e (HP.ov b d).get a w → Code.roundsIn (RF ro) n P c (XPost B lo φ0 h0 w0 nt x e' (HP.ov b d').get) j a w
  | 0, e, d, n1, a, w, x, e', d', n', h, hr => by cases h
  | j + 1, e, d, n1, a, w, x, e', d', n', h, hr => by
    simp only [loopU] at h
    split at h
    · rename_i x1 e1 d1 n2 hb
      rw [roundsIn_succ]
      refine wpIn_mono (Sc ro n lo W φ0 h0 w0 hI0 hG hcx hro hnd hlo b e d n1 a w x1 e1 d1 n2 hb hr) fun ex a' w' hn => ?_
      have fin : x1 ≠ .normal → RX.ok x1 e1 d1 n2 = .ok x e' d' n' := fun hx => by
        split at h
        · exact (hx rfl).elim
        · exact h
      cases ex with
      | normal =>
        obtain ⟨rfl, hr'⟩ := hn
        exact loopU_sound Sc hI0 hG hcx hro hnd hlo j _ _ _ _ _ _ _ _ _ h hr'
      | exit id =>
        obtain ⟨rfl, hr'⟩ := hn
        have := fin (fun e => by cases e)
        injection this with e1 e2 e3 e4
        subst e1; subst e2; subst e3
        exact ⟨rfl, hr'⟩
      | ret =>
        obtain ⟨rfl, hr'⟩ := hn
        have := fin (fun e => by cases e)
        injection this with e1 e2 e3 e4
        subst e1; subst e2; subst e3
        exact ⟨rfl, hr'⟩
      | goto _ => exact hn.elim
      | panic _ => exact hn.elim
      | outgrown => exact hn.elim
    · cases h

theorem cC_loop (c : Code) : (∃ id ops y x dst l, c = .seq (.region id ops false) y ∧ cOps P Gl nt ops.toList ops.toList = .nxt x dst :: l ∧ cC P Gl nt (.loop c) = .rloop x dst l (dst.toList ++ dstsO l ++ asgOf (cC P Gl nt y)) (cC P Gl nt y)) ∨ cC P Gl nt (.loop c) = .loop (cC P Gl nt c) := by
  cases c with
  | seq a y =>
    cases a with
    | region id ops draw =>
      cases draw with
      | true => exact .inr rfl
      | false =>
        cases hco : cOps P Gl nt ops.toList ops.toList with
        | nil => refine .inr ?_; simp only [cC, hco]
        | cons o l =>
          cases o with
          | nxt x dst => refine .inl ⟨id, ops, y, x, dst, l, rfl, hco, ?_⟩; simp only [cC, hco]
          | _ => refine .inr ?_; simp only [cC, hco]
    | _ => exact .inr rfl
  | _ => exact .inr rfl

/-- The record of a loop is turned. -/
theorem ObOk.loopT {φ : Gx} {w w' : World} {B : Nat} {k : Pos} {o : EO} {L : Nat} {r r' : Loop} (hL : w.heap[L]? = some (.loop r)) (hL' : w'.heap[L]? = some (.loop r')) (hoth : ∀ b, b ≠ L → w'.heap[b]? = w.heap[b]?) (h : ObOk φ w B k o) : ObOk φ w' B k o := by
  have ne : ∀ {b : Nat} {x : Obj}, w.heap[b]? = some x → (∀ r, x ≠ .loop r) → w'.heap[b]? = some x := fun {b x} hb hx => by
    rw [hoth b fun e => by subst e; rw [hL] at hb; injection hb with hb; exact hx r hb.symm]
    exact hb
  have ex : ∀ {b : Nat}, (∃ o, w.heap[b]? = some o) → ∃ o, w'.heap[b]? = some o := fun {b} ⟨o, hb⟩ => by
    by_cases e : b = L
    · subst e; exact ⟨_, hL'⟩
    · exact ⟨o, by rw [hoth b e]; exact hb⟩
  cases o with
  | none => exact h
  | row e s el len gen fz =>
    obtain ⟨h0, h1, hmm, h2, h3⟩ := h
    refine ⟨h0, h1, hmm, h2, fun g hg => ?_⟩
    obtain ⟨l, q1, ⟨r1, r2, arr, fr, r3, r4⟩, q3⟩ := h3 g hg
    exact ⟨l, q1, ⟨r1, r2, arr, fr, ne r3 (fun _ e => by cases e), r4⟩, q3⟩
  | map es clock =>
    obtain ⟨h1, l, vs, q1, q2, q3, q4⟩ := h
    exact ⟨h1, l, vs, q1, q2, ne q3 (fun _ e => by cases e), q4⟩
  | mit m since seen stepped =>
    obtain ⟨h1, l, q1, q2, q3⟩ := h
    refine ⟨h1, l, q1, q2, ?_⟩
    cases m with
    | none => exact ne q3 (fun _ e => by cases e)
    | some m => obtain ⟨l', q4, q5⟩ := q3; exact ⟨l', q4, ne q5 (fun _ e => by cases e)⟩
  | mitU m since bs st =>
    obtain ⟨h1, l, l', seen, stepped, n, q1, q2, q3, q4, q5⟩ := h
    exact ⟨h1, l, l', seen, stepped, n, q1, q2, q3, ne q4 (fun _ e => by cases e), q5⟩
  | sit s p =>
    obtain ⟨h1, h2, l, q1, q2, q3⟩ := h
    exact ⟨h1, h2, l, q1, q2, ne q3 (fun _ e => by cases e)⟩
  | clo fn first caps => exact h
  | ifc t v => exact h
  | emp => exact h
  | dead => exact fun g l q => ⟨(h g l q).1, ex (h g l q).2⟩
  | res => exact fun g l q => ⟨(h g l q).1, ex (h g l q).2⟩
  | yld =>
    obtain ⟨h1, l, q1, q2, q3, r0, q4⟩ := h
    refine ⟨h1, l, q1, q2, q3, ?_⟩
    by_cases e : l.b = L
    · exact ⟨r', by rw [e]; exact hL'⟩
    · exact ⟨r0, by rw [hoth _ e]; exact q4⟩

theorem GlOk.below {W : W0} (h : GlOk Gl P B W) {w : World} {φ : Gx} (hb : Below B W.w w) : GlOk Gl P B ⟨w, φ⟩ := fun g t v hg w' hb' => h g t v hg w' (hb.trans hb')

/-- A round: its record is turned, and turned back. -/
theorem round_inv {ψ1 ψ2 : Gx} {h2 : Pos → EO} {wx w3 : World} {L : Nat} {r0 r1 : Loop} (hB : B ≤ L) (hB0 : B ≤ wx.heap.size) (hx : wx.heap[L]? = some (.loop r0)) (J : Inv B ⟨wx.putObj L (.loop r1), ψ1⟩ ψ2 h2 w3) : Inv B ⟨wx, ψ1⟩ ψ2 h2 (w3.putObj L (.loop r0)) := by
  have hlt := (Array.getElem?_eq_some_iff.1 hx).1
  have h1 : (wx.putObj L (.loop r1)).heap[L]? = some (.loop r1) := World.putObj_heap_same hlt
  have h3 := J.kp.keep _ _ h1 rfl
  have hlt3 := (Array.getElem?_eq_some_iff.1 h3).1
  refine ⟨?_, ⟨?_, fun k o hk ho => ?_⟩, J.le, fun k hk => ?_, by simpa using J.size, fun k => ?_, J.sep⟩
  · have b1 : Below B wx (wx.putObj L (.loop r1)) := (Below.refl B wx).grown (grownBy_putObj' wx L _) hB0 (fun k e => by cases e; exact hB)
    exact (b1.trans J.below).grown (grownBy_putObj' w3 L _) J.size (fun k e => by cases e; exact hB)
  · exact J.kp.dr
  · by_cases e : k = L
    · subst e
      rw [hx] at hk
      injection hk with hk
      subst hk
      exact World.putObj_heap_same hlt3
    · rw [World.putObj_heap_other e]
      refine J.kp.keep _ _ ?_ ho
      rw [World.putObj_heap_other e]
      exact hk
  · obtain ⟨a1, a2, a3, a4⟩ := J.res k hk
    refine ⟨a1, a2, a3, fun g l hl => ?_⟩
    by_cases e : l.b = L
    · rw [e, World.putObj_heap_same hlt3, hx]
    · have := a4 g l hl
      rw [World.putObj_heap_other e] at this ⊢
      exact this
  · exact (J.obj k).loopT h3 (World.putObj_heap_same hlt3) fun b hb => World.putObj_heap_other hb

theorem setPs_sound {φ : Gx} : ∀ {ps : List Nat} {args : List TV} {env env' : Env} {vs : List Value} {tmps : Array Value}, setPs (ps.map pos) args env = some env' → (∀ t ∈ ps, t < nt ∧ t + 2 ≤ 2 ^ 64) → tmps.size = nt → ER φ env tmps → RTs φ args vs →
    vs.length = ps.length ∧ ER φ env' ((ps.zip vs).foldl (fun tmps (t, a) => tmps.setIfInBounds t a) tmps) ∧ ((ps.zip vs).foldl (fun tmps (t, a) => tmps.setIfInBounds t a) tmps).size = nt
  | [], [], env, env', [], tmps, h, _, hs, he, _ => by
    simp only [List.map_nil, setPs, Option.some.injEq] at h
    subst h
    exact ⟨rfl, he, hs⟩
  | t :: ps, u :: args, env, env', v :: vs, tmps, h, hb, hs, he, hr => by
    simp only [List.map_cons, setPs] at h
    obtain ⟨h1, h2⟩ := hb t (List.mem_cons_self ..)
    obtain ⟨v', ws, e, r1, r2⟩ := hr.cons
    simp only [List.cons.injEq] at e
    obtain ⟨rfl, rfl⟩ := e
    obtain ⟨g1, g2, g3⟩ := setPs_sound (tmps := tmps.setIfInBounds t v) h (fun t ht => hb t (List.mem_cons_of_mem _ ht)) (by simpa using hs) (he.set (by rw [hs]; exact h1) h2 r1) r2
    exact ⟨by simp [g1], g2, g3⟩
  | [], _ :: _, _, _, _, _, h, _, _, _, _ => by cases h
  | _ :: _, [], _, _, _, _, h, _, _, _, _ => by cases h
  | [], [], _, _, _ :: _, _, _, _, _, _, hr => by cases hr
  | _ :: _, _ :: _, _, _, [], _, _, _, _, _, hr => by cases hr

end
end Go.Proofs.YtdjhicbhegaenaaGreatDoor.Clo
namespace Go.Proofs.YtdjhicbhegaenaaGreatDoor.Clo
open Go Go.RowKit

section
variable {P : Program} {Gl : Nat → TypeId → Option Value} {B : Nat} {ck : Callk} {Γ : List Lq} {fuel nt : Nat}

/-- A new loop over a function. -/
theorem yld_new {φ : Gx} {H : Pos → EO} {w w2 : World} {W : W0} {n1 : Pos} {l : Nat} {r : Loop} (hI : Inv B W φ H w) (hn1 : H n1 = .none) (hgr : w.grownBy w2 none) (hle : w.heap.size ≤ l) (hdr : w2.drawn = w.drawn) (hrec : w2.heap[l]? = some (.loop r)) : ∃ φ2, φ.le φ2 ∧ φ2.loc n1 0 = some ⟨l, 0, 0⟩ ∧ φ2.val n1 = some (.func (.yield l) #[] #[]) ∧ Step B φ H w φ2 (upd H n1 .yld) w2 := by
  have hfr := hI.free hn1
  have hle2 : φ.le ((φ.add n1 ⟨l, 0, 0⟩).addV n1 (.func (.yield l) #[] #[])) := (hI.le_add hn1 _).trans ⟨fun _ _ _ h => h, fun q u hu => by
    by_cases e : q = n1
    · subst e
      have hu : φ.val q = some u := hu
      rw [hfr.2.1] at hu; cases hu
    · simp only [Gx.addV, if_neg e]; exact hu, fun _ _ h => h⟩
  have hl1 : ((φ.add n1 ⟨l, 0, 0⟩).addV n1 (.func (.yield l) #[] #[])).loc n1 0 = some ⟨l, 0, 0⟩ := Gx.add_self φ n1 _
  have hv1 : ((φ.add n1 ⟨l, 0, 0⟩).addV n1 (.func (.yield l) #[] #[])).val n1 = some (.func (.yield l) #[] #[]) := Gx.addV_self _ _ _
  refine ⟨_, hle2, hl1, hv1, hle2, fun W' hI => ?_, fun k hk => ?_⟩
  · refine hI.turn hle2 (fun k hk => ⟨fun g => if_neg hk, if_neg hk, rfl⟩) (fun g l' hl' => .inr ?_) (fun k hk _ => hgr.block k hk (by simp)) (fun g l' hl' => by rw [hfr.1 g] at hl'; cases hl') hgr.1 hgr.2 hgr.3 hgr.4 (by rw [hdr]; exact Nat.le_refl _) ⟨fun g hg => ?_, ⟨l, 0, 0⟩, hl1, Nat.le_trans hI.size hle, hv1, _, hrec⟩
    · have hl' : (if n1 = n1 then (if g = 0 then some (⟨l, 0, 0⟩ : Loc) else none) else φ.loc n1 g) = some l' := hl'
      rw [if_pos rfl] at hl'
      split at hl'
      · injection hl' with hl'; subst hl'; exact hle
      · cases hl'
    · show (if n1 = n1 then (if g = 0 then some (⟨l, 0, 0⟩ : Loc) else none) else φ.loc n1 g) = none
      rw [if_pos rfl, if_neg (by omega)]
  · by_cases e : n1 = k
    · subst e; rw [upd_self] at hk; cases hk
    · rwa [upd_ne _ _ e] at hk

/-- The rounds of a loop over a function are sound. -/
theorem rounds_sound {ps : Array Tmp} {x y : Code} (ckok : CkOk P Gl B ck Γ) (Sx : SoundC P Gl B ck Γ fuel nt x) (Sy : SoundC P Gl B ck Γ fuel nt y) {l D : Nat} {fn : FuncId} {tmps : Array Value} {n1 : Pos} {e : Env} (hBl : B ≤ l) (apartL : ∀ q ∈ Γ, q.l ≠ l) (hsz : tmps.size = nt) (hsk : noDefB x = true) (hnb : noDefB y = true) (hps : ∀ t ∈ ps.toList, t < nt ∧ t + 2 ≤ 2 ^ 64) :
    YkOk P Gl B (rounds n1 ck.call e (ps.toList.map pos) fun b e d n => match exec ck fuel (cC P Gl nt x) b e d n with
      | .ok .normal e d n => exec ck fuel (cC P Gl nt y) b e d n
      | _ => .no) (⟨n1, l, { state := .ready, pending := none, fn, tmps := tmps, params := ps, assign := x, body := y, defers := D }, e, tmps⟩ :: Γ) := by
  intro b' j args d3 n3 v3 d4 n4 hy W' φ' w' hG' hI' vs hargs hcx'
  unfold rounds at hy
  split at hy
  · rename_i hj
    have hj := Pos.beq_iff.1 hj
    subst hj
    split at hy
    · rename_i env' hset
      split at hy
      · rename_i x5 e5 d5 n5 hbody
        split at hy
        · injection hy with y1 y2 y3
          subst y1; subst y2; subst y3
          dsimp only at hbody
          split at hbody
          · rename_i e6 d6 n6 hasg
            intro l' hl' ro' n'
            obtain ⟨⟨lq, hq1, hq2⟩, hrecw, hEq⟩ := hcx' _ (List.mem_cons_self ..)
            simp only at hq1 hq2 hrecw hEq
            rw [hl'] at hq1
            injection hq1 with hq1
            subst hq1
            obtain ⟨hlen, hps', hsz'⟩ := setPs_sound hset hps hsz hEq hargs
            rw [hq2]
            refine ⟨_, _, _, _, run_yield hrecw (by simpa using hlen), ?_⟩
            have hroo : RoOk (some l) w' := fun l0 hl0 => by
              injection hl0 with hl0
              subst hl0
              exact ⟨_, hrecw⟩
            have hfold : ((ps.zip vs.toArray).foldl (fun tmps (t, a) => tmps.setIfInBounds t a) tmps) = ((ps.toList.zip vs).foldl (fun tmps (t, a) => tmps.setIfInBounds t a) tmps) := by
              rw [← Array.foldl_toList, Array.toList_zip]
            have hcxT : Ctx Γ φ' w' := fun q hq => hcx' q (List.mem_cons_of_mem _ hq)
            refine roundIn_of_wpIn trivial (wpIn_mono (Sx (some l) n' w'.heap.size W' φ' _ w' hI' hG' hcxT hroo (.inr hsk) (Nat.le_refl _) b' env' d3 n3 { tmps := _, defers := [] } w' .normal e6 d6 n6 hasg ⟨⟨φ', Step.refl, by rw [hfold]; exact hps'⟩, by rw [hfold]; exact hsz', [], rfl, List.nodup_nil, fun D hD => by cases hD⟩) fun e1 a1 wx hn1 => ?_)
            cases e1 with
            | exit id => exact (by cases hn1.1)
            | ret => exact (by cases hn1.1)
            | goto _ => exact hn1.elim
            | panic _ => exact hn1.elim
            | outgrown => exact hn1.elim
            | normal =>
              obtain ⟨_, hr1⟩ := hn1
              obtain ⟨ψ1, hs1, hE1⟩ := hr1.ex
              have J1 := hs1.2.1 _ hI'.self
              have hlw1 := J1.kp.keep _ _ hrecw rfl
              refine ⟨_, run_beginRound hlw1 rfl, ?_⟩
              have hlt1 := (Array.getElem?_eq_some_iff.1 hlw1).1
              obtain ⟨ms1, mdf1, mnd1, mk1⟩ := hr1.df
              have Jx := hs1.2.1 _ hI'
              have hIb : Inv B ⟨wx.putObj l (.loop { state := .busy, pending := none, fn, tmps := tmps, params := ps, assign := x, body := y, defers := D }), ψ1⟩ ψ1 (HP.ov b' d6).get (wx.putObj l (.loop { state := .busy, pending := none, fn, tmps := tmps, params := ps, assign := x, body := y, defers := D })) :=
                ⟨Below.refl _ _, Kp.refl _, Gx.le.refl _, fun _ _ => ⟨fun _ => rfl, rfl, rfl, fun _ _ _ => rfl⟩, by simpa using Jx.size, fun k => (Jx.obj k).loopT hlw1 (World.putObj_heap_same hlt1) fun b hb => World.putObj_heap_other hb, Jx.sep⟩
              have hbW : Below B W'.w (wx.putObj l (.loop { state := .busy, pending := none, fn, tmps := tmps, params := ps, assign := x, body := y, defers := D })) := Jx.below.grown (grownBy_putObj' wx l _) Jx.size (fun k e => by cases e; exact hBl)
              have hcxb : Ctx Γ ψ1 (wx.putObj l (.loop { state := .busy, pending := none, fn, tmps := tmps, params := ps, assign := x, body := y, defers := D })) := fun q hq => by
                obtain ⟨z1, z2, z3⟩ := (hcxT.more hI' hs1) q hq
                exact ⟨z1, by rw [World.putObj_heap_other (apartL q hq)]; exact z2, z3⟩
              refine wpIn_mono (Sy (some l) n' 0 _ ψ1 _ _ hIb (hG'.below hbW) hcxb (fun l0 hl0 => by
                  injection hl0 with hl0
                  subst hl0
                  exact ⟨_, World.putObj_heap_same hlt1⟩) (.inr hnb) (Nat.zero_le _) b' e6 d6 n6 a1 _ .normal e5 d5 n5 hbody ⟨⟨ψ1, Step.refl, hE1⟩, hr1.sz, ms1, mdf1, mnd1, fun D' hD' => ⟨Nat.zero_le _, by
                  have hd := (mk1 D' hD').2
                  rw [World.putObj_heap_other (fun e => by subst e; rw [hlw1] at hd; cases hd)]
                  exact hd⟩⟩) fun e2 a2 w3 hn2 => ?_
              cases e2 with
              | exit id => exact (by cases hn2.1)
              | ret => exact (by cases hn2.1)
              | goto _ => exact hn2.elim
              | panic _ => exact hn2.elim
              | outgrown => exact hn2.elim
              | normal =>
                obtain ⟨_, hr2⟩ := hn2
                obtain ⟨ψ2, hs2', hE3⟩ := hr2.ex
                have J2 := hs2'.2.1 _ hIb
                have hl3 := J2.kp.keep _ _ (World.putObj_heap_same hlt1) rfl
                have J3 := round_inv (r0 := { state := .ready, pending := none, fn, tmps := tmps, params := ps, assign := x, body := y, defers := D }) hBl Jx.size hlw1 J2
                refine ⟨.bool true, _, run_endRound none hl3, .bool true, ψ2, rfl, hs1.trans (step_self hs2'.1 J3 hs2'.2.2), rfl⟩
          · cases hbody
        · cases hy
      · cases hy
    · cases hy
  · exact ckok.call _ _ _ _ _ _ _ _ hy W' φ' w' hG' hI' vs hargs (fun q hq => hcx' q (List.mem_cons_of_mem _ hq))

theorem rng_sound {g : Operand} {ps : Array Tmp} {x y : Code} (ckok : CkOk P Gl B ck Γ) (Sx : SoundC P Gl B ck Γ fuel nt x) (Sy : SoundC P Gl B ck Γ fuel nt y) : SoundC P Gl B ck Γ fuel nt (.rangeFunc g ps x y) := by
  intro ro n lo W φ0 h0 w0 hI0 hG hcx hro hnd hlo0 b e d n1 a w X e' d' n' h hr
  simp only [cC] at h
  split at h
  rotate_left
  · cases h
  rename_i hchk
  simp only [Bool.and_eq_true, List.all_eq_true, decide_eq_true_eq] at hchk
  obtain ⟨⟨hsk, hnb⟩, hps⟩ := hchk
  simp only [exec] at h
  split at h
  rotate_left
  · cases h
  rename_i hfree
  have hn1 : (HP.ov b d).get n1 = .none := by
    unfold freeO at hfree
    simp only at hfree
    split at hfree
    · assumption
    · cases hfree
  split at h
  rotate_left
  · cases h
  rename_i gf us hen
  split at h
  rotate_left
  · cases h
  rename_i vout d1 n2 hcall
  injection h with q1 q2 q3 q4
  subst q1; subst q2; subst q3; subst q4
  obtain ⟨φ, hs, hE⟩ := hr.ex
  have hI := hs.2.1 _ hI0
  obtain ⟨ms, hms, hnod, hmk⟩ := hr.df
  have hk0 := (hs.2.1 _ hI0.self).kp
  refine wpIn_rangeFunc fun fn _ => ?_
  obtain ⟨l, mark, w2, D, hrun, hgr, hle, hdr, hrec, ms2, hmark, hnod2, hmk2⟩ := enterLoop_run (P := P) (w := w) fn a.tmps ps x y (ro := ro) (hro.more hk0)
  -- the new object
  obtain ⟨φ2, hle2, hl1, hv1, hst2⟩ := yld_new hI hn1 hgr hle hdr hrec
  have hstep2 := hst2.2.1
  have hI2 := hstep2 _ hI
  have eH : (HP.ov b (dset d n1 .yld)).get = upd (HP.ov b d).get n1 .yld := HP.get_set b d n1 .yld
  have hE2 := hE.mono hle2
  have hBl : B ≤ l := Nat.le_trans hI.size hle
  -- the loop under way
  have hcx2 : Ctx (⟨n1, l, { state := .ready, pending := none, fn, tmps := a.tmps, params := ps, assign := x, body := y, defers := D }, e, a.tmps⟩ :: Γ) φ2 w2 := fun q hq => by
    rcases List.mem_cons.1 hq with rfl | hq
    · exact ⟨⟨_, hl1, rfl⟩, hrec, hE2⟩
    · exact (hcx.more hI0 (hs.trans hst2)) q hq
  have apartL : ∀ q ∈ Γ, q.l ≠ l := fun q hq ee => by
    have h0 := hk0.keep _ _ (hcx q hq).2.1 rfl
    have := (Array.getElem?_eq_some_iff.1 h0).1
    omega
  have yok := rounds_sound (fn := fn) (D := D) (n1 := n1) (e := e) ckok Sx Sy hBl apartL hr.sz hsk hnb hps
  -- the call
  have hgv := eval_sound hE2 g
  have hval : RTs φ2 (valS e (srcOf g) :: [.pv (.one (.clo n1))]) [a.eval g, .func (.yield l) #[] #[]] := ⟨hgv, by
    show den φ2 (.clo n1) = some _
    simp only [den, hv1], trivial⟩
  rw [eH] at hen
  obtain ⟨fv, xs, hus, first, caps, hfv, hargs⟩ := enters_sound hI2 hen hval
  simp only [List.cons.injEq] at hus
  obtain ⟨rfl, rfl⟩ := hus
  have hI2' : Inv B W φ2 (HP.ov b (dset d n1 .yld)).get w2 := by rw [eH]; exact hI2
  obtain ⟨⟨fnn, f1, f2, f3⟩, hcalls⟩ := ckok.iter _ _ yok _ _ _ _ _ _ _ _ hcall W φ2 w2 hG hI2' _ hargs hcx2
  have hbody : ¬ fnn.body = none := by cases hb : fnn.body <;> simp_all
  have f3 : ¬ fnn.name = "runtime.NumGoroutine" := by simpa using f3
  refine ⟨l, mark, w2, { target := .fn (.func gf) caps, args := first ++ #[.func (.yield l) #[] #[]] }, w2, gf, (first.toList ++ [Value.func (.yield l) #[] #[]] ++ caps.toList).toArray, w2, hrun, ?_, fun _ _ => trivial, ?_, ?_, ?_⟩
  · simp only [resolve, hfv]
    simp [Deferred.ofValue, Act.eval]
  · have e2 : first ++ #[Value.func (.yield l) #[] #[]] ++ caps = (first.toList ++ [Value.func (.yield l) #[] #[]] ++ caps.toList).toArray := Array.ext' (by simp)
    simp only [invoke, callFunc, run_program, Sem.run_bind, Result.andThen_ok, f1, e2]
    simp [f3, hbody]
  · intro q
    cases q
  · refine callsRF ?_
    refine hcalls.mono ?_
    rintro _ w3 ⟨v, ψ, rfl, hst3, hrv⟩
    rw [eH] at hst3
    have J3 := hst3.2.1 _ hI2.self
    have hl3 := J3.kp.keep _ _ hrec rfl
    have hlt3 := (Array.getElem?_eq_some_iff.1 hl3).1
    refine ⟨none, _, run_endLoop hl3 (by simp), rfl, ⟨ψ, ⟨hs.1.trans (hle2.trans hst3.1), fun W' hW => ?_, fun k hk => hs.2.2 k (hst2.2.2 k (hst3.2.2 k hk))⟩, hE2.mono hst3.1⟩, hr.sz, ms2 ++ ms, ?_, ?_, fun D' hD' => ?_⟩
    · have hIw := hs.2.1 _ hW
      have J4 := hst3.2.1 _ (hstep2 _ hIw)
      refine ⟨J4.below.grown (grownBy_putObj' w3 l _) J4.size (fun k e => by cases e; exact hBl), ⟨J4.kp.dr, fun k o hk ho => ?_⟩, J4.le, fun k hk => ?_, by simpa using J4.size, fun k => (J4.obj k).loopT hl3 (World.putObj_heap_same hlt3) fun b hb => World.putObj_heap_other hb, J4.sep⟩
      · have h1 := hIw.kp.keep _ _ hk ho
        have := (Array.getElem?_eq_some_iff.1 h1).1
        rw [World.putObj_heap_other (by omega)]
        exact J4.kp.keep _ _ hk ho
      · obtain ⟨z1, z2, z3, z4⟩ := J4.res k hk
        refine ⟨z1, z2, z3, fun g' l' hl' => ?_⟩
        have hlw : φ.loc k g' = some l' := hIw.le.loc k g' l' (by rw [← z1 g']; exact hl')
        have := hIw.lt hlw
        rw [World.putObj_heap_other (by omega)]
        exact z4 g' l' hl'
    · show mark ++ a.defers = _
      rw [hmark, hms, List.map_append]
    · rw [List.nodup_append]
      refine ⟨hnod2, hnod, fun D1 h1 D2 h2 ed => ?_⟩
      have := (hmk2 D1 h1).1
      have h3 := (Array.getElem?_eq_some_iff.1 (hmk D2 h2).2).1
      omega
    · rcases List.mem_append.1 hD' with h1 | h1
      · obtain ⟨x1, x2, x3⟩ := hmk2 D' h1
        refine ⟨?_, by rw [World.putObj_heap_other x2]; exact J3.kp.keep _ _ x3 rfl⟩
        exact Nat.le_trans hlo0 (Nat.le_trans (hs.2.1 _ hI0.self).below.size x1)
      · obtain ⟨x1, x2⟩ := hmk D' h1
        have x3 := (Array.getElem?_eq_some_iff.1 x2).1
        refine ⟨x1, ?_⟩
        rw [World.putObj_heap_other (by omega)]
        exact J3.kp.keep _ _ ((hst2.2.1 _ hI.self).kp.keep _ _ x2 rfl) rfl

end
end Go.Proofs.YtdjhicbhegaenaaGreatDoor.Clo
namespace Go.Proofs.YtdjhicbhegaenaaGreatDoor.Clo
open Go Go.RowKit

section
variable {P : Program} {Gl : Nat → TypeId → Option Value} {B : Nat} {ck : Callk} {Γ : List Lq} {fuel nt : Nat}

theorem exec_sound (hm : P.follows .mixedOrders = true) (ckok : CkOk P Gl B ck Γ) : ∀ c : Code, SoundC P Gl B ck Γ fuel nt c ∧ ∀ x y, c = .seq x y → SoundC P Gl B ck Γ fuel nt y := by
  intro c
  induction c with
  | skip =>
    refine ⟨fun ro n lo W φ0 h0 w0 hI0 hG hcx hro hnd hlo b e d n1 a w x e' d' n' h hr => ?_, fun _ _ e => by cases e⟩
    simp only [cC, exec] at h
    injection h with h1 h2 h3 h4
    subst h1; subst h2; subst h3
    exact wpIn_skip ⟨rfl, hr⟩
  | label l =>
    refine ⟨fun ro n lo W φ0 h0 w0 hI0 hG hcx hro hnd hlo b e d n1 a w x e' d' n' h hr => ?_, fun _ _ e => by cases e⟩
    simp only [cC, exec] at h
    injection h with h1 h2 h3 h4
    subst h1; subst h2; subst h3
    exact wpIn_label ⟨rfl, hr⟩
  | region id ops draw =>
    refine ⟨fun ro n lo W φ0 h0 w0 hI0 hG hcx hro hnd hlo b e d n1 a w x e' d' n' h hr => ?_, fun _ _ e => by cases e⟩
    have conv : ∀ {e1 : Env} {d1 : DM} {n2 : Pos}, RX.ok .normal e1 d1 n2 = .ok x e' d' n' → ∀ ex a w, NPost B lo φ0 h0 w0 nt e1 (HP.ov b d1).get ex a w → XPost B lo φ0 h0 w0 nt x e' (HP.ov b d').get ex a w := by
      intro e1 d1 n2 he ex a w hn
      injection he with h1 h2 h3 h4
      subst h1; subst h2; subst h3
      cases ex with
      | normal => exact ⟨rfl, hn⟩
      | _ => exact hn.elim
    cases draw with
    | false =>
      simp only [cC, exec] at h
      split at h
      · rename_i e1 d1 n2 hrun
        exact wpIn_mono (plain_sound hnd.ops hI0 hG ckok hcx hrun hr) (conv h)
      · cases h
    | true =>
      simp only [cC, cDrawn] at h
      split at h
      · rename_i ps hps
        simp only [exec] at h
        split at h
        · rename_i rs d1 n2 hrv
          split at h
          · rename_i infs e1 d2 n3 hrt
            cases hpo : pairsOk infs ps with
            | false => rw [hpo] at h; cases h
            | true =>
              rw [hpo, cond_true] at h
              exact wpIn_mono (drawn_sound hm hnd.ops hI0 hG ckok hcx hps rfl hrv hrt hpo hr) (conv h)
          · cases h
        · cases h
      · cases h
  | seq x y ihx ihy =>
    refine ⟨fun ro n lo W φ0 h0 w0 hI0 hG hcx hro hnd hlo b e d n1 a w X e' d' n' h hr => ?_, fun x' y' e => by injection e with e1 e2; subst e2; exact ihy.1⟩
    simp only [cC, exec] at h
    split at h
    · rename_i x1 e1 d1 n2 hx
      refine wpIn_seq (wpIn_mono (ihx.1 ro n lo W φ0 h0 w0 hI0 hG hcx hro (NoDefs.left hnd) hlo b e d n1 a w x1 e1 d1 n2 hx hr) fun ex a w hn => ?_)
      have fin : x1 ≠ .normal → RX.ok x1 e1 d1 n2 = .ok X e' d' n' := fun hx => by
        split at h
        · exact (hx rfl).elim
        · exact h
      cases ex with
      | normal =>
        obtain ⟨rfl, hr'⟩ := hn
        exact ihy.1 ro n lo W φ0 h0 w0 hI0 hG hcx hro (NoDefs.right hnd) hlo b e1 d1 n2 a w X e' d' n' h hr'
      | exit id =>
        obtain ⟨rfl, hr'⟩ := hn
        have := fin (fun e => by cases e)
        injection this with e1 e2 e3 e4
        subst e1; subst e2; subst e3
        exact ⟨rfl, hr'⟩
      | ret =>
        obtain ⟨rfl, hr'⟩ := hn
        have := fin (fun e => by cases e)
        injection this with e1 e2 e3 e4
        subst e1; subst e2; subst e3
        exact ⟨rfl, hr'⟩
      | goto _ => exact hn.elim
      | panic _ => exact hn.elim
      | outgrown => exact hn.elim
    · cases h
  | cond cnd x y ihx ihy =>
    refine ⟨fun ro n lo W φ0 h0 w0 hI0 hG hcx hro hnd hlo b e d n1 a w X e' d' n' h hr => ?_, fun _ _ e => by cases e⟩
    simp only [cC, exec] at h
    split at h
    · rename_i t ht
      obtain ⟨φ, hs, hE⟩ := hr.ex
      have hv := eval_sound hE cnd
      rw [ht] at hv
      have hv := rt_bl hv
      cases t with
      | true => exact wpIn_cond_true hv (ihx.1 ro n lo W φ0 h0 w0 hI0 hG hcx hro (NoDefs.left hnd) hlo b e d n1 a w X e' d' n' h hr)
      | false => exact wpIn_cond_false hv (ihy.1 ro n lo W φ0 h0 w0 hI0 hG hcx hro (NoDefs.right hnd) hlo b e d n1 a w X e' d' n' h hr)
    · cases h
  | block id x ih =>
    refine ⟨fun ro n lo W φ0 h0 w0 hI0 hG hcx hro hnd hlo b e d n1 a w X e' d' n' h hr => ?_, fun _ _ e => by cases e⟩
    simp only [cC, exec] at h
    split at h
    · rename_i x1 e1 d1 n2 hx
      refine wpIn_block (wpIn_mono (ih.1 ro n lo W φ0 h0 w0 hI0 hG hcx hro hnd hlo b e d n1 a w x1 e1 d1 n2 hx hr) fun ex a w hn => ?_)
      cases ex with
      | normal =>
        obtain ⟨rfl, hr'⟩ := hn
        injection h with h1 h2 h3 h4
        subst h1; subst h2; subst h3
        exact ⟨rfl, hr'⟩
      | exit id' =>
        obtain ⟨rfl, hr'⟩ := hn
        show if id' = id then _ else _
        simp only at h
        cases hb : Nat.beq id' id with
        | true =>
          rw [hb] at h
          rw [if_pos (Nat.eq_of_beq_eq_true hb)]
          injection h with h1 h2 h3 h4
          subst h1; subst h2; subst h3
          exact ⟨rfl, hr'⟩
        | false =>
          rw [hb] at h
          rw [if_neg (Nat.ne_of_beq_eq_false hb)]
          injection h with h1 h2 h3 h4
          subst h1; subst h2; subst h3
          exact ⟨rfl, hr'⟩
      | ret =>
        obtain ⟨rfl, hr'⟩ := hn
        injection h with h1 h2 h3 h4
        subst h1; subst h2; subst h3
        exact ⟨rfl, hr'⟩
      | goto _ => exact hn.elim
      | panic _ => exact hn.elim
      | outgrown => exact hn.elim
    · cases h
  | loop c ih =>
    refine ⟨fun ro n lo W φ0 h0 w0 hI0 hG hcx hro hnd hlo b e d n1 a w X e' d' n' h hr => ?_, fun _ _ e => by cases e⟩
    rcases cC_loop (P := P) (Gl := Gl) (nt := nt) c with ⟨id, ops, y, x, dst, l, rfl, hco, hcc⟩ | hcc
    · rw [hcc] at h
      have hplain : loopU (fun e d n => thenX (runOps ck b (.nxt x dst :: l) e d n) (exec ck fuel (cC P Gl nt y) b)) fuel e d n1 = .ok X e' d' n' → (Code.loop (.seq (.region id ops false) y)).wpIn (RF ro) n P (XPost B lo φ0 h0 w0 nt X e' (HP.ov b d').get) a w := fun h => by
        refine wpIn_loop_rounds fuel (loopU_sound ih.1 hI0 hG hcx hro hnd hlo fuel e d n1 a w X e' d' n' ?_ hr)
        rw [← h]
        congr 1
        funext e d n
        simp only [cC, hco, exec]
        cases runOps ck b (.nxt x dst :: l) e d n <;> rfl
      simp only [exec] at h
      split at h
      · rename_i it g hx
        split at h
        · rename_i m since sp hit
          split at h
          · rename_i es clock hmm
            split at h
            · rename_i y1 y2 yr
              cases hchk : (Nat.ble since sp && Nat.ble since clock && (y1 :: y2 :: yr).all fun x => Nat.blt x.born since) with
              | false => rw [hchk] at h; cases h
              | true =>
                rw [hchk, cond_true] at h
                simp only [Bool.and_eq_true, ble_t] at hchk
                obtain ⟨⟨c1, c2⟩, c3⟩ := hchk
                rw [Bool.cond_eq_ite] at h
                split at h
                · rename_i heach
                  have hX : X ≠ .normal ∧ thenX (runOps ck b l (setD (dropE (dst.toList ++ dstsO l ++ asgOf (cC P Gl nt y)) (dropT e)) dst tOver) (dset d it .dead) n1) (exec ck fuel (cC P Gl nt y) b) = .ok X e' d' n' := by
                    split at h
                    · cases h
                    · rename_i hne
                      refine ⟨fun e => ?_, h⟩
                      subst e
                      exact hne _ _ _ h
                  refine wpIn_loop_rounds (cntU (borns (y1 :: y2 :: yr)) #[] + 1) (rloop_sound hco ckok (ih.2 _ _ rfl) hI0 hG hcx hro hnd hlo hx hit hmm c3 c2 heach hX.2 hX.1 _ [] sp a w c1 (Nat.lt_succ_self _) ?_)
                  obtain ⟨φ, hs, hE⟩ := hr.ex
                  have e1 : upd (HP.ov b d).get it (.mit (some m) since [] sp) = (HP.ov b d).get := by
                    funext k
                    simp only [upd]
                    split
                    · rename_i ek; rw [← ek, hit]
                    · rfl
                  rw [e1]
                  exact ⟨⟨φ, hs, hE.drop _⟩, hr.sz, hr.df⟩
                · cases h
            · exact hplain h
          · cases h
        · exact hplain h
        · cases h
      · cases h
    · rw [hcc] at h
      simp only [exec] at h
      exact wpIn_loop_rounds fuel (loopU_sound ih.1 hI0 hG hcx hro hnd hlo fuel e d n1 a w X e' d' n' h hr)
  | exit id =>
    refine ⟨fun ro n lo W φ0 h0 w0 hI0 hG hcx hro hnd hlo b e d n1 a w x e' d' n' h hr => ?_, fun _ _ e => by cases e⟩
    simp only [cC, exec] at h
    injection h with h1 h2 h3 h4
    subst h1; subst h2; subst h3
    exact wpIn_exit ⟨rfl, hr⟩
  | ret =>
    refine ⟨fun ro n lo W φ0 h0 w0 hI0 hG hcx hro hnd hlo b e d n1 a w x e' d' n' h hr => ?_, fun _ _ e => by cases e⟩
    simp only [cC, exec] at h
    injection h with h1 h2 h3 h4
    subst h1; subst h2; subst h3
    exact wpIn_ret ⟨rfl, hr⟩
  | rangeFunc g ps x y ihx ihy => exact ⟨rng_sound ckok ihx.1 ihy.1, fun _ _ e => by cases e⟩
  | scope x ih =>
    refine ⟨fun ro n lo W φ0 h0 w0 hI0 hG hcx hro hnd hlo b e d n1 a w X e' d' n' h hr => ?_, fun _ _ e => by cases e⟩
    refine wpIn_scope_straight (wpIn_mono (ih.1 ro n lo W φ0 h0 w0 hI0 hG hcx hro hnd hlo b e d n1 a w X e' d' n' h hr) fun ex a w hn => ?_)
    cases ex with
    | goto _ => exact hn.elim
    | _ => exact hn
  | goto l => exact ⟨fun ro n lo W φ0 h0 w0 hI0 hG hcx hro hnd hlo b e d n1 a w x e' d' n' h hr => (by cases h), fun _ _ e => by cases e⟩
  | refuse s => exact ⟨fun ro n lo W φ0 h0 w0 hI0 hG hcx hro hnd hlo b e d n1 a w x e' d' n' h hr => (by cases h), fun _ _ e => by cases e⟩

end
end Go.Proofs.YtdjhicbhegaenaaGreatDoor.Clo
namespace Go.Proofs.YtdjhicbhegaenaaGreatDoor.Clo
open Go Go.RowKit

/-- How a result is read. -/
def resSem (tmps : Array Value) : ResultVar → Sem Value
  | .tmp t => pure (tmps.getD t undef)
  | .cell t ty => do loadVar ty (← asAddr (tmps.getD t undef))

section
variable {P : Program} {Gl : Nat → TypeId → Option Value} {B : Nat} {W : W0} {φ φ0 ψ : Gx} {h h0 : Pos → EO} {w w0 : World}

theorem ObOk.defT {k : Pos} {o : EO} {w w' : World} {L : Nat} {r r' : Option (List Deferred)} (hL : w.heap[L]? = some (.deferred r)) (hL' : w'.heap[L]? = some (.deferred r')) (hoth : ∀ b, b ≠ L → w'.heap[b]? = w.heap[b]?) (h : ObOk φ w B k o) : ObOk φ w' B k o := by
  have ne : ∀ {b : Nat} {x : Obj}, w.heap[b]? = some x → (∀ r, x ≠ .deferred r) → w'.heap[b]? = some x := fun {b x} hb hx => by
    rw [hoth b fun e => by subst e; rw [hL] at hb; injection hb with hb; exact hx r hb.symm]
    exact hb
  have ex : ∀ {b : Nat}, (∃ o, w.heap[b]? = some o) → ∃ o, w'.heap[b]? = some o := fun {b} ⟨o, hb⟩ => by
    by_cases e : b = L
    · subst e; exact ⟨_, hL'⟩
    · exact ⟨o, by rw [hoth b e]; exact hb⟩
  cases o with
  | none => exact h
  | row e s el len gen fz =>
    obtain ⟨h0, h1, hmm, h2, h3⟩ := h
    refine ⟨h0, h1, hmm, h2, fun g hg => ?_⟩
    obtain ⟨l, q1, ⟨r1, r2, arr, fr, r3, r4⟩, q3⟩ := h3 g hg
    exact ⟨l, q1, ⟨r1, r2, arr, fr, ne r3 (fun _ e => by cases e), r4⟩, q3⟩
  | map es clock =>
    obtain ⟨h1, l, vs, q1, q2, q3, q4⟩ := h
    exact ⟨h1, l, vs, q1, q2, ne q3 (fun _ e => by cases e), q4⟩
  | mit m since seen stepped =>
    obtain ⟨h1, l, q1, q2, q3⟩ := h
    refine ⟨h1, l, q1, q2, ?_⟩
    cases m with
    | none => exact ne q3 (fun _ e => by cases e)
    | some m => obtain ⟨l', q4, q5⟩ := q3; exact ⟨l', q4, ne q5 (fun _ e => by cases e)⟩
  | mitU m since bs st =>
    obtain ⟨h1, l, l', seen, stepped, n, q1, q2, q3, q4, q5⟩ := h
    exact ⟨h1, l, l', seen, stepped, n, q1, q2, q3, ne q4 (fun _ e => by cases e), q5⟩
  | sit s p =>
    obtain ⟨h1, h2, l, q1, q2, q3⟩ := h
    exact ⟨h1, h2, l, q1, q2, ne q3 (fun _ e => by cases e)⟩
  | clo fn first caps => exact h
  | ifc t v => exact h
  | emp => exact h
  | dead => exact fun g l q => ⟨(h g l q).1, ex (h g l q).2⟩
  | res => exact fun g l q => ⟨(h g l q).1, ex (h g l q).2⟩
  | yld =>
    obtain ⟨h1, l, q1, q2, q3, r0, q4⟩ := h
    exact ⟨h1, l, q1, q2, q3, r0, ne q4 (fun _ e => by cases e)⟩

theorem leave_one (hI0 : Inv B W φ0 h0 w0) (hs : Step B φ0 h0 w0 ψ h w) {D : Nat} {r r' : Option (List Deferred)} (hD : w.heap[D]? = some (.deferred r)) (hlo : w0.heap.size ≤ D) : Step B φ0 h0 w0 ψ h (w.putObj D (.deferred r')) := by
  have hlt := (Array.getElem?_eq_some_iff.1 hD).1
  refine ⟨hs.1, fun W' hW => ?_, hs.2.2⟩
  have J := hs.2.1 _ hW
  refine ⟨J.below.grown (grownBy_putObj' w D _) J.size (fun k e => by cases e; exact Nat.le_trans hW.size hlo), ⟨J.kp.dr, fun k o hk ho => ?_⟩, J.le, fun k hk => ?_, by simpa using J.size, fun k => (J.obj k).defT hD (World.putObj_heap_same hlt) fun b hb => World.putObj_heap_other hb, J.sep⟩
  · have h1 := hW.kp.keep _ _ hk ho
    have := (Array.getElem?_eq_some_iff.1 h1).1
    rw [World.putObj_heap_other (by omega)]
    exact J.kp.keep _ _ hk ho
  · obtain ⟨z1, z2, z3, z4⟩ := J.res k hk
    refine ⟨z1, z2, z3, fun g' l' hl' => ?_⟩
    have hlw : φ0.loc k g' = some l' := hW.le.loc k g' l' (by rw [← z1 g']; exact hl')
    have := hW.lt hlw
    rw [World.putObj_heap_other (by omega)]
    exact z4 g' l' hl'

theorem leave_marks (hI0 : Inv B W φ0 h0 w0) {fn : Func} {tmps : Array Value} {R : Ending → World → Prop} {n : Nat} : ∀ (ms : List Nat) (w : World), Step B φ0 h0 w0 ψ h w → ms.Nodup → (∀ D ∈ ms, w0.heap.size ≤ D ∧ w.heap[D]? = some (.deferred (some []))) →
    (∀ w2, Step B φ0 h0 w0 ψ h w2 → ∃ v, (results fn tmps).run P w2 = .ok v w2 ∧ R (.returned v) w2) →
    LeavesInM (RF none) n P fn tmps R (ms.map fun D => { target := .collected D, args := #[] }) .returning w
  | [], w, hs, _, _, hk => hk w hs
  | D :: ms, w, hs, hnd, hall, hk => by
    obtain ⟨hB, hD⟩ := hall D (List.mem_cons_self ..)
    obtain ⟨hn1, hn2⟩ := List.nodup_cons.1 hnd
    refine ⟨by simp, .inl ⟨D, _, rfl, run_takeDeferred hD, ?_⟩⟩
    refine leave_marks hI0 ms _ (leave_one hI0 hs hD hB) hn2 (fun D' hD' => ?_) hk
    obtain ⟨h1, h2⟩ := hall D' (List.mem_cons_of_mem _ hD')
    have hne : D' ≠ D := fun e => hn1 (by rw [← e]; exact hD')
    exact ⟨h1, (World.putObj_heap_other hne).trans h2⟩

theorem resOf_sound (hI : Inv B W φ h w) {e : Env} {tmps : Array Value} (hE : ER φ e tmps) {rv : ResultVar} {r : FR} (hc : cRes P rv = some r) {u : PV} (hr : resOf e h r = some u) : ∃ v, (resSem tmps rv).run P w = .ok v w ∧ denP φ u = some v := by
  cases rv with
  | tmp t =>
    simp only [cRes] at hc
    split at hc
    · rename_i h64
      simp only [Option.some.injEq] at hc
      subst hc
      simp only [resOf] at hr
      split at hr
      · rename_i v hv
        simp only [Option.some.injEq] at hr
        subst hr
        have := hE t h64
        rw [hv] at this
        exact ⟨_, by simp [resSem], this⟩
      · cases hr
    · cases hc
  | cell t ty =>
    simp only [cRes] at hc
    split at hc
    · rename_i b hb
      split at hc
      · rename_i h64
        simp only [Option.some.injEq] at hc
        subst hc
        simp only [resOf] at hr
        split at hr
        · rename_i k g off hv
          have hr2 := hE t h64.1
          rw [hv] at hr2
          split at hr
          · rename_i cs hcs
            obtain ⟨l, hl, e⟩ := rt_ptr hr2
            obtain ⟨vs, q1, q2, q3, _⟩ := hI.rd hcs hl
            have hlen : vs.length = szOf P ty := by rw [dens_len q1, q2]
            unfold toPV at hr
            cases b with
            | true =>
              simp only [Option.some.injEq] at hr
              subst hr
              refine ⟨.agg vs.toArray, ?_, by show denP φ (.agg cs) = _; simp only [denP, q1]⟩
              have := run_loadCells_list (P := P) w ⟨l.b, off, none⟩ vs q3
              rw [hlen] at this
              simp [resSem, e, asAddr, loadVar, run_isAgg hb, run_sizeOf h64.2, this]
            | false =>
              simp only at hr
              split at hr
              · rename_i c
                simp only [Option.some.injEq] at hr
                subst hr
                obtain ⟨v, ws, rfl, z1, z2⟩ := dens_cons q1
                refine ⟨v, ?_, z1⟩
                have hc := q3 0 v rfl
                rw [show ((⟨l.b, off, none⟩ : Addr).add 0) = ⟨l.b, off, none⟩ by simp [Addr.add]] at hc
                simp [resSem, e, asAddr, loadVar, run_isAgg hb, run_load, hc]
              · cases hr
          · cases hr
        · cases hr
      · cases hc
    · cases hc

theorem resAll_sound (hI : Inv B W φ h w) {e : Env} {tmps : Array Value} (hE : ER φ e tmps) : ∀ {rvs : List ResultVar} {rs : List FR} {l : List PV}, cRess P rvs = some rs → resAll e h rs = some l →
    ∃ vs, (rvs.mapM (resSem tmps)).run P w = .ok vs w ∧ denPs φ l = some vs
  | [], rs, l, hc, hr => by
    simp only [cRess, Option.some.injEq] at hc
    subst hc
    simp only [resAll, Option.some.injEq] at hr
    subst hr
    exact ⟨[], by simp, rfl⟩
  | rv :: rvs, rs, l, hc, hr => by
    simp only [cRess] at hc
    split at hc
    · rename_i a b h1 h2
      simp only [Option.some.injEq] at hc
      subst hc
      simp only [resAll] at hr
      split at hr
      · rename_i u hu
        split at hr
        · rename_i us hus
          simp only [Option.some.injEq] at hr
          subst hr
          obtain ⟨v, g1, g2⟩ := resOf_sound hI hE h1 hu
          obtain ⟨vs, q1, q2⟩ := resAll_sound hI hE h2 hus
          refine ⟨v :: vs, ?_, denPs_mk g2 q2⟩
          rw [List.mapM_cons, Sem.run_bind, g1, Result.andThen_ok, Sem.run_bind, q1, Result.andThen_ok]
          rfl
        · cases hr
      · cases hr
    · cases hc

theorem denPs_len : ∀ {l : List PV} {vs : List Value}, denPs φ l = some vs → vs.length = l.length
  | [], vs, r => by simp only [denPs, Option.some.injEq] at r; subst r; rfl
  | c :: l, vs, r => by
    obtain ⟨v, ws, rfl, _, h2⟩ := denPs_cons r
    simp [denPs_len h2]
theorem packR_sound {l : List PV} {vs : List Value} (hr : denPs φ l = some vs) : RT φ (packR l) (if h : vs.length = 1 then vs[0] else .tuple vs.toArray) := by
  have hlen := denPs_len hr
  match l, vs, hr, hlen with
  | [], [], hr, _ => exact ⟨[], rfl, by simp⟩
  | [u], [v], hr, _ =>
    obtain ⟨v', ws, e, h1, h2⟩ := denPs_cons hr
    simp only [List.cons.injEq] at e
    obtain ⟨rfl, rfl⟩ := e
    have h1 : RT φ (.pv u) v := h1
    simpa [packR] using h1
  | u :: u' :: l, v :: v' :: vs, hr, _ => exact ⟨v :: v' :: vs, hr, by simp⟩

theorem results_sound (hI : Inv B W φ h w) {e : Env} {tmps : Array Value} (hE : ER φ e tmps) {fn : Func} {rs : List FR} {l : List PV} (hc : cRess P fn.results.toList = some rs) (hr : resAll e h rs = some l) : ∃ v, (results fn tmps).run P w = .ok v w ∧ RT φ (packR l) v := by
  obtain ⟨vs, h1, h2⟩ := resAll_sound hI hE hc hr
  refine ⟨_, ?_, packR_sound h2⟩
  have e : results fn tmps = (do let vs ← fn.results.mapM (resSem tmps); pure (if h : vs.size = 1 then vs[0] else .tuple vs)) := by
    unfold results
    congr 2
  rw [e, Array.mapM_eq_mapM_toList, Sem.run_bind, map_eq_pure_bind, Sem.run_bind, h1, Result.andThen_ok]
  simp

theorem ofArgs_get : ∀ (l : List TV) (p : Pos) (e : Env) (q : Pos), (ofArgs l p e).get .unk q = if p.num ≤ q.num ∧ q.num < p.num + l.length then l.getD (q.num - p.num) .unk else e.get .unk q
  | [], p, e, q => by simp [ofArgs]; intro h1 h2; omega
  | a :: l, p, e, q => by
    simp only [ofArgs]
    rw [ofArgs_get l p.succ (PM.set .unk p e a) q, PM.get_set, Pos.num_succ]
    simp only [upd]
    by_cases hq : p = q
    · subst hq
      rw [if_neg (by omega), if_pos rfl, if_pos ⟨Nat.le_refl _, by simp⟩, Nat.sub_self]
      rfl
    · have hne : p.num ≠ q.num := fun e => hq (Pos.inj e)
      rw [if_neg hq]
      simp only [List.length_cons]
      by_cases h1 : p.num + 1 ≤ q.num ∧ q.num < p.num + 1 + l.length
      · rw [if_pos h1, if_pos ⟨by omega, by omega⟩, show q.num - p.num = (q.num - (p.num + 1)) + 1 by omega, List.getD_cons_succ]
      · rw [if_neg h1, if_neg (by omega)]

theorem RTs.get : ∀ {l : List TV} {vs : List Value} (i : Nat), RTs φ l vs → i < l.length → RT φ (l.getD i .unk) (vs.getD i undef)
  | a :: l, vs, 0, h, _ => by
    obtain ⟨v, ws, rfl, h1, h2⟩ := h.cons
    exact h1
  | a :: l, vs, i + 1, h, hi => by
    obtain ⟨v, ws, rfl, h1, h2⟩ := h.cons
    simp only [List.getD_cons_succ]
    exact RTs.get i h2 (by simpa using hi)
  | [], _, _, _, hi => by simp at hi
theorem enter_env {l : List TV} {vs : List Value} (hr : RTs φ l vs) (n : Nat) : ER φ (ofArgs l .e .leaf) (vs.toArray ++ Array.replicate n undef) := fun t ht => by
  have hn : (pos t).num = t := posF_num 64 t ht
  rw [ofArgs_get, hn]
  simp only [Pos.num, Nat.zero_le, Nat.zero_add, true_and, Nat.sub_zero]
  split
  · rename_i hlt
    have hlv : t < vs.length := by have := hr.len; omega
    have := hr.get t hlt
    have e : (vs.toArray ++ Array.replicate n undef).getD t undef = vs.getD t undef := by
      rw [Array.getD_eq_getD_getElem?, List.getD_eq_getElem?_getD, Array.getElem?_append_left (by simpa using hlv)]
      simp
    rw [e]
    exact this
  · exact trivial

theorem fiOf_some {f : FuncId} {x : Fi} (hx : fiOf P Gl f = some x) : ∃ fn c rs, P.funcs[f]? = some fn ∧ fn.body = some c ∧ (fn.name == "runtime.NumGoroutine") = false ∧ cRess P fn.results.toList = some rs ∧ x = ⟨cC P Gl fn.ntmps c, rs, fn.ntmps⟩ := by
  unfold fiOf at hx
  split at hx
  · rename_i fn hf
    split at hx
    · rename_i c hb
      split at hx
      · cases hx
      · rename_i hn
        split at hx
        · rename_i rs hrs
          simp only [Option.some.injEq] at hx
          exact ⟨fn, c, rs, hf, hb, by simpa using hn, hrs, hx.symm⟩
        · cases hx
    · cases hx
  · cases hx

theorem mkCkY_sound (hm : P.follows .mixedOrders = true) {fuel : Nat} : ∀ (dp : Nat) (yk : Yk) (Γ : List Lq), YkOk P Gl B yk Γ → CallOk P Gl B (mkCkY (fiOf P Gl) fuel dp yk) Γ := by
  intro dp
  induction dp with
  | zero =>
    intro yk Γ hyk b t args d n v d' n' hcall
    cases t with
    | yld j => exact hyk b j args d n v d' n' hcall
    | fn f => cases hcall
  | succ dp ih =>
    intro yk Γ hyk b t args d n v d' n' hcall
    cases t with
    | yld j => exact hyk b j args d n v d' n' hcall
    | fn f =>
      intro W φ w hG hI vs hr hcx
      simp only [mkCkY] at hcall
      split at hcall
      · rename_i x hx
        obtain ⟨fn, c, rs, f1, f2, f3, f4, rfl⟩ := fiOf_some hx
        simp only at hcall
        split at hcall
        · rename_i hle
          have hle := ble_t.1 hle
          have hlen := hr.len
          refine ⟨⟨fn, f1, by simp [f2], f3⟩, ?_⟩
          unfold retR at hcall
          split at hcall
          · rename_i X e1 d1 n1 hex
            have hsz : (vs.toArray ++ Array.replicate (fn.ntmps - vs.toArray.size) undef).size = fn.ntmps := by
              simp
              omega
            have ckok : CkOk P Gl B (ckOf (mkCkY (fiOf P Gl) fuel dp) yk) Γ := ⟨ih yk Γ hyk, fun yk' Γ' h => ih yk' Γ' h⟩
            refine callsIn_wide.1 (callsIn_of_wp_marks (F := RF none) (n := 0) f1 f2 trivial (wpIn_mono ((exec_sound hm ckok c).1 none 0 w.heap.size W φ _ w hI hG hcx (fun l hl => by cases hl) (.inl rfl) (Nat.le_refl _) b (ofArgs args .e .leaf) d n _ w X e1 d1 n1 hex ⟨⟨φ, Step.refl, enter_env hr _⟩, hsz, [], rfl, List.nodup_nil, fun D hD => by cases hD⟩) fun ex a w' hn => ?_))
            have fin : (∀ id, X ≠ .exit id) → Rl B w.heap.size φ (HP.ov b d).get w fn.ntmps e1 (HP.ov b d1).get a w' → LeavesInM (RF none) 0 P fn a.tmps (CRes B φ (HP.ov b d).get w (HP.ov b d').get v) a.defers .returning w' := fun hX hrl => by
              obtain ⟨ψ, hs, hE⟩ := hrl.ex
              obtain ⟨ms, m1, m2, m3⟩ := hrl.df
              have hres : ∃ l, resAll e1 (HP.ov b d1).get rs = some l ∧ v = packR l ∧ d' = d1 := by
                split at hcall
                · exact (hX _ rfl).elim
                · split at hcall
                  · rename_i l hl
                    injection hcall with y1 y2 y3
                    exact ⟨l, hl, y1.symm, y2.symm⟩
                  · cases hcall
              obtain ⟨l, hl, rfl, rfl⟩ := hres
              rw [m1]
              refine leave_marks hI ms w' hs m2 m3 fun w2 hs2 => ?_
              obtain ⟨u, r1, r2⟩ := results_sound (hs2.2.1 _ hI) hE f4 hl
              exact ⟨u, r1, u, ψ, rfl, hs2, r2⟩
            cases ex with
            | normal => obtain ⟨rfl, hrl⟩ := hn; exact fin (fun id e => by cases e) hrl
            | ret => obtain ⟨rfl, hrl⟩ := hn; exact fin (fun id e => by cases e) hrl
            | exit id => obtain ⟨rfl, _⟩ := hn; cases hcall
            | goto l => exact hn.elim
            | panic ch => exact hn.elim
            | outgrown => exact hn.elim
          · cases hcall
        · cases hcall
      · cases hcall

/-- A run that begins with nothing. -/
def φN : Gx := ⟨fun _ _ => none, fun _ => none, fun _ => none⟩
theorem inv0 (w : World) : Inv w.heap.size ⟨w, φN⟩ φN (HP.ov .nil .leaf).get w :=
  ⟨Below.refl _ _, Kp.refl _, Gx.le.refl _, fun _ h => (by cases h), Nat.le_refl _, fun _ => ⟨fun _ => rfl, rfl, rfl⟩, fun _ _ _ _ _ _ h => (by cases h)⟩

theorem closed_sound (hm : P.follows .mixedOrders = true) {fuel dp : Nat} {f : FuncId} {v : TV} {d' : DM} {n' : Pos} (hrun : mkCkY (fiOf P Gl) fuel dp noY .nil (.fn f) [] .leaf .e = .ok v d' n') : Callable P f ∧ ∀ w, GlOk Gl P w.heap.size ⟨w, φN⟩ → Calls P f #[] w fun e w' => ∃ u ψ, e = .returned u ∧ Inv w.heap.size ⟨w, φN⟩ ψ (HP.ov .nil d').get w' ∧ RT ψ v u := by
  have noy : ∀ B, YkOk P Gl B noY [] := fun B b j args d n v d' n' h => by cases h
  have callable : Callable P f := by
    cases dp with
    | zero => cases hrun
    | succ dp =>
      simp only [mkCkY] at hrun
      split at hrun
      · rename_i x hx
        obtain ⟨fn, c, rs, f1, f2, f3, f4, _⟩ := fiOf_some hx
        exact ⟨fn, f1, by simp [f2], f3⟩
      · cases hrun
  refine ⟨callable, fun w hG => ?_⟩
  obtain ⟨_, hc⟩ := mkCkY_sound (B := w.heap.size) hm dp noY [] (noy _) _ _ _ _ _ _ _ _ hrun ⟨w, φN⟩ φN w hG (inv0 w) [] trivial (fun q hq => by cases hq)
  refine hc.mono ?_
  rintro e w' ⟨u, ψ, rfl, hs, hr⟩
  exact ⟨u, ψ, rfl, hs.2.1 _ (inv0 w), hr⟩

end
end Go.Proofs.YtdjhicbhegaenaaGreatDoor.Clo
