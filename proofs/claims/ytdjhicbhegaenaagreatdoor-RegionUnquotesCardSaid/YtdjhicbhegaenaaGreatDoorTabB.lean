/- Closed runs: objects that nobody looks at any more are forgotten. Closed runs: calls whose end is known from another run. -/
import Derived.Test.YtdjhicbhegaenaaGreatDoorClpE
import Derived.Test.YtdjhicbhegaenaaGreatDoorFstC
namespace Go.Proofs.YtdjhicbhegaenaaGreatDoor.Clo
open Go Go.RowKit

/-- What a value refers to may be kept. -/
def keepC (K : Pos → Bool) : CV → Bool
  | .ptr k _ _ => K k
  | .sl k _ _ _ _ => K k
  | .emp k => K k
  | .mp k => K k
  | .clo k => K k
  | .ifc k => K k
  | _ => true
def keepCs (K : Pos → Bool) (l : List CV) : Bool := l.all (keepC K)
def keepPs (K : Pos → Bool) (l : List PV) : Bool := l.all fun p => keepCs K p.cells
def keepT (K : Pos → Bool) : TV → Bool
  | .unk => true
  | .pv p => keepCs K p.cells
  | .tup l => keepPs K l
/-- Where only some objects are known. -/
def Gx.keep (φ : Gx) (K : Pos → Bool) : Gx := ⟨fun k g => if K k = true then φ.loc k g else none, fun k => if K k = true then φ.val k else none, fun k => if K k = true then φ.mu k else none⟩

section
variable {P : Program} {Gl : Nat → TypeId → Option Value} {B : Nat} {W : W0} {φ ψ ψ' : Gx} {h h' h'' : Pos → EO} {w w' : World} {K : Pos → Bool}

theorem keep_den {c : CV} (hk : keepC K c = true) {v : Value} (hd : den ψ c = some v) : den (ψ.keep K) c = some v := by
  cases c <;> first
    | exact hd
    | (have hk : K _ = true := hk
       simp only [den, Gx.keep, hk, if_true] at hd ⊢
       exact hd)
theorem keep_dens : ∀ {l : List CV} {vs : List Value}, keepCs K l = true → dens ψ l = some vs → dens (ψ.keep K) l = some vs
  | [], _, _, r => r
  | c :: l, vs, hk, r => by
    simp only [keepCs, List.all_cons, Bool.and_eq_true] at hk
    obtain ⟨v, ws, rfl, h1, h2⟩ := dens_cons r
    exact dens_mk (keep_den hk.1 h1) (keep_dens hk.2 h2)
theorem keep_denP {p : PV} {v : Value} (hk : keepCs K p.cells = true) (r : denP ψ p = some v) : denP (ψ.keep K) p = some v := by
  cases p with
  | one c =>
    simp only [PV.cells, keepCs, List.all_cons, List.all_nil, Bool.and_true] at hk
    exact keep_den hk r
  | agg l =>
    have hk : keepCs K l = true := hk
    simp only [denP] at r ⊢
    cases hd : dens ψ l with
    | none => rw [hd] at r; cases r
    | some vs => rw [hd] at r; rw [keep_dens hk hd]; exact r
theorem keep_denPs : ∀ {l : List PV} {vs : List Value}, keepPs K l = true → denPs ψ l = some vs → denPs (ψ.keep K) l = some vs
  | [], _, _, r => r
  | c :: l, vs, hk, r => by
    simp only [keepPs, List.all_cons, Bool.and_eq_true] at hk
    obtain ⟨v, ws, rfl, h1, h2⟩ := denPs_cons r
    exact denPs_mk (keep_denP hk.1 h1) (keep_denPs hk.2 h2)
theorem keep_RT {t : TV} {v : Value} (hk : keepT K t = true) (r : RT ψ t v) : RT (ψ.keep K) t v := by
  cases t with
  | unk => trivial
  | pv p => exact keep_denP hk r
  | tup l =>
    obtain ⟨vs, h1, h2⟩ := r
    exact ⟨vs, keep_denPs hk h1, h2⟩

/-- The cells of an object mean the same. -/
def Cond (ψ ψ' : Gx) : EO → Prop
  | .row _ _ el len gen _ => ∀ i, i < len → (el.get dch i).m ≤ gen → ∀ c ∈ (el.get dch i).cs, ∀ v, den ψ c = some v → den ψ' c = some v
  | .map es _ => ∀ e ∈ es, (∀ v, denP ψ e.key = some v → denP ψ' e.key = some v) ∧ ∀ v, denP ψ e.val = some v → denP ψ' e.val = some v
  | .mit (some m) _ _ _ => ∀ l, ψ.loc m 0 = some l → ψ'.loc m 0 = some l
  | .mitU m _ _ _ => ∀ l, ψ.loc m 0 = some l → ψ'.loc m 0 = some l
  | .clo _ first caps => (∀ vs, denPs ψ first = some vs → denPs ψ' first = some vs) ∧ ∀ vs, denPs ψ caps = some vs → denPs ψ' caps = some vs
  | .ifc _ u => ∀ v, denP ψ u = some v → denP ψ' u = some v
  | _ => True

theorem ObOk.less {k : Pos} {o : EO} (hl : ∀ g, ψ'.loc k g = ψ.loc k g) (hv : ψ'.val k = ψ.val k) (hm : ψ'.mu k = ψ.mu k) (hc : Cond ψ ψ' o) (ho : ObOk ψ w B k o) : ObOk ψ' w B k o := by
  cases o with
  | none => exact ⟨fun g => (hl g).trans (ho.1 g), hv.trans ho.2.1, hm.trans ho.2.2⟩
  | row e s el len gen fz =>
    obtain ⟨h0, h1, hmm, h2, h3⟩ := ho
    refine ⟨h0, h1, hmm, fun g hg => (hl g).trans (h2 g hg), fun g hg => ?_⟩
    obtain ⟨l, q1, ⟨r1, r2, arr, fr, r3, r4, r5, r6⟩, q3⟩ := h3 g hg
    refine ⟨l, (hl g).trans q1, ⟨r1, r2, arr, fr, r3, r4, r5, fun i hi him => ?_⟩, q3⟩
    obtain ⟨s1, s2, s3⟩ := r6 i hi him
    refine ⟨s1, s2, fun j c hj => ?_⟩
    obtain ⟨v, t1, t2⟩ := s3 j c hj
    exact ⟨v, t1, hc i hi (Nat.le_trans him hg) c (List.mem_of_getElem? hj) v t2⟩
  | map es clock =>
    obtain ⟨h1, l, vs, q1, q2, q3, q4⟩ := ho
    refine ⟨fun g hg => (hl g).trans (h1 g hg), l, vs, (hl 0).trans q1, q2, q3, q4.1, fun i e he => ?_⟩
    obtain ⟨v, t1, t2, t3, t4⟩ := q4.2 i e he
    obtain ⟨c1, c2⟩ := hc e (List.mem_of_getElem? he)
    exact ⟨v, t1, c1 _ t2, c2 _ t3, t4⟩
  | mit m since seen stepped =>
    obtain ⟨h1, l, q1, q2, q3⟩ := ho
    refine ⟨fun g hg => (hl g).trans (h1 g hg), l, (hl 0).trans q1, q2, ?_⟩
    cases m with
    | none => exact q3
    | some m => obtain ⟨l', q4, q5⟩ := q3; exact ⟨l', hc l' q4, q5⟩
  | mitU m since bs st =>
    obtain ⟨h1, l, l', seen, stepped, n, q1, q2, q3, q4, q5, q6, q7⟩ := ho
    exact ⟨fun g hg => (hl g).trans (h1 g hg), l, l', seen, stepped, n, (hl 0).trans q1, q2, hc l' q3, q4, q5, hm.trans q6, q7⟩
  | sit s p =>
    obtain ⟨h1, h2, l, q1, q2, q3⟩ := ho
    exact ⟨fun g hg => (hl g).trans (h1 g hg), h2, l, (hl 0).trans q1, q2, q3⟩
  | clo fn first caps =>
    obtain ⟨h1, a, b, q1, q2, q3⟩ := ho
    exact ⟨fun g => (hl g).trans (h1 g), a, b, hc.1 _ q1, hc.2 _ q2, hv.trans q3⟩
  | ifc t v =>
    obtain ⟨h1, u, q1, q2⟩ := ho
    exact ⟨fun g => (hl g).trans (h1 g), u, hc _ q1, hv.trans q2⟩
  | emp =>
    obtain ⟨h1, a, c, q1⟩ := ho
    exact ⟨fun g => (hl g).trans (h1 g), a, c, hv.trans q1⟩
  | dead => exact fun g l q => ho g l ((hl g).symm.trans q)
  | res => exact fun g l q => ho g l ((hl g).symm.trans q)
  | yld =>
    obtain ⟨h1, l, q1, q2, q3, r, q4⟩ := ho
    exact ⟨fun g hg => (hl g).trans (h1 g hg), l, (hl 0).trans q1, q2, hv.trans q3, r, q4⟩

/-- An object that was there before means what it meant. -/
theorem cond_old (hle : φ.le ψ) (hle' : φ.le ψ') {k : Pos} {o : EO} (ho : ObOk φ w B k o) : Cond ψ ψ' o := by
  have eq1 : ∀ {α : Type} {a b c : Option α} {x v : α}, a = some x → (a = some x → b = some x) → (a = some x → c = some x) → b = some v → c = some v := fun {α a b c x v} h1 h2 h3 h4 => by
    rw [h2 h1] at h4
    injection h4 with h4
    subst h4
    exact h3 h1
  cases o with
  | row e s el len gen fz =>
    intro i hi him c hc v hv
    obtain ⟨h0, h1, hmm, h2, h3⟩ := ho
    obtain ⟨l, q1, ⟨r1, r2, arr, fr, r3, r4, r5, r6⟩, q3⟩ := h3 gen (Nat.le_refl _)
    obtain ⟨s1, s2, s3⟩ := r6 i hi him
    obtain ⟨j, hj⟩ := List.getElem?_of_mem hc
    obtain ⟨u, t1, t2⟩ := s3 j c hj
    exact eq1 t2 (den_mono hle) (den_mono hle') hv
  | map es clock =>
    intro e he
    obtain ⟨h1, l, vs, q1, q2, q3, q4⟩ := ho
    obtain ⟨i, hi⟩ := List.getElem?_of_mem he
    obtain ⟨v, t1, t2, t3, t4⟩ := q4.2 i e hi
    exact ⟨fun u hu => eq1 t2 (denP_mono hle) (denP_mono hle') hu, fun u hu => eq1 t3 (denP_mono hle) (denP_mono hle') hu⟩
  | mit m since seen stepped =>
    cases m with
    | none => trivial
    | some m =>
      obtain ⟨h1, l, q1, q2, l', q4, q5⟩ := ho
      exact fun u hu => eq1 q4 (hle.loc _ _ _) (hle'.loc _ _ _) hu
  | mitU m since bs st =>
    obtain ⟨h1, l, l', seen, stepped, n, q1, q2, q3, q4⟩ := ho
    exact fun u hu => eq1 q3 (hle.loc _ _ _) (hle'.loc _ _ _) hu
  | clo fn first caps =>
    obtain ⟨h1, a, b, q1, q2, q3⟩ := ho
    exact ⟨fun u hu => eq1 q1 (denPs_mono hle) (denPs_mono hle') hu, fun u hu => eq1 q2 (denPs_mono hle) (denPs_mono hle') hu⟩
  | ifc t v =>
    obtain ⟨h1, u, q1, q2⟩ := ho
    exact fun u hu => eq1 q1 (denP_mono hle) (denP_mono hle') hu
  | _ => trivial
/-- Objects that may be kept: what they refer to is kept. -/
def keepO (K : Pos → Bool) : EO → Bool
  | .row _ _ el len _ _ => (List.range len).all fun i => keepCs K (el.get dch i).cs
  | .map es _ => es.all fun e => keepCs K e.key.cells && keepCs K e.val.cells
  | .clo _ first caps => keepPs K first && keepPs K caps
  | .ifc _ u => keepCs K u.cells
  | .emp => true
  | .none => true
  | .dead => true
  | _ => false
theorem cond_keep {o : EO} (hk : keepO K o = true) : Cond ψ (ψ.keep K) o := by
  cases o with
  | row e s el len gen fz =>
    intro i hi him c hc v hv
    simp only [keepO, List.all_eq_true, List.mem_range] at hk
    have := hk i hi
    simp only [keepCs, List.all_eq_true] at this
    exact keep_den (this c hc) hv
  | map es clock =>
    intro e he
    simp only [keepO, List.all_eq_true, Bool.and_eq_true] at hk
    exact ⟨fun v hv => keep_denP (hk e he).1 hv, fun v hv => keep_denP (hk e he).2 hv⟩
  | clo fn first caps =>
    simp only [keepO, Bool.and_eq_true] at hk
    exact ⟨fun v hv => keep_denPs hk.1 hv, fun v hv => keep_denPs hk.2 hv⟩
  | ifc t u => exact fun v hv => keep_denP hk hv
  | mit m _ _ _ => cases hk
  | mitU m _ _ _ => cases hk
  | sit _ _ => cases hk
  | yld => cases hk
  | res => cases hk
  | none => trivial
  | emp => trivial
  | dead => trivial

theorem Step.forget (hI : Inv B W φ h w) (hs : Step B φ h w ψ h' w') (ha : ∀ k, K k = true → h'' k = h' k) (hb : ∀ k, K k = false → h'' k = .none ∧ h k = .none) (hc : ∀ k, K k = true → h' k = h k ∨ keepO K (h' k) = true) : Step B φ h w (ψ.keep K) h'' w' := by
  have kt : ∀ k, K k = true → (∀ g, (ψ.keep K).loc k g = ψ.loc k g) ∧ (ψ.keep K).val k = ψ.val k ∧ (ψ.keep K).mu k = ψ.mu k := fun k hk => by
    exact ⟨fun g => by simp [Gx.keep, hk], by simp [Gx.keep, hk], by simp [Gx.keep, hk]⟩
  have kf : ∀ k, K k = false → (∀ g, (ψ.keep K).loc k g = none) ∧ (ψ.keep K).val k = none ∧ (ψ.keep K).mu k = none := fun k hk => by
    exact ⟨fun g => by simp [Gx.keep, hk], by simp [Gx.keep, hk], by simp [Gx.keep, hk]⟩
  have live : ∀ k, K k = false → (∀ g, φ.loc k g = none) ∧ φ.val k = none ∧ φ.mu k = none := fun k hk => hI.free (hb k hk).2
  have hle : φ.le (ψ.keep K) := by
    refine ⟨fun k g l hl => ?_, fun k v hv => ?_, fun k v hv => ?_⟩
    · cases hk : K k with
      | true => rw [(kt k hk).1 g]; exact hs.1.loc _ _ _ hl
      | false => rw [(live k hk).1 g] at hl; cases hl
    · cases hk : K k with
      | true => rw [(kt k hk).2.1]; exact hs.1.val _ _ hv
      | false => rw [(live k hk).2.1] at hv; cases hv
    · cases hk : K k with
      | true => rw [(kt k hk).2.2]; exact hs.1.mu _ _ hv
      | false => rw [(live k hk).2.2] at hv; cases hv
  refine ⟨hle, fun W' hW => ?_, fun k hk => ?_⟩
  · have J := hs.2.1 W' hW
    refine ⟨J.below, J.kp, hW.le.trans hle, fun k hk => ?_, J.size, fun k => ?_, fun k g l k' g' l' h1 h2 e => ?_⟩
    · cases hK : K k with
      | false => rw [(hb k hK).1] at hk; cases hk
      | true =>
        rw [ha k hK] at hk
        obtain ⟨z1, z2, z3, z4⟩ := J.res k hk
        obtain ⟨t1, t2, t3⟩ := kt k hK
        exact ⟨fun g => (t1 g).trans (z1 g), t2.trans z2, t3.trans z3, fun g l hl => z4 g l ((t1 g).symm.trans hl)⟩
    · cases hK : K k with
      | false =>
        rw [(hb k hK).1]
        exact kf k hK
      | true =>
        rw [ha k hK]
        obtain ⟨t1, t2, t3⟩ := kt k hK
        refine (J.obj k).less t1 t2 t3 ?_
        rcases hc k hK with e | e
        · rw [e]
          exact cond_old hs.1 hle (hW.obj k)
        · exact cond_keep e
    · refine J.sep k g l k' g' l' ?_ ?_ e
      · cases hK : K k with
        | true => rw [(kt k hK).1 g] at h1; exact h1
        | false => rw [(kf k hK).1 g] at h1; cases h1
      · cases hK : K k' with
        | true => rw [(kt k' hK).1 g'] at h2; exact h2
        | false => rw [(kf k' hK).1 g'] at h2; cases h2
  · cases hK : K k with
    | false => rw [(hb k hK).2]; rfl
    | true => rw [ha k hK] at hk; exact hs.2.2 k hk
end
end Go.Proofs.YtdjhicbhegaenaaGreatDoor.Clo
namespace Go.Proofs.YtdjhicbhegaenaaGreatDoor.Clo
open Go Go.RowKit

/-- A call whose end is known: the function, what it is given, the next place; the objects that it looks at; what it gives, what it writes, the next place behind it. -/
structure Ent where
  f : FuncId
  args : List TV
  N : Pos
  L : DM
  v : TV
  d : DM
  n : Pos

def pvEq (a b : PV) : Bool := tvEq (.pv a) (.pv b)
def pvsEq : List PV → List PV → Bool
  | [], [] => true
  | a :: l, b :: m => bif pvEq a b then pvsEq l m else false
  | _, _ => false
def tvEqT : TV → TV → Bool
  | .pv a, .pv b => pvEq a b
  | .tup l, .tup m => pvsEq l m
  | _, _ => false
def tvsEq : List TV → List TV → Bool
  | [], [] => true
  | a :: l, b :: m => bif tvEqT a b then tvsEq l m else false
  | _, _ => false
def fzEq : Fz → Fz → Bool
  | .no, .no => true
  | .out, .out => true
  | .yes, .yes => true
  | _, _ => false
def ptEq : PT Ch → PT Ch → Bool
  | .leaf, .leaf => true
  | .node l a r, .node l' a' r' => bif cvsEq a.cs a'.cs && Nat.beq a.m a'.m then (bif ptEq l l' then ptEq r r' else false) else false
  | _, _ => false
def mesEq : List ME → List ME → Bool
  | [], [] => true
  | a :: l, b :: m => bif pvEq a.key b.key && pvEq a.val b.val && Nat.beq a.born b.born then mesEq l m else false
  | _, _ => false
def eoEq : EO → EO → Bool
  | .row e s el len gen fz, .row e' s' el' len' gen' fz' => Nat.beq e e' && Nat.beq s s' && ptEq el el' && Nat.beq len len' && Nat.beq gen gen' && fzEq fz fz'
  | .map es c, .map es' c' => mesEq es es' && Nat.beq c c'
  | .ifc t u, .ifc t' u' => Nat.beq t t' && pvEq u u'
  | .emp, .emp => true
  | _, _ => false
/-- Each object lies where it is looked for. -/
def matD (h : Pos → EO) : DM → (Pos → Pos) → Bool
  | .leaf, _ => true
  | .node l a r, c => (match a with
      | none => true
      | some o => eoEq (h (c .e)) o) && matD h l (fun p => c (.o p)) && matD h r (fun p => c (.i p))
/-- Nothing lies from a place on. -/
def topD (N : Nat) : DM → Nat → Nat → Bool
  | .leaf, _, _ => true
  | .node l a r, v, w => (match a with
      | none => true
      | some o => match o with
        | .none => true
        | _ => Nat.blt v N) && topD N l (Nat.add v w) (Nat.mul 2 w) && topD N r (Nat.add v (Nat.mul 2 w)) (Nat.mul 2 w)
def topH (N : Nat) : HP → Bool
  | .nil => true
  | .ov b d => topD N d 0 1 && topH N b
  | .cut b n => match Nat.ble n.num N with
    | true => true
    | false => topH N b
def cmpA (N : Nat) (a a' : Option EO) (v : Nat) : Bool := match a' with
  | some o' => match a with
    | some o => eoEq o o'
    | none => false
  | none => match a with
    | some _ => Nat.ble N v
    | none => true
/-- What was written is what is said, but for new objects that are forgotten. -/
def cmpD (N : Nat) : DM → DM → Nat → Nat → Bool
  | .leaf, t, _, _ => match t with
    | .leaf => true
    | .node _ _ _ => false
  | .node l a r, t, v, w => match t with
    | .leaf => cmpA N a none v && cmpD N l .leaf (Nat.add v w) (Nat.mul 2 w) && cmpD N r .leaf (Nat.add v (Nat.mul 2 w)) (Nat.mul 2 w)
    | .node l' a' r' => cmpA N a a' v && cmpD N l l' (Nat.add v w) (Nat.mul 2 w) && cmpD N r r' (Nat.add v (Nat.mul 2 w)) (Nat.mul 2 w)
def allE (f : EO → Bool) : DM → Bool
  | .leaf => true
  | .node l a r => (match a with
      | none => true
      | some o => f o) && allE f l && allE f r
def keepK (e : Ent) (k : Pos) : Bool := Nat.blt k.num e.N.num || (match PM.get none e.d k with | some _ => true | none => false)
def chkEnt (e : Ent) (v : TV) (d : DM) (n : Pos) : Bool := tvEqT v e.v && n.beq e.n && cmpD e.N.num d e.d 0 1 && allE (keepO (keepK e)) e.d && keepT (keepK e) e.v
noncomputable def runEnt (tb : Tb) (fi : FuncId → Option Fi) (fuel dp : Nat) (e : Ent) (r : HP) : Bool := RC.rec (motive := fun _ => Bool) false (fun v d n => chkEnt e v d n) (mkR tb fi fuel dp noY (.ov (.cut r e.N) e.L) (.fn e.f) e.args .leaf e.N)
noncomputable def bR (t : Bool) (a : RC) : RC := Bool.rec (motive := fun _ => RC) .no a t
noncomputable def hitE (e : Ent) : Tb := fun f b args d n => bR (Nat.beq f e.f) (bR (n.beq e.N) (bR (tvsEq args e.args) (bR (matD (hG (.ov b d)) e.L id) (bR (topH e.N.num (.ov b d)) (.ok e.v (mergeD e.d d) e.n)))))
noncomputable def tbCons (e : Ent) (tb : Tb) : Tb := fun f b args d n => orRC (hitE e f b args d n) (tb f b args d n)

theorem pvEq_eq {a b : PV} (h : pvEq a b = true) : a = b := by
  have := tvEq_eq (a := .pv a) (b := .pv b) h
  injection this
theorem pvsEq_eq : ∀ {l m : List PV}, pvsEq l m = true → l = m
  | [], [], _ => rfl
  | a :: l, b :: m, h => by
    simp only [pvsEq, Bool.cond_eq_ite] at h
    split at h
    · rename_i h1
      rw [pvEq_eq h1, pvsEq_eq h]
    · cases h
  | [], _ :: _, h => by cases h
  | _ :: _, [], h => by cases h
theorem tvEqT_eq {a b : TV} (h : tvEqT a b = true) : a = b := by
  cases a with
  | unk => cases b <;> cases h
  | pv a => cases b with
    | pv b => rw [pvEq_eq h]
    | _ => cases h
  | tup a => cases b with
    | tup b => rw [pvsEq_eq h]
    | _ => cases h
theorem tvsEq_eq : ∀ {l m : List TV}, tvsEq l m = true → l = m
  | [], [], _ => rfl
  | a :: l, b :: m, h => by
    simp only [tvsEq, Bool.cond_eq_ite] at h
    split at h
    · rename_i h1
      rw [tvEqT_eq h1, tvsEq_eq h]
    · cases h
  | [], _ :: _, h => by cases h
  | _ :: _, [], h => by cases h
theorem ptEq_eq : ∀ {a b : PT Ch}, ptEq a b = true → a = b
  | .leaf, .leaf, _ => rfl
  | .node l a r, .node l' a' r', h => by
    simp only [ptEq, Bool.cond_eq_ite] at h
    split at h
    · rename_i h1
      simp only [Bool.and_eq_true] at h1
      split at h
      · rename_i h2
        obtain ⟨cs, m⟩ := a
        obtain ⟨cs', m'⟩ := a'
        have e1 : cs = cs' := cvsEq_eq h1.1
        have e2 : m = m' := Nat.eq_of_beq_eq_true h1.2
        rw [ptEq_eq h2, ptEq_eq h, e1, e2]
      · cases h
    · cases h
  | .leaf, .node _ _ _, h => by cases h
  | .node _ _ _, .leaf, h => by cases h
theorem mesEq_eq : ∀ {l m : List ME}, mesEq l m = true → l = m
  | [], [], _ => rfl
  | a :: l, b :: m, h => by
    simp only [mesEq, Bool.cond_eq_ite] at h
    split at h
    · rename_i h1
      simp only [Bool.and_eq_true] at h1
      obtain ⟨k, v, n⟩ := a
      obtain ⟨k', v', n'⟩ := b
      have e1 : k = k' := pvEq_eq h1.1.1
      have e2 : v = v' := pvEq_eq h1.1.2
      have e3 : n = n' := Nat.eq_of_beq_eq_true h1.2
      rw [mesEq_eq h, e1, e2, e3]
    · cases h
  | [], _ :: _, h => by cases h
  | _ :: _, [], h => by cases h
theorem eoEq_eq {a b : EO} (h : eoEq a b = true) : a = b := by
  cases a <;> cases b <;> first | (cases h; done) | skip
  · simp only [eoEq, Bool.and_eq_true] at h
    obtain ⟨⟨⟨⟨⟨h1, h2⟩, h3⟩, h4⟩, h5⟩, h6⟩ := h
    rename_i f1 _ _ _ _ _ f2
    have e6 : f1 = f2 := by cases f1 <;> cases f2 <;> first | rfl | cases h6
    rw [Nat.eq_of_beq_eq_true h1, Nat.eq_of_beq_eq_true h2, ptEq_eq h3, Nat.eq_of_beq_eq_true h4, Nat.eq_of_beq_eq_true h5, e6]
  · simp only [eoEq, Bool.and_eq_true] at h
    rw [mesEq_eq h.1, Nat.eq_of_beq_eq_true h.2]
  · simp only [eoEq, Bool.and_eq_true] at h
    rw [Nat.eq_of_beq_eq_true h.1, pvEq_eq h.2]
  · rfl
theorem matD_get {h : Pos → EO} : ∀ {d : DM} {c : Pos → Pos}, matD h d c = true → ∀ k o, PM.get none d k = some o → h (c k) = o
  | .leaf, _, _, k, o, hk => by cases hk
  | .node l a r, c, hm, k, o, hk => by
    simp only [matD, Bool.and_eq_true] at hm
    cases k with
    | e =>
      have hk : a = some o := hk
      rw [hk] at hm
      exact eoEq_eq hm.1.1
    | o k => exact matD_get hm.1.2 k o hk
    | i k => exact matD_get hm.2 k o hk
theorem topD_get {N : Nat} : ∀ {d : DM} {v w : Nat}, topD N d v w = true → ∀ k o, PM.get none d k = some o → o = .none ∨ v + w * k.num < N
  | .leaf, _, _, _, k, o, hk => by cases hk
  | .node l a r, v, w, hm, k, o, hk => by
    simp only [topD, Bool.and_eq_true] at hm
    cases k with
    | e =>
      have hk : a = some o := hk
      rw [hk] at hm
      cases o with
      | none => exact .inl rfl
      | _ => exact .inr (by have := blt_t.1 hm.1.1; simpa [Pos.num] using this)
    | o k =>
      rcases topD_get hm.1.2 k o hk with q | q
      · exact .inl q
      · refine .inr ?_
        have e1 : Nat.add v w = v + w := rfl
        have e2 : Nat.mul 2 w = 2 * w := rfl
        rw [e1, e2] at q
        simp only [Pos.num]
        have : w * (2 * k.num + 1) = w + 2 * w * k.num := by rw [Nat.mul_add, Nat.mul_one, ← Nat.mul_assoc, Nat.mul_comm w 2, Nat.add_comm]
        omega
    | i k =>
      rcases topD_get hm.2 k o hk with q | q
      · exact .inl q
      · refine .inr ?_
        have e1 : Nat.add v (Nat.mul 2 w) = v + 2 * w := rfl
        have e2 : Nat.mul 2 w = 2 * w := rfl
        rw [e1, e2] at q
        simp only [Pos.num]
        have : w * (2 * k.num + 2) = 2 * w + 2 * w * k.num := by rw [Nat.mul_add, ← Nat.mul_assoc, Nat.mul_comm w 2, Nat.add_comm]
        omega
theorem topH_get {N : Nat} : ∀ {b : HP}, topH N b = true → ∀ k : Pos, N ≤ k.num → b.get k = .none
  | .nil, _, _, _ => rfl
  | .ov b d, hm, k, hk => by
    simp only [topH, Bool.and_eq_true] at hm
    simp only [HP.get]
    cases hd : PM.get none d k with
    | none => exact topH_get hm.2 k hk
    | some o =>
      rcases topD_get hm.1 k o hd with q | q
      · exact q
      · omega
  | .cut b n, hm, k, hk => by
    simp only [HP.get]
    split
    · rename_i hlt
      simp only [topH] at hm
      split at hm
      · rename_i hle
        have h1 := blt_t.1 hlt
        have h2 := ble_t.1 hle
        omega
      · exact topH_get (b := b) hm k hk
    · rfl
theorem cmpA_eq {N : Nat} {a a' : Option EO} {v : Nat} (h : cmpA N a a' v = true) : a' = a ∨ (a' = none ∧ N ≤ v) := by
  cases a' with
  | some o' => cases a with
    | some o => exact .inl (by rw [eoEq_eq h])
    | none => cases h
  | none => cases a with
    | some o => exact .inr ⟨rfl, ble_t.1 h⟩
    | none => exact .inl rfl
theorem cmpD_get {N : Nat} : ∀ {d t : DM} {v w : Nat}, cmpD N d t v w = true → ∀ k, PM.get none t k = PM.get none d k ∨ (PM.get none t k = none ∧ N ≤ v + w * k.num)
  | .leaf, t, v, w, hm, k => by
    cases t with
    | leaf => exact .inl rfl
    | node _ _ _ => cases hm
  | .node l a r, t, v, w, hm, k => by
    have key : ∀ (l' r' : DM) (a' : Option EO), cmpA N a a' v = true → cmpD N l l' (Nat.add v w) (Nat.mul 2 w) = true → cmpD N r r' (Nat.add v (Nat.mul 2 w)) (Nat.mul 2 w) = true → PM.get none (.node l' a' r') k = PM.get none (.node l a r) k ∨ (PM.get none (.node l' a' r') k = none ∧ N ≤ v + w * k.num) := fun l' r' a' h1 h2 h3 => by
      cases k with
      | e =>
        rcases cmpA_eq h1 with q | q
        · exact .inl q
        · exact .inr ⟨q.1, by simpa [Pos.num] using q.2⟩
      | o k =>
        rcases cmpD_get h2 k with q | q
        · exact .inl q
        · refine .inr ⟨q.1, ?_⟩
          have q := q.2
          have e1 : Nat.add v w = v + w := rfl
          have e2 : Nat.mul 2 w = 2 * w := rfl
          rw [e1, e2] at q
          simp only [Pos.num]
          have : w * (2 * k.num + 1) = w + 2 * w * k.num := by rw [Nat.mul_add, Nat.mul_one, ← Nat.mul_assoc, Nat.mul_comm w 2, Nat.add_comm]
          omega
      | i k =>
        rcases cmpD_get h3 k with q | q
        · exact .inl q
        · refine .inr ⟨q.1, ?_⟩
          have q := q.2
          have e1 : Nat.add v (Nat.mul 2 w) = v + 2 * w := rfl
          have e2 : Nat.mul 2 w = 2 * w := rfl
          rw [e1, e2] at q
          simp only [Pos.num]
          have : w * (2 * k.num + 2) = 2 * w + 2 * w * k.num := by rw [Nat.mul_add, ← Nat.mul_assoc, Nat.mul_comm w 2, Nat.add_comm]
          omega
    cases t with
    | leaf =>
      simp only [cmpD, Bool.and_eq_true] at hm
      have := key .leaf .leaf none hm.1.1 hm.1.2 hm.2
      have e : PM.get none (.node .leaf none .leaf : DM) k = PM.get none (.leaf : DM) k := by cases k <;> rfl
      rw [e] at this
      exact this
    | node l' a' r' =>
      simp only [cmpD, Bool.and_eq_true] at hm
      exact key l' r' a' hm.1.1 hm.1.2 hm.2
theorem allE_get {f : EO → Bool} : ∀ {d : DM}, allE f d = true → ∀ k o, PM.get none d k = some o → f o = true
  | .leaf, _, k, o, hk => by cases hk
  | .node l a r, hm, k, o, hk => by
    simp only [allE, Bool.and_eq_true] at hm
    cases k with
    | e =>
      have hk : a = some o := hk
      rw [hk] at hm
      exact hm.1.1
    | o k => exact allE_get hm.1.2 k o hk
    | i k => exact allE_get hm.2 k o hk
theorem bR_ok {t : Bool} {a : RC} {v : TV} {d : DM} {n : Pos} (h : bR t a = .ok v d n) : t = true ∧ a = .ok v d n := by
  cases t with
  | true => exact ⟨rfl, h⟩
  | false => cases h

section
variable {P : Program} {Gl : Nat → TypeId → Option Value} {B : Nat} {W : W0} {φ φ0 ψ : Gx} {h h0 : Pos → EO} {w w0 : World}
def tbCk (tb : Tb) : Ck := fun b t args d n => match t with
  | .fn f => tb f b args d n
  | .yld _ => .no
def TbOk (P : Program) (Gl : Nat → TypeId → Option Value) (tb : Tb) : Prop := ∀ B Γ, CallOk P Gl B (tbCk tb) Γ
theorem noTb_ok : TbOk P Gl noTb := fun B Γ b t args d n v d' n' h => by cases t <;> cases h

theorem mkT_sound (hm : P.follows .mixedOrders = true) {tb : Tb} (htb : TbOk P Gl tb) {fuel : Nat} : ∀ (dp : Nat) (yk : Yk) (Γ : List Lq), YkOk P Gl B yk Γ → CallOk P Gl B (mkT tb (fiOf P Gl) fuel dp yk) Γ := by
  intro dp
  induction dp with
  | zero =>
    intro yk Γ hyk b t args d n v d' n' hcall
    cases t with
    | yld j => exact hyk b j args d n v d' n' hcall
    | fn f => cases hcall
  | succ dp ih =>
    intro yk Γ hyk b t args d n v d' n' hcall
    cases t with
    | yld j => exact hyk b j args d n v d' n' hcall
    | fn f =>
      simp only [mkT] at hcall
      cases htab : tb f b args d n with
      | ok v1 d1 n1 =>
        rw [htab] at hcall
        exact htb B Γ b (.fn f) args d n v d' n' (htab.trans hcall)
      | no =>
      rw [htab] at hcall
      simp only [orRC] at hcall
      intro W φ w hG hI vs hr hcx
      split at hcall
      · rename_i x hx
        obtain ⟨fn, c, rs, f1, f2, f3, f4, rfl⟩ := fiOf_some hx
        simp only at hcall
        split at hcall
        · rename_i hle
          have hle := ble_t.1 hle
          have hlen := hr.len
          refine ⟨⟨fn, f1, by simp [f2], f3⟩, ?_⟩
          unfold retR at hcall
          split at hcall
          · rename_i X e1 d1 n1 hex
            have hsz : (vs.toArray ++ Array.replicate (fn.ntmps - vs.toArray.size) undef).size = fn.ntmps := by
              simp
              omega
            have ckok : CkOk P Gl B (ckOf (mkT tb (fiOf P Gl) fuel dp) yk) Γ := ⟨ih yk Γ hyk, fun yk' Γ' h => ih yk' Γ' h⟩
            refine callsIn_wide.1 (callsIn_of_wp_marks (F := RF none) (n := 0) f1 f2 trivial (wpIn_mono ((exec_sound hm ckok c).1 none 0 w.heap.size W φ _ w hI hG hcx (fun l hl => by cases hl) (.inl rfl) (Nat.le_refl _) b (ofArgs args .e .leaf) d n _ w X e1 d1 n1 hex ⟨⟨φ, Step.refl, enter_env hr _⟩, hsz, [], rfl, List.nodup_nil, fun D hD => by cases hD⟩) fun ex a w' hn => ?_))
            have fin : (∀ id, X ≠ .exit id) → Rl B w.heap.size φ (HP.ov b d).get w fn.ntmps e1 (HP.ov b d1).get a w' → LeavesInM (RF none) 0 P fn a.tmps (CRes B φ (HP.ov b d).get w (HP.ov b d').get v) a.defers .returning w' := fun hX hrl => by
              obtain ⟨ψ, hs, hE⟩ := hrl.ex
              obtain ⟨ms, m1, m2, m3⟩ := hrl.df
              have hres : ∃ l, resAll e1 (HP.ov b d1).get rs = some l ∧ v = packR l ∧ d' = d1 := by
                split at hcall
                · exact (hX _ rfl).elim
                · split at hcall
                  · rename_i l hl
                    injection hcall with y1 y2 y3
                    exact ⟨l, hl, y1.symm, y2.symm⟩
                  · cases hcall
              obtain ⟨l, hl, rfl, rfl⟩ := hres
              rw [m1]
              refine leave_marks hI ms w' hs m2 m3 fun w2 hs2 => ?_
              obtain ⟨u, r1, r2⟩ := results_sound (hs2.2.1 _ hI) hE f4 hl
              exact ⟨u, r1, u, ψ, rfl, hs2, r2⟩
            cases ex with
            | normal => obtain ⟨rfl, hrl⟩ := hn; exact fin (fun id e => by cases e) hrl
            | ret => obtain ⟨rfl, hrl⟩ := hn; exact fin (fun id e => by cases e) hrl
            | exit id => obtain ⟨rfl, _⟩ := hn; cases hcall
            | goto l => exact hn.elim
            | panic ch => exact hn.elim
            | outgrown => exact hn.elim
          · cases hcall
        · cases hcall
      · cases hcall


def EntOk (P : Program) (Gl : Nat → TypeId → Option Value) (tb : Tb) (fuel dp : Nat) (e : Ent) : Prop := ∀ r, runEnt tb (fiOf P Gl) fuel dp e r = true
theorem noY_ok {Γ : List Lq} : YkOk P Gl B noY Γ := fun b j args d n v d' n' h => by cases h

theorem tbCons_ok (hm : P.follows .mixedOrders = true) {tb tb' : Tb} (htb : TbOk P Gl tb) {fuel dp : Nat} {e : Ent} (he : EntOk P Gl tb fuel dp e) (htb' : TbOk P Gl tb') : TbOk P Gl (tbCons e tb') := by
  intro B Γ b t args d n v d' n' hcall
  cases t with
  | yld j => cases hcall
  | fn f =>
    simp only [tbCk, tbCons] at hcall
    cases hh : hitE e f b args d n with
    | no =>
      rw [hh] at hcall
      exact htb' B Γ b (.fn f) args d n v d' n' hcall
    | ok v0 d0 n0 =>
      rw [hh] at hcall
      simp only [orRC] at hcall
      injection hcall with c1 c2 c3
      subst c1; subst c2; subst c3
      obtain ⟨k1, hh⟩ := bR_ok hh
      obtain ⟨k2, hh⟩ := bR_ok hh
      obtain ⟨k3, hh⟩ := bR_ok hh
      obtain ⟨k4, hh⟩ := bR_ok hh
      obtain ⟨k5, hh⟩ := bR_ok hh
      injection hh with g1 g2 g3
      have ef := Nat.eq_of_beq_eq_true k1
      have en := Pos.beq_iff.1 k2
      have ea := tvsEq_eq k3
      subst ef; subst en; subst ea
      intro W φ w hGl hI vs hr hcx
      have hrun := he (.ov b d)
      unfold runEnt at hrun
      cases hmk : mkR tb (fiOf P Gl) fuel dp noY (.ov (.cut (.ov b d) e.N) e.L) (.fn e.f) e.args .leaf e.N with
      | no => rw [hmk] at hrun; cases hrun
      | ok v1 d1 n1 =>
        rw [hmk] at hrun
        simp only [chkEnt, Bool.and_eq_true] at hrun
        obtain ⟨⟨⟨⟨r1, r2⟩, r3⟩, r4⟩, r5⟩ := hrun
        have ev := tvEqT_eq r1
        subst ev
        rw [mkR_eq] at hmk
        have hG' : hG (.ov b d) = (HP.ov b d).get := funext fun k => hG_eq _ k
        rw [hG'] at k4
        have hbase : (HP.ov (.cut (.ov b d) e.N) e.L).get = (HP.ov b d).get := by
          funext k
          show (match PM.get none e.L k with | some o => o | none => (HP.cut (.ov b d) e.N).get k) = _
          cases hl : PM.get none e.L k with
          | some o => exact (matD_get k4 k o hl).symm
          | none =>
            show (match Nat.blt k.num e.N.num with | true => (HP.ov b d).get k | false => .none) = _
            cases hb : Nat.blt k.num e.N.num with
            | true => rfl
            | false =>
              refine (topH_get k5 k ?_).symm
              exact Nat.le_of_not_lt fun q => by rw [blt_t.2 q] at hb; cases hb
        have h0 : (HP.ov (.ov (.cut (.ov b d) e.N) e.L) .leaf).get = (HP.ov b d).get := by
          rw [← hbase]
          funext k
          rfl
        have call := mkT_sound (B := B) hm htb dp noY Γ noY_ok _ _ _ _ _ _ _ _ hmk W φ w hGl (by rw [h0]; exact hI) vs hr hcx
        rw [h0] at call
        refine ⟨call.1, call.2.mono ?_⟩
        rintro x w' ⟨u, ψ, rfl, hs, hru⟩
        have hd1 : ∀ k, (HP.ov (.ov (.cut (.ov b d) e.N) e.L) d1).get k = match PM.get none d1 k with | some o => o | none => (HP.ov b d).get k := fun k => by
          show (match PM.get none d1 k with | some o => o | none => (HP.ov (.cut (.ov b d) e.N) e.L).get k) = _
          rw [hbase]
        have hd2 : ∀ k, (HP.ov b d0).get k = match PM.get none e.d k with | some o => o | none => (HP.ov b d).get k := fun k => by
          rw [← g2, HP.get_merge]
          rfl
        have kf : ∀ k, keepK e k = false → e.N.num ≤ k.num ∧ PM.get none e.d k = none := fun k hk => by
          simp only [keepK, Bool.or_eq_false_iff] at hk
          have hk1 := hk.1
          refine ⟨Nat.le_of_not_lt fun q => (by rw [blt_t.2 q] at hk1; cases hk1), ?_⟩
          have := hk.2
          cases hp : PM.get none e.d k with
          | none => rfl
          | some o => rw [hp] at this; cases this
        have same : ∀ k, keepK e k = true → PM.get none e.d k = PM.get none d1 k := fun k hk => by
          rcases cmpD_get r3 k with q | ⟨q1, q2⟩
          · exact q
          · exfalso
            simp only [keepK, q1, Bool.or_false] at hk
            have := blt_t.1 hk
            omega
        refine ⟨u, ψ.keep (keepK e), rfl, Step.forget hI hs (fun k hk => ?_) (fun k hk => ?_) (fun k hk => ?_), ?_⟩
        · rw [hd1, hd2, same k hk]
        · obtain ⟨q1, q2⟩ := kf k hk
          have := topH_get k5 k q1
          refine ⟨?_, this⟩
          rw [hd2, q2]
          exact this
        · rw [hd1]
          cases hp : PM.get none d1 k with
          | none => exact .inl rfl
          | some o =>
            refine .inr (allE_get r4 k o ?_)
            rw [same k hk, hp]
        · rw [← g1]
          exact keep_RT r5 hru

/-- A run that begins with nothing, with calls whose end is known. -/
theorem closedT_sound (hm : P.follows .mixedOrders = true) {tb : Tb} (htb : TbOk P Gl tb) {fuel dp : Nat} {f : FuncId} {v : TV} {d' : DM} {n' : Pos} (hrun : mkR tb (fiOf P Gl) fuel dp noY .nil (.fn f) [] .leaf .e = .ok v d' n') : ∀ w, GlOk Gl P w.heap.size ⟨w, φN⟩ → Callable P f ∧ Calls P f #[] w fun e w' => ∃ u ψ, e = .returned u ∧ Inv w.heap.size ⟨w, φN⟩ ψ (HP.ov .nil d').get w' ∧ RT ψ v u := by
  rw [mkR_eq] at hrun
  intro w hGl
  obtain ⟨hcall, hc⟩ := mkT_sound (B := w.heap.size) hm htb dp noY [] noY_ok _ _ _ _ _ _ _ _ hrun ⟨w, φN⟩ φN w hGl (inv0 w) [] trivial (fun q hq => by cases hq)
  refine ⟨hcall, hc.mono ?_⟩
  rintro e w' ⟨u, ψ, rfl, hs, hr⟩
  exact ⟨u, ψ, rfl, hs.2.1 _ (inv0 w), hr⟩
end
end Go.Proofs.YtdjhicbhegaenaaGreatDoor.Clo
