/- Closed runs: regions whose order is open, what their operations did, and that the order does not matter. Closed runs: regions whose order is open are sound. Closed runs: a region is sound. Closed runs: loops over maps, a round. -/
import Derived.Test.YtdjhicbhegaenaaGreatDoorCloV
import Derived.Maps.RangeRun
namespace Go.Proofs.YtdjhicbhegaenaaGreatDoor.Clo
open Go Go.RowKit

/-- What an operation did. -/
inductive Dl where
  | op (dst : Option Pos) (out : TV) (wr : Option (Pos × EO))
  | call (dst : Option Pos) (out : TV) (lay : DM)
def Dl.dst : Dl → Option Pos
  | .op d _ _ => d
  | .call d _ _ => d
def Dl.out : Dl → TV
  | .op _ o _ => o
  | .call _ o _ => o
def Dl.dm : Dl → DM → DM
  | .op _ _ wr, d => setW d wr
  | .call _ _ lay, d => mergeD lay d
def Dl.wrote : Dl → Pos → Option EO
  | .op _ _ wr, k => match wr with
    | some (k', o) => if k' = k then some o else none
    | none => none
  | .call _ _ lay, k => PM.get none lay k
structure St where
  e : Env
  d : DM
def Dl.app (x : Dl) (s : St) : St := ⟨setD s.e x.dst x.out, x.dm s.d⟩
def orE (a : Option EO) (b : EO) : EO := match a with | some o => o | none => b
theorem Dl.dm_get (b : HP) (x : Dl) (d : DM) (k : Pos) : (HP.ov b (x.dm d)).get k = orE (x.wrote k) ((HP.ov b d).get k) := by
  cases x with
  | op dst out wr =>
    simp only [Dl.dm, Dl.wrote]
    rw [setW_get]
    cases wr with
    | none => rfl
    | some p =>
      obtain ⟨k', o⟩ := p
      simp only [updO, upd]
      by_cases e : k' = k
      · simp [e, orE]
      · simp [e, orE]
  | call dst out lay =>
    simp only [Dl.dm, Dl.wrote]
    rw [HP.get_merge]
    simp only [HP.get]
    cases PM.get none lay k <;> rfl
theorem Dl.e_get (x : Dl) (e : Env) (t : Pos) : (setD e x.dst x.out).get .unk t = if x.dst = some t then x.out else e.get .unk t := by
  unfold setD
  cases x.dst with
  | none => simp
  | some d =>
    simp only [PM.get_set, upd, Option.some.injEq]

/-- What is done of the first operations: those of D. -/
def stT (ds : List Dl) (D : Nat → Bool) (s : St) : Nat → St
  | 0 => s
  | m + 1 => match D m with
    | true => match ds[m]? with
      | some x => x.app (stT ds D s m)
      | none => stT ds D s m
    | false => stT ds D s m
def allT : Nat → Bool := fun _ => true

/-- The place of a new object. -/
def alO : OP → Bool
  | .op _ al => al
  | _ => false
def rI : List OP → Pos → Nat → Pos
  | _, r, 0 => r
  | [], r, _ => r
  | o :: l, r, i + 1 => rI l (succIf (alO o) r) i

/-- What is known of an operation. -/
def AtT (ck : Callk) (b : HP) (rs : List Pos) (r : Pos) (o : OP) (inf : Inf) (x : Dl) (s : St) : Prop := match o with
  | .op fo al => ∃ out wr, stepF s.e (HP.ov b (clrR al s.d r)).get r fo = some (out, wr) ∧ okW (HP.ov b (clrR al s.d r)).get wr = true ∧ inf = .op (keyOfW wr) (trF s.e (HP.ov b (clrR al s.d r)).get r fo) (freshW al r wr) (qF s.e r fo) out ∧ x = .op fo.dst out wr
  | .call args dst g => (gd s.e g = some true ∧ ∃ t vs out lay n n', enters (HP.ov b s.d).get (valsS s.e args) = some (t, vs) ∧ ck.call (.ov b s.d) t vs .leaf n = .ok out lay n' ∧ noneD lay rs = true ∧ inf = .call (.ov b s.d) lay ∧ x = .call dst out lay) ∨ (gd s.e g = some false ∧ inf = .op none [] true .fail .unk ∧ x = .op dst (.tup []) none)
  | _ => False

theorem stT_all (ds : List Dl) (s1 : St) (m : Nat) : stT ds allT s1 (m + 1) = match ds[m]? with | some x => x.app (stT ds allT s1 m) | none => stT ds allT s1 m := rfl
theorem stT_shift (x : Dl) (ds : List Dl) (s : St) : ∀ m, stT (x :: ds) allT s (m + 1) = stT ds allT (x.app s) m
  | 0 => rfl
  | m + 1 => by
    rw [stT_all, stT_shift x ds s m, stT_all, List.getElem?_cons_succ]

theorem runT_spec {ck : Callk} {b : HP} {rs : List Pos} : ∀ (l : List OP) (e : Env) (d : DM) (r n : Pos) (infs : List Inf) (e' : Env) (d' : DM) (n' : Pos), runT ck b rs l e d r n = .ok infs e' d' n' →
    ∃ ds : List Dl, ds.length = l.length ∧ stT ds allT ⟨e, d⟩ l.length = ⟨e', d'⟩ ∧ ∀ i, i < l.length → ∃ o inf x, l[i]? = some o ∧ infs[i]? = some inf ∧ ds[i]? = some x ∧ AtT ck b rs (rI l r i) o inf x (stT ds allT ⟨e, d⟩ i)
  | [], e, d, r, n, infs, e', d', n', h => by
    simp only [runT] at h
    injection h with h1 h2 h3 h4
    subst h2; subst h3
    exact ⟨[], rfl, rfl, fun i hi => by simp at hi⟩
  | o :: l, e, d, r, n, infs, e', d', n', h => by
    have key : ∀ (x : Dl) (inf : Inf) (r' : Pos) (rest : RT'), AtT ck b rs r o inf x ⟨e, d⟩ → r' = succIf (alO o) r → (∃ n1, rest = runT ck b rs l (setD e x.dst x.out) (x.dm d) r' n1) → consI inf rest = .ok infs e' d' n' →
        ∃ ds : List Dl, ds.length = (o :: l).length ∧ stT ds allT ⟨e, d⟩ (o :: l).length = ⟨e', d'⟩ ∧ ∀ i, i < (o :: l).length → ∃ o' inf x, (o :: l)[i]? = some o' ∧ infs[i]? = some inf ∧ ds[i]? = some x ∧ AtT ck b rs (rI (o :: l) r i) o' inf x (stT ds allT ⟨e, d⟩ i) := by
      intro x inf r' rest hat hr' ⟨n1, hrest⟩ hc
      cases rest with
      | no => simp only [consI] at hc; cases hc
      | ok infs2 e2 d2 n2 =>
        simp only [consI] at hc
        injection hc with c1 c2 c3 c4
        subst c1; subst c2; subst c3; subst c4
        obtain ⟨ds, q1, q2, q3⟩ := runT_spec l _ _ _ _ _ _ _ _ hrest.symm
        refine ⟨x :: ds, by simp [q1], ?_, fun i hi => ?_⟩
        · rw [List.length_cons, stT_shift]
          exact q2
        · cases i with
          | zero => exact ⟨o, inf, x, rfl, rfl, rfl, hat⟩
          | succ i =>
            obtain ⟨o', inf', x', p1, p2, p3, p4⟩ := q3 i (by simpa using hi)
            refine ⟨o', inf', x', by simpa using p1, by simpa using p2, by simpa using p3, ?_⟩
            rw [stT_shift]
            simp only [rI]
            rw [← hr']
            exact p4
    simp only [runT] at h
    split at h
    · rename_i fo al
      split at h
      · rename_i out wr hst
        cases hok : okW (HP.ov b (clrR al d r)).get wr with
        | false => rw [hok] at h; cases h
        | true =>
          rw [hok, cond_true] at h
          exact key (.op fo.dst out wr) _ _ _ ⟨out, wr, hst, hok, rfl, rfl⟩ rfl ⟨_, rfl⟩ h
      · cases h
    · rename_i args dst g
      split at h
      · rename_i hg
        split at h
        · rename_i t vs hen
          split at h
          · rename_i out lay n1 hcall
            cases hno : noneD lay rs with
            | false => rw [hno] at h; cases h
            | true =>
              rw [hno, cond_true] at h
              exact key (.call dst out lay) _ _ _ (.inl ⟨hg, t, vs, out, lay, n, n1, hen, hcall, hno, rfl, rfl⟩) rfl ⟨_, rfl⟩ h
          · cases h
        · cases h
      · rename_i hg
        exact key (.op dst (.tup []) none) _ _ _ (.inr ⟨hg, rfl, rfl⟩) rfl ⟨_, rfl⟩ h
      · cases h
    · cases h

theorem succIf_num (al : Bool) (n : Pos) : (succIf al n).num = n.num + (if al = true then 1 else 0) := by
  cases al with
  | true => simp [succIf, Pos.num_succ]
  | false => simp [succIf]
theorem rI_le : ∀ (l : List OP) (r : Pos) (i : Nat), r.num ≤ (rI l r i).num
  | l, r, 0 => by cases l <;> exact Nat.le_refl _
  | [], r, i + 1 => Nat.le_refl _
  | o :: l, r, i + 1 => by
    simp only [rI]
    have := rI_le l (succIf (alO o) r) i
    rw [succIf_num] at this
    omega
theorem rI_lt (l : List OP) : ∀ (r : Pos) (i j : Nat) (o : OP), l[i]? = some o → alO o = true → i < j → (rI l r i).num < (rI l r j).num := by
  induction l with
  | nil => intro r i j o h; simp at h
  | cons x l ih =>
    intro r i j o h ha hij
    cases j with
    | zero => omega
    | succ j =>
      cases i with
      | zero =>
        simp at h
        subst h
        have h1 := rI_le l (succIf (alO x) r) j
        have h2 := succIf_num (alO x) r
        rw [if_pos ha] at h2
        simp only [rI]
        omega
      | succ i =>
        simp only [rI]
        exact ih _ i j o (by simpa using h) ha (by omega)
theorem rI_inj {l : List OP} {r : Pos} {i j : Nat} {o o' : OP} (h1 : l[i]? = some o) (h2 : l[j]? = some o') (a1 : alO o = true) (a2 : alO o' = true) (e : rI l r i = rI l r j) : i = j := by
  rcases Nat.lt_trichotomy i j with h | h | h
  · have := rI_lt l r i j o h1 a1 h
    rw [e] at this; omega
  · exact h
  · have := rI_lt l r j i o' h2 a2 h
    rw [e] at this; omega

theorem resvD_spec {b : HP} : ∀ (l : List OP) (d : DM) (n : Pos) (rs : List Pos) (d1 : DM) (n1 : Pos), resvD b l d n = some (rs, d1, n1) →
    (∀ k, k ∈ rs → (HP.ov b d).get k = .none ∧ (HP.ov b d1).get k = .res) ∧ (∀ k, k ∉ rs → (HP.ov b d1).get k = (HP.ov b d).get k) ∧ ∀ i o, l[i]? = some o → alO o = true → rI l n i ∈ rs
  | [], d, n, rs, d1, n1, h => by
    simp only [resvD, Option.some.injEq, Prod.mk.injEq] at h
    obtain ⟨rfl, rfl, rfl⟩ := h
    exact ⟨fun k hk => (by cases hk), fun _ _ => rfl, fun i o h => by simp at h⟩
  | o :: l, d, n, rs, d1, n1, h => by
    have skip : alO o = false → resvD b l d n = some (rs, d1, n1) → (∀ k, k ∈ rs → (HP.ov b d).get k = .none ∧ (HP.ov b d1).get k = .res) ∧ (∀ k, k ∉ rs → (HP.ov b d1).get k = (HP.ov b d).get k) ∧ ∀ i o', (o :: l)[i]? = some o' → alO o' = true → rI (o :: l) n i ∈ rs := by
      intro ho hr
      obtain ⟨q1, q2, q3⟩ := resvD_spec l d n rs d1 n1 hr
      refine ⟨q1, q2, fun i o' hi ha => ?_⟩
      cases i with
      | zero => simp at hi; subst hi; rw [ho] at ha; cases ha
      | succ i => simp only [rI, ho]; exact q3 i o' (by simpa using hi) ha
    cases o with
    | call args dst g => exact skip rfl h
    | nxt x dst => exact skip rfl h
    | bad => exact skip rfl h
    | op fo al =>
      cases al with
      | false => exact skip rfl h
      | true =>
        simp only [resvD] at h
        split at h
        · rename_i hn
          split at h
          · rename_i l2 d2 n2 hr
            simp only [Option.some.injEq, Prod.mk.injEq] at h
            obtain ⟨rfl, rfl, rfl⟩ := h
            obtain ⟨q1, q2, q3⟩ := resvD_spec _ _ _ _ _ _ hr
            have hg := HP.get_set b d n .res
            have hnn : n ∉ l2 := fun hm => by
              have := (q1 n hm).1
              rw [hg, upd_self] at this
              cases this
            refine ⟨fun k hk => ?_, fun k hk => ?_, fun i o' hi ha => ?_⟩
            · rcases List.mem_cons.1 hk with rfl | hk
              · refine ⟨hn, ?_⟩
                rw [q2 _ hnn, hg, upd_self]
              · obtain ⟨p1, p2⟩ := q1 k hk
                refine ⟨?_, p2⟩
                rw [hg, upd_ne _ _ (fun e => hnn (by rw [e]; exact hk))] at p1
                exact p1
            · simp only [List.mem_cons, not_or] at hk
              rw [q2 k hk.2, hg, upd_ne _ _ (fun e => hk.1 e.symm)]
            · cases i with
              | zero => exact List.mem_cons_self ..
              | succ i => exact List.mem_cons_of_mem _ (q3 i o' (by simpa using hi) ha)
          · cases h
        · cases h

theorem noneD_mem {d : DM} : ∀ {l : List Pos}, noneD d l = true → ∀ k ∈ l, PM.get none d k = none
  | [], _, k, hk => by cases hk
  | p :: l, h, k, hk => by
    simp only [noneD] at h
    split at h
    · cases h
    · rename_i hp
      rcases List.mem_cons.1 hk with rfl | hk
      · exact hp
      · exact noneD_mem h k hk
theorem memP_iff {k : Pos} : ∀ {l : List Pos}, memP k l = true ↔ k ∈ l
  | [] => by simp [memP]
  | p :: l => by
    simp only [memP, List.mem_cons]
    cases hb : k.beq p with
    | true => simp [Pos.beq_iff.1 hb]
    | false =>
      have : ¬ k = p := fun e => by rw [Pos.beq_iff.2 e] at hb; cases hb
      simp only [cond_false, memP_iff (l := l), this, false_or]

/-- Two operations that do not meet, as the text and as the run have it. -/
def Opn (l : List OP) (infs : List Inf) (p q : Nat) : Prop := ∃ x y a c, l[p]? = some x ∧ l[q]? = some y ∧ tApart x y = true ∧ infs[p]? = some a ∧ infs[q]? = some c ∧ apartI a c = true

/-- All that is known of a region whose order is open. -/
structure Dr (ck : Callk) (b : HP) (rs : List Pos) (l : List OP) (infs : List Inf) (ds : List Dl) (s1 : St) (n : Pos) (bef : Nat → Nat → Prop) : Prop where
  len : ds.length = l.length
  at_ : ∀ i, i < l.length → ∃ o inf x, l[i]? = some o ∧ infs[i]? = some inf ∧ ds[i]? = some x ∧ AtT ck b rs (rI l n i) o inf x (stT ds allT s1 i)
  pair : ∀ p q, p < q → q < l.length → bef p q ∨ Opn l infs p q
  res : ∀ k, k ∈ rs → (HP.ov b s1.d).get k = .res
  al : ∀ i o, l[i]? = some o → alO o = true → rI l n i ∈ rs

section
variable {ck : Callk} {b : HP} {rs : List Pos} {l : List OP} {infs : List Inf} {ds : List Dl} {s1 : St} {n : Pos} {bef : Nat → Nat → Prop}

theorem AtT.dst {r : Pos} {o : OP} {inf : Inf} {x : Dl} {s : St} (h : AtT ck b rs r o inf x s) : x.dst = dstO o := by
  cases o with
  | op fo al => obtain ⟨out, wr, _, _, _, rfl⟩ := h; rfl
  | call args dst g =>
    rcases h with ⟨_, t, vs, out, lay, n, n', _, _, _, _, rfl⟩ | ⟨_, _, rfl⟩ <;> rfl
  | nxt _ _ => exact h.elim
  | bad => exact h.elim

/-- Who writes to a place that is kept: the operation whose place it is. -/
theorem AtT.wres {r : Pos} {o : OP} {inf : Inf} {x : Dl} {s : St} (h : AtT ck b rs r o inf x s) {k : Pos} (hk : k ∈ rs) (hr : (HP.ov b s.d).get k = .res) (hw : x.wrote k ≠ none) : alO o = true ∧ k = r := by
  cases o with
  | op fo al =>
    obtain ⟨out, wr, _, hok, _, rfl⟩ := h
    simp only [Dl.wrote] at hw
    cases wr with
    | none => exact (hw rfl).elim
    | some p =>
      obtain ⟨k', o'⟩ := p
      simp only at hw
      split at hw
      · rename_i e
        subst e
        simp only [okW, Bool.not_eq_true'] at hok
        cases al with
        | false =>
          simp only [clrR] at hok
          rw [hr] at hok
          cases hok
        | true =>
          simp only [clrR] at hok
          rw [HP.get_set] at hok
          by_cases e : r = k'
          · exact ⟨rfl, e.symm⟩
          · rw [upd_ne _ _ e, hr] at hok
            cases hok
      · exact (hw rfl).elim
  | call args dst g =>
    rcases h with ⟨_, t, vs, out, lay, n, n', _, _, hno, _, rfl⟩ | ⟨_, _, rfl⟩
    · exact (hw (noneD_mem hno k hk)).elim
    · exact (hw rfl).elim
  | nxt _ _ => exact h.elim
  | bad => exact h.elim

/-- The places kept for new objects. -/
theorem Dr.kept (h : Dr ck b rs l infs ds s1 n bef) {i : Nat} {o : OP} (hi : l[i]? = some o) (ha : alO o = true) {x : Dl} (hx : ds[i]? = some x) : ∀ m, m ≤ l.length →
    (∀ j y, j < m → ds[j]? = some y → y.wrote (rI l n i) ≠ none → j = i ∨ (i < j ∧ x.wrote (rI l n i) ≠ none)) ∧ ((m ≤ i ∨ x.wrote (rI l n i) = none) → (HP.ov b (stT ds allT s1 m).d).get (rI l n i) = .res)
  | 0, _ => ⟨fun j y hj => by omega, fun _ => h.res _ (h.al i o hi ha)⟩
  | m + 1, hm => by
    obtain ⟨q1, q2⟩ := h.kept hi ha hx m (by omega)
    obtain ⟨om, im, xm, p1, p2, p3, p4⟩ := h.at_ m (by omega)
    have hfst : xm.wrote (rI l n i) ≠ none → m = i ∨ (i < m ∧ x.wrote (rI l n i) ≠ none) := by
      intro hw
      by_cases hc : m ≤ i ∨ x.wrote (rI l n i) = none
      · obtain ⟨a1, a2⟩ := p4.wres (h.al i o hi ha) (q2 hc) hw
        exact .inl (rI_inj p1 hi a1 ha a2.symm)
      · simp only [not_or] at hc
        exact .inr ⟨by omega, hc.2⟩
    refine ⟨fun j y hj hy hw => ?_, fun hc => ?_⟩
    · rcases Nat.lt_or_ge j m with hlt | hge
      · exact q1 j y hlt hy hw
      · have : j = m := by omega
        subst this
        rw [p3] at hy
        injection hy with hy
        subst hy
        exact hfst hw
    · have hres := q2 (hc.imp (fun h => by omega) id)
      rw [stT_all, p3]
      show (HP.ov b (xm.dm _)).get _ = _
      rw [Dl.dm_get]
      cases hw : xm.wrote (rI l n i) with
      | none => exact hres
      | some o' =>
        exfalso
        rcases hfst (by rw [hw]; exact fun e => by cases e) with e | ⟨e1, e2⟩
        · subst e
          rw [hx] at p3
          injection p3 with p3
          subst p3
          rcases hc with hc | hc
          · omega
          · rw [hc] at hw; cases hw
        · rcases hc with hc | hc
          · omega
          · exact e2 hc

/-- What is done is closed under what comes before; one more can be done. -/
structure Nx (l : List OP) (bef : Nat → Nat → Prop) (D : Nat → Bool) (i : Nat) : Prop where
  lt : i < l.length
  not : D i = false
  cl : ∀ q, q < l.length → D q = true → ∀ p, p < l.length → bef p q → D p = true
  pre : ∀ p, p < l.length → bef p i → D p = true
theorem Nx.before {D : Nat → Bool} {i : Nat} (hx : Nx l bef D i) (h : Dr ck b rs l infs ds s1 n bef) {j : Nat} (hj : j < i) (hD : D j = false) : Opn l infs j i := by
  rcases h.pair j i hj hx.lt with hp | hp
  · have := hx.pre j (Nat.lt_trans hj hx.lt) hp; rw [hD] at this; cases this
  · exact hp
theorem Nx.after {D : Nat → Bool} {i : Nat} (hx : Nx l bef D i) (h : Dr ck b rs l infs ds s1 n bef) {j : Nat} (hj : i < j) (hl : j < l.length) (hD : D j = true) : Opn l infs i j := by
  rcases h.pair i j hj hl with hp | hp
  · have := hx.cl j hl hD i hx.lt hp; rw [hx.not] at this; cases this
  · exact hp

theorem tApart_1 {a b : OP} (h : tApart a b = true) {d : Pos} (hd : dstO a = some d) : d ∉ looks b ∧ dstO b ≠ some d := by
  simp only [tApart, hd, Bool.and_eq_true, Bool.not_eq_true'] at h
  refine ⟨fun hm => ?_, fun e => ?_⟩
  · rw [memP_iff.2 hm] at h; cases h.1.1
  · have := h.1.2
    rw [e] at this
    simp only [Pos.beq_iff.2 (rfl : d = d)] at this
    cases this
theorem tApart_2 {a b : OP} (h : tApart a b = true) {d : Pos} (hd : dstO b = some d) : d ∉ looks a ∧ dstO a ≠ some d := by
  refine ⟨fun hm => ?_, fun e => ?_⟩
  · simp only [tApart, hd, Bool.and_eq_true, Bool.not_eq_true'] at h
    rw [memP_iff.2 hm] at h; cases h.2
  · exact (tApart_1 h e).2 hd

/-- The temporaries that an operation looks at. -/
theorem Dr.env (h : Dr ck b rs l infs ds s1 n bef) {D : Nat → Bool} {i : Nat} (hx : Nx l bef D i) {o : OP} (ho : l[i]? = some o) {t : Pos} (ht : t ∈ looks o) : ∀ m, m ≤ l.length → (stT ds D s1 m).e.get .unk t = (stT ds allT s1 (min m i)).e.get .unk t
  | 0, _ => by rw [Nat.zero_min]; rfl
  | m + 1, hm => by
    have ih := h.env hx ho ht m (by omega)
    obtain ⟨om, im, xm, p1, p2, p3, p4⟩ := h.at_ m (by omega)
    rcases Nat.lt_trichotomy m i with hlt | heq | hgt
    · rw [show min (m + 1) i = m + 1 by omega]
      rw [show min m i = m by omega] at ih
      rw [stT_all, p3]
      simp only [stT]
      cases hD : D m with
      | true =>
        simp only [p3, Dl.app, Dl.e_get, ih]
      | false =>
        obtain ⟨x, y, a, c, o1, o2, o3, _⟩ := hx.before h hlt hD
        rw [p1] at o1; injection o1 with o1; subst o1
        rw [ho] at o2; injection o2 with o2; subst o2
        simp only [Dl.app, Dl.e_get, ih]
        rw [if_neg]
        rw [p4.dst]
        intro e
        exact (tApart_1 o3 e).1 ht
    · subst heq
      rw [show min (m + 1) m = m by omega]
      rw [show min m m = m by omega] at ih
      simp only [stT, hx.not]
      exact ih
    · rw [show min (m + 1) i = i by omega]
      rw [show min m i = i by omega] at ih
      simp only [stT]
      cases hD : D m with
      | false => exact ih
      | true =>
        obtain ⟨x, y, a, c, o1, o2, o3, _⟩ := hx.after h hgt (by omega) hD
        rw [p1] at o2; injection o2 with o2; subst o2
        rw [ho] at o1; injection o1 with o1; subst o1
        simp only [p3, Dl.app, Dl.e_get]
        rw [if_neg]
        · exact ih
        · rw [p4.dst]
          intro e
          exact (tApart_2 o3 e).1 ht

/-- An object that an operation looks at. -/
theorem Dr.heap (h : Dr ck b rs l infs ds s1 n bef) {D : Nat → Bool} {i : Nat} (hx : Nx l bef D i) {k : Pos} (Rt : EO → Prop)
    (h1 : ∀ j x o, j < i → D j = false → Opn l infs j i → ds[j]? = some x → x.wrote k = some o → Rt ((HP.ov b (stT ds allT s1 j).d).get k))
    (h2 : ∀ j x o, i < j → j < l.length → D j = true → Opn l infs i j → ds[j]? = some x → x.wrote k = some o → Rt o) : ∀ m, m ≤ l.length → (HP.ov b (stT ds D s1 m).d).get k = (HP.ov b (stT ds allT s1 (min m i)).d).get k ∨ Rt ((HP.ov b (stT ds D s1 m).d).get k)
  | 0, _ => by rw [Nat.zero_min]; exact .inl rfl
  | m + 1, hm => by
    have ih := h.heap hx Rt h1 h2 m (by omega)
    obtain ⟨om, im, xm, p1, p2, p3, p4⟩ := h.at_ m (by omega)
    rcases Nat.lt_trichotomy m i with hlt | heq | hgt
    · rw [show min (m + 1) i = m + 1 by omega]
      rw [show min m i = m by omega] at ih
      rw [stT_all, p3]
      simp only [stT]
      cases hD : D m with
      | true =>
        simp only [p3, Dl.app, Dl.dm_get]
        cases hw : xm.wrote k with
        | some o => exact .inl rfl
        | none => exact ih
      | false =>
        simp only [Dl.app, Dl.dm_get]
        cases hw : xm.wrote k with
        | none => exact ih
        | some o =>
          refine .inr ?_
          rcases ih with ih | ih
          · rw [ih]; exact h1 m xm o hlt hD (hx.before h hlt hD) p3 hw
          · exact ih
    · subst heq
      rw [show min (m + 1) m = m by omega]
      rw [show min m m = m by omega] at ih
      simp only [stT, hx.not]
      exact ih
    · rw [show min (m + 1) i = i by omega]
      rw [show min m i = i by omega] at ih
      simp only [stT]
      cases hD : D m with
      | false => exact ih
      | true =>
        simp only [p3, Dl.app, Dl.dm_get]
        cases hw : xm.wrote k with
        | none => exact ih
        | some o => exact .inr (h2 m xm o hgt (by omega) hD (hx.after h hgt (by omega) hD) p3 hw)

/-- Two operations that do not meet do not write the same. -/
theorem Dr.apartW (h : Dr ck b rs l infs ds s1 n bef) {i j : Nat} (hl : j < l.length) (hi : i < l.length) (ho : Opn l infs i j) {x y : Dl} (hx : ds[i]? = some x) (hy : ds[j]? = some y) {k : Pos} (hw : y.wrote k ≠ none) : x.wrote k = none := by
  obtain ⟨oi, ii, xi, a1, a2, a3, a4⟩ := h.at_ i hi
  obtain ⟨oj, ij, xj, b1, b2, b3, b4⟩ := h.at_ j hl
  obtain ⟨p, q, a, c, o1, o2, o3, o4, o5, o6⟩ := ho
  rw [a1] at o1; injection o1 with o1; subst o1
  rw [b1] at o2; injection o2 with o2; subst o2
  rw [a2] at o4; injection o4 with o4; subst o4
  rw [b2] at o5; injection o5 with o5; subst o5
  rw [a3] at hx; injection hx with hx; subst hx
  rw [b3] at hy; injection hy with hy; subst hy
  have wk : ∀ {dst : Option Pos} {out : TV} {wr : Option (Pos × EO)}, (Dl.op dst out wr).wrote k ≠ none → keyOfW wr = some k := by
    intro dst out wr hw
    cases wr with
    | none => exact (hw rfl).elim
    | some p =>
      simp only [Dl.wrote] at hw
      split at hw
      · rename_i e; simp [keyOfW, e]
      · exact (hw rfl).elim
  cases hcase : xi.wrote k with
  | none => rfl
  | some o =>
    exfalso
    have hwi : xi.wrote k ≠ none := by rw [hcase]; exact fun e => by cases e
    cases oi with
    | op fo al =>
      obtain ⟨out, wr, _, _, rfl, rfl⟩ := a4
      have ki := wk hwi
      cases oj with
      | op fo' al' =>
        obtain ⟨out', wr', _, _, rfl, rfl⟩ := b4
        have kj := wk hw
        simp only [apartI, Bool.and_eq_true, ki, kj, apartK, Bool.not_eq_true'] at o6
        rw [Pos.beq_iff.2 rfl] at o6
        cases o6.2
      | call args dst g =>
        rcases b4 with ⟨_, t, vs, out', lay, n1, n2, _, _, hno, rfl, rfl⟩ | ⟨_, rfl, rfl⟩
        · rw [ki] at o6
          simp only [apartI] at o6
          cases o6
        · exact hw rfl
      | nxt _ _ => exact b4.elim
      | bad => exact b4.elim
    | call args dst g =>
      rcases a4 with ⟨_, t, vs, out, lay, n1, n2, _, _, hno, rfl, rfl⟩ | ⟨_, rfl, rfl⟩
      · cases oj with
        | op fo' al' =>
          obtain ⟨out', wr', _, _, rfl, rfl⟩ := b4
          have kj := wk hw
          rw [kj] at o6
          cases hf : freshW al' (rI l n j) wr' with
          | false => rw [hf] at o6; simp only [apartI] at o6; cases o6
          | true =>
            cases wr' with
            | none => cases kj
            | some p =>
              simp only [keyOfW, Option.some.injEq] at kj
              simp only [freshW, Bool.and_eq_true] at hf
              have e := Pos.beq_iff.1 hf.2
              rw [kj] at e
              have hm := h.al j _ b1 hf.1
              rw [← e] at hm
              exact hwi (noneD_mem hno k hm)
        | call args' dst' g' =>
          rcases b4 with ⟨_, t, vs, out', lay', n1, n2, _, _, hno', rfl, rfl⟩ | ⟨_, rfl, rfl⟩
          · simp only [apartI] at o6; cases o6
          · exact hw rfl
        | nxt _ _ => exact b4.elim
        | bad => exact b4.elim
      · exact hwi rfl
    | nxt _ _ => exact a4.elim
    | bad => exact a4.elim

/-- One more operation is done. -/
theorem Dr.next (h : Dr ck b rs l infs ds s1 n bef) {D D' : Nat → Bool} {i : Nat} (hx : Nx l bef D i) (hD' : ∀ j, j < l.length → D' j = (D j || decide (j = i))) {x : Dl} (hdx : ds[i]? = some x) : ∀ m, m ≤ l.length →
    (∀ t, (stT ds D' s1 m).e.get .unk t = if m ≤ i then (stT ds D s1 m).e.get .unk t else (setD (stT ds D s1 m).e x.dst x.out).get .unk t) ∧ (∀ k, (HP.ov b (stT ds D' s1 m).d).get k = if m ≤ i then (HP.ov b (stT ds D s1 m).d).get k else orE (x.wrote k) ((HP.ov b (stT ds D s1 m).d).get k))
  | 0, _ => ⟨fun t => by rw [if_pos (Nat.zero_le _)]; rfl, fun k => by rw [if_pos (Nat.zero_le _)]; rfl⟩
  | m + 1, hm => by
    obtain ⟨ih1, ih2⟩ := h.next hx hD' hdx m (by omega)
    obtain ⟨om, im, xm, p1, p2, p3, p4⟩ := h.at_ m (by omega)
    rcases Nat.lt_trichotomy m i with hlt | heq | hgt
    · have e : D' m = D m := by rw [hD' m (by omega)]; simp; omega
      refine ⟨fun t => ?_, fun k => ?_⟩
      · have ih := ih1 t
        rw [if_pos (by omega)] at ih ⊢
        simp only [stT, e]
        cases hD : D m with
        | true => simp only [p3, Dl.app, Dl.e_get, ih]
        | false => exact ih
      · have ih := ih2 k
        rw [if_pos (by omega)] at ih ⊢
        simp only [stT, e]
        cases hD : D m with
        | true => simp only [p3, Dl.app, Dl.dm_get, ih]
        | false => exact ih
    · subst heq
      have e : D' m = true := by rw [hD' m (by omega)]; simp
      rw [hdx] at p3
      injection p3 with p3
      subst p3
      refine ⟨fun t => ?_, fun k => ?_⟩
      · have ih := ih1 t
        rw [if_pos (Nat.le_refl _)] at ih
        rw [if_neg (by omega)]
        simp only [stT, e, hx.not, hdx, Dl.app, Dl.e_get, ih]
      · have ih := ih2 k
        rw [if_pos (Nat.le_refl _)] at ih
        rw [if_neg (by omega)]
        simp only [stT, e, hx.not, hdx, Dl.app, Dl.dm_get, ih]
    · have e : D' m = D m := by rw [hD' m (by omega)]; simp; omega
      refine ⟨fun t => ?_, fun k => ?_⟩
      · have ih := ih1 t
        rw [if_neg (by omega)] at ih ⊢
        simp only [stT, e]
        cases hD : D m with
        | false => exact ih
        | true =>
          simp only [p3, Dl.app, Dl.e_get, ih]
          by_cases c1 : xm.dst = some t
          · rw [if_pos c1, if_neg]
            · exact (if_pos c1).symm
            · intro c2
              obtain ⟨oi, ii, xi, a1, a2, a3, a4⟩ := h.at_ i hx.lt
              rw [hdx] at a3; injection a3 with a3; subst a3
              obtain ⟨_, _, _, _, o1, o2, o3, _⟩ := hx.after h hgt (by omega) hD
              rw [a1] at o1; injection o1 with o1; subst o1
              rw [p1] at o2; injection o2 with o2; subst o2
              rw [a4.dst] at c2
              rw [p4.dst] at c1
              exact (tApart_1 o3 c2).2 c1
          · rw [if_neg c1, if_neg c1]
      · have ih := ih2 k
        rw [if_neg (by omega)] at ih ⊢
        simp only [stT, e]
        cases hD : D m with
        | false => exact ih
        | true =>
          simp only [p3, Dl.app, Dl.dm_get, ih]
          cases hw : xm.wrote k with
          | none => rfl
          | some o' =>
            rw [h.apartW (by omega) hx.lt (hx.after h hgt (by omega) hD) hdx p3 (by rw [hw]; exact fun e => by cases e)]
            rfl

end
end Go.Proofs.YtdjhicbhegaenaaGreatDoor.Clo
namespace Go.Proofs.YtdjhicbhegaenaaGreatDoor.Clo
open Go Go.RowKit

theorem befores_len : ∀ (l : List Oper) (acc : List Nat), (befores l acc).length = acc.length + l.length
  | [], acc => by simp [befores]
  | o :: l, acc => by simp [befores, befores_len l]; omega

theorem befores_pre : ∀ (l : List Oper) (acc : List Nat) (i : Nat), i < acc.length → (befores l acc).getD i 0 = acc.getD i 0
  | [], acc, i, _ => by simp [befores]
  | o :: l, acc, i, h => by
    rw [befores, befores_pre l _ i (by simp; omega)]
    simp [List.getD, List.getElem?_append_left h]

theorem foldl_or {acc : List Nat} : ∀ (es : List Edge) (s q : Nat), (es.foldl (fun s e => if Region.binds .any e then s ||| 2 ^ e.on ||| acc.getD e.on 0 else s) s).testBit q = true →
    s.testBit q = true ∨ ∃ e ∈ es, Region.binds .any e = true ∧ (q = e.on ∨ (acc.getD e.on 0).testBit q = true)
  | [], s, q, h => .inl h
  | e :: es, s, q, h => by
    simp only [List.foldl_cons] at h
    rcases foldl_or es _ q h with h1 | ⟨e', he', hb, hq⟩
    · split at h1
      · rename_i hb
        simp only [Nat.testBit_or, Bool.or_eq_true] at h1
        rcases h1 with (h1 | h1) | h1
        · exact .inl h1
        · refine .inr ⟨e, by simp, hb, .inl ?_⟩
          rw [Nat.testBit_two_pow] at h1
          exact (of_decide_eq_true h1).symm
        · exact .inr ⟨e, by simp, hb, .inr h1⟩
      · exact .inl h1
    · exact .inr ⟨e', by simp [he'], hb, hq⟩

theorem befores_spec : ∀ (l : List Oper) (acc : List Nat) (i : Nat) (o : Oper), l[i]? = some o → edgesOk acc.length l = true → ∀ q, ((befores l acc).getD (acc.length + i) 0).testBit q = true →
    ∃ e ∈ o.after.toList, Region.binds .any e = true ∧ (q = e.on ∨ ((befores l acc).getD e.on 0).testBit q = true)
  | [], acc, i, o, h, _, _, _ => by simp at h
  | x :: l, acc, 0, o, h, hok, q, hq => by
    simp at h
    subst h
    simp only [edgesOk, Bool.and_eq_true, List.all_eq_true] at hok
    rw [befores, befores_pre l _ _ (by simp)] at hq
    simp only [Nat.add_zero, List.getD, List.getElem?_append_right (Nat.le_refl _), Nat.sub_self, List.getElem?_cons_zero, Option.getD_some] at hq
    rcases foldl_or _ _ _ hq with h1 | ⟨e, he, hb, hx⟩
    · simp at h1
    · refine ⟨e, he, hb, hx.imp id fun hx => ?_⟩
      have hlt : e.on < acc.length := by have := hok.1 e he; simpa [hb] using this
      rw [befores, befores_pre l _ _ (by simp; omega)]
      have := hlt
      simpa [List.getD, List.getElem?_append_left this] using hx
  | x :: l, acc, i + 1, o, h, hok, q, hq => by
    simp only [edgesOk, Bool.and_eq_true] at hok
    simp at h
    have := befores_spec l (acc ++ [x.after.toList.foldl (fun s e => if Region.binds .any e then s ||| 2 ^ e.on ||| acc.getD e.on 0 else s) 0]) i o h (by simpa using hok.2) q (by
      rw [befores] at hq
      rw [show (acc ++ [x.after.toList.foldl (fun s e => if Region.binds .any e then s ||| 2 ^ e.on ||| acc.getD e.on 0 else s) 0]).length + i = acc.length + (i + 1) by simp; omega]
      exact hq)
    rw [befores]
    exact this


section
variable {P : Program} {ops : Array Oper}
/-- What has been done is closed under what comes before. -/
def DC (ops : Array Oper) (D : Nat → Bool) : Prop := ∀ j, D j = true → ∀ i, ((befores ops.toList []).getD j 0).testBit i = true → D i = true

theorem getD_upd {listed : Array Bool} {i j : Nat} (hi : i < listed.size) : (listed.setIfInBounds i true).getD j false = (listed.getD j false || decide (j = i)) := by
  simp only [Array.getD_eq_getD_getElem?, Array.getElem?_setIfInBounds]
  by_cases h : i = j
  · subst h; simp [hi]
  · have : ¬ j = i := fun e => h e.symm
    simp [h, this]

theorem rep_false (n j : Nat) : (Array.replicate n false).getD j false = false := by
  simp only [Array.getD_eq_getD_getElem?, Array.getElem?_replicate]
  split <;> rfl

theorem ready_facts {listed : Array Bool} (hs : listed.size = ops.size) {i : Nat} (h : i ∈ Region.ready .any ops listed) :
    i < ops.size ∧ listed.getD i false = false ∧ ∃ o, ops[i]? = some o ∧ ∀ e ∈ o.after, Region.binds .any e = true → listed.getD e.on false = true := by
  rw [mem_ready] at h
  obtain ⟨h1, o, ho, h2⟩ := h
  have hlt : i < ops.size := (Array.getElem?_eq_some_iff.1 ho).1
  refine ⟨hlt, ?_, o, ho, h2⟩
  have hl : i < listed.size := by omega
  simpa [Array.getD_eq_getD_getElem?, hl] using h1

theorem dc_next (hed : edgesOk 0 ops.toList = true) {listed : Array Bool} (hs : listed.size = ops.size) (hdc : DC ops (fun j => listed.getD j false)) {i : Nat} (h : i ∈ Region.ready .any ops listed) :
    (∀ q, ((befores ops.toList []).getD i 0).testBit q = true → listed.getD q false = true) ∧ DC ops (fun j => (listed.setIfInBounds i true).getD j false) := by
  obtain ⟨hlt, hDi, o, ho, hpre⟩ := ready_facts hs h
  have hq : ∀ q, ((befores ops.toList []).getD i 0).testBit q = true → listed.getD q false = true := by
    intro q hq
    obtain ⟨e, he, hb, hx⟩ := befores_spec ops.toList [] i o (by simpa using ho) hed q (by simpa using hq)
    have hon := hpre e (by simpa using he) hb
    rcases hx with rfl | hx
    · exact hon
    · exact hdc e.on hon q hx
  refine ⟨hq, fun j hj q hx => ?_⟩
  have hj : (listed.setIfInBounds i true).getD j false = true := hj
  show (listed.setIfInBounds i true).getD q false = true
  rw [getD_upd (by omega)] at hj ⊢
  simp only [Bool.or_eq_true, decide_eq_true_eq] at hj ⊢
  rcases hj with hj | rfl
  · exact .inl (hdc j hj q hx)
  · exact .inl (hq q hx)

/-- While something is not done, something can be done. -/
theorem ready_ne (hed : edgesOk 0 ops.toList = true) {listed : Array Bool} (hs : listed.size = ops.size) (hr : Region.ready .any ops listed = []) : ∀ i, i < ops.size → listed.getD i false = true := by
  intro i
  induction i using Nat.strongRecOn with
  | _ i ih =>
    intro hi
    cases hD : listed.getD i false with
    | true => rfl
    | false =>
      exfalso
      have : i ∈ Region.ready .any ops listed := by
        rw [mem_ready]
        have hl : i < listed.size := by omega
        refine ⟨by simpa [Array.getD_eq_getD_getElem?, hl] using hD, ops[i], by simp [hi], fun e he hbi => ?_⟩
        have hon : e.on < i := by
          have : ∀ (l : List Oper) (k j : Nat) (o : Oper), edgesOk k l = true → l[j]? = some o → ∀ e ∈ o.after.toList, Region.binds .any e = true → e.on < k + j := by
            intro l
            induction l with
            | nil => intro k j o _ h; simp at h
            | cons x l ihl =>
              intro k j o hok h e he hb
              simp only [edgesOk, Bool.and_eq_true, List.all_eq_true] at hok
              cases j with
              | zero =>
                simp at h
                subst h
                have := hok.1 e he
                simpa [hb] using this
              | succ j =>
                simp at h
                have := ihl (k + 1) j o hok.2 h e he hb
                omega
          have := this ops.toList 0 i ops[i] hed (by simp [hi]) e (by simpa using he) hbi
          omega
        exact ih e.on hon (by omega)
      rw [hr] at this
      cases this

theorem wpAny_full {ro : Option Nat} {n : Nat} {Q : Exit → Act → World → Prop} {listed : Array Bool} (h : Region.ready .any ops listed = []) {a : Act} {w : World} (hQ : Q .normal a w) : ∀ fuel, wpAnyIn (RF ro) n P .any ops Q fuel listed a w
  | 0 => ⟨h, hQ⟩
  | _ + 1 => ⟨fun _ => hQ, fun i hi => by rw [h] at hi; cases hi⟩


end

theorem cvEq_eq : ∀ {a b : CV}, cvEq a b = true → a = b := by
  intro a b h
  have kqe : ∀ {x y : IntKind}, kq x y = true → x = y := by intro x y h; cases x <;> cases y <;> first | rfl | cases h
  have lse : ∀ {l m : List Nat}, lsEq l m = true → l = m := by
    intro l
    induction l with
    | nil => intro m h; cases m with | nil => rfl | cons _ _ => cases h
    | cons x l ih =>
      intro m h
      cases m with
      | nil => cases h
      | cons y m =>
        simp only [lsEq] at h
        cases hb : Nat.beq x y with
        | false => rw [hb] at h; cases h
        | true => rw [hb] at h; rw [Nat.eq_of_beq_eq_true hb, ih h]
  cases a <;> cases b <;> simp only [cvEq, Bool.and_eq_true, Pos.beq_iff, beq_t, decide_eq_true_eq] at h <;> first | (cases h; done) | skip
  case bl.bl x y => cases x <;> cases y <;> first | rfl | cases h
  case int.int => obtain ⟨h1, rfl⟩ := h; rw [kqe h1]
  case str.str => rw [lse h]
  case nilp.nilp => rfl
  case ptr.ptr => obtain ⟨⟨rfl, rfl⟩, rfl⟩ := h; rfl
  case glob.glob => rw [h]
  case nils.nils => rfl
  case sl.sl c _ _ _ _ c' =>
    obtain ⟨⟨⟨⟨rfl, rfl⟩, rfl⟩, rfl⟩, h⟩ := h
    cases c <;> cases c' <;> first | rfl | (cases h; done) | (rw [Nat.eq_of_beq_eq_true h])
  case emp.emp => rw [h]
  case nilm.nilm => rfl
  case mp.mp => rw [h]
  case nilf.nilf => rfl
  case fnc.fnc => rw [h]
  case clo.clo => rw [h]
  case nili.nili => rfl
  case ifc.ifc => rw [h]
theorem cvsEq_eq : ∀ {l m : List CV}, cvsEq l m = true → l = m
  | [], [], _ => rfl
  | [], _ :: _, h => by cases h
  | _ :: _, [], h => by cases h
  | a :: l, b :: m, h => by
    simp only [cvsEq] at h
    cases hb : cvEq a b with
    | false => rw [hb] at h; cases h
    | true => rw [hb] at h; rw [cvEq_eq hb, cvsEq_eq h]
theorem tvEq_eq : ∀ {a b : TV}, tvEq a b = true → a = b := by
  intro a b h
  unfold tvEq at h
  split at h
  · rw [cvEq_eq h]
  · rw [cvsEq_eq h]
  · cases h
theorem sameQ_eq {f : EO → Q} {o : EO} {out : TV} (h : sameQ f o out = true) : f o = .ret out none := by
  unfold sameQ at h
  split at h
  · rename_i out' e; rw [e, tvEq_eq h]
  · cases h

theorem gd_congr {e e' : Env} {g : Option (Pos × Bool)} (h : ∀ t ∈ guardP g, e.get .unk t = e'.get .unk t) : gd e g = gd e' g := by
  cases g with
  | none => rfl
  | some p =>
    obtain ⟨p, w⟩ := p
    simp only [gd]
    rw [h p (by simp [guardP])]
theorem valsS_congr {e e' : Env} : ∀ {xs : List Src}, (∀ t ∈ srcsP xs, e.get .unk t = e'.get .unk t) → valsS e xs = valsS e' xs
  | [], _ => rfl
  | .t p :: xs, h => by
    simp only [valsS, valS]
    rw [h p (by simp [srcsP]), valsS_congr (xs := xs) fun t ht => h t (by simp [srcsP, ht])]
  | .c v :: xs, h => by
    simp only [valsS, valS]
    rw [valsS_congr (xs := xs) fun t ht => h t (by simpa [srcsP] using ht)]

section
variable {ck : Callk} {b : HP} {rs : List Pos} {l : List OP} {infs : List Inf} {ds : List Dl} {s1 : St} {n : Pos} {bef : Nat → Nat → Prop}

/-- The place kept for a new object is still so. -/
theorem Dr.res_at (h : Dr ck b rs l infs ds s1 n bef) {D : Nat → Bool} {i : Nat} (hx : Nx l bef D i) {o : OP} (ho : l[i]? = some o) (ha : alO o = true) : (HP.ov b (stT ds D s1 l.length).d).get (rI l n i) = .res := by
  obtain ⟨o', inf, x, p1, p2, p3, p4⟩ := h.at_ i hx.lt
  have hk := h.kept ho ha p3 l.length (Nat.le_refl _)
  have := h.heap hx (k := rI l n i) (fun _ => False) (fun j y o' hj _ _ hy hw => ?_) (fun j y o' hj hjl hD hop hy hw => ?_) l.length (Nat.le_refl _)
  · rcases this with h1 | h1
    · rw [h1, show min l.length i = i by have := hx.lt; omega]
      exact (h.kept ho ha p3 i (by have := hx.lt; omega)).2 (.inl (Nat.le_refl _))
    · exact h1.elim
  · rcases hk.1 j y (by have := hx.lt; omega) hy (by rw [hw]; exact fun e => by cases e) with e | e <;> omega
  · rcases hk.1 j y hjl hy (by rw [hw]; exact fun e => by cases e) with e | ⟨_, e⟩
    · omega
    · exact e (h.apartW hjl hx.lt hop p3 hy (by rw [hw]; exact fun e => by cases e))

/-- An operation does the same where it comes earlier or later. -/
theorem Dr.stepF (h : Dr ck b rs l infs ds s1 n bef) {D : Nat → Bool} {i : Nat} (hx : Nx l bef D i) {fo : FO} {al : Bool} (ho : l[i]? = some (.op fo al)) : ∃ out wr, ds[i]? = some (.op fo.dst out wr) ∧ Clo.stepF (stT ds D s1 l.length).e (if al = true then upd (HP.ov b (stT ds D s1 l.length).d).get (rI l n i) .none else (HP.ov b (stT ds D s1 l.length).d).get) (rI l n i) fo = some (out, wr) := by
  obtain ⟨o', inf, x, p1, p2, p3, p4⟩ := h.at_ i hx.lt
  rw [ho] at p1; injection p1 with p1; subst p1
  obtain ⟨out, wr, hst, hok, rfl, rfl⟩ := p4
  refine ⟨out, wr, p3, ?_⟩
  have hlt := hx.lt
  have henv : ∀ t ∈ looks (.op fo al), (stT ds allT s1 i).e.get .unk t = (stT ds D s1 l.length).e.get .unk t := fun t ht => by
    rw [h.env hx ho ht l.length (Nat.le_refl _), show min l.length i = i by omega]
  have e1 : gd (stT ds allT s1 i).e fo.guard = gd (stT ds D s1 l.length).e fo.guard := gd_congr fun t ht => henv t (by simp [looks, ht])
  have e2 : valsS (stT ds allT s1 i).e fo.args = valsS (stT ds D s1 l.length).e fo.args := valsS_congr fun t ht => henv t (by simp [looks, ht])
  unfold Clo.stepF at hst ⊢
  unfold qF trF at p2
  rw [← e1, ← e2]
  generalize hg : gd (stT ds allT s1 i).e fo.guard = g at hst p2 ⊢
  cases g with
  | none => cases hst
  | some gb =>
    cases gb with
    | false => exact hst
    | true =>
      simp only at hst p2 ⊢
      generalize hq : effK fo.k (valsS (stT ds allT s1 i).e fo.args) (rI l n i) = q at hst p2 ⊢
      generalize hH : (if al = true then upd (HP.ov b (stT ds D s1 l.length).d).get (rI l n i) .none else (HP.ov b (stT ds D s1 l.length).d).get) = H
      have hone : ∀ k ∈ q.tr (HP.ov b (clrR al (stT ds allT s1 i).d (rI l n i))).get, H k = (HP.ov b (clrR al (stT ds allT s1 i).d (rI l n i))).get k ∨ (keyOfW wr = none ∧ ∃ f, q = .rd k f ∧ sameQ f (H k) out = true) := by
        intro k hk
        by_cases hkr : al = true ∧ k = rI l n i
        · obtain ⟨rfl, rfl⟩ := hkr
          refine .inl ?_
          rw [← hH]
          simp only [if_true, clrR, upd_self]
          rw [HP.get_set, upd_self]
        · have eH : H k = (HP.ov b (stT ds D s1 l.length).d).get k := by
            rw [← hH]
            split
            · rename_i ha; exact upd_ne _ _ fun e => hkr ⟨ha, e.symm⟩
            · rfl
          have eR : (HP.ov b (clrR al (stT ds allT s1 i).d (rI l n i))).get k = (HP.ov b (stT ds allT s1 i).d).get k := by
            cases al with
            | false => rfl
            | true =>
              simp only [clrR]
              rw [HP.get_set]
              exact upd_ne _ _ fun e => hkr ⟨rfl, e.symm⟩
          rw [eH, eR]
          have wk : ∀ {dst : Option Pos} {out : TV} {wr : Option (Pos × EO)} {o : EO}, (Dl.op dst out wr).wrote k = some o → keyOfW wr = some k := by
            intro dst out wr o hw
            cases wr with
            | none => cases hw
            | some p =>
              simp only [Dl.wrote] at hw
              split at hw
              · rename_i e; simp [keyOfW, e]
              · cases hw
          -- what is said of an operation and a call that do not meet
          have still : ∀ {hp : HP} {d : DM} {o : EO}, PM.get none d k = some o → stillQ hp d (q.tr (HP.ov b (clrR al (stT ds allT s1 i).d (rI l n i))).get) q out = true → ∃ f, q = .rd k f ∧ sameQ f o out = true ∧ sameQ f (hp.get k) out = true := by
            intro hp d o hd hs
            simp only [stillQ, Bool.or_eq_true] at hs
            rcases hs with hs | hs
            · rw [noneD_mem hs k hk] at hd; cases hd
            · cases hqq : q with
              | fail => rw [hqq] at hs; cases hs
              | ret _ _ => rw [hqq] at hs; cases hs
              | rd k' f =>
                rw [hqq] at hs hk
                simp only [Q.tr] at hs hk
                split at hs
                · rename_i k2 htr
                  simp only [List.cons.injEq] at htr
                  rw [htr.2] at hk
                  have : k = k' := by simpa using hk
                  subst this
                  rw [hd] at hs
                  simp only [Bool.and_eq_true] at hs
                  exact ⟨f, rfl, hs.1, hs.2⟩
                · cases hs
          have := h.heap hx (k := k) (fun o => keyOfW wr = none ∧ ∃ f, q = .rd k f ∧ sameQ f o out = true) (fun j y o hj hD hop hy hw => ?_) (fun j y o hj hjl hD hop hy hw => ?_) l.length (Nat.le_refl _)
          · rw [show min l.length i = i by omega] at this
            exact this
          · obtain ⟨oj, ij, xj, b1, b2, b3, b4⟩ := h.at_ j (by omega)
            obtain ⟨u, v, a, c, o1, o2, o3, o4, o5, o6⟩ := hop
            rw [b3] at hy; injection hy with hy; subst hy
            rw [b2] at o4; injection o4 with o4; subst o4
            rw [p2] at o5; injection o5 with o5; subst o5
            cases oj with
            | op fo' al' =>
              obtain ⟨out', wr', _, _, rfl, rfl⟩ := b4
              rw [wk hw] at o6
              simp only [apartI, apart1, Bool.and_eq_true, Bool.not_eq_true'] at o6
              rw [memP_iff.2 hk] at o6
              cases o6.1.1
            | call args dst g =>
              rcases b4 with ⟨_, t, vs, out', lay, n1, n2, _, _, hno, rfl, rfl⟩ | ⟨_, rfl, rfl⟩
              · have hlay : PM.get none lay k = some o := hw
                cases hkw : keyOfW wr with
                | none =>
                  rw [hkw] at o6
                  simp only [apartI] at o6
                  obtain ⟨f, f1, f2, f3⟩ := still hlay o6
                  exact ⟨rfl, f, f1, f3⟩
                | some k' =>
                  rw [hkw] at o6
                  cases hfr : freshW al (rI l n i) wr with
                  | false => rw [hfr] at o6; simp only [apartI] at o6; cases o6
                  | true =>
                    rw [hfr] at o6
                    simp only [apartI] at o6
                    rw [noneD_mem o6 k hk] at hlay
                    cases hlay
              · cases hw
            | nxt _ _ => exact b4.elim
            | bad => exact b4.elim
          · obtain ⟨oj, ij, xj, b1, b2, b3, b4⟩ := h.at_ j hjl
            obtain ⟨u, v, a, c, o1, o2, o3, o4, o5, o6⟩ := hop
            rw [b3] at hy; injection hy with hy; subst hy
            rw [p2] at o4; injection o4 with o4; subst o4
            rw [b2] at o5; injection o5 with o5; subst o5
            cases oj with
            | op fo' al' =>
              obtain ⟨out', wr', _, _, rfl, rfl⟩ := b4
              rw [wk hw] at o6
              simp only [apartI, apart1, Bool.and_eq_true, Bool.not_eq_true'] at o6
              rw [memP_iff.2 hk] at o6
              cases o6.1.2
            | call args dst g =>
              rcases b4 with ⟨_, t, vs, out', lay, n1, n2, _, _, hno, rfl, rfl⟩ | ⟨_, rfl, rfl⟩
              · have hlay : PM.get none lay k = some o := hw
                cases hkw : keyOfW wr with
                | none =>
                  rw [hkw] at o6
                  simp only [apartI] at o6
                  obtain ⟨f, f1, f2, f3⟩ := still hlay o6
                  exact ⟨rfl, f, f1, f2⟩
                | some k' =>
                  rw [hkw] at o6
                  simp only [apartI] at o6
                  cases o6
              · cases hw
            | nxt _ _ => exact b4.elim
            | bad => exact b4.elim
      by_cases hall : ∀ k ∈ q.tr (HP.ov b (clrR al (stT ds allT s1 i).d (rI l n i))).get, H k = (HP.ov b (clrR al (stT ds allT s1 i).d (rI l n i))).get k
      · rw [(Q.run_congr hall).1]
        exact hst
      · have ⟨k, hk, hne⟩ : ∃ k, k ∈ q.tr (HP.ov b (clrR al (stT ds allT s1 i).d (rI l n i))).get ∧ ¬ H k = (HP.ov b (clrR al (stT ds allT s1 i).d (rI l n i))).get k := by
          apply Classical.byContradiction
          intro hn
          refine hall fun k hk => Classical.byContradiction fun hne => hn ⟨k, hk, hne⟩
        rcases hone k hk with e | ⟨hkw, f, hqf, hs⟩
        · exact (hne e).elim
        · have hwr : wr = none := by
            cases wr with
            | none => rfl
            | some p => cases hkw
          rw [hwr, hqf]
          simp only [Q.run]
          rw [sameQ_eq hs]
          rfl

/-- What was made already, of what comes after a call in the order of the run. -/
def Made (l : List OP) (ds : List Dl) (n : Pos) (D : Nat → Bool) (i : Nat) (k : Pos) : Prop := ∃ j o x, i < j ∧ j < l.length ∧ D j = true ∧ l[j]? = some o ∧ alO o = true ∧ ds[j]? = some x ∧ k = rI l n j ∧ x.wrote k ≠ none
open Classical in
/-- What a call sees, where it comes earlier or later: the same, but for what was made already. -/
theorem Dr.hid (h : Dr ck b rs l infs ds s1 n bef) {D : Nat → Bool} {i : Nat} (hx : Nx l bef D i) {lay : DM} {hp : HP} (hinf : infs[i]? = some (.call hp lay)) (k : Pos) : (if Made l ds n D i k then EO.res else (HP.ov b (stT ds D s1 l.length).d).get k) = (HP.ov b (stT ds allT s1 i).d).get k := by
  have hlt := hx.lt
  split
  · rename_i hm
    obtain ⟨j, o, x, h1, h2, h3, h4, h5, h6, rfl, h8⟩ := hm
    exact ((h.kept h4 h5 h6 i (by omega)).2 (.inl (by omega))).symm
  · rename_i hm
    have wk : ∀ {dst : Option Pos} {out : TV} {wr : Option (Pos × EO)} {o : EO}, (Dl.op dst out wr).wrote k = some o → keyOfW wr = some k := by
      intro dst out wr o hw
      cases wr with
      | none => cases hw
      | some p =>
        simp only [Dl.wrote] at hw
        split at hw
        · rename_i e; simp [keyOfW, e]
        · cases hw
    have := h.heap hx (k := k) (fun _ => False) (fun j y o hj hD hop hy hw => ?_) (fun j y o hj hjl hD hop hy hw => ?_) l.length (Nat.le_refl _)
    · rw [show min l.length i = i by omega] at this
      rcases this with h1 | h1
      · exact h1
      · exact h1.elim
    · obtain ⟨oj, ij, xj, b1, b2, b3, b4⟩ := h.at_ j (by omega)
      obtain ⟨u, v, a, c, o1, o2, o3, o4, o5, o6⟩ := hop
      rw [b3] at hy; injection hy with hy; subst hy
      rw [b2] at o4; injection o4 with o4; subst o4
      rw [hinf] at o5; injection o5 with o5; subst o5
      cases oj with
      | op fo' al' =>
        obtain ⟨out', wr', _, _, rfl, rfl⟩ := b4
        rw [wk hw] at o6
        simp only [apartI] at o6
        cases o6
      | call args dst g =>
        rcases b4 with ⟨_, t, vs, out', lay, n1, n2, _, _, hno, rfl, rfl⟩ | ⟨_, rfl, rfl⟩
        · simp only [apartI] at o6
          cases o6
        · cases hw
      | nxt _ _ => exact b4.elim
      | bad => exact b4.elim
    · obtain ⟨oj, ij, xj, b1, b2, b3, b4⟩ := h.at_ j hjl
      obtain ⟨u, v, a, c, o1, o2, o3, o4, o5, o6⟩ := hop
      have hy' := hy
      rw [b3] at hy; injection hy with hy; subst hy
      rw [hinf] at o4; injection o4 with o4; subst o4
      rw [b2] at o5; injection o5 with o5; subst o5
      cases oj with
      | op fo' al' =>
        obtain ⟨out', wr', _, _, rfl, rfl⟩ := b4
        have hk := wk hw
        rw [hk] at o6
        cases hfr : freshW al' (rI l n j) wr' with
        | false => rw [hfr] at o6; simp only [apartI] at o6; cases o6
        | true =>
          cases wr' with
          | none => cases hk
          | some p =>
            simp only [keyOfW, Option.some.injEq] at hk
            simp only [freshW, Bool.and_eq_true] at hfr
            have e := Pos.beq_iff.1 hfr.2
            rw [hk] at e
            exact hm ⟨j, _, _, hj, hjl, hD, b1, hfr.1, b3, e, by rw [hw]; exact fun e => by cases e⟩
      | call args dst g =>
        rcases b4 with ⟨_, t, vs, out', lay, n1, n2, _, _, hno, rfl, rfl⟩ | ⟨_, rfl, rfl⟩
        · simp only [apartI] at o6
          cases o6
        · cases hw
      | nxt _ _ => exact b4.elim
      | bad => exact b4.elim
end

section
variable {B : Nat} {W : W0} {φ ψ : Gx} {h h' : Pos → EO} {w w' : World} {r : Pos}
open Classical in
/-- What a call does not see is as it was. -/
theorem hide_inv (hI : Inv B W φ h w) (F : Pos → Prop) : Inv B ⟨w, φ⟩ φ (fun k => if F k then .res else h k) w :=
  ⟨Below.refl _ _, Kp.refl _, Gx.le.refl _, fun _ _ => ⟨fun _ => rfl, rfl, rfl, fun _ _ _ => rfl⟩, hI.size, fun k => by
    by_cases hk : F k
    · simp only [if_pos hk]
      exact fun g l hl => hI.blk hl
    · simp only [if_neg hk]
      exact hI.obj k, hI.sep⟩
open Classical in
theorem hide_step (hI : Inv B W φ h w) (F : Pos → Prop) (hs : Step B φ (fun k => if F k then .res else h k) w ψ h' w') (hF : ∀ k, F k → h' k = .res) : Step B φ h w ψ (fun k => if F k then h k else h' k) w' := by
  have J := hs.2.1 _ (hide_inv hI F)
  refine step_self hs.1 ⟨J.below, J.kp, J.le, fun k hk => ?_, J.size, fun k => ?_, J.sep⟩ fun k hk => ?_
  · by_cases hf : F k
    · exact J.res k (by rw [hF k hf]; rfl)
    · simp only [if_neg hf] at hk
      exact J.res k hk
  · by_cases hf : F k
    · simp only [if_pos hf]
      obtain ⟨a1, a2, a3, a4⟩ := J.res k (by rw [hF k hf]; rfl)
      exact (hI.obj k).keep hs.1 a1 a2 a3 fun g l hl => a4 g l (by rw [← hl]; exact a1 g)
    · simp only [if_neg hf]
      exact J.obj k
  · by_cases hf : F k
    · simpa only [if_pos hf] using hk
    · simp only [if_neg hf] at hk
      have := hs.2.2 k hk
      simpa only [if_neg hf] using this

/-- A place that is kept is free. -/
def FreeG (φ : Gx) (r : Pos) : Prop := (∀ g, φ.loc r g = none) ∧ φ.val r = none ∧ φ.mu r = none
theorem res_none (hr : h r = .res) (hf : FreeG φ r) : Step B φ h w φ (upd h r .none) w := by
  refine ⟨Gx.le.refl _, fun W hI => ⟨hI.below, hI.kp, hI.le, fun k hk => ?_, hI.size, fun k => ?_, hI.sep⟩, fun k hk => ?_⟩
  · by_cases e : r = k
    · subst e; rw [upd_self] at hk; cases hk
    · rw [upd_ne _ _ e] at hk; exact hI.res k hk
  · by_cases e : r = k
    · subst e; rw [upd_self]; exact hf
    · rw [upd_ne _ _ e]; exact hI.obj k
  · by_cases e : r = k
    · subst e; rw [hr]; rfl
    · rwa [upd_ne _ _ e] at hk
theorem none_res {F : Pos → Prop} (hF : ∀ k, F k → h k = .none) (h1 : ∀ k, F k → h' k = .res) (h2 : ∀ k, ¬ F k → h' k = h k) : Step B φ h w φ h' w := by
  refine ⟨Gx.le.refl _, fun W hI => ⟨hI.below, hI.kp, hI.le, fun k hk => ?_, hI.size, fun k => ?_, hI.sep⟩, fun k hk => ?_⟩
  · by_cases e : F k
    · obtain ⟨b1, b2, b3⟩ := hI.free (hF k e)
      have hn : ∀ {α : Type} {x y : Option α}, y = none → (∀ v, x = some v → y = some v) → y = x := fun {α x y} hy hx => by
        cases x with
        | none => exact hy
        | some v => exact hx v rfl
      exact ⟨fun g => hn (b1 g) fun v hv => hI.le.loc k g v hv, hn b2 fun v hv => hI.le.val k v hv, hn b3 fun v hv => hI.le.mu k v hv, fun g l hl => by rw [b1 g] at hl; cases hl⟩
    · rw [h2 k e] at hk; exact hI.res k hk
  · by_cases e : F k
    · rw [h1 k e]; exact fun g l hl => hI.blk hl
    · rw [h2 k e]; exact hI.obj k
  · by_cases e : F k
    · rw [hF k e]; rfl
    · rwa [h2 k e] at hk
end
end Go.Proofs.YtdjhicbhegaenaaGreatDoor.Clo
namespace Go.Proofs.YtdjhicbhegaenaaGreatDoor.Clo
open Go Go.RowKit

theorem Rl.congr {B lo nt : Nat} {φ0 : Gx} {h0 : Pos → EO} {w0 : World} {e e' : Env} {h h' : Pos → EO} {a : Act} {w : World} (hr : Rl B lo φ0 h0 w0 nt e h a w) (he : ∀ t, e'.get .unk t = e.get .unk t) (hh : ∀ k, h' k = h k) : Rl B lo φ0 h0 w0 nt e' h' a w := by
  have : h' = h := funext hh
  subst this
  obtain ⟨φ, h1, h2⟩ := hr.ex
  exact ⟨⟨φ, h1, fun t ht => by rw [he]; exact h2 t ht⟩, hr.sz, hr.df⟩

theorem stT_congr {ds : List Dl} {D D' : Nat → Bool} {s : St} : ∀ {m : Nat}, (∀ j, j < m → D j = D' j) → stT ds D s m = stT ds D' s m
  | 0, _ => rfl
  | m + 1, h => by
    simp only [stT]
    rw [h m (by omega), stT_congr (m := m) fun j hj => h j (by omega)]
theorem stT_none {ds : List Dl} {D : Nat → Bool} {s : St} : ∀ {m : Nat}, (∀ j, j < m → D j = false) → stT ds D s m = s
  | 0, _ => rfl
  | m + 1, h => by
    simp only [stT]
    rw [h m (by omega)]
    exact stT_none fun j hj => h j (by omega)

/-- An operation that may make an object, in a place that is kept. -/
theorem al_step {B : Nat} {φ ψ : Gx} {H : Pos → EO} {w w' : World} {r : Pos} {al : Bool} (hr : al = true → H r = .res) (hf : al = true → FreeG φ r) {wr : Option (Pos × EO)} (hst : Step B φ (if al = true then upd H r .none else H) w ψ (updO (if al = true then upd H r .none else H) wr) w') : Step B φ H w ψ (updO H wr) w' := by
  cases al with
  | false => exact hst
  | true =>
    simp only [if_true] at hst
    refine ((res_none (hr rfl) (hf rfl)).trans hst).trans ?_
    by_cases hk : ∃ o, wr = some (r, o)
    · obtain ⟨o, rfl⟩ := hk
      have : updO (upd H r .none) (some (r, o)) = updO H (some (r, o)) := by
        funext k
        simp only [updO, upd]
        by_cases e : r = k <;> simp [e]
      rw [this]
      exact Step.refl
    · have hat : updO (upd H r .none) wr r = .none ∧ updO H wr r = .res := by
        cases wr with
        | none => exact ⟨upd_self _ _ _, hr rfl⟩
        | some p =>
          obtain ⟨k0, o⟩ := p
          have hne : k0 ≠ r := fun e => hk ⟨o, by rw [e]⟩
          simp only [updO]
          rw [upd_ne _ _ hne, upd_ne _ _ hne, upd_self]
          exact ⟨rfl, hr rfl⟩
      refine none_res (F := fun k => k = r) (fun k e => by subst e; exact hat.1) (fun k e => by subst e; exact hat.2) (fun k e => ?_)
      cases wr with
      | none => exact (upd_ne _ _ fun e' => e e'.symm).symm
      | some p =>
        obtain ⟨k0, o⟩ := p
        simp only [updO]
        by_cases e0 : k0 = k
        · subst e0; rw [upd_self, upd_self]
        · rw [upd_ne _ _ e0, upd_ne _ _ e0, upd_ne _ _ fun e' => e e'.symm]

theorem cOps_get {P : Program} {Gl : Nat → TypeId → Option Value} {nt : Nat} {ops : List Oper} : ∀ (l : List Oper) (i : Nat), (cOps P Gl nt ops l)[i]? = (l[i]?).map (cOp P Gl nt ops)
  | [], i => by simp [cOps]
  | o :: l, 0 => by simp [cOps]
  | o :: l, i + 1 => by simpa [cOps] using cOps_get l i

/-- An order of the operations. -/
structure OrdX (P : Program) (Gl : Nat → TypeId → Option Value) (nt : Nat) (ops : Array Oper) (ord : List Nat) (l : List OP) : Prop where
  llen : l.length = ops.size
  lget : ∀ p o, p < ops.size → ops[ord.getD p 0]? = some o → l[p]? = some (cOp P Gl nt ops.toList o)
  inj : ∀ p q, p < ops.size → q < ops.size → ord.getD p 0 = ord.getD q 0 → p = q
  sur : ∀ i, i < ops.size → ∃ p, p < ops.size ∧ ord.getD p 0 = i
  edges : edgesOk 0 ops.toList = true
  olt : ∀ p, p < ops.size → ord.getD p 0 < ops.size
def befP (ops : Array Oper) (ord : List Nat) (p q : Nat) : Prop := ((befores ops.toList []).getD (ord.getD q 0) 0).testBit (ord.getD p 0) = true
def Dp (ord : List Nat) (listed : Array Bool) (p : Nat) : Bool := listed.getD (ord.getD p 0) false

section
variable {P : Program} {Gl : Nat → TypeId → Option Value} {B lo : Nat} {W : W0} {φ0 : Gx} {h0 : Pos → EO} {w0 : World} {nt : Nat} {ops : Array Oper} {Γ : List Lq} {ck : Callk}
variable {b : HP} {rs : List Pos} {l : List OP} {infs : List Inf} {ds : List Dl} {s1 : St} {n1 : Pos} {ord : List Nat}

theorem draw_any {ro : Option Nat} {n : Nat} (hnd : ∀ o ∈ ops.toList, NoDef ro o) (hI0 : Inv B W φ0 h0 w0) (hG : GlOk Gl P B W) (ckok : CkOk P Gl B ck Γ) (hcx : Ctx Γ φ0 w0) (hfree : ∀ r ∈ rs, FreeG φ0 r) (ox : OrdX P Gl nt ops ord l) (h : Dr ck b rs l infs ds s1 n1 (befP ops ord)) : ∀ (fuel : Nat) (listed : Array Bool) (a : Act) (w : World), listed.size = ops.size → DC ops (fun j => listed.getD j false) →
      ((List.range ops.size).filter fun j => !listed.getD j false).length ≤ fuel →
      Rl B lo φ0 h0 w0 nt (stT ds (Dp ord listed) s1 l.length).e (HP.ov b (stT ds (Dp ord listed) s1 l.length).d).get a w → wpAnyIn (RF ro) n P .any ops (NPost B lo φ0 h0 w0 nt (stT ds allT s1 l.length).e (HP.ov b (stT ds allT s1 l.length).d).get) fuel listed a w := by
  have hll := ox.llen
  -- when all is done
  have fin : ∀ (listed : Array Bool) (a : Act) (w : World), listed.size = ops.size → Region.ready .any ops listed = [] → Rl B lo φ0 h0 w0 nt (stT ds (Dp ord listed) s1 l.length).e (HP.ov b (stT ds (Dp ord listed) s1 l.length).d).get a w → NPost B lo φ0 h0 w0 nt (stT ds allT s1 l.length).e (HP.ov b (stT ds allT s1 l.length).d).get .normal a w := by
    intro listed a w hs hr hrel
    have hall := ready_ne ox.edges hs hr
    have e : stT ds (Dp ord listed) s1 l.length = stT ds allT s1 l.length := stT_congr fun j hj => hall _ (ox.olt j (by omega))
    rw [e] at hrel
    exact hrel
  intro fuel
  induction fuel with
  | zero =>
    intro listed a w hs hdc hcount hrel
    have hr : Region.ready .any ops listed = [] := by
      rw [List.eq_nil_iff_forall_not_mem]
      intro i hi
      obtain ⟨hlt, hDi, _⟩ := ready_facts hs hi
      have : i ∈ (List.range ops.size).filter fun j => !listed.getD j false := by
        rw [List.mem_filter]
        exact ⟨List.mem_range.2 hlt, by simp [hDi]⟩
      rw [List.eq_nil_of_length_eq_zero (Nat.le_zero.1 hcount)] at this
      cases this
    exact ⟨hr, fin listed a w hs hr hrel⟩
  | succ fuel ih =>
    intro listed a w hs hdc hcount hrel
    refine ⟨fun hr => fin listed a w hs hr hrel, fun i hi => ?_⟩
    obtain ⟨hlt, hDi, o', ho', _⟩ := ready_facts hs hi
    obtain ⟨hpre, hdc'⟩ := dc_next ox.edges hs hdc hi
    have hD' : ∀ j, (listed.setIfInBounds i true).getD j false = (listed.getD j false || decide (j = i)) := fun j => getD_upd (by omega)
    obtain ⟨p, hp, hpi⟩ := ox.sur i hlt
    have hlp := ox.lget p o' hp (by rw [hpi]; exact ho')
    have hx : Nx l (befP ops ord) (Dp ord listed) p := ⟨by omega, by unfold Dp; rw [hpi]; exact hDi, fun q _ hq p' _ hb => hdc _ hq _ hb, fun p' _ hb => hpre _ (by unfold befP at hb; rw [hpi] at hb; exact hb)⟩
    have hDp : ∀ j, j < l.length → Dp ord (listed.setIfInBounds i true) j = (Dp ord listed j || decide (j = p)) := fun j hj => by
      unfold Dp
      rw [hD']
      congr 1
      by_cases e : j = p
      · subst e; rw [hpi]; simp
      · have : ¬ ord.getD j 0 = i := fun e' => e (ox.inj j p (by omega) hp (by rw [e', hpi]))
        rw [decide_eq_false this, decide_eq_false e]
    have hlen : ((List.range ops.size).filter fun j => !(listed.setIfInBounds i true).getD j false).length ≤ fuel := by
      have : ((List.range ops.size).filter fun j => !(listed.setIfInBounds i true).getD j false).length < ((List.range ops.size).filter fun j => !listed.getD j false).length := by
        have e : ((List.range ops.size).filter fun j => !(listed.setIfInBounds i true).getD j false) = (((List.range ops.size).filter fun j => !listed.getD j false)).filter (fun j => decide (j ≠ i)) := by
          rw [List.filter_filter]
          apply List.filter_congr
          intro j _
          rw [hD']
          by_cases e : j = i <;> simp [e]
        rw [e]
        refine List.length_filter_lt_length_iff_exists.2 ⟨i, ?_, by simp⟩
        rw [List.mem_filter]
        exact ⟨List.mem_range.2 hlt, by simp [hDi]⟩
      omega
    have hno : NoDef ro o' := hnd o' (Array.mem_toList_iff.2 (Array.mem_of_getElem? ho'))
    obtain ⟨oc, inf, x, q1, q2, q3, q4⟩ := h.at_ p (by omega)
    rw [hlp] at q1
    injection q1 with q1
    obtain ⟨hn1, hn2⟩ := h.next hx hDp q3 l.length (Nat.le_refl _)
    have hgo : ∀ (a' : Act) (w' : World) (H' : Pos → EO), (∀ k, H' k = orE (x.wrote k) ((HP.ov b (stT ds (Dp ord listed) s1 l.length).d).get k)) → Rl B lo φ0 h0 w0 nt (setD (stT ds (Dp ord listed) s1 l.length).e x.dst x.out) H' a' w' → wpAnyIn (RF ro) n P .any ops (NPost B lo φ0 h0 w0 nt (stT ds allT s1 l.length).e (HP.ov b (stT ds allT s1 l.length).d).get) fuel (listed.setIfInBounds i true) a' w' := fun a' w' H' hH' hr' => by
      refine ih (listed.setIfInBounds i true) a' w' (by simpa using hs) hdc' hlen (hr'.congr (fun t => ?_) fun k => ?_)
      · rw [hn1 t, if_neg (by omega)]
      · rw [hn2 k, if_neg (by omega), hH' k]
    obtain ⟨φ, hst0, hE⟩ := hrel.ex
    have hI := hst0.2.1 _ hI0
    cases oc with
    | op fo al =>
      have hlp' : l[p]? = some (.op fo al) := hlp.trans (by rw [q1])
      obtain ⟨out, wr, hds, hst⟩ := h.stepF hx hlp'
      rw [q3] at hds
      injection hds with hds
      obtain ⟨dst, xs, hdst, _, _, _, hfd, _⟩ := cOp_op q1
      have hres : al = true → (HP.ov b (stT ds (Dp ord listed) s1 l.length).d).get (rI l n1 p) = .res := fun ha => h.res_at hx hlp' ha
      have hfr : al = true → FreeG φ (rI l n1 p) := fun ha => by
        have hm := hfree _ (h.al p _ hlp' ha)
        obtain ⟨a1, a2, a3, _⟩ := (hst0.2.1 _ hI0.self).res _ (by rw [hres ha]; rfl)
        exact ⟨fun g => (a1 g).trans (hm.1 g), a2.trans hm.2.1, a3.trans hm.2.2⟩
      have hH : Step B φ (HP.ov b (stT ds (Dp ord listed) s1 l.length).d).get w φ (if al = true then upd (HP.ov b (stT ds (Dp ord listed) s1 l.length).d).get (rI l n1 p) .none else (HP.ov b (stT ds (Dp ord listed) s1 l.length).d).get) w := by
        cases al with
        | false => exact Step.refl
        | true => exact res_none (hres rfl) (hfr rfl)
      refine op_sound ho' q1 (hH.2.1 _ hI) hG hE hno (fun ha => by rw [if_pos ha, upd_self]) hst fun ψ v w' hst' hv => ?_
      refine hgo _ _ _ (fun k => ?_) ((by rw [hds]; exact hrel.step hI0 hst0 hE (al_step hres hfr hst') (by rw [hfd]; exact hdst) hv))
      rw [hds]
      cases wr with
      | none => rfl
      | some pr =>
        obtain ⟨k', o2⟩ := pr
        simp only [updO, upd, Dl.wrote]
        by_cases e : k' = k <;> simp [e, orE]
    | call args dst g =>
      obtain ⟨_, _, _, _, _, hdst, _⟩ := cOp_call q1
      have henv : ∀ t ∈ looks (.call args dst g), (stT ds allT s1 p).e.get .unk t = (stT ds (Dp ord listed) s1 l.length).e.get .unk t := fun t ht => by
        rw [h.env hx (hlp.trans (by rw [q1])) ht l.length (Nat.le_refl _), show min l.length p = p by omega]
      have e1 : gd (stT ds allT s1 p).e g = gd (stT ds (Dp ord listed) s1 l.length).e g := gd_congr fun t ht => henv t (by simp [looks, ht])
      have e2 : valsS (stT ds allT s1 p).e args = valsS (stT ds (Dp ord listed) s1 l.length).e args := valsS_congr fun t ht => henv t (by simp [looks, ht])
      rcases q4 with ⟨hg, t, vs, out, lay, m1, m2, hen, hcall, hnd', hinf, hxx⟩ | ⟨hg, hinf, hxx⟩
      · rw [e1] at hg
        rw [e2] at hen
        rw [hinf] at q2
        have hhid := funext (h.hid hx q2)
        have hIh := hide_inv hI (Made l ds n1 (Dp ord listed) p)
        rw [hhid] at hIh
        refine call_sound ho' q1 hg hIh hE hno hen (fun us hus => ckok.call _ _ _ _ _ _ _ _ hcall ⟨w, φ⟩ φ w (hG.more hI) hIh us hus (hcx.more hI0 hst0)) fun ψ v w' hst' hv => ?_
        have hst'' : Step B φ (HP.ov b (stT ds allT s1 p).d).get w ψ (HP.ov (.ov b (stT ds allT s1 p).d) lay).get w' := hst'
        rw [← hhid] at hst''
        have hmr : ∀ k, Made l ds n1 (Dp ord listed) p k → PM.get none lay k = none := fun k hk => by
          obtain ⟨j, o, y, c1, c2, c3, c4, c5, c6, rfl, c8⟩ := hk
          exact noneD_mem hnd' _ (h.al j o c4 c5)
        have hst3 := hide_step hI _ hst'' fun k hk => by
          simp only [HP.get, hmr k hk]
          have := congrFun hhid k
          simp only [if_pos hk] at this
          exact this.symm
        refine hgo _ _ _ (fun k => ?_) ((by rw [hxx]; exact hrel.step hI0 hst0 hE hst3 hdst hv))
        rw [hxx]
        simp only [Dl.wrote]
        split
        · rename_i hk
          rw [hmr k hk]
          rfl
        · rename_i hk
          have := congrFun hhid k
          simp only [if_neg hk] at this
          rw [this]
          simp only [HP.get]
          cases PM.get none lay k <;> rfl
      · rw [e1] at hg
        refine skip_sound ho' q1 hg hE ?_
        refine hgo _ _ _ (fun k => ?_) ((by rw [hxx]; exact hrel.step hI0 hst0 hE Step.refl hdst undef_sound))
        rw [hxx]
        rfl
    | nxt _ _ => exact q4.elim
    | bad => exact q4.elim

theorem noDupB_inj : ∀ {l : List Nat}, noDupB l = true → ∀ {p q : Nat}, p < l.length → q < l.length → l.getD p 0 = l.getD q 0 → p = q
  | [], _, p, q, hp, _, _ => by simp at hp
  | a :: l, h, p, q, hp, hq, e => by
    simp only [noDupB, Bool.and_eq_true, Bool.not_eq_true', List.contains_eq_mem, decide_eq_false_iff_not] at h
    have mem : ∀ i, i < l.length → l.getD i 0 ∈ l := fun i hi => by
      rw [List.getD_eq_getElem?_getD, List.getElem?_eq_getElem hi]
      exact List.getElem_mem hi
    cases p with
    | zero =>
      cases q with
      | zero => rfl
      | succ q =>
        exfalso
        simp only [List.getD_cons_zero, List.getD_cons_succ] at e
        exact h.1 (by rw [e]; exact mem q (by simpa using hq))
    | succ p =>
      cases q with
      | zero =>
        exfalso
        simp only [List.getD_cons_zero, List.getD_cons_succ] at e
        exact h.1 (by rw [← e]; exact mem p (by simpa using hp))
      | succ q =>
        simp only [List.getD_cons_succ] at e
        rw [noDupB_inj h.2 (by simpa using hp) (by simpa using hq) e]

theorem nth_get {α : Type} : ∀ (l : List α) (i : Nat), nth l i = l[i]?
  | [], i => by cases i <;> rfl
  | a :: l, 0 => rfl
  | a :: l, i + 1 => by simpa [nth] using nth_get l i
theorem pairsOk_mem {infs : List Inf} : ∀ {ps : List (Nat × Nat)}, pairsOk infs ps = true → ∀ p ∈ ps, pairOk infs p = true
  | [], _, p, hp => by cases hp
  | q :: ps, h, p, hp => by
    simp only [pairsOk] at h
    cases hb : pairOk infs q with
    | false => rw [hb] at h; cases h
    | true =>
      rw [hb] at h
      rcases List.mem_cons.1 hp with rfl | hp
      · exact hb
      · exact pairsOk_mem h p hp

theorem drawn_sound {ro : Option Nat} {n : Nat} (hm : P.follows .mixedOrders = true) (hnd : ∀ o ∈ ops.toList, NoDef ro o) (hI0 : Inv B W φ0 h0 w0) (hG : GlOk Gl P B W) (ckok : CkOk P Gl B ck Γ) (hcx : Ctx Γ φ0 w0) {id : Nat} {cs : List OP} {ps : List (Nat × Nat)}
    (hps : pairsOf ops.toList (cOps P Gl nt ops.toList ops.toList) (befores ops.toList []) ord = some ps) (hcs : cs = ord.map fun i => (cOps P Gl nt ops.toList ops.toList).getD i .bad) {e e' : Env} {d d1 d' : DM} {n0 n2 n' : Pos} (hrv : resvD b cs d n0 = some (rs, d1, n2)) (hrt : runT ck b rs cs e d1 n0 n2 = .ok infs e' d' n') (hpo : pairsOk infs ps = true) {a : Act} {w : World} (hr : Rl B lo φ0 h0 w0 nt e (HP.ov b d).get a w) :
    (Code.region id ops true).wpIn (RF ro) n P (NPost B lo φ0 h0 w0 nt e' (HP.ov b d').get) a w := by
  unfold pairsOf at hps
  simp only at hps
  split at hps
  · rename_i hchk
    simp only [Bool.and_eq_true] at hchk
    obtain ⟨⟨⟨⟨⟨c1, c2⟩, c3⟩, c4⟩, c5⟩, c6⟩ := hchk
    simp only [Option.some.injEq] at hps
    have c2 := Nat.eq_of_beq_eq_true c2
    simp only [Array.length_toList] at c2 c4 c5
    have olt : ∀ p, p < ops.size → ord.getD p 0 < ops.size := fun p hp => by
      rw [List.all_eq_true] at c5
      have := c5 (ord.getD p 0) (by
        rw [List.getD_eq_getElem?_getD, List.getElem?_eq_getElem (by omega)]
        exact List.getElem_mem (by omega))
      exact of_decide_eq_true this
    have csg : ∀ p o, p < ops.size → ops[ord.getD p 0]? = some o → cs[p]? = some (cOp P Gl nt ops.toList o) := fun p o hp ho => by
      rw [hcs, List.getElem?_map, List.getElem?_eq_getElem (by omega)]
      simp only [Option.map_some, Option.some.injEq]
      have e1 : ord[p]'(by omega) = ord.getD p 0 := by rw [List.getD_eq_getElem?_getD, List.getElem?_eq_getElem (by omega)]; rfl
      rw [e1, List.getD_eq_getElem?_getD, cOps_get, Array.getElem?_toList, ho]
      rfl
    have ox : OrdX P Gl nt ops ord cs := ⟨by rw [hcs]; simp [c2], csg, fun p q hp hq => noDupB_inj c3 (by omega) (by omega), fun i hi => by
      rw [List.all_eq_true] at c4
      have := c4 i (List.mem_range.2 hi)
      simp only [List.contains_eq_mem, decide_eq_true_eq] at this
      obtain ⟨p, hp, e⟩ := List.getElem_of_mem this
      exact ⟨p, by omega, by rw [List.getD_eq_getElem?_getD, List.getElem?_eq_getElem hp]; exact e⟩, c1, olt⟩
    have hll := ox.llen
    obtain ⟨r1, r2, r3⟩ := resvD_spec _ _ _ _ _ _ hrv
    obtain ⟨ds, t1, t2, t3⟩ := runT_spec _ _ _ _ _ _ _ _ _ hrt
    have hdr : Dr ck b rs cs infs ds ⟨e, d1⟩ n0 (befP ops ord) := by
      refine ⟨t1, t3, fun p q hpq hq => ?_, fun k hk => (r1 k hk).2, r3⟩
      by_cases hb : befP ops ord p q
      · exact .inl hb
      · refine .inr ?_
        have hmem : (p, q) ∈ (List.range ord.length).flatMap fun q => ((List.range q).filter fun p => openB (befores ops.toList []) ord p q).map fun p => (p, q) := by
          rw [List.mem_flatMap]
          refine ⟨q, List.mem_range.2 (by omega), List.mem_map.2 ⟨p, ?_, rfl⟩⟩
          rw [List.mem_filter]
          refine ⟨List.mem_range.2 hpq, ?_⟩
          unfold openB
          unfold befP at hb
          simpa using hb
        rw [List.all_eq_true] at c6
        have h1 := c6 _ hmem
        have h2 := pairsOk_mem hpo (p, q) (by rw [← hps]; exact hmem)
        simp only [pairOk, nth_get] at h2
        have hop : ops[ord.getD p 0]? = some (ops[ord.getD p 0]'(olt p (by omega))) := by simp [olt p (by omega)]
        have hoq : ops[ord.getD q 0]? = some (ops[ord.getD q 0]'(olt q (by omega))) := by simp [olt q (by omega)]
        simp only [apartO, cOps_get, Array.getElem?_toList, hop, hoq, Option.map_some, Bool.and_eq_true] at h1
        split at h2
        · rename_i ia hia
          split at h2
          · rename_i ic hic
            exact ⟨_, _, _, _, csg p _ (by omega) hop, csg q _ (by omega) hoq, h1.1, hia, hic, h2⟩
          · cases h2
        · cases h2
    obtain ⟨φ, hs, hE⟩ := hr.ex
    have hI := hs.2.1 _ hI0
    have hkeep : Step B φ (HP.ov b d).get w φ (HP.ov b d1).get w := none_res (F := fun k => k ∈ rs) (fun k hk => (r1 k hk).1) (fun k hk => (r1 k hk).2) r2
    have hR : Rl B lo φ (HP.ov b d).get w nt e (HP.ov b d1).get a w := ⟨⟨φ, hkeep, hE⟩, hr.sz, hr.df⟩
    have main := draw_any (ro := ro) (n := n) hnd hI hG ckok (hcx.more hI0 hs) (fun r hrm => hI.free (r1 r hrm).1) ox hdr ops.size (Array.replicate ops.size false) a { w with drawn := w.drawn + 1 } (by simp) (fun j hj => by
        have hj : (Array.replicate ops.size false).getD j false = true := hj
        rw [rep_false] at hj
        cases hj) (Nat.le_trans (List.length_filter_le _ _) (by simp)) (by
        rw [show stT ds (Dp ord (Array.replicate ops.size false)) ⟨e, d1⟩ cs.length = ⟨e, d1⟩ from stT_none fun j hj => rep_false _ _]
        refine ⟨⟨φ, ?_, hE⟩, hr.sz, hr.df⟩
        exact hkeep.trans ⟨Gx.le.refl _, fun W h => h.drewW, fun k hk => hk⟩)
    rw [show stT ds allT ⟨e, d1⟩ cs.length = ⟨e', d'⟩ from t2] at main
    refine wpIn_mono (wpIn_region_any hm main) fun ex a' w' hn => ?_
    cases ex with
    | normal =>
      have hn : Rl B lo φ (HP.ov b d).get w nt e' (HP.ov b d').get a' w' := hn
      obtain ⟨ψ, g1, g2⟩ := hn.ex
      exact ⟨⟨ψ, hs.trans g1, g2⟩, hn.sz, hn.df⟩
    | _ => exact hn.elim
  · cases hps

theorem plain_sound {ro : Option Nat} {n : Nat} (hnd : ∀ o ∈ ops.toList, NoDef ro o) (hI0 : Inv B W φ0 h0 w0) (hG : GlOk Gl P B W) (ckok : CkOk P Gl B ck Γ) (hcx : Ctx Γ φ0 w0) {id : Nat} {e e' : Env} {d d' : DM} {n0 n' : Pos} (hrun : runOps ck b (cOps P Gl nt ops.toList ops.toList) e d n0 = .ok e' d' n') {a : Act} {w : World} (hr : Rl B lo φ0 h0 w0 nt e (HP.ov b d).get a w) :
    (Code.region id ops false).wpIn (RF ro) n P (NPost B lo φ0 h0 w0 nt e' (HP.ov b d').get) a w := by
  refine wpIn_region ?_
  have := runOps_sound (ro := ro) (n := n) (Q := NPost B lo φ0 h0 w0 nt e' (HP.ov b d').get) hI0 hG ckok hcx hnd (fun _ _ h => h) ops.toList 0 e d n0 a w (by simp) hrun hr
  rw [List.range_eq_range']
  simpa using this

end
end Go.Proofs.YtdjhicbhegaenaaGreatDoor.Clo
namespace Go.Proofs.YtdjhicbhegaenaaGreatDoor.Clo
open Go Go.RowKit
open Go.ChangeMaps (setBlock)

section
variable {L : Pos → Nat → Option Loc} {V : Pos → Option Value} {M M' : Pos → Option Nat}
theorem den_mu (c : CV) : den ⟨L, V, M⟩ c = den ⟨L, V, M'⟩ c := by cases c <;> rfl
theorem dens_mu : ∀ l : List CV, dens ⟨L, V, M⟩ l = dens ⟨L, V, M'⟩ l
  | [] => rfl
  | c :: l => by simp only [dens]; rw [den_mu (M := M) (M' := M') c, dens_mu l]
theorem denP_mu : ∀ p : PV, denP ⟨L, V, M⟩ p = denP ⟨L, V, M'⟩ p
  | .one c => den_mu c
  | .agg l => by simp only [denP]; rw [dens_mu (M := M) (M' := M') l]
theorem denPs_mu : ∀ l : List PV, denPs ⟨L, V, M⟩ l = denPs ⟨L, V, M'⟩ l
  | [] => rfl
  | c :: l => by simp only [denPs]; rw [denP_mu (M := M) (M' := M') c, denPs_mu l]
theorem RT_mu {t : TV} {v : Value} (h : RT ⟨L, V, M⟩ t v) : RT ⟨L, V, M'⟩ t v := by
  cases t with
  | unk => trivial
  | pv p => exact (denP_mu p).symm.trans h
  | tup l => obtain ⟨vs, h1, h2⟩ := h; exact ⟨vs, (denPs_mu l).symm.trans h1, h2⟩
theorem ER_mu {e : Env} {tmps : Array Value} (h : ER ⟨L, V, M⟩ e tmps) : ER ⟨L, V, M'⟩ e tmps := fun t ht => RT_mu (h t ht)
end

theorem ObOk.mu {φ : Gx} {w : World} {B : Nat} {k : Pos} {o : EO} (h : ObOk φ w B k o) {μ : Pos → Option Nat} (hm : μ k = φ.mu k) : ObOk ⟨φ.loc, φ.val, μ⟩ w B k o := by
  cases o with
  | none => exact ⟨h.1, h.2.1, hm.trans h.2.2⟩
  | row e s el len gen fz =>
    obtain ⟨h0, h1, hmm, h2, h3⟩ := h
    refine ⟨h0, h1, hmm, h2, fun g hg => ?_⟩
    obtain ⟨l, q1, ⟨r1, r2, arr, fr, r3, r4, r5, r6⟩, q3⟩ := h3 g hg
    exact ⟨l, q1, ⟨r1, r2, arr, fr, r3, r4, r5, fun i hi hm => ⟨(r6 i hi hm).1, (r6 i hi hm).2.1, fun j c hc => let ⟨v, p1, p2⟩ := (r6 i hi hm).2.2 j c hc; ⟨v, p1, (den_mu c).trans p2⟩⟩⟩, q3⟩
  | map es clock =>
    obtain ⟨h1, l, vs, q1, q2, q3, q4⟩ := h
    exact ⟨h1, l, vs, q1, q2, q3, q4.1, fun i e he => let ⟨v, p1, p2, p3, p4⟩ := q4.2 i e he; ⟨v, p1, (denP_mu _).trans p2, (denP_mu _).trans p3, p4⟩⟩
  | mit m since seen stepped => exact h
  | mitU m since bs st =>
    obtain ⟨h1, l, l', seen, stepped, n, q1, q2, q3, q4, q5, q6, q7⟩ := h
    exact ⟨h1, l, l', seen, stepped, n, q1, q2, q3, q4, q5, hm.trans q6, q7⟩
  | sit s p => exact h
  | clo fn first caps =>
    obtain ⟨h1, a, b, q1, q2, q3⟩ := h
    exact ⟨h1, a, b, (denPs_mu _).trans q1, (denPs_mu _).trans q2, q3⟩
  | ifc t v =>
    obtain ⟨h1, u, q1, q2⟩ := h
    exact ⟨h1, u, (denP_mu _).trans q1, q2⟩
  | emp => exact h
  | yld => exact h
  | dead => exact h
  | res => exact h

section
variable {φ ψ : Gx}
theorem den_up (hl : ∀ k g l, φ.loc k g = some l → ψ.loc k g = some l) (hv : ∀ k v, φ.val k = some v → ψ.val k = some v) {c : CV} {v : Value} (h : den φ c = some v) : den ψ c = some v :=
  den_mono (φ := ⟨φ.loc, φ.val, fun _ => none⟩) ⟨hl, hv, fun _ _ h => by cases h⟩ ((den_mu c).trans h)
theorem denP_up (hl : ∀ k g l, φ.loc k g = some l → ψ.loc k g = some l) (hv : ∀ k v, φ.val k = some v → ψ.val k = some v) {c : PV} {v : Value} (h : denP φ c = some v) : denP ψ c = some v :=
  denP_mono (φ := ⟨φ.loc, φ.val, fun _ => none⟩) ⟨hl, hv, fun _ _ h => by cases h⟩ ((denP_mu c).trans h)
theorem den_back (hl : ∀ k g l, φ.loc k g = some l → ψ.loc k g = some l) (hv : ∀ k v, φ.val k = some v → ψ.val k = some v) {c : CV} {v v' : Value} (h : den φ c = some v) (h' : den ψ c = some v') : v = v' := by
  have := den_up hl hv h
  rw [h'] at this
  exact (Option.some.inj this).symm
theorem denP_back (hl : ∀ k g l, φ.loc k g = some l → ψ.loc k g = some l) (hv : ∀ k v, φ.val k = some v → ψ.val k = some v) {c : PV} {v v' : Value} (h : denP φ c = some v) (h' : denP ψ c = some v') : v = v' := by
  have := denP_up hl hv h
  rw [h'] at this
  exact (Option.some.inj this).symm

/-- What nothing was done to is as it was, also as it was known. -/
theorem ObOk.back (hl : ∀ k g l, φ.loc k g = some l → ψ.loc k g = some l) (hv : ∀ k v, φ.val k = some v → ψ.val k = some v) {w w' : World} {B : Nat} {k : Pos} {o : EO} (hm : ∀ n, φ.mu k = some n → ψ.mu k = some n) (h : ObOk φ w B k o) (h' : ObOk ψ w' B k o) : ObOk φ w' B k o := by
  cases o with
  | none => exact h
  | row e s el len gen fz =>
    obtain ⟨h0, h1, hmm, h2, h3⟩ := h
    obtain ⟨_, _, _, _, h3'⟩ := h'
    refine ⟨h0, h1, hmm, h2, fun g hg => ?_⟩
    obtain ⟨l, q1, ⟨r1, r2, arr, fr, r3, r4, r5, r6⟩, q3⟩ := h3 g hg
    obtain ⟨l', q1', ⟨_, _, arr', fr', r3', r4', r5', r6'⟩, _⟩ := h3' g hg
    rw [hl _ _ _ q1] at q1'
    injection q1' with q1'
    subst q1'
    refine ⟨l, q1, ⟨r1, r2, arr', fr', r3', r4', r5', fun i hi hmi => ⟨(r6 i hi hmi).1, (r6 i hi hmi).2.1, fun j c hc => ?_⟩⟩, q3⟩
    obtain ⟨v, _, p2⟩ := (r6 i hi hmi).2.2 j c hc
    obtain ⟨v', p1', p2'⟩ := (r6' i hi hmi).2.2 j c hc
    have := den_back hl hv p2 p2'
    subst this
    exact ⟨v, p1', p2⟩
  | map es clock =>
    obtain ⟨h1, l, vs, q1, q2, q3, q4⟩ := h
    obtain ⟨_, l', vs', q1', _, q3', q4'⟩ := h'
    rw [hl _ _ _ q1] at q1'
    injection q1' with q1'
    subst q1'
    refine ⟨h1, l, vs', q1, q2, q3', q4'.1, fun i e he => ?_⟩
    obtain ⟨v, p1, p2, p3, p4⟩ := q4.2 i e he
    obtain ⟨v', p1', p2', p3', p4'⟩ := q4'.2 i e he
    exact ⟨v', p1', by rw [p2, denP_back hl hv p2 p2'], by rw [p3, denP_back hl hv p3 p3'], p4'⟩
  | mit m since seen stepped =>
    obtain ⟨h1, l, q1, q2, q3⟩ := h
    obtain ⟨_, l', q1', _, q3'⟩ := h'
    rw [hl _ _ _ q1] at q1'
    injection q1' with q1'
    subst q1'
    refine ⟨h1, l, q1, q2, ?_⟩
    cases m with
    | none => exact q3'
    | some m =>
      obtain ⟨l2, q4, q5⟩ := q3
      obtain ⟨l2', q4', q5'⟩ := q3'
      rw [hl _ _ _ q4] at q4'
      injection q4' with q4'
      subst q4'
      exact ⟨l2, q4, q5'⟩
  | mitU m since bs st =>
    obtain ⟨h1, l, l2, seen, stepped, n, q1, q2, q3, q4, q5, q6, q7⟩ := h
    obtain ⟨_, l', l2', seen', stepped', n', q1', _, q3', q4', q5', q6', q7'⟩ := h'
    rw [hl _ _ _ q1] at q1'
    injection q1' with q1'
    subst q1'
    rw [hl _ _ _ q3] at q3'
    injection q3' with q3'
    subst q3'
    rw [hm _ q6] at q6'
    injection q6' with q6'
    subst q6'
    exact ⟨h1, l, l2, seen', stepped', n, q1, q2, q3, q4', q5', q6, q7'⟩
  | sit s p =>
    obtain ⟨h1, h2, l, q1, q2, q3⟩ := h
    obtain ⟨_, _, l', q1', _, q3'⟩ := h'
    rw [hl _ _ _ q1] at q1'
    injection q1' with q1'
    subst q1'
    exact ⟨h1, h2, l, q1, q2, q3'⟩
  | clo fn first caps => exact h
  | ifc t v => exact h
  | emp => exact h
  | dead => exact fun g l q => ⟨(h g l q).1, (h' g l (hl _ _ _ q)).2⟩
  | res => exact fun g l q => ⟨(h g l q).1, (h' g l (hl _ _ _ q)).2⟩
  | yld =>
    obtain ⟨h1, l, q1, q2, q3, r, q4⟩ := h
    obtain ⟨_, l', q1', _, _, r', q4'⟩ := h'
    rw [hl _ _ _ q1] at q1'
    injection q1' with q1'
    subst q1'
    exact ⟨h1, l, q1, q2, q3, r', q4'⟩
end

def Gx.setMu (φ : Gx) (k : Pos) (n : Nat) : Gx := ⟨φ.loc, φ.val, fun q => if q = k then some n else φ.mu q⟩
/-- How many entries are not seen yet. -/
def cntU (bs : List Nat) (seen : Array Nat) : Nat := (bs.filter fun b => !seen.contains b).length

section
variable {P : Program} {Gl : Nat → TypeId → Option Value} {B lo : Nat} {W : W0} {φ φ0 ψ : Gx} {h h' h0 : Pos → EO} {w w' w0 : World} {it m : Pos} {since sp nt : Nat} {bs : List Nat}

/-- In a round, only so much is known of the iterator. -/
theorem toU {seen : List Nat} {c : Nat} (hI : Inv B W φ h w) (hit : h it = .mit (some m) since (seen ++ [c]) sp) (hsp : since ≤ sp) : Inv B ⟨w, φ.setMu it (cntU bs (seen ++ [c]).toArray + 1)⟩ (φ.setMu it (cntU bs (seen ++ [c]).toArray + 1)) (upd h it (.mitU m since bs (some (c, sp)))) w := by
  refine ⟨Below.refl _ _, Kp.refl _, Gx.le.refl _, fun _ _ => ⟨fun _ => rfl, rfl, rfl, fun _ _ _ => rfl⟩, hI.size, fun k => ?_, hI.sep⟩
  by_cases e : it = k
  · subst e
    rw [upd_self]
    have := hI.obj it
    rw [hit] at this
    obtain ⟨h1, l, q1, q2, l', q3, q4⟩ := this
    refine ⟨h1, l, l', (seen ++ [c]).toArray, sp, _, q1, q2, q3, q4, hsp, if_pos rfl, Nat.le_refl _, fun p hp => ?_⟩
    injection hp with hp
    subst hp
    exact ⟨by simp, rfl⟩
  · rw [upd_ne _ _ e]
    exact (hI.obj k).mu (if_neg fun e' => e e'.symm)

/-- What was made in a round is forgotten. -/
theorem forget {n0 : Nat} (hm0 : ∃ l, φ.loc m 0 = some l) (hl0 : ∃ l, φ.loc it 0 = some l) (h1it : ∀ g, 0 < g → φ.loc it g = none) (J : Inv B ⟨w, φ.setMu it n0⟩ ψ h' w') (hle : (φ.setMu it n0).le ψ) (hoth : ∀ k, k ≠ it → h' k = h k ∨ h k = .none) (hit' : ∃ p, h' it = .mitU m since bs (some p)) :
    ∃ seen' sp', since ≤ sp' ∧ cntU bs seen'.toArray + 1 ≤ n0 ∧ ∀ W, Inv B W φ h w → Inv B W φ (upd h it (.mit (some m) since seen' sp')) w' := by
  obtain ⟨p, hit'⟩ := hit'
  have ho := J.obj it
  rw [hit'] at ho
  obtain ⟨_, l, l', seen', sp', n', q1, q2, q3, q4, q5, q6, q7, _⟩ := ho
  obtain ⟨lm, hm0⟩ := hm0
  obtain ⟨li, hl0⟩ := hl0
  have e1 : li = l := by have := hle.loc it 0 li hl0; rw [q1] at this; exact (Option.some.inj this).symm
  have e2 : lm = l' := by have := hle.loc m 0 lm hm0; rw [q3] at this; exact (Option.some.inj this).symm
  have e3 : n' = n0 := by
    have := hle.mu it n0 (if_pos rfl)
    rw [q6] at this
    exact Option.some.inj this
  subst e1; subst e2; subst e3
  refine ⟨seen'.toList, sp', q5, by rw [Array.toArray_toList]; exact q7, fun W hI => ⟨hI.below.trans J.below, hI.kp.trans J.kp, hI.le, fun k hk => ?_, J.size, fun k => ?_, hI.sep⟩⟩
  · by_cases e : it = k
    · subst e; rw [upd_self] at hk; cases hk
    · rw [upd_ne _ _ e] at hk
      obtain ⟨b1, b2, b3, b4⟩ := hI.res k hk
      rcases hoth k (fun e' => e e'.symm) with h2 | h2
      · obtain ⟨a1, a2, a3, a4⟩ := J.res k (by rw [h2]; exact hk)
        exact ⟨b1, b2, b3, fun g l hl => (a4 g l ((a1 g).trans hl)).trans (b4 g l hl)⟩
      · rw [h2] at hk; cases hk
  · by_cases e : it = k
    · subst e
      rw [upd_self]
      exact ⟨h1it, li, hl0, q2, lm, hm0, by rw [Array.toArray_toList]; exact q4⟩
    · rw [upd_ne _ _ e]
      rcases hoth k (fun e' => e e'.symm) with h2 | h2
      · have hj := J.obj k
        rw [h2] at hj
        exact ObOk.back (φ := φ) (ψ := ψ) (w := w) (fun k g l h => hle.loc k g l h) (fun k v h => hle.val k v h) (fun n hn => hle.mu k n ((if_neg fun e' => e e'.symm).trans hn)) (hI.obj k) hj
      · have := hI.free h2
        rw [h2]
        exact this

theorem nxt_hex {a : Act} {o : Oper} {x : Operand} (ho : o.op = .next x false) {v : Value} {w' : World} (hr : (Instr.next (a.eval x) false o.type).run P w = .ok v w') {K : Act → World → Prop} {Q : Exit → Act → World → Prop} (hK : K (a.put o.dst v) w') : o.wp P a w K Q := by
  unfold Oper.wp
  have : (execOp a.eval o).run P w = .ok (.value v) w' := by
    unfold execOp
    simp [ho, hr]
  rw [this]
  exact hK

/-- The next entry of a map: any that was not seen yet. -/
theorem next_many {a : Act} {o : Oper} (hI : Inv B W φ h w) {x : Operand} (ho : o.op = .next x false) {g : Nat} (hv : RT φ (.pv (.one (.ptr it g 0))) (a.eval x)) {seen : List Nat} {es : List ME} {clock : Nat} (hit : h it = .mit (some m) since seen sp) (hm : h m = .map es clock) (hold : es.all (fun x => Nat.blt x.born since) = true) (hsp : since ≤ sp) {K : Act → World → Prop} {Q : Exit → Act → World → Prop}
    (hover : ∀ v, RT φ tOver v → K (a.put o.dst v) w)
    (hnext : ∀ y ∈ es, seen.toArray.contains y.born = false → ∀ v w1, RT φ (tNext y.key y.val) v → Step B φ h w φ (upd h it (.mit (some m) since (seen ++ [y.born]) clock)) w1 → K (a.put o.dst v) w1) : o.wp P a w K Q := by
  have hob := hI.obj it
  rw [hit] at hob
  obtain ⟨g1, l, q1, q2, lm, q3, q4⟩ := hob
  have hom := hI.obj m
  rw [hm] at hom
  obtain ⟨_, l2, vs, y1, y2, y3, y4⟩ := hom
  rw [q3] at y1
  injection y1 with y1
  subst y1
  have hbold : ∀ x ∈ vs.toList, x.born < since := fun z hz => by
    obtain ⟨i, hi⟩ := List.getElem?_of_mem hz
    have hlt : i < es.length := by have := (List.getElem?_eq_some_iff.1 hi).1; have := y4.1; omega
    obtain ⟨me, z1, _, _, z4⟩ := y4.2 i es[i] (List.getElem?_eq_getElem hlt)
    rw [hi] at z1
    injection z1 with z1
    subst z1
    rw [z4]
    exact blt_t.1 (List.all_eq_true.1 hold _ (List.getElem_mem hlt))
  have hp := it_ptr hI hv q1 g1
  rcases run_next_at (P := P) w o.type l.b lm.b since sp seen.toArray vs clock q4 y3 hbold hsp with ⟨_, hr⟩ | ⟨e, he, w1, hw1, hr⟩
  · exact nxt_hex ho (by rw [hp]; exact hr) (hover _ ⟨_, rfl, rfl⟩)
  · unfold leftOf at he
    have hmem : e ∈ vs ∧ (!seen.toArray.contains e.born) = true := by
      have := Array.mem_toList_iff.1 he
      exact Array.mem_filter.1 this
    obtain ⟨i, hi⟩ := List.getElem?_of_mem (Array.mem_toList_iff.2 hmem.1)
    have hlt : i < es.length := by have := (List.getElem?_eq_some_iff.1 hi).1; have := y4.1; omega
    obtain ⟨me, z1, z2, z3, z4⟩ := y4.2 i es[i] (List.getElem?_eq_getElem hlt)
    rw [hi] at z1
    injection z1 with z1
    subst z1
    refine nxt_hex ho (by rw [hp]; exact hr) (hnext es[i] (List.getElem_mem hlt) (by rw [← z4]; simpa using hmem.2) _ _ ⟨_, denPs_mk rfl (denPs_mk z2 (denPs_mk z3 rfl)), rfl⟩ ?_)
    have hI1 : Step B φ h w φ h w1 := by
      rcases hw1 with rfl | rfl
      · exact Step.refl
      · exact ⟨Gx.le.refl _, fun W h => h.drew, fun k hk => hk⟩
    refine hI1.trans ?_
    have hq4 : w1.heap[l.b]? = some (.mapIter (some lm.b) since seen.toArray sp) := by rcases hw1 with rfl | rfl <;> exact q4
    refine ⟨Gx.le.refl _, fun W hI => ?_, fun k hk => ?_⟩
    · refine hI.setO q1 g1 (ob := .mapIter (some lm.b) since seen.toArray sp) hq4 rfl ⟨g1, l, q1, q2, lm, q3, ?_⟩
      rw [(MapKept.heap_set hq4).1, z4]
      simp
    · by_cases e : it = k
      · subst e; rw [upd_self] at hk; cases hk
      · rwa [upd_ne _ _ e] at hk

end

theorem dropE_get : ∀ (l : List Pos) (e : Env) (t : Pos), (dropE l e).get .unk t = .unk ∨ (dropE l e).get .unk t = e.get .unk t
  | [], _, _ => .inr rfl
  | p :: l, e, t => by
    simp only [dropE]
    rcases dropE_get l (PM.set .unk p e .unk) t with h | h
    · exact .inl h
    · rw [h, PM.get_set]
      simp only [upd]
      split
      · exact .inl rfl
      · exact .inr rfl
theorem dropT_get : ∀ (e : Env) (t : Pos), (dropT e).get .unk t = .unk ∨ (dropT e).get .unk t = e.get .unk t
  | .leaf, _ => .inr rfl
  | .node l a r, .e => by
    simp only [dropT, PM.get]
    split
    · exact .inl rfl
    · exact .inr rfl
  | .node l a r, .o p => dropT_get l p
  | .node l a r, .i p => dropT_get r p
theorem ER.weak {φ : Gx} {e e' : Env} {tmps : Array Value} (h : ER φ e tmps) (hw : ∀ t, e'.get .unk t = .unk ∨ e'.get .unk t = e.get .unk t) : ER φ e' tmps := fun t ht => by
  rcases hw (pos t) with h1 | h1
  · rw [h1]; trivial
  · rw [h1]; exact h t ht
theorem ER.drop {φ : Gx} {e : Env} {tmps : Array Value} (h : ER φ e tmps) (l : List Pos) : ER φ (dropE l (dropT e)) tmps := (h.weak (dropT_get e)).weak (dropE_get l _)
theorem subE_get : ∀ {e e' : Env}, subE e e' = true → ∀ t, tvSub (e.get .unk t) (e'.get .unk t) = true
  | .leaf, _, _, t => rfl
  | .node l a r, .leaf, h, t => by
    simp only [subE, Bool.and_eq_true] at h
    cases t with
    | e => exact h.1.1
    | o p => exact subE_get h.1.2 p
    | i p => exact subE_get h.2 p
  | .node l a r, .node l' a' r', h, t => by
    simp only [subE, Bool.and_eq_true] at h
    cases t with
    | e => exact h.1.1
    | o p => exact subE_get h.1.2 p
    | i p => exact subE_get h.2 p
theorem tvSub_pv {a a' : TV} (h : tvSub a a' = true) : a = .unk ∨ ∃ p, a = .pv p ∧ a' = .pv p := by
  unfold tvSub at h
  split at h
  · exact .inl rfl
  · split at h
    · rw [cvEq_eq h]; exact .inr ⟨_, rfl, rfl⟩
    · cases h
  · split at h
    · rw [cvsEq_eq h]; exact .inr ⟨_, rfl, rfl⟩
    · cases h
  · cases h
/-- What was known before a round is known after it. -/
theorem ER.back {φ ψ : Gx} (hl : ∀ k g l, φ.loc k g = some l → ψ.loc k g = some l) (hv : ∀ k v, φ.val k = some v → ψ.val k = some v) {e e' : Env} {tmps tmps' : Array Value} (h0 : ER φ e tmps) (h1 : ER ψ e' tmps') (hs : subE e e' = true) : ER φ e tmps' := fun t ht => by
  rcases tvSub_pv (subE_get hs (pos t)) with h | ⟨p, h, h'⟩
  · rw [h]; trivial
  · have a := h0 t ht
    have b := h1 t ht
    rw [h] at a ⊢
    rw [h'] at b
    have a : denP φ p = some _ := a
    have b : denP ψ p = some _ := b
    show denP φ p = some _
    rw [a, denP_back hl hv a b]
theorem allO_get {it : Pos} {h : Pos → EO} : ∀ {d : DM} {c : Pos → Pos}, allO it h d c = true → ∀ p o, PM.get none d p = some o → h (c p) = .none ∨ c p = it
  | .leaf, _, _, p, o, hp => by cases hp
  | .node l a r, c, hall, p, o, hp => by
    simp only [allO, Bool.and_eq_true] at hall
    cases p with
    | e =>
      have h1 := hall.1.1
      cases a with
      | none => cases hp
      | some o' =>
        simp only at h1
        split at h1
        · rename_i hn; exact .inl hn
        · exact .inr (Pos.beq_iff.1 h1)
    | o p => exact allO_get hall.1.2 p o hp
    | i p => exact allO_get hall.2 p o hp
theorem eachE_mem {f : ME → RX} {ok : Env → DM → Bool} : ∀ {es : List ME}, eachE f ok es = true → ∀ y ∈ es, ∃ e d n, f y = .ok .normal e d n ∧ ok e d = true
  | [], _, y, hy => by cases hy
  | x :: es, h, y, hy => by
    simp only [eachE] at h
    split at h
    · rename_i e d n hf
      cases hb : ok e d with
      | false => rw [hb] at h; cases h
      | true =>
        rw [hb] at h
        rcases List.mem_cons.1 hy with rfl | hy
        · exact ⟨e, d, n, hf, hb⟩
        · exact eachE_mem h y hy
    · cases h
theorem sameU_spec {m : Pos} {since : Nat} {bs : List Nat} {o : EO} (h : sameU m since bs o = true) : ∃ p, o = .mitU m since bs (some p) := by
  unfold sameU at h
  split at h
  · rename_i m' s' b' p
    simp only [Bool.and_eq_true, Pos.beq_iff, beq_t] at h
    obtain ⟨⟨rfl, rfl⟩, h⟩ := h
    have lse : ∀ {l m : List Nat}, lsEq l m = true → l = m := by
      intro l
      induction l with
      | nil => intro m h; cases m with | nil => rfl | cons _ _ => cases h
      | cons x l ih =>
        intro m h
        cases m with
        | nil => cases h
        | cons y m =>
          simp only [lsEq] at h
          cases hb : Nat.beq x y with
          | false => rw [hb] at h; cases h
          | true => rw [hb] at h; rw [Nat.eq_of_beq_eq_true hb, ih h]
    rw [lse h]
    exact ⟨p, rfl⟩
  · cases h

end Go.Proofs.YtdjhicbhegaenaaGreatDoor.Clo
