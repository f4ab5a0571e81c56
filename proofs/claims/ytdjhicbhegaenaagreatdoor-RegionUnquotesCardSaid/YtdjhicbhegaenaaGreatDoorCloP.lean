/- Closed runs: maps. -/
import Derived.Test.YtdjhicbhegaenaaGreatDoorCloO
import Derived.MapKept
namespace Go.Proofs.YtdjhicbhegaenaaGreatDoor.Clo
open Go Go.RowKit

section
variable {P : Program} {B : Nat} {w0 : W0} {φ : Gx} {h : Pos → EO} {w : World} {o : Oper} {a : Act}

theorem eqP_inv {ks : List CK} {agg : Bool} {p q : PV} {r : Bool} (h : eqP ks agg p q = some r) : p.isAgg = agg ∧ q.isAgg = agg ∧ eqL ks p.cells q.cells = some r := by
  unfold eqP at h
  split at h
  · cases agg with
    | true => cases h
    | false => exact ⟨rfl, rfl, h⟩
  · cases agg with
    | true => exact ⟨rfl, rfl, h⟩
    | false => cases h
  · cases h

theorem key_eq {t : TypeId} {ks : List CK} {agg : Bool} (hk : ckOfT P 20 t = some ks) (ha : agg = isSt (P.underlying t)) {p q : PV} {vx vy : Value} {r : Bool} (hx : denP φ p = some vx) (hy : denP φ q = some vy) (he : eqP ks agg p q = some r) : (Op.equal t vx vy).run P w = .ok r w := by
  obtain ⟨h1, h2, h3⟩ := eqP_inv he
  exact eq_flat (P := P) (w := w) 20 9980 t ks hk p q vx vy r hx hy (h1.trans ha) (h2.trans ha) h3

theorem eqL_true : ∀ {ks : List CK} {l m : List CV}, eqL ks l m = some true → l = m
  | [], [], [], _ => rfl
  | k :: ks, a :: l, b :: m, h => by
    simp only [eqL] at h
    split at h
    · rename_i x y h1 h2
      simp only [Option.some.injEq] at h
      cases x with
      | false => cases h
      | true =>
        have h : y = true := h
        subst h
        rw [eqL_true h2]
        congr 1
        cases k <;> cases a <;> cases b <;> simp only [eqC] at h1 <;> first | (cases h1; done) | skip
        · rename_i a b
          cases a <;> cases b <;> simp_all
        · rename_i k k1 a k2 b
          cases hkk : (kq k k1 && kq k k2) with
          | false => rw [hkk] at h1; cases h1
          | true =>
            rw [hkk] at h1
            simp only [Bool.and_eq_true] at hkk
            have e1 := kq_eq hkk.1
            have e2 := kq_eq hkk.2
            subst e1; subst e2
            simp only [cond_true, Option.some.injEq, decide_eq_true_eq] at h1
            rw [h1]
        · rename_i a b
          simp only [Option.some.injEq] at h1
          have : ∀ {a b : List Nat}, lsEq a b = true → a = b := by
            intro a
            induction a with
            | nil => intro b hb; cases b with
              | nil => rfl
              | cons _ _ => cases hb
            | cons x a ih => intro b hb; cases b with
              | nil => cases hb
              | cons y b =>
                simp only [lsEq] at hb
                cases hxy : Nat.beq x y with
                | false => rw [hxy] at hb; cases hb
                | true => rw [hxy] at hb; rw [beq_t.1 hxy, ih hb]
          rw [this h1]
    · cases h
  | [], _ :: _, _, h => by simp [eqL] at h
  | [], [], _ :: _, h => by simp [eqL] at h
  | _ :: _, [], _, h => by simp [eqL] at h
  | _ :: _, _ :: _, [], h => by simp [eqL] at h
theorem eqP_true {ks : List CK} {agg : Bool} {p q : PV} (h : eqP ks agg p q = some true) : p = q := by
  obtain ⟨h1, h2, h3⟩ := eqP_inv h
  have := eqL_true h3
  cases p <;> cases q <;> simp_all [PV.cells, PV.isAgg]

/-- A value that is compared with itself bit by bit. -/
theorem bits_one {k : CK} {c : CV} {r : Bool} {v : Value} (h : eqC k c c = some r) (hd : den φ c = some v) (n : Nat) : Instr.sameBits n v v = true := by
  cases k <;> cases c <;> simp only [eqC] at h <;> first | (cases h; done) | skip
  · have hd : some (Value.bool _) = some v := hd
    injection hd with hd
    subst hd
    simp [Instr.sameBits]
  · have hd : some (Value.int _ _) = some v := hd
    injection hd with hd
    subst hd
    simp [Instr.sameBits]
  · obtain ⟨_, e⟩ := rt_str (φ := φ) (v := v) hd
    rw [e]
    simp only [Instr.sameBits, strV]
    exact (Go.MapKept.bytes_beq _ _).2 rfl
theorem bits_list {n : Nat} : ∀ {ks : List CK} {l : List CV} {vs : List Value} {r : Bool}, eqL ks l l = some r → dens φ l = some vs → (vs.zip vs).all (fun (x, y) => Instr.sameBits n x y) = true
  | [], [], vs, _, _, hd => by simp only [dens, Option.some.injEq] at hd; subst hd; rfl
  | k :: ks, a :: l, vs, r, h, hd => by
    simp only [eqL] at h
    split at h
    · rename_i x y h1 h2
      obtain ⟨v, ws, rfl, q1, q2⟩ := dens_cons hd
      simp only [List.zip_cons_cons, List.all_cons, bits_one h1 q1, bits_list h2 q2, Bool.and_self]
    · cases h
  | [], _ :: _, _, _, h, _ => by simp [eqL] at h
  | _ :: _, [], _, _, h, _ => by simp [eqL] at h
theorem bits_self {ks : List CK} {agg : Bool} {p : PV} {v : Value} {r : Bool} (h : eqP ks agg p p = some r) (hd : denP φ p = some v) : (Instr.keyThatStays v v).run P w = .ok v w := by
  obtain ⟨_, _, h3⟩ := eqP_inv h
  have : Instr.sameBits 10000 v v = true := by
    cases p with
    | one c =>
      simp only [PV.cells] at h3
      cases ks with
      | nil => simp [eqL] at h3
      | cons k ks =>
        simp only [eqL] at h3
        split at h3
        · rename_i h1 _
          exact bits_one h1 hd 10000
        · cases h3
    | agg l =>
      obtain ⟨vs, e, h1⟩ := rt_agg (φ := φ) (v := v) hd
      rw [e]
      simp [Instr.sameBits]
      have := bits_list (n := 9999) h3 h1
      simpa using this
  simp [Instr.keyThatStays, this]

theorem check_fields {d : Nat} {em : Bool} {f : TypeId → Option (List CK)} (ih : ∀ t ks, f t = some ks → ∀ (p : PV) v r, denP φ p = some v → p.isAgg = isSt (P.underlying t) → eqL ks p.cells p.cells = some r → (Instr.checkKey em d t v).run P w = .ok () w)
    (hk : ∀ t ks, f t = some ks → isAggD (P.underlying t) = some (isSt (P.underlying t)) ∧ (isSt (P.underlying t) = false → ks.length = 1)) (xs : Array Value) (F : Field → PUnit → Sem (ForInStep PUnit)) (hF : ∀ (fd : Field) (v : Value), fd.name ≠ "_" → (part fd.type xs fd.offset).run P w = .ok v w → (Instr.checkKey em d fd.type v).run P w = .ok () w → (F fd PUnit.unit).run P w = .ok (.yield PUnit.unit) w) :
    ∀ (fs : List Field) (off : Nat) (ks : List CK) (l : List CV) (r : Bool), ckFs (szOf P) f fs off = some ks → dens φ l = some (xs.toList.drop off) → eqL ks l l = some r → (forIn fs PUnit.unit F).run P w = .ok PUnit.unit w
  | [], off, ks, l, r, hc, hx, he => by simp
  | fd :: fs, off, ks, l, r, hc, hx, he => by
    simp only [ckFs] at hc
    split at hc
    · rename_i hn
      split at hc
      · rename_i ka hka
        split at hc
        · rename_i hz
          split at hc
          · rename_i kb hkb
            simp only [Option.some.injEq] at hc
            subst hc
            obtain ⟨r1, r2, e1, e2, rfl⟩ := eqL_append he
            obtain ⟨hl1, _⟩ := eqL_len e1
            have hsz : szOf P fd.type ≠ 0 := by omega
            obtain ⟨hb, hk1⟩ := hk _ _ hka
            have hd2 := dens_take ka.length hx
            have hp : ∃ p v, p.cells = l.take ka.length ∧ p.isAgg = isSt (P.underlying fd.type) ∧ denP φ p = some v ∧ (part fd.type xs fd.offset).run P w = .ok v w := by
              cases hs : isSt (P.underlying fd.type) with
              | true =>
                rw [hs] at hb
                refine ⟨.agg (l.take ka.length), .agg ((xs.toList.drop off).take ka.length).toArray, rfl, rfl, by simp only [denP, hd2], ?_⟩
                simp only [part, Sem.run_bind, run_isAgg hb, Result.andThen_ok, if_true, run_sizeOf hsz, Sem.run_pure, hn.2, hz.1]
                congr 2
                apply Array.ext'
                simp
              | false =>
                rw [hs] at hb
                have hone : ka.length = 1 := hk1 hs
                rw [hone] at hd2 hl1
                match hlt : l.take 1, hl1 with
                | [c], _ =>
                  rw [hlt] at hd2
                  obtain ⟨v, ws, e3, h1, h2⟩ := dens_cons hd2
                  have hg : xs[off]? = some v := by
                    have : ((xs.toList.drop off).take 1)[0]? = some v := by rw [e3]; rfl
                    rw [List.getElem?_take] at this
                    split at this
                    · simpa [List.getElem?_drop] using this
                    · cases this
                  refine ⟨.one c, v, by rw [hone, hlt]; rfl, rfl, h1, ?_⟩
                  simp [part, Sem.run_bind, run_isAgg hb, hn.2, hg]
            obtain ⟨p, v, p1, p2, p3, p4⟩ := hp
            have hA := ih fd.type ka hka p v r1 p3 p2 (by rw [p1]; exact e1)
            have hR := check_fields ih hk xs F hF fs (off + ka.length) kb (l.drop ka.length) r2 hkb (by rw [← List.drop_drop]; exact dens_drop _ hx) e2
            simp only [List.forIn_cons, Sem.run_bind, hF fd v hn.1 p4 hA, Result.andThen_ok]
            exact hR
          · cases hc
        · cases hc
      · cases hc
    · cases hc

theorem check_flat {em : Bool} : ∀ (d : Nat) (D : Nat) (t : TypeId) (ks : List CK), ckOfT P d t = some ks → ∀ (p : PV) v r, denP φ p = some v → p.isAgg = isSt (P.underlying t) → eqL ks p.cells p.cells = some r → (Instr.checkKey em (D + d) t v).run P w = .ok () w
  | 0, D, t, ks, h, p, v, r, _, _, _ => by cases h
  | d + 1, D, t, ks, h, p, v, r, hx, hp, he => by
    simp only [ckOfT] at h
    rw [← Nat.add_assoc]
    split at h
    · rename_i hu
      simp only [Instr.checkKey, Sem.run_bind, run_underlying hu, Result.andThen_ok]
      rfl
    · rename_i k hu
      simp only [Instr.checkKey, Sem.run_bind, run_underlying hu, Result.andThen_ok]
      rfl
    · rename_i hu
      simp only [Instr.checkKey, Sem.run_bind, run_underlying hu, Result.andThen_ok]
      rfl
    · rename_i fs hu
      split at h
      · cases h
      · rw [hu] at hp
        cases p with
        | one c => cases hp
        | agg l =>
          obtain ⟨xs, e1, hd1⟩ := rt_agg (φ := φ) (v := v) hx
          subst e1
          rw [Instr.checkKey]
          simp only [Sem.run_bind, run_underlying hu, Result.andThen_ok]
          rw [← Array.forIn_toList]
          rw [check_fields (P := P) (w := w) (em := em) (d := D + d) (fun t ks hk p v r => check_flat d D t ks hk p v r) (fun t ks hk => ck_shape d t ks hk) xs.toArray _ (fun fd v z1 z2 z3 => by simp [z1, z2, z3]) fs.toList 0 ks l r h (by simpa using hd1) he]
          rfl
    · cases h

def kOk (P : Program) (kt : TypeId) (ks : List CK) (agg : Bool) : Prop := ckOfT P 20 kt = some ks ∧ agg = isSt (P.underlying kt)
theorem keyOf_inv {t : TypeId} {q : EqK} (h : keyOf P t = some q) : ∃ ks agg, q = .flat ks agg ∧ kOk P t ks agg := by
  unfold keyOf at h
  split at h
  · rename_i fs hu
    split at h
    · rename_i ks hk
      simp only [Option.some.injEq] at h
      exact ⟨ks, true, h.symm, hk, by rw [hu]; rfl⟩
    · cases h
  · rename_i d hd hu
    split at h
    · rename_i ks hk
      simp only [Option.some.injEq] at h
      refine ⟨ks, false, h.symm, hk, ?_⟩
      rw [hu]
      cases d <;> first | rfl | (exact absurd rfl (hd _))
    · cases h
  · cases h

theorem run_check {kt : TypeId} {ks : List CK} {agg : Bool} (hk : kOk P kt ks agg) {p : PV} {v : Value} (hp : denP φ p = some v) (hok : keyOk ks agg p = true) (em : Bool) : (Instr.checkKey em 10000 kt v).run P w = .ok () w := by
  unfold keyOk at hok
  split at hok
  · rename_i r hr
    obtain ⟨h1, _, h3⟩ := eqP_inv hr
    exact check_flat (P := P) (w := w) 20 9980 kt ks hk.1 p v r hp (h1.trans hk.2) h3
  · cases hok

/-- What a search in a map finds. -/
def Fnd (φ : Gx) (es : List ME) (vs : List MapEntry) (i : Nat) (ks : List CK) (agg : Bool) (k : PV) (r : Option (Nat × ME)) (o : Option (Nat × Value)) : Prop := match r with
  | none => o = none
  | some (n, e) => ∃ j m, n = i + j ∧ o = some (n, m.val) ∧ es[j]? = some e ∧ vs[j]? = some m ∧ eqP ks agg k e.key = some true
theorem Fnd.next {es : List ME} {vs : List MapEntry} {i : Nat} {ks : List CK} {agg : Bool} {k : PV} {r : Option (Nat × ME)} {o : Option (Nat × Value)} {e : ME} {m : MapEntry} (hf : Fnd φ es vs (i + 1) ks agg k r o) : Fnd φ (e :: es) (m :: vs) i ks agg k r o := by
  unfold Fnd at hf ⊢
  split
  · exact hf
  · obtain ⟨j, m, h1, h2, h3, h4, h5⟩ := hf
    exact ⟨j + 1, m, by omega, h2, by simpa using h3, by simpa using h4, h5⟩

theorem denEs_cons {e : ME} {es : List ME} {m : MapEntry} {vs : List MapEntry} (hd : denEs φ (e :: es) (m :: vs)) : denP φ e.key = some m.key ∧ denP φ e.val = some m.val ∧ m.born = e.born ∧ denEs φ es vs := by
  obtain ⟨h1, h2⟩ := hd
  obtain ⟨v, q1, q2, q3, q4⟩ := h2 0 e rfl
  simp only [List.getElem?_cons_zero, Option.some.injEq] at q1
  subst q1
  refine ⟨q2, q3, q4, by simpa using h1, fun i e' he' => ?_⟩
  obtain ⟨v, p1, p2⟩ := h2 (i + 1) e' (by simpa using he')
  exact ⟨v, by simpa using p1, p2⟩

theorem find_ask {kt : TypeId} {ks : List CK} {agg : Bool} (hk : kOk P kt ks agg) {k : PV} {v : Value} (hp : denP φ k = some v) : ∀ {es : List ME} {vs : List MapEntry} {i : Nat} {r : Option (Nat × ME)}, denEs φ es vs → findE ks agg k es i = some r → ∃ o, (Instr.findAsking kt v vs i).run P w = .ok o w ∧ Fnd φ es vs i ks agg k r o
  | [], [], i, r, _, hf => by
    simp only [findE, Option.some.injEq] at hf
    subst hf
    exact ⟨none, rfl, rfl⟩
  | [], _ :: _, i, r, hd, hf => by have := hd.1; simp at this
  | _ :: _, [], i, r, hd, hf => by have := hd.1; simp at this
  | e :: es, m :: vs, i, r, hd, hf => by
    obtain ⟨h1, h2, h3, h4⟩ := denEs_cons hd
    simp only [findE] at hf
    split at hf
    · rename_i he
      simp only [Option.some.injEq] at hf
      subst hf
      exact ⟨some (i, m.val), by simp [Instr.findAsking, key_eq hk.1 hk.2 hp h1 he], 0, m, rfl, rfl, rfl, rfl, he⟩
    · rename_i he
      obtain ⟨o, q1, q2⟩ := find_ask hk hp h4 hf
      exact ⟨o, by simp [Instr.findAsking, key_eq hk.1 hk.2 hp h1 he, q1], q2.next⟩
    · cases hf

theorem same_now {kt : TypeId} {ks : List CK} {agg : Bool} (hk : kOk P kt ks agg) {d : TypeDesc} (hd : P.underlying kt = some d) {p q : PV} {vx vy : Value} {r b : Bool} (hx : denP φ p = some vx) (hy : denP φ q = some vy) (he : eqP ks agg p q = some r) (hs : Instr.sameNow d vx vy = some b) : b = r := by
  have heq := key_eq (P := P) (w := default) hk.1 hk.2 hx hy he
  unfold Instr.sameNow at hs
  split at hs
  · rename_i k a k' b'
    split at hs
    · rename_i hkk
      subst hkk
      simp only [Option.some.injEq] at hs
      have := run_equalIn_int (P := P) default 9999 kt k _ a b' hd
      rw [show Op.equal kt (.int k a) (.int k b') = Op.equalIn (9999 + 1) kt (.int k a) (.int k b') from rfl, this] at heq
      injection heq with heq _
      rw [← heq, ← hs]
    · cases hs
  · rename_i a b'
    simp only [Option.some.injEq] at hs
    have := run_equalIn_string (P := P) default 9999 kt a b' hd
    rw [show Op.equal kt (.string a) (.string b') = Op.equalIn (9999 + 1) kt (.string a) (.string b') from rfl, this] at heq
    injection heq with heq _
    rw [← heq, ← hs, beq_toListBytes]
  · rename_i a b'
    simp only [Option.some.injEq] at hs
    have := run_equalIn_bool (P := P) default 9999 kt a b' hd
    rw [show Op.equal kt (.bool a) (.bool b') = Op.equalIn (9999 + 1) kt (.bool a) (.bool b') from rfl, this] at heq
    injection heq with heq _
    rw [← heq, ← hs]
  · cases hs
theorem find_now {kt : TypeId} {ks : List CK} {agg : Bool} (hk : kOk P kt ks agg) {d : TypeDesc} (hd : P.underlying kt = some d) {k : PV} {v : Value} (hp : denP φ k = some v) : ∀ {es : List ME} {vs : List MapEntry} {i : Nat} {r : Option (Nat × ME)} {o : Option (Nat × Value)}, denEs φ es vs → findE ks agg k es i = some r → Instr.findNow d v vs i = some o → Fnd φ es vs i ks agg k r o
  | [], [], i, r, o, _, hf, hn => by
    simp only [findE, Option.some.injEq] at hf
    simp only [Instr.findNow, Option.some.injEq] at hn
    subst hf; subst hn
    rfl
  | [], _ :: _, i, r, o, hd, hf, _ => by have := hd.1; simp at this
  | _ :: _, [], i, r, o, hd, hf, _ => by have := hd.1; simp at this
  | e :: es, m :: vs, i, r, o, hde, hf, hn => by
    obtain ⟨h1, h2, h3, h4⟩ := denEs_cons hde
    simp only [findE] at hf
    simp only [Instr.findNow] at hn
    split at hn
    · rename_i hb
      simp only [Option.some.injEq] at hn
      subst hn
      split at hf
      · rename_i he
        simp only [Option.some.injEq] at hf
        subst hf
        exact ⟨0, m, rfl, rfl, rfl, rfl, he⟩
      · rename_i he
        have := same_now hk hd hp h1 he hb
        cases this
      · cases hf
    · rename_i hb
      split at hf
      · rename_i he
        have := same_now hk hd hp h1 he hb
        cases this
      · exact (find_now hk hd hp h4 hf hn).next
      · cases hf
    · cases hn
theorem find_key {kt : TypeId} {ks : List CK} {agg : Bool} (hk : kOk P kt ks agg) {k : PV} {v : Value} (hp : denP φ k = some v) {es : List ME} {vs : List MapEntry} {r : Option (Nat × ME)} (hd : denEs φ es vs) (hf : findE ks agg k es 0 = some r) : ∃ o, (Instr.findKey kt v vs).run P w = .ok o w ∧ Fnd φ es vs 0 ks agg k r o := by
  obtain ⟨d, hu⟩ : ∃ d, P.underlying kt = some d := by
    cases hu : P.underlying kt with
    | some d => exact ⟨d, rfl⟩
    | none =>
      have := hk.1
      simp [ckOfT, hu] at this
  cases hn : Instr.findNow d v vs 0 with
  | some o => exact ⟨o, by simp [Instr.findKey, run_underlying hu, hn], find_now hk hu hp hd hf hn⟩
  | none =>
    obtain ⟨o, q1, q2⟩ := find_ask (w := w) hk hp hd hf
    exact ⟨o, by simp [Instr.findKey, run_underlying hu, hn, q1], q2⟩

theorem setE_get (f : ME → ME) : ∀ (es : List ME) (i j : Nat), (setE es i f)[j]? = if i = j then (es[j]?).map f else es[j]?
  | [], i, j => by simp [setE]
  | e :: es, 0, 0 => by simp [setE]
  | e :: es, 0, j + 1 => by simp [setE]
  | e :: es, i + 1, 0 => by simp [setE]
  | e :: es, i + 1, j + 1 => by simp only [setE, List.getElem?_cons_succ, setE_get f es i j]; simp
theorem setE_len (f : ME → ME) : ∀ (es : List ME) (i : Nat), (setE es i f).length = es.length
  | [], i => rfl
  | e :: es, 0 => rfl
  | e :: es, i + 1 => by simp only [setE, List.length_cons, setE_len f es i]
theorem denEs_set {es : List ME} {vs : Array MapEntry} (hd : denEs φ es vs.toList) {i : Nat} {f : ME → ME} {g : MapEntry → MapEntry} (hfg : ∀ e m, es[i]? = some e → vs[i]? = some m → denP φ e.key = some m.key → denP φ e.val = some m.val → m.born = e.born → denP φ (f e).key = some (g m).key ∧ denP φ (f e).val = some (g m).val ∧ (g m).born = (f e).born) : denEs φ (setE es i f) (vs.modify i g).toList := by
  refine ⟨by simp [setE_len]; simpa using hd.1, fun j e he => ?_⟩
  rw [setE_get] at he
  rw [Array.getElem?_toList, Array.getElem?_modify]
  split at he
  · rename_i hij
    subst hij
    rw [if_pos rfl]
    simp only [Option.map_eq_some_iff] at he
    obtain ⟨e0, h1, rfl⟩ := he
    obtain ⟨m, q1, q2, q3, q4⟩ := hd.2 i e0 h1
    rw [Array.getElem?_toList] at q1
    exact ⟨g m, by rw [q1]; rfl, hfg e0 m h1 q1 q2 q3 q4⟩
  · rename_i hij
    rw [if_neg hij]
    obtain ⟨m, q1, q2⟩ := hd.2 j e he
    rw [Array.getElem?_toList] at q1
    exact ⟨m, q1, q2⟩
theorem denEs_push {es : List ME} {vs : Array MapEntry} (hd : denEs φ es vs.toList) {e : ME} {m : MapEntry} (h1 : denP φ e.key = some m.key) (h2 : denP φ e.val = some m.val) (h3 : m.born = e.born) : denEs φ (es ++ [e]) (vs.push m).toList := by
  have hl : vs.size = es.length := by rw [← hd.1, Array.length_toList]
  refine ⟨by simp [hl], fun j x hx => ?_⟩
  rw [Array.getElem?_toList]
  rcases Nat.lt_or_ge j es.length with hj | hj
  · rw [List.getElem?_append_left hj] at hx
    obtain ⟨v, q1, q2⟩ := hd.2 j x hx
    rw [Array.getElem?_toList] at q1
    exact ⟨v, by rw [Array.getElem?_push, if_neg (by omega)]; exact q1, q2⟩
  · rw [List.getElem?_append_right hj] at hx
    have : j = es.length := by
      have := (List.getElem?_eq_some_iff.1 hx).1
      simp at this
      omega
    subst this
    simp at hx
    subst hx
    exact ⟨m, by rw [← hl]; simp, h1, h2, h3⟩

/-- An object's block is turned. -/
theorem Inv.setO (hI : Inv B w0 φ h w) {k : Pos} {l : Loc} (hl : φ.loc k 0 = some l) (hone : ∀ g, 0 < g → φ.loc k g = none) {ob ob' : Obj} (hb : w.heap[l.b]? = some ob) (hst : stays ob = false) {o' : EO} (hob : ObOk φ { w with heap := w.heap.setIfInBounds l.b ob' } B k o') (hno : blank o' = false := by rfl) : Inv B w0 φ (upd h k o') { w with heap := w.heap.setIfInBounds l.b ob' } := by
  have only : ∀ g l', φ.loc k g = some l' → l' = l := fun g l' hl' => by
    cases g with
    | zero => rw [hl] at hl'; exact (Option.some.inj hl').symm
    | succ g => rw [hone _ (by omega)] at hl'; cases hl'
  refine hI.turn (ψ := φ) (Gx.le.refl φ) (fun _ _ => ⟨fun _ => rfl, rfl, rfl⟩) (fun g1 l1 x => .inl ⟨g1, l1, x, rfl⟩) (fun b hb' hne => ?_) (fun g1 l1 x ob1 h1 h2 => ?_) rfl rfl rfl (by simp) (Nat.le_refl _) hob hno
  · simp [hne 0 l hl]
  · rw [only g1 l1 x, hb] at h1
    injection h1 with h1
    subst h1
    rw [hst] at h2
    cases h2

theorem map_inv (hI : Inv B w0 φ h w) {m : Pos} {es : List ME} {clock : Nat} (hm : h m = .map es clock) {v : Value} (hr : RT φ (.pv (.one (.mp m))) v) : ∃ l vs, φ.loc m 0 = some l ∧ (∀ g, 0 < g → φ.loc m g = none) ∧ v = .map (some l.b) ∧ B ≤ l.b ∧ w.heap[l.b]? = some (.map vs clock) ∧ denEs φ es vs.toList := by
  obtain ⟨l, h1, h2⟩ := rt_mp hr
  have hob := hI.obj m
  rw [hm] at hob
  obtain ⟨g1, l', vs, q1, q2, q3, q4⟩ := hob
  rw [h1] at q1
  injection q1 with q1
  subst q1
  exact ⟨l, vs, h1, g1, h2, q2, q3, q4⟩
/-- A map's entries are turned. -/
theorem Inv.setM (hI : Inv B w0 φ h w) {m : Pos} {l : Loc} (hl : φ.loc m 0 = some l) (hone : ∀ g, 0 < g → φ.loc m g = none) (hB : B ≤ l.b) {vs vs' : Array MapEntry} {c c' : Nat} (hb : w.heap[l.b]? = some (.map vs c)) {es' : List ME} (hd : denEs φ es' vs'.toList) : Inv B w0 φ (upd h m (.map es' c')) { w with heap := w.heap.setIfInBounds l.b (.map vs' c') } :=
  hI.setO hl hone hb rfl ⟨hone, l, vs', hl, hB, (Go.MapKept.heap_set hb).1, hd⟩

theorem zero_run {t : TypeId} {z : PV} (hz : zeroOf P t = some z) (w : World) : ∃ v, (zeroValue t).run P w = .ok v w ∧ ∀ φ, denP φ z = some v := by
  obtain ⟨i, v, h1, h2, h3⟩ := zero_info hz
  exact ⟨v, by simp [zeroValue, typeInfo, h1, h2], h3⟩

theorem ok_look (hI : Inv B w0 φ h w) {t kt e : TypeId} {x y : Operand} {ok : Bool} (ho : o.op = .lookup t x y ok) (hu : P.underlying t = some (.map kt e)) {q : EqK} (hkey : keyOf P kt = some q) {z : PV} (hz : zeroOf P e = some z) {vals : List TV} (hv : RTs φ vals [a.eval x, a.eval y]) {f : Pos} {out : TV} {wr : Option (Pos × EO)} (hq : (eLook q z ok vals f).run h = some (out, wr)) : OkX P B w0 φ h w o a out wr := by
  obtain ⟨ks, agg, rfl, hk⟩ := keyOf_inv hkey
  unfold eLook at hq
  split at hq
  · obtain ⟨v1, ws, e1, hr1, hr2⟩ := hv.cons
    obtain ⟨v2, e2, hr3⟩ := hr2.one
    subst e2
    simp only [List.cons.injEq, and_true] at e1
    obtain ⟨e1, e2⟩ := e1
    subst e1; subst e2
    split at hq
    · rename_i ks' agg' kv heq
      injection heq with h1 h2
      subst h1; subst h2
      have hr3 : denP φ kv = some (a.eval y) := hr3
      cases hok : keyOk ks agg kv with
      | false => rw [hok] at hq; cases hq
      | true =>
        rw [hok, cond_true] at hq
        obtain ⟨zv, hzr, hzd⟩ := zero_run hz w
        have fin : ∀ {r : Option PV} {v : Option Value}, (lookRes ok z r).run h = some (out, wr) → (match r, v with | none, none => True | some p, some u => denP φ p = some u | _, _ => False) → (execOp a.eval o).run P w = .ok (.value (match v with | some u => (if ok then .tuple #[u, .bool true] else u) | none => (if ok then .tuple #[zv, .bool false] else zv))) w → OkX P B w0 φ h w o a out wr := by
          intro r v hl hm hrun
          unfold lookRes at hl
          cases ok with
          | true =>
            cases r with
            | none =>
              cases v with
              | some _ => cases hm
              | none =>
                simp only [Q.run, Option.some.injEq, Prod.mk.injEq] at hl
                obtain ⟨rfl, rfl⟩ := hl
                exact ok_ret hI hrun ⟨[zv, .bool false], denPs_mk (hzd φ) rfl, rfl⟩
            | some p =>
              cases v with
              | none => cases hm
              | some u =>
                simp only [Q.run, Option.some.injEq, Prod.mk.injEq] at hl
                obtain ⟨rfl, rfl⟩ := hl
                exact ok_ret hI hrun ⟨[u, .bool true], denPs_mk hm rfl, rfl⟩
          | false =>
            cases r with
            | none =>
              cases v with
              | some _ => cases hm
              | none =>
                simp only [Q.run, Option.some.injEq, Prod.mk.injEq] at hl
                obtain ⟨rfl, rfl⟩ := hl
                exact ok_ret hI hrun (hzd φ)
            | some p =>
              cases v with
              | none => cases hm
              | some u =>
                simp only [Q.run, Option.some.injEq, Prod.mk.injEq] at hl
                obtain ⟨rfl, rfl⟩ := hl
                exact ok_ret hI hrun hm
        split at hq
        · have ev := rt_nilm hr1
          refine fin (v := none) hq trivial ?_
          unfold execOp
          have hf : (Instr.findKey kt (a.eval y) []).run P w = .ok none w := by
            obtain ⟨o', q1, q2⟩ := find_key (w := w) hk hr3 (es := []) (vs := []) ⟨rfl, fun i e he => by simp at he⟩ rfl
            rw [q1, show o' = none from q2]
          simp [ho, ev, Instr.lookup, run_underlying hu, run_check hk hr3 hok, hf, hzr]
        · rename_i m
          simp only [Q.run] at hq
          split at hq
          · rename_i es clock hm
            obtain ⟨l, vs, q1, _, ev, _, q3, q4⟩ := map_inv hI hm hr1
            split at hq
            · rename_i r hf
              obtain ⟨o', p1, p2⟩ := find_key (w := w) hk hr3 q4 hf
              refine fin (v := o'.map (·.2)) hq ?_ ?_
              · unfold Fnd at p2
                split at p2
                · subst p2; trivial
                · obtain ⟨j, m', _, h2, h3, h4, _⟩ := p2
                  rw [h2]
                  obtain ⟨m2, z1, _, z3, _⟩ := q4.2 j _ h3
                  rw [h4] at z1
                  injection z1 with z1
                  subst z1
                  exact z3
              · unfold execOp
                cases o' with
                | none => simp [ho, ev, Instr.lookup, run_underlying hu, getObj, Sem.run, q3, run_check hk hr3 hok, p1, hzr, Result.andThen]
                | some pr => simp [ho, ev, Instr.lookup, run_underlying hu, getObj, Sem.run, q3, run_check hk hr3 hok, p1, hzr, Result.andThen]
            · cases hq
          · cases hq
        · cases hq
    · cases hq
  · cases hq

end
end Go.Proofs.YtdjhicbhegaenaaGreatDoor.Clo
