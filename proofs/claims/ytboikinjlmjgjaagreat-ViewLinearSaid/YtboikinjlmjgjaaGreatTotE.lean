/- Evaluators that always answer: ancestors, tips, heads. -/
import Derived.Test.YtboikinjlmjgjaaGreatTotC
namespace Go.Proofs.YtboikinjlmjgjaaGreat.Abs
open Go
abbrev Com := ae.den
abbrev ws (c : Com) : List Cel := c.2.2.2.2.1
def Dz (w : List Cel) : Prop := w.Pairwise fun a b => ahd a.1 a.2.1 b.1 b.2.1 = true
def Wr (w : List Cel) (id f : Int) : Prop := ∃ c ∈ w, c.1 = id ∧ c.2.1 = f
def Chn : Cel → List Cel → Prop
 | _, [] => True
 | a, b :: r => ahd a.1 a.2.1 b.1 b.2.1 = true ∧ Chn b r
theorem Jn : ∀ {r : List Cel} {a : Cel}, Chn a r → (a :: r).Pairwise fun a b => ahd a.1 a.2.1 b.1 b.2.1 = true
 | [], a, _ => List.pairwise_cons.2 ⟨fun _ h => by (cases h), List.Pairwise.nil⟩
 | b :: r, a, ⟨h1, h2⟩ => by
  have ih := Jn h2
  refine List.pairwise_cons.2 ⟨fun x hx => ?_, ih⟩
  rcases List.mem_cons.1 hx with rfl | hx
  ·exact h1
  ·exact rH h1 ((List.pairwise_cons.1 ih).1 x hx)
theorem rY (l : List Cel) (hs : l.length < 1000000) : ∀ (n : Nat) (r p : List Cel) (a : Cel), l = p ++ a :: r → r.length < n → Tot (fK n l ((p.length : Int) + 1)) fun b => b = true → Chn a r
 | 0, r, p, a, e, h => by omega
 | n + 1, r, p, a, e, h => by
  subst e
  show Tot (dH false some (fK n) (p ++ a :: r) ((p.length : Int) + 1)) _
  simp only [dH, tt, il]
  simp only [List.length_append, List.length_cons] at hs ⊢
  have e0 : w64 ((p.length : Int) + 1 - 1) = p.length := by rw [aE (by omega) (by omega)]; omega
  cases r with
  | nil => exact ⟨fun h => by simp at h, fun _ _ => trivial⟩
  | cons b r =>
   rw [e0]
   have e1 : ix ac (p ++ a :: b :: r) (p.length : Int) = a := bU (t := ac) p a (b :: r)
   have e2 : ix ac (p ++ a :: b :: r) ((p.length : Int) + 1) = b := by
    have := bU (t := ac) (p ++ [a]) b r
    rw [show p ++ a :: b :: r = (p ++ [a]) ++ b :: r by simp, show ((p.length : Int) + 1) = ((p ++ [a]).length : Int) by simp]
    exact this
   have e3 : w64 ((p.length : Int) + 1 + 1) = ((p ++ [a]).length : Int) + 1 := by rw [aE (by omega) (by omega)]; simp
   rw [e1, e2, e3]
   refine ⟨fun _ => ?_, fun h => ?_⟩
   ·refine ⟨aL (by omega) (by simp; omega), aL (by omega) (by simp; omega), aL (by omega) (by simp; omega), aL (by omega) (by simp; omega), fun _ h => (nomatch h), fun h => ?_⟩
    refine (rY (p ++ a :: b :: r) (by simp at hs ⊢; omega) n r (p ++ [a]) b (by simp) (by simp at h; simp at *; omega)).mono fun x hx e => ⟨?_, hx e⟩
    rw [← F0]; simpa using h
   ·simp at h; omega
theorem G5 (l : List Cel) (hs : l.length < 1000000) : Tot (ic l) fun b => b = true → Dz l := by
 simp only [ic, od]
 cases l with
 | nil =>
  show Tot (dH false some (fK 1099511627775) [] 1) _
  simp only [dH, tt, il]
  exact ⟨fun h => by simp at h, fun _ _ => List.Pairwise.nil⟩
 | cons a r => exact (rY (a :: r) hs FU r [] a rfl (by rw [bn]; simp at hs; omega)).mono fun b hb e => Jn (hb e)
theorem rN (w : List Cel) (id f : Int) (hs : w.length < 1000000) : ∀ (n : Nat) (i : Int), -1 ≤ i → i < w.length → i + 1 < n → (∀ k : Nat, i < k → k < w.length → ¬ ((w.getD k (zero ac)).1 = id ∧ (w.getD k (zero ac)).2.1 = f)) → Tot (iN n w id f i) fun r => r.2.1 = true ↔ Wr w id f
 | 0, i, h0, h1, h, _ => by omega
 | n + 1, i, h0, h1, h, hk => by
  show Tot (gM false some (iN n) w id f i) _
  simp only [gM, tt]
  refine ⟨fun hi => ?_, fun hi => ?_⟩
  ·have hi : 0 ≤ i := by simpa using hi
   refine ⟨aL hi h1, aA fun _ => aL hi h1, fun hc => ⟨aL hi h1, fun _ => ?_, fun _ => trivial⟩, fun hc => ?_⟩
   ·simp only [Bool.cond_false_right, Bool.and_eq_true, decide_eq_true_eq] at hc
    exact ⟨_, eT (t := ac) hi h1, hc.1, hc.2⟩
   ·rw [aE (by omega) (by omega)]
    refine rN w id f hs n (i - 1) (by omega) (by omega) (by omega) fun k hk1 hk2 => ?_
    by_cases e : i = k
    ·subst e
     simp only [Bool.cond_false_right, Bool.and_eq_false_imp, decide_eq_true_eq, decide_eq_false_iff_not] at hc
     intro hh
     exact hc hh.1 hh.2
    ·exact hk k (by omega) hk2
  ·have hi : ¬ 0 ≤ i := by simpa using hi
   refine ⟨fun h => (nomatch h), fun ⟨c, hc, e1, e2⟩ => ?_⟩
   obtain ⟨k, hk', rfl⟩ := List.mem_iff_getElem.1 hc
   have := hk k (by omega) hk'
   rw [List.getD_eq_getElem?_getD, List.getElem?_eq_getElem hk'] at this
   exact absurd ⟨e1, e2⟩ this
theorem iL (w : List Cel) (id f : Int) (hs : w.length < 1000000) : Tot (dp w id f) fun r => r.2.1 = true ↔ Wr w id f := by
 simp only [dp, nv, tt, il]
 rw [aE (by omega) (by omega)]
 exact rN w id f hs FU _ (by omega) (by omega) (by rw [bn]; omega) fun k h1 h2 => by omega
theorem DB (c : Com) (id f : Int) (hs : (ws c).length < 1000000) : Tot (dT c id f) fun r => r = true ↔ Wr (ws c) id f := by
 simp only [dT, kO, tt]
 exact (iL _ id f hs).mono fun _ h => h
theorem ya (l : List Int) (hs : l.length < 1000000) : ∀ (n : Nat) (i : Int), 0 ≤ i → i ≤ l.length → l.length - i < n → Tot (oA n l i) fun _ => True
 | 0, i, h0, h1, h => by omega
 | n + 1, i, h0, h1, h => by
  show Tot (m8 false some (oA n) l i) _
  simp only [m8, tt, il]
  intro hi
  have hi : i < l.length := by simpa using hi
  rw [aE (n := i + 1) (by omega) (by omega)]
  refine ⟨aL h0 hi, (dw (by rw [gT]; rfl)).mono fun r _ => ⟨aA fun _ => aL h0 hi, aA fun h => ?_, aA fun _ => by simp [aP], fun _ => ya l hs n (i + 1) (by omega) (by omega) (by omega)⟩⟩
  simp only [Bool.and_eq_true, decide_eq_true_eq] at h
  rw [aE (by omega) (by omega)]; exact aL (by omega) (by omega)
theorem BW (l : List Int) (hs : l.length < 1000000) : Tot (jm l) fun _ => True := by
 simp only [jm, uY]
 exact ya l hs FU 0 (by omega) (by omega) (by rw [bn]; omega)
def qn (id : Int) : Prop := 1048576 < id ∧ id < 34603008 ∧ ¬ id.tmod 1048576 = 0
theorem uq (c : Com) (hs : c.2.2.2.1.length < 1000000) (P : Prop) (hp : P) : ∀ (n : Nat) (i : Int), 0 ≤ i → i ≤ c.2.2.2.1.length → c.2.2.2.1.length - i < n → Tot (ll n c i) fun _ => P
 | 0, i, h0, h1, h => by omega
 | n + 1, i, h0, h1, h => by
  show Tot (jV false some (ll n) c i) _
  simp only [jV, tt, il]
  refine ⟨fun hi => ?_, fun _ => hp⟩
  have hi : i < c.2.2.2.1.length := by simpa using hi
  rw [aE (n := i + 1) (by omega) (by omega)]
  exact ⟨aL h0 hi, aA fun _ => aL h0 hi, fun _ => hp, fun _ => uq c hs P hp n (i + 1) (by omega) (by omega) (by omega)⟩
theorem K5 (c : Com) (h1 : c.2.1.length < 1000000) (h2 : c.2.2.1.length < 1000000) (h3 : c.2.2.2.1.length < 1000000) : Tot (jW c) fun r => r = true → qn c.1 := by
 simp only [jW, qS, tt]
 have e : bT c.1 = some _ := gT c.1
 refine ⟨_, e, aA fun _ => (BW _ h1).some, aA fun _ => (BW _ h2).some, aA fun _ => rl _ _ h1, aA fun _ => rl _ _ h2, fun _ h => (nomatch h), fun h => ?_⟩
 have hv : qn c.1 := by
  cases hq : (decide (c.1 > 1048576) && decide (c.1 < 34603008) && !decide (c.1.tmod 1048576 = 0)) with
  | false => rw [hq] at h; simp at h
  | true => simpa [qn, and_assoc] using hq
 exact (uq c h3 (qn c.1) hv FU 0 (by omega) (by omega) (by rw [bn]; omega)).mono fun _ h _ => h
theorem q8 (s : Sta) (id : Int) (hp : bX s id 1 = true) : Tot (eD s id) fun _ => True := by
 simp only [eD, y6, tt, il]
 refine ⟨hp, fun h => aL (by omega) ?_⟩
 have h : ¬ ((el s id 1).length : Int) = 0 := by simpa using h
 omega
theorem LC (s : Sta) (w : List Cel) (id : Int) (hp : bX s id 1 = true) (hs : w.length < 1000000) : Tot (j9 s w id) fun _ => True := by
 simp only [j9, q9, tt]
 exact (q8 s id hp).mono fun _ _ _ => (iL w id 1 hs).mono fun _ _ => trivial
theorem OB (f : Int) : (e8 f).isSome = true := by
 simp only [e8, ow, Bx, QP]
 rw [aA fun _ => by simp [aP]]; rfl
theorem Ja (s : Sta) (c : Com) (x : Cel) (hp : bX s x.1 1 = true) (hs : (ws c).length < 1000000) (hx : TxC x) : Tot (iA s c x) fun _ => True := by
 simp only [iA, oH, gH, ja, eF, i9, tt]
 exact (dw (by rw [gT]; rfl)).mono fun r _ => ⟨aA fun _ => OB _, fun _ => (q8 s x.1 hp).mono fun _ _ => ⟨fun _ => ⟨aA fun _ => by simp [aP], fun _ _ => ⟨fun _ => (iL _ _ _ hs).mono fun _ _ => trivial, fun _ => (iL _ _ _ hs).mono fun _ _ => trivial⟩⟩, fun _ => (LC s _ _ hp hs).mono fun _ _ _ => (Nf _ _ _ (Nat.lt_trans hx (by omega))).mono fun _ _ => trivial⟩⟩
theorem vA (s : Sta) (c : Com) (hp : ∀ id, bX s id 1 = true) (hs : (ws c).length < 1000000) (hx : ∀ x ∈ ws c, TxC x) (P : Prop) (hP : P) : ∀ (n : Nat) (i : Int), 0 ≤ i → i ≤ (ws c).length → (ws c).length - i < n → Tot (lL n s c i) fun _ => P
 | 0, i, h0, h1, h => by omega
 | n + 1, i, h0, h1, h => by
  show Tot (kx false some (lL n) s c i) _
  simp only [kx, tt, il]
  refine ⟨fun hi => ?_, fun _ => hP⟩
  have hi : i < (ws c).length := by simpa using hi
  rw [aE (n := i + 1) (by omega) (by omega)]
  exact ⟨aL h0 hi, (Ja s c _ (hp _) hs (hx _ (eT (t := ac) h0 hi))).mono fun _ _ => ⟨fun _ => hP, fun _ => vA s c hp hs hx P hP n (i + 1) (by omega) (by omega) (by omega)⟩⟩
theorem Mn (s : Sta) (c : Com) (hp : ∀ id, bX s id 1 = true) (h1 : c.2.1.length < 1000000) (h2 : c.2.2.1.length < 1000000) (h3 : c.2.2.2.1.length < 1000000) (hs : (ws c).length < 1000000) (hx : ∀ x ∈ ws c, TxC x) : Tot (ky s c) fun r => r = 0 → qn c.1 ∧ Dz (ws c) := by
 simp only [ky, rt, tt]
 refine (K5 c h1 h2 h3).mono fun r1 hr1 => ⟨fun _ h => absurd h (by decide), fun e1 => (G5 (ws c) hs).mono fun r2 hr2 => ⟨fun _ h => absurd h (by decide), fun e2 => ?_⟩⟩
 exact (vA s c hp hs hx (qn c.1 ∧ Dz (ws c)) ⟨hr1 (by simpa using e1), hr2 (by simpa using e2)⟩ FU 0 (by omega) (by omega) (by rw [bn]; omega)).mono fun _ h _ => h
def iD (l : List Com) (x : Int) : Option Com := l.find? fun c => decide (c.1 = x)
theorem yo (l : List Com) (x : Int) (hs : l.length < 1000000) : ∀ (n : Nat) (r p : List Com), l = p ++ r → r.length < n → oK n l x (p.length : Int) = some (match iD r x with | some c => (c, true, ()) | none => ((0, [], [], [], [], ()), false, ()))
 | 0, r, p, _, h => by omega
 | n + 1, r, p, e, h => by
  subst e
  show nl false some (oK n) (p ++ r) x p.length = _
  simp only [nl, s2, il]
  cases r with
  | nil => rw [j8 (t := ae)]; rfl
  | cons c r =>
   have next := yo (p ++ c :: r) x hs n r (p ++ [c]) (by simp) (by simp at h; omega)
   rw [← j0 (t := ae) p c (by simp at hs; omega)] at next
   rw [gk (t := ae), bU (t := ae), aL (by omega) (by simp; omega), next]
   simp only [ck, cond_true, iD, List.find?_cons]
   by_cases h0 : c.1 = x
   ·simp [h0]
   ·simp [h0]
theorem FI (l : List Com) (x : Int) (hs : l.length < 1000000) : jp l x = some (match iD l x with | some c => (c, true, ()) | none => ((0, [], [], [], [], ()), false, ())) := by
 simp only [jp, vE]
 exact yo l x hs FU l [] rfl (by rw [bn]; omega)
end Go.Proofs.YtboikinjlmjgjaaGreat.Abs
namespace Go.Proofs.YtboikinjlmjgjaaGreat.Abs
open Go
theorem eS {n : Nat} (h : n ≤ 4000000000) : lm n = true := by unfold lm LIM; exact decide_eq_true (by omega)
def InH (l : List Com) (x : Int) : Prop := ∃ c ∈ l, c.1 = x
theorem ahW {l : List Com} {x : Int} {c : Com} (h : iD l x = some c) : c ∈ l ∧ c.1 = x := by
 unfold iD at h
 exact ⟨List.mem_of_find?_eq_some h, by simpa using List.find?_some h⟩
theorem C1 {l : List Com} {x : Int} (h : iD l x = none) : ¬ InH l x := by
 rintro ⟨c, hc, e⟩
 unfold iD at h
 have := List.find?_eq_none.1 h c hc
 simp [e] at this
def ahK (l : List Com) (r : List Int) : Prop := ∀ x ∈ r, ∀ c, iD l x = some c → ∀ p ∈ c.2.1, InH l p → p ∈ r
def aG : List Com → List Int → Nat
 | [], _ => 0
 | c :: l, out => (if c.1 ∈ out then 0 else c.2.1.length) + aG l out
theorem EP {out out' : List Int} (h : ∀ y ∈ out, y ∈ out') : ∀ l, aG l out' ≤ aG l out
 | [] => Nat.le_refl _
 | c :: l => by
  have := EP h l
  simp only [aG]
  by_cases h1 : c.1 ∈ out
  ·simp [h1, h _ h1]; omega
  ·by_cases h2 : c.1 ∈ out' <;> simp [h1, h2] <;> omega
theorem EO {out out' : List Int} {x : Int} (hx : x ∈ out') (hn : ¬ x ∈ out) (h : ∀ y ∈ out, y ∈ out') : ∀ {l : List Com} {c : Com}, iD l x = some c → aG l out' + c.2.1.length ≤ aG l out
 | [], c, hc => by simp [iD] at hc
 | d :: l, c, hc => by
  by_cases e : d.1 = x
  ·have : d = c := by simpa [iD, e] using hc
   subst this
   have := EP h l
   rw [← e] at hx hn
   simp only [aG, hx, hn, if_true, if_false]; omega
  ·have hc' : iD l x = some c := by simpa [iD, e] using hc
   have := EO hx hn h hc'
   simp only [aG]
   by_cases h1 : d.1 ∈ out
   ·simp [h1, h _ h1]; omega
   ·by_cases h2 : d.1 ∈ out' <;> simp [h1, h2] <;> omega
def UE (l : List Com) (st r : List Int) : Prop := (∀ x ∈ st, InH l x → x ∈ r) ∧ ahK l r
theorem rD (l : List Com) (st : List Int) (B : Nat) (hB : B < 100000) (hs : l.length < 1000000) : ∀ (n : Nat) (out : List Int) (hi : Nat) (todo : List Int), hi ≤ todo.length → hi + aG l out < n → out.length + hi + aG l out ≤ B →
  (∀ x ∈ st, InH l x → x ∈ out ∨ x ∈ todo.take hi) → (∀ x ∈ out, ∀ c, iD l x = some c → ∀ p ∈ c.2.1, InH l p → p ∈ out ∨ p ∈ todo.take hi) → Tot (vU n l out hi todo) fun r => r.length ≤ B ∧ UE l st r
 | 0, out, hi, todo, h1, h2, h3, h4, h5 => by omega
 | n + 1, out, hi, todo, h1, h2, h3, h4, h5 => by
  show Tot (vV false some (vU n) l out hi todo) _
  simp only [vV, tt, ni]
  refine ⟨fun hp => ?_, fun hp => ?_⟩
  ·have hp : 0 < hi := by simpa using hp
   have e0 : w64 ((hi : Int) - 1) = (hi : Int) - 1 := aE (by omega) (by omega)
   have e1 : ((hi : Int) - 1).toNat = hi - 1 := by omega
   rw [e0, e1, Nat.zero_add]
   obtain ⟨k, rfl⟩ : ∃ k, hi = k + 1 := ⟨hi - 1, by omega⟩
   rw [show k + 1 - 1 = k from rfl]
   have hk : k < todo.length := by omega
   have e2 : todo.getD k (zero aa) = todo[k] := by rw [List.getD_eq_getElem?_getD, List.getElem?_eq_getElem hk]; rfl
   rw [e2]
   have hlast : ∀ y, y ∈ todo.take (k + 1) ↔ y ∈ todo.take k ∨ y = todo[k] := fun y => by
    rw [List.take_succ_eq_append_getElem hk, List.mem_append, List.mem_singleton]
   generalize hx : todo[k] = x at *
   refine ⟨by simp; omega, by simp; omega, _, FI l x hs, aA fun _ => rl _ _ (by omega), ?_⟩
   rw [LP _ _ (by omega)]
   cases hf : iD l x with
   | none =>
    refine ⟨fun _ => rD l st B hB hs n out k todo (by omega) (by omega) (by omega) (fun y hy hi => ?_) (fun y hy c hc p hp hi => ?_), fun h => by simp at h⟩
    ·rcases h4 y hy hi with h | h
     ·exact .inl h
     ·rcases (hlast y).1 h with h | rfl
      ·exact .inr h
      ·exact absurd hi (C1 hf)
    ·rcases h5 y hy c hc p hp hi with h | h
     ·exact .inl h
     ·rcases (hlast p).1 h with h | rfl
      ·exact .inr h
      ·exact absurd hi (C1 hf)
   | some c =>
    dsimp only
    refine ⟨fun h => ?_, fun h => ?_⟩
    ·have hin : x ∈ out := by simpa using h
     refine rD l st B hB hs n out k todo (by omega) (by omega) (by omega) (fun y hy hi => ?_) (fun y hy c hc p hp hi => ?_)
     ·rcases h4 y hy hi with h | h
      ·exact .inl h
      ·rcases (hlast y).1 h with h | rfl
       ·exact .inr h
       ·exact .inl hin
     ·rcases h5 y hy c hc p hp hi with h | h
      ·exact .inl h
      ·rcases (hlast p).1 h with h | rfl
       ·exact .inr h
       ·exact .inl hin
    ·have hni : ¬ x ∈ out := by simpa using h
     refine (K1 out x (by omega)).mono fun r2 hr2 => ?_
     have hsub : ∀ y ∈ out, y ∈ r2 := fun y hy => (hr2.2 y).2 (.inl hy)
     have hrest := EO ((hr2.2 x).2 (.inr rfl)) hni hsub hf
     have htk : (todo.take k ++ c.2.1).take (k + c.2.1.length) = todo.take k ++ c.2.1 := by
      apply List.take_of_length_le
      simp; omega
     refine ⟨eS (by omega), rD l st B hB hs n r2 _ _ (by simp; omega) (by omega) (by omega) (fun y hy hi => ?_) (fun y hy d hd p hp hi => ?_)⟩
     ·rw [htk, List.mem_append]
      rcases h4 y hy hi with h | h
      ·exact .inl (hsub y h)
      ·rcases (hlast y).1 h with h | rfl
       ·exact .inr (.inl h)
       ·exact .inl ((hr2.2 _).2 (.inr rfl))
     ·rw [htk, List.mem_append]
      rcases (hr2.2 y).1 hy with hy | rfl
      ·rcases h5 y hy d hd p hp hi with h | h
       ·exact .inl (hsub p h)
       ·rcases (hlast p).1 h with h | rfl
        ·exact .inr (.inl h)
        ·exact .inl ((hr2.2 _).2 (.inr rfl))
      ·rw [hf] at hd
       cases hd
       exact .inr (.inr hp)
  ·have hp : hi = 0 := by simpa using hp
   subst hp
   refine ⟨by omega, fun x hx hi => ?_, fun x hx c hc p hp hi => ?_⟩
   ·rcases h4 x hx hi with h | h
    ·exact h
    ·simp at h
   ·rcases h5 x hx c hc p hp hi with h | h
    ·exact h
    ·simp at h
def Few (l : List Com) : Prop := l.length ≤ 20 ∧ ∀ c ∈ l, c.2.1.length ≤ 4
theorem QB : ∀ (l : List Com), (∀ c ∈ l, c.2.1.length ≤ 4) → ∀ out, aG l out ≤ 4 * l.length
 | [], _, _ => Nat.le_refl _
 | c :: l, h, out => by
  have := QB l (fun d hd => h d (List.mem_cons_of_mem _ hd)) out
  have := h c (List.mem_cons_self ..)
  simp only [aG, List.length_cons]
  split <;> omega
theorem Dr (l : List Com) (st : List Int) (hf : Few l) (hst : st.length ≤ 1000) : Tot (lS l st) fun r => r.length ≤ 2000 ∧ UE l st r := by
 simp only [lS, Ju, tt, List.take_nil, List.nil_append, Nat.zero_add]
 have h1 := QB l hf.2 []
 have h2 := hf.1
 refine ⟨eS (by omega), rD l st 2000 (by omega) (by omega) FU [] st.length st (by omega) (by rw [bn]; omega) (by simp; omega) (fun x hx _ => .inr (by simpa using hx)) (fun x hx => by cases hx)⟩
theorem MP (l : List Com) (a b : Int) (hf : Few l) : Tot (kJ l a b) fun _ => True := by
 simp only [kJ, rB, tt]
 have h := Dr l [b] hf (by simp)
 exact ⟨aA fun _ => h.some, aA fun _ => rl _ _ (Nat.lt_of_le_of_lt (h.getD []).1 (by omega))⟩
theorem xC (l : List Com) (st : List Int) (hf : Few l) (hst : st.length ≤ 1000) (k : dX (List Int)) (out : List Int) (i : Int) (h0 : 0 ≤ i) (h1 : i < st.length) (ho : out.length ≤ i) (hk : ∀ out : List Int, out.length ≤ i + 1 → Tot (k l st out (i + 1)) fun r => r.length ≤ st.length) : ∀ (n : Nat) (ok : Bool) (j : Int), 0 ≤ j → j ≤ st.length → st.length - j < n → Tot (mw k n l st out i ok j) fun r => r.length ≤ st.length
 | 0, ok, j, h2, h3, h => by omega
 | n + 1, ok, j, h2, h3, h => by
  show Tot (o5 false some (mw k n) k l st out i ok j) _
  simp only [o5, mz, mA, tt, il]
  rw [aE (n := i + 1) (by omega) (by omega)]
  refine ⟨fun hj => ?_, fun _ => ⟨fun _ => ⟨aL h0 h1, (K1 out _ (by omega)).mono fun r hr => hk r (by omega)⟩, fun _ => hk out (by omega)⟩⟩
  have hj : j < st.length := by simp only [Bool.cond_false_right, Bool.and_eq_true, decide_eq_true_eq] at hj; exact hj.2
  rw [aE (n := j + 1) (by omega) (by omega)]
  have r := fun ok => xC l st hf hst k out i h0 h1 ho hk n ok (j + 1) (by omega) (by omega) (by omega)
  exact ⟨aL h0 h1, aL h2 hj, (MP l _ _ hf).mono fun _ _ => ⟨fun _ => r _, fun _ => r _⟩⟩
theorem xD (l : List Com) (st : List Int) (hf : Few l) (hst : st.length ≤ 1000) : ∀ (n : Nat) (out : List Int) (i : Int), 0 ≤ i → i ≤ st.length → out.length ≤ i → st.length - i < n → Tot (qG n l st out i) fun r => r.length ≤ st.length
 | 0, out, i, h0, h1, h2, h => by omega
 | n + 1, out, i, h0, h1, h2, h => by
  show Tot (o6 false some (mw (qG n) FU) l st out i) _
  simp only [o6, tt, il]
  refine ⟨fun hi => ?_, fun _ => by omega⟩
  have hi : i < st.length := by simpa using hi
  refine ⟨aL h0 hi, _, FI l _ (by have := hf.1; omega), ?_⟩
  exact xC l st hf hst _ out i h0 hi h2 (fun out ho => xD l st hf hst n out (i + 1) (by omega) (by omega) (by omega) (by omega)) FU _ 0 (by omega) (by omega) (by rw [bn]; omega)
theorem Sc (l : List Com) (st : List Int) (hf : Few l) (hst : st.length ≤ 1000) : Tot (o7 l st) fun r => r.length ≤ st.length := by
 simp only [o7, yR]
 exact xD l st hf hst FU [] 0 (by omega) (by omega) (by simp) (by rw [bn]; omega)
theorem u5 (l : List Com) (hf : Few l) (k : db (List Int)) (out : List Int) (i : Int) (h0 : 0 ≤ i) (h1 : i < l.length) (ho : out.length ≤ i) (hk : ∀ out : List Int, out.length ≤ i + 1 → Tot (k l out (i + 1)) fun r => r.length ≤ l.length) : ∀ (n : Nat) (head : Bool) (j : Int), 0 ≤ j → j ≤ l.length → l.length - j < n → Tot (ki k n l out i head j) fun r => r.length ≤ l.length
 | 0, ok, j, h2, h3, h => by omega
 | n + 1, ok, j, h2, h3, h => by
  show Tot (m9 false some (ki k n) k l out i ok j) _
  have := hf.1
  simp only [m9, jn, tt, il]
  rw [aE (n := i + 1) (by omega) (by omega), aE (n := j + 1) (by omega) (by omega)]
  refine ⟨fun hj => ?_, fun _ => ⟨fun _ => ⟨aL h0 h1, by simp [lm, LIM]; omega, hk _ (by simp; omega)⟩, fun _ => hk out (by omega)⟩⟩
  have hj : j < l.length := by simpa using hj
  refine ⟨aA fun _ => aL h2 hj, aA fun _ => aL h0 h1, aA fun _ => rl _ _ ?_, u5 l hf k out i h0 h1 ho hk n _ (j + 1) (by omega) (by omega) (by omega)⟩
  have := hf.2 _ (eT (t := ae) h2 hj)
  omega
theorem u6 (l : List Com) (hf : Few l) : ∀ (n : Nat) (out : List Int) (i : Int), 0 ≤ i → i ≤ l.length → out.length ≤ i → l.length - i < n → Tot (oD n l out i) fun r => r.length ≤ l.length
 | 0, out, i, h0, h1, h2, h => by omega
 | n + 1, out, i, h0, h1, h2, h => by
  show Tot (na false some (ki (oD n) FU) l out i) _
  have := hf.1
  simp only [na, tt, il]
  refine ⟨fun hi => ?_, fun _ => by omega⟩
  have hi : i < l.length := by simpa using hi
  exact u5 l hf _ out i h0 hi h2 (fun out ho => u6 l hf n out (i + 1) (by omega) (by omega) (by omega) (by omega)) FU _ 0 (by omega) (by omega) (by rw [bn]; omega)
theorem OJ (l : List Com) (hf : Few l) : Tot (nb l) fun r => r.length ≤ l.length := by
 have := hf.1
 simp only [nb, u4]
 exact u6 l hf FU [] 0 (by omega) (by omega) (by simp) (by rw [bn]; omega)
end Go.Proofs.YtboikinjlmjgjaaGreat.Abs
