/- Evaluators that always answer: cells and models. -/
import Derived.Test.YtboikinjlmjgjaaGreatGenH
namespace Go.Proofs.YtboikinjlmjgjaaGreat.Abs
open Go
def Tot {α : Type} (o : Option α) (Q : α → Prop) : Prop := ∃ r, o = some r ∧ Q r
section
variable {α β : Type} {P Q : α → Prop}
theorem Kc {r : α} : Tot (some r) Q ↔ Q r := ⟨fun ⟨_, e, h⟩ => by cases e; exact h, fun h => ⟨r, rfl, h⟩⟩
theorem ad9 {b : Bool} {k : Option α} : Tot (ck b k) Q ↔ b = true ∧ Tot k Q := by
 cases b
 ·simp [Tot, ck]
 ·simp [ck]
theorem ZW {c : Bool} {x y : Option α} : Tot (bif c then x else y) Q ↔ (c = true → Tot x Q) ∧ (c = false → Tot y Q) := by cases c <;> simp
theorem aea {g : Bool} {v : β} {k : β → Option α} : Tot (f7 g v k) Q ↔ g = true ∧ Tot (k v) Q := by
 cases g
 ·simp [Tot, f7]
 ·simp [f7]
theorem UX {x : Option β} {k : β → Option α} : Tot (rI x k) Q ↔ Tot x fun r => Tot (k r) Q := by
 cases x
 ·simp [Tot, rI]
 ·simp [rI, Kc]
theorem Tot.mono {o : Option α} (h : Tot o P) (k : ∀ r, P r → Q r) : Tot o Q := let ⟨r, e, h⟩ := h; ⟨r, e, k r h⟩
theorem Tot.and {o : Option α} (h : Tot o P) (k : Tot o Q) : Tot o fun r => P r ∧ Q r := by
 obtain ⟨r, e, h⟩ := h
 obtain ⟨r', e', h'⟩ := k
 rw [e] at e'; cases e'
 exact ⟨r, e, h, h'⟩
theorem Tot.some {o : Option α} (h : Tot o P) : o.isSome = true := by obtain ⟨r, e, _⟩ := h; rw [e]; rfl
theorem Tot.getD {o : Option α} (h : Tot o P) (d : α) : P (o.getD d) := by obtain ⟨r, e, h⟩ := h; rw [e]; exact h
theorem dw {o : Option α} (h : o.isSome = true) : Tot o fun _ => True := by
 cases o with
 | none => cases h
 | some r => exact ⟨r, rfl, trivial⟩
end
theorem tt : (∀ {α : Type} {Q : α → Prop} {r : α}, Tot (some r) Q ↔ Q r) ∧ (∀ {α : Type} {Q : α → Prop} {b : Bool} {k : Option α}, Tot (ck b k) Q ↔ b = true ∧ Tot k Q) ∧ (∀ {α : Type} {Q : α → Prop} {c : Bool} {x y : Option α}, Tot (bif c then x else y) Q ↔ (c = true → Tot x Q) ∧ (c = false → Tot y Q)) ∧
 (∀ {α β : Type} {Q : α → Prop} {g : Bool} {v : β} {k : β → Option α}, Tot (f7 g v k) Q ↔ g = true ∧ Tot (k v) Q) ∧ (∀ {α β : Type} {Q : α → Prop} {x : Option β} {k : β → Option α}, Tot (rI x k) Q ↔ Tot x fun r => Tot (k r) Q) ∧
 (∀ {β : Type} (m : Bool) (t : Ty) (e : Option t.den) (k : t.den → Option β), cl m t e k = rI e k) ∧ (∀ {β : Type} (m : Bool) (t : Ty) (g : Bool) (v : t.den) (k : t.den → Option β), ce m t g v k = f7 g v k) ∧ (∀ {β : Type} (m : Bool) (t : Ty) (x : t.den) (k : t.den → β), fz m t x k = k x) ∧ (∀ {β : Type} (m : Bool) (x : Nat) (k : Nat → β), fm m x k = k x) ∧
 (∀ {β : Type} (m c : Bool) (k : Option β) (l : List Nat), nq m l c k = k) ∧ (∀ {β : Type} (m : Bool) (n : Nat) (c z : Bool) (k : Option β), nm m n c z k = ck (aM c z) k) ∧ (∀ p : Prop, (True ∧ p) = p) ∧ (∀ p : Prop, (p ∧ True) = p) ∧ (∀ p : Prop, (p → True) = True) :=
 ⟨Kc, ad9, ZW, aea, UX, s0, s1, s2, s3, Bx, QP, fun p => true_and p, fun p => and_true p, fun p => implies_true p⟩
theorem aA {a b : Bool} (h : a = true → b = true) : aM a b = true := by cases a <;> cases b <;> simp_all [aM]
theorem bn : FU = 1099511627776 := rfl
theorem aE {n : Int} (h0 : -9000000000000000000 ≤ n) (h1 : n ≤ 9000000000000000000) : w64 n = n := oY (by omega) (by omega)
theorem aL {i : Int} {n : Nat} (h0 : 0 ≤ i) (h1 : i < n) : bd i n = true := by simp [bd, h0, h1]
theorem Tw (c : Int) : (gm c).isSome = true := by simp only [gm, rh, s1, Bx]; rfl
theorem tv (c : Int) : (dR c).isSome = true := by simp only [dR, oN, s1, Bx]; rfl
theorem ld (s : Str) : Tot (cA s) fun _ => True := by
 simp only [cA, lc, fA, gB, fy, gA, tt]
theorem aaN (s : Str) : Tot (ka s) fun _ => True := by
 simp only [ka, y7, rf, uV, re, uU, tt]
theorem zY (s : Str) (t1 : Int) (h1 : 0 ≤ t1) (hs : s.length < 1000000) : ∀ (n : Nat) (t5 : Int), t1 ≤ t5 → t5 ≤ s.length → s.length - t5 < n → Tot (qu n s t1 t5) fun r => 0 ≤ r ∧ t1 + r ≤ s.length
 | 0, t5, _, h3, h4 => by omega
 | n + 1, t5, h2, h3, h4 => by
  show Tot (oV false some (qu n) s t1 t5) _
  simp only [oV, tt, il]
  refine ⟨aA fun h => aL (by omega) (by simpa using h), aA fun _ => Tw _, fun h => ?_, fun _ => ?_⟩
  ·have : t5 < s.length := by
    by_cases h' : t5 < s.length
    ·exact h'
    ·simp [h'] at h
   rw [aE (by omega) (by omega)]
   exact zY s t1 h1 hs n (t5 + 1) (by omega) (by omega) (by omega)
  ·rw [aE (by omega) (by omega)]; omega
theorem wb (s : Str) (t1 : Int) (h1 : 0 ≤ t1) (hs : s.length < 1000000) : Tot (gO s t1) fun r => 0 ≤ r ∧ (t1 ≤ s.length → t1 + r ≤ s.length) := by
 simp only [gO, yP, tt, il]
 refine ⟨aA fun h => aL h1 (by simpa using h), aA fun h => aL h1 (by simp at h; exact h.1), aA fun _ => by simp [aP], fun _ => by omega, fun h => ?_⟩
 have : t1 < s.length := by
  by_cases h' : t1 < s.length
  ·exact h'
  ·simp [Int.not_lt.1 h'] at h
 exact (zY s t1 h1 hs FU t1 (by omega) (by omega) (by rw [bn]; omega)).mono fun r h => ⟨h.1, fun _ => h.2⟩
theorem Sv (s : Str) (t1 : Int) (h0 : 0 ≤ t1) (h1 : t1 < s.length) (hs : s.length < 1000000) : Tot (pe s t1) fun _ => True := by
 simp only [pe, yS, nS, qL, nR, qK, tt, il]
 rw [aE (by omega) (by omega)]
 exact ⟨aL h0 h1, fun _ => aA fun h => aL (by omega) (by simpa using h)⟩
end Go.Proofs.YtboikinjlmjgjaaGreat.Abs
namespace Go.Proofs.YtboikinjlmjgjaaGreat.Abs
open Go
theorem UJ (s : Str) (t1 : Int) (h1 : 0 ≤ t1) (hs : s.length < 1000000) : UK s t1 = true := (wb s t1 h1 hs).some
theorem M0 (s : Str) (t1 : Int) (h0 : 0 ≤ t1) (h1 : t1 < s.length) (hs : s.length < 1000000) : Tot (mh s t1) fun _ => True := by
 simp only [mh, tE, nD, tt, il]
 refine (wb s t1 h0 hs).mono fun r1 hr => ?_
 have hr1 := hr.2 (by omega)
 have e1 : w64 (t1 + r1) = t1 + r1 := aE (by omega) (by omega)
 have e2 : w64 (t1 + r1 + 1) = t1 + r1 + 1 := aE (by omega) (by omega)
 rw [e1, e2]
 refine ⟨by simp [h0]; omega, aL h0 h1, aA fun _ => (ld _).some, aA fun h => aL (by omega) ?_, aA fun _ => UJ s _ (by omega) hs, fun h => ?_, fun _ _ => (ld _).mono fun _ _ => fun _ => aL h0 h1⟩
 ·simp only [Bool.cond_false_right, Bool.and_eq_true, decide_eq_true_eq] at h; omega
 ·have hw : 0 < Gf s (t1 + r1 + 1) := by
   simp only [Bool.cond_false_right, Bool.and_eq_true, decide_eq_true_eq] at h; exact h.2
  have hl : t1 + r1 + 1 < s.length := by
   simp only [Bool.cond_false_right, Bool.and_eq_true, decide_eq_true_eq] at h; exact h.1.1.2
  have hp := wb s (t1 + r1 + 1) (by omega) hs
  obtain ⟨r3, e3, h3⟩ := hp
  have e4 : Gf s (t1 + r1 + 1) = r3 := by unfold Gf; rw [e3]; rfl
  rw [e4] at hw
  have h3' := h3.2 (by omega)
  have e5 : w64 (t1 + r1 + 1 + r3) = t1 + r1 + 1 + r3 := aE (by omega) (by omega)
  refine ⟨r3, e3, ?_⟩
  simp only [e5]
  refine ⟨by simp; omega, aL (by omega) (by simp; omega), fun _ _ => (ld _).mono fun _ _ => trivial, fun _ _ => (ld _).mono fun _ _ => trivial⟩
theorem xT (s : Str) (t1 : Int) (hs : s.length < 1000000) : ∀ (n : Nat) (t6 : Int), 0 ≤ t6 → t6 ≤ s.length → s.length - t6 < n → Tot (qX n s t1 t6) fun _ => True
 | 0, t5, _, h3, h4 => by omega
 | n + 1, t6, h2, h3, h4 => by
  show Tot (px false some (qX n) s t1 t6) _
  simp only [px, tt, il]
  intro h
  have h : t6 < s.length := by simpa using h
  refine ⟨aL h2 h, fun _ => ⟨aL h2 h, (dw (tv _)).mono fun _ _ => fun _ => ⟨aL h2 h, aA fun _ => aL h2 h, fun _ => ?_⟩⟩⟩
  rw [aE (by omega) (by omega)]
  exact xT s t1 hs n (t6 + 1) (by omega) (by omega) (by omega)
theorem uD (s : Str) (t1 : Int) (hs : s.length < 1000000) : ∀ (n : Nat) (t6 : Int), 0 ≤ t6 → t6 ≤ s.length → s.length - t6 < n → Tot (oh n s t1 t6) fun _ => True
 | 0, t5, _, h3, h4 => by omega
 | n + 1, t6, h2, h3, h4 => by
  show Tot (mM false some (oh n) s t1 t6) _
  simp only [mM, tt, il]
  refine ⟨aA fun h => aL h2 (by simpa using h), fun h => ?_⟩
  have h : t6 < s.length := by
   simp only [Bool.cond_false_right, Bool.and_eq_true, decide_eq_true_eq] at h; exact h.1
  rw [aE (by omega) (by omega)]
  exact uD s t1 hs n (t6 + 1) (by omega) (by omega) (by omega)
theorem SQ (s : Str) (t1 : Int) (h0 : 0 ≤ t1) (h1 : t1 < s.length) (hs : s.length < 1000000) : Tot (mN s t1) fun _ => True := by
 simp only [mN, yZ, tt]
 refine ⟨aL h0 h1, (dw (tv _)).mono fun _ _ => fun _ => ⟨fun _ => ?_, fun _ => ⟨fun _ => ?_, fun _ => ⟨fun _ => ?_, fun _ => ?_⟩⟩⟩⟩
 ·rw [aE (by omega) (by omega)]
  exact xT s t1 hs FU (t1 + 1) (by omega) (by omega) (by rw [bn]; omega)
 ·exact uD s t1 hs FU t1 (by omega) (by omega) (by rw [bn]; omega)
 ·exact (M0 s t1 h0 h1 hs).mono fun _ _ => trivial
 ·exact (Sv s t1 h0 h1 hs).mono fun _ _ => trivial
theorem xV (s : Str) (t1 : Int) (hs : s.length < 1000000) (k : d7 aT.den) (t0 : Int) (hk : ∀ t6, t0 < t6 → t6 ≤ s.length → Tot (k s t1 t6) fun _ => True) (hh : ixs s t0 = 35) : ∀ (n : Nat) (t6 : Int), 0 ≤ t6 → t0 ≤ t6 → t6 ≤ s.length → t0 < s.length → s.length - t6 < n → Tot (m0 k n s t1 t6) fun _ => True
 | 0, t5, _, _, h3, _, h4 => by omega
 | n + 1, t6, h2, ha, h3, h5, h4 => by
  show Tot (pH false some (m0 k n) k s t1 t6) _
  simp only [pH, tt, il]
  refine ⟨aA fun h => aL h2 (by simpa using h), fun h => ?_, fun h => ?_⟩
  ·have h : t6 < s.length := by
    simp only [Bool.cond_false_right, Bool.and_eq_true, decide_eq_true_eq] at h; exact h.1
   refine ⟨aL h2 h, (dw (tv _)).mono fun _ _ => fun _ => ?_⟩
   rw [aE (by omega) (by omega)]
   exact xV s t1 hs k t0 hk hh n (t6 + 1) (by omega) (by omega) (by omega) h5 (by omega)
  ·refine hk t6 ?_ h3
   by_cases e : t0 = t6
   ·subst e; rw [hh] at h; simp [h5] at h
   ·omega
theorem pG (s : Str) (t1 : Int) (hs : s.length < 1000000) : ∀ (n : Nat) (t6 : Int), 0 ≤ t6 → t6 ≤ s.length → s.length - t6 < n → Tot (m4 n s t1 t6) fun _ => True
 | 0, t5, _, h3, h4 => by omega
 | n + 1, t6, h2, h3, h4 => by
  show Tot (pI false some (m4 n) (m0 (m4 n) FU) s t1 t6) _
  simp only [pI, tt, il]
  intro h
  have h : t6 < s.length := by simpa using h
  refine ⟨aL h2 h, fun _ => ?_, fun _ => ⟨aL h2 h, fun hh => ?_⟩⟩
  ·rw [aE (by omega) (by omega)]
   exact pG s t1 hs n (t6 + 1) (by omega) (by omega) (by omega)
  ·exact xV s t1 hs _ t6 (fun u hu hu' => pG s t1 hs n u (by omega) hu' (by omega)) (by simpa using hh) FU t6 h2 (by omega) h3 h (by rw [bn]; omega)
theorem Td (s : Str) (hs : s.length < 1000000) : Tot (m5 s 0) fun _ => True := by
 simp only [m5, y4]
 exact pG s 0 hs FU 0 (by omega) (by omega) (by rw [bn]; omega)
theorem wy {s : Str} (h : ¬ s = []) : (0 : Int) < s.length := by
 cases s with
 | nil => exact absurd rfl h
 | cons a l => simp
theorem Dm (s : Str) (hs : s.length < 1000000) : Tot (eh s) fun _ => True := by
 simp only [eh, vN, tt]
 have g : ∀ {c : Bool}, (!(bif decide (s = []) then true else c)) = true → (0 : Int) < s.length := fun h => wy fun e => by simp [e] at h
 refine ⟨aA fun h => aL (by omega) (wy (by simpa using h)), aA fun h => aL (by omega) (g h), fun h => (SQ s 0 (by omega) ?_ hs).mono fun _ _ => trivial⟩
 refine wy fun e => ?_
 simp [e] at h
theorem tP (s : Str) (hs : s.length < 1000000) : ∀ (n : Nat) (c : Bool) (i : Int), 0 ≤ i → i ≤ s.length → s.length - i < n → Tot (k6 n s c i) fun _ => True
 | 0, _, t5, _, h3, h4 => by omega
 | n + 1, c, i, h2, h3, h4 => by
  show Tot (jC false some (k6 n) s c i) _
  simp only [jC, gU, jD, tt, il]
  intro h
  have h : i < s.length := by simpa using h
  rw [aE (by omega) (by omega)]
  have r := fun c => tP s hs n c (i + 1) (by omega) (by omega) (by omega)
  exact ⟨aL h2 h, fun _ => ⟨aL h2 h, fun _ => r _, fun _ => r _⟩, fun _ => ⟨aL h2 h, fun _ => r _, fun _ => r _⟩⟩
theorem J6 (s : Str) (t : Bool) (hs : s.length < 1000000) : Tot (eM s t) fun _ => True := by
 simp only [eM, qC, tt]
 exact (Td s hs).mono fun _ _ => fun _ _ => tP s hs FU false 0 (by omega) (by omega) (by rw [bn]; omega)
theorem DD (k : Int) (s : Str) (hs : s.length < 1000000) : Tot (cY k s) fun _ => True := by
 simp only [cY, k8, iR, dg, lV, tt]
 refine (Dm s hs).mono fun r _ => ?_
 have := aaN s
 simp [this]
theorem gT (id : Int) : bT id = some (decide (id > 1048576) && decide (id < 34603008) && !decide (id.tmod 1048576 = 0)) := by
 simp only [bT, nH, Bx, QP]
 rw [show (!decide ((1048576 : Int) = 0)) = true from rfl, bo]
 simp [ck, Bool.cond_false_right]
theorem o4 (id : Int) : mq id = true := by unfold mq; rw [gT]; rfl
theorem tM (s : Str) (hs : s.length < 1000000) : ∀ (n : Nat) (i : Int), 0 ≤ i → i ≤ s.length → s.length - i < n → Tot (kY n s i) fun _ => True
 | 0, t5, _, h3, h4 => by omega
 | n + 1, i, h2, h3, h4 => by
  show Tot (jz false some (kY n) s i) _
  simp only [jz, tt, il]
  intro h
  have h : i < s.length := by simpa using h
  refine ⟨aL h2 h, aA fun _ => aL h2 h, fun _ => ?_⟩
  rw [aE (by omega) (by omega)]
  exact tM s hs n (i + 1) (by omega) (by omega) (by omega)
theorem J0 (s : Str) (hs : s.length < 1000000) : Tot (jA s) fun _ => True := by
 simp only [jA, qA, tt, il]
 refine ⟨aA fun h => ?_, fun _ => tM s hs FU 0 (by omega) (by omega) (by rw [bn]; omega)⟩
 rw [aE (by omega) (by omega)]
 have : ¬ ((s.length : Int) < 1) := fun e => by simp [e] at h
 exact aL (by omega) (by omega)
theorem GB (v : aF.den) (hs : v.2.2.1.length < 1000000) : Tot (gY v) fun _ => True := by
 simp only [gY, nT, tt]
 exact ⟨aA fun _ => o4 _, aA fun _ => by simp [aP], fun _ _ => ⟨aA fun _ => by simp [aP], aA fun _ => by simp [aP], fun _ _ => (DD _ _ hs).mono fun _ _ => trivial⟩⟩
theorem yn (k f : Int) (v : aF.den) (hs : v.2.2.1.length < 1000000) : Tot (gp k f v) fun _ => True := by
 simp only [gp, ru, tt]
 refine fun _ _ _ _ => ⟨fun _ => ⟨aA fun _ => o4 _, fun _ _ => (J0 _ hs).mono fun _ _ => trivial⟩, fun _ => ⟨fun _ => (Dm _ hs).mono fun _ _ => trivial, fun _ => ⟨fun _ => (GB v hs).mono fun _ _ => trivial, fun _ _ => ⟨aA fun _ => by simp [aP], aA fun _ => (J6 _ _ hs).some⟩⟩⟩⟩
theorem Nf (k f : Int) (v : aF.den) (hs : v.2.2.1.length < 1000000) : Tot (mB k f v) fun _ => True := by
 simp only [mB, tR, tt]
 exact (yn k f v hs).mono fun _ _ => ⟨aA fun _ => by simp [aP], aA fun _ => by simp [aP]⟩
end Go.Proofs.YtboikinjlmjgjaaGreat.Abs
namespace Go.Proofs.YtboikinjlmjgjaaGreat.Abs
open Go
def TxV (v : Val) : Prop := v.2.2.1.length < 1000
def TxC (c : Cel) : Prop := TxV c.2.2.1
theorem eT {t : Ty} {l : List t.den} {i : Int} (h0 : 0 ≤ i) (h1 : i < l.length) : ix t l i ∈ l := by
 have h : i.toNat < l.length := by omega
 unfold ix
 rw [List.getD_eq_getElem?_getD, List.getElem?_eq_getElem h]
 exact List.getElem_mem h
theorem KQ (a b : Cel) : d0 a b = some (decide (a.1 = b.1) && decide (a.2.1 = b.2.1)) := by
 simp only [d0, lg, Bx, Bool.cond_false_right]
theorem MV (a b : Cel) : (gv a b).isSome = true := by simp only [gv, v7]; cases decide (a.1 = b.1) <;> rfl
theorem Fv (l : List Int) (x : Int) (hs : l.length < 1000000) : ∀ (n : Nat) (r p : List Int), l = p ++ r → r.length < n → vc n l x (p.length : Int) = some (decide (x ∈ r))
 | 0, r, p, _, h => by omega
 | n + 1, r, p, e, h => by
  subst e
  show vd false some (vc n) (p ++ r) x p.length = _
  simp only [vd, s2, il]
  cases r with
  | nil => rw [j8 (t := aa)]; simp
  | cons c r =>
   have next := Fv (p ++ c :: r) x hs n r (p ++ [c]) (by simp) (by simp at h; omega)
   rw [← j0 (t := aa) p c (by simp at hs; omega)] at next
   rw [gk (t := aa), bU (t := aa), aL (by omega) (by simp; omega), next]
   simp only [ck, cond_true]
   by_cases h0 : c = x
   ·simp [h0]
   ·have : ¬ x = c := fun e => h0 e.symm
    simp [h0, this]
theorem HC (l : List Int) (x : Int) (hs : l.length < 1000000) : oE l x = some (decide (x ∈ l)) := by
 simp only [oE, HB]
 exact Fv l x hs FU l [] rfl (by rw [bn]; omega)
theorem rl (l : List Int) (x : Int) (hs : l.length < 1000000) : yb l x = true := by unfold yb; rw [HC l x hs]; rfl
theorem LP (l : List Int) (x : Int) (hs : l.length < 1000000) : nc l x = decide (x ∈ l) := by unfold nc; rw [HC l x hs]; rfl
theorem EZ (l : List Int) (x : Int) (hs : l.length < 1000000) : ∀ (n : Nat) (t : Int), 0 ≤ t → t ≤ l.length → t < n → Tot (uo n l x t) fun r => r.length ≤ l.length + 1 ∧ ∀ y, y ∈ r ↔ y ∈ l ∨ y = x
 | 0, t, h0, _, h => by omega
 | n + 1, t, h0, h1, h => by
  show Tot (up false some (uo n) l x t) _
  have hb : t > 0 → bd (w64 (t - 1)) l.length = true := fun h => by rw [aE (by omega) (by omega)]; exact aL (by omega) (by omega)
  simp only [up, tt, List.drop_zero, List.nil_append, List.take_length]
  refine ⟨aA fun h => hb (by simpa using h), fun h => ?_, fun _ => ?_⟩
  ·have ht : t > 0 := by simp only [Bool.cond_false_right, Bool.and_eq_true, decide_eq_true_eq] at h; exact h.1
   refine ⟨hb ht, fun he => ⟨by omega, fun y => ⟨.inl, fun hy => ?_⟩⟩, fun _ => ?_⟩
   ·rcases hy with hy | rfl
    ·exact hy
    ·have he : ix aa l (w64 (t - 1)) = y := by simpa using he
     rw [← he]
     have hi := aE (n := t - 1) (by omega) (by omega)
     exact eT (t := aa) (by omega) (by omega)
   ·rw [aE (by omega) (by omega)]; exact EZ l x hs n (t - 1) (by omega) (by omega) (by omega)
  ·have hl : (List.take t.toNat l).length = t.toNat := by simp; omega
   have hq : (decide (0 ≤ t) && decide (t ≤ (l.length : Int))) = true := by simp [h0, h1]
   refine ⟨hq, by simp [lm, LIM]; omega, by simp [lm, LIM]; omega, hq, by simp [lm, LIM]; omega, by simp; omega, fun y => ?_⟩
   have := List.take_append_drop t.toNat l
   simp only [List.mem_append, List.mem_singleton]
   constructor
   ·rintro ((hy | hy) | hy)
    ·exact .inl (List.mem_of_mem_take hy)
    ·exact .inr hy
    ·exact .inl (List.mem_of_mem_drop hy)
   ·rintro (hy | hy)
    ·rw [← this, List.mem_append] at hy
     rcases hy with hy | hy
     ·exact .inl (.inl hy)
     ·exact .inr hy
    ·exact .inl (.inr hy)
theorem K1 (l : List Int) (x : Int) (hs : l.length < 1000000) : Tot (qR l x) fun r => r.length ≤ l.length + 1 ∧ ∀ y, y ∈ r ↔ y ∈ l ∨ y = x := by
 simp only [qR, GY, tt]
 exact EZ l x hs FU l.length (by omega) (by omega) (by rw [bn]; omega)
theorem Bs (l : List Cel) (id : Int) (hs : l.length < 1000000) : ∀ (n : Nat) (out : List Cel) (i : Int), 0 ≤ i → i ≤ l.length → out.length ≤ i → (∀ c ∈ out, c ∈ l) → l.length - i < n → Tot (yY n l id out i) fun r => r.length ≤ l.length ∧ ∀ c ∈ r, c ∈ l
 | 0, out, i, h0, h1, h2, h3, h => by omega
 | n + 1, out, i, h0, h1, h2, h3, h => by
  show Tot (Bu false some (yY n) l id out i) _
  simp only [Bu, Bv, tt, il]
  refine ⟨fun hi => ?_, fun _ => ⟨by omega, h3⟩⟩
  have hi : i < l.length := by simpa using hi
  rw [aE (by omega) (by omega)]
  refine ⟨aL h0 hi, fun _ => ⟨aL h0 hi, by simp [lm, LIM]; omega, Bs l id hs n _ _ (by omega) (by omega) (by simp; omega) (fun c hc => ?_) (by omega)⟩, fun _ => Bs l id hs n _ _ (by omega) (by omega) (by omega) h3 (by omega)⟩
  rcases List.mem_append.1 hc with hc | hc
  ·exact h3 c hc
  ·rw [List.mem_singleton.1 hc]; exact eT h0 hi
theorem aaB (l : List Cel) (id : Int) (hs : l.length < 1000000) : Tot (Bw l id) fun r => r.length ≤ l.length ∧ ∀ c ∈ r, c ∈ l := by
 simp only [Bw, QN]
 exact Bs l id hs FU [] 0 (by omega) (by omega) (by simp) (fun c hc => by cases hc) (by rw [bn]; omega)
theorem tD (l : List Cel) (hs : l.length < 1000000) : ∀ (n : Nat) (i : Int), 0 ≤ i → i ≤ l.length → l.length - i < n → Tot (kN n l i) fun _ => True
 | 0, i, h0, h1, h => by omega
 | n + 1, i, h0, h1, h => by
  show Tot (js false some (kN n) l i) _
  simp only [js, tt, il]
  intro hi
  have hi : i < l.length := by simpa using hi
  have hp : ∀ {c : Bool}, (c && decide (i > 0)) = true → bd (w64 (i - 1)) l.length = true := fun h => by
   simp only [Bool.and_eq_true, decide_eq_true_eq] at h
   rw [aE (by omega) (by omega)]; exact aL (by omega) (by omega)
  refine ⟨aL h0 hi, (dw (by rw [gT]; rfl)).mono fun r _ => ⟨aA fun _ => aL h0 hi, aA fun _ => aL h0 hi, aA hp, aA fun _ => aL h0 hi, aA fun _ => MV _ _, aA fun _ => by simp [aP], fun _ => ?_⟩⟩
  rw [aE (by omega) (by omega)]
  exact tD l hs n (i + 1) (by omega) (by omega) (by omega)
theorem JD (l : List Cel) (hs : l.length < 1000000) : Tot (jt l) fun _ => True := by
 simp only [jt, qp]
 exact tD l hs FU 0 (by omega) (by omega) (by rw [bn]; omega)
theorem tL (l : List Cel) (hs : l.length < 1000000) : ∀ (n : Nat) (i : Int), 0 ≤ i → i ≤ l.length → l.length - i < n → Tot (kW n l i) fun _ => True
 | 0, i, h0, h1, h => by omega
 | n + 1, i, h0, h1, h => by
  show Tot (jx false some (kW n) l i) _
  simp only [jx, tt, il]
  refine ⟨fun hi => ?_, fun _ => (JD l hs).mono fun _ _ => trivial⟩
  have hi : i < l.length := by simpa using hi
  rw [aE (by omega) (by omega)]
  exact ⟨aL h0 hi, fun _ => tL l hs n (i + 1) (by omega) (by omega) (by omega)⟩
theorem JX (l : List Cel) (hs : l.length < 1000000) : Tot (jy l) fun _ => True := by
 simp only [jy, qz]
 exact tL l hs FU 0 (by omega) (by omega) (by rw [bn]; omega)
theorem o0 (t : Mdl) (id f : Int) (hs : t.1.length < 1000000) : ∀ (n : Nat) (lo hi : Int), 0 ≤ lo → lo ≤ hi → hi ≤ t.1.length → hi - lo < n → Tot (nG n t id f lo hi) fun _ => True
 | 0, lo, hi, h0, h1, h2, h => by omega
 | n + 1, lo, hi, h0, h1, h2, h => by
  show Tot (mn false some (nG n) t id f lo hi) _
  simp only [mn, tt, il]
  refine ⟨fun hl => ?_, fun _ => ⟨aA fun h => aL h0 (by simpa using h), aA fun _ => by unfold AO; rw [KQ]; rfl, fun h => aL h0 ?_⟩⟩
  ·have hl : lo < hi := by simpa using hl
   have e1 : w64 (lo + hi) = lo + hi := aE (by omega) (by omega)
   have e2 : Int.tdiv (lo + hi) 2 = (lo + hi) / 2 := Int.tdiv_eq_ediv_of_nonneg (by omega)
   have e3 : w64 ((lo + hi) / 2) = (lo + hi) / 2 := aE (by omega) (by omega)
   have e4 : w64 ((lo + hi) / 2 + 1) = (lo + hi) / 2 + 1 := aE (by omega) (by omega)
   rw [e1, e2, e3, e4]
   exact ⟨by decide, aL (by omega) (by omega), (dw (MV _ _)).mono fun _ _ => ⟨fun _ => o0 t id f hs n _ _ (by omega) (by omega) (by omega) (by omega), fun _ => o0 t id f hs n _ _ (by omega) (by omega) (by omega) (by omega)⟩⟩
  ·simp only [Bool.cond_false_right, Bool.and_eq_true, decide_eq_true_eq] at h; exact h.1
theorem Xr (t : Mdl) (id f : Int) (hs : t.1.length < 1000000) : Tot (vh t id f) fun _ => True := by
 simp only [vh, HT, qy, tK, tt]
 exact (o0 t id f hs FU 0 t.1.length (by omega) (by omega) (by omega) (by rw [bn]; omega)).mono fun _ _ => trivial
theorem sO (t : Mdl) (hs : t.1.length < 1000000) : ∀ (n : Nat) (l : List Int) (i : Int), 0 ≤ i → i ≤ t.1.length → l.length ≤ i → t.1.length - i < n → Tot (rj n t l i) fun r => r.length ≤ t.1.length
 | 0, l, i, h0, h1, h2, h => by omega
 | n + 1, l, i, h0, h1, h2, h => by
  show Tot (pM false some (rj n) t l i) _
  simp only [pM, pN, tt, il]
  refine ⟨fun hi => ?_, fun _ => by omega⟩
  have hi : i < t.1.length := by simpa using hi
  rw [aE (n := i + 1) (by omega) (by omega)]
  refine ⟨aA fun _ => aL h0 hi, aA fun h => ?_, fun _ => ⟨aL h0 hi, by simp [lm, LIM]; omega, sO t hs n _ _ (by omega) (by omega) (by simp; omega) (by omega)⟩, fun _ => sO t hs n _ _ (by omega) (by omega) (by omega) (by omega)⟩
  have h : ¬ i = 0 := by simpa using h
  rw [aE (by omega) (by omega)]; exact aL (by omega) (by omega)
theorem Tz (t : Mdl) (hs : t.1.length < 1000000) : Tot (pO t) fun r => r.length ≤ t.1.length := by
 simp only [pO, za]
 exact sO t hs FU [] 0 (by omega) (by omega) (by simp) (by rw [bn]; omega)
theorem xH (t : Mdl) (hs : t.1.length < 1000000) (hx : ∀ c ∈ t.1, TxC c) : ∀ (n : Nat) (kind : Int) (a b : Bool) (i : Int), 0 ≤ i → i ≤ t.1.length → t.1.length - i < n → Tot (jH n t kind a b i) fun _ => True
 | 0, kind, a, b, i, h0, h1, h => by omega
 | n + 1, kind, a, b, i, h0, h1, h => by
  show Tot (mF false some (jH n) t kind a b i) _
  have key : i < t.1.length → ∀ kind a b, Tot (gd false some (jH n) t i kind a b) fun _ => True := fun hi kind a b => by
   have hc := hx _ (eT (t := ac) h0 hi)
   simp only [gd, mG, tt, il]
   rw [aE (n := i + 1) (by omega) (by omega), aE (n := (t.1.length : Int) - 1) (by omega) (by omega)]
   have r := fun a b => xH t hs hx n kind a b (i + 1) (by omega) (by omega) (by omega)
   refine ⟨aL h0 hi, aL h0 hi, (yn _ _ _ (Nat.lt_trans hc (by omega))).mono fun _ _ => fun _ => ⟨aA fun _ => aL h0 hi, aA fun _ => aL h0 hi, aA fun h => aL (by omega) ?_, aA fun _ => aL h0 hi, fun _ => ⟨aA fun _ => by simp [aP], fun _ => r _ _⟩, fun _ => r _ _⟩⟩
   have h : ¬ i = (t.1.length : Int) - 1 := by simpa using h
   omega
  simp only [mF, tt, il]
  intro hi
  have hi : i < t.1.length := by simpa using hi
  refine ⟨aA fun _ => aL h0 hi, aA fun h => ?_, fun _ => ⟨aL h0 hi, fun _ => ⟨aL h0 hi, key hi _ _ _⟩⟩, fun _ => key hi _ _ _⟩
  have h : ¬ i = 0 := by simpa using h
  rw [aE (by omega) (by omega)]; exact aL (by omega) (by omega)
theorem Nm (t : Mdl) (hs : t.1.length < 1000000) (hx : ∀ c ∈ t.1, TxC c) : Tot (mH t) fun _ => True := by
 simp only [mH, tY, tt]
 exact (JX _ hs).mono fun _ _ _ => xH t hs hx FU 0 false false 0 (by omega) (by omega) (by rw [bn]; omega)
theorem rV (t : Mdl) (hs : t.1.length < 1000000) (to most : Int) (hm : most ≤ 1000001) : ∀ (n : Nat) (id i : Int), 0 ≤ i → i ≤ 1000001 → 1000001 - i < n → Tot (iY n to most t id i) fun _ => True
 | 0, id, i, h0, h1, h => by omega
 | n + 1, id, i, h0, h1, h => by
  show Tot (ia false some (iY n) to most t id i) _
  simp only [ia, tt]
  intro hi
  have hi : i < most := by simpa using hi
  rw [aE (by omega) (by omega)]
  exact (Xr t id 2 hs).mono fun _ _ _ _ => rV t hs to most hm n _ (i + 1) (by omega) (by omega) (by omega)
theorem GV (t : Mdl) (hs : t.1.length < 1000000) (id to most : Int) (hm : most ≤ 1000001) : Tot (eY t id to most) fun _ => True := by
 simp only [eY, n0]
 exact rV t hs to most hm FU id 0 (by omega) (by omega) (by rw [bn]; omega)
theorem oL (t : Mdl) (hs : t.1.length < 1000000) (id : Int) (r2 : List Int) (hr : r2.length ≤ t.1.length) : ∀ (n : Nat) (out : List Int) (i : Int), 0 ≤ i → i ≤ r2.length → out.length ≤ i → r2.length - i < n → Tot (lP n id r2 t out i) fun r => r.length ≤ t.1.length
 | 0, out, i, h0, h1, h2, h => by omega
 | n + 1, out, i, h0, h1, h2, h => by
  show Tot (kG false some (lP n) id r2 t out i) _
  simp only [kG, kH, tt, il]
  refine ⟨fun hi => ?_, fun _ => by omega⟩
  have hi : i < r2.length := by simpa using hi
  have hg : EY t (ix aa r2 i) id (w64 ((r2.length : Int) + 1)) = true := (GV t hs _ _ _ (by rw [aE (by omega) (by omega)]; omega)).some
  rw [hg, aE (n := i + 1) (by omega) (by omega)]
  exact ⟨aL h0 hi, aA fun _ => aL h0 hi, by simp [aP, bo], fun _ => ⟨aL h0 hi, by simp [lm, LIM]; omega, oL t hs id r2 hr n _ _ (by omega) (by omega) (by simp; omega) (by omega)⟩, fun _ => oL t hs id r2 hr n _ _ (by omega) (by omega) (by omega) (by omega)⟩
theorem MI (t : Mdl) (hs : t.1.length < 1000000) (hx : ∀ c ∈ t.1, TxC c) (id : Int) : Tot (kI t id) fun r => r.length ≤ t.1.length := by
 simp only [kI, rA, tt]
 exact (Nm t hs hx).mono fun _ _ => ⟨aA fun _ => o4 _, fun _ => by simp, fun _ => (Tz t hs).mono fun r2 hr => oL t hs id r2 hr FU [] 0 (by omega) (by omega) (by simp) (by rw [bn]; omega)⟩
end Go.Proofs.YtboikinjlmjgjaaGreat.Abs
