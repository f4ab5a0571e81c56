/- Layer 27: the reference's regions; the statements. -/
import Derived.Test.YtboikinjlmjgjaaGreatGenW
import Derived.Test.YtboikinjlmjgjaaGreatSort
namespace Go.Proofs.YtboikinjlmjgjaaGreat.Abs
open Go
theorem oY {n : Int} (h0 : -9223372036854775808 ≤ n) (h1 : n < 9223372036854775808) : w64 n = n := by
 unfold w64; simp [IntKind.wrap, IntKind.bits, IntKind.signed]; omega
theorem ZU {n : Nat} (h : n < 9223372036854775808) : w64 (n : Int) = n := oY (by omega) (by omega)
theorem bU {t : Ty} (p : List t.den) (c : t.den) (r : List t.den) : ix t (p ++ c :: r) (p.length : Int) = c := by
 simp [ix]
theorem gk {t : Ty} (p : List t.den) (c : t.den) (r : List t.den) : decide ((p.length : Int) < ((p ++ c :: r).length : Int)) = true := by
 simp; omega
theorem j8 {t : Ty} (p : List t.den) : decide ((p.length : Int) < ((p ++ []).length : Int)) = false := by simp
theorem lY {t : Ty} (p : List t.den) : decide (0 ≤ (p.length : Int)) = true := by simp
theorem j0 {t : Ty} (p : List t.den) (c : t.den) (h : p.length < 9223372036854775807) : w64 ((p.length : Int) + 1) = ((p ++ [c]).length : Int) := by
 rw [oY (by omega) (by omega)]; simp
theorem oM {t : Ty} (p : List t.den) (c : t.den) (r : List t.den) : p ++ c :: r = (p ++ [c]) ++ r := by simp
theorem aj8 (a b : Bool) : aM a b = (!a || b) := by cases a <;> cases b <;> rfl
theorem dt {p : Prop} [Decidable p] (h : p) : decide p = true := decide_eq_true h
theorem df {p : Prop} [Decidable p] (h : ¬ p) : decide p = false := decide_eq_false h
theorem Tr (x : Int) : l6 x = false := by simp [l6]
theorem kF (x y : Int) : ct x y = oS x y := by
 simp only [ct, Tr, cond_false, oS]
 by_cases h : x < y <;> by_cases h' : y < x <;> simp [h, h']
theorem VF (fuel : Nat) : ∀ (n : Nat) (r p : List Int), r.length < n → (p ++ r).length ≤ 4294967296 →
  Bn fuel n (p ++ r) (p.length : Int) = some (.val aa (orF r)) := by
 intro n
 induction n with
 | zero => intro r p h; omega
 | succ n ih =>
  intro r p h hl
  cases r with
  | nil => rw [E3, j8 (t := aa)]; rfl
  | cons c r =>
   have hl' : p.length + (r.length + 1) ≤ 4294967296 := by simpa using hl
   have next := ih r (p ++ [c]) (by simp at h; omega) (by simp; omega)
   rw [← oM (t := aa), ← j0 (t := aa) p c (by omega)] at next
   rw [E3, bU (t := aa), gk (t := aa), lY (t := aa), next]
   simp only [cond_true, Bool.and_self, orF, List.find?_cons]
   by_cases h0 : c = 0 <;> simp [h0]
theorem SM (l : List Int) (h : Ox l = true) : ∃ fuel, G8 fuel l = some (.val aa (orF l)) :=
 ⟨l.length + 1, by rw [aeo]; exact VF _ (l.length + 1) l [] (by omega) (of_decide_eq_true h)⟩
theorem QK (a b : Int) : orF [a, b] = eQ a b := by
 simp only [orF, eQ, List.find?_cons, List.find?_nil]
 by_cases h1 : a = 0 <;> by_cases h2 : b = 0 <;> simp [h1, h2]
theorem SN (a b c : Int) : orF [a, b, c] = eQ a (eQ b c) := by
 simp only [orF, eQ, List.find?_cons, List.find?_nil]
 by_cases h1 : a = 0 <;> by_cases h2 : b = 0 <;> by_cases h3 : c = 0 <;> simp [h1, h2, h3]
theorem F0 (i f i2 f2 : Int) : qm i f i2 f2 = ahd i f i2 f2 := by
 unfold qm ahd
 by_cases h1 : i < i2 <;> by_cases h2 : i = i2 <;> by_cases h3 : f < f2 <;> simp [h1, h2, h3]
theorem MD (x y : Stg) : ∃ fuel, xj fuel x y = some (.val aa (gr x y)) :=
 ⟨0, by
  rw [Ze, SN, kF, kF, kF]
  rfl⟩
theorem NI (fuel : Nat) : ∀ (n : Nat) (r s p q : List Cel), r.length < n → (p ++ r).length ≤ 1048577 → p.length = q.length → r.length = s.length →
  pg fuel n (p ++ r) (q ++ s) (p.length : Int) = some (.val .bool ((r.zip s).all (fun p => eqD ac p.1 p.2))) := by
 intro n
 induction n with
 | zero => intro r s p q h; omega
 | succ n ih =>
  intro r s p q h hl hpq hrs
  cases r with
  | nil => rw [xL, j8 (t := ac)]; rfl
  | cons c r =>
   cases s with
   | nil => simp at hrs
   | cons d s =>
   have hl' : p.length + (r.length + 1) ≤ 1048577 := by simpa using hl
   have next := ih r s (p ++ [c]) (q ++ [d]) (by simp at h; omega) (by simp; omega) (by simp; omega) (by simpa using hrs)
   rw [← oM (t := ac), ← oM (t := ac), ← j0 (t := ac) p c (by omega)] at next
   rw [xL, bU (t := ac), gk (t := ac), lY (t := ac), next]
   rw [hpq, bU (t := ac), gk (t := ac)]
   simp only [cond_true, Bool.and_self, List.zip_cons_cons, List.all_cons]
   cases eqD ac c d <;> simp
theorem KA (a b : List Cel) (h : Nb a b = true) : ∃ fuel, wo fuel a b = some (.val .bool (ph a b)) := by
 refine ⟨a.length + 1, ?_⟩
 have h : a.length ≤ 1048577 ∧ b.length ≤ 1048577 := by simpa [Nb] using h
 rw [Vn]
 by_cases hl : a.length = b.length
 ·have := NI (a.length + 1) (a.length + 1) a b [] [] (by omega) h.1 rfl hl
  rw [show (([] : List Cel).length : Int) = 0 from rfl] at this
  simp only [List.nil_append] at this
  rw [this]; simp [hl, ph]
 ·have : ¬ (a.length : Int) = (b.length : Int) := by omega
  simp [hl, this, ph]
theorem p8 : ∀ (t : Ty) (x : t.den), t.flatEq = true → eqD t x x = true
 | .int _, x, _ => by simp [eqD]
 | .bool, x, _ => by simp [eqD]
 | .str, x, _ => by simp [eqD]
 | .unit, _, _ => rfl
 | .cons a b, x, h => by
  simp only [Ty.flatEq, Bool.and_eq_true] at h
  simp [eqD, p8 a x.1 h.1.1, p8 b x.2 h.1.2]
 | .slice _, _, h => by simp [Ty.flatEq] at h
 | .tree, _, h => by simp [Ty.flatEq] at h
theorem P4 : ∀ (t : Ty) (x y : t.den), eqD t x y = true → x = y
 | .int _, x, y, h => by simpa [eqD] using h
 | .bool, x, y, h => by simpa [eqD] using h
 | .str, x, y, h => by simpa [eqD] using h
 | .unit, _, _, _ => rfl
 | .cons a b, x, y, h => by
  simp only [eqD, Bool.and_eq_true] at h
  exact Prod.ext (P4 a _ _ h.1) (P4 b _ _ h.2)
 | .slice _, _, _, h => by simp [eqD] at h
 | .tree, _, _, h => by simp [eqD] at h
theorem JC {α : Type} {p : α × α → Bool} (hp : ∀ x, p (x, x) = true) : ∀ l : List α, (l.zip l).all p = true
 | [] => rfl
 | x :: l => by simp [hp x, JC hp l]
theorem KB (l : List Cel) : ph l l = true := by
 simp only [ph, decide_true, Bool.true_and]
 exact JC (fun x => p8 ac x rfl) l
end Go.Proofs.YtboikinjlmjgjaaGreat.Abs
namespace Go.Proofs.YtboikinjlmjgjaaGreat.Abs
open Go
theorem Q1 {t : Ty} (c : t.den) (r : List t.den) : ix t (c :: r) 0 = c := rfl
theorem BD (x : Slt) (r : List Slt) : (aI (x :: r, ())).1 = (bif !eqD aF (cM x) zv then [(x.1, x.2.1, cM x, ())] else []) ++ (aI (r, ())).1 := by
 simp only [aI, List.filter_cons]
 cases eqD aF (cM x) zv <;> simp
theorem Lt (fuel : Nat) (b0 b5 : List Slt) (b1 : List Cel) (u : Unit) : ∀ (n : Nat) (r p : List Slt) (acc : List Cel), r.length < n → (p ++ r).length ≤ 1048576 → (∀ x ∈ r, x.2.2.1 ≠ []) → acc.length ≤ p.length →
  bS fuel n (p ++ r, u) (p.length : Int) b0 b1 acc b5 = some (.val aw (acc ++ (aI (r, ())).1, ())) := by
 intro n
 induction n with
 | zero => intro r p acc h; omega
 | succ n ih =>
  intro r p acc h hl hne ha
  cases r with
  | nil => rw [mV]; dsimp only; rw [j8 (t := aj)]; simp [aI]
  | cons c r =>
   obtain ⟨ci, cf, al, cu⟩ := c
   cases al with
   | nil => exact absurd rfl (hne _ (List.mem_cons_self ..))
   | cons a al =>
    have hl' : p.length + (r.length + 1) ≤ 1048576 := by simpa using hl
    have next := fun acc' (h' : acc'.length ≤ p.length + 1) => ih r (p ++ [(ci, cf, a :: al, cu)]) acc' (by simp at h; omega) (by simp; omega) (fun x hx => hne x (List.mem_cons_of_mem _ hx)) (by simpa using h')
    rw [← oM (t := aj), ← j0 (t := aj) p (ci, cf, a :: al, cu) (by omega)] at next
    rw [mV]
    dsimp only
    rw [bU (t := aj), gk (t := aj), lY (t := aj), next _ (by simp; omega), next _ (by omega)]
    dsimp only
    rw [Q1 (t := aR), BD]
    have hlim : acc.length + 1 ≤ LIM := by simp [LIM]; omega
    have hp : decide (((a :: al).length : Int) > 0) = true := dt (by simp)
    rw [hp]
    simp only [cond_true, Bool.and_self, Bool.and_true, cM, zv, mu]
    cases eqD aF a.2.1 (0, false, [], 0, ()) <;> simp [hlim]
theorem qH {s : Sta} (h : stG s = true) : s.1.length ≤ 1048576 ∧ ∀ x ∈ s.1, x.2.2.1 ≠ [] ∧ x.2.2.1.length ≤ 1048576 := by
 simp only [stG, Bool.and_eq_true, decide_eq_true_eq, List.all_eq_true] at h
 refine ⟨h.1, fun x hx => ?_⟩
 have := h.2 x hx
 simp only [Bool.not_eq_true', BP, decide_eq_true_eq] at this
 exact ⟨fun e => by rw [e] at this; simp at this, this.2⟩
theorem Hk (s : Sta) (h : stG s = true) : ∃ fuel, sL fuel s = some (.val aw (aI s)) := by
 obtain ⟨h1, h2⟩ := qH h
 obtain ⟨l, u⟩ := s
 refine ⟨l.length + 1, ?_⟩
 rw [S8]
 exact Lt _ _ _ _ u (l.length + 1) l [] [] (by omega) h1 (fun x hx => (h2 x hx).1) (by simp)
theorem Lr (fuel : Nat) (u : Unit) : ∀ (n : Nat) (r p : List Slt) (acc : List Cel), r.length < n → (p ++ r).length ≤ 1048576 → (∀ x ∈ r, x.2.2.1 ≠ []) → acc.length ≤ p.length →
  mU fuel n (p ++ r, u) (p.length : Int) acc = some (.val aw (acc ++ (aI (r, ())).1, ())) := by
 intro n
 induction n with
 | zero => intro r p acc h; omega
 | succ n ih =>
  intro r p acc h hl hne ha
  cases r with
  | nil => rw [uE]; dsimp only; rw [j8 (t := aj)]; simp [aI]
  | cons c r =>
   obtain ⟨ci, cf, al, cu⟩ := c
   cases al with
   | nil => exact absurd rfl (hne _ (List.mem_cons_self ..))
   | cons a al =>
    have hl' : p.length + (r.length + 1) ≤ 1048576 := by simpa using hl
    have next := fun acc' (h' : acc'.length ≤ p.length + 1) => ih r (p ++ [(ci, cf, a :: al, cu)]) acc' (by simp at h; omega) (by simp; omega) (fun x hx => hne x (List.mem_cons_of_mem _ hx)) (by simpa using h')
    rw [← oM (t := aj), ← j0 (t := aj) p (ci, cf, a :: al, cu) (by omega)] at next
    rw [uE]
    dsimp only
    rw [bU (t := aj), gk (t := aj), lY (t := aj), uF, uF, next _ (by simp; omega), next _ (by omega)]
    dsimp only
    rw [Q1 (t := aR), BD]
    have hlim : acc.length + 1 ≤ LIM := by simp [LIM]; omega
    have hq : decide ((0 : Int) < ((a :: al).length : Int)) = true := dt (by simp)
    rw [hq]
    simp only [cond_true, Bool.and_self, Bool.and_true, cM, zv]
    cases eqD aF a.2.1 (0, false, [], 0, ()) <;> simp [hlim]
theorem Hj (s : Sta) (h : stG s = true) : ∃ fuel, sK fuel s = some (.val aw (aI s)) := by
 obtain ⟨h1, h2⟩ := qH h
 obtain ⟨l, u⟩ := s
 refine ⟨l.length + 1, ?_⟩
 rw [S5]
 exact Lr _ u (l.length + 1) l [] [] (by omega) h1 (fun x hx => (h2 x hx).1) (by simp)
theorem adn (i f i2 f2 : Int) : decide (eQ (oS i i2) (oS f f2) ≥ 0) = !ahd i f i2 f2 := by
 unfold eQ oS ahd
 rcases Int.lt_trichotomy i i2 with h | h | h
 ·have h1 : ¬ i2 < i := by omega
  simp [h]
 ·subst h
  rcases Int.lt_trichotomy f f2 with g | g | g
  ·simp [g]
  ·subst g; simp
  ·have : ¬ f < f2 := by omega
   simp [this, g]
 ·have h1 : ¬ i < i2 := by omega
  have h2 : ¬ i = i2 := by omega
  simp [h, h1, h2]
theorem Vl (i f i2 f2 : Int) : decide (eQ (oS i i2) (oS f f2) = 0) = (decide (i = i2) && decide (f = f2)) := by
 unfold eQ oS
 rcases Int.lt_trichotomy i i2 with h | h | h
 ·have h1 : ¬ i = i2 := by omega
  simp [h, h1]
 ·subst h
  rcases Int.lt_trichotomy f f2 with g | g | g
  ·have : ¬ f = f2 := by omega
   simp [g, this]
  ·subst g; simp
  ·have h1 : ¬ f < f2 := by omega
   have h2 : ¬ f = f2 := by omega
   simp [h1, h2, g]
 ·have h1 : ¬ i < i2 := by omega
  have h2 : ¬ i = i2 := by omega
  simp [h, h1, h2]
theorem M4 (fuel : Nat) (id field : Int) (v : Val) (u : Unit) : ∀ (n : Nat) (r p : List Cel) (acc : List Cel) (done : Bool), r.length < n → (p ++ r).length ≤ 1048576 → acc.length ≤ p.length + 1 → (done = false → acc.length ≤ p.length) →
  mj fuel n id field (p ++ r, u) v acc.length done (p.length : Int) acc = some (.val aw (acc ++ gQ id field v done r, ())) := by
 intro n
 induction n with
 | zero => intro r p acc done h; omega
 | succ n ih =>
  intro r p acc done h hl ha hd
  have tk : ∀ {x : List Cel}, List.take acc.length acc ++ x = acc ++ x := by simp
  cases r with
  | nil =>
   rw [xw]; dsimp only; rw [j8 (t := ac), tG, tG]
   have hlim : acc.length + 1 ≤ LIM := by simp at hl; simp [LIM]; omega
   have hta : List.take (acc.length + 1) (acc ++ [(id, field, v, ())]) = acc ++ [(id, field, v, ())] := List.take_of_length_le (by simp)
   cases done
   ·simp [gQ, hlim, hta]
   ·simp [gQ]
  | cons c r =>
   have hl' : p.length + (r.length + 1) ≤ 1048576 := by simpa using hl
   have next := fun acc' done' (h' : acc'.length ≤ p.length + 2) (h'' : done' = false → acc'.length ≤ p.length + 1) => ih r (p ++ [c]) acc' done' (by simp at h; omega) (by simp; omega) (by simpa using h') (by simpa using h'')
   rw [← oM (t := ac), ← j0 (t := ac) p c (by omega)] at next
   have j10 : ∀ acc' done', acc'.length ≤ p.length + 1 → (done' = false → acc'.length ≤ p.length) → jf fuel n id field (p ++ c :: r, u) (p.length : Int) v acc'.length done' acc' = some (.val aw (acc' ++ (if decide (c.1 = id) && decide (c.2.1 = field) then [] else [c]) ++ gQ id field v done' r, ())) := by
    intro acc' done' h1 h2
    rw [Gk]
    dsimp only
    rw [bU (t := ac), QK, kF, kF, Vl, tH, tH]
    have hlim : acc'.length + 1 ≤ LIM := by simp [LIM]; omega
    have e1 : acc'.length + ([c] : List Cel).length = (acc' ++ [c]).length := by simp
    have e2 : List.take acc'.length acc' ++ [c] = acc' ++ [c] := by simp
    rw [e1, e2, next _ _ (by simp; omega) (fun hf => by have := h2 hf; simp; omega), next _ _ (by omega) (fun hf => by have := h2 hf; omega)]
    cases decide (c.1 = id) && decide (c.2.1 = field) <;> simp [hlim]
   rw [xw]
   dsimp only
   rw [bU (t := ac), gk (t := ac), lY (t := ac), QK, kF, kF, adn]
   have e1 : acc.length + ([(id, field, v, ())] : List Cel).length = (acc ++ [(id, field, v, ())]).length := by simp
   have e3 : Ox [oS c.1 id, oS c.2.1 field] = true := rfl
   rw [e1, tk, e3, j10 acc done ha hd]
   simp only [cond_true, Bool.and_self, gQ]
   cases hA : ahd c.1 c.2.1 id field
   ·cases done
    ·have := hd rfl
     rw [j10 (acc ++ [(id, field, v, ())]) true (by simp; omega) (fun hf => by cases hf)]
     have hlim : acc.length + 1 ≤ LIM := by simp [LIM]; omega
     simp [hlim]
    ·simp
   ·simp
theorem QW {m : Mdl} (h : Lw m = true) : m.1.length ≤ 1048576 := of_decide_eq_true h
theorem JP (m : Mdl) (id field : Int) (v : Val) (h : JR m id field v = true) : ∃ fuel, wc fuel m id field v = some (.val aw (rO m id field v)) := by
 have h := QW h
 obtain ⟨l, u⟩ := m
 simp only at h
 refine ⟨l.length + 1, ?_⟩
 rw [UM]
 have := M4 (l.length + 1) id field v u (l.length + 1) l [] [] (eqD aF v zv) (by omega) h (by simp) (by simp)
 rw [oY (by simp; omega) (by simp; omega)]
 have hle : (l.length : Int) + 1 ≤ (LIM : Int) := by simp [LIM]; omega
 have h0 : (0 : Int) ≤ (l.length : Int) + 1 := by omega
 simp only [hle, h0, decide_true, Bool.and_self, cond_true, Int.le_refl]
 exact this
theorem Jg (fuel : Nat) (a : Alt) : ∀ (n : Nat) (r p : List Alt), r.length < n → (p ++ r).length ≤ 1048576 → (p ++ r).head? = some a →
  kD fuel n (p ++ r) (p.length : Int) = some (.val .bool (r.any (fun b => !eqD aF b.2.1 a.2.1))) := by
 intro n
 induction n with
 | zero => intro r p h; omega
 | succ n ih =>
  intro r p h hl hh
  cases r with
  | nil => rw [l9, j8 (t := aR)]; rfl
  | cons c r =>
   have hl' : p.length + (r.length + 1) ≤ 1048576 := by simpa using hl
   have next := ih r (p ++ [c]) (by simp at h; omega) (by simp; omega) (by simpa using hh)
   rw [← oM (t := aR), ← j0 (t := aR) p c (by omega)] at next
   have h0 : ix aR (p ++ c :: r) 0 = a := by
    cases hp : p ++ c :: r with
    | nil => simp at hp
    | cons x y => rw [hp] at hh; simp at hh; subst hh; rfl
   have hq : decide ((0 : Int) < ((p ++ c :: r).length : Int)) = true := dt (by simp; omega)
   rw [l9, bU (t := aR), gk (t := aR), lY (t := aR), next, h0, hq]
   simp only [cond_true, Bool.and_self, List.any_cons]
   cases eqD aF c.2.1 a.2.1 <;> simp
theorem Ed (l : List Alt) (h : BP l = true) : ∃ fuel, qc fuel l = some (.val .bool (dc l)) := by
 have h : l.length ≤ 1048576 := of_decide_eq_true h
 refine ⟨l.length + 1, ?_⟩
 rw [Qa]
 cases l with
 | nil => rw [l9]; rfl
 | cons a l =>
  have := Jg ((a :: l).length + 1) a ((a :: l).length + 1) (a :: l) [] (by omega) h rfl
  rw [show (([] : List Alt).length : Int) = 0 from rfl, List.nil_append] at this
  rw [this]
  simp only [dc, List.any_cons, p8 aF a.2.1 rfl, Bool.not_true, Bool.false_or]
theorem Jm (l : List Alt) (h : tg l = true) : ∃ fuel, th fuel l = some (.val (.slice aR) (idA l)) := by
 simp only [tg, Bool.and_eq_true, BP, decide_eq_true_eq] at h
 refine ⟨0, ?_⟩
 rw [Uo, h.1]
 have : l.length ≤ LIM := by have := h.2; simp [LIM]; omega
 simp [this, idA]
end Go.Proofs.YtboikinjlmjgjaaGreat.Abs
namespace Go.Proofs.YtboikinjlmjgjaaGreat.Abs
open Go
theorem gL {i f j g : Int} : ahd i f j g = true ↔ i < j ∨ (i = j ∧ f < g) := by simp [ahd]
theorem ahG {i f j g : Int} : ahd i f j g = false ↔ ¬ (i < j ∨ (i = j ∧ f < g)) := by rw [← gL]; simp
theorem rH {i f j g k h : Int} (h1 : ahd i f j g = true) (h2 : ahd j g k h = true) : ahd i f k h = true := by
 rw [gL] at *; omega
theorem adm {i f j g : Int} (h : ahd i f j g = false) (hne : ¬ (i = j ∧ f = g)) : ahd j g i f = true := by
 rw [ahG] at h
 rw [gL]
 omega
theorem VC {L : List Slt} (hp : L.Pairwise gf) (id field : Int) : ∀ m, m < L.length → ahd (L.getD m (zero aj)).1 (L.getD m (zero aj)).2.1 id field = decide (m < (L.takeWhile (fun x => ahd x.1 x.2.1 id field)).length) := by
 induction L with
 | nil => intro m hm; simp at hm
 | cons x L ih =>
  obtain ⟨h1, h2⟩ := List.pairwise_cons.1 hp
  intro m hm
  rw [List.takeWhile_cons]
  cases hx : ahd x.1 x.2.1 id field with
  | true =>
   cases m with
   | zero => simp [List.getD, hx]
   | succ m =>
    have := ih h2 m (by simpa using hm)
    simpa [List.getD] using this
  | false =>
   cases m with
   | zero => simp [List.getD, hx]
   | succ m =>
    have hm' : m < L.length := by simpa using hm
    have hmem : L.getD m (zero aj) ∈ L := by
     simp only [List.getD, List.getElem?_eq_getElem hm', Option.getD_some]
     exact List.getElem_mem hm'
    have hlt := h1 _ hmem
    have e : (x :: L).getD (m + 1) (zero aj) = L.getD m (zero aj) := by simp [List.getD]
    rw [e]
    cases hy : ahd (L.getD m (zero aj)).1 (L.getD m (zero aj)).2.1 id field with
    | false => simp
    | true =>
     have := rH hlt hy
     rw [hx] at this
     cases this
theorem N2 (fuel : Nat) (id field : Int) (L : List Slt) (u : Unit) (hl : L.length ≤ 1048576) (hp : L.Pairwise gf) : ∀ (n lo hi : Nat), hi - lo < n → lo ≤ (L.takeWhile (fun x => ahd x.1 x.2.1 id field)).length → (L.takeWhile (fun x => ahd x.1 x.2.1 id field)).length ≤ hi → hi ≤ L.length →
  d4 fuel n id field (L, u) (lo : Int) (hi : Int) = some (.val aa ((L.takeWhile (fun x => ahd x.1 x.2.1 id field)).length : Int)) := by
 intro n
 induction n with
 | zero => intro lo hi h; omega
 | succ n ih =>
  intro lo hi h h1 h2 h3
  rw [G1]
  dsimp only
  by_cases hlt : lo < hi
  ·have e1 : w64 ((lo : Int) + (hi : Int)) = ((lo + hi : Nat) : Int) := by rw [oY (by omega) (by omega)]; simp
   have e2 : Int.tdiv ((lo + hi : Nat) : Int) 2 = (((lo + hi) / 2 : Nat) : Int) := rfl
   have e3 : w64 (((lo + hi) / 2 : Nat) : Int) = (((lo + hi) / 2 : Nat) : Int) := ZU (by omega)
   rw [e1, e2, e3]
   generalize hm : (lo + hi) / 2 = m
   have hm1 : lo ≤ m := by omega
   have hm2 : m < hi := by omega
   have e4 : w64 ((m : Int) + 1) = ((m + 1 : Nat) : Int) := by rw [oY (by omega) (by omega)]; simp
   have e5 : ix aj L (m : Int) = L.getD m (zero aj) := by simp [ix]
   rw [e4, e5, F0, VC hp id field m (by omega)]
   have c1 : decide ((lo : Int) < (hi : Int)) = true := dt (by omega)
   have c2 : decide ((0 : Int) ≤ (m : Int)) = true := dt (by omega)
   have c3 : decide ((m : Int) < (L.length : Int)) = true := dt (by omega)
   rw [c1, c2, c3]
   simp only [Bool.and_self, cond_true]
   by_cases hk : m < (L.takeWhile (fun x => ahd x.1 x.2.1 id field)).length
   ·rw [dt hk, cond_true]
    exact ih (m + 1) hi (by omega) (by omega) h2 h3
   ·rw [df hk, cond_false]
    exact ih lo m (by omega) h1 (by omega) (by omega)
  ·have c1 : decide ((lo : Int) < (hi : Int)) = false := df (by omega)
   have e : (L.takeWhile (fun x => ahd x.1 x.2.1 id field)).length = lo := by omega
   rw [c1, cond_false, e]
theorem uv {s : Sta} {id field : Int} (h : bX s id field = true) : s.1.length ≤ 1048576 ∧ s.1.Pairwise gf := by
 simpa [bX, adf] using h
theorem G0 (s : Sta) (id field : Int) (h : bX s id field = true) : ∃ fuel, sJ fuel s id field = some (.val aa (am s id field)) := by
 obtain ⟨h1, h2⟩ := uv h
 obtain ⟨l, u⟩ := s
 refine ⟨l.length + 1, ?_⟩
 rw [SJ]
 exact N2 _ id field l u h1 h2 (l.length + 1) 0 l.length (by omega) (Nat.zero_le _) (List.takeWhile_sublist _).length_le (Nat.le_refl _)
theorem tX (s : Sta) (id field : Int) : s.1 = bJ s id field ++ iK s id field := (List.takeWhile_append_dropWhile).symm
theorem MR (s : Sta) (id field : Int) (h : bX s id field = true) : ∃ fuel, rE fuel s id field = some (.val (.slice aR) (el s id field)) := by
 refine ⟨0, ?_⟩
 rw [Zx, h]
 have hs := tX s id field
 unfold el am
 generalize bJ s id field = p at *
 cases hq : iK s id field with
 | nil =>
  rw [hq] at hs
  rw [hs]
  have c : decide ((p.length : Int) < ((p ++ []).length : Int)) = false := df (by simp)
  rw [c]
  simp [sY]
 | cons x r =>
  rw [hq] at hs
  rw [hs, bU (t := aj), gk (t := aj), lY (t := aj)]
  simp only [cond_true, Bool.and_self, bo]
  by_cases h1 : x.1 = id <;> by_cases h2 : x.2.1 = field <;> simp [h1, h2]
theorem Y9 {t : Ty} (p : List t.den) (c : t.den) (r : List t.den) : List.drop (p.length + 1) (p ++ c :: r) = r := by
 rw [← List.drop_drop]; simp
theorem NB (s : Sta) (id field : Int) (l : List Alt) (h : Z7 s id field l = true) : ∃ fuel, Ax fuel s id field l = some (.val ao (lX s id field l)) := by
 refine ⟨0, ?_⟩
 have hG : bX s id field = true := h
 obtain ⟨h1, _⟩ := uv hG
 have hs := tX s id field
 unfold lX
 have j7 : ∀ (out : List Slt) (k : Nat), out.length ≤ 2097152 → k ≤ s.1.length → qM 0 out s (k : Int) = some (.val ao (out ++ s.1.drop k, ())) := by
  intro out k ho hk
  rw [NC]
  have c1 : decide ((0 : Int) ≤ (k : Int)) = true := dt (by omega)
  have c2 : decide ((k : Int) ≤ (s.1.length : Int)) = true := dt (by omega)
  have c3 : decide (out.length + ((List.take s.1.length s.1).drop (Int.toNat (k : Int))).length ≤ LIM) = true := dt (by simp [LIM]; omega)
  rw [c1, c2, c3]
  simp
 have j5 : ∀ out : List Slt, out.length ≤ 2097152 → uc 0 id field s out = some (.val ao (out ++ Uj id field (iK s id field), ())) := by
  intro out ho
  have hk : (bJ s id field).length ≤ s.1.length := by rw [hs]; simp
  rw [ND]
  unfold am
  cases hq : iK s id field with
  | nil =>
   rw [hq] at hs
   have c : decide (((bJ s id field).length : Int) < (s.1.length : Int)) = false := df (by rw [hs]; simp)
   rw [c, j7 out _ ho hk]
   have hd : s.1.drop (bJ s id field).length = [] := by rw [hs]; simp
   rw [hd]
   simp [sY, Uj]
  | cons x r =>
   rw [hq] at hs
   have hk1 : (bJ s id field).length + 1 ≤ s.1.length := by rw [hs]; simp
   have e1 : ix aj s.1 ((bJ s id field).length : Int) = x := by rw [hs]; exact bU (t := aj) _ _ _
   have c1 : decide (((bJ s id field).length : Int) < (s.1.length : Int)) = true := dt (by omega)
   have c2 : decide ((0 : Int) ≤ ((bJ s id field).length : Int)) = true := dt (by omega)
   have e2 : w64 (((bJ s id field).length : Int) + 1) = (((bJ s id field).length + 1 : Nat) : Int) := by rw [oY (by omega) (by omega)]; simp
   have d1 : s.1.drop (bJ s id field).length = x :: r := by rw [hs]; simp
   have d2 : s.1.drop ((bJ s id field).length + 1) = r := by rw [hs]; exact Y9 (t := aj) _ _ _
   rw [e1, c1, c2, e2, j7 out _ ho hk, j7 out _ ho hk1, d1, d2]
   simp only [cond_true, Bool.and_self, bo]
   by_cases g1 : x.1 = id <;> by_cases g2 : x.2.1 = field <;> simp [g1, g2, Uj]
 rw [Z4, hG]
 unfold am
 have hk : (bJ s id field).length ≤ s.1.length := by rw [hs]; simp
 have ht : (List.take (Int.toNat ((bJ s id field).length : Int)) s.1).drop 0 = bJ s id field := by
  simp only [Int.toNat_natCast, List.drop_zero]
  rw [hs]; simp
 have c1 : decide ((0 : Int) ≤ ((bJ s id field).length : Int)) = true := dt (by omega)
 have c2 : decide (((bJ s id field).length : Int) ≤ (s.1.length : Int)) = true := dt (by omega)
 have c3 : decide (([] : List Slt).length + (bJ s id field).length ≤ LIM) = true := dt (by simp [LIM]; omega)
 have c4 : decide ((([] : List Slt) ++ bJ s id field).length + ([(id, field, l, ())] : List Slt).length ≤ LIM) = true := dt (by simp [LIM]; omega)
 rw [ht, c1, c2, c3, c4, j5 _ (by simp; omega), j5 _ (by simp; omega)]
 cases l with
 | nil => simp
 | cons a l =>
  have c5 : decide (((a :: l).length : Int) > 0) = true := dt (by simp)
  rw [c5]
  simp
theorem ahV {a b : Int} (h1 : ¬ a < b) (h2 : ¬ a = b) : b < a := by omega
theorem akd (s : Sta) (id field : Int) : el s id field = [] ∨ ∃ x ∈ s.1, x.1 = id ∧ x.2.2.1 = el s id field := by
 unfold el
 cases hq : iK s id field with
 | nil => exact .inl rfl
 | cons x r =>
  simp only
  split
  ·rename_i h
   refine .inr ⟨x, ?_, h.1, rfl⟩
   rw [tX s id field, hq]; simp
  ·exact .inl rfl
theorem rQ {α : Type} (p : α → Bool) : ∀ (l : List α), ∀ x ∈ l.takeWhile p, p x = true
 | [], x, h => by simp at h
 | y :: l, x, h => by
  rw [List.takeWhile_cons] at h
  split at h
  ·rename_i hy
   rcases List.mem_cons.1 h with rfl | h
   ·exact hy
   ·exact rQ p l x h
  ·simp at h
theorem qa {α : Type} (p : α → Bool) : ∀ (l : List α) (x : α) (r : List α), l.dropWhile p = x :: r → p x = false
 | [], x, r, h => by simp at h
 | y :: l, x, r, h => by
  rw [List.dropWhile_cons] at h
  split at h
  ·exact qa p l x r h
  ·rename_i hy
   injection h with h1 h2
   subst h1
   simpa using hy
end Go.Proofs.YtboikinjlmjgjaaGreat.Abs
namespace Go.Proofs.YtboikinjlmjgjaaGreat.Abs
open Go
def c3 (a1 a2 a3 b1 b2 b3 : Int) : Int := eQ (oS a1 b1) (eQ (oS a2 b2) (oS a3 b3))
theorem MH (a1 a2 a3 b1 b2 b3 : Int) : c3 a1 a2 a3 b1 b2 b3 ≤ 0 ↔ a1 < b1 ∨ (a1 = b1 ∧ (a2 < b2 ∨ (a2 = b2 ∧ a3 ≤ b3))) := by
 unfold c3 eQ oS
 repeat' split
 all_goals omega
theorem aj0 (a1 a2 a3 b1 b2 b3 : Int) : c3 a1 a2 a3 b1 b2 b3 < 0 ↔ a1 < b1 ∨ (a1 = b1 ∧ (a2 < b2 ∨ (a2 = b2 ∧ a3 < b3))) := by
 unfold c3 eQ oS
 repeat' split
 all_goals omega
theorem ajX (a b : Stg) : gr a b = c3 a.1.1 a.1.2.1 a.2.1 b.1.1 b.1.2.1 b.2.1 := rfl
theorem ahA (a1 a2 a3 b1 b2 b3 : Int) : c3 a1 a2 a3 b1 b2 b3 ≤ 0 ∨ c3 b1 b2 b3 a1 a2 a3 ≤ 0 := by rw [MH, MH]; omega
theorem Zp {a1 a2 a3 b1 b2 b3 d1 d2 d3 : Int} (h : c3 a1 a2 a3 b1 b2 b3 ≤ 0) (g : c3 b1 b2 b3 d1 d2 d3 ≤ 0) : c3 a1 a2 a3 d1 d2 d3 ≤ 0 := by rw [MH] at *; omega
theorem ac9 {a1 a2 a3 b1 b2 b3 : Int} (h : c3 a1 a2 a3 b1 b2 b3 ≤ 0) (g : c3 b1 b2 b3 a1 a2 a3 ≤ 0) : a1 = b1 ∧ a2 = b2 ∧ a3 = b3 := by rw [MH] at *; omega
theorem ahB (a1 a2 a3 b1 b2 b3 : Int) : c3 a1 a2 a3 b1 b2 b3 < 0 ↔ ¬ c3 b1 b2 b3 a1 a2 a3 ≤ 0 := by rw [MH, aj0]; omega
theorem yC : TotalCmp gr :=
 ⟨fun a b => ahA _ _ _ _ _ _, fun a b c h g => Zp h g, fun a b h g => by
  obtain ⟨⟨a1, a2, u⟩, a3, u'⟩ := a
  obtain ⟨⟨b1, b2, w⟩, b3, w'⟩ := b
  obtain ⟨e1, e2, e3⟩ := ac9 h g
  simp only at e1 e2 e3
  rw [e1, e2, e3], fun a b => ahB _ _ _ _ _ _⟩
theorem Ng (c : Cel) (r : List Cel) : pb (c :: r, ()) = (bif wP c then [U6 c] else []) ++ pb (r, ()) := by
 simp only [pb, List.filter_cons]
 cases wP c <;> simp
theorem TE (c : Cel) : (bif (bif (bif (decide (c.2.1 = 2)) then (!decide (c.2.2.1.2.2.2.1 = 0)) else false) then (decide (c.2.2.1.1 ≥ 1)) else false) then (decide (c.2.2.1.1 ≤ 3)) else false) = wP c := by
 unfold wP
 cases decide (c.2.1 = 2) <;> cases decide (c.2.2.1.2.2.2.1 = 0) <;> cases decide (c.2.2.1.1 ≥ 1) <;> rfl
theorem Kj (fuel : Nat) (u : Unit) : ∀ (n : Nat) (r p : List Cel) (acc : List Stg), r.length < n → (p ++ r).length ≤ 1048576 → acc.length ≤ p.length →
  jh fuel n (p ++ r, u) acc.length (p.length : Int) acc = some (.val (.slice aq) (fu gr (acc ++ pb (r, ())))) := by
 intro n
 induction n with
 | zero => intro r p acc h; omega
 | succ n ih =>
  intro r p acc h hl ha
  cases r with
  | nil =>
   rw [tT]
   dsimp only
   rw [j8 (t := ac)]
   have h1 : acc.length ≤ LIM := by simp at hl; simp [LIM]; omega
   have h2 : acc.all Zy = true := by simp [Zy]
   have h3 : (fu gr acc).length = acc.length := (nM gr acc).length_eq
   rw [dt h1, h2]
   simp only [Bool.and_self, cond_true, cond_false, pb, List.filter_nil, List.map_nil, List.append_nil, List.take_zero, List.nil_append, List.take_length, List.drop_zero, List.drop_length]
   rw [← h3, List.take_length]
  | cons c r =>
   have hl' : p.length + (r.length + 1) ≤ 1048576 := by simpa using hl
   have next := fun acc' (h' : acc'.length ≤ p.length + 1) => ih r (p ++ [c]) acc' (by simp at h; omega) (by simp; omega) (by simpa using h')
   rw [← oM (t := ac), ← j0 (t := ac) p c (by omega)] at next
   rw [tT]
   dsimp only
   rw [bU (t := ac), gk (t := ac), lY (t := ac), TE, tU, tU]
   have hlim : acc.length + 1 ≤ LIM := by simp [LIM]; omega
   have e1 : ∀ y : Stg, acc.length + ([y] : List Stg).length = (acc ++ [y]).length := fun y => by simp
   have e2 : List.take acc.length acc = acc := List.take_length
   rw [e1, e2, next _ (by simp; omega), next _ (by omega), Ng]
   have hlim2 : (acc ++ [U6 c]).length ≤ LIM := by simpa using hlim
   cases wP c with
   | false => simp
   | true =>
    have : decide ((acc ++ [U6 c]).length ≤ LIM) = true := dt hlim2
    simp only [Bool.and_self, cond_true]
    rw [show ((c.2.2.1.2.2.2.1, c.2.2.1.1, ()), c.1, ()) = U6 c from rfl, this]
    simp
theorem Gv (m : Mdl) (h : Lw m = true) : ∃ fuel, sD fuel m = some (.val (.slice aq) (eN m)) := by
 have h := QW h
 obtain ⟨l, u⟩ := m
 refine ⟨l.length + 1, ?_⟩
 rw [Sp]
 exact Kj _ u (l.length + 1) l [] [] (by omega) h (by simp)
theorem JT (x : Slt) (r : List Slt) : gy (x :: r, ()) = (bif dc x.2.2.1 then [(1, x.1, x.2.1, x.2.2.1, [], ())] else []) ++ gy (r, ()) := by
 simp only [gy, List.filter_cons]
 cases dc x.2.2.1 <;> simp
theorem Aa (s : Sta) : (gy s).length ≤ s.1.length := by
 simp only [gy, List.length_map]
 exact List.length_filter_le _ _
theorem SB (fuel : Nat) (b0 b5 : List Slt) (u : Unit) (hb : stG (b0, ()) = true) (hm : Lw (aI (b0, ())) = true) : ∀ (n : Nat) (r p : List Slt) (acc : List Reg), r.length < n → (p ++ r).length ≤ 1048576 → (∀ x ∈ r, x.2.2.1 ≠ [] ∧ x.2.2.1.length ≤ 1048576) → acc.length ≤ p.length →
  dG fuel n (p ++ r, u) (p.length : Int) b0 acc b5 = lh fuel fuel (eN (aI (b0, ()))) (acc ++ gy (r, ())) := by
 intro n
 induction n with
 | zero => intro r p acc h; omega
 | succ n ih =>
  intro r p acc h hl hne ha
  cases r with
  | nil => rw [po]; dsimp only; rw [j8 (t := aj), hb, hm]; simp [gy]
  | cons c r =>
   have hl' : p.length + (r.length + 1) ≤ 1048576 := by simpa using hl
   have next := fun acc' (h' : acc'.length ≤ p.length + 1) => ih r (p ++ [c]) acc' (by simp at h; omega) (by simp; omega) (fun x hx => hne x (List.mem_cons_of_mem _ hx)) (by simpa using h')
   rw [← oM (t := aj), ← j0 (t := aj) p c (by omega)] at next
   obtain ⟨n1, n2⟩ := hne c (List.mem_cons_self ..)
   have g1 : BP c.2.2.1 = true := dt n2
   have g2 : tg c.2.2.1 = true := by
    simp only [tg, g1, Bool.and_true]
    cases hc : c.2.2.1 with
    | nil => exact absurd hc n1
    | cons _ _ => rfl
   rw [po]
   dsimp only
   rw [bU (t := aj), gk (t := aj), lY (t := aj), g1, g2, next _ (by simp; omega), next _ (by omega), JT]
   have hlim : acc.length + 1 ≤ LIM := by simp [LIM]; omega
   simp only [cond_true, Bool.and_self, idA]
   cases dc c.2.2.1 <;> simp [hlim]
theorem aaa (fuel n7 : Nat) (t5 : List Stg) (k : Nat) (acc : List Reg) (c0 c1 c2 : Int) (hk : k ≤ t5.length) (hl : t5.length ≤ 1048576) (ha : acc.length ≤ 2097152) : ∀ (n : Nat) (q p : List Stg), t5.take k = p ++ q → q.length < n →
  hY fuel n7 n t5 (k : Int) (p.length : Int) acc c0 c1 c2 [] (p.map (·.2.1)) = jS fuel n7 t5 (k : Int) (acc ++ [(c0, c1, c2, [], (t5.take k).map (·.2.1), ())]) := by
 intro n
 induction n with
 | zero => intro q p _ h; omega
 | succ n ih =>
  intro q p he h
  have hlen : p.length + q.length ≤ 1048576 := by
   have := congrArg List.length he
   simp at this
   omega
  rw [KV]
  have e0 : (List.take (Int.toNat (k : Int)) t5).drop 0 = p ++ q := by rw [← he]; simp
  rw [e0]
  cases q with
  | nil =>
   rw [j8 (t := aq)]
   have hlim : acc.length + 1 ≤ LIM := by simp [LIM]; omega
   simp [hlim, he]
  | cons c q =>
   have next := ih q (p ++ [c]) (by rw [he]; simp) (by simp at h; omega)
   rw [← j0 (t := aq) p c (by omega)] at next
   rw [bU (t := aq), gk (t := aq), lY (t := aq)]
   have hlim : (p.map (fun y : Stg => y.2.1)).length + 1 ≤ LIM := by simp [LIM]; simp at hlen; omega
   rw [List.map_append] at next
   have hd : decide ((p.map (fun y : Stg => y.2.1)).length + ([c.2.1] : List Int).length ≤ LIM) = true := dt hlim
   simp only [cond_true, Bool.and_self]
   rw [hd, cond_true]
   exact next
theorem ajV {t : Ty} {x y : t.den} : eqD t x y = true → x = y := P4 t x y
theorem td (m : Nat) (x : Stg) (r : List Stg) : qf (m + 1) (x :: r) = (if (r.takeWhile (fun y => eqD aT y.1 x.1)).isEmpty then [] else [(2, x.1.1, x.1.2.1, [], x.2.1 :: (r.takeWhile (fun y => eqD aT y.1 x.1)).map (·.2.1), ())]) ++ qf m (r.dropWhile (fun y => eqD aT y.1 x.1)) := rfl
theorem aeg (fuel n7 : Nat) (x : Stg) (acc : List Reg) (res : Option AV) : ∀ (n : Nat) (b a : List Stg), (∀ y ∈ a, eqD aT y.1 x.1 = true) → b.length < n → (x :: (a ++ b)).length ≤ 1048576 → acc.length ≤ 2097152 → (x :: (a ++ b)).length < fuel →
  lh fuel n7 ((a ++ b).dropWhile (fun y => eqD aT y.1 x.1)) (acc ++ (if ((a ++ b).takeWhile (fun y => eqD aT y.1 x.1)).isEmpty then [] else [(2, x.1.1, x.1.2.1, [], x.2.1 :: ((a ++ b).takeWhile (fun y => eqD aT y.1 x.1)).map (·.2.1), ())])) = res →
  nW fuel n7 n (x :: (a ++ b)) (((a.length + 1 : Nat)) : Int) acc = res := by
 intro n
 induction n with
 | zero => intro b a _ h; omega
 | succ n ih =>
  intro b a ha h hl hacc hf hres
  have hl' : a.length + b.length + 1 ≤ 1048576 := by simpa using hl
  have h0 : ix aq (x :: (a ++ b)) 0 = x := rfl
  have hcons : x :: (a ++ b) = (x :: a) ++ b := rfl
  have hlen : ((a.length + 1 : Nat) : Int) = ((x :: a).length : Int) := by simp
  have c0 : decide ((0 : Int) < ((x :: (a ++ b)).length : Int)) = true := dt (by simp; omega)
  have stop : (∀ y b', b = y :: b' → eqD aT y.1 x.1 = false) → (bif (decide (((a.length + 1 : Nat) : Int) > 1)) then (bif (decide (0 ≤ ((a.length + 1 : Nat) : Int)) && decide (((a.length + 1 : Nat) : Int) ≤ ((x :: (a ++ b)).length : Int))) then (hY fuel n7 fuel (x :: (a ++ b)) ((a.length + 1 : Nat) : Int) 0 acc 2 x.1.1 x.1.2.1 [] []) else none) else (jS fuel n7 (x :: (a ++ b)) ((a.length + 1 : Nat) : Int) acc)) = res := by
   intro hb
   have tw : (a ++ b).takeWhile (fun y => eqD aT y.1 x.1) = a ∧ (a ++ b).dropWhile (fun y => eqD aT y.1 x.1) = b := by
    rw [List.takeWhile_append_of_pos ha, List.dropWhile_append_of_pos ha]
    cases b with
    | nil => simp
    | cons y b' => have := hb y b' rfl; simp [this]
   rw [tw.1, tw.2] at hres
   have j19 : ∀ acc', jS fuel n7 (x :: (a ++ b)) ((a.length + 1 : Nat) : Int) acc' = lh fuel n7 b acc' := by
    intro acc'
    rw [KW]
    have c1 : decide ((0 : Int) ≤ ((a.length + 1 : Nat) : Int)) = true := dt (by omega)
    have c2 : decide (((a.length + 1 : Nat) : Int) ≤ ((x :: (a ++ b)).length : Int)) = true := dt (by simp; omega)
    have c3 : (List.take (List.length (x :: (a ++ b))) (x :: (a ++ b))).drop (Int.toNat ((a.length + 1 : Nat) : Int)) = b := by
     rw [List.take_length, Int.toNat_natCast, List.drop_succ_cons]; simp
    rw [c1, c2, c3]
    rfl
   have tk : (x :: (a ++ b)).take (a.length + 1) = x :: a := by rw [List.take_succ_cons]; simp
   have l14 := aaa fuel n7 (x :: (a ++ b)) (a.length + 1) acc 2 x.1.1 x.1.2.1 (by simp) hl hacc fuel (x :: a) [] (by rw [tk]; rfl) (by simp at hf ⊢; omega)
   rw [tk] at l14
   have l14 : hY fuel n7 fuel (x :: (a ++ b)) ((a.length + 1 : Nat) : Int) 0 acc 2 x.1.1 x.1.2.1 [] [] = _ := l14
   rw [l14, j19, j19]
   cases a with
   | nil =>
    have : decide ((([] : List Stg).length + 1 : Nat) > (1 : Int)) = false := df (by simp)
    rw [this]
    simpa using hres
   | cons y a =>
    have d1 : decide ((((y :: a).length + 1 : Nat) : Int) > 1) = true := dt (by simp; omega)
    have d2 : decide ((0 : Int) ≤ (((y :: a).length + 1 : Nat) : Int)) = true := dt (by omega)
    have d3 : decide ((((y :: a).length + 1 : Nat) : Int) ≤ ((x :: (y :: a ++ b)).length : Int)) = true := dt (by simp; omega)
    rw [d1, d2, d3]
    simpa using hres
  rw [NS, h0, c0]
  cases b with
  | nil =>
   have c1 : decide (((a.length + 1 : Nat) : Int) < ((x :: (a ++ [])).length : Int)) = false := df (by simp)
   rw [c1]
   have := stop (fun y b' h => by cases h)
   simp only [sY, cond_true, cond_false, Bool.and_self, Int.le_refl, decide_true]
   exact this
  | cons y b =>
   have e1 : ix aq (x :: (a ++ y :: b)) ((a.length + 1 : Nat) : Int) = y := by rw [hlen]; exact bU (t := aq) (x :: a) y b
   have c1 : decide (((a.length + 1 : Nat) : Int) < ((x :: (a ++ y :: b)).length : Int)) = true := dt (by simp; omega)
   have c2 : decide ((0 : Int) ≤ ((a.length + 1 : Nat) : Int)) = true := dt (by omega)
   rw [e1, c1, c2]
   simp only [cond_true, Bool.and_self, bo, Int.le_refl, decide_true]
   cases hy : eqD aT y.1 x.1 with
   | false =>
    rw [cond_false]
    have := stop (fun y' b' h => by injection h with h _; subst h; exact hy)
    rw [c2] at this
    simpa using this
   | true =>
    rw [cond_true]
    have next := ih b (a ++ [y]) (fun z hz => by
     rcases List.mem_append.1 hz with hz | hz
     ·exact ha z hz
     ·rw [List.mem_singleton.1 hz]; exact hy) (by simp at h; omega) (by simpa using hl) hacc (by simpa using hf) (by simpa using hres)
    have e2 : w64 (((a.length + 1 : Nat) : Int) + 1) = (((a ++ [y]).length + 1 : Nat) : Int) := by
     rw [oY (by omega) (by omega)]; simp
    rw [e2]
    simpa using next
theorem aeh (fuel : Nat) : ∀ (n m : Nat) (t5 : List Stg) (acc : List Reg), t5.length < n → t5.length ≤ m → t5.length ≤ 1048576 → acc.length + t5.length ≤ 2097152 → t5.length < fuel →
  lh fuel n t5 acc = some (.val (.slice ar) (acc ++ qf m t5)) := by
 intro n
 induction n with
 | zero => intro m t5 acc h; omega
 | succ n ih =>
  intro m t5 acc h hm hl ha hf
  rw [NT]
  cases t5 with
  | nil => cases m <;> simp [qf]
  | cons x r =>
   cases m with
   | zero => simp at hm
   | succ m =>
    have c : decide (((x :: r).length : Int) > 0) = true := dt (by simp)
    rw [c, cond_true, td]
    have hd : (r.dropWhile (fun y => eqD aT y.1 x.1)).length ≤ r.length := (List.dropWhile_sublist _).length_le
    simp only [List.length_cons] at h hm hl ha hf
    have := aeg fuel n x acc _ fuel r [] (fun y hy => by cases hy) (by omega) (by simpa using hl) (by omega) (by simpa using hf) rfl
    rw [List.nil_append] at this
    rw [show ((1 : Int)) = ((([] : List Stg).length + 1 : Nat) : Int) from rfl, this, ih m (r.dropWhile (fun y => eqD aT y.1 x.1)) (acc ++ (if (r.takeWhile (fun y => eqD aT y.1 x.1)).isEmpty then [] else [(2, x.1.1, x.1.2.1, [], x.2.1 :: (r.takeWhile (fun y => eqD aT y.1 x.1)).map (·.2.1), ())])) (by omega) (by omega) (by omega) (by split <;> simp <;> omega) (by omega)]
    simp
theorem EG (m : Mdl) : (eN m).length ≤ m.1.length := by
 rw [eN, (nM _ _).length_eq]
 simp only [pb, List.length_map]
 exact List.length_filter_le _ _
theorem mT (s : Sta) : (aI s).1.length ≤ s.1.length := by
 simp only [aI, List.length_map]
 exact List.length_filter_le _ _
theorem Om {s : Sta} (h : stG s = true) : Lw (aI s) = true := dt (Nat.le_trans (mT s) (qH h).1)
theorem NR (s : Sta) (h : AX s = true) : ∃ fuel, AP fuel s = some (.val (.slice ar) (hZ s)) := by
 obtain ⟨l, u⟩ := s
 have h : stG (l, ()) = true := h
 obtain ⟨h1, h2⟩ := qH h
 have hm := Om h
 have hl := mT (l, ())
 have hs := EG (aI (l, ()))
 have hv := Aa (l, ())
 simp only at h1 h2 hl hv
 refine ⟨l.length + 1, ?_⟩
 rw [aac]
 have := SB (l.length + 1) l l u h hm (l.length + 1) l [] [] (by omega) h1 h2 (by simp)
 have e : dG (l.length + 1) (l.length + 1) (l, u) 0 l [] l = _ := this
 rw [e, aeh (l.length + 1) (l.length + 1) (eN (aI (l, ()))).length (eN (aI (l, ()))) ([] ++ gy (l, ())) (by omega) (Nat.le_refl _) (by omega) (by rw [List.nil_append]; omega) (by omega)]
 rfl
end Go.Proofs.YtboikinjlmjgjaaGreat.Abs
namespace Go.Proofs.YtboikinjlmjgjaaGreat.Abs
open Go
def awk : Sta := ([(1048577, 3, [(1048582, (0, false, [102], 0, ()), ()), (1048583, (0, false, [103], 0, ()), ())], ()), (1048578, 2, [(1048582, (2, false, [], 1048577, ()), ())], ()), (1048579, 2, [(1048583, (2, false, [], 1048577, ()), ())], ())], ())
theorem adc : hZ awk = [(1, 1048577, 3, [(1048582, (0, false, [102], 0, ()), ()), (1048583, (0, false, [103], 0, ()), ())], [], ()), (2, 1048577, 2, [], [1048578, 1048579], ())] := by
 have e : pb (aI awk) = [((1048577, 2, ()), 1048578, ()), ((1048577, 2, ()), 1048579, ())] := by kernel_rfl
 have es : eN (aI awk) = [((1048577, 2, ()), 1048578, ()), ((1048577, 2, ()), 1048579, ())] := by
  rw [eN, e]
  refine (tZ yC (List.Perm.refl _) ?_).symm
  simp only [List.pairwise_cons, List.mem_cons, List.not_mem_nil, or_false, false_implies, implies_true, and_true, forall_eq, List.Pairwise.nil]
  decide
 rw [hZ, es]
 rfl
theorem En (id field : Int) (v : Val) : ∀ (l : List Cel) (done : Bool), (gQ id field v done l).length ≤ l.length + (if done then 0 else 1)
 | [], done => by cases done <;> simp [gQ]
 | c :: l, done => by
  have := En id field v l (done || !ahd c.1 c.2.1 id field)
  simp only [gQ, List.length_append, List.length_cons]
  have h1 : (if decide (c.1 = id) && decide (c.2.1 = field) then [] else [c]).length ≤ 1 := by split <;> simp
  generalize (if decide (c.1 = id) && decide (c.2.1 = field) then [] else [c]).length = d at h1 ⊢
  cases done
  ·cases hA : ahd c.1 c.2.1 id field <;> rw [hA] at this <;> simp at this ⊢ <;> omega
  ·simp at this ⊢; omega
theorem ahO (m : Mdl) (id field : Int) (v : Val) : (rO m id field v).1.length ≤ m.1.length + 1 := by
 have := En id field v m.1 (eqD aF v zv)
 simp only [rO]
 split at this <;> omega
end Go.Proofs.YtboikinjlmjgjaaGreat.Abs
