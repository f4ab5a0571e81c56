/- Layer 27: the model of a state, a model with another value, alternatives that differ. -/
import Derived.Test.YtfeijnbommgigaaMeetV1
namespace Go.Proofs.Ytfeijnbommgigaa.Abs
open Go

theorem ix_zero {t : Ty} (c : t.den) (r : List t.den) : ix t (c :: r) 0 = c := rfl

theorem model_cons (x : Slt) (r : List Slt) : (modelF (x :: r, ())).1 = (bif !eqD tVal (firstV x) zv then [(x.1, x.2.1, firstV x, ())] else []) ++ (modelF (r, ())).1 := by
  simp only [modelF, List.filter_cons]
  cases eqD tVal (firstV x) zv <;> simp

theorem modelV_loop (fuel : Nat) (b0 b5 : List Slt) (b1 : List Cel) (u : Unit) : ∀ (n : Nat) (r p : List Slt) (acc : List Cel), r.length < n → (p ++ r).length ≤ 1048576 → (∀ x ∈ r, x.2.2.1 ≠ []) → acc.length ≤ p.length →
    modelV_f59_l1 fuel n (p ++ r, u) (p.length : Int) b0 b1 acc b5 = some (.val tModel (acc ++ (modelF (r, ())).1, ())) := by
  intro n
  induction n with
  | zero => intro r p acc h; omega
  | succ n ih =>
    intro r p acc h hl hne ha
    cases r with
    | nil => rw [modelV_f59_l1_eq]; dsimp only; rw [lt_end (t := tSlot)]; simp [modelF]
    | cons c r =>
      obtain ⟨ci, cf, al, cu⟩ := c
      cases al with
      | nil => exact absurd rfl (hne _ (List.mem_cons_self ..))
      | cons a al =>
        have hl' : p.length + (r.length + 1) ≤ 1048576 := by simpa using hl
        have next := fun acc' (h' : acc'.length ≤ p.length + 1) => ih r (p ++ [(ci, cf, a :: al, cu)]) acc' (by simp at h; omega) (by simp; omega) (fun x hx => hne x (List.mem_cons_of_mem _ hx)) (by simpa using h')
        rw [← as_mid (t := tSlot), ← nx_len (t := tSlot) p (ci, cf, a :: al, cu) (by omega)] at next
        rw [modelV_f59_l1_eq]
        dsimp only
        rw [ix_mid (t := tSlot), lt_mid (t := tSlot), nn_len (t := tSlot), next _ (by simp; omega), next _ (by omega)]
        dsimp only
        rw [ix_zero (t := tAlt), model_cons]
        have hlim : acc.length + 1 ≤ LIM := by simp [LIM]; omega
        have hp : decide (((a :: al).length : Int) > 0) = true := dt (by simp)
        rw [hp]
        simp only [cond_true, Bool.and_self, Bool.and_true, firstV, zv, true_impl]
        cases eqD tVal a.2.1 (0, false, [], 0, ()) <;> simp [hlim]

theorem stG_parts {s : Sta} (h : stG s = true) : s.1.length ≤ 1048576 ∧ ∀ x ∈ s.1, x.2.2.1 ≠ [] ∧ x.2.2.1.length ≤ 1048576 := by
  simp only [stG, Bool.and_eq_true, decide_eq_true_eq, List.all_eq_true] at h
  refine ⟨h.1, fun x hx => ?_⟩
  have := h.2 x hx
  simp only [Bool.not_eq_true', lenA, decide_eq_true_eq] at this
  exact ⟨fun e => by rw [e] at this; simp at this, this.2⟩

theorem modelV_meets (s : Sta) (h : stG s = true) : ∃ fuel, modelV_run fuel s = some (.val tModel (modelF s)) := by
  obtain ⟨h1, h2⟩ := stG_parts h
  obtain ⟨l, u⟩ := s
  refine ⟨l.length + 1, ?_⟩
  rw [modelV_eq]
  exact modelV_loop _ _ _ _ u (l.length + 1) l [] [] (by omega) h1 (fun x hx => (h2 x hx).1) (by simp)

theorem modelX_loop (fuel : Nat) (u : Unit) : ∀ (n : Nat) (r p : List Slt) (acc : List Cel), r.length < n → (p ++ r).length ≤ 1048576 → (∀ x ∈ r, x.2.2.1 ≠ []) → acc.length ≤ p.length →
    modelX_l3 fuel n (p ++ r, u) (p.length : Int) acc = some (.val tModel (acc ++ (modelF (r, ())).1, ())) := by
  intro n
  induction n with
  | zero => intro r p acc h; omega
  | succ n ih =>
    intro r p acc h hl hne ha
    cases r with
    | nil => rw [modelX_l3_eq]; dsimp only; rw [lt_end (t := tSlot)]; simp [modelF]
    | cons c r =>
      obtain ⟨ci, cf, al, cu⟩ := c
      cases al with
      | nil => exact absurd rfl (hne _ (List.mem_cons_self ..))
      | cons a al =>
        have hl' : p.length + (r.length + 1) ≤ 1048576 := by simpa using hl
        have next := fun acc' (h' : acc'.length ≤ p.length + 1) => ih r (p ++ [(ci, cf, a :: al, cu)]) acc' (by simp at h; omega) (by simp; omega) (fun x hx => hne x (List.mem_cons_of_mem _ hx)) (by simpa using h')
        rw [← as_mid (t := tSlot), ← nx_len (t := tSlot) p (ci, cf, a :: al, cu) (by omega)] at next
        rw [modelX_l3_eq]
        dsimp only
        rw [ix_mid (t := tSlot), lt_mid (t := tSlot), nn_len (t := tSlot), modelX_j4_eq, modelX_j4_eq, next _ (by simp; omega), next _ (by omega)]
        dsimp only
        rw [ix_zero (t := tAlt), model_cons]
        have hlim : acc.length + 1 ≤ LIM := by simp [LIM]; omega
        have hq : decide ((0 : Int) < ((a :: al).length : Int)) = true := dt (by simp)
        rw [hq]
        simp only [cond_true, Bool.and_self, Bool.and_true, firstV, zv]
        cases eqD tVal a.2.1 (0, false, [], 0, ()) <;> simp [hlim]

theorem modelX_meets (s : Sta) (h : stG s = true) : ∃ fuel, modelX_run fuel s = some (.val tModel (modelF s)) := by
  obtain ⟨h1, h2⟩ := stG_parts h
  obtain ⟨l, u⟩ := s
  refine ⟨l.length + 1, ?_⟩
  rw [modelX_eq]
  exact modelX_loop _ u (l.length + 1) l [] [] (by omega) h1 (fun x hx => (h2 x hx).1) (by simp)

theorem ahd_cmp (i f i2 f2 : Int) : decide (orElse (icmp i i2) (icmp f f2) ≥ 0) = !ahd i f i2 f2 := by
  unfold orElse icmp ahd
  rcases Int.lt_trichotomy i i2 with h | h | h
  · have h1 : ¬ i2 < i := by omega
    simp [h]
  · subst h
    rcases Int.lt_trichotomy f f2 with g | g | g
    · simp [g]
    · subst g; simp
    · have : ¬ f < f2 := by omega
      simp [this, g]
  · have h1 : ¬ i < i2 := by omega
    have h2 : ¬ i = i2 := by omega
    simp [h, h1, h2]

theorem same_cmp (i f i2 f2 : Int) : decide (orElse (icmp i i2) (icmp f f2) = 0) = (decide (i = i2) && decide (f = f2)) := by
  unfold orElse icmp
  rcases Int.lt_trichotomy i i2 with h | h | h
  · have h1 : ¬ i = i2 := by omega
    simp [h, h1]
  · subst h
    rcases Int.lt_trichotomy f f2 with g | g | g
    · have : ¬ f = f2 := by omega
      simp [g, this]
    · subst g; simp
    · have h1 : ¬ f < f2 := by omega
      have h2 : ¬ f = f2 := by omega
      simp [h1, h2, g]
  · have h1 : ¬ i < i2 := by omega
    have h2 : ¬ i = i2 := by omega
    simp [h, h1, h2]

theorem withV_loop (fuel : Nat) (id field : Int) (v : Val) (u : Unit) : ∀ (n : Nat) (r p : List Cel) (acc : List Cel) (done : Bool), r.length < n → (p ++ r).length ≤ 1048576 → acc.length ≤ p.length + 1 → (done = false → acc.length ≤ p.length) →
    withV_l4 fuel n id field (p ++ r, u) v acc.length done (p.length : Int) acc = some (.val tModel (acc ++ withL id field v done r, ())) := by
  intro n
  induction n with
  | zero => intro r p acc done h; omega
  | succ n ih =>
    intro r p acc done h hl ha hd
    have tk : ∀ {x : List Cel}, List.take acc.length acc ++ x = acc ++ x := by simp
    cases r with
    | nil =>
      rw [withV_l4_eq]; dsimp only; rw [lt_end (t := tCell), withV_j15_eq, withV_j15_eq]
      have hlim : acc.length + 1 ≤ LIM := by simp at hl; simp [LIM]; omega
      have hta : List.take (acc.length + 1) (acc ++ [(id, field, v, ())]) = acc ++ [(id, field, v, ())] := List.take_of_length_le (by simp)
      cases done
      · simp [withL, hlim, hta]
      · simp [withL]
    | cons c r =>
      have hl' : p.length + (r.length + 1) ≤ 1048576 := by simpa using hl
      have next := fun acc' done' (h' : acc'.length ≤ p.length + 2) (h'' : done' = false → acc'.length ≤ p.length + 1) => ih r (p ++ [c]) acc' done' (by simp at h; omega) (by simp; omega) (by simpa using h') (by simpa using h'')
      rw [← as_mid (t := tCell), ← nx_len (t := tCell) p c (by omega)] at next
      have j10 : ∀ acc' done', acc'.length ≤ p.length + 1 → (done' = false → acc'.length ≤ p.length) → withV_j10 fuel n id field (p ++ c :: r, u) (p.length : Int) v acc'.length done' acc' = some (.val tModel (acc' ++ (if decide (c.1 = id) && decide (c.2.1 = field) then [] else [c]) ++ withL id field v done' r, ())) := by
        intro acc' done' h1 h2
        rw [withV_j10_eq]
        dsimp only
        rw [ix_mid (t := tCell), orF_two, cmpIF_is, cmpIF_is, same_cmp, withV_j12_eq, withV_j12_eq]
        have hlim : acc'.length + 1 ≤ LIM := by simp [LIM]; omega
        have e1 : acc'.length + ([c] : List Cel).length = (acc' ++ [c]).length := by simp
        have e2 : List.take acc'.length acc' ++ [c] = acc' ++ [c] := by simp
        rw [e1, e2, next _ _ (by simp; omega) (fun hf => by have := h2 hf; simp; omega), next _ _ (by omega) (fun hf => by have := h2 hf; omega)]
        cases decide (c.1 = id) && decide (c.2.1 = field) <;> simp [hlim]
      rw [withV_l4_eq]
      dsimp only
      rw [ix_mid (t := tCell), lt_mid (t := tCell), nn_len (t := tCell), orF_two, cmpIF_is, cmpIF_is, ahd_cmp]
      have e1 : acc.length + ([(id, field, v, ())] : List Cel).length = (acc ++ [(id, field, v, ())]).length := by simp
      have e3 : lenI [icmp c.1 id, icmp c.2.1 field] = true := rfl
      rw [e1, tk, e3, j10 acc done ha hd]
      simp only [cond_true, Bool.and_self, withL]
      cases hA : ahd c.1 c.2.1 id field
      · cases done
        · have := hd rfl
          rw [j10 (acc ++ [(id, field, v, ())]) true (by simp; omega) (fun hf => by cases hf)]
          have hlim : acc.length + 1 ≤ LIM := by simp [LIM]; omega
          simp [hlim]
        · simp
      · simp

theorem modG_le {m : Mdl} (h : modG m = true) : m.1.length ≤ 1048576 := of_decide_eq_true h

theorem withV_meets (m : Mdl) (id field : Int) (v : Val) (h : withG m id field v = true) : ∃ fuel, withV_run fuel m id field v = some (.val tModel (withF m id field v)) := by
  have h := modG_le h
  obtain ⟨l, u⟩ := m
  simp only at h
  refine ⟨l.length + 1, ?_⟩
  rw [withV_eq]
  have := withV_loop (l.length + 1) id field v u (l.length + 1) l [] [] (eqD tVal v zv) (by omega) h (by simp) (by simp)
  rw [w64_id (by simp; omega) (by simp; omega)]
  have hle : (l.length : Int) + 1 ≤ (LIM : Int) := by simp [LIM]; omega
  have h0 : (0 : Int) ≤ (l.length : Int) + 1 := by omega
  simp only [hle, h0, decide_true, Bool.and_self, cond_true, Int.le_refl]
  exact this

theorem withX_loop (fuel : Nat) (id field : Int) (v : Val) (u : Unit) : ∀ (n : Nat) (r p : List Cel) (acc : List Cel) (done : Bool), r.length < n → (p ++ r).length ≤ 1048576 → acc.length ≤ p.length + 1 → (done = false → acc.length ≤ p.length) →
    withX_l4 fuel n id field (p ++ r, u) v acc done (p.length : Int) = some (.val tModel (acc ++ withL id field v done r, ())) := by
  intro n
  induction n with
  | zero => intro r p acc done h; omega
  | succ n ih =>
    intro r p acc done h hl ha hd
    cases r with
    | nil =>
      rw [withX_l4_eq]; dsimp only; rw [lt_end (t := tCell), withX_j14_eq, withX_j14_eq]
      have hlim : acc.length + 1 ≤ LIM := by simp at hl; simp [LIM]; omega
      cases done
      · simp [withL, hlim]
      · simp [withL]
    | cons c r =>
      have hl' : p.length + (r.length + 1) ≤ 1048576 := by simpa using hl
      have next := fun acc' done' (h' : acc'.length ≤ p.length + 2) (h'' : done' = false → acc'.length ≤ p.length + 1) => ih r (p ++ [c]) acc' done' (by simp at h; omega) (by simp; omega) (by simpa using h') (by simpa using h'')
      rw [← as_mid (t := tCell), ← nx_len (t := tCell) p c (by omega)] at next
      have tst : (bif (!decide (c.1 = id)) then true else (!decide (c.2.1 = field))) = !(decide (c.1 = id) && decide (c.2.1 = field)) := by
        cases decide (c.1 = id) <;> simp
      have j10 : ∀ acc' done', acc'.length ≤ p.length + 1 → (done' = false → acc'.length ≤ p.length) → withX_j10 fuel n id field (p.length : Int) (p ++ c :: r, u) v acc' done' = some (.val tModel (acc' ++ (if decide (c.1 = id) && decide (c.2.1 = field) then [] else [c]) ++ withL id field v done' r, ())) := by
        intro acc' done' h1 h2
        rw [withX_j10_eq]
        dsimp only
        rw [ix_mid (t := tCell), tst, withX_j5_eq, withX_j5_eq]
        have hlim : acc'.length + 1 ≤ LIM := by simp [LIM]; omega
        rw [next _ _ (by simp; omega) (fun hf => by have := h2 hf; simp; omega), next _ _ (by omega) (fun hf => by have := h2 hf; omega)]
        cases decide (c.1 = id) && decide (c.2.1 = field) <;> simp [hlim]
      have j10v : ∀ acc' done', withX_j10v fuel n id field (p.length : Int) (p ++ c :: r, u) v acc' done' = withX_j10 fuel n id field (p.length : Int) (p ++ c :: r, u) v acc' done' := fun acc' done' => by
        rw [withX_j10_eq, withX_j10v_eq]
      rw [withX_l4_eq]
      dsimp only
      rw [ix_mid (t := tCell), lt_mid (t := tCell), nn_len (t := tCell), aheadF_is, j10v, j10 acc done ha hd]
      simp only [cond_true, Bool.and_self, withL]
      cases hA : ahd c.1 c.2.1 id field
      · cases done
        · have := hd rfl
          rw [j10 (acc ++ [(id, field, v, ())]) true (by simp; omega) (fun hf => by cases hf)]
          have hlim : acc.length + 1 ≤ LIM := by simp [LIM]; omega
          simp [hlim]
        · simp
      · cases done <;> simp

theorem withX_meets (m : Mdl) (id field : Int) (v : Val) (h : withG m id field v = true) : ∃ fuel, withX_run fuel m id field v = some (.val tModel (withF m id field v)) := by
  have h := modG_le h
  obtain ⟨l, u⟩ := m
  simp only at h
  refine ⟨l.length + 1, ?_⟩
  rw [withX_eq]
  exact withX_loop (l.length + 1) id field v u (l.length + 1) l [] [] (eqD tVal v zv) (by omega) h (by simp) (by simp)

theorem differ_loopV (fuel : Nat) (a : Alt) : ∀ (n : Nat) (r p : List Alt), r.length < n → (p ++ r).length ≤ 1048576 → (p ++ r).head? = some a →
    differV_l2 fuel n (p ++ r) (p.length : Int) = some (.val .bool (r.any (fun b => !eqD tVal b.2.1 a.2.1))) := by
  intro n
  induction n with
  | zero => intro r p h; omega
  | succ n ih =>
    intro r p h hl hh
    cases r with
    | nil => rw [differV_l2_eq, lt_end (t := tAlt)]; rfl
    | cons c r =>
      have hl' : p.length + (r.length + 1) ≤ 1048576 := by simpa using hl
      have next := ih r (p ++ [c]) (by simp at h; omega) (by simp; omega) (by simpa using hh)
      rw [← as_mid (t := tAlt), ← nx_len (t := tAlt) p c (by omega)] at next
      have h0 : ix tAlt (p ++ c :: r) 0 = a := by
        cases hp : p ++ c :: r with
        | nil => simp at hp
        | cons x y => rw [hp] at hh; simp at hh; subst hh; rfl
      have hq : decide ((0 : Int) < ((p ++ c :: r).length : Int)) = true := dt (by simp; omega)
      rw [differV_l2_eq, ix_mid (t := tAlt), lt_mid (t := tAlt), nn_len (t := tAlt), next, h0, hq]
      simp only [cond_true, Bool.and_self, List.any_cons]
      cases eqD tVal c.2.1 a.2.1 <;> simp

theorem differV_meets (l : List Alt) (h : lenA l = true) : ∃ fuel, differV_run fuel l = some (.val .bool (differF l)) := by
  have h : l.length ≤ 1048576 := of_decide_eq_true h
  refine ⟨l.length + 1, ?_⟩
  rw [differV_eq]
  cases l with
  | nil => rw [differV_l2_eq]; rfl
  | cons a l =>
    have := differ_loopV ((a :: l).length + 1) a ((a :: l).length + 1) (a :: l) [] (by omega) h rfl
    rw [show (([] : List Alt).length : Int) = 0 from rfl, List.nil_append] at this
    rw [this]
    simp only [differF, List.any_cons, eqD_self tVal a.2.1 rfl, Bool.not_true, Bool.false_or]

theorem differ_loopX (fuel : Nat) (a : Alt) : ∀ (n : Nat) (r p : List Alt), r.length < n → (p ++ r).length ≤ 1048576 → (p ++ r).head? = some a →
    unlikeX_l2 fuel n (p ++ r) (p.length : Int) = some (.val .bool (r.any (fun b => !eqD tVal b.2.1 a.2.1))) := by
  intro n
  induction n with
  | zero => intro r p h; omega
  | succ n ih =>
    intro r p h hl hh
    cases r with
    | nil => rw [unlikeX_l2_eq, lt_end (t := tAlt)]; rfl
    | cons c r =>
      have hl' : p.length + (r.length + 1) ≤ 1048576 := by simpa using hl
      have next := ih r (p ++ [c]) (by simp at h; omega) (by simp; omega) (by simpa using hh)
      rw [← as_mid (t := tAlt), ← nx_len (t := tAlt) p c (by omega)] at next
      have h0 : ix tAlt (p ++ c :: r) 0 = a := by
        cases hp : p ++ c :: r with
        | nil => simp at hp
        | cons x y => rw [hp] at hh; simp at hh; subst hh; rfl
      have hq : decide ((0 : Int) < ((p ++ c :: r).length : Int)) = true := dt (by simp; omega)
      rw [unlikeX_l2_eq, ix_mid (t := tAlt), lt_mid (t := tAlt), nn_len (t := tAlt), next, h0, hq]
      simp only [cond_true, Bool.and_self, List.any_cons]
      cases eqD tVal c.2.1 a.2.1 <;> simp

theorem unlikeX_meets (l : List Alt) (h : lenA l = true) : ∃ fuel, unlikeX_run fuel l = some (.val .bool (differF l)) := by
  have h : l.length ≤ 1048576 := of_decide_eq_true h
  refine ⟨l.length + 1, ?_⟩
  rw [unlikeX_eq]
  cases l with
  | nil => rw [unlikeX_l2_eq]; rfl
  | cons a l =>
    have := differ_loopX ((a :: l).length + 1) a ((a :: l).length + 1) l [a] (by simp; omega) (by simpa using h) rfl
    exact this

theorem cloneA_meets (l : List Alt) (h : cloneG l = true) : ∃ fuel, cloneA_run fuel l = some (.val (.slice tAlt) (idA l)) := by
  simp only [cloneG, Bool.and_eq_true, lenA, decide_eq_true_eq] at h
  refine ⟨0, ?_⟩
  rw [cloneA_eq, h.1]
  have : l.length ≤ LIM := by have := h.2; simp [LIM]; omega
  simp [this, idA]

end Go.Proofs.Ytfeijnbommgigaa.Abs
