/- Find, the drawn records, and the laws of layer 34. -/
import Derived.Test.YtfeijnbommgigaaMeetR3
namespace Go.Proofs.Ytfeijnbommgigaa.Abs
open Go

def outF (x : Val × Bool × Unit) : AV := .tup (chainA [.val tVal x.1, .val .bool x.2.1])

theorem eqVsF_is : ∀ (a b : List Val), eqVsF a b = decide (a = b)
  | [], [] => rfl
  | [], _ :: _ => by simp [eqVsF]
  | _ :: _, [] => by simp [eqVsF]
  | x :: a, y :: b => by
    have ih := eqVsF_is a b
    rw [Bool.eq_iff_iff] at ih ⊢
    simp only [eqVsF, Bool.and_eq_true, decide_eq_true_eq, List.length_cons, Nat.add_right_cancel_iff, List.zip_cons_cons, List.all_cons, eqV_iff, List.cons.injEq] at ih ⊢
    rw [← ih]
    exact ⟨fun ⟨h1, h2, h3⟩ => ⟨h2, h1, h3⟩, fun ⟨h2, h1, h3⟩ => ⟨h1, h2, h3⟩⟩

theorem valuesF_len (l : List Alt) : (valuesF l).length ≤ l.length := by
  have := (foldC_all rCmp_pre rCmp_zero (l.map (fun a : Alt => a.2.1)) [] List.Pairwise.nil).2.2
  rw [List.foldl_map] at this; simpa [valuesF] using this

theorem findG_split {l : List Rec} {r : Reg} (h : findG l r = true) : l.length ≤ 4294967296 ∧ (∀ y ∈ l, recOk y = true) ∧ r.2.2.2.1.length ≤ 1048576 := by
  simp only [findG, Bool.and_eq_true, decide_eq_true_eq, List.all_eq_true, lenA] at h
  exact ⟨h.1.1, h.1.2, h.2⟩

theorem two_values {c : Rec} {r : Reg} (h : recOk c = true) (hr : r.2.2.2.1.length ≤ 1048576) : twoV c.2.2.1 (valuesF r.2.2.2.1) = true := by
  have := valuesF_len r.2.2.2.1
  have h : c.2.2.1.length ≤ LIM := of_decide_eq_true h
  have h' : (valuesF r.2.2.2.1).length ≤ LIM := by unfold LIM; omega
  simp [twoV, h, h']

theorem findR_loop (fuel : Nat) (r : Reg) (hr : r.2.2.2.1.length ≤ 1048576) (u0 : Int) (u1 : Bool) (u2 : Str) (u3 : Int) : ∀ (n : Nat) (s p : List Rec) (found : Bool) (v0 : Int) (v1 : Bool) (v2 : Str) (v3 : Int), s.length < n → (p ++ s).length ≤ 4294967296 → (∀ y ∈ s, recOk y = true) →
    findR_l7 fuel n r (p ++ s) found (p.length : Int) u0 u1 u2 u3 v0 v1 v2 v3 = some (outF (findStep r.2.1 r.2.2.1 (valuesF r.2.2.2.1) s (v0, v1, v2, v3, ()) found)) := by
  intro n
  induction n with
  | zero => intro s p found v0 v1 v2 v3 h; omega
  | succ n ih =>
    intro s p found v0 v1 v2 v3 h hl hok
    cases s with
    | nil => rw [findR_l7_eq, lt_end]; rfl
    | cons c s =>
      have hl' : p.length + (s.length + 1) ≤ 4294967296 := by simpa using hl
      have next := fun found v0 v1 v2 v3 => ih s (p ++ [c]) found v0 v1 v2 v3 (by simp at h; omega) (by simp; omega) (fun y hy => hok y (List.mem_cons_of_mem _ hy))
      have em : (p ++ [c]) ++ s = p ++ c :: s := by simp
      simp only [em, ← nx_len p c (show p.length < 9223372036854775807 by omega)] at next
      rw [findR_l7_eq, ix_mid, lt_mid, nn_len, two_values (hok c (by simp)) hr, findR_j13_eq, findR_j13_eq, next, next, eqVsF_is]
      simp only [cond_true, Bool.and_self, impl_true, findStep]
      by_cases h1 : c.1 = r.2.1
      · by_cases h2 : c.2.1 = r.2.2.1
        · by_cases h3 : c.2.2.1 = valuesF r.2.2.2.1
          · simp only [h1, h2, h3, decide_true, Bool.not_true, cond_false, Bool.and_self, if_true]
            cases found with
            | false => rfl
            | true =>
              cases h4 : eqD tVal c.2.2.2.1 (v0, v1, v2, v3, ()) <;> simp <;> rfl
          · simp [h1, h2, h3]
        · simp [h1, h2]
      · simp [h1]

theorem findR_meets (l : List Rec) (r : Reg) (h : findG l r = true) : ∃ fuel, findR_run fuel l r = some (outF (findF l r)) := by
  obtain ⟨h1, h2, h3⟩ := findG_split h
  refine ⟨l.length + 1, ?_⟩
  rw [findR_eq, show lenA r.2.2.2.1 = true from dt h3]
  have := findR_loop (l.length + 1) r h3 0 false [] 0 (l.length + 1) l [] false 0 false [] 0 (by omega) h1 h2
  simp only [cond_true]
  by_cases h0 : r.1 = 1
  · simp only [h0, decide_true, Bool.not_true, cond_false, findF, if_true]; exact this
  · simp only [h0, decide_false, Bool.not_false, cond_true, findF, if_false]; rfl

theorem cmpL_dec (a b : List Val) : decide (cmpLF a b = 0) = decide (a = b) := by
  rw [Bool.eq_iff_iff, decide_eq_true_iff, decide_eq_true_iff]
  exact ⟨cmpL_zero, fun h => by rw [h]; exact cmpL_pre.refl b⟩

theorem eqV_comm (a b : Val) : eqD tVal a b = eqD tVal b a := by
  rw [Bool.eq_iff_iff, eqV_iff, eqV_iff]; exact eq_comm

theorem findX_skip (fuel : Nat) (r : Reg) (h0 : ¬ r.1 = 1) (u0 : Int) (u1 : Bool) (u2 : Str) (u3 : Int) : ∀ (n : Nat) (s p : List Rec) (found : Bool) (v0 : Int) (v1 : Bool) (v2 : Str) (v3 : Int), s.length < n → (p ++ s).length ≤ 4294967296 →
    findX_l5 fuel n (p ++ s) r found (p.length : Int) u0 u1 u2 u3 v0 v1 v2 v3 = some (outF ((v0, v1, v2, v3, ()), found, ())) := by
  intro n
  induction n with
  | zero => intro s p found v0 v1 v2 v3 h; omega
  | succ n ih =>
    intro s p found v0 v1 v2 v3 h hl
    cases s with
    | nil => rw [findX_l5_eq, lt_end]; rfl
    | cons c s =>
      have hl' : p.length + (s.length + 1) ≤ 4294967296 := by simpa using hl
      have next := ih s (p ++ [c]) found v0 v1 v2 v3 (by simp at h; omega) (by simp; omega)
      rw [← as_mid, ← nx_len p c (show p.length < 9223372036854775807 by omega)] at next
      rw [findX_l5_eq, lt_mid, nn_len, findX_j6_eq, next, df h0]
      simp [impl_eq]

theorem findX_loop (fuel : Nat) (r : Reg) (h0 : r.1 = 1) (hr : r.2.2.2.1.length ≤ 1048576) (u0 : Int) (u1 : Bool) (u2 : Str) (u3 : Int) : ∀ (n : Nat) (s p : List Rec) (found : Bool) (v0 : Int) (v1 : Bool) (v2 : Str) (v3 : Int), s.length < n → (p ++ s).length ≤ 4294967296 → (∀ y ∈ s, recOk y = true) →
    findX_l5 fuel n (p ++ s) r found (p.length : Int) u0 u1 u2 u3 v0 v1 v2 v3 = some (outF (findStep r.2.1 r.2.2.1 (valuesF r.2.2.2.1) s (v0, v1, v2, v3, ()) found)) := by
  intro n
  induction n with
  | zero => intro s p found v0 v1 v2 v3 h; omega
  | succ n ih =>
    intro s p found v0 v1 v2 v3 h hl hok
    cases s with
    | nil => rw [findX_l5_eq, lt_end]; rfl
    | cons c s =>
      have hl' : p.length + (s.length + 1) ≤ 4294967296 := by simpa using hl
      have next := fun found v0 v1 v2 v3 => ih s (p ++ [c]) found v0 v1 v2 v3 (by simp at h; omega) (by simp; omega) (fun y hy => hok y (List.mem_cons_of_mem _ hy))
      have em : (p ++ [c]) ++ s = p ++ c :: s := by simp
      simp only [em, ← nx_len p c (show p.length < 9223372036854775807 by omega)] at next
      rw [findX_l5_eq, ix_mid, lt_mid, nn_len, two_values (hok c (by simp)) hr, findX_j6_eq, findX_j6_eq, next, next, cmpL_dec, eqV_comm, dt h0]
      simp only [cond_true, Bool.and_self, impl_true, findStep]
      by_cases h1 : c.1 = r.2.1
      · by_cases h2 : c.2.1 = r.2.2.1
        · by_cases h3 : c.2.2.1 = valuesF r.2.2.2.1
          · simp only [h1, h2, h3, decide_true, Bool.not_true, cond_false, Bool.and_self, if_true]
            cases found with
            | false => rfl
            | true =>
              cases h4 : eqD tVal c.2.2.2.1 (v0, v1, v2, v3, ()) <;> simp <;> rfl
          · simp [h1, h2, h3]
        · simp [h1, h2]
      · simp [h1]

theorem findX_meets (l : List Rec) (r : Reg) (h : findG l r = true) : ∃ fuel, findX_run fuel l r = some (outF (findF l r)) := by
  obtain ⟨h1, h2, h3⟩ := findG_split h
  refine ⟨l.length + 1, ?_⟩
  rw [findX_eq, show lenA r.2.2.2.1 = true from dt h3, cond_true]
  by_cases h0 : r.1 = 1
  · have := findX_loop (l.length + 1) r h0 h3 0 false [] 0 (l.length + 1) l [] false 0 false [] 0 (by omega) h1 h2
    simp only [findF, if_pos h0]; exact this
  · have := findX_skip (l.length + 1) r h0 0 false [] 0 (l.length + 1) l [] false 0 false [] 0 (by omega) h1
    simp only [findF, if_neg h0]; exact this

theorem recordsL_loop (fuel : Nat) (l : List Drw) : ∀ (n : Nat) (r p : List Drw), 21 - p.length < n → p.length ≤ 20 → l = p ++ r →
    recordsL_l3 fuel n l (p.map recordF) (p.length : Int) = some (.val (.slice tRecord) (recordsF l)) := by
  intro n
  induction n with
  | zero => intro r p h; omega
  | succ n ih =>
    intro r p h hp hl
    cases r with
    | nil =>
      have hl : l = p := by simpa using hl
      subst hl
      rw [recordsL_l3_eq, df (p := (l.length : Int) < _) (by omega)]
      simp [recordsF, List.take_of_length_le hp]
    | cons c r =>
      by_cases h20 : p.length = 20
      · rw [recordsL_l3_eq, df (p := (p.length : Int) < 20) (by omega)]
        have : (bif decide ((p.length : Int) < (l.length : Int)) then false else false) = false := by cases decide ((p.length : Int) < (l.length : Int)) <;> rfl
        rw [this, cond_false, hl, recordsF, ← h20, List.take_left]
      · have next := ih r (p ++ [c]) (by simp; omega) (by simp; omega) (by simp [hl])
        obtain ⟨m1, m2⟩ := mod2F_rng c.1 (n := 2) (by decide)
        have ew : w64 (2 + mod2F c.1 2) = 2 + mod2F c.1 2 := w64_id (by omega) (by omega)
        rw [recordsL_l3_eq]
        have hix : ix tDraw l (p.length : Int) = c := by rw [hl, ix_mid]
        rw [hix, ew, dt (p := (p.length : Int) < 20) (by omega), show decide ((p.length : Int) < (l.length : Int)) = true by rw [hl, lt_mid], nn_len, mod2G_is _ 2 (by decide), show id2G c.1 1 = true from dt (by decide),
          dt (p := (0 : Int) ≤ 2 + mod2F c.1 2) (by omega), dt (p := 2 + mod2F c.1 2 ≤ _) (by simp; omega)]
        have hlen : ∀ a b d : Alt, lenA ((List.take (Int.toNat (2 + mod2F c.1 2)) [a, b, d]).drop 0) = true := fun a b d => dt (by simp; omega)
        rw [hlen, dt (p := (p.map recordF).length + _ ≤ LIM) (by simp only [List.length_map, List.length_cons, List.length_nil]; unfold LIM; omega), nx_len p c (by omega)]
        simp only [cond_true, Bool.and_self]
        rw [← next, List.map_append]
        rfl

theorem recordsL_meets (l : List Drw) : ∃ fuel, recordsL_run fuel l = some (.val (.slice tRecord) (recordsF l)) :=
  ⟨22, by rw [recordsL_eq]; exact recordsL_loop 22 l 22 l [] (by simp) (by simp) rfl⟩

end Go.Proofs.Ytfeijnbommgigaa.Abs
