/- The functions of layer 27: numbers, comparisons, lists that are compared. -/
import Derived.Test.YtfeijnbommgigaaGenV
namespace Go.Proofs.Ytfeijnbommgigaa.Abs
open Go

theorem w64_id {n : Int} (h0 : -9223372036854775808 ≤ n) (h1 : n < 9223372036854775808) : w64 n = n := by
  unfold w64; simp [IntKind.wrap, IntKind.bits, IntKind.signed]; omega
theorem w64_nat {n : Nat} (h : n < 9223372036854775808) : w64 (n : Int) = n := w64_id (by omega) (by omega)
theorem ix_mid {t : Ty} (p : List t.den) (c : t.den) (r : List t.den) : ix t (p ++ c :: r) (p.length : Int) = c := by
  simp [ix]
theorem lt_mid {t : Ty} (p : List t.den) (c : t.den) (r : List t.den) : decide ((p.length : Int) < ((p ++ c :: r).length : Int)) = true := by
  simp; omega
theorem lt_end {t : Ty} (p : List t.den) : decide ((p.length : Int) < ((p ++ []).length : Int)) = false := by simp
theorem nn_len {t : Ty} (p : List t.den) : decide (0 ≤ (p.length : Int)) = true := by simp
theorem nx_len {t : Ty} (p : List t.den) (c : t.den) (h : p.length < 9223372036854775807) : w64 ((p.length : Int) + 1) = ((p ++ [c]).length : Int) := by
  rw [w64_id (by omega) (by omega)]; simp
theorem as_mid {t : Ty} (p : List t.den) (c : t.den) (r : List t.den) : p ++ c :: r = (p ++ [c]) ++ r := by simp
theorem impl_eq (a b : Bool) : impl a b = (!a || b) := by cases a <;> cases b <;> rfl
theorem dt {p : Prop} [Decidable p] (h : p) : decide p = true := decide_eq_true h
theorem df {p : Prop} [Decidable p] (h : ¬ p) : decide p = false := decide_eq_false h

theorem isNaNF_no (x : Int) : isNaNF x = false := by simp [isNaNF]
theorem cmpIF_is (x y : Int) : cmpIF x y = icmp x y := by
  simp only [cmpIF, isNaNF_no, cond_false, icmp]
  by_cases h : x < y <;> by_cases h' : y < x <;> simp [h, h']
theorem orI_loop (fuel : Nat) : ∀ (n : Nat) (r p : List Int), r.length < n → (p ++ r).length ≤ 4294967296 →
    orI_l3 fuel n (p ++ r) (p.length : Int) = some (.val tInt (orF r)) := by
  intro n
  induction n with
  | zero => intro r p h; omega
  | succ n ih =>
    intro r p h hl
    cases r with
    | nil => rw [orI_l3_eq, lt_end (t := tInt)]; rfl
    | cons c r =>
      have hl' : p.length + (r.length + 1) ≤ 4294967296 := by simpa using hl
      have next := ih r (p ++ [c]) (by simp at h; omega) (by simp; omega)
      rw [← as_mid (t := tInt), ← nx_len (t := tInt) p c (by omega)] at next
      rw [orI_l3_eq, ix_mid (t := tInt), lt_mid (t := tInt), nn_len (t := tInt), next]
      simp only [cond_true, Bool.and_self, orF, List.find?_cons]
      by_cases h0 : c = 0 <;> simp [h0]

theorem orI_meets (l : List Int) (h : lenI l = true) : ∃ fuel, orI_run fuel l = some (.val tInt (orF l)) :=
  ⟨l.length + 1, by rw [orI_eq]; exact orI_loop _ (l.length + 1) l [] (by omega) (of_decide_eq_true h)⟩

theorem mod2F_rng (x : Int) {n : Int} (h : 1 ≤ n) : 0 ≤ mod2F x n ∧ mod2F x n < n := by
  unfold mod2F; rw [if_neg (by omega)]
  exact ⟨Int.emod_nonneg _ (by omega), Int.emod_lt_of_pos _ (by omega)⟩

theorem mod2_meets (x n : Int) (h : mod2G x n = true) : ∃ fuel, mod2_run fuel x n = some (.val tInt (mod2F x n)) :=
  ⟨0, by
    have h : n ≤ 4294967296 := of_decide_eq_true h
    rw [mod2_eq]
    by_cases h1 : n < 1
    · simp [h1, mod2F]
    · have g : ¬ n = 0 := by omega
      have e1 : -n < x.tmod n := Int.lt_tmod_of_pos x (by omega)
      have e2 : x.tmod n < n := Int.tmod_lt_of_pos x (by omega)
      rw [w64_id (by omega) (by omega), Int.tmod_eq_emod_of_nonneg (a := x.tmod n + n) (by omega)]
      have e3 : (x.tmod n + n) % n = x % n := by
        rw [Int.add_emod_right, Int.tmod_def, Int.sub_mul_emod_self_left]
      rw [e3]
      simp [h1, g, mod2F]⟩

theorem mod2G_is (x n : Int) (h : n ≤ 4294967296) : mod2G x n = true := dt h

theorem id2_meets (x n : Int) (h : id2G x n = true) : ∃ fuel, id2_run fuel x n = some (.val tInt (id2F x n)) :=
  ⟨0, by
    have h : n ≤ 4294967296 := of_decide_eq_true h
    rw [id2_eq, mod2G_is _ _ (by decide), mod2G_is _ _ h]
    obtain ⟨r1, r2⟩ := mod2F_rng x (n := 3) (by decide)
    have r3 : 0 ≤ mod2F (w64 (Int.tdiv x 3)) n ∧ mod2F (w64 (Int.tdiv x 3)) n < 4294967296 := by
      by_cases h1 : 1 ≤ n
      · have := mod2F_rng (w64 (Int.tdiv x 3)) h1; omega
      · unfold mod2F; rw [if_pos (by omega)]; decide
    have e : shlI .i64 (w64 (1 + mod2F x 3)) 20 = (1 + mod2F x 3) * 1048576 := by
      rw [w64_id (by omega) (by omega)]
      show w64 _ = _
      rw [show (2 : Int) ^ (min (Int.toNat 20) (IntKind.bits .i64)) = 1048576 from by decide]
      exact w64_id (by omega) (by omega)
    simp only [cond_true, e]
    rw [w64_id (n := (1 + mod2F x 3) * 1048576 + 1) (by omega) (by omega), w64_id (by omega) (by omega)]
    rfl⟩

theorem orF_two (a b : Int) : orF [a, b] = orElse a b := by
  simp only [orF, orElse, List.find?_cons, List.find?_nil]
  by_cases h1 : a = 0 <;> by_cases h2 : b = 0 <;> simp [h1, h2]

theorem orF_three (a b c : Int) : orF [a, b, c] = orElse a (orElse b c) := by
  simp only [orF, orElse, List.find?_cons, List.find?_nil]
  by_cases h1 : a = 0 <;> by_cases h2 : b = 0 <;> by_cases h3 : c = 0 <;> simp [h1, h2, h3]

theorem aheadF_is (i f i2 f2 : Int) : aheadF i f i2 f2 = ahd i f i2 f2 := by
  unfold aheadF ahd
  by_cases h1 : i < i2 <;> by_cases h2 : i = i2 <;> by_cases h3 : f < f2 <;> simp [h1, h2, h3]

theorem cmpSt_meets (x y : Stg) : ∃ fuel, cmpSt_run fuel x y = some (.val tInt (cmpStF x y)) :=
  ⟨0, by
    rw [cmpSt_eq, orF_three, cmpIF_is, cmpIF_is, cmpIF_is]
    rfl⟩

theorem value2_meets (id field stamp : Int) : ∃ fuel, value2_run fuel id field stamp = some (.val tVal (value2F id field stamp)) :=
  ⟨0, by
    rw [value2_eq, mod2G_is _ _ (by decide), mod2G_is _ _ (by decide), mod2G_is _ _ (by decide)]
    rfl⟩

theorem fields2_meets (x : Int) : ∃ fuel, fields2_run fuel x = some (.val tInt (fields2F x)) :=
  ⟨0, by
    rw [fields2_eq, mod2G_is _ _ (by decide), mod2G_is _ _ (by decide)]
    obtain ⟨r1, r2⟩ := mod2F_rng (w64 (Int.tdiv x 5)) (n := 3) (by decide)
    rw [w64_id (n := 8 + mod2F (w64 (Int.tdiv x 5)) 3) (by omega) (by omega)]
    simp only [cond_true, fields2F]
    by_cases h0 : mod2F x 5 = 0
    · simp [h0]
    · by_cases h1 : mod2F x 5 = 1
      · simp [h1]
      · by_cases h2 : mod2F x 5 = 2
        · simp [h2]
        · by_cases h3 : mod2F x 5 = 3
          · simp [h3]
          · simp [h0, h1, h2, h3]⟩

theorem sameC_loop (fuel : Nat) : ∀ (n : Nat) (r s p q : List Cel), r.length < n → (p ++ r).length ≤ 1048577 → p.length = q.length → r.length = s.length →
    sameC_l4 fuel n (p ++ r) (q ++ s) (p.length : Int) = some (.val .bool ((r.zip s).all (fun p => eqD tCell p.1 p.2))) := by
  intro n
  induction n with
  | zero => intro r s p q h; omega
  | succ n ih =>
    intro r s p q h hl hpq hrs
    cases r with
    | nil => rw [sameC_l4_eq, lt_end (t := tCell)]; rfl
    | cons c r =>
      cases s with
      | nil => simp at hrs
      | cons d s =>
      have hl' : p.length + (r.length + 1) ≤ 1048577 := by simpa using hl
      have next := ih r s (p ++ [c]) (q ++ [d]) (by simp at h; omega) (by simp; omega) (by simp; omega) (by simpa using hrs)
      rw [← as_mid (t := tCell), ← as_mid (t := tCell), ← nx_len (t := tCell) p c (by omega)] at next
      rw [sameC_l4_eq, ix_mid (t := tCell), lt_mid (t := tCell), nn_len (t := tCell), next]
      rw [hpq, ix_mid (t := tCell), lt_mid (t := tCell)]
      simp only [cond_true, Bool.and_self, List.zip_cons_cons, List.all_cons]
      cases eqD tCell c d <;> simp

theorem sameC_meets (a b : List Cel) (h : twoC a b = true) : ∃ fuel, sameC_run fuel a b = some (.val .bool (sameCF a b)) := by
  refine ⟨a.length + 1, ?_⟩
  have h : a.length ≤ 1048577 ∧ b.length ≤ 1048577 := by simpa [twoC] using h
  rw [sameC_eq]
  by_cases hl : a.length = b.length
  · have := sameC_loop (a.length + 1) (a.length + 1) a b [] [] (by omega) h.1 rfl hl
    rw [show (([] : List Cel).length : Int) = 0 from rfl] at this
    simp only [List.nil_append] at this
    rw [this]; simp [hl, sameCF]
  · have : ¬ (a.length : Int) = (b.length : Int) := by omega
    simp [hl, this, sameCF]

theorem sameA_loop (fuel : Nat) : ∀ (n : Nat) (r s p q : List Alt), r.length < n → (p ++ r).length ≤ 1048576 → p.length = q.length → r.length = s.length →
    sameA_l4 fuel n (p ++ r) (q ++ s) (p.length : Int) = some (.val .bool ((r.zip s).all (fun p => eqD tAlt p.1 p.2))) := by
  intro n
  induction n with
  | zero => intro r s p q h; omega
  | succ n ih =>
    intro r s p q h hl hpq hrs
    cases r with
    | nil => rw [sameA_l4_eq, lt_end (t := tAlt)]; rfl
    | cons c r =>
      cases s with
      | nil => simp at hrs
      | cons d s =>
      have hl' : p.length + (r.length + 1) ≤ 1048576 := by simpa using hl
      have next := ih r s (p ++ [c]) (q ++ [d]) (by simp at h; omega) (by simp; omega) (by simp; omega) (by simpa using hrs)
      rw [← as_mid (t := tAlt), ← as_mid (t := tAlt), ← nx_len (t := tAlt) p c (by omega)] at next
      rw [sameA_l4_eq, ix_mid (t := tAlt), lt_mid (t := tAlt), nn_len (t := tAlt), next]
      rw [hpq, ix_mid (t := tAlt), lt_mid (t := tAlt)]
      simp only [cond_true, Bool.and_self, List.zip_cons_cons, List.all_cons]
      cases eqD tAlt c d <;> simp

theorem sameA_meets (a b : List Alt) (h : twoA a b = true) : ∃ fuel, sameA_run fuel a b = some (.val .bool (sameAF a b)) := by
  refine ⟨a.length + 1, ?_⟩
  have h : a.length ≤ 1048576 ∧ b.length ≤ 1048576 := by simpa [twoA, lenA] using h
  rw [sameA_eq]
  by_cases hl : a.length = b.length
  · have := sameA_loop (a.length + 1) (a.length + 1) a b [] [] (by omega) h.1 rfl hl
    rw [show (([] : List Alt).length : Int) = 0 from rfl] at this
    simp only [List.nil_append] at this
    rw [this]; simp [hl, sameAF]
  · have : ¬ (a.length : Int) = (b.length : Int) := by omega
    simp [hl, this, sameAF]

theorem sameI_loop (fuel : Nat) : ∀ (n : Nat) (r s p q : List Int), r.length < n → (p ++ r).length ≤ 1048576 → p.length = q.length → r.length = s.length →
    sameI_l4 fuel n (p ++ r) (q ++ s) (p.length : Int) = some (.val .bool ((r.zip s).all (fun p => decide (p.1 = p.2)))) := by
  intro n
  induction n with
  | zero => intro r s p q h; omega
  | succ n ih =>
    intro r s p q h hl hpq hrs
    cases r with
    | nil => rw [sameI_l4_eq, lt_end (t := tInt)]; rfl
    | cons c r =>
      cases s with
      | nil => simp at hrs
      | cons d s =>
      have hl' : p.length + (r.length + 1) ≤ 1048576 := by simpa using hl
      have next := ih r s (p ++ [c]) (q ++ [d]) (by simp at h; omega) (by simp; omega) (by simp; omega) (by simpa using hrs)
      rw [← as_mid (t := tInt), ← as_mid (t := tInt), ← nx_len (t := tInt) p c (by omega)] at next
      rw [sameI_l4_eq, ix_mid (t := tInt), lt_mid (t := tInt), nn_len (t := tInt), next]
      rw [hpq, ix_mid (t := tInt), lt_mid (t := tInt)]
      simp only [cond_true, Bool.and_self, List.zip_cons_cons, List.all_cons]
      cases decide (c = d) <;> simp

theorem sameI_meets (a b : List Int) (h : twoI a b = true) : ∃ fuel, sameI_run fuel a b = some (.val .bool (sameIF a b)) := by
  refine ⟨a.length + 1, ?_⟩
  have h : a.length ≤ 1048576 ∧ b.length ≤ 1048576 := by simpa [twoI] using h
  rw [sameI_eq]
  by_cases hl : a.length = b.length
  · have := sameI_loop (a.length + 1) (a.length + 1) a b [] [] (by omega) h.1 rfl hl
    rw [show (([] : List Int).length : Int) = 0 from rfl] at this
    simp only [List.nil_append] at this
    rw [this]; simp [hl, sameIF]
  · have : ¬ (a.length : Int) = (b.length : Int) := by omega
    simp [hl, this, sameIF]

theorem eqD_self : ∀ (t : Ty) (x : t.den), t.flatEq = true → eqD t x x = true
  | .int _, x, _ => by simp [eqD]
  | .bool, x, _ => by simp [eqD]
  | .str, x, _ => by simp [eqD]
  | .unit, _, _ => rfl
  | .cons a b, x, h => by
    simp only [Ty.flatEq, Bool.and_eq_true] at h
    simp [eqD, eqD_self a x.1 h.1.1, eqD_self b x.2 h.1.2]
  | .slice _, _, h => by simp [Ty.flatEq] at h
  | .tree, _, h => by simp [Ty.flatEq] at h

theorem eqD_eq : ∀ (t : Ty) (x y : t.den), eqD t x y = true → x = y
  | .int _, x, y, h => by simpa [eqD] using h
  | .bool, x, y, h => by simpa [eqD] using h
  | .str, x, y, h => by simpa [eqD] using h
  | .unit, _, _, _ => rfl
  | .cons a b, x, y, h => by
    simp only [eqD, Bool.and_eq_true] at h
    exact Prod.ext (eqD_eq a _ _ h.1) (eqD_eq b _ _ h.2)
  | .slice _, _, _, h => by simp [eqD] at h
  | .tree, _, _, h => by simp [eqD] at h

theorem zip_self {α : Type} {p : α × α → Bool} (hp : ∀ x, p (x, x) = true) : ∀ l : List α, (l.zip l).all p = true
  | [] => rfl
  | x :: l => by simp [hp x, zip_self hp l]

theorem sameCF_self (l : List Cel) : sameCF l l = true := by
  simp only [sameCF, decide_true, Bool.true_and]
  exact zip_self (fun x => eqD_self tCell x rfl) l
theorem sameAF_self (l : List Alt) : sameAF l l = true := by
  simp only [sameAF, decide_true, Bool.true_and]
  exact zip_self (fun x => eqD_self tAlt x rfl) l
theorem sameIF_self (l : List Int) : sameIF l l = true := by
  simp only [sameIF, decide_true, Bool.true_and]
  exact zip_self (fun x => by simp) l
theorem sameRegF_self (r : Reg) : sameRegF r r = true := by
  simp [sameRegF, sameAF_self, sameIF_self]

theorem sameReg_meets (a b : Reg) (h : twoReg a b = true) : ∃ fuel, sameReg_run fuel a b = some (.val .bool (sameRegF a b)) :=
  ⟨0, by
    simp only [twoReg, Bool.and_eq_true] at h
    rw [sameReg_eq, h.1, h.2, impl_true, impl_true]
    simp only [cond_true, sameRegF]
    cases decide (a.1 = b.1) <;> cases decide (a.2.1 = b.2.1) <;> cases decide (a.2.2.1 = b.2.2.1) <;> cases sameAF a.2.2.2.1 b.2.2.2.1 <;> rfl⟩

end Go.Proofs.Ytfeijnbommgigaa.Abs
