/- The functions without rows that change. -/
import Derived.Test.YtfeijnbommgigaaPlnR
namespace Go.Proofs.Ytfeijnbommgigaa.Abs
open Go

theorem isNaNF_no (x : Int) : isNaNF x = false := by simp [isNaNF]
theorem isNaNsF_no (x : Str) : isNaNsF x = false := by simp [isNaNsF]
theorem cmpIF_is (x y : Int) : cmpIF x y = icmp x y := by
  simp only [cmpIF, isNaNF_no, cond_false, icmp]
  by_cases h : x < y <;> by_cases h' : y < x <;> simp [h, h']
theorem truthF_is (b : Bool) : truthF b = num b := by cases b <;> rfl

theorem bytes_irr : ∀ a : Str, Op.bytesLess a a = false
  | [] => rfl
  | x :: a => by simp [Op.bytesLess, bytes_irr a]

theorem cmpSF_is (x y : Str) : cmpSF x y = scmp x y := by
  simp only [cmpSF, isNaNsF_no, cond_false]
  by_cases h : Op.bytesLess x y = true
  · simp [scmp, h]
  · have h : Op.bytesLess x y = false := by simpa using h
    by_cases h' : Op.bytesLess y x = true
    · have : x ≠ y := by rintro rfl; rw [h] at h'; cases h'
      simp [scmp, h, h', this]
    · have h' : Op.bytesLess y x = false := by simpa using h'
      have : x = y := scmp_zero (by simp [scmp, h, h'])
      subst this
      simp [scmp, bytes_irr]

theorem orI_loop (fuel : Nat) : ∀ (n : Nat) (r p : List Int), r.length < n → (p ++ r).length ≤ 4294967296 →
    orI_l3 fuel n (p ++ r) (p.length : Int) = some (.val tInt (orF r)) := by
  intro n
  induction n with
  | zero => intro r p h; omega
  | succ n ih =>
    intro r p h hl
    cases r with
    | nil => rw [orI_l3_eq, lt_end (t := tInt)]; rfl
    | cons c r =>
      have hl' : p.length + (r.length + 1) ≤ 4294967296 := by simpa using hl
      have next := ih r (p ++ [c]) (by simp at h; omega) (by simp; omega)
      rw [← as_mid (t := tInt), ← nx_len (t := tInt) p c (by omega)] at next
      rw [orI_l3_eq, ix_mid (t := tInt), lt_mid (t := tInt), nn_len (t := tInt), next]
      simp only [cond_true, Bool.and_self, orF, List.find?_cons]
      by_cases h0 : c = 0 <;> simp [h0]

theorem orI_meets (l : List Int) (h : lenI l = true) : ∃ fuel, orI_run fuel l = some (.val tInt (orF l)) :=
  ⟨l.length + 1, by rw [orI_eq]; exact orI_loop _ (l.length + 1) l [] (by omega) (of_decide_eq_true h)⟩

theorem orF_four (a b c d : Int) : orF [a, b, c, d] = orElse a (orElse b (orElse c d)) := by
  simp only [orF, orElse, List.find?_cons, List.find?_nil]
  by_cases h1 : a = 0 <;> by_cases h2 : b = 0 <;> by_cases h3 : c = 0 <;> by_cases h4 : d = 0 <;> simp [h1, h2, h3, h4]

theorem lenI_four (a b c d : Int) : lenI [a, b, c, d] = true := rfl

theorem rCmp_meets (a b : Val) : ∃ fuel, rCmp_run fuel a b = some (.val tInt (rCmpF a b)) :=
  ⟨0, by
    rw [rCmp_eq, lenI_four]
    simp only [cond_true, orF_four, cmpIF_is, truthF_is, cmpSF_is]; rfl⟩

theorem xCmp_meets (a b : Val) : ∃ fuel, xCmp_run fuel a b = some (.val tInt (rCmpF a b)) :=
  ⟨0, by
    rw [xCmp_eq, xCmp_j5_eq, xCmp_j5_eq, xCmp_j8_eq, eqV_cmp]
    by_cases h0 : rCmpF a b = 0
    · simp [h0]
    · rw [df h0, cond_false]
      obtain ⟨a1, a2, a3, a4, a5⟩ := a
      obtain ⟨b1, b2, b3, b4, b5⟩ := b
      revert h0
      simp only [rCmpF, orElse, icmp, scmp]
      rcases Int.lt_trichotomy a1 b1 with h1 | h1 | h1
      · have g : ¬ a1 = b1 := Int.ne_of_lt h1
        simp [h1, g]
      · subst h1
        by_cases h2 : a2 = b2
        · subst h2
          by_cases h3 : Op.bytesLess a3 b3 = true
          · simp [h3]
          · have h3 : Op.bytesLess a3 b3 = false := by simpa using h3
            by_cases h4 : Op.bytesLess b3 a3 = true
            · have g : a3 ≠ b3 := by rintro rfl; rw [h3] at h4; cases h4
              simp [h3, h4, g]
            · have h4 : Op.bytesLess b3 a3 = false := by simpa using h4
              have g : a3 = b3 := scmp_zero (by simp [scmp, h3, h4])
              subst g
              rcases Int.lt_trichotomy a4 b4 with h5 | h5 | h5
              · simp [h3, h5]
              · subst h5; simp [h3]
              · have g : ¬ a4 < b4 := Int.not_lt.2 (Int.le_of_lt h5)
                simp [h3, h5, g]
        · cases a2 <;> cases b2 <;> simp [num] at h2 ⊢
      · have g : ¬ a1 = b1 := Int.ne_of_gt h1
        have g' : ¬ a1 < b1 := Int.not_lt.2 (Int.le_of_lt h1)
        simp [h1, g, g']⟩

theorem mod2F_rng (x : Int) {n : Int} (h : 1 ≤ n) : 0 ≤ mod2F x n ∧ mod2F x n < n := by
  unfold mod2F; rw [if_neg (by omega)]
  exact ⟨Int.emod_nonneg _ (by omega), Int.emod_lt_of_pos _ (by omega)⟩

theorem mod2_meets (x n : Int) (h : mod2G x n = true) : ∃ fuel, mod2_run fuel x n = some (.val tInt (mod2F x n)) :=
  ⟨0, by
    have h : n ≤ 4294967296 := of_decide_eq_true h
    rw [mod2_eq]
    by_cases h1 : n < 1
    · simp [h1, mod2F]
    · have g : ¬ n = 0 := by omega
      have e1 : -n < x.tmod n := Int.lt_tmod_of_pos x (by omega)
      have e2 : x.tmod n < n := Int.tmod_lt_of_pos x (by omega)
      rw [w64_id (by omega) (by omega), Int.tmod_eq_emod_of_nonneg (a := x.tmod n + n) (by omega)]
      have e3 : (x.tmod n + n) % n = x % n := by
        rw [Int.add_emod_right, Int.tmod_def, Int.sub_mul_emod_self_left]
      rw [e3]
      simp [h1, g, mod2F]⟩

theorem mod2G_is (x n : Int) (h : n ≤ 4294967296) : mod2G x n = true := dt h

theorem id2_meets (x n : Int) (h : id2G x n = true) : ∃ fuel, id2_run fuel x n = some (.val tInt (id2F x n)) :=
  ⟨0, by
    have h : n ≤ 4294967296 := of_decide_eq_true h
    rw [id2_eq, mod2G_is _ _ (by decide), mod2G_is _ _ h]
    obtain ⟨r1, r2⟩ := mod2F_rng x (n := 3) (by decide)
    have r3 : 0 ≤ mod2F (w64 (Int.tdiv x 3)) n ∧ mod2F (w64 (Int.tdiv x 3)) n < 4294967296 := by
      by_cases h1 : 1 ≤ n
      · have := mod2F_rng (w64 (Int.tdiv x 3)) h1; omega
      · unfold mod2F; rw [if_pos (by omega)]; decide
    have e : shlI .i64 (w64 (1 + mod2F x 3)) 20 = (1 + mod2F x 3) * 1048576 := by
      rw [w64_id (by omega) (by omega)]
      show w64 _ = _
      rw [show (2 : Int) ^ (min (Int.toNat 20) (IntKind.bits .i64)) = 1048576 from by decide]
      exact w64_id (by omega) (by omega)
    simp only [cond_true, e]
    rw [w64_id (n := (1 + mod2F x 3) * 1048576 + 1) (by omega) (by omega), w64_id (by omega) (by omega)]
    rfl⟩

theorem two_split {a b : List Val} (h : twoV a b = true) : a.length ≤ 4294967296 ∧ b.length ≤ 4294967296 := by
  simp only [twoV, Bool.and_eq_true, decide_eq_true_eq] at h; exact h

theorem eqVs_loop (fuel : Nat) : ∀ (n : Nat) (r s p q : List Val), r.length < n → (p ++ r).length ≤ 4294967296 → p.length = q.length → r.length = s.length →
    eqVs_l4 fuel n (p ++ r) (q ++ s) (p.length : Int) = some (.val .bool ((r.zip s).all (fun p => eqD tVal p.1 p.2))) := by
  intro n
  induction n with
  | zero => intro r s p q h; omega
  | succ n ih =>
    intro r s p q h hl hpq hrs
    cases r with
    | nil => rw [eqVs_l4_eq, lt_end]; rfl
    | cons c r =>
      cases s with
      | nil => simp at hrs
      | cons d s =>
      have hl' : p.length + (r.length + 1) ≤ 4294967296 := by simpa using hl
      have next := ih r s (p ++ [c]) (q ++ [d]) (by simp at h; omega) (by simp; omega) (by simp; omega) (by simpa using hrs)
      rw [← as_mid, ← as_mid, ← nx_len p c (by omega)] at next
      rw [eqVs_l4_eq, ix_mid, lt_mid, nn_len, next]
      rw [hpq, ix_mid, lt_mid]
      simp only [cond_true, Bool.and_self, List.zip_cons_cons, List.all_cons]
      cases eqD tVal c d <;> simp

theorem eqVs_meets (a b : List Val) (h : twoV a b = true) : ∃ fuel, eqVs_run fuel a b = some (.val .bool (eqVsF a b)) := by
  refine ⟨a.length + 1, ?_⟩
  rw [eqVs_eq]
  by_cases hl : a.length = b.length
  · have := eqVs_loop (a.length + 1) (a.length + 1) a b [] [] (by omega) (two_split h).1 rfl hl
    rw [show (([] : List Val).length : Int) = 0 from rfl] at this
    simp only [List.nil_append] at this
    rw [this]; simp [hl, eqVsF]
  · have : ¬ (a.length : Int) = (b.length : Int) := by omega
    simp [hl, this, eqVsF]

theorem cmpVs_loop (fuel : Nat) : ∀ (n : Nat) (r s p q : List Val), r.length < n → (p ++ r).length ≤ 4294967296 → p.length = q.length →
    cmpVs_l2 fuel n (p ++ r) (q ++ s) (p.length : Int) = some (.val tInt (cmpLF r s)) := by
  intro n
  induction n with
  | zero => intro r s p q h; omega
  | succ n ih =>
    intro r s p q h hl hpq
    cases r with
    | nil =>
      rw [cmpVs_l2_eq, lt_end]
      cases s with
      | nil => rw [df (p := ((p ++ ([] : List Val)).length : Int) < _) (by simp; omega)]; rfl
      | cons d s => rw [dt (p := ((p ++ ([] : List Val)).length : Int) < _) (by simp; omega)]; rfl
    | cons c r =>
      cases s with
      | nil =>
        rw [cmpVs_l2_eq, lt_mid, nn_len, dt (p := (p.length : Int) ≥ _) (by simp; omega)]; rfl
      | cons d s =>
      have hl' : p.length + (r.length + 1) ≤ 4294967296 := by simpa using hl
      have next := ih r s (p ++ [c]) (q ++ [d]) (by simp at h; omega) (by simp; omega) (by simp; omega)
      rw [← as_mid, ← as_mid, ← nx_len p c (by omega)] at next
      rw [cmpVs_l2_eq, ix_mid, lt_mid, nn_len, next]
      rw [df (p := (p.length : Int) ≥ _) (by simp; omega), hpq, ix_mid, lt_mid]
      simp only [cond_true, cond_false, Bool.and_self, cmpLF, orElse]
      by_cases h0 : rCmpF c d = 0 <;> simp [h0]

theorem cmpVs_meets (a b : List Val) (h : twoV a b = true) : ∃ fuel, cmpVs_run fuel a b = some (.val tInt (cmpLF a b)) :=
  ⟨a.length + 1, by rw [cmpVs_eq]; exact cmpVs_loop _ (a.length + 1) a b [] [] (by omega) (two_split h).1 rfl⟩

theorem xCmpL_loop (fuel : Nat) : ∀ (n : Nat) (r s p q : List Val), r.length < n → (p ++ r).length ≤ 4294967296 → p.length = q.length →
    xCmpL_l2 fuel n (p ++ r) (q ++ s) (p.length : Int) = some (.val tInt (cmpLF r s)) := by
  intro n
  induction n with
  | zero => intro r s p q h; omega
  | succ n ih =>
    intro r s p q h hl hpq
    cases r with
    | nil =>
      rw [xCmpL_l2_eq, lt_end]
      cases s with
      | nil => rw [df (p := ((p ++ ([] : List Val)).length : Int) < _) (by simp; omega), df (p := ((p ++ ([] : List Val)).length : Int) > _) (by simp; omega)]; rfl
      | cons d s => rw [dt (p := ((p ++ ([] : List Val)).length : Int) < _) (by simp; omega)]; rfl
    | cons c r =>
      cases s with
      | nil =>
        rw [xCmpL_l2_eq, lt_mid, df (p := (p.length : Int) < ((q ++ ([] : List Val)).length : Int)) (by simp; omega), df (p := ((p ++ c :: r).length : Int) < _) (by simp; omega), dt (p := ((p ++ c :: r).length : Int) > _) (by simp; omega)]; rfl
      | cons d s =>
      have hl' : p.length + (r.length + 1) ≤ 4294967296 := by simpa using hl
      have next := ih r s (p ++ [c]) (q ++ [d]) (by simp at h; omega) (by simp; omega) (by simp; omega)
      rw [← as_mid, ← as_mid, ← nx_len p c (by omega)] at next
      rw [xCmpL_l2_eq, ix_mid, lt_mid, nn_len, next]
      rw [hpq, ix_mid, lt_mid]
      simp only [cond_true, Bool.and_self, cmpLF, orElse]
      by_cases h0 : rCmpF c d = 0 <;> simp [h0]

theorem xCmpL_meets (a b : List Val) (h : twoV a b = true) : ∃ fuel, xCmpL_run fuel a b = some (.val tInt (cmpLF a b)) :=
  ⟨a.length + 1, by rw [xCmpL_eq]; exact xCmpL_loop _ (a.length + 1) a b [] [] (by omega) (two_split h).1 rfl⟩

theorem cmpR_meets (a b : Rec) (h : twoR a b = true) : ∃ fuel, cmpR_run fuel a b = some (.val tInt (cmpRF a b)) :=
  ⟨0, by
    rw [cmpR_eq, lenI_four, show twoV a.2.2.1 b.2.2.1 = true from h]
    simp only [cond_true, orF_four, cmpIF_is]; rfl⟩

theorem sameR1_meets (a b : Rec) (h : twoR a b = true) : ∃ fuel, sameR1_run fuel a b = some (.val .bool (sameR1F a b)) :=
  ⟨0, by rw [sameR1_eq, h]; rfl⟩

theorem xCmpR_meets (a b : Rec) (h : twoR a b = true) : ∃ fuel, xCmpR_run fuel a b = some (.val tInt (cmpRF a b)) :=
  ⟨0, by
    rw [xCmpR_eq, show twoV a.2.2.1 b.2.2.1 = true from h]
    simp only [cond_true, cmpRF, orElse, icmp, aheadF]
    rcases Int.lt_trichotomy a.1 b.1 with h1 | h1 | h1
    · have g : ¬ a.1 = b.1 := Int.ne_of_lt h1
      simp [h1, g]
    · rw [h1]
      rcases Int.lt_trichotomy a.2.1 b.2.1 with h2 | h2 | h2
      · have g : ¬ a.2.1 = b.2.1 := Int.ne_of_lt h2
        simp [h2, g]
      · rw [h2]
        by_cases h3 : cmpLF a.2.2.1 b.2.2.1 = 0 <;> simp [h3]
      · have g : ¬ a.2.1 = b.2.1 := Int.ne_of_gt h2
        have g' : ¬ a.2.1 < b.2.1 := Int.not_lt.2 (Int.le_of_lt h2)
        simp [h2, g, g']
    · have g : ¬ a.1 = b.1 := Int.ne_of_gt h1
      have g' : ¬ a.1 < b.1 := Int.not_lt.2 (Int.le_of_lt h1)
      simp [h1, g, g']⟩

theorem valueL_meets (x : Int) : ∃ fuel, valueL_run fuel x = some (.val tVal (valueF x)) :=
  ⟨0, by
    rw [valueL_eq]
    simp only [mod2G_is _ 2 (by decide), mod2G_is _ 3 (by decide), cond_true]
    obtain ⟨r1, r2⟩ := mod2F_rng (w64 (Int.tdiv x 4)) (n := 3) (by decide)
    have e : IntKind.wrap .u8 (w64 (97 + mod2F (w64 (Int.tdiv x 4)) 3)) = 97 + mod2F (w64 (Int.tdiv x 4)) 3 := by
      rw [w64_id (by omega) (by omega)]
      generalize mod2F (w64 (Int.tdiv x 4)) 3 = m at r1 r2 ⊢
      simp [IntKind.wrap, IntKind.bits, IntKind.signed]; omega
    rw [e]; rfl⟩

theorem sameRs_loop (fuel : Nat) : ∀ (n : Nat) (r s p q : List Rec), r.length < n → (p ++ r).length ≤ 4294967296 → p.length = q.length → r.length = s.length → r.all recOk = true → s.all recOk = true →
    sameRs_l4 fuel n (p ++ r) (q ++ s) (p.length : Int) = some (.val .bool ((r.zip s).all (fun p => decide (cmpRF p.1 p.2 = 0)))) := by
  intro n
  induction n with
  | zero => intro r s p q h; omega
  | succ n ih =>
    intro r s p q h hl hpq hrs h1 h2
    cases r with
    | nil => rw [sameRs_l4_eq, lt_end]; rfl
    | cons c r =>
      cases s with
      | nil => simp at hrs
      | cons d s =>
      rw [List.all_cons, Bool.and_eq_true] at h1 h2
      have hl' : p.length + (r.length + 1) ≤ 4294967296 := by simpa using hl
      have next := ih r s (p ++ [c]) (q ++ [d]) (by simp at h; omega) (by simp; omega) (by simp; omega) (by simpa using hrs) h1.2 h2.2
      rw [← as_mid, ← as_mid, ← nx_len p c (by omega)] at next
      have ht : twoR c d = true := by
        have a := h1.1; have b := h2.1
        simp only [recOk, decide_eq_true_eq] at a b
        simp [twoR, twoV, a, b]
      rw [sameRs_l4_eq, ix_mid, lt_mid, nn_len, next]
      rw [hpq, ix_mid, lt_mid, ht]
      simp only [cond_true, Bool.and_self, List.zip_cons_cons, List.all_cons]
      cases decide (cmpRF c d = 0) <;> simp

theorem sameRs_meets (a b : List Rec) (h : sameRsG a b = true) : ∃ fuel, sameRs_run fuel a b = some (.val .bool (sameRsF a b)) := by
  refine ⟨a.length + 1, ?_⟩
  rw [sameRs_eq]
  simp only [sameRsG, Bool.and_eq_true, decide_eq_true_eq] at h
  obtain ⟨⟨⟨h1, h2⟩, h3⟩, h4⟩ := h
  by_cases hl : a.length = b.length
  · have := sameRs_loop (a.length + 1) (a.length + 1) a b [] [] (by omega) h1 rfl hl h3 h4
    rw [show (([] : List Rec).length : Int) = 0 from rfl] at this
    simp only [List.nil_append] at this
    rw [this]; simp [hl, sameRsF]
  · have : ¬ (a.length : Int) = (b.length : Int) := by omega
    simp [hl, this, sameRsF]

end Go.Proofs.Ytfeijnbommgigaa.Abs
