/- The loops that read one list. -/
import Derived.Test.YtlipfgaambiklaaPlain
namespace Go.Proofs.Ytlipfgaambiklaa.Abs
open Go

theorem lt_mid {t : Ty} (p : List t.den) (c : t.den) (r : List t.den) : decide ((p.length : Int) < ((p ++ c :: r).length : Int)) = true := by
  simp; omega
theorem lt_end {t : Ty} (p : List t.den) : decide ((p.length : Int) < ((p ++ []).length : Int)) = false := by simp
theorem nn_len {t : Ty} (p : List t.den) : decide (0 ≤ (p.length : Int)) = true := by simp
theorem nx_len {t : Ty} (p : List t.den) (c : t.den) (h : p.length < 9223372036854775807) : w64 ((p.length : Int) + 1) = ((p ++ [c]).length : Int) := by
  rw [w64_id (by omega) (by omega)]; simp
theorem as_mid {t : Ty} (p : List t.den) (c : t.den) (r : List t.den) : p ++ c :: r = (p ++ [c]) ++ r := by simp

theorem okC_eq (v : Int → Bool) (hv : ∀ n, v n = idOk n) (c : Cell) : (bif (bif (!(v c.1)) then true else (decide (c.2.1 < 1))) then true else (decide (c.2.1 ≥ 48))) = !okC c := by
  rw [hv]
  have g : ∀ (i : Bool) (f : Int), (bif (bif (!i) then true else (decide (f < 1))) then true else (decide (f ≥ 48))) = !(i && decide (1 ≤ f) && decide (f < 48)) := by
    intro i f
    by_cases h : f < 1
    · have : ¬ 1 ≤ f := by omega
      cases i <;> simp [h, this]
    · have h1 : 1 ≤ f := by omega
      by_cases h' : f < 48
      · have : ¬ f ≥ 48 := by omega
        cases i <;> simp [h, h1, h', this]
      · have : f ≥ 48 := by omega
        cases i <;> simp [h, h', this]
  exact g (idOk c.1) c.2.1

theorem prev_ix {p : List Cell} {q : Cell} (r : List Cell) (h : p.getLast? = some q) (hl : p.length < 9223372036854775807) :
    decide ((p.length : Int) > 0) = true ∧ w64 ((p.length : Int) - 1) = (p.length : Int) - 1 ∧ decide (0 ≤ (p.length : Int) - 1) = true ∧
    decide ((p.length : Int) - 1 < ((p ++ r).length : Int)) = true ∧ ix tCell (p ++ r) ((p.length : Int) - 1) = q := by
  have hp : 0 < p.length := by cases p with | nil => simp at h | cons => simp
  refine ⟨by simp; omega, w64_id (by omega) (by omega), by simp; omega, by simp; omega, ix_prev r h⟩

theorem writes_loop (fuel : Nat) : ∀ (n : Nat) (r p : List Cell), r.length < n → (p ++ r).length ≤ 4294967296 →
    writes_l2 fuel n (p ++ r) (p.length : Int) = some (.val .bool (wr p.getLast? r)) := by
  intro n
  induction n with
  | zero => intro r p h; omega
  | succ n ih =>
    intro r p h hl
    cases r with
    | nil => rw [writes_l2_eq, lt_end]; rfl
    | cons c r =>
      have hl' : p.length + (r.length + 1) ≤ 4294967296 := by simpa using hl
      have next := ih r (p ++ [c]) (by simp at h; omega) (by simp; omega)
      rw [← as_mid, ← nx_len p c (by omega)] at next
      rw [writes_l2_eq, ix_mid, lt_mid, nn_len, okC_eq _ idValidF_eq, next]
      simp only [cond_true, Bool.and_self]
      cases hp : p.getLast? with
      | none =>
        have : p = [] := by simpa using hp
        subst this
        simp only [wr, impl_eq]
        cases okC c <;> simp
      | some q =>
        obtain ⟨e1, e2, e3, e4, e5⟩ := prev_ix (c :: r) hp (by omega)
        rw [e1, e2, e3, e4, e5, compare_ge]
        simp only [wr, impl_eq]
        cases okC c <;> cases ltC q c <;> simp

theorem writes_meets (l : List Cell) (h : lenG l = true) : ∃ fuel, writes_run fuel l = some (.val .bool (writesF l)) :=
  ⟨l.length + 1, by rw [writes_eq]; exact writes_loop _ (l.length + 1) l [] (by omega) ((lenG_iff l).1 h)⟩

theorem rWrites_loop (fuel : Nat) : ∀ (n : Nat) (r p : List Cell), r.length < n → (p ++ r).length ≤ 4294967296 →
    rWrites_l2 fuel n (p ++ r) (p.length : Int) = some (.val .bool (wr p.getLast? r)) := by
  intro n
  induction n with
  | zero => intro r p h; omega
  | succ n ih =>
    intro r p h hl
    cases r with
    | nil => rw [rWrites_l2_eq, lt_end]; rfl
    | cons c r =>
      have hl' : p.length + (r.length + 1) ≤ 4294967296 := by simpa using hl
      have next := ih r (p ++ [c]) (by simp at h; omega) (by simp; omega)
      rw [← as_mid, ← nx_len p c (by omega)] at next
      rw [rWrites_l2_eq, ix_mid, lt_mid, nn_len, okC_eq _ rIdValidF_eq, next]
      simp only [cond_true, Bool.and_self, impl_true]
      cases hp : p.getLast? with
      | none =>
        have : p = [] := by simpa using hp
        subst this
        simp only [wr, impl_eq]
        cases okC c <;> simp
      | some q =>
        obtain ⟨e1, e2, e3, e4, e5⟩ := prev_ix (c :: r) hp (by omega)
        rw [e1, e2, e3, e4, e5, aheadF_eq]
        simp only [wr, impl_eq]
        cases okC c <;> cases ltC q c <;> simp

theorem rWrites_meets (l : List Cell) (h : lenG l = true) : ∃ fuel, rWrites_run fuel l = some (.val .bool (writesF l)) :=
  ⟨l.length + 1, by rw [rWrites_eq]; exact rWrites_loop _ (l.length + 1) l [] (by omega) ((lenG_iff l).1 h)⟩

theorem valid_loop (fuel : Nat) : ∀ (n : Nat) (r p : List Cell), r.length < n → (p ++ r).length ≤ 4294967296 →
    valid_l2 fuel n (p ++ r) (p.length : Int) = some (.val .bool (r.all nz && writesF (p ++ r))) := by
  intro n
  induction n with
  | zero => intro r p h; omega
  | succ n ih =>
    intro r p h hl
    cases r with
    | nil => rw [valid_l2_eq, lt_end, (lenG_iff _).2 hl]; rfl
    | cons c r =>
      have hl' : p.length + (r.length + 1) ≤ 4294967296 := by simpa using hl
      have next := ih r (p ++ [c]) (by simp at h; omega) (by simp; omega)
      rw [← as_mid, ← nx_len p c (by omega)] at next
      rw [valid_l2_eq, ix_mid, lt_mid, nn_len, next]
      simp only [cond_true, Bool.and_self, List.all_cons]
      show (bif eqD tVal c.2.2.1 zVal then _ else _) = _
      rw [nz]; cases eqD tVal c.2.2.1 zVal <;> simp

theorem valid_meets (l : List Cell) (h : lenG l = true) : ∃ fuel, valid_run fuel l = some (.val .bool (validF l)) :=
  ⟨l.length + 1, by rw [valid_eq]; exact valid_loop _ (l.length + 1) l [] (by omega) ((lenG_iff l).1 h)⟩

theorem rValid_loop (fuel : Nat) : ∀ (n : Nat) (r p : List Cell), r.length < n → (p ++ r).length ≤ 4294967296 →
    rValid_l2 fuel n (p ++ r) (p.length : Int) = some (.val .bool (r.all nz && writesF (p ++ r))) := by
  intro n
  induction n with
  | zero => intro r p h; omega
  | succ n ih =>
    intro r p h hl
    cases r with
    | nil => rw [rValid_l2_eq, lt_end, (lenG_iff _).2 hl]; rfl
    | cons c r =>
      have hl' : p.length + (r.length + 1) ≤ 4294967296 := by simpa using hl
      have next := ih r (p ++ [c]) (by simp at h; omega) (by simp; omega)
      rw [← as_mid, ← nx_len p c (by omega)] at next
      rw [rValid_l2_eq, ix_mid, lt_mid, nn_len, next]
      simp only [cond_true, Bool.and_self, List.all_cons]
      show (bif eqD tVal c.2.2.1 zVal then _ else _) = _
      rw [nz]; cases eqD tVal c.2.2.1 zVal <;> simp

theorem rValid_meets (l : List Cell) (h : lenG l = true) : ∃ fuel, rValid_run fuel l = some (.val .bool (validF l)) :=
  ⟨l.length + 1, by rw [rValid_eq]; exact rValid_loop _ (l.length + 1) l [] (by omega) ((lenG_iff l).1 h)⟩

theorem rHas_loop (fuel : Nat) (x : Cell) : ∀ (n : Nat) (r p : List Cell), r.length < n → (p ++ r).length ≤ 4294967296 →
    rHas_l2 fuel n (p ++ r) x (p.length : Int) = some (.val .bool (shared r x)) := by
  intro n
  induction n with
  | zero => intro r p h; omega
  | succ n ih =>
    intro r p h hl
    cases r with
    | nil => rw [rHas_l2_eq, lt_end]; rfl
    | cons c r =>
      have hl' : p.length + (r.length + 1) ≤ 4294967296 := by simpa using hl
      have next := ih r (p ++ [c]) (by simp at h; omega) (by simp; omega)
      rw [← as_mid, ← nx_len p c (by omega)] at next
      rw [rHas_l2_eq, ix_mid, lt_mid, nn_len, next, registerF_eq]
      simp only [cond_true, Bool.and_self, shared, List.any_cons]
      cases sameC c x <;> simp

theorem rHas_meets (l : List Cell) (x : Cell) (h : hasG l x = true) : ∃ fuel, rHas_run fuel l x = some (.val .bool (sharedF l x)) :=
  ⟨l.length + 1, by rw [rHas_eq]; exact rHas_loop _ x (l.length + 1) l [] (by omega) ((lenG_iff l).1 h)⟩

theorem rSame_loop (fuel : Nat) : ∀ (n : Nat) (r s p q : List Cell), r.length < n → (p ++ r).length ≤ 4294967296 → p.length = q.length → r.length = s.length →
    rSame_l4 fuel n (p ++ r) (q ++ s) (p.length : Int) = some (.val .bool ((r.zip s).all (fun p => eqD tCell p.1 p.2))) := by
  intro n
  induction n with
  | zero => intro r s p q h; omega
  | succ n ih =>
    intro r s p q h hl hpq hrs
    cases r with
    | nil => rw [rSame_l4_eq, lt_end]; rfl
    | cons c r =>
      cases s with
      | nil => simp at hrs
      | cons d s =>
      have hl' : p.length + (r.length + 1) ≤ 4294967296 := by simpa using hl
      have next := ih r s (p ++ [c]) (q ++ [d]) (by simp at h; omega) (by simp; omega) (by simp; omega) (by simpa using hrs)
      rw [← as_mid, ← as_mid, ← nx_len p c (by omega)] at next
      rw [rSame_l4_eq, ix_mid, lt_mid, nn_len, next]
      rw [hpq, ix_mid, lt_mid]
      simp only [cond_true, Bool.and_self, List.zip_cons_cons, List.all_cons]
      cases eqD tCell c d <;> simp

theorem rSame_meets (a b : List Cell) (h : twoG a b = true) : ∃ fuel, rSame_run fuel a b = some (.val .bool (sameF a b)) := by
  refine ⟨a.length + 1, ?_⟩
  have hl : a.length + b.length ≤ 4294967296 := of_decide_eq_true h
  rw [rSame_eq, sameF]
  by_cases e : a.length = b.length
  · have := rSame_loop (a.length + 1) (a.length + 1) a b [] [] (by omega) (by simp; omega) rfl e
    have e' : ((a.length : Int) = (b.length : Int)) := by omega
    simpa [e] using this
  · have e' : ¬ ((a.length : Int) = (b.length : Int)) := by omega
    rw [decide_eq_false e', decide_eq_false e]; rfl

theorem rGet_loop (fuel : Nat) (i f : Int) (b0 : Int) (b1 : Bool) (b2 : Str) (b3 : Int) : ∀ (n : Nat) (r p : List Cell), r.length < n → (p ++ r).length ≤ 4294967296 →
    rGet_l2 fuel n (p ++ r) i f (p.length : Int) b0 b1 b2 b3 = some (.val tVal (getF r i f)) := by
  intro n
  induction n with
  | zero => intro r p h; omega
  | succ n ih =>
    intro r p h hl
    cases r with
    | nil => rw [rGet_l2_eq, lt_end]; rfl
    | cons c r =>
      have hl' : p.length + (r.length + 1) ≤ 4294967296 := by simpa using hl
      have next := ih r (p ++ [c]) (by simp at h; omega) (by simp; omega)
      rw [← as_mid, ← nx_len p c (by omega)] at next
      rw [rGet_l2_eq, ix_mid, lt_mid, nn_len, next]
      simp only [cond_true, Bool.and_self, impl_true]
      show (bif (bif decide (c.1 = i) then decide (c.2.1 = f) else false) then _ else _) = _
      have e : (bif decide (c.1 = i) then decide (c.2.1 = f) else false) = sameC c (i, f, zVal, ()) := same_bif c.1 i c.2.1 f
      rw [e]
      have e2 : getF (c :: r) i f = (bif sameC c (i, f, zVal, ()) then c.2.2.1 else getF r i f) := by
        unfold getF getV
        rw [List.find?_cons]
        cases sameC c (i, f, zVal, ())
        · rfl
        · rfl
      rw [e2]; cases sameC c (i, f, zVal, ())
      · rfl
      · rfl

theorem rGet_meets (l : List Cell) (i f : Int) (h : getG l i f = true) : ∃ fuel, rGet_run fuel l i f = some (.val tVal (getF l i f)) :=
  ⟨l.length + 1, by rw [rGet_eq]; exact rGet_loop _ i f _ _ _ _ (l.length + 1) l [] (by omega) ((lenG_iff l).1 h)⟩

theorem modI_meets (n m : Int) (h : modIG n m = true) : ∃ fuel, modI_run fuel n m = some (.val tInt (modF n m)) := by
  refine ⟨0, ?_⟩
  have h' : 0 < m ∧ m ≤ 4294967296 := by
    have := Bool.and_eq_true_iff.1 h
    exact ⟨of_decide_eq_true this.1, of_decide_eq_true this.2⟩
  have hm : ¬ m = 0 := by omega
  rw [modI_eq]
  simp only [hm, decide_false, Bool.not_false, cond_true, modI_j4_eq, modF]
  have k1 := Int.tmod_lt_of_pos n h'.1
  have k2 : -m < Int.tmod n m := by
    have := Int.lt_tmod_of_pos n h'.1
    exact this
  have k3 := Int.emod_nonneg n hm
  have k4 := Int.emod_lt_of_pos n h'.1
  have k5 : Int.tmod n m = n % m ∨ Int.tmod n m = n % m - m := by
    rw [Int.tmod_eq_emod]; split
    · left; omega
    · right
      have : (m.natAbs : Int) = m := by omega
      omega
  by_cases g : Int.tmod n m < 0
  · have e : w64 (Int.tmod n m + m) = n % m := by rw [w64_id (by omega) (by omega)]; omega
    simp only [g, decide_true, cond_true, e]
  · have e : Int.tmod n m = n % m := by omega
    rw [decide_eq_false g, e]; rfl
end Go.Proofs.Ytlipfgaambiklaa.Abs
