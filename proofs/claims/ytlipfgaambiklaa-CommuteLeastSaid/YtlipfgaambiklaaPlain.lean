/- The small functions in plain Lean, and the lemmas that the loops' proofs use. -/
import Derived.Test.YtlipfgaambiklaaGen
namespace Go.Proofs.Ytlipfgaambiklaa.Abs
open Go

theorem w64_id {n : Int} (h0 : -9223372036854775808 ≤ n) (h1 : n < 9223372036854775808) : w64 n = n := by
  unfold w64; simp [IntKind.wrap, IntKind.bits, IntKind.signed]; omega

theorem w64_nat {n : Nat} (h : n < 9223372036854775808) : w64 (n : Int) = n := w64_id (by omega) (by omega)

theorem ix_mid {t : Ty} (p : List t.den) (c : t.den) (r : List t.den) : ix t (p ++ c :: r) (p.length : Int) = c := by
  simp [ix]

theorem ix_zero {t : Ty} (c : t.den) (r : List t.den) : ix t (c :: r) 0 = c := rfl

theorem ix_prev {t : Ty} {p : List t.den} {q : t.den} (r : List t.den) (h : p.getLast? = some q) : ix t (p ++ r) ((p.length : Int) - 1) = q := by
  have hp : 0 < p.length := by cases p with | nil => simp at h | cons => simp
  have : ((p.length : Int) - 1).toNat = p.length - 1 := by omega
  rw [ix, this, List.getD_eq_getElem?_getD, List.getElem?_append_left (by omega), ← List.getLast?_eq_getElem?, h]; rfl

theorem isNaNF_eq (x : Int) : isNaNF x = false := by simp [isNaNF]

theorem cmpIF_eq (x y : Int) : cmpIF x y = if x < y then -1 else if y < x then 1 else 0 := by
  simp only [cmpIF, isNaNF_eq, cond_false]
  by_cases h : x < y <;> by_cases h' : y < x <;> simp [h, h']

def cmp4 (x y u v : Int) : Int := bif (!decide (cmpIF x y = 0)) then cmpIF x y else cmpIF u v
def lt4 (x y u v : Int) : Bool := decide (x < y) || (decide (x = y) && decide (u < v))

theorem cmp4_lt (x y u v : Int) : decide (cmp4 x y u v < 0) = lt4 x y u v := by
  simp only [cmp4, cmpIF_eq, lt4]
  rcases Int.lt_trichotomy x y with h | h | h
  · simp [h]
  · subst h
    rcases Int.lt_trichotomy u v with g | g | g
    · simp [g]
    · simp [g]
    · have : ¬ u < v := by omega
      simp [g, this]
  · have h1 : ¬ x < y := by omega
    have h2 : ¬ x = y := by omega
    simp [h, h1, h2]

theorem cmp4_eq (x y u v : Int) : decide (cmp4 x y u v = 0) = (decide (x = y) && decide (u = v)) := by
  simp only [cmp4, cmpIF_eq]
  rcases Int.lt_trichotomy x y with h | h | h
  · have h2 : ¬ x = y := by omega
    simp [h, h2]
  · subst h
    rcases Int.lt_trichotomy u v with g | g | g
    · have : ¬ u = v := by omega
      simp [g, this]
    · simp [g]
    · have h1 : ¬ u < v := by omega
      have h2 : ¬ u = v := by omega
      simp [g, h1, h2]
  · have h1 : ¬ x < y := by omega
    have h2 : ¬ x = y := by omega
    simp [h, h1, h2]

theorem cmp4_ge (x y u v : Int) : decide (cmp4 x y u v ≥ 0) = !lt4 x y u v := by
  rw [← cmp4_lt]; by_cases h : cmp4 x y u v < 0
  · have : ¬ cmp4 x y u v ≥ 0 := by omega
    simp [h, this]
  · have : cmp4 x y u v ≥ 0 := by omega
    simp [h, this]

theorem lt4_bif (x y u v : Int) : (bif (!decide (x = y)) then (decide (x < y)) else (decide (u < v))) = lt4 x y u v := by
  simp only [lt4]
  by_cases h : x = y
  · subst h; simp
  · simp [h]

theorem same_bif (x y u v : Int) : (bif (decide (x = y)) then (decide (u = v)) else false) = (decide (x = y) && decide (u = v)) := by
  by_cases h : x = y <;> simp [h]

theorem compare_lt (a b : Cell) : decide (compareF a b < 0) = ltC a b := cmp4_lt a.1 b.1 a.2.1 b.2.1
theorem compare_eq0 (a b : Cell) : decide (compareF a b = 0) = sameC a b := cmp4_eq a.1 b.1 a.2.1 b.2.1
theorem compare_ge (a b : Cell) : decide (compareF a b ≥ 0) = !ltC a b := cmp4_ge a.1 b.1 a.2.1 b.2.1
theorem aheadF_eq (a b : Cell) : aheadF a b = ltC a b := lt4_bif a.1 b.1 a.2.1 b.2.1
theorem registerF_eq (a b : Cell) : registerF a b = sameC a b := same_bif a.1 b.1 a.2.1 b.2.1
theorem before_eq (a b : Cell) : beforeRF (ofRF a) (ofRF b) = ltC a b := lt4_bif a.1 b.1 a.2.1 b.2.1
theorem and_tt (p q : Bool) : (p && (q && true)) = (p && q) := by cases p <;> cases q <;> rfl
theorem ofR_same (a b : Cell) : eqD tRegister (ofRF a) (ofRF b) = sameC a b := and_tt _ _

theorem basedF_eq (n : Int) : basedF n = (decide (1048576 ≤ n) && decide (n < 34603008)) := by
  have e : shrI .i64 n 20 = n / 1048576 := by
    simp only [shrI]
    rw [show min (Int.toNat 20) (IntKind.bits .i64) = 20 from by decide, Int.fdiv_eq_ediv_of_nonneg _ (by decide)]; rfl
  simp only [basedF, e]
  by_cases h : 1048576 ≤ n <;> by_cases h' : n < 34603008
  · have h1 : n / 1048576 ≥ 1 := by omega
    have h2 : n / 1048576 ≤ 32 := by omega
    simp [h, h', h1, h2]
  · have h2 : ¬ n / 1048576 ≤ 32 := by omega
    simp [h', h2]
  · have h1 : ¬ n / 1048576 ≥ 1 := by omega
    simp [h, h1]
  · omega

theorem andI_low {n : Int} (h0 : 0 ≤ n) (h1 : n < 34603008) : andI .i64 n 1048575 = n % 1048576 := by
  obtain ⟨k, rfl⟩ := Int.eq_ofNat_of_zero_le h0
  have e : (BitVec.ofInt (IntKind.bits .i64) (k : Int) &&& BitVec.ofInt (IntKind.bits .i64) 1048575).toNat = k % 1048576 := by
    rw [BitVec.toNat_and]
    have e1 : (BitVec.ofInt (IntKind.bits .i64) (k : Int)).toNat = k := by
      rw [BitVec.ofInt_natCast, BitVec.toNat_ofNat]; exact Nat.mod_eq_of_lt (by simp [IntKind.bits]; omega)
    have e2 : (BitVec.ofInt (IntKind.bits .i64) 1048575).toNat = 2 ^ 20 - 1 := by decide
    rw [e1, e2, Nat.and_two_pow_sub_one_eq_mod]
  simp only [andI, e]
  have := w64_nat (n := k % 1048576) (by omega)
  simp only [w64] at this
  rw [this]; omega

theorem idValidF_eq (n : Int) : idValidF n = idOk n := by
  simp only [idValidF, basedF_eq, idOk]
  by_cases h : 1048576 ≤ n <;> by_cases h' : n < 34603008
  · rw [andI_low (by omega) h']
    by_cases g : n % 1048576 = 0
    · simp [g]
    · have : 1048576 < n := by omega
      simp [g, h, h', this]
  · simp [h']
  · have : ¬ 1048576 < n := by omega
    simp [h, this]
  · omega

theorem rIdValidF_eq (n : Int) : rIdValidF n = idOk n := by
  simp only [rIdValidF, idOk]
  by_cases h : 1048576 < n
  · rw [Int.tmod_eq_emod_of_nonneg (by omega)]
    by_cases h' : n < 34603008 <;> simp [h, h']
  · simp [h]

theorem lenG_iff (l : List Cell) : lenG l = true ↔ l.length ≤ 4294967296 := decide_eq_true_iff

theorem drop_one (c : Cell) (r : List Cell) : (List.take (List.length (c :: r)) (c :: r)).drop (Int.toNat 1) = r := by
  rw [List.take_length]; rfl

theorem impl_eq (a b : Bool) : impl a b = (!a || b) := by cases a <;> cases b <;> rfl

end Go.Proofs.Ytlipfgaambiklaa.Abs
