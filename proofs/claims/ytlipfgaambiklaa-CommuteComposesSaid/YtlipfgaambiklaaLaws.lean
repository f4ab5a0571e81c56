/- The six laws of layer 24: what they compute is true. -/
import Derived.Test.YtlipfgaambiklaaMapA
namespace Go.Proofs.Ytlipfgaambiklaa.Abs
open Go
set_option linter.unusedSimpArgs false

theorem light_iff (a b : List Cell) : lightF a b = true ↔ a.length ≤ 100 ∧ b.length ≤ 100 := by
  unfold lightF
  by_cases h : (a.length : Int) ≤ 100 <;> simp [h] <;> omega

theorem twoG_of {a b : List Cell} (h : a.length + b.length ≤ 4294967296) : twoG a b = true := (twoG_iff a b).2 h
theorem putG_of {a b : List Cell} (h : a.length + b.length ≤ 4294967296) : putG a b = true := decide_eq_true h
theorem modG_of {m : Model} {b : List Cell} (h : m.1.length + b.length ≤ 4294967296) : modG m b = true := (modG_iff m b).2 h
theorem lenG_of {a : List Cell} (h : a.length ≤ 4294967296) : lenG a = true := (lenG_iff a).2 h

theorem over_le (a b : List Cell) : (over a b).length ≤ a.length + b.length := over_len _ a b
theorem put_le (a b : List Cell) : (putF a b).length ≤ a.length + b.length := by
  unfold putF
  split
  · exact Nat.le_trans (List.length_filter_le _ _) (over_le a b)
  · simp
theorem compose_le (a b : List Cell) : (composeF a b).length ≤ a.length + b.length := by
  unfold composeF
  split
  · exact over_le a b
  · simp
theorem rest_le (a b : List Cell) : (restF a b).length ≤ a.length := by
  unfold restF
  split
  · exact List.length_filter_le _ _
  · simp
theorem inverse_le (m : Model) (b : List Cell) : (inverseF m b).length ≤ b.length := by
  unfold inverseF
  split <;> simp
theorem least_le (m : Model) (b : List Cell) : (leastF m b).length ≤ b.length := by
  unfold leastF
  split
  · exact List.length_filter_le _ _
  · simp

theorem awake_meets : ∃ fuel, awake_run fuel = some (.val .bool tt0) := ⟨0, by rw [awake_eq]; kernel_rfl⟩

theorem lawModels_meets (m : Model) (w : List Cell) (_ : tt2m m w = true) : ∃ fuel, lawModels_run fuel m w = some (.val .bool (tt2m m w)) := ⟨0, by
  rw [lawModels_eq]
  by_cases hl : lightF m.1 w = true
  · have h := (light_iff _ _).1 hl
    have l1 := inverse_le m w
    have l2 := least_le m w
    rw [hl, modG_of (by omega), twoG_of (a := inverseF m w) (by omega), twoG_of (a := leastF m w) (by omega), sameF_self, sameF_self]
    rfl
  · have hl : lightF m.1 w = false := by simpa using hl
    rw [hl]; rfl⟩

theorem lawWrites_meets (a b : List Cell) (_ : tt2 a b = true) : ∃ fuel, lawWrites_run fuel a b = some (.val .bool (tt2 a b)) := ⟨0, by
  rw [lawWrites_eq]
  by_cases hl : lightF a b = true
  · have h := (light_iff _ _).1 hl
    have l1 := compose_le a b
    have l2 := rest_le a b
    rw [hl, twoG_of (a := a) (by omega), twoG_of (a := composeF a b) (by omega), twoG_of (a := restF a b) (by omega), sameF_self, sameF_self, decide_eq_true (rfl : indepF a b = indepF a b)]
    rfl
  · have hl : lightF a b = false := by simpa using hl
    rw [hl]; rfl⟩

theorem compose_eqF {a b : List Cell} (ha : writesF a = true) (hb : writesF b = true) : composeF a b = over a b := by
  unfold composeF twoW; rw [ha, hb]; rfl

theorem lawComposes_meets (m : Model) (a b c : List Cell) (_ : tt4m m a b c = true) : ∃ fuel, lawComposes_run fuel m a b c = some (.val .bool (tt4m m a b c)) := ⟨0, by
  rw [lawComposes_eq]
  cases hl1 : lightF m.1 a
  · simp [impl_eq, tt0, tt4m, tt3m, tt2m, tt3i]
  cases hl2 : lightF b c
  · simp [impl_eq, tt0, tt4m, tt3m, tt2m, tt3i]
  have h1 := (light_iff _ _).1 hl1
  have h2 := (light_iff _ _).1 hl2
  rw [lenG_of (a := m.1) (by omega), lenG_of (a := a) (by omega), lenG_of (a := b) (by omega), lenG_of (a := c) (by omega)]
  cases hm : validF m.1
  · simp [impl_eq, tt0, tt4m, tt3m, tt2m, tt3i]
  cases ha : writesF a
  · simp [impl_eq, tt0, tt4m, tt3m, tt2m, tt3i]
  cases hb : writesF b
  · simp [impl_eq, tt0, tt4m, tt3m, tt2m, tt3i]
  cases hc : writesF c
  · simp [impl_eq, tt0, tt4m, tt3m, tt2m, tt3i]
  have l1 := put_le m.1 a
  have l2 := put_le (putF m.1 a) b
  have l3 := over_le a b
  have l4 := put_le m.1 (over a b)
  have l5 := over_le (over a b) c
  have l6 := over_le b c
  have l7 := over_le a (over b c)
  rw [compose_eqF ha hb, compose_eqF hb hc, compose_eqF (writes_over ha hb) hc, compose_eqF ha (writes_over hb hc), put_put hm ha hb, over_assoc (writes_asc ha) (writes_asc hb) (writes_asc hc), sameF_self, sameF_self,
    putG_of (a := m.1) (b := a) (by omega), putG_of (a := putF m.1 a) (by omega), twoG_of (a := a) (b := b) (by omega), putG_of (a := m.1) (b := over a b) (by omega), twoG_of (a := putF m.1 (over a b)) (by omega),
    twoG_of (a := over a b) (b := c) (by omega), twoG_of (a := b) (b := c) (by omega), twoG_of (a := a) (b := over b c) (by omega), twoG_of (a := over a (over b c)) (by omega)]
  rfl⟩

theorem indep_parts {a b : List Cell} (h : indepF a b = true) : writesF a = true ∧ writesF b = true ∧ ∀ x ∈ a, ∀ y ∈ b, sameC x y = false := by
  unfold indepF twoW at h
  simp only [Bool.and_eq_true, Bool.not_eq_true'] at h
  refine ⟨h.1.1, h.1.2, fun x hx y hy => ?_⟩
  have h1 := List.any_eq_false.1 h.2 x hx
  unfold shared at h1
  have h1' : b.any (fun y => sameC y x) = false := by
    cases hh : b.any (fun y => sameC y x)
    · rfl
    · exact absurd hh h1
  have h2 := List.any_eq_false.1 h1' y hy
  rw [sameC_symm]
  cases hh : sameC y x
  · rfl
  · exact absurd hh h2

theorem lawApart_meets (m : Model) (a b : List Cell) (_ : tt3m m a b = true) : ∃ fuel, lawApart_run fuel m a b = some (.val .bool (tt3m m a b)) := ⟨0, by
  rw [lawApart_eq]
  cases hl1 : lightF m.1 a
  · simp [impl_eq, tt0, tt4m, tt3m, tt2m, tt3i]
  cases hl2 : lightF b []
  · simp [impl_eq, tt0, tt4m, tt3m, tt2m, tt3i]
  have h1 := (light_iff _ _).1 hl1
  have h2 := (light_iff _ _).1 hl2
  rw [lenG_of (a := m.1) (by omega), twoG_of (a := a) (b := b) (by omega)]
  cases hm : validF m.1
  · simp [impl_eq, tt0, tt4m, tt3m, tt2m, tt3i]
  cases hi : indepF a b
  · simp [impl_eq, tt0, tt4m, tt3m, tt2m, tt3i]
  obtain ⟨ha, hb, hn⟩ := indep_parts hi
  have l1 := put_le m.1 a
  have l2 := put_le (putF m.1 a) b
  have l3 := over_le a b
  have l4 := put_le m.1 (over a b)
  have l5 := put_le m.1 b
  have e := over_comm (writes_asc ha) (writes_asc hb) hn
  have len := over_length a b hn
  have ew : w64 ((a.length : Int) + (b.length : Int)) = ((a.length + b.length : Nat) : Int) := by
    rw [w64_id (by omega) (by omega)]; omega
  rw [compose_eqF ha hb, compose_eqF hb ha, put_put hm ha hb, put_put hm hb ha, ← e, sameF_self, sameF_self, valid_put hm (writes_over ha hb), len,
    putG_of (a := m.1) (b := a) (by omega), putG_of (a := putF m.1 a) (by omega), putG_of (a := m.1) (b := b) (by omega), putG_of (a := putF m.1 b) (by omega), lenG_of (a := putF m.1 (over a b)) (by omega), twoG_of (a := putF m.1 (over a b)) (by omega),
    twoG_of (a := b) (b := a) (by omega), twoG_of (a := over a b) (by omega), ew, decide_eq_true (rfl : ((a.length + b.length : Nat) : Int) = ((a.length + b.length : Nat) : Int))]
  rfl⟩

theorem lawInverts_meets (m : Model) (w : List Cell) (_ : tt2m m w = true) : ∃ fuel, lawInverts_run fuel m w = some (.val .bool (tt2m m w)) := ⟨0, by
  rw [lawInverts_eq]
  cases hl : lightF m.1 w
  · simp [impl_eq, tt0, tt4m, tt3m, tt2m, tt3i]
  have h1 := (light_iff _ _).1 hl
  rw [lenG_of (a := m.1) (by omega), lenG_of (a := w) (by omega)]
  cases hm : validF m.1
  · simp [impl_eq, tt0, tt4m, tt3m, tt2m, tt3i]
  cases hw : writesF w
  · simp [impl_eq, tt0, tt4m, tt3m, tt2m, tt3i]
  have l1 := put_le m.1 w
  have l2 := inverse_le m w
  have len : (inverseF m w).length = w.length := by rw [inverse_eqF hm hw]; simp [revalue]
  rw [undo hm hw, redo hm hw, sameF_self, sameF_self, len, putG_of (a := m.1) (by omega), modG_of (m := m) (by omega), putG_of (a := putF m.1 w) (by omega), twoG_of (a := m.1) (by omega),
    modG_of (m := (putF m.1 w, ())) (by show (putF m.1 w).length + _ ≤ _; omega), twoG_of (a := w) (by omega), decide_eq_true (rfl : (w.length : Int) = (w.length : Int))]
  rfl⟩

theorem lawLeast_meets (m : Model) (w : List Cell) (at_ : Int) (_ : tt3i m w at_ = true) : ∃ fuel, lawLeast_run fuel m w at_ = some (.val .bool (tt3i m w at_)) := ⟨0, by
  rw [lawLeast_eq]
  cases hl : lightF m.1 w
  · simp [impl_eq, tt0, tt4m, tt3m, tt2m, tt3i]
  have h1 := (light_iff _ _).1 hl
  rw [lenG_of (a := m.1) (by omega), lenG_of (a := w) (by omega)]
  cases hm : validF m.1
  · simp [impl_eq, tt0, tt4m, tt3m, tt2m, tt3i]
  cases hw : writesF w
  · simp [impl_eq, tt0, tt4m, tt3m, tt2m, tt3i]
  have l1 := put_le m.1 w
  have l2 := least_le m w
  have l3 := put_le m.1 (leastF m w)
  rw [least_put hm hw, sameF_self, putG_of (a := m.1) (b := w) (by omega), putG_of (a := m.1) (b := leastF m w) (by omega), modG_of (m := m) (by omega), twoG_of (a := putF m.1 w) (b := putF m.1 w) (by omega), twoG_of (a := putF m.1 w) (b := m.1) (by omega)]
  by_cases h0 : (leastF m w).length = 0
  · have e : leastF m w = [] := List.length_eq_zero_iff.1 h0
    have : putF m.1 w = m.1 := by
      rw [← least_put hm hw, e, put_eqF hm rfl, over_nil_right, filter_nz (valid_nz hm)]
    rw [e, this, sameF_self]
    rfl
  · have hp : 0 < ((leastF m w).length : Int) := by omega
    obtain ⟨k, hk⟩ : ∃ k : Nat, modF at_ ((leastF m w).length : Int) = (k : Int) := ⟨(at_ % ((leastF m w).length : Int)).toNat, by unfold modF; rw [Int.toNat_of_nonneg (Int.emod_nonneg _ (by omega))]⟩
    have hkl : k < (leastF m w).length := by
      have := Int.emod_lt_of_pos at_ hp
      unfold modF at hk
      omega
    have hz : decide (((leastF m w).length : Int) = 0) = false := decide_eq_false (by omega)
    have hg : modIG at_ ((leastF m w).length : Int) = true := by
      unfold modIG
      rw [decide_eq_true hp, decide_eq_true (show ((leastF m w).length : Int) ≤ (LIM : Int) by unfold LIM; omega)]; rfl
    have ek : w64 ((k : Int) + 1) = ((k + 1 : Nat) : Int) := by rw [w64_id (by omega) (by omega)]; omega
    have c1 : (([] ++ ((List.take (Int.toNat (k : Int)) (leastF m w)).drop 0)) ++ ((List.take (List.length (leastF m w)) (leastF m w)).drop (Int.toNat ((k + 1 : Nat) : Int)))) = (leastF m w).take k ++ (leastF m w).drop (k + 1) := by
      rw [List.take_length]; rfl
    have c1' : ([] ++ ((List.take (Int.toNat (k : Int)) (leastF m w)).drop 0)) = (leastF m w).take k := rfl
    have l4 : ((leastF m w).take k ++ (leastF m w).drop (k + 1)).length ≤ (leastF m w).length := by simp; omega
    have l5 := put_le m.1 ((leastF m w).take k ++ (leastF m w).drop (k + 1))
    have ne : sameF (putF m.1 ((leastF m w).take k ++ (leastF m w).drop (k + 1))) (putF m.1 w) = false := by
      cases h : sameF (putF m.1 ((leastF m w).take k ++ (leastF m w).drop (k + 1))) (putF m.1 w)
      · simp [impl_eq, tt0, tt4m, tt3m, tt2m, tt3i]
      · exact absurd ((sameF_iff _ _).1 h) (least_needed hm hw hkl)
    have g1 : decide (List.length ([] : List tCell.den) + List.length ((List.take (Int.toNat (k : Int)) (leastF m w)).drop 0) ≤ LIM) = true := decide_eq_true (by
      simp [LIM]; omega)
    have g2 : decide (List.length ([] ++ ((List.take (Int.toNat (k : Int)) (leastF m w)).drop 0)) + List.length ((List.take (List.length (leastF m w)) (leastF m w)).drop (Int.toNat ((k + 1 : Nat) : Int))) ≤ LIM) = true := decide_eq_true (by
      simp [LIM]; omega)
    rw [hz, hk, ek, hg, g1, g2, c1, ne, putG_of (by omega), twoG_of (by omega), decide_eq_true (show (0 : Int) ≤ (k : Int) by omega), decide_eq_true (show (k : Int) ≤ ((leastF m w).length : Int) by omega),
      decide_eq_true (show (0 : Int) ≤ ((k + 1 : Nat) : Int) by omega), decide_eq_true (show ((k + 1 : Nat) : Int) ≤ ((leastF m w).length : Int) by omega)]
    rfl⟩
end Go.Proofs.Ytlipfgaambiklaa.Abs
