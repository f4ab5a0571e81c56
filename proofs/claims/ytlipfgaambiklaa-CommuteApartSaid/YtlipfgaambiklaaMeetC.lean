/- The reference's loops, and Put and Independent. -/
import Derived.Test.YtlipfgaambiklaaMeetB
namespace Go.Proofs.Ytlipfgaambiklaa.Abs
open Go
set_option linter.unusedSimpArgs false

theorem getF_eq (l : List Cell) (y : Cell) : getF l y.1 y.2.1 = getV l y := rfl

theorem rRest_loop (fuel : Nat) (b : List Cell) (hb : lenG b = true) : ∀ (n : Nat) (r p out : List Cell), r.length < n → r.length + p.length ≤ 4294967296 → r.length + out.length ≤ 4294967296 →
    rRest_l5 fuel n (p ++ r) b out (p.length : Int) = some (.val (.slice tCell) (out ++ r.filter (fun x => !shared b x))) := by
  intro n
  induction n with
  | zero => intro r p out h; omega
  | succ n ih =>
    intro r p out h hp hl
    cases r with
    | nil => rw [rRest_l5_eq, lt_end]; simp
    | cons c r =>
      simp only [List.length_cons] at h hp hl
      have next : ∀ out' : List Cell, out'.length ≤ out.length + 1 → rRest_l5 fuel n (p ++ c :: r) b out' (w64 ((p.length : Int) + 1)) = some (.val (.slice tCell) (out' ++ r.filter (fun x => !shared b x))) := by
        intro out' ho
        rw [as_mid, nx_len p c (by omega)]
        exact ih r (p ++ [c]) out' (by omega) (by simp only [List.length_append, List.length_cons, List.length_nil]; omega) (by omega)
      rw [rRest_l5_eq, lt_mid, nn_len, ix_mid, rRest_j6_eq, rRest_j6_eq, decide_eq_true (of_eq_true (room out c (by omega))), next _ (by simp), next _ (by omega), show hasG b c = true from hb]
      simp only [cond_true, Bool.and_self, sharedF]
      cases hs : shared b c
      · simp [hs]
      · simp [hs]

theorem rInverse_loop (fuel : Nat) (m : Model) (hm : lenG m.1 = true) : ∀ (n : Nat) (r p out : List Cell), r.length < n → r.length + p.length ≤ 4294967296 → r.length + out.length ≤ 4294967296 →
    rInverse_l5 fuel n (p ++ r) m out (p.length : Int) = some (.val (.slice tCell) (out ++ r.map (fun y => (y.1, y.2.1, getV m.1 y, ())))) := by
  intro n
  induction n with
  | zero => intro r p out h; omega
  | succ n ih =>
    intro r p out h hp hl
    cases r with
    | nil => rw [rInverse_l5_eq, lt_end]; simp
    | cons c r =>
      simp only [List.length_cons] at h hp hl
      have next : ∀ out' : List Cell, out'.length ≤ out.length + 1 → rInverse_l5 fuel n (p ++ c :: r) m out' (w64 ((p.length : Int) + 1)) = some (.val (.slice tCell) (out' ++ r.map (fun y => (y.1, y.2.1, getV m.1 y, ())))) := by
        intro out' ho
        rw [as_mid, nx_len p c (by omega)]
        exact ih r (p ++ [c]) out' (by omega) (by simp only [List.length_append, List.length_cons, List.length_nil]; omega) (by omega)
      rw [rInverse_l5_eq, lt_mid, nn_len, ix_mid, getF_eq, decide_eq_true (of_eq_true (room out (c.1, c.2.1, getV m.1 c, ()) (by omega))), next _ (by simp), show getG m.1 c.1 c.2.1 = true from hm]
      simp

theorem rLeast_loop (fuel : Nat) (m : Model) (hm : lenG m.1 = true) : ∀ (n : Nat) (r p out : List Cell), r.length < n → r.length + p.length ≤ 4294967296 → r.length + out.length ≤ 4294967296 →
    rLeast_l5 fuel n (p ++ r) m out (p.length : Int) = some (.val (.slice tCell) (out ++ r.filter (fun y => !eqD tVal y.2.2.1 (getV m.1 y)))) := by
  intro n
  induction n with
  | zero => intro r p out h; omega
  | succ n ih =>
    intro r p out h hp hl
    cases r with
    | nil => rw [rLeast_l5_eq, lt_end]; simp
    | cons c r =>
      simp only [List.length_cons] at h hp hl
      have next : ∀ out' : List Cell, out'.length ≤ out.length + 1 → rLeast_l5 fuel n (p ++ c :: r) m out' (w64 ((p.length : Int) + 1)) = some (.val (.slice tCell) (out' ++ r.filter (fun y => !eqD tVal y.2.2.1 (getV m.1 y)))) := by
        intro out' ho
        rw [as_mid, nx_len p c (by omega)]
        exact ih r (p ++ [c]) out' (by omega) (by simp only [List.length_append, List.length_cons, List.length_nil]; omega) (by omega)
      rw [rLeast_l5_eq, lt_mid, nn_len, ix_mid, rLeast_j6_eq, rLeast_j6_eq, getF_eq, decide_eq_true (of_eq_true (room out c (by omega))), next _ (by simp), next _ (by omega), show getG m.1 c.1 c.2.1 = true from hm]
      simp only [cond_true, Bool.and_self]
      cases hs : eqD tVal c.2.2.1 (getV m.1 c)
      · simp [hs]
      · simp [hs]

theorem twoG_iff (a b : List Cell) : twoG a b = true ↔ a.length + b.length ≤ 4294967296 := decide_eq_true_iff
theorem modG_iff (m : Model) (b : List Cell) : modG m b = true ↔ m.1.length + b.length ≤ 4294967296 := decide_eq_true_iff

theorem rRest_meets (a b : List Cell) (h : twoG a b = true) : ∃ fuel, rRest_run fuel a b = some (.val (.slice tCell) (restF a b)) := by
  have hl := (twoG_iff a b).1 h
  have ha : lenG a = true := (lenG_iff a).2 (by omega)
  have hb : lenG b = true := (lenG_iff b).2 (by omega)
  refine ⟨a.length + 1, ?_⟩
  have := rRest_loop (a.length + 1) b hb (a.length + 1) a [] [] (by omega) (by simp; omega) (by simp; omega)
  rw [rRest_eq, ha, hb, restF, twoW]
  cases h1 : writesF a <;> cases h2 : writesF b <;> simp [impl_eq]
  simpa using this

theorem rInverse_meets (m : Model) (w : List Cell) (h : modG m w = true) : ∃ fuel, rInverse_run fuel m w = some (.val (.slice tCell) (inverseF m w)) := by
  have hl := (modG_iff m w).1 h
  have ha : lenG m.1 = true := (lenG_iff _).2 (by omega)
  have hb : lenG w = true := (lenG_iff w).2 (by omega)
  refine ⟨w.length + 1, ?_⟩
  have := rInverse_loop (w.length + 1) m ha (w.length + 1) w [] [] (by omega) (by simp; omega) (by simp; omega)
  rw [rInverse_eq, ha, hb, inverseF]
  cases h1 : validF m.1 <;> cases h2 : writesF w <;> simp [impl_eq]
  simpa using this

theorem rLeast_meets (m : Model) (w : List Cell) (h : modG m w = true) : ∃ fuel, rLeast_run fuel m w = some (.val (.slice tCell) (leastF m w)) := by
  have hl := (modG_iff m w).1 h
  have ha : lenG m.1 = true := (lenG_iff _).2 (by omega)
  have hb : lenG w = true := (lenG_iff w).2 (by omega)
  refine ⟨w.length + 1, ?_⟩
  have := rLeast_loop (w.length + 1) m ha (w.length + 1) w [] [] (by omega) (by simp; omega) (by simp; omega)
  rw [rLeast_eq, ha, hb, leastF]
  cases h1 : validF m.1 <;> cases h2 : writesF w <;> simp [impl_eq]
  simpa using this
end Go.Proofs.Ytlipfgaambiklaa.Abs
