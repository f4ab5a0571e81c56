/- The other merges; Inverse, Least, Rest. -/
import Derived.Test.YtlipfgaambiklaaMeetD
namespace Go.Proofs.Ytlipfgaambiklaa.Abs
open Go
set_option linter.unusedSimpArgs false

theorem valid_asc {l : List Cell} (h : validF l = true) : Asc l := ((writes_iff l).1 (Bool.and_eq_true_iff.1 h).2).1
theorem writes_asc {l : List Cell} (h : writesF l = true) : Asc l := ((writes_iff l).1 h).1

theorem keepNe_eq (x y : Cell) (r : List Cell) (g : Cell → Bool) (e : g y = !eqD tVal y.2.2.1 x.2.2.1) : keepNe x y ++ r.filter g = (y :: r).filter g := by
  rw [List.filter_cons, e, keepNe]
  cases eqD tVal y.2.2.1 x.2.2.1 <;> rfl
theorem keepNz_eq (y : Cell) (r : List Cell) (g : Cell → Bool) (e : g y = nz y) : keepNz y ++ r.filter g = (y :: r).filter g := by
  rw [List.filter_cons, e, keepNz]
  cases nz y <;> rfl

theorem mrg_least : ∀ (n : Nat) (a b : List Cell), a.length + b.length < n → Asc a → Asc b →
    mrg keepNe (fun _ => []) keepNz n a b = b.filter (fun y => !eqD tVal y.2.2.1 (getV a y)) := by
  intro n
  induction n with
  | zero => intro a b h; omega
  | succ n ih =>
    intro a b h ha hb
    cases a with
    | nil =>
      rw [mrg]; clear h hb ih
      induction b with
      | nil => rfl
      | cons y b ih => rw [List.flatMap_cons, ih]; exact keepNz_eq y b _ rfl
    | cons x a => cases b with
      | nil =>
        rw [mrg]; clear h ha hb ih
        rw [List.flatMap_eq_nil_iff.2 (fun _ _ => rfl)]; rfl
      | cons y b =>
        simp only [List.length_cons] at h
        have ha' := List.pairwise_cons.1 ha
        have hb' := List.pairwise_cons.1 hb
        rw [mrg]
        cases hs : sameC x y
        · cases hl : ltC x y
          · have g := tri_gt hs hl
            rw [if_neg (by decide), if_neg (by decide), ih (x :: a) b (by simp only [List.length_cons]; omega) ha hb'.2]
            have e : getV (x :: a) y = zVal := getV_before (fun c hc => by
              rcases List.mem_cons.1 hc with rfl | hc
              · exact g
              · exact ltC_trans g (ha'.1 c hc))
            exact keepNz_eq y b _ (by rw [e]; rfl)
          · rw [if_neg (by decide), if_pos rfl, ih a (y :: b) (by simp only [List.length_cons]; omega) ha'.2 hb]
            refine List.filter_congr (fun z hz => ?_)
            have : ltC x z = true := by
              rcases List.mem_cons.1 hz with rfl | hz
              · exact hl
              · exact ltC_trans hl (hb'.1 z hz)
            rw [getV_skip this]
        · rw [if_pos rfl, ih a b (by omega) ha'.2 hb'.2]
          have e : getV (x :: a) y = x.2.2.1 := by rw [getV_cons, hs]; rfl
          have e2 : b.filter (fun y => !eqD tVal y.2.2.1 (getV a y)) = b.filter (fun y => !eqD tVal y.2.2.1 (getV (x :: a) y)) :=
            List.filter_congr (fun z hz => by rw [getV_skip (by rw [ltC_same_left hs]; exact hb'.1 z hz)])
          rw [e2]
          exact keepNe_eq x y b _ (by rw [e])

theorem inverse_meets (m : Model) (w : List Cell) (h : modG m w = true) : ∃ fuel, inverse_run fuel m w = some (.val (.slice tCell) (inverseF m w)) := by
  have hl := (modG_iff m w).1 h
  have ha : lenG m.1 = true := (lenG_iff _).2 (by omega)
  have hb : lenG w = true := (lenG_iff w).2 (by omega)
  refine ⟨m.1.length + w.length + 1, ?_⟩
  have := inverse_l1 (m.1.length + w.length + 1) m w (m.1.length + w.length + 1) m.1 w [] (by omega) (by omega) (by simp; omega)
  rw [inverse_eq, ha, hb, inverseF]
  cases h1 : validF m.1 <;> cases h2 : writesF w <;> simp [impl_eq]
  rw [this, mrg_inverse _ _ _ (by omega) (valid_asc h1) (writes_asc h2)]; rfl

theorem leastC_meets (m : Model) (w : List Cell) (h : modG m w = true) : ∃ fuel, leastC_run fuel m w = some (.val (.slice tCell) (leastF m w)) := by
  have hl := (modG_iff m w).1 h
  have ha : lenG m.1 = true := (lenG_iff _).2 (by omega)
  have hb : lenG w = true := (lenG_iff w).2 (by omega)
  refine ⟨m.1.length + w.length + 1, ?_⟩
  have := leastC_l1 (m.1.length + w.length + 1) m w (m.1.length + w.length + 1) m.1 w [] (by omega) (by omega) (by simp; omega)
  rw [leastC_eq, ha, hb, leastF]
  cases h1 : validF m.1 <;> cases h2 : writesF w <;> simp [impl_eq]
  rw [this, mrg_least _ _ _ (by omega) (valid_asc h1) (writes_asc h2)]; rfl
end Go.Proofs.Ytlipfgaambiklaa.Abs
