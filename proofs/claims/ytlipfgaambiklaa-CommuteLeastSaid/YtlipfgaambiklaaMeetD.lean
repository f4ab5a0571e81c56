/- The merges are the specifications. -/
import Derived.Test.YtlipfgaambiklaaOrd
namespace Go.Proofs.Ytlipfgaambiklaa.Abs
open Go
set_option linter.unusedSimpArgs false

theorem getV_cons (x : Cell) (a : List Cell) (y : Cell) : getV (x :: a) y = if sameC x y = true then x.2.2.1 else getV a y := by
  unfold getV; rw [List.find?_cons]
  cases sameC x y
  · rfl
  · rfl

theorem getV_none (a : List Cell) (y : Cell) (h : ∀ c ∈ a, sameC c y = false) : getV a y = zVal := by
  induction a with
  | nil => rfl
  | cons x a ih => rw [getV_cons, h x (by simp), ih (fun c hc => h c (by simp [hc]))]; rfl

theorem getV_skip {x : Cell} {a : List Cell} {y : Cell} (h : ltC x y = true) : getV (x :: a) y = getV a y := by
  rw [getV_cons, ltC_ne h]; rfl

theorem getV_before {a : List Cell} {y : Cell} (h : ∀ c ∈ a, ltC y c = true) : getV a y = zVal :=
  getV_none a y (fun c hc => by rw [sameC_symm]; exact ltC_ne (h c hc))

theorem tri_gt {x y : Cell} (hs : sameC x y = false) (hl : ltC x y = false) : ltC y x = true := by
  rcases ltC_tri x y with h | h | h
  · rw [h] at hl; exact absurd hl (by decide)
  · rw [h] at hs; exact absurd hs (by decide)
  · exact h

theorem cell_eta {x y : Cell} (h : sameC x y = true) : (y.1, y.2.1, x.2.2.1, ()) = x := by
  have := (sameC_iff x y).1 h
  rw [← this.1, ← this.2]

theorem mrg_inverse : ∀ (n : Nat) (a b : List Cell), a.length + b.length < n → Asc a → Asc b →
    mrg (fun x _ => [x]) (fun _ => []) (fun c => [zeroed c]) n a b = b.map (fun y => (y.1, y.2.1, getV a y, ())) := by
  intro n
  induction n with
  | zero => intro a b h; omega
  | succ n ih =>
    intro a b h ha hb
    cases a with
    | nil =>
      rw [mrg]; clear h hb ih
      induction b with
      | nil => rfl
      | cons y b ih => rw [List.flatMap_cons, ih]; rfl
    | cons x a => cases b with
      | nil =>
        rw [mrg]; clear h ha hb ih
        rw [List.flatMap_eq_nil_iff.2 (fun _ _ => rfl)]; rfl
      | cons y b =>
        simp only [List.length_cons] at h
        have ha' := List.pairwise_cons.1 ha
        have hb' := List.pairwise_cons.1 hb
        rw [mrg, List.map_cons]
        cases hs : sameC x y
        · cases hl : ltC x y
          · have g := tri_gt hs hl
            rw [if_neg (by decide), if_neg (by decide), ih (x :: a) b (by simp only [List.length_cons]; omega) ha hb'.2]
            have e : getV (x :: a) y = zVal := getV_before (fun c hc => by
              rcases List.mem_cons.1 hc with rfl | hc
              · exact g
              · exact ltC_trans g (ha'.1 c hc))
            rw [e]; rfl
          · rw [if_neg (by decide), if_pos rfl, ih a (y :: b) (by simp only [List.length_cons]; omega) ha'.2 hb, List.map_cons, getV_skip hl]
            show _ :: _ = _ :: _
            congr 1
            exact List.map_congr_left (fun z hz => by rw [getV_skip (ltC_trans hl (hb'.1 z hz))])
        · rw [if_pos rfl, ih a b (by omega) ha'.2 hb'.2]
          have e : getV (x :: a) y = x.2.2.1 := by rw [getV_cons, hs]; rfl
          rw [e, cell_eta hs]
          show _ :: _ = _ :: _
          congr 1
          refine List.map_congr_left (fun z hz => ?_)
          rw [getV_skip (by rw [ltC_same_left hs]; exact hb'.1 z hz)]
end Go.Proofs.Ytlipfgaambiklaa.Abs
