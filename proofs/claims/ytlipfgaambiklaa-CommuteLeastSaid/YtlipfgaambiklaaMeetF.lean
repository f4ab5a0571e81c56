/- Rest, Compose. -/
import Derived.Test.YtlipfgaambiklaaMeetE
namespace Go.Proofs.Ytlipfgaambiklaa.Abs
open Go
set_option linter.unusedSimpArgs false

theorem shared_cons (y : Cell) (b : List Cell) (x : Cell) : shared (y :: b) x = (sameC y x || shared b x) := rfl
theorem shared_before {b : List Cell} {x : Cell} (h : ∀ c ∈ b, ltC x c = true) : shared b x = false := by
  induction b with
  | nil => rfl
  | cons y b ih => rw [shared_cons, ih (fun c hc => h c (by simp [hc])), sameC_symm, ltC_ne (h y (by simp))]; rfl

theorem mrg_rest : ∀ (n : Nat) (a b : List Cell), a.length + b.length < n → Asc a → Asc b →
    mrg (fun _ _ => []) (fun c => [c]) (fun _ => []) n a b = a.filter (fun x => !shared b x) := by
  intro n
  induction n with
  | zero => intro a b h; omega
  | succ n ih =>
    intro a b h ha hb
    cases a with
    | nil => rw [mrg, List.flatMap_eq_nil_iff.2 (fun _ _ => rfl)]; rfl
    | cons x a => cases b with
      | nil =>
        rw [mrg, List.flatMap_singleton']
        exact (List.filter_eq_self.2 (fun _ _ => rfl)).symm
      | cons y b =>
        simp only [List.length_cons] at h
        have ha' := List.pairwise_cons.1 ha
        have hb' := List.pairwise_cons.1 hb
        rw [mrg, List.filter_cons]
        cases hs : sameC x y
        · cases hl : ltC x y
          · have g := tri_gt hs hl
            rw [if_neg (by decide), if_neg (by decide), ih (x :: a) b (by simp only [List.length_cons]; omega) ha hb'.2, List.filter_cons]
            have e : ∀ z ∈ x :: a, shared (y :: b) z = shared b z := fun z hz => by
              have : ltC y z = true := by
                rcases List.mem_cons.1 hz with rfl | hz
                · exact g
                · exact ltC_trans g (ha'.1 z hz)
              rw [shared_cons, ltC_ne this]; rfl
            rw [e x (by simp), List.filter_congr (fun z hz => by rw [e z (by simp [hz])] : ∀ z ∈ a, (!shared (y :: b) z) = (!shared b z))]; rfl
          · rw [if_neg (by decide), if_pos rfl, ih a (y :: b) (by simp only [List.length_cons]; omega) ha'.2 hb]
            have e : shared (y :: b) x = false := shared_before (fun c hc => by
              rcases List.mem_cons.1 hc with rfl | hc
              · exact hl
              · exact ltC_trans hl (hb'.1 c hc))
            rw [e]; rfl
        · rw [if_pos rfl, ih a b (by omega) ha'.2 hb'.2]
          have e : shared (y :: b) x = true := by rw [shared_cons, sameC_symm, hs]; rfl
          rw [e]
          show _ = List.filter _ a
          refine List.filter_congr (fun z hz => ?_)
          have : ltC y z = true := by rw [← ltC_same_left hs]; exact ha'.1 z hz
          rw [shared_cons, ltC_ne this]; rfl

theorem restC_meets (a b : List Cell) (h : twoG a b = true) : ∃ fuel, restC_run fuel a b = some (.val (.slice tCell) (restF a b)) := by
  have hl := (twoG_iff a b).1 h
  have ha : lenG a = true := (lenG_iff a).2 (by omega)
  have hb : lenG b = true := (lenG_iff b).2 (by omega)
  refine ⟨a.length + b.length + 1, ?_⟩
  have := restC_l1 (a.length + b.length + 1) a b (a.length + b.length + 1) a b [] (by omega) (by omega) (by simp; omega)
  rw [restC_eq, ha, hb, restF, twoW]
  cases h1 : writesF a <;> cases h2 : writesF b <;> simp [impl_eq]
  rw [this, mrg_rest _ _ _ (by omega) (writes_asc h1) (writes_asc h2)]; rfl

theorem overF_nil (n : Nat) (a : List Cell) (h : a.length < n) : overF n a [] = a := by
  cases n with
  | zero => omega
  | succ n => cases a <;> rfl

theorem mrg_over : ∀ (n : Nat) (a b : List Cell), a.length + b.length < n →
    mrg (fun _ y => [y]) (fun c => [c]) (fun c => [c]) n a b = overF n a b := by
  intro n
  induction n with
  | zero => intro a b h; omega
  | succ n ih =>
    intro a b h
    cases a with
    | nil => rw [mrg, List.flatMap_singleton', overF]
    | cons x a => cases b with
      | nil => rw [mrg, List.flatMap_singleton', overF_nil _ _ (by simpa using h)]
      | cons y b =>
        simp only [List.length_cons] at h
        rw [mrg, overF, ih a b (by omega), ih a (y :: b) (by simp only [List.length_cons]; omega), ih (x :: a) b (by simp only [List.length_cons]; omega)]
        cases hs : sameC x y
        · cases hl : ltC x y <;> rfl
        · have : ltC x y = false := by
            cases e : ltC x y
            · rfl
            · rw [ltC_ne e] at hs; exact absurd hs (by decide)
          rw [this]; rfl

theorem compose_meets (a b : List Cell) (h : twoG a b = true) : ∃ fuel, compose_run fuel a b = some (.val (.slice tCell) (composeF a b)) := by
  have hl := (twoG_iff a b).1 h
  have ha : lenG a = true := (lenG_iff a).2 (by omega)
  have hb : lenG b = true := (lenG_iff b).2 (by omega)
  refine ⟨a.length + b.length + 1, ?_⟩
  have := compose_l1 (a.length + b.length + 1) a b (a.length + b.length + 1) a b [] (by omega) (by omega) (by simp; omega)
  rw [compose_eq, ha, hb, composeF, twoW]
  cases h1 : writesF a <;> cases h2 : writesF b <;> simp [impl_eq]
  rw [this, mrg_over _ _ _ (by omega)]; rfl
end Go.Proofs.Ytlipfgaambiklaa.Abs
