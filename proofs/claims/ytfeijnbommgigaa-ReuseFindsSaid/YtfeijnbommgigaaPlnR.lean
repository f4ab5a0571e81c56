/- What the loops' proofs use: machine numbers, places in lists, ascending lists. -/
import Derived.Test.YtfeijnbommgigaaOrdR
namespace Go.Proofs.Ytfeijnbommgigaa.Abs
open Go

theorem w64_id {n : Int} (h0 : -9223372036854775808 ≤ n) (h1 : n < 9223372036854775808) : w64 n = n := by
  unfold w64; simp [IntKind.wrap, IntKind.bits, IntKind.signed]; omega
theorem w64_nat {n : Nat} (h : n < 9223372036854775808) : w64 (n : Int) = n := w64_id (by omega) (by omega)
theorem ix_mid {t : Ty} (p : List t.den) (c : t.den) (r : List t.den) : ix t (p ++ c :: r) (p.length : Int) = c := by
  simp [ix]
theorem lt_mid {t : Ty} (p : List t.den) (c : t.den) (r : List t.den) : decide ((p.length : Int) < ((p ++ c :: r).length : Int)) = true := by
  simp; omega
theorem lt_end {t : Ty} (p : List t.den) : decide ((p.length : Int) < ((p ++ []).length : Int)) = false := by simp
theorem nn_len {t : Ty} (p : List t.den) : decide (0 ≤ (p.length : Int)) = true := by simp
theorem nx_len {t : Ty} (p : List t.den) (c : t.den) (h : p.length < 9223372036854775807) : w64 ((p.length : Int) + 1) = ((p ++ [c]).length : Int) := by
  rw [w64_id (by omega) (by omega)]; simp
theorem as_mid {t : Ty} (p : List t.den) (c : t.den) (r : List t.den) : p ++ c :: r = (p ++ [c]) ++ r := by simp
theorem impl_eq (a b : Bool) : impl a b = (!a || b) := by cases a <;> cases b <;> rfl
theorem dt {p : Prop} [Decidable p] (h : p) : decide p = true := decide_eq_true h
theorem df {p : Prop} [Decidable p] (h : ¬ p) : decide p = false := decide_eq_false h

section
variable {α : Type} {c : α → α → Int}

theorem insC_nil {x : α} {r : List α} (hr : ∀ y ∈ r, c y x > 0) : insC c r x = x :: r := insC_eq c x r [] hr [] rfl
theorem insC_same {x y : α} {p r : List α} (hr : ∀ z ∈ r, c z x > 0) (hy : c y x = 0) : insC c ((p ++ [y]) ++ r) x = (p ++ [y]) ++ r := by
  have := insC_eq c x r (p ++ [y]) hr (y :: p.reverse) (by simp)
  simp only at this
  rw [if_neg (by omega), if_pos hy] at this; exact this
theorem insC_mid {x y : α} {p r : List α} (hr : ∀ z ∈ r, c z x > 0) (hy : c y x < 0) : insC c ((p ++ [y]) ++ r) x = (p ++ [y]) ++ x :: r := by
  have := insC_eq c x r (p ++ [y]) hr (y :: p.reverse) (by simp)
  simp only at this
  rw [if_neg (by omega), if_neg (by omega)] at this; exact this

theorem split_at (c : α → α → Int) (x : α) : ∀ t : List α, ∃ p r, t.reverse = p ++ r ∧ (∀ y ∈ r, c y x > 0) ∧ (p = [] ∨ ∃ q y, p = q ++ [y] ∧ c y x ≤ 0)
  | [] => ⟨[], [], rfl, (fun _ h => by cases h), .inl rfl⟩
  | y :: t => by
    by_cases h : c y x ≤ 0
    · exact ⟨t.reverse ++ [y], [], by simp, (fun _ h => by cases h), .inr ⟨_, _, rfl, h⟩⟩
    · obtain ⟨p, r, h1, h2, h3⟩ := split_at c x t
      refine ⟨p, r ++ [y], by simp [h1], fun z hz => ?_, h3⟩
      rcases List.mem_append.1 hz with hz | hz
      · exact h2 z hz
      · rw [List.mem_singleton.1 hz]; omega

theorem insC_split (c : α → α → Int) (x : α) (l : List α) : ∃ p r, l = p ++ r ∧ (∀ y ∈ r, c y x > 0) ∧ (p = [] ∨ ∃ q y, p = q ++ [y] ∧ c y x ≤ 0) := by
  obtain ⟨p, r, h1, h2⟩ := split_at c x l.reverse
  exact ⟨p, r, by simpa using h1, h2⟩

theorem insC_all (h : PreCmp c) (hz : ∀ {x y}, c x y = 0 → x = y) {l : List α} (x : α) (hl : Asc c l) : Asc c (insC c l x) ∧ (∀ z, z ∈ insC c l x ↔ z ∈ l ∨ z = x) ∧ (insC c l x).length ≤ l.length + 1 := by
  obtain ⟨p, r, rfl, hr, hp⟩ := insC_split c x l
  rcases hp with rfl | ⟨q, y, rfl, hy⟩
  · rw [List.nil_append, insC_nil hr]
    refine ⟨List.pairwise_cons.2 ⟨fun z hz => ?_, hl⟩, fun z => by simp [or_comm], by simp⟩
    have := hr z hz; have := h.neg z x; omega
  · by_cases h0 : c y x = 0
    · rw [insC_same hr h0]
      refine ⟨hl, fun z => ⟨.inl, fun hz' => ?_⟩, by simp⟩
      rcases hz' with hz' | rfl
      · exact hz'
      · rw [← hz h0]; simp
    · have hy' : c y x < 0 := by omega
      rw [insC_mid hr hy']
      refine ⟨?_, fun z => by simp; grind, by simp; omega⟩
      have hl' := hl
      unfold Asc at hl' ⊢
      rw [List.pairwise_append] at hl' ⊢
      refine ⟨hl'.1, List.pairwise_cons.2 ⟨fun z hz => ?_, hl'.2.1⟩, fun a ha b hb => ?_⟩
      · have := hr z hz; have := h.neg z x; omega
      · rcases List.mem_cons.1 hb with rfl | hb
        · rcases List.mem_append.1 ha with ha | ha
          · have := (List.pairwise_append.1 hl'.1).2.2 a ha y (by simp)
            exact h.lt this (by omega)
          · rw [List.mem_singleton.1 ha]; exact hy'
        · exact hl'.2.2 a ha b hb

theorem foldC_all (h : PreCmp c) (hz : ∀ {x y}, c x y = 0 → x = y) : ∀ (xs l : List α), Asc c l → Asc c (xs.foldl (insC c) l) ∧ (∀ z, z ∈ xs.foldl (insC c) l ↔ z ∈ l ∨ z ∈ xs) ∧ (xs.foldl (insC c) l).length ≤ l.length + xs.length
  | [], l, hl => ⟨hl, fun z => by simp, by simp⟩
  | x :: xs, l, hl => by
    obtain ⟨a1, a2, a3⟩ := insC_all h hz x hl
    obtain ⟨b1, b2, b3⟩ := foldC_all h hz xs _ a1
    refine ⟨b1, fun z => ?_, ?_⟩
    · rw [List.foldl_cons, b2, a2]; simp [or_assoc]
    · simp only [List.foldl_cons, List.length_cons]; omega

/-- A list without the elements that are as the one before. -/
def dd (c : α → α → Int) : α → List α → List α
  | _, [] => []
  | p, x :: r => if c x p = 0 then dd c x r else x :: dd c x r

theorem dd_all (h : PreCmp c) (hz : ∀ {x y}, c x y = 0 → x = y) : ∀ (r : List α) (p : α), (p :: r).Pairwise (fun a b => c a b ≤ 0) → Asc c (p :: dd c p r) ∧ (∀ z, z ∈ p :: dd c p r ↔ z ∈ p :: r)
  | [], p, _ => ⟨by simp [dd, Asc], fun z => by simp [dd]⟩
  | x :: r, p, hs => by
    obtain ⟨h1, h2⟩ := List.pairwise_cons.1 hs
    obtain ⟨a1, a2⟩ := dd_all h hz r x h2
    by_cases h0 : c x p = 0
    · have e := hz h0; subst e
      simp only [dd, h0, if_true]
      exact ⟨a1, fun z => by rw [a2]; simp⟩
    · simp only [dd, h0, if_false]
      refine ⟨List.pairwise_cons.2 ⟨fun z hz' => ?_, a1⟩, fun z => by rw [List.mem_cons, a2]; simp⟩
      have hx : c p x < 0 := by have := h1 x (by simp); have := h.neg x p; omega
      rcases List.mem_cons.1 hz' with rfl | hz'
      · exact hx
      · exact h.lt hx (by have := (List.pairwise_cons.1 a1).1 z hz'; omega)

/-- The sorted list, each once: what comes of inserting one by one. -/
theorem fold_sort (h : PreCmp c) (hz : ∀ {x y}, c x y = 0 → x = y) (l : List α) : l.foldl (insC c) [] = (match sortD c l with | [] => [] | y :: r => y :: dd c y r) := by
  obtain ⟨a1, a2, _⟩ := foldC_all h hz l [] List.Pairwise.nil
  have hp := sortD_perm c l
  have hs := sortD_sorted (h.total hz) l
  cases e : sortD c l with
  | nil => rw [e] at hp; rw [← hp.nil_eq]; rfl
  | cons y r =>
    rw [e] at hs hp
    obtain ⟨b1, b2⟩ := dd_all h hz r y hs
    refine asc_unique h a1 b1 fun z => ?_
    rw [a2, b2, hp.mem_iff]; simp
end

end Go.Proofs.Ytfeijnbommgigaa.Abs
