/- The order of registers, and ascending lists. -/
import Derived.Test.YtlipfgaambiklaaMeetC
namespace Go.Proofs.Ytlipfgaambiklaa.Abs
open Go
set_option linter.unusedSimpArgs false

theorem ltC_iff (a b : Cell) : ltC a b = true ↔ (a.1 < b.1 ∨ (a.1 = b.1 ∧ a.2.1 < b.2.1)) := by
  unfold ltC; rw [Bool.or_eq_true_iff, Bool.and_eq_true_iff, decide_eq_true_iff, decide_eq_true_iff, decide_eq_true_iff]
theorem sameC_iff (a b : Cell) : sameC a b = true ↔ (a.1 = b.1 ∧ a.2.1 = b.2.1) := by
  unfold sameC; rw [Bool.and_eq_true_iff, decide_eq_true_iff, decide_eq_true_iff]

theorem lt_trans4 {x y z u v t : Int} (h : x < y ∨ (x = y ∧ u < v)) (g : y < z ∨ (y = z ∧ v < t)) : x < z ∨ (x = z ∧ u < t) := by omega
theorem lt_or4 (x y u v : Int) : (x < y ∨ (x = y ∧ u < v)) ∨ (x = y ∧ u = v) ∨ (y < x ∨ (y = x ∧ v < u)) := by omega
theorem lt_asym4 {x y u v : Int} (h : x < y ∨ (x = y ∧ u < v)) : ¬ (x = y ∧ u = v) ∧ ¬ (y < x ∨ (y = x ∧ v < u)) := by omega

theorem ltC_trans {a b c : Cell} (h : ltC a b = true) (g : ltC b c = true) : ltC a c = true :=
  (ltC_iff a c).2 (lt_trans4 ((ltC_iff a b).1 h) ((ltC_iff b c).1 g))
theorem ltC_tri (a b : Cell) : ltC a b = true ∨ sameC a b = true ∨ ltC b a = true := by
  rw [ltC_iff, ltC_iff, sameC_iff]; exact lt_or4 a.1 b.1 a.2.1 b.2.1
theorem ltC_ne {a b : Cell} (h : ltC a b = true) : sameC a b = false := by
  cases e : sameC a b
  · rfl
  · exact absurd ((sameC_iff a b).1 e) (lt_asym4 ((ltC_iff a b).1 h)).1
theorem ltC_asym {a b : Cell} (h : ltC a b = true) : ltC b a = false := by
  cases e : ltC b a
  · rfl
  · exact absurd ((ltC_iff b a).1 e) (lt_asym4 ((ltC_iff a b).1 h)).2
theorem sameC_symm (a b : Cell) : sameC a b = sameC b a := by
  rw [Bool.eq_iff_iff, sameC_iff, sameC_iff]; exact ⟨fun h => ⟨h.1.symm, h.2.symm⟩, fun h => ⟨h.1.symm, h.2.symm⟩⟩
theorem sameC_self (a : Cell) : sameC a a = true := (sameC_iff a a).2 ⟨rfl, rfl⟩
theorem sameC_trans {a b c : Cell} (h : sameC a b = true) (g : sameC b c = true) : sameC a c = true :=
  (sameC_iff a c).2 ⟨((sameC_iff a b).1 h).1.trans ((sameC_iff b c).1 g).1, ((sameC_iff a b).1 h).2.trans ((sameC_iff b c).1 g).2⟩
theorem ltC_same_left {a b c : Cell} (h : sameC a b = true) : ltC a c = ltC b c := by
  have := (sameC_iff a b).1 h
  unfold ltC; rw [this.1, this.2]
theorem ltC_same_right {a b c : Cell} (h : sameC a b = true) : ltC c a = ltC c b := by
  have := (sameC_iff a b).1 h
  unfold ltC; rw [this.1, this.2]
theorem sameC_same_left {a b c : Cell} (h : sameC a b = true) : sameC a c = sameC b c := by
  have := (sameC_iff a b).1 h
  unfold sameC; rw [this.1, this.2]

/-- Ascending lists. -/
abbrev Asc (l : List Cell) : Prop := l.Pairwise (fun a b => ltC a b = true)

def aft (p : Option Cell) (c : Cell) : Bool := match p with | none => true | some q => ltC q c
theorem wr_cons (p : Option Cell) (c : Cell) (r : List Cell) : wr p (c :: r) = (okC c && aft p c && wr (some c) r) := by cases p <;> rfl

theorem wr_asc : ∀ (l : List Cell) (p : Option Cell), wr p l = true → Asc l ∧ (∀ c ∈ l, okC c = true) ∧ (∀ q, p = some q → ∀ c ∈ l, ltC q c = true)
  | [], p, _ => ⟨List.Pairwise.nil, fun _ h => by simp at h, fun _ _ _ h => by simp at h⟩
  | c :: r, p, h => by
    rw [wr_cons, Bool.and_eq_true_iff, Bool.and_eq_true_iff] at h
    obtain ⟨⟨h1, h2⟩, h3⟩ := h
    obtain ⟨k1, k2, k3⟩ := wr_asc r (some c) h3
    have k4 := k3 c rfl
    refine ⟨List.Pairwise.cons k4 k1, ?_, ?_⟩
    · intro x hx
      rcases List.mem_cons.1 hx with rfl | hx
      · exact h1
      · exact k2 x hx
    · intro q hq x hx
      subst hq
      rcases List.mem_cons.1 hx with rfl | hx
      · exact h2
      · exact ltC_trans h2 (k4 x hx)

theorem asc_wr : ∀ (l : List Cell) (p : Option Cell), Asc l → (∀ c ∈ l, okC c = true) → (∀ q, p = some q → ∀ c ∈ l, ltC q c = true) → wr p l = true
  | [], p, _, _, _ => by cases p <;> rfl
  | c :: r, p, h, ho, hp => by
    rw [wr_cons, Bool.and_eq_true_iff, Bool.and_eq_true_iff]
    have hc := List.pairwise_cons.1 h
    refine ⟨⟨ho c (by simp), ?_⟩, asc_wr r (some c) hc.2 (fun x hx => ho x (by simp [hx])) (fun q hq x hx => by cases hq; exact hc.1 x hx)⟩
    cases p with
    | none => rfl
    | some q => exact hp q rfl c (by simp)

theorem writes_iff (l : List Cell) : writesF l = true ↔ Asc l ∧ ∀ c ∈ l, okC c = true :=
  ⟨fun h => ⟨(wr_asc l none h).1, (wr_asc l none h).2.1⟩, fun h => asc_wr l none h.1 h.2 (fun _ hq => by cases hq)⟩
end Go.Proofs.Ytlipfgaambiklaa.Abs
