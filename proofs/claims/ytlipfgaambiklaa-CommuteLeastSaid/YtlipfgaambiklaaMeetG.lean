/- Over, Put, Independent. -/
import Derived.Test.YtlipfgaambiklaaMeetF
namespace Go.Proofs.Ytlipfgaambiklaa.Abs
open Go
set_option linter.unusedSimpArgs false

theorem indep_l17 (fuel : Nat) (A B : List Cell) (k : Int) : ∀ (n : Nat) (r p : List Cell), r.length < n → r.length + p.length ≤ 4294967296 →
    indep_f27_l17 fuel n (p ++ r) A B (p.length : Int) k = some (.val .bool (decide (k = 0))) := by
  intro n
  induction n with
  | zero => intro r p h; omega
  | succ n ih =>
    intro r p h hp
    cases r with
    | nil => rw [indep_f27_l17_eq, lt_end]; rfl
    | cons c r =>
      simp only [List.length_cons] at h hp
      rw [indep_f27_l17_eq, lt_mid, nn_len, as_mid, nx_len p c (by omega), ih r (p ++ [c]) (by omega) (by simp only [List.length_append, List.length_cons, List.length_nil]; omega)]
      rfl

theorem indep_l12 (fuel : Nat) (A B t1 : List Cell) (k : Int) : ∀ (n : Nat) (r p : List Cell), r.length < n → t1.length < fuel → t1.length ≤ 4294967296 → r.length + p.length ≤ 4294967296 →
    indep_f27_l12 fuel n t1 (p ++ r) A B (p.length : Int) k = some (.val .bool (decide (k = 0))) := by
  intro n
  induction n with
  | zero => intro r p h; omega
  | succ n ih =>
    intro r p h hf ht hp
    cases r with
    | nil =>
      rw [indep_f27_l12_eq, lt_end]
      exact indep_l17 fuel A B k fuel t1 [] hf (by simpa using ht)
    | cons c r =>
      simp only [List.length_cons] at h hp
      rw [indep_f27_l12_eq, lt_mid, nn_len, as_mid, nx_len p c (by omega), ih r (p ++ [c]) (by omega) hf ht (by simp only [List.length_append, List.length_cons, List.length_nil]; omega)]
      rfl

/-- How many registers two lists share, in step. -/
def meetN : Nat → List Cell → List Cell → Nat
  | 0, _, _ => 0
  | _ + 1, [], _ => 0
  | _ + 1, _ :: _, [] => 0
  | n + 1, x :: a, y :: b => if sameC x y = true then meetN n a b + 1 else if ltC x y = true then meetN n a (y :: b) else meetN n (x :: a) b

theorem indep_l1 (fuel : Nat) (A B : List Cell) : ∀ (n : Nat) (a b : List Cell) (k : Nat), a.length + b.length < n → a.length + b.length < fuel → a.length + b.length + k ≤ 4294967296 →
    indep_f27_l1 fuel n A B a b (k : Int) = some (.val .bool (decide (k + meetN n a b = 0))) := by
  intro n
  induction n with
  | zero => intro a b k h; omega
  | succ n ih =>
    intro a b k h hf hl
    have kk : decide ((k : Int) = 0) = decide (k = 0) := by
      by_cases e : k = 0
      · simp [e]
      · simp [e]
    cases a with
    | nil =>
      rw [indep_f27_l1_eq, pos_nil]
      have := indep_l12 fuel A B b (k : Int) fuel [] [] (by simp; omega) (by simp at hf; omega) (by simp at hl; omega) (by simp)
      rw [kk] at this
      exact this
    | cons x a => cases b with
      | nil =>
        have px : decide (((x :: a).length : Int) > 0) = true := decide_eq_true (of_eq_true (pos_len x a))
        rw [indep_f27_l1_eq, pos_nil, px]
        have := indep_l12 fuel A B [] (k : Int) fuel (x :: a) [] (by simpa using hf) (by simp; omega) (by simp) (by simp at hl ⊢; omega)
        rw [kk] at this
        exact this
      | cons y b =>
        simp only [List.length_cons] at h hf hl
        have n1 := ih a b (k + 1) (by omega) (by omega) (by omega)
        have n2 := ih a (y :: b) k (by simp; omega) (by simp; omega) (by simp; omega)
        have n3 := ih (x :: a) b k (by simp; omega) (by simp; omega) (by simp; omega)
        have ek : w64 ((k : Int) + 1) = ((k + 1 : Nat) : Int) := by rw [w64_id (by omega) (by omega)]; omega
        have dx := drop_one x a
        have dy := drop_one y b
        have ix0 : ix tCell (x :: a) 0 = x := rfl
        have iy0 : ix tCell (y :: b) 0 = y := rfl
        have px : decide (((x :: a).length : Int) > 0) = true := decide_eq_true (of_eq_true (pos_len x a))
        have py : decide (((y :: b).length : Int) > 0) = true := decide_eq_true (of_eq_true (pos_len y b))
        have qx : decide (0 < ((x :: a).length : Int)) = true := px
        have qy : decide (0 < ((y :: b).length : Int)) = true := py
        have ox : decide (1 ≤ ((x :: a).length : Int)) = true := decide_eq_true (of_eq_true (one_len x a))
        have oy : decide (1 ≤ ((y :: b).length : Int)) = true := decide_eq_true (of_eq_true (one_len y b))
        rw [indep_f27_l1_eq, px, py, ix0, iy0, ox, oy]
        try rw [qx]
        try rw [qy]
        rw [dx, dy, ek, n1, n2, n3]
        simp only [zz, zo, decide_true, cond_true, Bool.and_self, ofR_same, before_eq]
        rw [meetN]
        cases hs : sameC x y
        · cases hl' : ltC x y
          · rfl
          · rfl
        · simp only [cond_true, if_true]
          rw [show k + 1 + meetN n a b = k + (meetN n a b + 1) from by omega]

theorem meetN_eq : ∀ (n : Nat) (a b : List Cell), a.length + b.length < n → Asc a → Asc b → decide (meetN n a b = 0) = !a.any (shared b) := by
  intro n
  induction n with
  | zero => intro a b h; omega
  | succ n ih =>
    intro a b h ha hb
    cases a with
    | nil => rfl
    | cons x a => cases b with
      | nil =>
        have : (x :: a).any (shared []) = false := by
          rw [List.any_eq_false]; intro z _; exact Bool.false_ne_true
        rw [this]; rfl
      | cons y b =>
        simp only [List.length_cons] at h
        have ha' := List.pairwise_cons.1 ha
        have hb' := List.pairwise_cons.1 hb
        rw [meetN]
        cases hs : sameC x y
        · cases hl : ltC x y
          · have g := tri_gt hs hl
            rw [if_neg (by decide), if_neg (by decide), ih (x :: a) b (by simp only [List.length_cons]; omega) ha hb'.2]
            have e : ∀ z ∈ x :: a, shared (y :: b) z = shared b z := fun z hz => by
              have : ltC y z = true := by
                rcases List.mem_cons.1 hz with rfl | hz
                · exact g
                · exact ltC_trans g (ha'.1 z hz)
              rw [shared_cons, ltC_ne this]; rfl
            have e2 : (x :: a).any (shared (y :: b)) = (x :: a).any (shared b) := by
              rw [Bool.eq_iff_iff, List.any_eq_true, List.any_eq_true]
              exact ⟨fun ⟨z, hz, k⟩ => ⟨z, hz, by rw [← e z hz]; exact k⟩, fun ⟨z, hz, k⟩ => ⟨z, hz, by rw [e z hz]; exact k⟩⟩
            rw [e2]
          · rw [if_neg (by decide), if_pos rfl, ih a (y :: b) (by simp only [List.length_cons]; omega) ha'.2 hb]
            have e : shared (y :: b) x = false := shared_before (fun c hc => by
              rcases List.mem_cons.1 hc with rfl | hc
              · exact hl
              · exact ltC_trans hl (hb'.1 c hc))
            rw [List.any_cons, e]; rfl
        · rw [if_pos rfl]
          have e : shared (y :: b) x = true := by rw [shared_cons, sameC_symm, hs]; rfl
          rw [List.any_cons, e]; simp

theorem indep_meets (a b : List Cell) (h : twoG a b = true) : ∃ fuel, indep_run fuel a b = some (.val .bool (indepF a b)) := by
  have hl := (twoG_iff a b).1 h
  have ha : lenG a = true := (lenG_iff a).2 (by omega)
  have hb : lenG b = true := (lenG_iff b).2 (by omega)
  refine ⟨a.length + b.length + 1, ?_⟩
  have := indep_l1 (a.length + b.length + 1) a b (a.length + b.length + 1) a b 0 (by omega) (by omega) (by omega)
  rw [indep_eq, ha, hb, indepF, twoW]
  cases h1 : writesF a <;> cases h2 : writesF b <;> simp [impl_eq]
  refine this.trans ?_
  rw [Nat.zero_add, meetN_eq _ _ _ (by omega) (writes_asc h1) (writes_asc h2)]
end Go.Proofs.Ytlipfgaambiklaa.Abs
