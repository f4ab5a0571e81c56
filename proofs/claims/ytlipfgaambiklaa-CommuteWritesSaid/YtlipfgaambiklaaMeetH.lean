/- Over, Put. -/
import Derived.Test.YtlipfgaambiklaaMeetG
namespace Go.Proofs.Ytlipfgaambiklaa.Abs
open Go
set_option linter.unusedSimpArgs false

theorem overF_fuel : ∀ (n m : Nat) (a b : List Cell), a.length + b.length < n → a.length + b.length < m → overF n a b = overF m a b := by
  intro n
  induction n with
  | zero => intro m a b h; omega
  | succ n ih =>
    intro m a b h g
    cases m with
    | zero => omega
    | succ m => cases a with
      | nil => rfl
      | cons x a => cases b with
        | nil => rfl
        | cons y b =>
          simp only [List.length_cons] at h g
          rw [overF, overF, ih m a b (by omega) (by omega), ih m a (y :: b) (by simp only [List.length_cons]; omega) (by simp only [List.length_cons]; omega), ih m (x :: a) b (by simp only [List.length_cons]; omega) (by simp only [List.length_cons]; omega)]

theorem over_nil_left (b : List Cell) : over [] b = b := rfl
theorem over_nil_right (a : List Cell) : over a [] = a := overF_nil _ a (by simp)
theorem over_cons (x : Cell) (a : List Cell) (y : Cell) (b : List Cell) : over (x :: a) (y :: b) =
    if ltC x y then x :: over a (y :: b) else if sameC x y then y :: over a b else y :: over (x :: a) b := by
  show overF ((x :: a).length + (y :: b).length + 1) (x :: a) (y :: b) = _
  rw [overF]
  unfold over
  rw [overF_fuel _ (a.length + (y :: b).length + 1) a (y :: b) (by first | omega | (simp only [List.length_cons]; omega)) (by first | omega | (simp only [List.length_cons]; omega)),
    overF_fuel _ (a.length + b.length + 1) a b (by first | omega | (simp only [List.length_cons]; omega)) (by first | omega | (simp only [List.length_cons]; omega)),
    overF_fuel _ ((x :: a).length + b.length + 1) (x :: a) b (by first | omega | (simp only [List.length_cons]; omega)) (by first | omega | (simp only [List.length_cons]; omega))]

theorem over_behind {a : List Cell} {y : Cell} (b : List Cell) (h : ∀ c ∈ a, ltC y c = true) : over a (y :: b) = y :: over a b := by
  cases a with
  | nil => rfl
  | cons x a =>
    have g := h x (by simp)
    rw [over_cons, ltC_asym g, sameC_symm, ltC_ne g]; rfl

theorem over_len : ∀ (n : Nat) (a b : List Cell), (overF n a b).length ≤ a.length + b.length := by
  intro n
  induction n with
  | zero => intro a b; simp [overF]
  | succ n ih =>
    intro a b
    cases a with
    | nil => simp [overF]
    | cons x a => cases b with
      | nil => simp [overF]
      | cons y b =>
        rw [overF]
        have h1 := ih a (y :: b)
        have h2 := ih a b
        have h3 := ih (x :: a) b
        simp only [List.length_cons] at h1 h2 h3 ⊢
        split
        · simp only [List.length_cons]; omega
        · split <;> (simp only [List.length_cons]; omega)

theorem rOver_loop (fuel : Nat) : ∀ (n : Nat) (a b p q out : List Cell), a.length + b.length < n → Asc a → p.length + a.length ≤ 4294967296 → q.length + b.length ≤ 4294967296 → out.length + a.length + b.length ≤ 4294967296 →
    rOver_l3 fuel n (p ++ a) (q ++ b) out (p.length : Int) (q.length : Int) = some (.val (.slice tCell) (out ++ over a b)) := by
  intro n
  induction n with
  | zero => intro a b p q out h; omega
  | succ n ih =>
    intro a b p q out h ha hp hq hl
    have fa : ∀ x a', a = x :: a' → ∀ out' : List Cell, out'.length ≤ out.length + 1 → rOver_l3 fuel n (p ++ x :: a') (q ++ b) out' (w64 ((p.length : Int) + 1)) (q.length : Int) = some (.val (.slice tCell) (out' ++ over a' b)) := by
      intro x a' e out' ho
      subst e
      simp only [List.length_cons] at h hp hl
      rw [as_mid, nx_len p x (by omega)]
      exact ih a' b (p ++ [x]) q out' (by omega) (List.pairwise_cons.1 ha).2 (by simp only [List.length_append, List.length_cons, List.length_nil]; omega) hq (by omega)
    have fb : ∀ y b', b = y :: b' → ∀ out' : List Cell, out'.length ≤ out.length + 1 → rOver_l3 fuel n (p ++ a) (q ++ y :: b') out' (p.length : Int) (w64 ((q.length : Int) + 1)) = some (.val (.slice tCell) (out' ++ over a b')) := by
      intro y b' e out' ho
      subst e
      simp only [List.length_cons] at h hq hl
      rw [as_mid q y b', nx_len q y (by omega)]
      exact ih a b' p (q ++ [y]) out' (by omega) ha hp (by simp only [List.length_append, List.length_cons, List.length_nil]; omega) (by omega)
    rw [rOver_l3_eq]
    cases b with
    | nil =>
      have eq1 : decide ((q.length : Int) = (((q ++ []) : List Cell).length : Int)) = true := decide_eq_true (by simp)
      cases a with
      | nil => rw [lt_end, lt_end, over_nil_left]; simp
      | cons x a =>
        have n1 := fa x a rfl (out ++ [x]) (by simp)
        simp only [List.length_cons] at hl
        rw [lt_mid, eq1, nn_len, ix_mid, decide_eq_true (of_eq_true (room out x (by omega))), n1, over_nil_right, over_nil_right]
        simp [impl_eq]
    | cons y b =>
      have eq1 : decide ((q.length : Int) = (((q ++ y :: b) : List Cell).length : Int)) = false := decide_eq_false (by simp only [List.length_append, List.length_cons]; omega)
      simp only [List.length_cons] at hl
      have n2 := fb y b rfl (out ++ [y]) (by simp)
      cases a with
      | nil =>
        rw [lt_end, lt_mid q y b, eq1, nn_len q, ix_mid q y b, decide_eq_true (of_eq_true (room out y (by omega))), n2, over_nil_left, over_nil_left]
        simp [impl_eq]
      | cons x a =>
        simp only [List.length_cons] at hl
        have n1 := fa x a rfl (out ++ [x]) (by simp)
        have n3 := fa x a rfl out (by omega)
        rw [lt_mid p x a, lt_mid q y b, eq1, nn_len p, nn_len q, ix_mid p x a, ix_mid q y b, aheadF_eq, registerF_eq, decide_eq_true (of_eq_true (room out y (by omega))), decide_eq_true (of_eq_true (room out x (by omega))), n1, n2, n3, over_cons]
        simp only [cond_true, Bool.and_self, impl_eq, Bool.or_true, cond_false]
        cases hlt : ltC x y
        · cases hs : sameC x y
          · simp
          · have e : over a (y :: b) = y :: over a b := over_behind b (fun c hc => by
              rw [← ltC_same_left hs]; exact (List.pairwise_cons.1 ha).1 c hc)
            simp [e]
        · simp

theorem rOver_meets (a b : List Cell) (h : overG a b = true) : ∃ fuel, rOver_run fuel a b = some (.val (.slice tCell) (over a b)) := by
  have h' := Bool.and_eq_true_iff.1 h
  have hw := Bool.and_eq_true_iff.1 h'.1
  have hl := (twoG_iff a b).1 h'.2
  refine ⟨a.length + b.length + 1, ?_⟩
  rw [rOver_eq]
  exact rOver_loop _ (a.length + b.length + 1) a b [] [] [] (by omega) (writes_asc hw.1) (by simp; omega) (by simp; omega) (by simp; omega)

theorem rCompose_meets (a b : List Cell) (h : twoG a b = true) : ∃ fuel, rCompose_run fuel a b = some (.val (.slice tCell) (composeF a b)) := by
  have hl := (twoG_iff a b).1 h
  have ha : lenG a = true := (lenG_iff a).2 (by omega)
  have hb : lenG b = true := (lenG_iff b).2 (by omega)
  refine ⟨0, ?_⟩
  rw [rCompose_eq, ha, hb, composeF, twoW]
  cases h1 : writesF a <;> cases h2 : writesF b <;> simp [impl_eq, overG, h1, h2, h]

theorem rIndep_meets (a b : List Cell) (h : twoG a b = true) : ∃ fuel, rIndep_run fuel a b = some (.val .bool (indepF a b)) := by
  have hl := (twoG_iff a b).1 h
  have ha : lenG a = true := (lenG_iff a).2 (by omega)
  have hb : lenG b = true := (lenG_iff b).2 (by omega)
  refine ⟨0, ?_⟩
  have e : twoW a b = true → decide (((restF a b).length : Int) = (a.length : Int)) = !a.any (shared b) := by
    intro hw
    rw [restF, hw, if_pos rfl, Bool.eq_iff_iff, decide_eq_true_iff]
    constructor
    · intro g
      have g' : (a.filter (fun x => !shared b x)).length = a.length := by omega
      rw [List.length_filter_eq_length_iff] at g'
      rw [Bool.not_eq_true', List.any_eq_false]
      intro x hx k
      have := g' x hx
      rw [k] at this; exact absurd this (by decide)
    · intro g
      rw [Bool.not_eq_true', List.any_eq_false] at g
      have : (a.filter (fun x => !shared b x)).length = a.length := by
        rw [List.length_filter_eq_length_iff]
        intro x hx
        have := g x hx
        cases k : shared b x
        · rfl
        · exact absurd k this
      omega
  rw [rIndep_eq, ha, hb, h]
  rw [indepF]
  unfold twoW at e ⊢
  cases h1 : writesF a <;> cases h2 : writesF b <;> simp only [h1, h2, Bool.and_self, Bool.and_true, Bool.and_false, Bool.true_and, Bool.false_and, cond_true, cond_false, impl_true] at e ⊢
  rw [e trivial]

theorem filter_nz {a : List Cell} (h : ∀ c ∈ a, nz c = true) : a.filter nz = a := List.filter_eq_self.2 h

theorem put_step (fuel n5 : Nat) (y : Cell) (b p : List Cell)
    (ih : ∀ (a out : List Cell), (∀ c ∈ a, nz c = true) → a.length < fuel → out.length + a.length + b.length ≤ 4294967296 →
      put_l5 fuel n5 (p ++ y :: b) a out (w64 ((p.length : Int) + 1)) = some (.val (.slice tCell) (out ++ (over a b).filter nz))) :
    ∀ (a out : List Cell), (∀ c ∈ a, nz c = true) → a.length < fuel → out.length + a.length + b.length + 1 ≤ 4294967296 →
      put_j12 fuel n5 out (p ++ y :: b) (p.length : Int) a = some (.val (.slice tCell) (out ++ (y :: over a b).filter nz)) := by
  intro a out ha hf hl
  rw [put_j12_eq, put_j14_eq, put_j14_eq, ix_mid, ih a out ha hf (by omega), decide_eq_true (of_eq_true (room out y (by omega))), ih a (out ++ [y]) ha hf (by simp only [List.length_append, List.length_cons, List.length_nil]; omega), List.filter_cons]
  show (bif nz y then _ else _) = _
  cases nz y <;> simp

theorem put_inner (fuel n5 : Nat) (y : Cell) (b p : List Cell)
    (ih : ∀ (a out : List Cell), (∀ c ∈ a, nz c = true) → a.length < fuel → out.length + a.length + b.length ≤ 4294967296 →
      put_l5 fuel n5 (p ++ y :: b) a out (w64 ((p.length : Int) + 1)) = some (.val (.slice tCell) (out ++ (over a b).filter nz))) :
    ∀ (n : Nat) (a out : List Cell), a.length < n → (∀ c ∈ a, nz c = true) → a.length < fuel → out.length + a.length + b.length + 1 ≤ 4294967296 →
      put_l7 fuel n5 n (p ++ y :: b) (p.length : Int) a out = some (.val (.slice tCell) (out ++ (over a (y :: b)).filter nz)) := by
  intro n
  induction n with
  | zero => intro a out h; omega
  | succ n ihn =>
    intro a out h ha hf hl
    rw [put_l7_eq]
    cases a with
    | nil =>
      rw [pos_nil, put_step fuel n5 y b p ih [] out ha hf hl, over_nil_left, over_nil_left]
      simp [impl_eq]
    | cons x a =>
      simp only [List.length_cons] at h hf hl
      have ha' : ∀ c ∈ a, nz c = true := fun c hc => ha c (by simp [hc])
      have dx := drop_one x a
      have ix0 : ix tCell (x :: a) 0 = x := rfl
      have px : decide (((x :: a).length : Int) > 0) = true := decide_eq_true (of_eq_true (pos_len x a))
      have qx : decide (0 < ((x :: a).length : Int)) = true := px
      have ox : decide (1 ≤ ((x :: a).length : Int)) = true := decide_eq_true (of_eq_true (one_len x a))
      rw [px, ix0, ix_mid, dx, ox, compare_lt, compare_eq0, decide_eq_true (of_eq_true (room out x (by omega))),
        put_step fuel n5 y b p ih a out ha' (by omega) (by omega), put_step fuel n5 y b p ih (x :: a) out ha (by simp only [List.length_cons]; omega) (by simp only [List.length_cons]; omega),
        ihn a (out ++ [x]) (by omega) ha' (by omega) (by simp only [List.length_append, List.length_cons, List.length_nil]; omega), over_cons]
      try rw [qx]
      simp only [zz, zo, decide_true, cond_true, Bool.and_self, impl_eq, Bool.or_true]
      cases hlt : ltC x y
      · cases hs : sameC x y
        · simp
        · simp
      · simp [ha x (by simp)]

theorem put_loop (fuel : Nat) : ∀ (n : Nat) (b p a out : List Cell), b.length < n → p.length + b.length ≤ 4294967296 → (∀ c ∈ a, nz c = true) → a.length < fuel → out.length + a.length + b.length ≤ 4294967296 →
    put_l5 fuel n (p ++ b) a out (p.length : Int) = some (.val (.slice tCell) (out ++ (over a b).filter nz)) := by
  intro n
  induction n with
  | zero => intro b p a out h; omega
  | succ n ih =>
    intro b p a out h hp ha hf hl
    rw [put_l5_eq]
    cases b with
    | nil =>
      have : decide (List.length out + List.length a ≤ LIM) = true := decide_eq_true (by show out.length + a.length ≤ 4294967296; simp at hl; omega)
      rw [lt_end, this, over_nil_right, filter_nz ha]; rfl
    | cons y b =>
      simp only [List.length_cons] at h hp hl
      have next : ∀ (a out : List Cell), (∀ c ∈ a, nz c = true) → a.length < fuel → out.length + a.length + b.length ≤ 4294967296 →
          put_l5 fuel n (p ++ y :: b) a out (w64 ((p.length : Int) + 1)) = some (.val (.slice tCell) (out ++ (over a b).filter nz)) := by
        intro a' out' h1 h2 h3
        rw [as_mid, nx_len p y (by omega)]
        exact ih b (p ++ [y]) a' out' (by omega) (by simp only [List.length_append, List.length_cons, List.length_nil]; omega) h1 h2 h3
      rw [lt_mid, nn_len, put_inner fuel n y b p next fuel a out hf ha hf (by omega)]
      rfl

theorem put_meets (l w : List Cell) (h : putG l w = true) : ∃ fuel, put_run fuel l w = some (.val (.slice tCell) (putF l w)) := by
  have hl : l.length + w.length ≤ 4294967296 := of_decide_eq_true h
  have ha : lenG l = true := (lenG_iff l).2 (by omega)
  have hb : lenG w = true := (lenG_iff w).2 (by omega)
  refine ⟨l.length + w.length + 1, ?_⟩
  have nzs : validF l = true → ∀ c ∈ l, nz c = true := fun hv => List.all_eq_true.1 (Bool.and_eq_true_iff.1 hv).1
  have := fun hv => put_loop (l.length + w.length + 1) (l.length + w.length + 1) w [] l [] (by omega) (by simp; omega) (nzs hv) (by omega) (by simp; omega)
  rw [put_eq, ha, hb, putF]
  cases h1 : validF l <;> cases h2 : writesF w <;> simp [impl_eq]
  exact this h1
end Go.Proofs.Ytlipfgaambiklaa.Abs
