/- The reference's functions: one by one into an ascending list. -/
import Derived.Test.YtfeijnbommgigaaMeetR2
namespace Go.Proofs.Ytfeijnbommgigaa.Abs
open Go

theorem snoc_cases {α : Type} (l : List α) : l = [] ∨ ∃ q y, l = q ++ [y] := by
  rcases List.eq_nil_or_concat l with h | ⟨q, y, h⟩
  · exact .inl h
  · exact .inr ⟨q, y, by simpa using h⟩

theorem last_at {α : Type} (q r : List α) (y z : α) : (q ++ [y] ++ r).getD q.length z = y := by simp

theorem fromX_l6_loop (fuel n3 : Nat) (l : List Alt) (i : Int) (v : Val) (hv : (ix tAlt l i).2.1 = v) (hi : decide (0 ≤ i) = true) (hi' : decide (i < (l.length : Int)) = true) : ∀ (n : Nat) (p r : List Val), p.length < n → (p ++ r).length < 4294967296 → (∀ y ∈ r, rCmpF y v > 0) →
    fromX_l6 fuel n3 n l i (p ++ r).length (p.length : Int) (p ++ r) = fromX_l3 fuel n3 l (insC rCmpF (p ++ r) v).length (w64 (i + 1)) (insC rCmpF (p ++ r) v) := by
  intro n
  induction n with
  | zero => intro p r h; omega
  | succ n ih =>
    intro p r h hl hr
    rcases snoc_cases p with rfl | ⟨q, y, rfl⟩
    · rw [List.nil_append] at hl ⊢
      rw [fromX_l6_eq, hv, hi, hi', df (p := (([] : List Val).length : Int) > 0) (by simp), dt (p := (0 : Int) ≤ (([] : List Val).length : Int)) (by simp), dt (p := (([] : List Val).length : Int) ≤ _) (by simp)]
      rw [dt (p := ([] : List Val).length + _ ≤ LIM) (by simp only [List.length_nil, List.length_drop, List.length_take]; unfold LIM; omega), dt (p := Int.toNat (([] : List Val).length : Int) + ([v] : List Val).length ≤ LIM) (by unfold LIM; simp),
        dt (p := Int.toNat (([] : List Val).length : Int) + ([v] : List Val).length + _ ≤ LIM) (by simp only [List.length_nil, List.length_drop, List.length_take, List.length_append, List.length_cons]; unfold LIM; simp; omega), fromX_j4_eq, insC_nil hr]
      simp [impl_eq]; congr 1; omega
    · have hqy : (q ++ [y]).length = q.length + 1 := by simp
      have hlen : (q ++ [y] ++ r).length = q.length + 1 + r.length := by rw [List.length_append, hqy]
      have hl' : q.length + 1 + r.length < 4294967296 := by omega
      have e1 : w64 (((q ++ [y]).length : Int) - 1) = (q.length : Int) := by rw [w64_id (by omega) (by omega)]; omega
      have next := ih q (y :: r)
      rw [fromX_l6_eq, hv, hi, hi', e1, Int.toNat_natCast, last_at, eqV_cmp]
      rw [dt (p := ((q ++ [y]).length : Int) > 0) (by omega), dt (p := (0 : Int) ≤ (q.length : Int)) (by omega), dt (p := (q.length : Int) < _) (by omega)]
      simp only [impl_eq, Bool.and_self, Bool.not_true, Bool.or_true, cond_true]
      by_cases h1 : rCmpF y v > 0
      · rw [dt h1, cond_true]
        have := next (by simp at h; omega) (by simp; omega) (fun z hz => by
          rcases List.mem_cons.1 hz with rfl | hz
          · exact h1
          · exact hr z hz)
        rw [as_mid] at this
        exact this
      · rw [df h1, cond_false]
        by_cases h2 : rCmpF y v = 0
        · rw [dt h2, cond_true, fromX_j4_eq, insC_same hr h2]
        · rw [df h2, cond_false, insC_mid hr (by omega), fromX_j4_eq]
          rw [dt (p := (0 : Int) ≤ ((q ++ [y]).length : Int)) (by omega), dt (p := ((q ++ [y]).length : Int) ≤ _) (by omega), Int.toNat_natCast]
          rw [dt (p := ([] : List Val).length + _ ≤ LIM) (by simp only [List.length_nil, List.length_drop, List.length_take]; unfold LIM; omega), dt (p := (q ++ [y]).length + ([v] : List Val).length ≤ LIM) (by simp; unfold LIM; omega),
            dt (p := (q ++ [y]).length + ([v] : List Val).length + _ ≤ LIM) (by simp only [List.length_nil, List.length_drop, List.length_take, List.length_append, List.length_cons]; unfold LIM; omega)]
          simp only [cond_true, Bool.and_self, List.take_length, List.drop_left, List.take_left, List.nil_append]
          rw [show (q ++ [y]).length + ([v] : List Val).length = ((q ++ [y]) ++ [v]).length by simp, List.take_length]
          simp only [List.append_assoc, List.cons_append, List.nil_append, List.length_append, List.length_cons, List.length_nil]
          rw [show q.length + (0 + 1 + (0 + 1)) + r.length = q.length + (r.length + 1 + 1) by omega]

theorem fromX_loop (fuel : Nat) (l : List Alt) (hf : l.length < fuel) (hl : l.length ≤ 1048576) : ∀ (n : Nat) (r p : List Alt), r.length < n → l = p ++ r →
    fromX_l3 fuel n l (valuesF p).length (p.length : Int) (valuesF p) = some (.val (.slice tVal) (valuesF l)) := by
  intro n
  induction n with
  | zero => intro r p h; omega
  | succ n ih =>
    intro r p h hp
    have hpl : p.length + r.length = l.length := by rw [hp]; simp
    cases r with
    | nil =>
      have hp : l = p := by simpa using hp
      subst hp
      rw [fromX_l3_eq, df (p := (l.length : Int) < _) (by omega)]
      simp
    | cons c r =>
      simp only [List.length_cons] at hpl h
      have next := ih r (p ++ [c]) (by omega) (by simp [hp])
      have hlen : (valuesF p).length ≤ p.length := by
        have := (foldC_all rCmp_pre rCmp_zero (p.map (fun a : Alt => a.2.1)) [] List.Pairwise.nil).2.2
        rw [List.foldl_map] at this; simpa [valuesF] using this
      have six := fromX_l6_loop fuel n l (p.length : Int) c.2.1 (by rw [hp, ix_mid]) (nn_len p) (by rw [hp, lt_mid]) fuel (valuesF p) [] (by omega) (by simp; omega) (fun _ h => by cases h)
      rw [List.append_nil] at six
      rw [fromX_l3_eq, dt (p := (p.length : Int) < _) (by omega), cond_true, six, ← next, nx_len p c (by omega)]
      have : valuesF (p ++ [c]) = insC rCmpF (valuesF p) c.2.1 := by simp [valuesF]
      rw [this]

theorem fromX_meets (l : List Alt) (h : lenA l = true) : ∃ fuel, fromX_run fuel l = some (.val (.slice tVal) (valuesF l)) :=
  ⟨l.length + 1, by rw [fromX_eq]; exact fromX_loop (l.length + 1) l (by omega) (of_decide_eq_true h) (l.length + 1) l [] (by omega) rfl⟩

theorem ix_last {t : Ty} (q r : List t.den) (y : t.den) : ix t (q ++ [y] ++ r) (q.length : Int) = y := by simp [ix]

theorem insX_loop (fuel : Nat) (x : Rec) (hx : recOk x = true) : ∀ (n : Nat) (p r : List Rec), p.length < n → (p ++ r).length < 4294967296 → (∀ y ∈ p, recOk y = true) → (∀ y ∈ r, cmpRF y x > 0) →
    insX_l2 fuel n (p ++ r) x (p.length : Int) = some (.val (.slice tRecord) (insC cmpRF (p ++ r) x)) := by
  intro n
  induction n with
  | zero => intro p r h; omega
  | succ n ih =>
    intro p r h hl hok hr
    rcases snoc_cases p with rfl | ⟨q, y, rfl⟩
    · rw [List.nil_append] at hl ⊢
      rw [insX_l2_eq, df (p := (([] : List Rec).length : Int) > 0) (by simp), dt (p := (0 : Int) ≤ (([] : List Rec).length : Int)) (by simp), dt (p := (([] : List Rec).length : Int) ≤ _) (by simp), insC_nil hr]
      rw [dt (p := ([] : List Rec).length + _ ≤ LIM) (by simp), dt (p := ([] ++ _ : List Rec).length + ([x] : List Rec).length ≤ LIM) (by simp; unfold LIM; omega),
        dt (p := (([] ++ _ : List Rec) ++ [x]).length + _ ≤ LIM) (by simp only [List.length_nil, List.length_drop, List.length_take, List.length_append, List.length_cons]; unfold LIM; simp; omega)]
      simp [impl_eq]
    · have hqy : (q ++ [y]).length = q.length + 1 := by simp
      have hlen : (q ++ [y] ++ r).length = q.length + 1 + r.length := by rw [List.length_append, hqy]
      have hl' : q.length + 1 + r.length < 4294967296 := by omega
      have e1 : w64 (((q ++ [y]).length : Int) - 1) = (q.length : Int) := by rw [w64_id (by omega) (by omega)]; omega
      have next := ih q (y :: r)
      rw [insX_l2_eq, e1, ix_last, twoR_of (hok y (by simp)) hx]
      rw [dt (p := ((q ++ [y]).length : Int) > 0) (by omega), dt (p := (0 : Int) ≤ (q.length : Int)) (by omega), dt (p := (q.length : Int) < _) (by omega)]
      simp only [impl_eq, Bool.and_self, Bool.not_true, Bool.or_true, cond_true]
      by_cases h1 : cmpRF y x > 0
      · rw [dt h1, cond_true]
        have := next (by simp at h; omega) (by simp; omega) (fun z hz => hok z (List.mem_append_left _ hz)) (fun z hz => by
          rcases List.mem_cons.1 hz with rfl | hz
          · exact h1
          · exact hr z hz)
        rw [as_mid] at this
        exact this
      · rw [df h1, cond_false]
        by_cases h2 : cmpRF y x = 0
        · rw [dt h2, cond_true, insC_same hr h2]
        · rw [df h2, cond_false, insC_mid hr (by omega)]
          rw [dt (p := (0 : Int) ≤ ((q ++ [y]).length : Int)) (by omega), dt (p := ((q ++ [y]).length : Int) ≤ _) (by omega), Int.toNat_natCast, List.take_left, List.take_length, List.drop_left]
          rw [dt (p := ([] : List Rec).length + _ ≤ LIM) (by simp; unfold LIM; omega), dt (p := ([] ++ _ : List Rec).length + ([x] : List Rec).length ≤ LIM) (by simp; unfold LIM; omega),
            dt (p := (([] ++ _ : List Rec) ++ [x]).length + _ ≤ LIM) (by simp; unfold LIM; omega)]
          simp

theorem insG_split {l : List Rec} {x : Rec} (h : insG l x = true) : l.length < 4294967296 ∧ (∀ y ∈ l, recOk y = true) ∧ recOk x = true := by
  simp only [insG, Bool.and_eq_true, decide_eq_true_eq, List.all_eq_true] at h
  exact ⟨h.1.1, h.1.2, h.2⟩

theorem insX_meets (l : List Rec) (x : Rec) (h : insG l x = true) : ∃ fuel, insX_run fuel l x = some (.val (.slice tRecord) (insF l x)) := by
  obtain ⟨h1, h2, h3⟩ := insG_split h
  refine ⟨l.length + 1, ?_⟩
  have := insX_loop (l.length + 1) x h3 (l.length + 1) l [] (by omega) (by simpa using h1) h2 (fun _ h => by cases h)
  rw [List.append_nil] at this
  rw [insX_eq]; exact this

theorem foldR_all (l : List Rec) (xs : List Rec) (hl : Asc cmpRF l) (h1 : ∀ y ∈ l, recOk y = true) (h2 : ∀ y ∈ xs, recOk y = true) : Asc cmpRF (xs.foldl insF l) ∧ (∀ y ∈ xs.foldl insF l, recOk y = true) ∧ (xs.foldl insF l).length ≤ l.length + xs.length := by
  obtain ⟨a1, a2, a3⟩ := foldC_all cmpR_pre cmpR_zero xs l hl
  exact ⟨a1, fun y hy => ((a2 y).1 hy).elim (h1 y) (h2 y), a3⟩

theorem addX_l7_loop (fuel : Nat) : ∀ (n : Nat) (r p out : List Rec), r.length < n → Asc cmpRF out → (∀ y ∈ out, recOk y = true) → (∀ y ∈ r, recOk y = true) → p.length + r.length ≤ 2097152 → r.length + out.length ≤ 2097152 →
    addX_l7 fuel n (p ++ r) out (p.length : Int) = some (.val (.slice tRecord) (r.foldl insF out)) := by
  intro n
  induction n with
  | zero => intro r p out h; omega
  | succ n ih =>
    intro r p out h ha ho hr hl hl2
    cases r with
    | nil => rw [addX_l7_eq, lt_end]; rfl
    | cons c r =>
      simp only [List.length_cons] at h hl hl2
      obtain ⟨b1, b2, b3⟩ := foldR_all out [c] ha ho (fun y hy => by rw [List.mem_singleton.1 hy]; exact hr c (by simp))
      simp only [List.foldl_cons, List.foldl_nil, List.length_cons, List.length_nil] at b1 b2 b3
      have next := ih r (p ++ [c]) (insF out c) (by omega) b1 b2 (fun y hy => hr y (List.mem_cons_of_mem _ hy)) (by simp; omega) (by omega)
      rw [← as_mid, ← nx_len p c (by omega)] at next
      have hg : insG out c = true := by
        have : out.length < LIM := by unfold LIM; omega
        simp only [insG, Bool.and_eq_true, decide_eq_true_eq, List.all_eq_true]; exact ⟨⟨this, ho⟩, hr c (by simp)⟩
      rw [addX_l7_eq, ix_mid, lt_mid, nn_len, hg, next]; rfl

theorem addX_l3_loop (fuel : Nat) (b : List Rec) (hb : ∀ y ∈ b, recOk y = true) (hf : b.length < fuel) : ∀ (n : Nat) (r p out : List Rec), r.length < n → Asc cmpRF out → (∀ y ∈ out, recOk y = true) → (∀ y ∈ r, recOk y = true) → p.length + r.length ≤ 2097152 → b.length ≤ 1048576 → r.length + out.length + b.length ≤ 2097152 →
    addX_l3 fuel n (p ++ r) b out (p.length : Int) = some (.val (.slice tRecord) (b.foldl insF (r.foldl insF out))) := by
  intro n
  induction n with
  | zero => intro r p out h; omega
  | succ n ih =>
    intro r p out h ha ho hr hl hlb hl2
    cases r with
    | nil =>
      rw [addX_l3_eq, lt_end]
      exact addX_l7_loop fuel fuel b [] out hf ha ho hb (by simp; omega) (by simp at hl2; omega)
    | cons c r =>
      simp only [List.length_cons] at h hl hl2
      obtain ⟨b1, b2, b3⟩ := foldR_all out [c] ha ho (fun y hy => by rw [List.mem_singleton.1 hy]; exact hr c (by simp))
      simp only [List.foldl_cons, List.foldl_nil, List.length_cons, List.length_nil] at b1 b2 b3
      have next := ih r (p ++ [c]) (insF out c) (by omega) b1 b2 (fun y hy => hr y (List.mem_cons_of_mem _ hy)) (by simp; omega) hlb (by omega)
      rw [← as_mid, ← nx_len p c (by omega)] at next
      have hg : insG out c = true := by
        have : out.length < LIM := by unfold LIM; omega
        simp only [insG, Bool.and_eq_true, decide_eq_true_eq, List.all_eq_true]; exact ⟨⟨this, ho⟩, hr c (by simp)⟩
      rw [addX_l3_eq, ix_mid, lt_mid, nn_len, hg, next]; rfl

theorem addX_meets (a b : List Rec) (h : addG a b = true) : ∃ fuel, addX_run fuel a b = some (.val (.slice tRecord) (addF a b)) := by
  obtain ⟨h1, h2, h3⟩ := addG_split h
  refine ⟨a.length + b.length + 1, ?_⟩
  rw [addX_eq]
  exact addX_l3_loop (a.length + b.length + 1) b h3 (by omega) (a.length + b.length + 1) a [] [] (by omega) List.Pairwise.nil (fun _ h => by cases h) h2 (by simp; omega) (by omega) (by simp; omega)

end Go.Proofs.Ytfeijnbommgigaa.Abs
