/- Ascending lists of cells as finite maps: the laws of layer 24 in plain Lean. -/
import Derived.Test.YtlipfgaambiklaaMeetH
namespace Go.Proofs.Ytlipfgaambiklaa.Abs
open Go
set_option linter.unusedSimpArgs false

def lk (l : List Cell) (k : Cell) : Option Val := (l.find? (sameC · k)).map (·.2.2.1)

theorem lk_nil (k : Cell) : lk [] k = none := rfl
theorem lk_cons (x : Cell) (a : List Cell) (k : Cell) : lk (x :: a) k = if sameC x k = true then some x.2.2.1 else lk a k := by
  unfold lk
  rw [List.find?_cons]
  cases h : sameC x k <;> simp

theorem lk_none {a : List Cell} {k : Cell} (h : ∀ c ∈ a, sameC c k = false) : lk a k = none := by
  induction a with
  | nil => rfl
  | cons x a ih => rw [lk_cons, h x (by simp), if_neg (by simp), ih (fun c hc => h c (by simp [hc]))]

theorem lk_before {a : List Cell} {x k : Cell} (h : ∀ c ∈ a, ltC x c = true) (hk : sameC x k = true) : lk a k = none :=
  lk_none fun c hc => by
    have := ltC_ne (h c hc)
    rw [sameC_symm, ← sameC_same_left hk, this]

theorem getV_lk (l : List Cell) (k : Cell) : getV l k = (lk l k).getD zVal := by
  unfold getV lk
  cases l.find? (sameC · k) <;> rfl

theorem eqVal_iff (a b : Val) : eqD tVal a b = true ↔ a = b := by
  obtain ⟨a1, a2, a3, a4, _⟩ := a
  obtain ⟨b1, b2, b3, b4, _⟩ := b
  simp [eqD]

theorem eqCell_iff (a b : Cell) : eqD tCell a b = true ↔ a = b := by
  obtain ⟨a1, a2, a3, _⟩ := a
  obtain ⟨b1, b2, b3, _⟩ := b
  have := eqVal_iff a3 b3
  show (decide (a1 = b1) && (decide (a2 = b2) && (eqD tVal a3 b3 && true))) = true ↔ _
  simp only [Bool.and_true, Bool.and_eq_true, decide_eq_true_eq, this, Prod.mk.injEq, and_true]

theorem sameF_iff (a b : List Cell) : sameF a b = true ↔ a = b := by
  unfold sameF
  induction a generalizing b with
  | nil => cases b <;> simp
  | cons x a ih =>
    cases b with
    | nil => simp
    | cons y b =>
      have := ih b
      simp only [List.length_cons, List.zip_cons_cons, List.all_cons, Bool.and_eq_true, decide_eq_true_eq, Nat.add_right_cancel_iff, List.cons.injEq, eqCell_iff] at this ⊢
      rw [← this]
      constructor
      · rintro ⟨h1, h2, h3⟩; exact ⟨h2, h1, h3⟩
      · rintro ⟨h1, h2, h3⟩; exact ⟨h2, h1, h3⟩

theorem sameF_self (a : List Cell) : sameF a a = true := (sameF_iff a a).2 rfl

theorem map_ext : ∀ {a b : List Cell}, Asc a → Asc b → (∀ k, lk a k = lk b k) → a = b
  | [], [], _, _, _ => rfl
  | [], y :: b, _, _, h => by have := h y; rw [lk_cons, sameC_self] at this; cases this
  | x :: a, [], _, _, h => by have := h x; rw [lk_cons, sameC_self] at this; cases this
  | x :: a, y :: b, ha, hb, h => by
    have ha' := List.pairwise_cons.1 ha
    have hb' := List.pairwise_cons.1 hb
    rcases ltC_tri x y with hl | hs | hl
    · exfalso
      have := h x
      rw [lk_cons, sameC_self, lk_none (a := y :: b) (fun c hc => by
        rcases List.mem_cons.1 hc with rfl | hc
        · rw [sameC_symm]; exact ltC_ne hl
        · rw [sameC_symm]; exact ltC_ne (ltC_trans hl (hb'.1 c hc)))] at this
      cases this
    · have e : x = y := by
        have := h x
        rw [lk_cons, sameC_self, lk_cons, sameC_symm, hs] at this
        simp only [if_true, Option.some.injEq] at this
        have hs := (sameC_iff x y).1 hs
        obtain ⟨x1, x2, x3, _⟩ := x
        obtain ⟨y1, y2, y3, _⟩ := y
        simp only at hs this
        rw [hs.1, hs.2, this]
      subst e
      rw [map_ext ha'.2 hb'.2 fun k => ?_]
      by_cases hk : sameC x k = true
      · rw [lk_before ha'.1 hk, lk_before hb'.1 hk]
      · have := h k
        rw [lk_cons, lk_cons, if_neg hk, if_neg hk] at this
        exact this
    · exfalso
      have := h y
      rw [lk_cons (x := y), sameC_self, lk_none (a := x :: a) (fun c hc => by
        rcases List.mem_cons.1 hc with rfl | hc
        · rw [sameC_symm]; exact ltC_ne hl
        · rw [sameC_symm]; exact ltC_ne (ltC_trans hl (ha'.1 c hc)))] at this
      cases this

theorem over_ind {motive : List Cell → List Cell → Prop} (h1 : ∀ b, motive [] b) (h2 : ∀ a, motive a [])
    (h3 : ∀ x a y b, motive a (y :: b) → motive a b → motive (x :: a) b → motive (x :: a) (y :: b)) : ∀ a b, motive a b := by
  have : ∀ n a b, a.length + b.length < n → motive a b := by
    intro n
    induction n with
    | zero => intro a b h; omega
    | succ n ih =>
      intro a b h
      cases a with
      | nil => exact h1 b
      | cons x a => cases b with
        | nil => exact h2 _
        | cons y b =>
          simp only [List.length_cons] at h
          exact h3 x a y b (ih a (y :: b) (by simp only [List.length_cons]; omega)) (ih a b (by omega)) (ih (x :: a) b (by simp only [List.length_cons]; omega))
  exact fun a b => this (a.length + b.length + 1) a b (by omega)

theorem mem_over : ∀ (a b : List Cell) (c : Cell), c ∈ over a b → c ∈ a ∨ c ∈ b := by
  apply over_ind
  · intro b c h; rw [over_nil_left] at h; exact .inr h
  · intro a c h; rw [over_nil_right] at h; exact .inl h
  · intro x a y b i1 i2 i3 c h
    rw [over_cons] at h
    split at h
    · rcases List.mem_cons.1 h with rfl | h
      · simp
      · rcases i1 c h with h | h
        · simp [h]
        · exact .inr h
    · split at h
      · rcases List.mem_cons.1 h with rfl | h
        · simp
        · rcases i2 c h with h | h <;> simp [h]
      · rcases List.mem_cons.1 h with rfl | h
        · simp
        · rcases i3 c h with h | h
          · exact .inl h
          · simp [h]

theorem asc_over : ∀ (a b : List Cell), Asc a → Asc b → Asc (over a b) := by
  apply over_ind
  · intro b _ h; rw [over_nil_left]; exact h
  · intro a h _; rw [over_nil_right]; exact h
  · intro x a y b i1 i2 i3 ha hb
    have ha' := List.pairwise_cons.1 ha
    have hb' := List.pairwise_cons.1 hb
    rw [over_cons]
    split
    · rename_i hl
      refine List.pairwise_cons.2 ⟨fun c hc => ?_, i1 ha'.2 hb⟩
      rcases mem_over _ _ _ hc with h | h
      · exact ha'.1 c h
      · rcases List.mem_cons.1 h with rfl | h
        · exact hl
        · exact ltC_trans hl (hb'.1 c h)
    · rename_i hl
      split
      · rename_i hs
        refine List.pairwise_cons.2 ⟨fun c hc => ?_, i2 ha'.2 hb'.2⟩
        rcases mem_over _ _ _ hc with h | h
        · rw [← ltC_same_left hs]; exact ha'.1 c h
        · exact hb'.1 c h
      · rename_i hs
        have hg := tri_gt (by simpa using hs) (by simpa using hl)
        refine List.pairwise_cons.2 ⟨fun c hc => ?_, i3 ha hb'.2⟩
        rcases mem_over _ _ _ hc with h | h
        · rcases List.mem_cons.1 h with rfl | h
          · exact hg
          · exact ltC_trans hg (ha'.1 c h)
        · exact hb'.1 c h

theorem lk_over : ∀ (a b : List Cell), Asc a → Asc b → ∀ k, lk (over a b) k = (lk b k).or (lk a k) := by
  apply over_ind
  · intro b _ _ k; rw [over_nil_left, lk_nil]; simp
  · intro a _ _ k; rw [over_nil_right, lk_nil]; simp
  · intro x a y b i1 i2 i3 ha hb k
    have ha' := List.pairwise_cons.1 ha
    have hb' := List.pairwise_cons.1 hb
    rw [over_cons]
    split
    · rename_i hl
      rw [lk_cons x (over a (y :: b)), i1 ha'.2 hb, lk_cons x a]
      by_cases hk : sameC x k = true
      · rw [if_pos hk, if_pos hk, lk_before (a := y :: b) (x := x) (fun c hc => by
          rcases List.mem_cons.1 hc with rfl | hc
          · exact hl
          · exact ltC_trans hl (hb'.1 c hc)) hk]; rfl
      · rw [if_neg hk, if_neg hk]
    · rename_i hl
      split
      · rename_i hs
        rw [lk_cons y (over a b), i2 ha'.2 hb'.2, lk_cons x a, lk_cons y b, sameC_same_left hs]
        by_cases hk : sameC y k = true
        · simp [hk]
        · simp [hk]
      · rename_i hs
        rw [lk_cons y (over (x :: a) b), i3 ha hb'.2, lk_cons y b]
        by_cases hk : sameC y k = true
        · simp [hk]
        · simp [hk]

def nzV (v : Val) : Bool := !eqD tVal v zVal
theorem fpos {v : Val} (h : nzV v = true) : Option.filter nzV (some v) = some v := by simp [Option.filter, h]
theorem fneg {v : Val} (h : ¬ nzV v = true) : Option.filter nzV (some v) = none := by simp [Option.filter, h]
theorem zneg {v : Val} (h : ¬ nzV v = true) : v = zVal := by
  have : eqD tVal v zVal = true := by simpa [nzV] using h
  exact (eqVal_iff _ _).1 this

theorem lk_nz : ∀ (a : List Cell), Asc a → ∀ k, lk (a.filter nz) k = (lk a k).filter nzV
  | [], _, k => rfl
  | x :: a, ha, k => by
    have ha' := List.pairwise_cons.1 ha
    have ih := lk_nz a ha'.2 k
    rw [List.filter_cons, lk_cons]
    by_cases hk : sameC x k = true
    · rw [if_pos hk]
      split
      · rename_i hn
        rw [lk_cons, if_pos hk]
        exact (fpos hn).symm
      · rename_i hn
        rw [ih, lk_before ha'.1 hk]
        exact (fneg hn).symm
    · rw [if_neg hk]
      split
      · rw [lk_cons, if_neg hk, ih]
      · exact ih

theorem asc_filter {a : List Cell} (p : Cell → Bool) (h : Asc a) : Asc (a.filter p) := List.Pairwise.sublist List.filter_sublist h

theorem writes_over {a b : List Cell} (ha : writesF a = true) (hb : writesF b = true) : writesF (over a b) = true := by
  have h1 := (writes_iff a).1 ha
  have h2 := (writes_iff b).1 hb
  refine (writes_iff _).2 ⟨asc_over a b h1.1 h2.1, fun c hc => ?_⟩
  rcases mem_over _ _ _ hc with h | h
  · exact h1.2 c h
  · exact h2.2 c h

theorem writes_filter {a : List Cell} (p : Cell → Bool) (ha : writesF a = true) : writesF (a.filter p) = true := by
  have h1 := (writes_iff a).1 ha
  exact (writes_iff _).2 ⟨asc_filter p h1.1, fun c hc => h1.2 c (List.mem_filter.1 hc).1⟩

theorem valid_writes {l : List Cell} (h : validF l = true) : writesF l = true := (Bool.and_eq_true_iff.1 h).2
theorem valid_nz {l : List Cell} (h : validF l = true) : ∀ c ∈ l, nz c = true := List.all_eq_true.1 (Bool.and_eq_true_iff.1 h).1

theorem put_eqF {l w : List Cell} (h1 : validF l = true) (h2 : writesF w = true) : putF l w = (over l w).filter nz := by
  unfold putF; rw [h1, h2]; rfl

theorem valid_put {l w : List Cell} (h1 : validF l = true) (h2 : writesF w = true) : validF (putF l w) = true := by
  rw [put_eqF h1 h2]
  refine Bool.and_eq_true_iff.2 ⟨List.all_eq_true.2 fun c hc => (List.mem_filter.1 hc).2, writes_filter nz (writes_over (valid_writes h1) h2)⟩

theorem lk_put {l w : List Cell} (h1 : validF l = true) (h2 : writesF w = true) (k : Cell) : lk (putF l w) k = ((lk w k).or (lk l k)).filter nzV := by
  rw [put_eqF h1 h2, lk_nz _ (asc_over _ _ (valid_asc h1) (writes_asc h2)), lk_over _ _ (valid_asc h1) (writes_asc h2)]

theorem lk_valid {l : List Cell} (h : validF l = true) (k : Cell) : (lk l k).filter nzV = lk l k := by
  rw [← lk_nz l (valid_asc h) k, filter_nz (valid_nz h)]

theorem filter_or (a b c : Option Val) : (b.or ((a.or c).filter nzV)).filter nzV = ((b.or a).or c).filter nzV := by
  cases b with
  | some v => rfl
  | none =>
    simp only [Option.none_or]
    cases h : a.or c with
    | none => rfl
    | some v =>
      by_cases hv : nzV v = true
      · rw [fpos hv, fpos hv]
      · rw [fneg hv]; rfl

theorem put_put {m a b : List Cell} (hm : validF m = true) (ha : writesF a = true) (hb : writesF b = true) : putF (putF m a) b = putF m (over a b) := by
  refine map_ext (valid_asc (valid_put (valid_put hm ha) hb)) (valid_asc (valid_put hm (writes_over ha hb))) fun k => ?_
  rw [lk_put (valid_put hm ha) hb, lk_put hm ha, lk_put hm (writes_over ha hb), lk_over a b (writes_asc ha) (writes_asc hb), filter_or]

theorem over_assoc {a b c : List Cell} (ha : Asc a) (hb : Asc b) (hc : Asc c) : over (over a b) c = over a (over b c) := by
  refine map_ext (asc_over _ _ (asc_over _ _ ha hb) hc) (asc_over _ _ ha (asc_over _ _ hb hc)) fun k => ?_
  rw [lk_over _ _ (asc_over _ _ ha hb) hc, lk_over _ _ ha hb, lk_over _ _ ha (asc_over _ _ hb hc), lk_over _ _ hb hc, Option.or_assoc]

theorem lk_some {l : List Cell} {k : Cell} {v : Val} (h : lk l k = some v) : ∃ c ∈ l, sameC c k = true := by
  unfold lk at h
  cases hf : l.find? (sameC · k) with
  | none => rw [hf] at h; cases h
  | some c => exact ⟨c, List.mem_of_find?_eq_some hf, by have := List.find?_some hf; simpa using this⟩

theorem over_comm {a b : List Cell} (ha : Asc a) (hb : Asc b) (h : ∀ x ∈ a, ∀ y ∈ b, sameC x y = false) : over a b = over b a := by
  refine map_ext (asc_over _ _ ha hb) (asc_over _ _ hb ha) fun k => ?_
  rw [lk_over _ _ ha hb, lk_over _ _ hb ha]
  cases h1 : lk a k with
  | none => simp
  | some v => cases h2 : lk b k with
    | none => simp
    | some u =>
      obtain ⟨x, hx, kx⟩ := lk_some h1
      obtain ⟨y, hy, ky⟩ := lk_some h2
      have := h x hx y hy
      rw [sameC_same_left kx, sameC_symm, ky] at this
      cases this

theorem over_length : ∀ (a b : List Cell), (∀ x ∈ a, ∀ y ∈ b, sameC x y = false) → (over a b).length = a.length + b.length := by
  apply over_ind
  · intro b _; rw [over_nil_left]; simp
  · intro a _; rw [over_nil_right]; simp
  · intro x a y b i1 i2 i3 h
    rw [over_cons, h x (by simp) y (by simp)]
    split
    · rw [List.length_cons, i1 (fun x' hx' y' hy' => h x' (by simp [hx']) y' hy')]; simp only [List.length_cons]; omega
    · rw [if_neg (by simp), List.length_cons, i3 (fun x' hx' y' hy' => h x' hx' y' (by simp [hy']))]; simp only [List.length_cons]; omega

/-- The cells of w with other values. -/
def revalue (f : Cell → Val) (w : List Cell) : List Cell := w.map (fun y => (y.1, y.2.1, f y, ()))

theorem revalue_asc (f : Cell → Val) {w : List Cell} (h : Asc w) : Asc (revalue f w) := by
  unfold revalue Asc
  rw [List.pairwise_map]
  exact h

theorem revalue_writes (f : Cell → Val) {w : List Cell} (h : writesF w = true) : writesF (revalue f w) = true := by
  have h1 := (writes_iff w).1 h
  refine (writes_iff _).2 ⟨revalue_asc f h1.1, fun c hc => ?_⟩
  obtain ⟨y, hy, rfl⟩ := List.mem_map.1 hc
  exact h1.2 y hy

theorem revalue_lk (f : Cell → Val) (hf : ∀ a b, sameC a b = true → f a = f b) (w : List Cell) (k : Cell) : lk (revalue f w) k = (lk w k).map (fun _ => f k) := by
  induction w with
  | nil => rfl
  | cons y w ih =>
    show lk ((y.1, y.2.1, f y, ()) :: revalue f w) k = _
    rw [lk_cons, lk_cons, ih]
    have : sameC (y.1, y.2.1, f y, ()) k = sameC y k := rfl
    rw [this]
    by_cases hk : sameC y k = true
    · rw [if_pos hk, if_pos hk, hf y k hk]; rfl
    · rw [if_neg hk, if_neg hk]

theorem lk_same (l : List Cell) {a b : Cell} (h : sameC a b = true) : lk l a = lk l b := by
  unfold lk
  have : (sameC · a) = (sameC · b) := by
    funext c
    rw [sameC_symm c a, sameC_same_left h, sameC_symm b c]
  rw [this]

theorem getV_same (l : List Cell) {a b : Cell} (h : sameC a b = true) : getV l a = getV l b := by
  rw [getV_lk, getV_lk, lk_same l h]

theorem inverse_eqF {m : Model} {w : List Cell} (hm : validF m.1 = true) (hw : writesF w = true) : inverseF m w = revalue (getV m.1) w := by
  unfold inverseF revalue; rw [hm, hw]; rfl

theorem undo {m : Model} {w : List Cell} (hm : validF m.1 = true) (hw : writesF w = true) : putF (putF m.1 w) (inverseF m w) = m.1 := by
  rw [inverse_eqF hm hw]
  refine map_ext (valid_asc (valid_put (valid_put hm hw) (revalue_writes _ hw))) (valid_asc hm) fun k => ?_
  rw [lk_put (valid_put hm hw) (revalue_writes _ hw), lk_put hm hw, revalue_lk _ (fun a b h => getV_same _ h)]
  cases h : lk w k with
  | none => simp only [Option.map_none, Option.none_or]; rw [lk_valid hm, lk_valid hm]
  | some v =>
    simp only [Option.map_some, Option.some_or]
    rw [getV_lk, ← lk_valid hm k]
    cases h' : lk m.1 k with
    | none => rfl
    | some u =>
      by_cases hu : nzV u = true
      · rw [fpos hu]; exact fpos hu
      · rw [fneg hu]
        have e := zneg hu
        exact fneg (v := zVal) (by rw [← e]; exact hu)

theorem lk_mem {w : List Cell} (h : Asc w) {y : Cell} (hy : y ∈ w) : lk w y = some y.2.2.1 := by
  induction w with
  | nil => cases hy
  | cons x w ih =>
    have h' := List.pairwise_cons.1 h
    rw [lk_cons]
    rcases List.mem_cons.1 hy with rfl | hy
    · rw [sameC_self]; rfl
    · rw [ltC_ne (h'.1 y hy)]
      exact ih h'.2 hy

theorem redo {m : Model} {w : List Cell} (hm : validF m.1 = true) (hw : writesF w = true) : inverseF (putF m.1 w, ()) (inverseF m w) = w := by
  rw [inverse_eqF (m := (putF m.1 w, ())) (valid_put hm hw) (by rw [inverse_eqF hm hw]; exact revalue_writes _ hw), inverse_eqF hm hw]
  unfold revalue
  rw [List.map_map]
  conv => rhs; rw [← List.map_id w]
  refine List.map_congr_left fun y hy => ?_
  show (y.1, y.2.1, getV (putF m.1 w) (y.1, y.2.1, getV m.1 y, ()), ()) = y
  have e : getV (putF m.1 w) (y.1, y.2.1, getV m.1 y, ()) = getV (putF m.1 w) y := getV_same _ ((sameC_iff _ _).2 ⟨rfl, rfl⟩)
  rw [e, getV_lk, lk_put hm hw, lk_mem (writes_asc hw) hy]
  have : (Option.filter nzV ((some y.2.2.1).or (lk m.1 y))).getD zVal = y.2.2.1 := by
    simp only [Option.some_or]
    by_cases hv : nzV y.2.2.1 = true
    · rw [fpos hv]; rfl
    · rw [fneg hv]; exact (zneg hv).symm
  rw [this]

theorem least_eqF {m : Model} {w : List Cell} (hm : validF m.1 = true) (hw : writesF w = true) : leastF m w = w.filter (fun y => !eqD tVal y.2.2.1 (getV m.1 y)) := by
  unfold leastF; rw [hm, hw]; rfl

theorem lk_filter : ∀ (a : List Cell) (p : Cell → Bool), Asc a → ∀ k, lk (a.filter p) k = match a.find? (sameC · k) with | some c => if p c = true then some c.2.2.1 else none | none => none
  | [], _, _, k => rfl
  | x :: a, p, ha, k => by
    have ha' := List.pairwise_cons.1 ha
    have ih := lk_filter a p ha'.2 k
    rw [List.filter_cons, List.find?_cons]
    by_cases hk : sameC x k = true
    · rw [hk]
      split
      · rename_i hp; rw [lk_cons, if_pos hk]; simp [hp]
      · rename_i hp
        rw [lk_none fun c hc => ?_]
        · simp [hp]
        · have := ltC_ne (ha'.1 c (List.mem_filter.1 hc).1)
          rw [sameC_symm, ← sameC_same_left hk, this]
    · have hk' : sameC x k = false := by simpa using hk
      rw [hk']
      split
      · rw [lk_cons, if_neg hk, ih]
      · rw [ih]

theorem least_put {m : Model} {w : List Cell} (hm : validF m.1 = true) (hw : writesF w = true) : putF m.1 (leastF m w) = putF m.1 w := by
  rw [least_eqF hm hw]
  refine map_ext (valid_asc (valid_put hm (writes_filter _ hw))) (valid_asc (valid_put hm hw)) fun k => ?_
  rw [lk_put hm (writes_filter _ hw), lk_put hm hw, lk_filter _ _ (writes_asc hw)]
  unfold lk
  cases h : w.find? (sameC · k) with
  | none => rfl
  | some c =>
    have hk : sameC c k = true := by have := List.find?_some h; simpa using this
    simp only [Option.map_some]
    by_cases hp : eqD tVal c.2.2.1 (getV m.1 c) = true
    · have e := (eqVal_iff _ _).1 hp
      rw [hp, if_neg (by simp), e]
      have g := lk_valid hm k
      unfold lk at g
      simp only [Option.none_or, Option.some_or, g]
      rw [getV_same _ hk, getV_lk]
      unfold lk
      cases h' : Option.map (fun x => x.2.2.1) (m.1.find? (sameC · k)) with
      | none => rfl
      | some u =>
        rw [h'] at g
        exact g.symm
    · rw [if_pos (by simpa using hp)]

theorem dropIdx_mem {α : Type} : ∀ {l : List α} {i : Nat} {x : α}, x ∈ l.take i ++ l.drop (i + 1) → x ∈ l := by
  intro l i x h
  rcases List.mem_append.1 h with h | h
  · exact List.mem_of_mem_take h
  · exact List.mem_of_mem_drop h

theorem asc_cut {l : List Cell} (h : Asc l) (i : Nat) : Asc (l.take i ++ l.drop (i + 1)) := by
  refine List.Pairwise.sublist ?_ h
  conv => rhs; rw [← List.take_append_drop i l]
  exact List.Sublist.append (List.Sublist.refl _) (List.drop_sublist_drop_left l (by omega))

theorem cut_apart {l : List Cell} (h : Asc l) {i : Nat} (hi : i < l.length) : ∀ c ∈ l.take i ++ l.drop (i + 1), sameC c l[i] = false := by
  intro c hc
  have hp := List.pairwise_iff_getElem.1 h
  rcases List.mem_append.1 hc with hc | hc
  · obtain ⟨j, hj, rfl⟩ := List.mem_iff_getElem.1 hc
    rw [List.length_take] at hj
    rw [List.getElem_take]
    exact ltC_ne (hp j i (by omega) hi (by omega))
  · obtain ⟨j, hj, rfl⟩ := List.mem_iff_getElem.1 hc
    rw [List.length_drop] at hj
    rw [List.getElem_drop, sameC_symm]
    exact ltC_ne (hp i (i + 1 + j) hi (by omega) (by omega))

theorem least_needed {m : Model} {w : List Cell} (hm : validF m.1 = true) (hw : writesF w = true) {i : Nat} (hi : i < (leastF m w).length) :
    putF m.1 ((leastF m w).take i ++ (leastF m w).drop (i + 1)) ≠ putF m.1 w := by
  intro e
  have hx : writesF (leastF m w) = true := by rw [least_eqF hm hw]; exact writes_filter _ hw
  have hxa := writes_asc hx
  have hy : writesF ((leastF m w).take i ++ (leastF m w).drop (i + 1)) = true :=
    (writes_iff _).2 ⟨asc_cut hxa i, fun c hc => ((writes_iff _).1 hx).2 c (dropIdx_mem hc)⟩
  have hc' : (leastF m w)[i] ∈ w.filter (fun y => !eqD tVal y.2.2.1 (getV m.1 y)) := (least_eqF hm hw) ▸ (List.getElem_mem hi)
  obtain ⟨hcw, hcn⟩ := List.mem_filter.1 hc'
  have hk := congrArg (fun l => lk l (leastF m w)[i]) e
  rw [lk_put hm hy, lk_put hm hw, lk_none (cut_apart hxa hi), lk_mem (writes_asc hw) hcw] at hk
  simp only [Option.none_or, Option.some_or] at hk
  rw [lk_valid hm] at hk
  have hn : ¬ (leastF m w)[i].2.2.1 = getV m.1 (leastF m w)[i] := by
    intro h
    rw [(eqVal_iff _ _).2 h] at hcn
    cases hcn
  apply hn
  rw [getV_lk, hk]
  by_cases hv : nzV (leastF m w)[i].2.2.1 = true
  · rw [fpos hv]; rfl
  · rw [fneg hv]; exact zneg hv
end Go.Proofs.Ytlipfgaambiklaa.Abs
