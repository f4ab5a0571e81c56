/- The comparisons of layer 34 order; in plain Lean. -/
import Derived.Test.YtfeijnbommgigaaGenR
import Derived.Test.YtfeijnbommgigaaSort
namespace Go.Proofs.Ytfeijnbommgigaa.Abs
open Go

/-- A comparison with the answers -1, 0, 1, without the last law of an order. -/
structure PreCmp {α : Type} (c : α → α → Int) : Prop where
  neg : ∀ x y, c y x = - c x y
  rng : ∀ x y, c x y = -1 ∨ c x y = 0 ∨ c x y = 1
  trans : ∀ x y z, c x y ≤ 0 → c y z ≤ 0 → c x z ≤ 0

theorem PreCmp.lt {α : Type} {c : α → α → Int} (h : PreCmp c) {x y z : α} (h1 : c x y < 0) (h2 : c y z ≤ 0) : c x z < 0 := by
  have a := h.trans x y z (by omega) h2
  rcases h.rng x z with r | r | r
  · omega
  · have b := h.trans y z x h2 (by rw [h.neg x z]; omega)
    rw [h.neg x y] at b; omega
  · omega

theorem PreCmp.lt' {α : Type} {c : α → α → Int} (h : PreCmp c) {x y z : α} (h1 : c x y ≤ 0) (h2 : c y z < 0) : c x z < 0 := by
  have a := h.trans x y z h1 (by omega)
  rcases h.rng x z with r | r | r
  · omega
  · have b := h.trans z x y (by rw [h.neg x z]; omega) h1
    rw [h.neg y z] at b; omega
  · omega

theorem PreCmp.comap {α β : Type} {c : α → α → Int} (h : PreCmp c) (f : β → α) : PreCmp (fun x y => c (f x) (f y)) :=
  ⟨fun _ _ => h.neg _ _, fun _ _ => h.rng _ _, fun _ _ _ => h.trans _ _ _⟩

theorem orElse_le (a b : Int) (_ : a = -1 ∨ a = 0 ∨ a = 1) : orElse a b ≤ 0 ↔ a < 0 ∨ (a = 0 ∧ b ≤ 0) := by
  unfold orElse; split <;> omega

theorem PreCmp.lex {α : Type} {c d : α → α → Int} (h : PreCmp c) (g : PreCmp d) : PreCmp (fun x y => orElse (c x y) (d x y)) := by
  refine ⟨fun x y => ?_, fun x y => ?_, fun x y z h1 h2 => ?_⟩
  · have := h.neg x y; have := g.neg x y
    unfold orElse; split <;> split <;> omega
  · have := h.rng x y; have := g.rng x y
    unfold orElse; split <;> omega
  · simp only [orElse_le _ _ (h.rng _ _)] at h1 h2 ⊢
    rcases h1 with h1 | ⟨h1, h1'⟩
    · rcases h2 with h2 | ⟨h2, h2'⟩
      · exact .inl (h.lt h1 (by omega))
      · exact .inl (h.lt h1 (by omega))
    · rcases h2 with h2 | ⟨h2, h2'⟩
      · exact .inl (h.lt' (by omega) h2)
      · refine .inr ⟨?_, g.trans x y z h1' h2'⟩
        have a := h.trans x y z (by omega) (by omega)
        have b := h.trans z y x (by rw [h.neg y z]; omega) (by rw [h.neg x y]; omega)
        rw [h.neg x z] at b; omega

theorem icmp_pre : PreCmp icmp := by
  refine ⟨fun x y => ?_, fun x y => ?_, fun x y z h1 h2 => ?_⟩ <;> simp only [icmp] at *
  · repeat' split
    all_goals omega
  · repeat' split
    all_goals omega
  · revert h1 h2
    repeat' split
    all_goals omega

/-- Two lists, by their elements, the shorter first. -/
def lcmp {α : Type} (c : α → α → Int) : List α → List α → Int
  | [], [] => 0
  | [], _ :: _ => -1
  | _ :: _, [] => 1
  | x :: a, y :: b => orElse (c x y) (lcmp c a b)

theorem lcmp_pre {α : Type} {c : α → α → Int} (h : PreCmp c) : PreCmp (lcmp c) := by
  refine ⟨fun x => ?_, fun x => ?_, fun x => ?_⟩
  · induction x with
    | nil => intro y; cases y <;> rfl
    | cons x a ih => intro y; cases y with
      | nil => rfl
      | cons y b =>
        have := h.neg x y; have := ih b
        simp only [lcmp, orElse]; split <;> split <;> omega
  · induction x with
    | nil => intro y; cases y <;> simp [lcmp]
    | cons x a ih => intro y; cases y with
      | nil => simp [lcmp]
      | cons y b =>
        have := h.rng x y; have := ih b
        simp only [lcmp, orElse]; split <;> omega
  · induction x with
    | nil => intro y z h1 h2; cases z <;> simp [lcmp]
    | cons x a ih =>
      intro y z h1 h2
      cases y with
      | nil => simp [lcmp] at h1
      | cons y b => cases z with
        | nil => simp [lcmp] at h2
        | cons z d =>
          simp only [lcmp, orElse_le _ _ (h.rng _ _)] at h1 h2 ⊢
          rcases h1 with h1 | ⟨h1, h1'⟩
          · rcases h2 with h2 | ⟨h2, h2'⟩
            · exact .inl (h.lt h1 (by omega))
            · exact .inl (h.lt h1 (by omega))
          · rcases h2 with h2 | ⟨h2, h2'⟩
            · exact .inl (h.lt' (by omega) h2)
            · refine .inr ⟨?_, ih b d h1' h2'⟩
              have a := h.trans x y z (by omega) (by omega)
              have b := h.trans z y x (by rw [h.neg y z]; omega) (by rw [h.neg x y]; omega)
              rw [h.neg x z] at b; omega

theorem lcmp_zero {α : Type} {c : α → α → Int} (h : ∀ x y, c x y = 0 → x = y) : ∀ a b, lcmp c a b = 0 → a = b
  | [], [], _ => rfl
  | [], _ :: _, e => by simp [lcmp] at e
  | _ :: _, [], e => by simp [lcmp] at e
  | x :: a, y :: b, e => by
    simp only [lcmp, orElse] at e
    split at e
    · rename_i g; rw [h x y g, lcmp_zero h a b e]
    · contradiction

def bcmp (x y : UInt8) : Int := icmp x.toNat y.toNat

theorem scmp_eq : ∀ a b, scmp a b = lcmp bcmp a b
  | [], [] => rfl
  | [], _ :: _ => rfl
  | _ :: _, [] => rfl
  | x :: a, y :: b => by
    have ih := scmp_eq a b
    simp only [scmp] at ih
    simp only [scmp, lcmp, bcmp, orElse, icmp, Op.bytesLess, ← ih]
    have e : ∀ u v : UInt8, (u < v) ↔ u.toNat < v.toNat := fun u v => UInt8.lt_iff_toNat_lt
    have e' : ∀ u v : UInt8, u = v ↔ u.toNat = v.toNat := fun u v => UInt8.toNat_inj.symm
    simp only [Bool.or_eq_true, Bool.and_eq_true, decide_eq_true_eq, beq_iff_eq, e, e']
    rcases Nat.lt_trichotomy x.toNat y.toNat with g | g | g
    · have g1 : ¬ y.toNat < x.toNat := by omega
      simp [g]
    · simp [g]
    · have g1 : ¬ x.toNat < y.toNat := by omega
      have g2 : ¬ x.toNat = y.toNat := by omega
      have g3 : ¬ (x.toNat : Int) < (y.toNat : Int) := by omega
      have g4 : (y.toNat : Int) < (x.toNat : Int) := by omega
      simp [g, g1, g2]

theorem scmp_pre : PreCmp scmp := by
  have : scmp = lcmp bcmp := by funext a b; exact scmp_eq a b
  rw [this]; exact lcmp_pre (icmp_pre.comap (fun x : UInt8 => (x.toNat : Int)))

theorem icmp_zero {x y : Int} (h : icmp x y = 0) : x = y := by
  simp only [icmp] at h; split at h
  · omega
  · split at h <;> omega

theorem scmp_zero {a b : Str} (h : scmp a b = 0) : a = b := by
  rw [scmp_eq] at h
  refine lcmp_zero (fun x y e => ?_) a b h
  have := icmp_zero e
  exact UInt8.toNat_inj.1 (by omega)

theorem num_inj {a b : Bool} (h : num a = num b) : a = b := by cases a <;> cases b <;> simp [num] at h ⊢

theorem orElse_zero {a b : Int} (h : orElse a b = 0) : a = 0 ∧ b = 0 := by
  unfold orElse at h; split at h
  · rename_i g; exact ⟨g, h⟩
  · contradiction

theorem rCmp_pre : PreCmp rCmpF :=
  (icmp_pre.comap fun a : Val => a.1).lex ((icmp_pre.comap fun a : Val => num a.2.1).lex ((scmp_pre.comap fun a : Val => a.2.2.1).lex (icmp_pre.comap fun a : Val => a.2.2.2.1)))

theorem rCmp_zero {a b : Val} (h : rCmpF a b = 0) : a = b := by
  obtain ⟨h1, h⟩ := orElse_zero h
  obtain ⟨h2, h⟩ := orElse_zero h
  obtain ⟨h3, h4⟩ := orElse_zero h
  replace h1 := icmp_zero h1
  replace h2 := num_inj (icmp_zero h2)
  replace h3 := scmp_zero h3
  replace h4 := icmp_zero h4
  obtain ⟨a1, a2, a3, a4, a5⟩ := a
  obtain ⟨b1, b2, b3, b4, b5⟩ := b
  simp only at h1 h2 h3 h4
  subst h1 h2 h3 h4
  rfl

theorem cmpLF_eq : ∀ a b, cmpLF a b = lcmp rCmpF a b
  | [], [] => rfl
  | [], _ :: _ => rfl
  | _ :: _, [] => rfl
  | x :: a, y :: b => by simp only [cmpLF, lcmp, cmpLF_eq a b]

theorem cmpL_pre : PreCmp cmpLF := by
  have : cmpLF = lcmp rCmpF := by funext a b; exact cmpLF_eq a b
  rw [this]; exact lcmp_pre rCmp_pre

theorem cmpL_zero {a b : List Val} (h : cmpLF a b = 0) : a = b := by
  rw [cmpLF_eq] at h; exact lcmp_zero (fun _ _ => rCmp_zero) a b h

theorem cmpR_pre : PreCmp cmpRF :=
  (icmp_pre.comap fun a : Rec => a.1).lex ((icmp_pre.comap fun a : Rec => a.2.1).lex ((cmpL_pre.comap fun a : Rec => a.2.2.1).lex (rCmp_pre.comap fun a : Rec => a.2.2.2.1)))

theorem cmpR_zero {a b : Rec} (h : cmpRF a b = 0) : a = b := by
  obtain ⟨h1, h⟩ := orElse_zero h
  obtain ⟨h2, h⟩ := orElse_zero h
  obtain ⟨h3, h4⟩ := orElse_zero h
  replace h1 := icmp_zero h1
  replace h2 := icmp_zero h2
  replace h3 := cmpL_zero h3
  replace h4 := rCmp_zero h4
  obtain ⟨a1, a2, a3, a4, a5⟩ := a
  obtain ⟨b1, b2, b3, b4, b5⟩ := b
  simp only at h1 h2 h3 h4
  subst h1 h2 h3 h4
  rfl

theorem PreCmp.refl {α : Type} {c : α → α → Int} (h : PreCmp c) (x : α) : c x x = 0 := by
  have := h.neg x x; omega

theorem PreCmp.total {α : Type} {c : α → α → Int} (h : PreCmp c) (hz : ∀ {x y}, c x y = 0 → x = y) : TotalCmp c := by
  refine ⟨fun x y => ?_, h.trans, fun x y h1 h2 => hz ?_, fun x y => ?_⟩ <;> (have := h.neg x y; have := h.rng x y; omega)

theorem rCmp_total : TotalCmp rCmpF := rCmp_pre.total rCmp_zero
theorem cmpR_total : TotalCmp cmpRF := cmpR_pre.total cmpR_zero

theorem eqV_iff (a b : Val) : eqD tVal a b = true ↔ a = b := by
  obtain ⟨a1, a2, a3, a4, a5⟩ := a
  obtain ⟨b1, b2, b3, b4, b5⟩ := b
  simp only [eqD, Bool.and_eq_true, decide_eq_true_eq, Prod.mk.injEq]

theorem eqV_cmp (a b : Val) : eqD tVal a b = decide (rCmpF a b = 0) := by
  rw [Bool.eq_iff_iff, eqV_iff, decide_eq_true_iff]
  exact ⟨fun h => by rw [h]; exact rCmp_pre.refl b, rCmp_zero⟩

/-! An ascending list, each element once. -/

def Asc {α : Type} (c : α → α → Int) (l : List α) : Prop := l.Pairwise (fun a b => c a b < 0)

theorem asc_unique {α : Type} {c : α → α → Int} (h : PreCmp c) {l l' : List α} (hl : Asc c l) (hl' : Asc c l') (hm : ∀ x, x ∈ l ↔ x ∈ l') : l = l' := by
  have nd : ∀ {l : List α}, Asc c l → l.Nodup := fun hl => List.Pairwise.imp (fun {a b} g e => by subst e; have := h.refl a; omega) hl
  have hp : l.Perm l' := (List.perm_ext_iff_of_nodup (nd hl) (nd hl')).2 hm
  refine List.Perm.eq_of_pairwise (le := fun a b => c a b < 0) (fun a b _ _ h1 h2 => ?_) hl hl' hp
  have := h.neg a b; omega

theorem dropAll {α : Type} {p : α → Bool} : ∀ {l : List α}, (∀ y ∈ l, p y = true) → l.dropWhile p = []
  | [], _ => rfl
  | y :: l, h => by rw [List.dropWhile_cons_of_pos (h y (List.mem_cons_self ..))]; exact dropAll fun z hz => h z (List.mem_cons_of_mem _ hz)

theorem insC_eq {α : Type} (c : α → α → Int) (x : α) : ∀ (r l : List α), (∀ y ∈ r, c y x > 0) →
    ∀ t, t = l.reverse → insC c (l ++ r) x = (match t with | [] => x :: (l ++ r) | y :: _ => if c y x > 0 then insC c (l ++ r) x else if c y x = 0 then l ++ r else l ++ x :: r) := by
  intro r l hr t ht
  have hl : l = t.reverse := by rw [ht]; simp
  have hdw : (l ++ r).reverse.dropWhile (fun y => decide (c y x > 0)) = t.dropWhile (fun y => decide (c y x > 0)) := by
    rw [List.reverse_append, List.dropWhile_append]
    have : r.reverse.dropWhile (fun y => decide (c y x > 0)) = [] := by
      exact dropAll fun y hy => by simpa using hr y (by simpa using hy)
    rw [this, ht]; rfl
  cases t with
  | nil => simp only [insC]; rw [hdw]; rfl
  | cons y t =>
    simp only
    by_cases h1 : c y x > 0
    · rw [if_pos h1]
    · rw [if_neg h1]
      simp only [insC]
      rw [hdw, List.dropWhile_cons_of_neg (by simpa using h1)]
      simp only
      by_cases h2 : c y x = 0
      · rw [if_pos h2, if_pos h2]
      · rw [if_neg h2, if_neg h2, ← hl]
        congr 2
        have : (y :: t).length = l.length := by rw [hl]; simp
        rw [this]; simp

end Go.Proofs.Ytfeijnbommgigaa.Abs
