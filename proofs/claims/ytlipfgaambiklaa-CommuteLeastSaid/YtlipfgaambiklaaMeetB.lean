/- The functions that visit two lists in step: what they compute, as one merge. (Printed by meetb.py.) -/
import Derived.Test.YtlipfgaambiklaaMeetA
namespace Go.Proofs.Ytlipfgaambiklaa.Abs
open Go
set_option linter.unusedSimpArgs false
set_option linter.unusedVariables false

/-- Two lists in step: `f` at a shared register, `g` at one of the first list, `h` at one of the second. -/
def mrg (f : Cell → Cell → List Cell) (g h : Cell → List Cell) : Nat → List Cell → List Cell → List Cell
  | 0, _, _ => []
  | _ + 1, [], b => b.flatMap h
  | _ + 1, x :: a, [] => (x :: a).flatMap g
  | n + 1, x :: a, y :: b => if sameC x y = true then f x y ++ mrg f g h n a b else if ltC x y = true then g x ++ mrg f g h n a (y :: b) else h y ++ mrg f g h n (x :: a) b

theorem pos_len (c : Cell) (r : List Cell) : (((c :: r).length : Int) > 0) = True := eq_true (by simp only [List.length_cons]; omega)
theorem pos_len' (c : Cell) (r : List Cell) : (0 < ((c :: r).length : Int)) = True := eq_true (by simp only [List.length_cons]; omega)
theorem one_len (c : Cell) (r : List Cell) : (1 ≤ ((c :: r).length : Int)) = True := eq_true (by simp only [List.length_cons]; omega)
theorem pos_nil : decide (((([] : List Cell).length : Nat) : Int) > 0) = false := rfl
theorem zz : (0 ≤ (0 : Int)) = True := eq_true (by decide)
theorem zo : (0 ≤ (1 : Int)) = True := eq_true (by decide)
theorem room (out : List Cell) (c : Cell) (h : out.length < 4294967296) : (List.length out + List.length ([c] : List tCell.den) ≤ LIM) = True :=
  eq_true (by show out.length + 1 ≤ 4294967296; omega)
def keepNz (y : Cell) : List Cell := if nz y = true then [y] else []
def zeroed (y : Cell) : Cell := (y.1, y.2.1, zVal, ())
def keepNe (x y : Cell) : List Cell := if eqD tVal y.2.2.1 x.2.2.1 = true then [] else [y]
theorem len_keep (y : Cell) : (keepNz y).length ≤ 1 := by unfold keepNz; split <;> simp
theorem len_keepNe (x y : Cell) : (keepNe x y).length ≤ 1 := by unfold keepNe; split <;> simp

theorem compose_l17 (fuel : Nat) (A : (Ty.slice tCell).den) (B : List Cell) : ∀ (n : Nat) (r p out : List Cell), r.length < n → r.length + p.length ≤ 4294967296 → r.length + out.length ≤ 4294967296 →
    compose_f27_l17 fuel n (p ++ r) A B (p.length : Int) out = some (.val (.slice tCell) (out ++ r.flatMap (fun c => [c]))) := by
  intro n
  induction n with
  | zero => intro r p out h; omega
  | succ n ih =>
    intro r p out h hp hl
    cases r with
    | nil => rw [compose_f27_l17_eq, lt_end]; simp
    | cons c r =>
      simp only [List.length_cons] at h hp hl
      have next : ∀ out' : List Cell, out'.length ≤ out.length + 1 → compose_f27_l17 fuel n (p ++ c :: r) A B (w64 ((p.length : Int) + 1)) out' = some (.val (.slice tCell) (out' ++ r.flatMap (fun c => [c]))) := by
        intro out' ho
        rw [as_mid, nx_len p c (by omega)]
        exact ih r (p ++ [c]) out' (by omega) (by simp only [List.length_append, List.length_cons, List.length_nil]; omega) (by omega)
      rw [compose_f27_l17_eq, lt_mid, nn_len]
      try rw [ix_mid]
      have e := room out (c) (by omega)
      try rw [decide_eq_true (of_eq_true e)]
      simp only [cond_true, Bool.and_self]
      refine (next (out ++ [c]) (by simp)).trans ?_
      simp

theorem compose_l12 (fuel : Nat) (A : (Ty.slice tCell).den) (B t1 : List Cell) : ∀ (n : Nat) (r p out : List Cell), r.length < n → t1.length < fuel → r.length + p.length ≤ 4294967296 → r.length + out.length + t1.length ≤ 4294967296 →
    compose_f27_l12 fuel n t1 (p ++ r) A B (p.length : Int) out = some (.val (.slice tCell) (out ++ r.flatMap (fun c => [c]) ++ t1.flatMap (fun c => [c]))) := by
  intro n
  induction n with
  | zero => intro r p out h; omega
  | succ n ih =>
    intro r p out h hf hp hl
    cases r with
    | nil =>
      rw [compose_f27_l12_eq, lt_end]
      have := compose_l17 fuel A B fuel t1 [] out hf (by simp at hl ⊢; omega) (by simp at hl ⊢; omega)
      simpa using this
    | cons c r =>
      simp only [List.length_cons] at h hp hl
      have next : ∀ out' : List Cell, out'.length ≤ out.length + 1 → compose_f27_l12 fuel n t1 (p ++ c :: r) A B (w64 ((p.length : Int) + 1)) out' = some (.val (.slice tCell) (out' ++ r.flatMap (fun c => [c]) ++ t1.flatMap (fun c => [c]))) := by
        intro out' ho
        rw [as_mid, nx_len p c (by omega)]
        exact ih r (p ++ [c]) out' (by omega) hf (by simp only [List.length_append, List.length_cons, List.length_nil]; omega) (by omega)
      rw [compose_f27_l12_eq, lt_mid, nn_len]
      try rw [ix_mid]
      have e := room out (c) (by omega)
      try rw [decide_eq_true (of_eq_true e)]
      simp only [cond_true, Bool.and_self]
      refine (next (out ++ [c]) (by simp)).trans ?_
      simp

theorem compose_l1 (fuel : Nat) (A : (Ty.slice tCell).den) (B : List Cell) : ∀ (n : Nat) (a b out : List Cell), a.length + b.length < n → a.length + b.length < fuel → a.length + b.length + out.length ≤ 4294967296 →
    compose_f27_l1 fuel n A B a b out = some (.val (.slice tCell) (out ++ mrg (fun _ y => [y]) (fun c => [c]) (fun c => [c]) n a b)) := by
  intro n
  induction n with
  | zero => intro a b out h; omega
  | succ n ih =>
    intro a b out h hf hl
    cases a with
    | nil =>
      rw [compose_f27_l1_eq, pos_nil]
      have := compose_l12 fuel A B b fuel [] [] out (by simp; omega) (by simp at hf; omega) (by simp) (by simp at hl ⊢; omega)
      simpa [mrg] using this
    | cons x a => cases b with
      | nil =>
        have px : decide (((x :: a).length : Int) > 0) = true := decide_eq_true (of_eq_true (pos_len x a))
        rw [compose_f27_l1_eq, pos_nil, px]
        have := compose_l12 fuel A B [] fuel (x :: a) [] out (by simpa using hf) (by simp; omega) (by simp at hl ⊢; omega) (by simp at hl ⊢; omega)
        simpa [mrg] using this
      | cons y b =>
        simp only [List.length_cons] at h hf hl
        have n1 := fun (out' : List Cell) (ho : out'.length ≤ out.length + 1) => ih a b out' (by omega) (by omega) (by omega)
        have n2 := fun (out' : List Cell) (ho : out'.length ≤ out.length + 1) => ih a (y :: b) out' (by simp; omega) (by simp; omega) (by simp; omega)
        have n3 := fun (out' : List Cell) (ho : out'.length ≤ out.length + 1) => ih (x :: a) b out' (by simp; omega) (by simp; omega) (by simp; omega)
        rw [compose_f27_l1_eq]
        have dx := drop_one x a
        have dy := drop_one y b
        have ix0 : ix tCell (x :: a) 0 = x := rfl
        have iy0 : ix tCell (y :: b) 0 = y := rfl
        have px : decide (((x :: a).length : Int) > 0) = true := decide_eq_true (of_eq_true (pos_len x a))
        have py : decide (((y :: b).length : Int) > 0) = true := decide_eq_true (of_eq_true (pos_len y b))
        have qx : decide (0 < ((x :: a).length : Int)) = true := px
        have qy : decide (0 < ((y :: b).length : Int)) = true := py
        have ox : decide (1 ≤ ((x :: a).length : Int)) = true := decide_eq_true (of_eq_true (one_len x a))
        have oy : decide (1 ≤ ((y :: b).length : Int)) = true := decide_eq_true (of_eq_true (one_len y b))
        rw [px, py, ix0, iy0, ox, oy]
        try rw [qx]
        try rw [qy]
        try rw [dx]
        try rw [dy]
        simp only [zz, zo, decide_true, cond_true, Bool.and_self, ofR_same, before_eq]
        rw [mrg]
        cases hs : sameC x y
        · cases hl' : ltC x y
          · simp only [cond_false, Bool.false_eq_true, if_false]
            have e := room out (y) (by omega)
            try rw [decide_eq_true (of_eq_true e)]
            simp only [cond_true, Bool.and_self]
            refine (n3 (out ++ [y]) (by simp)).trans ?_
            simp
          · simp only [cond_false, cond_true, Bool.false_eq_true, if_false, if_true]
            have e := room out (x) (by omega)
            try rw [decide_eq_true (of_eq_true e)]
            simp only [cond_true, Bool.and_self]
            refine (n2 (out ++ [x]) (by simp)).trans ?_
            simp
        · simp only [cond_true, if_true]
          have e := room out (y) (by omega)
          try rw [decide_eq_true (of_eq_true e)]
          simp only [cond_true, Bool.and_self]
          refine (n1 (out ++ [y]) (by simp)).trans ?_
          simp

theorem restC_l17 (fuel : Nat) (A : (Ty.slice tCell).den) (B : List Cell) : ∀ (n : Nat) (r p out : List Cell), r.length < n → r.length + p.length ≤ 4294967296 → r.length + out.length ≤ 4294967296 →
    restC_f27_l17 fuel n (p ++ r) A B (p.length : Int) out = some (.val (.slice tCell) (out ++ r.flatMap (fun _ => []))) := by
  intro n
  induction n with
  | zero => intro r p out h; omega
  | succ n ih =>
    intro r p out h hp hl
    cases r with
    | nil => rw [restC_f27_l17_eq, lt_end]; simp
    | cons c r =>
      simp only [List.length_cons] at h hp hl
      have next : ∀ out' : List Cell, out'.length ≤ out.length + 1 → restC_f27_l17 fuel n (p ++ c :: r) A B (w64 ((p.length : Int) + 1)) out' = some (.val (.slice tCell) (out' ++ r.flatMap (fun _ => []))) := by
        intro out' ho
        rw [as_mid, nx_len p c (by omega)]
        exact ih r (p ++ [c]) out' (by omega) (by simp only [List.length_append, List.length_cons, List.length_nil]; omega) (by omega)
      rw [restC_f27_l17_eq, lt_mid, nn_len]
      try rw [ix_mid]
      simp only [cond_true, Bool.and_self]
      refine (next out (by omega)).trans ?_
      simp

theorem restC_l12 (fuel : Nat) (A : (Ty.slice tCell).den) (B t1 : List Cell) : ∀ (n : Nat) (r p out : List Cell), r.length < n → t1.length < fuel → r.length + p.length ≤ 4294967296 → r.length + out.length + t1.length ≤ 4294967296 →
    restC_f27_l12 fuel n t1 (p ++ r) A B (p.length : Int) out = some (.val (.slice tCell) (out ++ r.flatMap (fun c => [c]) ++ t1.flatMap (fun _ => []))) := by
  intro n
  induction n with
  | zero => intro r p out h; omega
  | succ n ih =>
    intro r p out h hf hp hl
    cases r with
    | nil =>
      rw [restC_f27_l12_eq, lt_end]
      have := restC_l17 fuel A B fuel t1 [] out hf (by simp at hl ⊢; omega) (by simp at hl ⊢; omega)
      simpa using this
    | cons c r =>
      simp only [List.length_cons] at h hp hl
      have next : ∀ out' : List Cell, out'.length ≤ out.length + 1 → restC_f27_l12 fuel n t1 (p ++ c :: r) A B (w64 ((p.length : Int) + 1)) out' = some (.val (.slice tCell) (out' ++ r.flatMap (fun c => [c]) ++ t1.flatMap (fun _ => []))) := by
        intro out' ho
        rw [as_mid, nx_len p c (by omega)]
        exact ih r (p ++ [c]) out' (by omega) hf (by simp only [List.length_append, List.length_cons, List.length_nil]; omega) (by omega)
      rw [restC_f27_l12_eq, lt_mid, nn_len]
      try rw [ix_mid]
      have e := room out (c) (by omega)
      try rw [decide_eq_true (of_eq_true e)]
      simp only [cond_true, Bool.and_self]
      refine (next (out ++ [c]) (by simp)).trans ?_
      simp

theorem restC_l1 (fuel : Nat) (A : (Ty.slice tCell).den) (B : List Cell) : ∀ (n : Nat) (a b out : List Cell), a.length + b.length < n → a.length + b.length < fuel → a.length + b.length + out.length ≤ 4294967296 →
    restC_f27_l1 fuel n A B a b out = some (.val (.slice tCell) (out ++ mrg (fun _ _ => []) (fun c => [c]) (fun _ => []) n a b)) := by
  intro n
  induction n with
  | zero => intro a b out h; omega
  | succ n ih =>
    intro a b out h hf hl
    cases a with
    | nil =>
      rw [restC_f27_l1_eq, pos_nil]
      have := restC_l12 fuel A B b fuel [] [] out (by simp; omega) (by simp at hf; omega) (by simp) (by simp at hl ⊢; omega)
      simpa [mrg] using this
    | cons x a => cases b with
      | nil =>
        have px : decide (((x :: a).length : Int) > 0) = true := decide_eq_true (of_eq_true (pos_len x a))
        rw [restC_f27_l1_eq, pos_nil, px]
        have := restC_l12 fuel A B [] fuel (x :: a) [] out (by simpa using hf) (by simp; omega) (by simp at hl ⊢; omega) (by simp at hl ⊢; omega)
        simpa [mrg] using this
      | cons y b =>
        simp only [List.length_cons] at h hf hl
        have n1 := fun (out' : List Cell) (ho : out'.length ≤ out.length + 1) => ih a b out' (by omega) (by omega) (by omega)
        have n2 := fun (out' : List Cell) (ho : out'.length ≤ out.length + 1) => ih a (y :: b) out' (by simp; omega) (by simp; omega) (by simp; omega)
        have n3 := fun (out' : List Cell) (ho : out'.length ≤ out.length + 1) => ih (x :: a) b out' (by simp; omega) (by simp; omega) (by simp; omega)
        rw [restC_f27_l1_eq]
        have dx := drop_one x a
        have dy := drop_one y b
        have ix0 : ix tCell (x :: a) 0 = x := rfl
        have iy0 : ix tCell (y :: b) 0 = y := rfl
        have px : decide (((x :: a).length : Int) > 0) = true := decide_eq_true (of_eq_true (pos_len x a))
        have py : decide (((y :: b).length : Int) > 0) = true := decide_eq_true (of_eq_true (pos_len y b))
        have qx : decide (0 < ((x :: a).length : Int)) = true := px
        have qy : decide (0 < ((y :: b).length : Int)) = true := py
        have ox : decide (1 ≤ ((x :: a).length : Int)) = true := decide_eq_true (of_eq_true (one_len x a))
        have oy : decide (1 ≤ ((y :: b).length : Int)) = true := decide_eq_true (of_eq_true (one_len y b))
        rw [px, py, ix0, iy0, ox, oy]
        try rw [qx]
        try rw [qy]
        try rw [dx]
        try rw [dy]
        simp only [zz, zo, decide_true, cond_true, Bool.and_self, ofR_same, before_eq]
        rw [mrg]
        cases hs : sameC x y
        · cases hl' : ltC x y
          · simp only [cond_false, Bool.false_eq_true, if_false]
            refine (n3 out (by omega)).trans ?_
            simp
          · simp only [cond_false, cond_true, Bool.false_eq_true, if_false, if_true]
            have e := room out (x) (by omega)
            try rw [decide_eq_true (of_eq_true e)]
            simp only [cond_true, Bool.and_self]
            refine (n2 (out ++ [x]) (by simp)).trans ?_
            simp
        · simp only [cond_true, if_true]
          refine (n1 out (by omega)).trans ?_
          simp

theorem inverse_l17 (fuel : Nat) (A : tModel.den) (B : List Cell) : ∀ (n : Nat) (r p out : List Cell), r.length < n → r.length + p.length ≤ 4294967296 → r.length + out.length ≤ 4294967296 →
    inverse_f27_l17 fuel n (p ++ r) A B (p.length : Int) out = some (.val (.slice tCell) (out ++ r.flatMap (fun c => [zeroed c]))) := by
  intro n
  induction n with
  | zero => intro r p out h; omega
  | succ n ih =>
    intro r p out h hp hl
    cases r with
    | nil => rw [inverse_f27_l17_eq, lt_end]; simp
    | cons c r =>
      simp only [List.length_cons] at h hp hl
      have next : ∀ out' : List Cell, out'.length ≤ out.length + 1 → inverse_f27_l17 fuel n (p ++ c :: r) A B (w64 ((p.length : Int) + 1)) out' = some (.val (.slice tCell) (out' ++ r.flatMap (fun c => [zeroed c]))) := by
        intro out' ho
        rw [as_mid, nx_len p c (by omega)]
        exact ih r (p ++ [c]) out' (by omega) (by simp only [List.length_append, List.length_cons, List.length_nil]; omega) (by omega)
      rw [inverse_f27_l17_eq, lt_mid, nn_len]
      try rw [ix_mid]
      have e := room out (zeroed c) (by omega)
      simp only [zeroed, zVal] at e
      try rw [decide_eq_true (of_eq_true e)]
      simp only [cond_true, Bool.and_self]
      refine (next (out ++ [zeroed c]) (by simp)).trans ?_
      simp

theorem inverse_l12 (fuel : Nat) (A : tModel.den) (B t1 : List Cell) : ∀ (n : Nat) (r p out : List Cell), r.length < n → t1.length < fuel → r.length + p.length ≤ 4294967296 → r.length + out.length + t1.length ≤ 4294967296 →
    inverse_f27_l12 fuel n t1 (p ++ r) A B (p.length : Int) out = some (.val (.slice tCell) (out ++ r.flatMap (fun _ => []) ++ t1.flatMap (fun c => [zeroed c]))) := by
  intro n
  induction n with
  | zero => intro r p out h; omega
  | succ n ih =>
    intro r p out h hf hp hl
    cases r with
    | nil =>
      rw [inverse_f27_l12_eq, lt_end]
      have := inverse_l17 fuel A B fuel t1 [] out hf (by simp at hl ⊢; omega) (by simp at hl ⊢; omega)
      simpa using this
    | cons c r =>
      simp only [List.length_cons] at h hp hl
      have next : ∀ out' : List Cell, out'.length ≤ out.length + 1 → inverse_f27_l12 fuel n t1 (p ++ c :: r) A B (w64 ((p.length : Int) + 1)) out' = some (.val (.slice tCell) (out' ++ r.flatMap (fun _ => []) ++ t1.flatMap (fun c => [zeroed c]))) := by
        intro out' ho
        rw [as_mid, nx_len p c (by omega)]
        exact ih r (p ++ [c]) out' (by omega) hf (by simp only [List.length_append, List.length_cons, List.length_nil]; omega) (by omega)
      rw [inverse_f27_l12_eq, lt_mid, nn_len]
      try rw [ix_mid]
      simp only [cond_true, Bool.and_self]
      refine (next out (by omega)).trans ?_
      simp

theorem inverse_l1 (fuel : Nat) (A : tModel.den) (B : List Cell) : ∀ (n : Nat) (a b out : List Cell), a.length + b.length < n → a.length + b.length < fuel → a.length + b.length + out.length ≤ 4294967296 →
    inverse_f27_l1 fuel n A B a b out = some (.val (.slice tCell) (out ++ mrg (fun x _ => [x]) (fun _ => []) (fun c => [zeroed c]) n a b)) := by
  intro n
  induction n with
  | zero => intro a b out h; omega
  | succ n ih =>
    intro a b out h hf hl
    cases a with
    | nil =>
      rw [inverse_f27_l1_eq, pos_nil]
      have := inverse_l12 fuel A B b fuel [] [] out (by simp; omega) (by simp at hf; omega) (by simp) (by simp at hl ⊢; omega)
      simpa [mrg] using this
    | cons x a => cases b with
      | nil =>
        have px : decide (((x :: a).length : Int) > 0) = true := decide_eq_true (of_eq_true (pos_len x a))
        rw [inverse_f27_l1_eq, pos_nil, px]
        have := inverse_l12 fuel A B [] fuel (x :: a) [] out (by simpa using hf) (by simp; omega) (by simp at hl ⊢; omega) (by simp at hl ⊢; omega)
        simpa [mrg] using this
      | cons y b =>
        simp only [List.length_cons] at h hf hl
        have n1 := fun (out' : List Cell) (ho : out'.length ≤ out.length + 1) => ih a b out' (by omega) (by omega) (by omega)
        have n2 := fun (out' : List Cell) (ho : out'.length ≤ out.length + 1) => ih a (y :: b) out' (by simp; omega) (by simp; omega) (by simp; omega)
        have n3 := fun (out' : List Cell) (ho : out'.length ≤ out.length + 1) => ih (x :: a) b out' (by simp; omega) (by simp; omega) (by simp; omega)
        rw [inverse_f27_l1_eq]
        have dx := drop_one x a
        have dy := drop_one y b
        have ix0 : ix tCell (x :: a) 0 = x := rfl
        have iy0 : ix tCell (y :: b) 0 = y := rfl
        have px : decide (((x :: a).length : Int) > 0) = true := decide_eq_true (of_eq_true (pos_len x a))
        have py : decide (((y :: b).length : Int) > 0) = true := decide_eq_true (of_eq_true (pos_len y b))
        have qx : decide (0 < ((x :: a).length : Int)) = true := px
        have qy : decide (0 < ((y :: b).length : Int)) = true := py
        have ox : decide (1 ≤ ((x :: a).length : Int)) = true := decide_eq_true (of_eq_true (one_len x a))
        have oy : decide (1 ≤ ((y :: b).length : Int)) = true := decide_eq_true (of_eq_true (one_len y b))
        rw [px, py, ix0, iy0, ox, oy]
        try rw [qx]
        try rw [qy]
        try rw [dx]
        try rw [dy]
        simp only [zz, zo, decide_true, cond_true, Bool.and_self, ofR_same, before_eq]
        rw [mrg]
        cases hs : sameC x y
        · cases hl' : ltC x y
          · simp only [cond_false, Bool.false_eq_true, if_false]
            have e := room out (zeroed y) (by omega)
            simp only [zeroed, zVal] at e
            try rw [decide_eq_true (of_eq_true e)]
            simp only [cond_true, Bool.and_self]
            refine (n3 (out ++ [zeroed y]) (by simp)).trans ?_
            simp
          · simp only [cond_false, cond_true, Bool.false_eq_true, if_false, if_true]
            refine (n2 out (by omega)).trans ?_
            simp
        · simp only [cond_true, if_true]
          have e := room out (x) (by omega)
          try rw [decide_eq_true (of_eq_true e)]
          simp only [cond_true, Bool.and_self]
          refine (n1 (out ++ [x]) (by simp)).trans ?_
          simp

theorem leastC_l17 (fuel : Nat) (A : tModel.den) (B : List Cell) : ∀ (n : Nat) (r p out : List Cell), r.length < n → r.length + p.length ≤ 4294967296 → r.length + out.length ≤ 4294967296 →
    leastC_f27_l17 fuel n (p ++ r) A B (p.length : Int) out = some (.val (.slice tCell) (out ++ r.flatMap keepNz)) := by
  intro n
  induction n with
  | zero => intro r p out h; omega
  | succ n ih =>
    intro r p out h hp hl
    cases r with
    | nil => rw [leastC_f27_l17_eq, lt_end]; simp
    | cons c r =>
      simp only [List.length_cons] at h hp hl
      have next : ∀ out' : List Cell, out'.length ≤ out.length + 1 → leastC_f27_l17 fuel n (p ++ c :: r) A B (w64 ((p.length : Int) + 1)) out' = some (.val (.slice tCell) (out' ++ r.flatMap keepNz)) := by
        intro out' ho
        rw [as_mid, nx_len p c (by omega)]
        exact ih r (p ++ [c]) out' (by omega) (by simp only [List.length_append, List.length_cons, List.length_nil]; omega) (by omega)
      rw [leastC_f27_l17_eq, lt_mid, nn_len]
      try rw [ix_mid]
      simp only [cond_true, Bool.and_self]
      show (bif !eqD tVal c.2.2.1 zVal then _ else _) = _
      cases hz : eqD tVal c.2.2.1 zVal
      · have e := room out c (by omega)
        simp only [cond_true, Bool.not_false]
        rw [decide_eq_true (of_eq_true e)]
        simp only [cond_true]
        refine (next (out ++ [c]) (by simp)).trans ?_
        simp [keepNz, nz, hz]
      · simp only [cond_false, Bool.not_true]
        refine (next out (by omega)).trans ?_
        simp [keepNz, nz, hz]

theorem leastC_l12 (fuel : Nat) (A : tModel.den) (B t1 : List Cell) : ∀ (n : Nat) (r p out : List Cell), r.length < n → t1.length < fuel → r.length + p.length ≤ 4294967296 → r.length + out.length + t1.length ≤ 4294967296 →
    leastC_f27_l12 fuel n t1 (p ++ r) A B (p.length : Int) out = some (.val (.slice tCell) (out ++ r.flatMap (fun _ => []) ++ t1.flatMap keepNz)) := by
  intro n
  induction n with
  | zero => intro r p out h; omega
  | succ n ih =>
    intro r p out h hf hp hl
    cases r with
    | nil =>
      rw [leastC_f27_l12_eq, lt_end]
      have := leastC_l17 fuel A B fuel t1 [] out hf (by simp at hl ⊢; omega) (by simp at hl ⊢; omega)
      simpa using this
    | cons c r =>
      simp only [List.length_cons] at h hp hl
      have next : ∀ out' : List Cell, out'.length ≤ out.length + 1 → leastC_f27_l12 fuel n t1 (p ++ c :: r) A B (w64 ((p.length : Int) + 1)) out' = some (.val (.slice tCell) (out' ++ r.flatMap (fun _ => []) ++ t1.flatMap keepNz)) := by
        intro out' ho
        rw [as_mid, nx_len p c (by omega)]
        exact ih r (p ++ [c]) out' (by omega) hf (by simp only [List.length_append, List.length_cons, List.length_nil]; omega) (by omega)
      rw [leastC_f27_l12_eq, lt_mid, nn_len]
      try rw [ix_mid]
      simp only [cond_true, Bool.and_self]
      refine (next out (by omega)).trans ?_
      simp

theorem leastC_l1 (fuel : Nat) (A : tModel.den) (B : List Cell) : ∀ (n : Nat) (a b out : List Cell), a.length + b.length < n → a.length + b.length < fuel → a.length + b.length + out.length ≤ 4294967296 →
    leastC_f27_l1 fuel n A B a b out = some (.val (.slice tCell) (out ++ mrg keepNe (fun _ => []) keepNz n a b)) := by
  intro n
  induction n with
  | zero => intro a b out h; omega
  | succ n ih =>
    intro a b out h hf hl
    cases a with
    | nil =>
      rw [leastC_f27_l1_eq, pos_nil]
      have := leastC_l12 fuel A B b fuel [] [] out (by simp; omega) (by simp at hf; omega) (by simp) (by simp at hl ⊢; omega)
      simpa [mrg] using this
    | cons x a => cases b with
      | nil =>
        have px : decide (((x :: a).length : Int) > 0) = true := decide_eq_true (of_eq_true (pos_len x a))
        rw [leastC_f27_l1_eq, pos_nil, px]
        have := leastC_l12 fuel A B [] fuel (x :: a) [] out (by simpa using hf) (by simp; omega) (by simp at hl ⊢; omega) (by simp at hl ⊢; omega)
        simpa [mrg] using this
      | cons y b =>
        simp only [List.length_cons] at h hf hl
        have n1 := fun (out' : List Cell) (ho : out'.length ≤ out.length + 1) => ih a b out' (by omega) (by omega) (by omega)
        have n2 := fun (out' : List Cell) (ho : out'.length ≤ out.length + 1) => ih a (y :: b) out' (by simp; omega) (by simp; omega) (by simp; omega)
        have n3 := fun (out' : List Cell) (ho : out'.length ≤ out.length + 1) => ih (x :: a) b out' (by simp; omega) (by simp; omega) (by simp; omega)
        rw [leastC_f27_l1_eq]
        have dx := drop_one x a
        have dy := drop_one y b
        have ix0 : ix tCell (x :: a) 0 = x := rfl
        have iy0 : ix tCell (y :: b) 0 = y := rfl
        have px : decide (((x :: a).length : Int) > 0) = true := decide_eq_true (of_eq_true (pos_len x a))
        have py : decide (((y :: b).length : Int) > 0) = true := decide_eq_true (of_eq_true (pos_len y b))
        have qx : decide (0 < ((x :: a).length : Int)) = true := px
        have qy : decide (0 < ((y :: b).length : Int)) = true := py
        have ox : decide (1 ≤ ((x :: a).length : Int)) = true := decide_eq_true (of_eq_true (one_len x a))
        have oy : decide (1 ≤ ((y :: b).length : Int)) = true := decide_eq_true (of_eq_true (one_len y b))
        rw [px, py, ix0, iy0, ox, oy]
        try rw [qx]
        try rw [qy]
        try rw [dx]
        try rw [dy]
        simp only [zz, zo, decide_true, cond_true, Bool.and_self, ofR_same, before_eq]
        rw [mrg]
        cases hs : sameC x y
        · cases hl' : ltC x y
          · simp only [cond_false, Bool.false_eq_true, if_false]
            show (bif !eqD tVal y.2.2.1 zVal then _ else _) = _
            cases hz : eqD tVal y.2.2.1 zVal
            · have e := room out y (by omega)
              simp only [cond_true, Bool.not_false]
              rw [decide_eq_true (of_eq_true e)]
              simp only [cond_true]
              refine (n3 (out ++ [y]) (by simp)).trans ?_
              simp [keepNz, nz, hz]
            · simp only [cond_false, Bool.not_true]
              refine (n3 out (by omega)).trans ?_
              simp [keepNz, nz, hz]
          · simp only [cond_false, cond_true, Bool.false_eq_true, if_false, if_true]
            refine (n2 out (by omega)).trans ?_
            simp
        · simp only [cond_true, if_true]
          cases hz : eqD tVal y.2.2.1 x.2.2.1
          · have e := room out y (by omega)
            simp only [cond_true, Bool.not_false]
            rw [decide_eq_true (of_eq_true e)]
            simp only [cond_true]
            refine (n1 (out ++ [y]) (by simp)).trans ?_
            simp [keepNe, hz]
          · simp only [cond_false, Bool.not_true]
            refine (n1 out (by omega)).trans ?_
            simp [keepNe, hz]
end Go.Proofs.Ytlipfgaambiklaa.Abs
