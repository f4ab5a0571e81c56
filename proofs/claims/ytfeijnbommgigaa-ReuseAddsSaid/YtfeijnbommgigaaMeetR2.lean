/- The functions that sort a row and take out what is there twice. (The loops printed by meetr2.py.) -/
import Derived.Test.YtfeijnbommgigaaMeetR1
namespace Go.Proofs.Ytfeijnbommgigaa.Abs
open Go

theorem twoR_of {a b : Rec} (h1 : recOk a = true) (h2 : recOk b = true) : twoR a b = true := by
  simp only [recOk, decide_eq_true_eq] at h1 h2
  simp [twoR, twoV, h1, h2]

theorem take_set_next {α : Type} : ∀ (s : List α) (k : Nat) (x : α), k < s.length → (s.set k x).take (k + 1) = s.take k ++ [x]
  | [], _, _, h => by simp at h
  | y :: s, 0, x, _ => by simp
  | y :: s, k + 1, x, h => by
    have := take_set_next s k x (by simpa using h)
    simp only [List.set_cons_succ, List.take_succ_cons, this, List.cons_append]

theorem valuesR_l9 (fuel n4 : Nat) (out_hi : Nat) (l : List Alt) (t8 : Int) : ∀ (n : Nat) (rest : List Val) (prev : Val) (s : List Val) (k lo j : Nat), rest.length < n → s.length ≤ 4294967296 → k < lo + j → 1 ≤ j → s.drop (lo + j - 1) = prev :: rest → 
    valuesR_f66_l9 fuel n4 n out_hi l t8 s.length (k : Int) lo s.length (j : Int) s = some (.val (.slice tVal) (s.take k ++ dd rCmpF prev rest)) := by
  intro n
  induction n with
  | zero => intro rest prev s k lo j h; omega
  | succ n ih =>
    intro rest prev s k lo j h hl hk hj hd 
    have hlen : lo + j + rest.length = s.length := by
      have := congrArg List.length hd; simp at this; omega
    cases rest with
    | nil =>
      simp at hlen
      rw [valuesR_f66_l9_eq, df (p := (j : Int) < _) (by omega), dt (p := (0 : Int) ≤ (k : Int)) (by omega), dt (p := (k : Int) ≤ _) (by omega)]
      simp only [cond_true, cond_false, Bool.and_self, Int.toNat_natCast, List.drop_zero, dd, List.append_nil]
      rw [List.append_assoc, List.take_append_of_le_length (by simp; omega), List.take_take, Nat.min_self]
    | cons x rest =>
      simp only [List.length_cons] at hlen h
      have g1 : s.getD (lo + (j - 1)) (zero tVal) = prev := by
        have : s[lo + j - 1]? = some prev := by
          have := congrArg (fun l => l[0]?) hd; simpa using this
        rw [show lo + (j - 1) = lo + j - 1 by omega, List.getD_eq_getElem?_getD, this]; rfl
      have hd2 : s.drop (lo + j) = x :: rest := by
        have := congrArg List.tail hd
        rw [List.tail_drop, show lo + j - 1 + 1 = lo + j by omega] at this; exact this
      have g2 : s.getD (lo + j) (zero tVal) = x := by
        have : s[lo + j]? = some x := by
          have := congrArg (fun l => l[0]?) hd2; simpa using this
        rw [List.getD_eq_getElem?_getD, this]; rfl
      have e1 : w64 ((j : Int) - 1) = ((j - 1 : Nat) : Int) := by rw [w64_id (by omega) (by omega)]; omega
      have e2 : w64 ((j : Int) + 1) = ((j + 1 : Nat) : Int) := by rw [w64_id (by omega) (by omega)]; omega
      have e3 : w64 ((k : Int) + 1) = ((k + 1 : Nat) : Int) := by rw [w64_id (by omega) (by omega)]; omega
      rw [valuesR_f66_l9_eq, e1]
      simp only [Int.toNat_natCast, g1, g2]
      rw [dt (p := (j : Int) < _) (by omega), dt (p := (0 : Int) ≤ (j : Int)) (by omega), dt (p := (0 : Int) ≤ ((j - 1 : Nat) : Int)) (by omega), dt (p := ((j - 1 : Nat) : Int) < _) (by omega),
        dt (p := (0 : Int) ≤ (k : Int)) (by omega), dt (p := (k : Int) < _) (by omega), valuesR_f66_j10_eq, valuesR_f66_j10_eq, e2, e3, eqV_cmp]
      simp only [cond_true, Bool.and_self, dd]
      by_cases h0 : rCmpF x prev = 0
      · have next := ih rest x s k lo (j + 1) (by omega) hl (by omega) (by omega) (by rw [show lo + (j + 1) - 1 = lo + j by omega]; exact hd2) 
        rw [dt h0, next]; simp [h0]
      · have next := ih rest x (s.set k x) (k + 1) lo (j + 1) (by omega) (by simpa using hl) (by omega) (by omega) (by
          rw [show lo + (j + 1) - 1 = lo + j by omega, List.drop_set_of_lt (by omega)]; exact hd2) 
        rw [List.length_set] at next
        rw [df h0]
        simp only [Bool.not_false, cond_true, h0, if_false]
        rw [next]
        rw [take_set_next s k x (by omega)]; simp

theorem valuesR_l4 (fuel : Nat) (out_hi : Nat) (l : List Alt) (t8 : Int) : ∀ (n : Nat) (rest : List Val) (prev : Val) (pre : List Val), rest.length < n → rest.length < fuel → (pre ++ prev :: rest).length ≤ 4294967296 → 
    valuesR_f66_l4 fuel n out_hi l t8 (pre ++ prev :: rest).length (((pre.length + 1 : Nat)) : Int) (pre ++ prev :: rest) = some (.val (.slice tVal) (pre ++ prev :: dd rCmpF prev rest)) := by
  intro n
  induction n with
  | zero => intro rest prev pre h; omega
  | succ n ih =>
    intro rest prev pre h hf hl 
    cases rest with
    | nil =>
      rw [valuesR_f66_l4_eq, df (p := ((pre.length + 1 : Nat) : Int) < _) (by simp)]
      simp only [cond_false, dd, List.take_length, List.drop_zero]
    | cons x rest =>
      simp only [List.length_cons] at h hf
      have hlen : (pre ++ prev :: x :: rest).length = pre.length + 2 + rest.length := by simp; omega
      have g1 : (pre ++ prev :: x :: rest).getD pre.length (zero tVal) = prev := by simp
      have g2 : (pre ++ prev :: x :: rest).getD (pre.length + 1) (zero tVal) = x := by
        rw [show pre ++ prev :: x :: rest = (pre ++ [prev]) ++ x :: rest by simp, show pre.length + 1 = (pre ++ [prev]).length by simp]
        simp
      have e1 : w64 (((pre.length + 1 : Nat) : Int) - 1) = (pre.length : Int) := by rw [w64_id (by omega) (by omega)]; omega
      have e2 : w64 (((pre.length + 1 : Nat) : Int) + 1) = (((pre ++ [prev]).length + 1 : Nat) : Int) := by rw [w64_id (by omega) (by omega)]; simp
      have next := ih rest x (pre ++ [prev]) (by omega) (by omega) (by simpa using hl) 
      rw [show (pre ++ [prev]) ++ x :: rest = pre ++ prev :: x :: rest by simp] at next
      have nine := valuesR_l9 fuel n out_hi l t8 fuel rest x (pre ++ prev :: x :: rest) (pre.length + 1) (pre.length + 1) 1 (by omega) hl (by omega) (by omega) (by
        rw [show pre.length + 1 + 1 - 1 = (pre ++ [prev]).length by simp, show pre ++ prev :: x :: rest = (pre ++ [prev]) ++ x :: rest by simp, List.drop_left]) 
      rw [valuesR_f66_l4_eq, e1, e2, next]
      simp only [Int.toNat_natCast, g1, g2]
      rw [dt (p := ((pre.length + 1 : Nat) : Int) < _) (by omega), dt (p := (0 : Int) ≤ ((pre.length + 1 : Nat) : Int)) (by omega), dt (p := (0 : Int) ≤ (pre.length : Int)) (by omega), dt (p := (pre.length : Int) < _) (by omega),
        dt (p := ((pre.length + 1 : Nat) : Int) ≤ _) (by omega), eqV_cmp, show (1 : Int) = ((1 : Nat) : Int) from rfl, nine]
      simp only [cond_true, Bool.and_self, dd]
      by_cases h0 : rCmpF x prev = 0
      · rw [dt h0]
        simp only [cond_true, h0, if_true]
        rw [show pre ++ prev :: x :: rest = (pre ++ [prev]) ++ x :: rest by simp, show pre.length + 1 = (pre ++ [prev]).length by simp, List.take_left]; simp
      · rw [df h0]; simp [h0]

theorem addR_l9 (fuel n4 : Nat) (l_hi : Nat) (a b : List Rec) (t15 : Int) : ∀ (n : Nat) (rest : List Rec) (prev : Rec) (s : List Rec) (k lo j : Nat), rest.length < n → s.length ≤ 4294967296 → k < lo + j → 1 ≤ j → s.drop (lo + j - 1) = prev :: rest → (∀ y ∈ prev :: rest, recOk y = true) →
    addR_f44_l9 fuel n4 n l_hi a b t15 s.length (k : Int) lo s.length (j : Int) s = some (.val (.slice tRecord) (s.take k ++ dd cmpRF prev rest)) := by
  intro n
  induction n with
  | zero => intro rest prev s k lo j h; omega
  | succ n ih =>
    intro rest prev s k lo j h hl hk hj hd hok
    have hlen : lo + j + rest.length = s.length := by
      have := congrArg List.length hd; simp at this; omega
    cases rest with
    | nil =>
      simp at hlen
      rw [addR_f44_l9_eq, df (p := (j : Int) < _) (by omega), dt (p := (0 : Int) ≤ (k : Int)) (by omega), dt (p := (k : Int) ≤ _) (by omega)]
      simp only [cond_true, cond_false, Bool.and_self, Int.toNat_natCast, List.drop_zero, dd, List.append_nil]
      rw [List.append_assoc, List.take_append_of_le_length (by simp; omega), List.take_take, Nat.min_self]
    | cons x rest =>
      simp only [List.length_cons] at hlen h
      have g1 : s.getD (lo + (j - 1)) (zero tRecord) = prev := by
        have : s[lo + j - 1]? = some prev := by
          have := congrArg (fun l => l[0]?) hd; simpa using this
        rw [show lo + (j - 1) = lo + j - 1 by omega, List.getD_eq_getElem?_getD, this]; rfl
      have hd2 : s.drop (lo + j) = x :: rest := by
        have := congrArg List.tail hd
        rw [List.tail_drop, show lo + j - 1 + 1 = lo + j by omega] at this; exact this
      have g2 : s.getD (lo + j) (zero tRecord) = x := by
        have : s[lo + j]? = some x := by
          have := congrArg (fun l => l[0]?) hd2; simpa using this
        rw [List.getD_eq_getElem?_getD, this]; rfl
      have e1 : w64 ((j : Int) - 1) = ((j - 1 : Nat) : Int) := by rw [w64_id (by omega) (by omega)]; omega
      have e2 : w64 ((j : Int) + 1) = ((j + 1 : Nat) : Int) := by rw [w64_id (by omega) (by omega)]; omega
      have e3 : w64 ((k : Int) + 1) = ((k + 1 : Nat) : Int) := by rw [w64_id (by omega) (by omega)]; omega
      rw [addR_f44_l9_eq, e1]
      simp only [Int.toNat_natCast, g1, g2]
      rw [dt (p := (j : Int) < _) (by omega), dt (p := (0 : Int) ≤ (j : Int)) (by omega), dt (p := (0 : Int) ≤ ((j - 1 : Nat) : Int)) (by omega), dt (p := ((j - 1 : Nat) : Int) < _) (by omega),
        dt (p := (0 : Int) ≤ (k : Int)) (by omega), dt (p := (k : Int) < _) (by omega), addR_f44_j10_eq, addR_f44_j10_eq, e2, e3, show sameR1F x prev = decide (cmpRF x prev = 0) from rfl, twoR_of (hok x (by simp)) (hok prev (by simp))]
      simp only [cond_true, Bool.and_self, dd]
      by_cases h0 : cmpRF x prev = 0
      · have next := ih rest x s k lo (j + 1) (by omega) hl (by omega) (by omega) (by rw [show lo + (j + 1) - 1 = lo + j by omega]; exact hd2) (fun y hy => hok y (List.mem_cons_of_mem _ hy))
        rw [dt h0, next]; simp [h0]
      · have next := ih rest x (s.set k x) (k + 1) lo (j + 1) (by omega) (by simpa using hl) (by omega) (by omega) (by
          rw [show lo + (j + 1) - 1 = lo + j by omega, List.drop_set_of_lt (by omega)]; exact hd2) (fun y hy => hok y (List.mem_cons_of_mem _ hy))
        rw [List.length_set] at next
        rw [df h0]
        simp only [Bool.not_false, cond_true, h0, if_false]
        rw [next]
        rw [take_set_next s k x (by omega)]; simp

theorem addR_l4 (fuel : Nat) (l_hi : Nat) (a b : List Rec) (t15 : Int) : ∀ (n : Nat) (rest : List Rec) (prev : Rec) (pre : List Rec), rest.length < n → rest.length < fuel → (pre ++ prev :: rest).length ≤ 4294967296 → (∀ y ∈ prev :: rest, recOk y = true) →
    addR_f44_l4 fuel n l_hi a b t15 (pre ++ prev :: rest).length (((pre.length + 1 : Nat)) : Int) (pre ++ prev :: rest) = some (.val (.slice tRecord) (pre ++ prev :: dd cmpRF prev rest)) := by
  intro n
  induction n with
  | zero => intro rest prev pre h; omega
  | succ n ih =>
    intro rest prev pre h hf hl hok
    cases rest with
    | nil =>
      rw [addR_f44_l4_eq, df (p := ((pre.length + 1 : Nat) : Int) < _) (by simp)]
      simp only [cond_false, dd, List.take_length, List.drop_zero]
    | cons x rest =>
      simp only [List.length_cons] at h hf
      have hlen : (pre ++ prev :: x :: rest).length = pre.length + 2 + rest.length := by simp; omega
      have g1 : (pre ++ prev :: x :: rest).getD pre.length (zero tRecord) = prev := by simp
      have g2 : (pre ++ prev :: x :: rest).getD (pre.length + 1) (zero tRecord) = x := by
        rw [show pre ++ prev :: x :: rest = (pre ++ [prev]) ++ x :: rest by simp, show pre.length + 1 = (pre ++ [prev]).length by simp]
        simp
      have e1 : w64 (((pre.length + 1 : Nat) : Int) - 1) = (pre.length : Int) := by rw [w64_id (by omega) (by omega)]; omega
      have e2 : w64 (((pre.length + 1 : Nat) : Int) + 1) = (((pre ++ [prev]).length + 1 : Nat) : Int) := by rw [w64_id (by omega) (by omega)]; simp
      have next := ih rest x (pre ++ [prev]) (by omega) (by omega) (by simpa using hl) (fun y hy => hok y (List.mem_cons_of_mem _ hy))
      rw [show (pre ++ [prev]) ++ x :: rest = pre ++ prev :: x :: rest by simp] at next
      have nine := addR_l9 fuel n l_hi a b t15 fuel rest x (pre ++ prev :: x :: rest) (pre.length + 1) (pre.length + 1) 1 (by omega) hl (by omega) (by omega) (by
        rw [show pre.length + 1 + 1 - 1 = (pre ++ [prev]).length by simp, show pre ++ prev :: x :: rest = (pre ++ [prev]) ++ x :: rest by simp, List.drop_left]) (fun y hy => hok y (List.mem_cons_of_mem _ hy))
      rw [addR_f44_l4_eq, e1, e2, next]
      simp only [Int.toNat_natCast, g1, g2]
      rw [dt (p := ((pre.length + 1 : Nat) : Int) < _) (by omega), dt (p := (0 : Int) ≤ ((pre.length + 1 : Nat) : Int)) (by omega), dt (p := (0 : Int) ≤ (pre.length : Int)) (by omega), dt (p := (pre.length : Int) < _) (by omega),
        dt (p := ((pre.length + 1 : Nat) : Int) ≤ _) (by omega), show sameR1F x prev = decide (cmpRF x prev = 0) from rfl, twoR_of (hok x (by simp)) (hok prev (by simp)), show (1 : Int) = ((1 : Nat) : Int) from rfl, nine]
      simp only [cond_true, Bool.and_self, dd]
      by_cases h0 : cmpRF x prev = 0
      · rw [dt h0]
        simp only [cond_true, h0, if_true]
        rw [show pre ++ prev :: x :: rest = (pre ++ [prev]) ++ x :: rest by simp, show pre.length + 1 = (pre ++ [prev]).length by simp, List.take_left]; simp
      · rw [df h0]; simp [h0]

theorem valuesR_loop (fuel : Nat) (l : List Alt) (hf : l.length < fuel) (hl : l.length ≤ 1048576) : ∀ (n : Nat) (r p : List Alt), r.length < n → l = p ++ r →
    valuesR_l3 fuel n l (p.map (fun a : Alt => a.2.1)).length (p.length : Int) (p.map (fun a : Alt => a.2.1)) = some (.val (.slice tVal) (valuesF l)) := by
  intro n
  induction n with
  | zero => intro r p h; omega
  | succ n ih =>
    intro r p h hp
    have hpl : p.length + r.length = l.length := by rw [hp]; simp
    cases r with
    | nil =>
      have hp : l = p := by simpa using hp
      subst hp
      have hv : valuesF l = (l.map (fun a : Alt => a.2.1)).foldl (insC rCmpF) [] := by rw [List.foldl_map]; rfl
      have hlim : decide ((l.map (fun a : Alt => a.2.1)).length ≤ LIM) = true := dt (by simp only [List.length_map]; unfold LIM; omega)
      have hall : (l.map (fun a : Alt => a.2.1)).all allV = true := by simp [allV]
      rw [valuesR_l3_eq, df (p := (l.length : Int) < _) (by omega), hlim, hall, hv, fold_sort rCmp_pre rCmp_zero]
      have hlen := (sortD_perm rCmpF (l.map (fun a : Alt => a.2.1))).length_eq
      simp only [cond_false, cond_true, Bool.and_self, List.take_zero, List.nil_append, List.take_length, List.drop_zero, List.drop_length, List.append_nil]
      cases e : sortD rCmpF (l.map (fun a : Alt => a.2.1)) with
      | nil =>
        rw [e] at hlen
        rw [dt (by rw [← hlen]; decide)]; simp
      | cons y s =>
        rw [e] at hlen
        cases s with
        | nil => rw [dt (by rw [← hlen]; simp), ← hlen]; rfl
        | cons z s =>
          rw [df (by rw [← hlen]; simp; omega)]
          have hsl : (y :: z :: s).length = l.length := by rw [hlen]; simp
          have := valuesR_l4 fuel (l.map (fun a : Alt => a.2.1)).length l (l.length : Int) fuel (z :: s) y [] (by simp at hsl ⊢; omega) (by simp at hsl ⊢; omega) (by simp at hsl ⊢; omega)
          rw [List.nil_append, hlen] at this
          rw [cond_false]; exact this
    | cons c r =>
      have next := ih r (p ++ [c]) (by simp at h; omega) (by simp [hp])
      rw [hp] at next ⊢
      rw [← nx_len p c (by simp at hpl; omega)] at next
      rw [valuesR_l3_eq, ix_mid, lt_mid, nn_len, dt (by simp only [List.length_map, List.length_cons, List.length_nil] at *; unfold LIM; omega), List.take_length]
      simp only [cond_true, Bool.and_self]
      rw [← next]; simp

theorem valuesR_meets (l : List Alt) (h : lenA l = true) : ∃ fuel, valuesR_run fuel l = some (.val (.slice tVal) (valuesF l)) :=
  ⟨l.length + 1, by rw [valuesR_eq]; exact valuesR_loop (l.length + 1) l (by omega) (of_decide_eq_true h) (l.length + 1) l [] (by omega) rfl⟩

theorem copy_id (vs : List Val) (z : Val) : ((List.take (Int.toNat (vs.length : Int)) (List.take 0 (List.replicate (Int.toNat (vs.length : Int)) z) ++ List.take (Nat.min (List.length vs) (Int.toNat (vs.length : Int))) vs ++ List.drop (Nat.min (List.length vs) (Int.toNat (vs.length : Int))) (List.replicate (Int.toNat (vs.length : Int)) z))).drop 0) = vs := by
  have : Nat.min vs.length vs.length = vs.length := Nat.min_self _
  simp [this]

theorem addR_l6_loop (fuel n3 : Nat) (a b : List Rec) (t15 : Int) : ∀ (n : Nat) (r p acc : List Rec), ix (.slice tRecord) [a, b] t15 = p ++ r → r.length < n → (acc ++ (p ++ r)).length ≤ 4294967296 → (∀ y ∈ r, recOk y = true) →
    addR_l6 fuel n3 n a b t15 (acc ++ p).length (p.length : Int) (acc ++ p) = addR_l3 fuel n3 a b (acc ++ (p ++ r)).length (w64 (t15 + 1)) (acc ++ (p ++ r)) := by
  intro n
  induction n with
  | zero => intro r p acc _ h; omega
  | succ n ih =>
    intro r p acc hL h hl hok
    cases r with
    | nil => rw [addR_l6_eq, hL, lt_end, List.append_nil]; rfl
    | cons c r =>
      have hl' : acc.length + (p.length + (r.length + 1)) ≤ 4294967296 := by simpa using hl
      have next := ih r (p ++ [c]) acc (by rw [hL]; simp) (by simp at h; omega) (by simp; omega) (fun y hy => hok y (List.mem_cons_of_mem _ hy))
      rw [← as_mid, ← nx_len p c (by omega)] at next
      have hc : recOk c = true := hok c (by simp)
      have hc : c.2.2.1.length ≤ 4294967296 := of_decide_eq_true hc
      rw [addR_l6_eq, hL, ix_mid, lt_mid, nn_len]
      rw [addR_j11_eq, copy_id, dt (p := (0 : Int) ≤ (c.2.2.1.length : Int)) (by omega), dt (p := (c.2.2.1.length : Int) ≤ (c.2.2.1.length : Int)) (by omega), dt (p := (c.2.2.1.length : Int) ≤ (LIM : Int)) (by unfold LIM; omega)]
      rw [dt (p := (acc ++ p).length + _ ≤ LIM) (by simp only [List.length_append, List.length_cons, List.length_nil]; unfold LIM; omega), List.take_length]
      simp only [cond_true, Bool.and_self]
      rw [← next]
      simp only [List.length_append, List.length_cons, List.length_nil, List.append_assoc]
      rfl

theorem addR_end (fuel n : Nat) (a b l : List Rec) (hf : l.length < fuel) (hl : l.length ≤ 1048576) (hok : ∀ y ∈ l, recOk y = true) :
    addR_l3 fuel (n + 1) a b l.length 2 l = some (.val (.slice tRecord) (l.foldl (insC cmpRF) [])) := by
  have hlim : decide (l.length ≤ LIM) = true := dt (by unfold LIM; omega)
  have hall : l.all recOk = true := by simpa using hok
  rw [addR_l3_eq, df (p := (2 : Int) < _) (by simp), hlim, hall, fold_sort cmpR_pre cmpR_zero]
  have hperm := sortD_perm cmpRF l
  have hlen := hperm.length_eq
  simp only [cond_false, cond_true, Bool.and_self, List.take_zero, List.nil_append, List.take_length, List.drop_zero, List.drop_length, List.append_nil]
  cases e : sortD cmpRF l with
  | nil =>
    rw [e] at hlen
    rw [dt (by rw [← hlen]; decide)]; simp
  | cons y s =>
    rw [e] at hlen hperm
    cases s with
    | nil => rw [dt (by rw [← hlen]; simp), ← hlen]; rfl
    | cons z s =>
      rw [df (by rw [← hlen]; simp; omega)]
      have := addR_l4 fuel l.length a b 2 fuel (z :: s) y [] (by simp at hlen ⊢; omega) (by simp at hlen ⊢; omega) (by simp at hlen ⊢; omega) (fun y hy => hok y (hperm.mem_iff.1 hy))
      rw [List.nil_append, hlen] at this
      rw [cond_false]; exact this

theorem addG_split {a b : List Rec} (h : addG a b = true) : a.length + b.length ≤ 1048576 ∧ (∀ y ∈ a, recOk y = true) ∧ (∀ y ∈ b, recOk y = true) := by
  simp only [addG, Bool.and_eq_true, decide_eq_true_eq, List.all_eq_true] at h
  exact ⟨h.1.1, h.1.2, h.2⟩

theorem addR_meets (a b : List Rec) (h : addG a b = true) : ∃ fuel, addR_run fuel a b = some (.val (.slice tRecord) (addF a b)) := by
  obtain ⟨h1, h2, h3⟩ := addG_split h
  refine ⟨a.length + b.length + 3, ?_⟩
  have e1 := addR_l6_loop (a.length + b.length + 3) (a.length + b.length + 2) a b 0 (a.length + b.length + 3) a [] [] rfl (by omega) (by simp; omega) h2
  have e2 := addR_l6_loop (a.length + b.length + 3) (a.length + b.length + 1) a b 1 (a.length + b.length + 3) b [] a rfl (by omega) (by simp; omega) h3
  have e3 := addR_end (a.length + b.length + 3) (a.length + b.length) a b (a ++ b) (by simp) (by simpa using h1) (fun y hy => (List.mem_append.1 hy).elim (h2 y) (h3 y))
  simp only [List.nil_append, List.append_nil] at e1 e2
  rw [show w64 (0 + 1) = 1 from by decide] at e1
  rw [show w64 (1 + 1) = 2 from by decide] at e2
  rw [addR_eq, addR_l3_eq]
  refine Eq.trans e1 ?_
  rw [addR_l3_eq]
  refine Eq.trans e2 ?_
  rw [e3, List.foldl_append]
  rfl

end Go.Proofs.Ytfeijnbommgigaa.Abs
