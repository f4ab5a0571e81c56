/- Layer 27: what stands where, the regions, the statements. -/
import Derived.Test.YtfeijnbommgigaaMeetV3
import Derived.Test.YtfeijnbommgigaaSort
namespace Go.Proofs.Ytfeijnbommgigaa.Abs
open Go

def c3 (a1 a2 a3 b1 b2 b3 : Int) : Int := orElse (icmp a1 b1) (orElse (icmp a2 b2) (icmp a3 b3))
theorem c3_le (a1 a2 a3 b1 b2 b3 : Int) : c3 a1 a2 a3 b1 b2 b3 ≤ 0 ↔ a1 < b1 ∨ (a1 = b1 ∧ (a2 < b2 ∨ (a2 = b2 ∧ a3 ≤ b3))) := by
  unfold c3 orElse icmp
  repeat' split
  all_goals omega
theorem c3_lt (a1 a2 a3 b1 b2 b3 : Int) : c3 a1 a2 a3 b1 b2 b3 < 0 ↔ a1 < b1 ∨ (a1 = b1 ∧ (a2 < b2 ∨ (a2 = b2 ∧ a3 < b3))) := by
  unfold c3 orElse icmp
  repeat' split
  all_goals omega

theorem cmpSt_c3 (a b : Stg) : cmpStF a b = c3 a.1.1 a.1.2.1 a.2.1 b.1.1 b.1.2.1 b.2.1 := rfl

theorem c3_tot (a1 a2 a3 b1 b2 b3 : Int) : c3 a1 a2 a3 b1 b2 b3 ≤ 0 ∨ c3 b1 b2 b3 a1 a2 a3 ≤ 0 := by rw [c3_le, c3_le]; omega
theorem c3_trans {a1 a2 a3 b1 b2 b3 d1 d2 d3 : Int} (h : c3 a1 a2 a3 b1 b2 b3 ≤ 0) (g : c3 b1 b2 b3 d1 d2 d3 ≤ 0) : c3 a1 a2 a3 d1 d2 d3 ≤ 0 := by rw [c3_le] at *; omega
theorem c3_anti {a1 a2 a3 b1 b2 b3 : Int} (h : c3 a1 a2 a3 b1 b2 b3 ≤ 0) (g : c3 b1 b2 b3 a1 a2 a3 ≤ 0) : a1 = b1 ∧ a2 = b2 ∧ a3 = b3 := by rw [c3_le] at *; omega
theorem c3_neg (a1 a2 a3 b1 b2 b3 : Int) : c3 a1 a2 a3 b1 b2 b3 < 0 ↔ ¬ c3 b1 b2 b3 a1 a2 a3 ≤ 0 := by rw [c3_le, c3_lt]; omega

theorem cmpSt_total : TotalCmp cmpStF :=
  ⟨fun a b => c3_tot _ _ _ _ _ _, fun a b c h g => c3_trans h g, fun a b h g => by
    obtain ⟨⟨a1, a2, u⟩, a3, u'⟩ := a
    obtain ⟨⟨b1, b2, w⟩, b3, w'⟩ := b
    obtain ⟨e1, e2, e3⟩ := c3_anti h g
    simp only at e1 e2 e3
    rw [e1, e2, e3], fun a b => c3_neg _ _ _ _ _ _⟩

theorem stand_cons (c : Cel) (r : List Cel) : standL (c :: r, ()) = (bif isHome c then [stOf c] else []) ++ standL (r, ()) := by
  simp only [standL, List.filter_cons]
  cases isHome c <;> simp

theorem home_test (c : Cel) : (bif (bif (bif (decide (c.2.1 = 2)) then (!decide (c.2.2.1.2.2.2.1 = 0)) else false) then (decide (c.2.2.1.1 ≥ 1)) else false) then (decide (c.2.2.1.1 ≤ 3)) else false) = isHome c := by
  unfold isHome
  cases decide (c.2.1 = 2) <;> cases decide (c.2.2.1.2.2.2.1 = 0) <;> cases decide (c.2.2.1.1 ≥ 1) <;> rfl

theorem standV_loop (fuel : Nat) (u : Unit) : ∀ (n : Nat) (r p : List Cel) (acc : List Stg), r.length < n → (p ++ r).length ≤ 1048576 → acc.length ≤ p.length →
    standV_l3 fuel n (p ++ r, u) acc.length (p.length : Int) acc = some (.val (.slice tStanding) (sortD cmpStF (acc ++ standL (r, ())))) := by
  intro n
  induction n with
  | zero => intro r p acc h; omega
  | succ n ih =>
    intro r p acc h hl ha
    cases r with
    | nil =>
      rw [standV_l3_eq]
      dsimp only
      rw [lt_end (t := tCell)]
      have h1 : acc.length ≤ LIM := by simp at hl; simp [LIM]; omega
      have h2 : acc.all allS = true := by simp [allS]
      have h3 : (sortD cmpStF acc).length = acc.length := (sortD_perm cmpStF acc).length_eq
      rw [dt h1, h2]
      simp only [Bool.and_self, cond_true, cond_false, standL, List.filter_nil, List.map_nil, List.append_nil, List.take_zero, List.nil_append, List.take_length, List.drop_zero, List.drop_length]
      rw [← h3, List.take_length]
    | cons c r =>
      have hl' : p.length + (r.length + 1) ≤ 1048576 := by simpa using hl
      have next := fun acc' (h' : acc'.length ≤ p.length + 1) => ih r (p ++ [c]) acc' (by simp at h; omega) (by simp; omega) (by simpa using h')
      rw [← as_mid (t := tCell), ← nx_len (t := tCell) p c (by omega)] at next
      rw [standV_l3_eq]
      dsimp only
      rw [ix_mid (t := tCell), lt_mid (t := tCell), nn_len (t := tCell), home_test, standV_j7_eq, standV_j7_eq]
      have hlim : acc.length + 1 ≤ LIM := by simp [LIM]; omega
      have e1 : ∀ y : Stg, acc.length + ([y] : List Stg).length = (acc ++ [y]).length := fun y => by simp
      have e2 : List.take acc.length acc = acc := List.take_length
      rw [e1, e2, next _ (by simp; omega), next _ (by omega), stand_cons]
      have hlim2 : (acc ++ [stOf c]).length ≤ LIM := by simpa using hlim
      cases isHome c with
      | false => simp
      | true =>
        have : decide ((acc ++ [stOf c]).length ≤ LIM) = true := dt hlim2
        simp only [Bool.and_self, cond_true]
        rw [show ((c.2.2.1.2.2.2.1, c.2.2.1.1, ()), c.1, ()) = stOf c from rfl, this]
        simp

theorem standV_meets (m : Mdl) (h : modG m = true) : ∃ fuel, standV_run fuel m = some (.val (.slice tStanding) (standF m)) := by
  have h := modG_le h
  obtain ⟨l, u⟩ := m
  refine ⟨l.length + 1, ?_⟩
  rw [standV_eq]
  exact standV_loop _ u (l.length + 1) l [] [] (by omega) h (by simp)

theorem values_cons (x : Slt) (r : List Slt) : valuesR (x :: r, ()) = (bif differF x.2.2.1 then [(1, x.1, x.2.1, x.2.2.1, [], ())] else []) ++ valuesR (r, ()) := by
  simp only [valuesR, List.filter_cons]
  cases differF x.2.2.1 <;> simp

theorem values_len (s : Sta) : (valuesR s).length ≤ s.1.length := by
  simp only [valuesR, List.length_map]
  exact List.length_filter_le _ _

theorem regV_loop (fuel : Nat) (b0 b5 : List Slt) (u : Unit) (hb : stG (b0, ()) = true) (hm : modG (modelF (b0, ())) = true) : ∀ (n : Nat) (r p : List Slt) (acc : List Reg), r.length < n → (p ++ r).length ≤ 1048576 → (∀ x ∈ r, x.2.2.1 ≠ [] ∧ x.2.2.1.length ≤ 1048576) → acc.length ≤ p.length →
    regV_f59_l1 fuel n (p ++ r, u) (p.length : Int) b0 acc b5 = regV_l7 fuel fuel (standF (modelF (b0, ()))) (acc ++ valuesR (r, ())) := by
  intro n
  induction n with
  | zero => intro r p acc h; omega
  | succ n ih =>
    intro r p acc h hl hne ha
    cases r with
    | nil => rw [regV_f59_l1_eq]; dsimp only; rw [lt_end (t := tSlot), hb, hm]; simp [valuesR]
    | cons c r =>
      have hl' : p.length + (r.length + 1) ≤ 1048576 := by simpa using hl
      have next := fun acc' (h' : acc'.length ≤ p.length + 1) => ih r (p ++ [c]) acc' (by simp at h; omega) (by simp; omega) (fun x hx => hne x (List.mem_cons_of_mem _ hx)) (by simpa using h')
      rw [← as_mid (t := tSlot), ← nx_len (t := tSlot) p c (by omega)] at next
      obtain ⟨n1, n2⟩ := hne c (List.mem_cons_self ..)
      have g1 : lenA c.2.2.1 = true := dt n2
      have g2 : cloneG c.2.2.1 = true := by
        simp only [cloneG, g1, Bool.and_true]
        cases hc : c.2.2.1 with
        | nil => exact absurd hc n1
        | cons _ _ => rfl
      rw [regV_f59_l1_eq]
      dsimp only
      rw [ix_mid (t := tSlot), lt_mid (t := tSlot), nn_len (t := tSlot), g1, g2, next _ (by simp; omega), next _ (by omega), values_cons]
      have hlim : acc.length + 1 ≤ LIM := by simp [LIM]; omega
      simp only [cond_true, Bool.and_self, idA]
      cases differF c.2.2.1 <;> simp [hlim]

/-- The entities of one place. -/
theorem reg_l14 (fuel n7 : Nat) (t5 : List Stg) (k : Nat) (acc : List Reg) (c0 c1 c2 : Int) (hk : k ≤ t5.length) (hl : t5.length ≤ 1048576) (ha : acc.length ≤ 2097152) : ∀ (n : Nat) (q p : List Stg), t5.take k = p ++ q → q.length < n →
    regV_l14 fuel n7 n t5 (k : Int) (p.length : Int) acc c0 c1 c2 [] (p.map (·.2.1)) = regV_j19 fuel n7 t5 (k : Int) (acc ++ [(c0, c1, c2, [], (t5.take k).map (·.2.1), ())]) := by
  intro n
  induction n with
  | zero => intro q p _ h; omega
  | succ n ih =>
    intro q p he h
    have hlen : p.length + q.length ≤ 1048576 := by
      have := congrArg List.length he
      simp at this
      omega
    rw [regV_l14_eq]
    have e0 : (List.take (Int.toNat (k : Int)) t5).drop 0 = p ++ q := by rw [← he]; simp
    rw [e0]
    cases q with
    | nil =>
      rw [lt_end (t := tStanding)]
      have hlim : acc.length + 1 ≤ LIM := by simp [LIM]; omega
      simp [hlim, he]
    | cons c q =>
      have next := ih q (p ++ [c]) (by rw [he]; simp) (by simp at h; omega)
      rw [← nx_len (t := tStanding) p c (by omega)] at next
      rw [ix_mid (t := tStanding), lt_mid (t := tStanding), nn_len (t := tStanding)]
      have hlim : (p.map (fun y : Stg => y.2.1)).length + 1 ≤ LIM := by simp [LIM]; simp at hlen; omega
      rw [List.map_append] at next
      have hd : decide ((p.map (fun y : Stg => y.2.1)).length + ([c.2.1] : List Int).length ≤ LIM) = true := dt hlim
      simp only [cond_true, Bool.and_self]
      rw [hd, cond_true]
      exact next

theorem eqD_prop {t : Ty} {x y : t.den} : eqD t x y = true → x = y := eqD_eq t x y

theorem crowd_cons (m : Nat) (x : Stg) (r : List Stg) : crowdN (m + 1) (x :: r) = (if (r.takeWhile (fun y => eqD tPlace y.1 x.1)).isEmpty then [] else [(2, x.1.1, x.1.2.1, [], x.2.1 :: (r.takeWhile (fun y => eqD tPlace y.1 x.1)).map (·.2.1), ())]) ++ crowdN m (r.dropWhile (fun y => eqD tPlace y.1 x.1)) := rfl

/-- Those of one place are counted; the rest goes on. -/
theorem reg_l9 (fuel n7 : Nat) (x : Stg) (acc : List Reg) (res : Option AV) : ∀ (n : Nat) (b a : List Stg), (∀ y ∈ a, eqD tPlace y.1 x.1 = true) → b.length < n → (x :: (a ++ b)).length ≤ 1048576 → acc.length ≤ 2097152 → (x :: (a ++ b)).length < fuel →
    regV_l7 fuel n7 ((a ++ b).dropWhile (fun y => eqD tPlace y.1 x.1)) (acc ++ (if ((a ++ b).takeWhile (fun y => eqD tPlace y.1 x.1)).isEmpty then [] else [(2, x.1.1, x.1.2.1, [], x.2.1 :: ((a ++ b).takeWhile (fun y => eqD tPlace y.1 x.1)).map (·.2.1), ())])) = res →
    regV_l9 fuel n7 n (x :: (a ++ b)) (((a.length + 1 : Nat)) : Int) acc = res := by
  intro n
  induction n with
  | zero => intro b a _ h; omega
  | succ n ih =>
    intro b a ha h hl hacc hf hres
    have hl' : a.length + b.length + 1 ≤ 1048576 := by simpa using hl
    have h0 : ix tStanding (x :: (a ++ b)) 0 = x := rfl
    have hcons : x :: (a ++ b) = (x :: a) ++ b := rfl
    have hlen : ((a.length + 1 : Nat) : Int) = ((x :: a).length : Int) := by simp
    have c0 : decide ((0 : Int) < ((x :: (a ++ b)).length : Int)) = true := dt (by simp; omega)
    -- when the counting stops
    have stop : (∀ y b', b = y :: b' → eqD tPlace y.1 x.1 = false) → (bif (decide (((a.length + 1 : Nat) : Int) > 1)) then (bif (decide (0 ≤ ((a.length + 1 : Nat) : Int)) && decide (((a.length + 1 : Nat) : Int) ≤ ((x :: (a ++ b)).length : Int))) then (regV_l14 fuel n7 fuel (x :: (a ++ b)) ((a.length + 1 : Nat) : Int) 0 acc 2 x.1.1 x.1.2.1 [] []) else none) else (regV_j19 fuel n7 (x :: (a ++ b)) ((a.length + 1 : Nat) : Int) acc)) = res := by
      intro hb
      have tw : (a ++ b).takeWhile (fun y => eqD tPlace y.1 x.1) = a ∧ (a ++ b).dropWhile (fun y => eqD tPlace y.1 x.1) = b := by
        rw [List.takeWhile_append_of_pos ha, List.dropWhile_append_of_pos ha]
        cases b with
        | nil => simp
        | cons y b' => have := hb y b' rfl; simp [this]
      rw [tw.1, tw.2] at hres
      have j19 : ∀ acc', regV_j19 fuel n7 (x :: (a ++ b)) ((a.length + 1 : Nat) : Int) acc' = regV_l7 fuel n7 b acc' := by
        intro acc'
        rw [regV_j19_eq]
        have c1 : decide ((0 : Int) ≤ ((a.length + 1 : Nat) : Int)) = true := dt (by omega)
        have c2 : decide (((a.length + 1 : Nat) : Int) ≤ ((x :: (a ++ b)).length : Int)) = true := dt (by simp; omega)
        have c3 : (List.take (List.length (x :: (a ++ b))) (x :: (a ++ b))).drop (Int.toNat ((a.length + 1 : Nat) : Int)) = b := by
          rw [List.take_length, Int.toNat_natCast, List.drop_succ_cons]; simp
        rw [c1, c2, c3]
        rfl
      have tk : (x :: (a ++ b)).take (a.length + 1) = x :: a := by rw [List.take_succ_cons]; simp
      have l14 := reg_l14 fuel n7 (x :: (a ++ b)) (a.length + 1) acc 2 x.1.1 x.1.2.1 (by simp) hl hacc fuel (x :: a) [] (by rw [tk]; rfl) (by simp at hf ⊢; omega)
      rw [tk] at l14
      have l14 : regV_l14 fuel n7 fuel (x :: (a ++ b)) ((a.length + 1 : Nat) : Int) 0 acc 2 x.1.1 x.1.2.1 [] [] = _ := l14
      rw [l14, j19, j19]
      cases a with
      | nil =>
        have : decide ((([] : List Stg).length + 1 : Nat) > (1 : Int)) = false := df (by simp)
        rw [this]
        simpa using hres
      | cons y a =>
        have d1 : decide ((((y :: a).length + 1 : Nat) : Int) > 1) = true := dt (by simp; omega)
        have d2 : decide ((0 : Int) ≤ (((y :: a).length + 1 : Nat) : Int)) = true := dt (by omega)
        have d3 : decide ((((y :: a).length + 1 : Nat) : Int) ≤ ((x :: (y :: a ++ b)).length : Int)) = true := dt (by simp; omega)
        rw [d1, d2, d3]
        simpa using hres
    rw [regV_l9_eq, h0, c0]
    cases b with
    | nil =>
      have c1 : decide (((a.length + 1 : Nat) : Int) < ((x :: (a ++ [])).length : Int)) = false := df (by simp)
      rw [c1]
      have := stop (fun y b' h => by cases h)
      simp only [false_impl, cond_true, cond_false, Bool.and_self, Int.le_refl, decide_true]
      exact this
    | cons y b =>
      have e1 : ix tStanding (x :: (a ++ y :: b)) ((a.length + 1 : Nat) : Int) = y := by rw [hlen]; exact ix_mid (t := tStanding) (x :: a) y b
      have c1 : decide (((a.length + 1 : Nat) : Int) < ((x :: (a ++ y :: b)).length : Int)) = true := dt (by simp; omega)
      have c2 : decide ((0 : Int) ≤ ((a.length + 1 : Nat) : Int)) = true := dt (by omega)
      rw [e1, c1, c2]
      simp only [cond_true, Bool.and_self, impl_true, Int.le_refl, decide_true]
      cases hy : eqD tPlace y.1 x.1 with
      | false =>
        rw [cond_false]
        have := stop (fun y' b' h => by injection h with h _; subst h; exact hy)
        rw [c2] at this
        simpa using this
      | true =>
        rw [cond_true]
        have next := ih b (a ++ [y]) (fun z hz => by
          rcases List.mem_append.1 hz with hz | hz
          · exact ha z hz
          · rw [List.mem_singleton.1 hz]; exact hy) (by simp at h; omega) (by simpa using hl) hacc (by simpa using hf) (by simpa using hres)
        have e2 : w64 (((a.length + 1 : Nat) : Int) + 1) = (((a ++ [y]).length + 1 : Nat) : Int) := by
          rw [w64_id (by omega) (by omega)]; simp
        rw [e2]
        simpa using next

theorem reg_l7 (fuel : Nat) : ∀ (n m : Nat) (t5 : List Stg) (acc : List Reg), t5.length < n → t5.length ≤ m → t5.length ≤ 1048576 → acc.length + t5.length ≤ 2097152 → t5.length < fuel →
    regV_l7 fuel n t5 acc = some (.val (.slice tRegion) (acc ++ crowdN m t5)) := by
  intro n
  induction n with
  | zero => intro m t5 acc h; omega
  | succ n ih =>
    intro m t5 acc h hm hl ha hf
    rw [regV_l7_eq]
    cases t5 with
    | nil => cases m <;> simp [crowdN]
    | cons x r =>
      cases m with
      | zero => simp at hm
      | succ m =>
        have c : decide (((x :: r).length : Int) > 0) = true := dt (by simp)
        rw [c, cond_true, crowd_cons]
        have hd : (r.dropWhile (fun y => eqD tPlace y.1 x.1)).length ≤ r.length := (List.dropWhile_sublist _).length_le
        simp only [List.length_cons] at h hm hl ha hf
        have := reg_l9 fuel n x acc _ fuel r [] (fun y hy => by cases hy) (by omega) (by simpa using hl) (by omega) (by simpa using hf) rfl
        rw [List.nil_append] at this
        rw [show ((1 : Int)) = ((([] : List Stg).length + 1 : Nat) : Int) from rfl, this, ih m (r.dropWhile (fun y => eqD tPlace y.1 x.1)) (acc ++ (if (r.takeWhile (fun y => eqD tPlace y.1 x.1)).isEmpty then [] else [(2, x.1.1, x.1.2.1, [], x.2.1 :: (r.takeWhile (fun y => eqD tPlace y.1 x.1)).map (·.2.1), ())])) (by omega) (by omega) (by omega) (by split <;> simp <;> omega) (by omega)]
        simp

theorem stand_len (m : Mdl) : (standF m).length ≤ m.1.length := by
  rw [standF, (sortD_perm _ _).length_eq]
  simp only [standL, List.length_map]
  exact List.length_filter_le _ _
theorem model_len (s : Sta) : (modelF s).1.length ≤ s.1.length := by
  simp only [modelF, List.length_map]
  exact List.length_filter_le _ _
theorem model_modG {s : Sta} (h : stG s = true) : modG (modelF s) = true := dt (Nat.le_trans (model_len s) (stG_parts h).1)

theorem regV_meets (s : Sta) (h : regVG s = true) : ∃ fuel, regV_run fuel s = some (.val (.slice tRegion) (regF s)) := by
  obtain ⟨l, u⟩ := s
  have h : stG (l, ()) = true := h
  obtain ⟨h1, h2⟩ := stG_parts h
  have hm := model_modG h
  have hl := model_len (l, ())
  have hs := stand_len (modelF (l, ()))
  have hv := values_len (l, ())
  simp only at h1 h2 hl hv
  refine ⟨l.length + 1, ?_⟩
  rw [regV_eq]
  have := regV_loop (l.length + 1) l l u h hm (l.length + 1) l [] [] (by omega) h1 h2 (by simp)
  have e : regV_f59_l1 (l.length + 1) (l.length + 1) (l, u) 0 l [] l = _ := this
  rw [e, reg_l7 (l.length + 1) (l.length + 1) (standF (modelF (l, ()))).length (standF (modelF (l, ()))) ([] ++ valuesR (l, ())) (by omega) (Nat.le_refl _) (by omega) (by rw [List.nil_append]; omega) (by omega)]
  rfl

end Go.Proofs.Ytfeijnbommgigaa.Abs
