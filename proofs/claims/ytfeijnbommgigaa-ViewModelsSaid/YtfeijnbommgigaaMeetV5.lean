/- Layer 27: the reference's regions; the statements. -/
import Derived.Test.YtfeijnbommgigaaMeetV4
namespace Go.Proofs.Ytfeijnbommgigaa.Abs
open Go

theorem out_test (c : Cel) : (bif (bif (bif (!decide (c.2.1 = 2)) then true else (decide (c.2.2.1.2.2.2.1 = 0))) then true else (decide (c.2.2.1.1 < 1))) then true else (decide (c.2.2.1.1 > 3))) = !isHome c := by
  unfold isHome
  have h1 : decide (c.2.2.1.1 ≥ 1) = !decide (c.2.2.1.1 < 1) := by
    by_cases h : c.2.2.1.1 < 1
    · rw [dt h, df (Int.not_le.2 h)]; rfl
    · rw [df h, dt (Int.not_lt.1 h)]; rfl
  have h2 : decide (c.2.2.1.1 ≤ 3) = !decide (c.2.2.1.1 > 3) := by
    by_cases h : c.2.2.1.1 > 3
    · rw [dt h, df (Int.not_le.2 h)]; rfl
    · rw [df h, dt (Int.not_lt.1 h)]; rfl
  rw [h1, h2]
  cases decide (c.2.1 = 2) <;> cases decide (c.2.2.1.2.2.2.1 = 0) <;> cases decide (c.2.2.1.1 < 1) <;> cases decide (c.2.2.1.1 > 3) <;> rfl

/-- Each region holds one entity, in a place that was met. -/
def OutOk (l : List Cel) (out : List Reg) : Prop := ∀ o ∈ out, o.2.2.2.2.1.length = 1 ∧ ∃ y ∈ standL (l, ()), o.2.1 = y.1.1 ∧ o.2.2.1 = y.1.2.1

theorem stand_app (a b : List Cel) : standL (a ++ b, ()) = standL (a, ()) ++ standL (b, ()) := by
  simp [standL]

theorem OutOk.mono {l l' : List Cel} {out : List Reg} (h : OutOk l out) : OutOk (l ++ l') out := fun o ho =>
  ⟨(h o ho).1, let ⟨y, hy, e⟩ := (h o ho).2; ⟨y, by rw [stand_app]; exact List.mem_append_left _ hy, e⟩⟩

theorem crowds_l16 (fuel : Nat) (out : List Reg) (hl : out.length ≤ 1048576) (ho : ∀ o ∈ out, o.2.2.2.2.1.length = 1) : ∀ (n k : Nat), out.length - k < n → k ≤ out.length →
    crowdsX_l16 fuel n out.length [] (k : Int) out = some (.val (.slice tRegion) []) := by
  intro n
  induction n with
  | zero => intro k h; omega
  | succ n ih =>
    intro k h hk
    rw [crowdsX_l16_eq]
    by_cases hlt : k < out.length
    · have c1 : decide ((k : Int) < ((out.length : Nat) : Int)) = true := dt (by omega)
      have c2 : decide ((0 : Int) ≤ (k : Int)) = true := dt (by omega)
      have e : List.getD out (Int.toNat (k : Int)) (zero tRegion) = out[k] := by simp [List.getD, hlt]
      have h1 := ho out[k] (List.getElem_mem hlt)
      have c3 : decide (((out[k].2.2.2.2.1).length : Int) > 1) = false := df (by rw [h1]; decide)
      have e2 : w64 ((k : Int) + 1) = ((k + 1 : Nat) : Int) := by rw [w64_id (by omega) (by omega)]; simp
      rw [c1, c2, e, c3, crowdsX_j17_eq, crowdsX_j17_eq, e2, ih (k + 1) (by omega) (by omega)]
      rfl
    · have c1 : decide ((k : Int) < ((out.length : Nat) : Int)) = false := df (by omega)
      rw [c1, cond_false]

theorem crowds_l8 (fuel n3 : Nat) (p r : List Cel) (c : Cel) (u : Unit) (out : List Reg) (hl : out.length ≤ 1048576) (hne : ∀ o ∈ out, ¬ (o.2.1 = c.2.2.1.2.2.2.1 ∧ o.2.2.1 = c.2.2.1.1)) :
    ∀ (n k : Nat), out.length - k < n → k ≤ out.length → ∃ j, j ≤ out.length ∧
      crowdsX_l8 fuel n3 n (p.length : Int) (p ++ c :: r, u) out.length (k : Int) out = crowdsX_j4 fuel n3 (p.length : Int) (p ++ c :: r, u) (out.take j ++ [(2, c.2.2.1.2.2.2.1, c.2.2.1.1, [], [c.1], ())] ++ out.drop j).length (out.take j ++ [(2, c.2.2.1.2.2.2.1, c.2.2.1.1, [], [c.1], ())] ++ out.drop j) := by
  intro n
  induction n with
  | zero => intro k h; omega
  | succ n ih =>
    intro k h hk
    -- the insertion
    have fin : (bif (decide (0 ≤ (k : Int)) && decide ((k : Int) ≤ ((out.length : Nat) : Int))) then (bif (decide (List.length ([] : List tRegion.den) + List.length ((List.take out.length out).drop (Int.toNat (k : Int))) ≤ LIM)) then (bif (decide (0 ≤ (k : Int)) && decide ((k : Int) ≤ ((out.length : Nat) : Int))) then (bif (decide ((Int.toNat (k : Int)) + List.length ([(2, c.2.2.1.2.2.2.1, c.2.2.1.1, [], [c.1], ())] : List tRegion.den) ≤ LIM)) then (bif (decide (((Int.toNat (k : Int)) + List.length ([(2, c.2.2.1.2.2.2.1, c.2.2.1.1, [], [c.1], ())] : List tRegion.den)) + List.length (([] : List tRegion.den) ++ ((List.take out.length out).drop (Int.toNat (k : Int)))) ≤ LIM)) then (crowdsX_j4 fuel n3 (p.length : Int) (p ++ c :: r, u) (((Int.toNat (k : Int)) + List.length ([(2, c.2.2.1.2.2.2.1, c.2.2.1.1, [], [c.1], ())] : List tRegion.den)) + List.length (([] : List tRegion.den) ++ ((List.take out.length out).drop (Int.toNat (k : Int))))) (List.take ((Int.toNat (k : Int)) + List.length ([(2, c.2.2.1.2.2.2.1, c.2.2.1.1, [], [c.1], ())] : List tRegion.den)) (List.take (Int.toNat (k : Int)) out ++ [(2, c.2.2.1.2.2.2.1, c.2.2.1.1, [], [c.1], ())]) ++ (([] : List tRegion.den) ++ ((List.take out.length out).drop (Int.toNat (k : Int)))))) else none) else none) else none) else none) else none) = crowdsX_j4 fuel n3 (p.length : Int) (p ++ c :: r, u) (out.take k ++ [(2, c.2.2.1.2.2.2.1, c.2.2.1.1, [], [c.1], ())] ++ out.drop k).length (out.take k ++ [(2, c.2.2.1.2.2.2.1, c.2.2.1.1, [], [c.1], ())] ++ out.drop k) := by
      have c1 : decide ((0 : Int) ≤ (k : Int)) = true := dt (by omega)
      have c2 : decide ((k : Int) ≤ ((out.length : Nat) : Int)) = true := dt (by omega)
      have ht : List.take (k + 1) (List.take k out ++ [((2 : Int), c.2.2.1.2.2.2.1, c.2.2.1.1, ([] : List Alt), [c.1], ())]) = List.take k out ++ [((2 : Int), c.2.2.1.2.2.2.1, c.2.2.1.1, ([] : List Alt), [c.1], ())] := List.take_of_length_le (by simp; omega)
      have hlen : (out.take k ++ [((2 : Int), c.2.2.1.2.2.2.1, c.2.2.1.1, ([] : List Alt), [c.1], ())] ++ out.drop k).length = k + 1 + (out.length - k) := by simp; omega
      rw [c1, c2, hlen]
      simp only [Bool.and_self, cond_true, Int.toNat_natCast, List.take_length, List.nil_append, List.length_drop, List.length_singleton, List.length_nil, Nat.zero_add]
      have d1 : decide (out.length - k ≤ LIM) = true := dt (by simp [LIM]; omega)
      have d2 : decide (k + 1 ≤ LIM) = true := dt (by simp [LIM]; omega)
      have d3 : decide (k + 1 + (out.length - k) ≤ LIM) = true := dt (by simp [LIM]; omega)
      rw [d1, d2, d3, ht]
      rfl
    rw [crowdsX_l8_eq]
    dsimp only
    rw [ix_mid (t := tCell)]
    by_cases hlt : k < out.length
    · have c1 : decide ((k : Int) < ((out.length : Nat) : Int)) = true := dt (by omega)
      have c2 : decide ((0 : Int) ≤ (k : Int)) = true := dt (by omega)
      have e : List.getD out (Int.toNat (k : Int)) (zero tRegion) = out[k] := by simp [List.getD, hlt]
      have e2 : w64 ((k : Int) + 1) = ((k + 1 : Nat) : Int) := by rw [w64_id (by omega) (by omega)]; simp
      have h1 := hne out[k] (List.getElem_mem hlt)
      have tst : (bif (bif (decide ((k : Int) < ((out.length : Nat) : Int))) then (decide (out[k].2.1 = c.2.2.1.2.2.2.1)) else false) then (decide (out[k].2.2.1 = c.2.2.1.1)) else false) = false := by
        rw [c1, cond_true]
        by_cases g1 : out[k].2.1 = c.2.2.1.2.2.2.1
        · rw [dt g1, cond_true]; exact df (fun g2 => h1 ⟨g1, g2⟩)
        · rw [df g1, cond_false]
      rw [e, tst, c1, c2, e2, cond_false]
      simp only [Bool.and_self, impl_true, cond_true]
      cases aheadF out[k].2.1 out[k].2.2.1 c.2.2.1.2.2.2.1 c.2.2.1.1 with
      | true =>
        obtain ⟨j, hj, ej⟩ := ih (k + 1) (by omega) (by omega)
        exact ⟨j, hj, ej⟩
      | false =>
        rw [c2] at fin
        simp only [Bool.true_and] at fin
        exact ⟨k, hk, fin⟩
    · have c1 : decide ((k : Int) < ((out.length : Nat) : Int)) = false := df (by omega)
      rw [c1]
      simp only [false_impl, cond_true, cond_false]
      exact ⟨k, hk, fin⟩

theorem crowdsX_loop (fuel : Nat) (u : Unit) : ∀ (n : Nat) (r p : List Cel) (out : List Reg), r.length < n → (p ++ r).length ≤ 1048576 → OutOk p out → out.length ≤ p.length → (p ++ r).length < fuel →
    (standL (p ++ r, ())).Pairwise (fun a b => eqD tPlace a.1 b.1 = false) → crowdsX_l3 fuel n (p ++ r, u) out.length (p.length : Int) out = some (.val (.slice tRegion) []) := by
  intro n
  induction n with
  | zero => intro r p out h; omega
  | succ n ih =>
    intro r p out h hl ho hlen hf hd
    rw [crowdsX_l3_eq]
    dsimp only
    cases r with
    | nil =>
      rw [lt_end (t := tCell)]
      have hl' : p.length ≤ 1048576 := by simpa using hl
      have hf' : p.length < fuel := by simpa using hf
      exact crowds_l16 fuel out (by omega) (fun o h => (ho o h).1) fuel 0 (by omega) (Nat.zero_le _)
    | cons c r =>
      have hl' : p.length + (r.length + 1) ≤ 1048576 := by simpa using hl
      have hf' : p.length + (r.length + 1) < fuel := by simpa using hf
      have next := fun out' (h1 : OutOk (p ++ [c]) out') (h2 : out'.length ≤ p.length + 1) => ih r (p ++ [c]) out' (by simp at h; omega) (by simp; omega) h1 (by simpa using h2) (by simp; omega) (by simpa using hd)
      rw [← as_mid (t := tCell), ← nx_len (t := tCell) p c (by omega)] at next
      rw [ix_mid (t := tCell), lt_mid (t := tCell), nn_len (t := tCell), out_test]
      simp only [cond_true, Bool.and_self]
      cases hh : isHome c with
      | false =>
        rw [Bool.not_false, cond_true, crowdsX_j4_eq]
        exact next out ho.mono (by omega)
      | true =>
        rw [Bool.not_true, cond_false]
        have hne : ∀ o ∈ out, ¬ (o.2.1 = c.2.2.1.2.2.2.1 ∧ o.2.2.1 = c.2.2.1.1) := by
          rintro o hout ⟨e1, e2⟩
          obtain ⟨_, y, hy, f1, f2⟩ := ho o hout
          rw [stand_app, stand_cons, hh, List.pairwise_append] at hd
          have := hd.2.2 y hy (stOf c) (by simp)
          have he : y.1 = (stOf c).1 := by
            obtain ⟨⟨y1, y2, yu⟩, y3⟩ := y
            simp only [stOf] at f1 f2 ⊢
            rw [← f1, ← f2, e1, e2]
          rw [he, eqD_self tPlace _ rfl] at this
          cases this
        obtain ⟨j, hj, ej⟩ := crowds_l8 fuel n p r c u out (by omega) hne fuel 0 (by omega) (Nat.zero_le _)
        have ej : crowdsX_l8 fuel n fuel (p.length : Int) (p ++ c :: r, u) out.length 0 out = _ := ej
        rw [ej, crowdsX_j4_eq]
        refine next _ (fun o hout => ?_) (by simp; omega)
        simp only [List.mem_append, List.mem_singleton] at hout
        rcases hout with (hout | rfl) | hout
        · exact ho.mono o (List.mem_of_mem_take hout)
        · refine ⟨rfl, stOf c, ?_, rfl, rfl⟩
          rw [stand_app, stand_cons, hh]
          simp
        · exact ho.mono o (List.mem_of_mem_drop hout)

theorem crowdG_parts {m : Mdl} (h : crowdG m = true) : m.1.length ≤ 1048576 ∧ (standL m).Pairwise (fun a b => eqD tPlace a.1 b.1 = false) := by
  simp only [crowdG, Bool.and_eq_true, decide_eq_true_eq] at h
  exact ⟨modG_le h.1, h.2⟩

theorem crowdsX_meets (m : Mdl) (h : crowdG m = true) : ∃ fuel, crowdsX_run fuel m = some (.val (.slice tRegion) (crowdsF m)) := by
  obtain ⟨l, u⟩ := m
  have h : crowdG (l, ()) = true := h
  obtain ⟨h1, h2⟩ := crowdG_parts h
  refine ⟨l.length + 1, ?_⟩
  rw [crowdsX_eq]
  exact crowdsX_loop (l.length + 1) u (l.length + 1) l [] [] (by omega) h1 (fun o ho => by cases ho) (by simp) (by simp) h2

/-- No two stand in one place: no crowd. -/
theorem no_crowd : ∀ (n : Nat) (l : List Stg), l.Pairwise (fun a b => eqD tPlace a.1 b.1 = false) → crowdN n l = []
  | 0, _, _ => rfl
  | _ + 1, [], _ => rfl
  | n + 1, x :: r, h => by
    obtain ⟨h1, h2⟩ := List.pairwise_cons.1 h
    have e : ∀ y ∈ r, eqD tPlace y.1 x.1 = false := fun y hy => by
      cases hh : eqD tPlace y.1 x.1 with
      | false => rfl
      | true =>
        have := h1 y hy
        rw [eqD_eq _ _ _ hh, eqD_self tPlace _ rfl] at this
        cases this
    have tw : r.takeWhile (fun y => eqD tPlace y.1 x.1) = [] ∧ r.dropWhile (fun y => eqD tPlace y.1 x.1) = r := by
      cases r with
      | nil => exact ⟨rfl, rfl⟩
      | cons y r => have := e y (List.mem_cons_self ..); simp [this]
    rw [crowd_cons, tw.1, tw.2, no_crowd n r h2]
    rfl

theorem regG_parts {s : Sta} (h : regG s = true) : stG s = true ∧ crowdG (modelF s) = true := by
  simpa [regG] using h

theorem reg_values {s : Sta} (h : regG s = true) : regF s = valuesR s := by
  obtain ⟨_, h2⟩ := crowdG_parts (regG_parts h).2
  have : (standF (modelF s)).Pairwise (fun a b => eqD tPlace a.1 b.1 = false) := by
    refine (sortD_perm cmpStF (standL (modelF s))).symm.pairwise h2 (fun {a b} hab => ?_)
    cases hh : eqD tPlace b.1 a.1 with
    | false => rfl
    | true => rw [eqD_eq _ _ _ hh, eqD_self tPlace _ rfl] at hab; cases hab
  rw [regF, no_crowd _ _ this, List.append_nil]

theorem regX_loop (fuel : Nat) (s0 : Sta) (h0 : regG s0 = true) : ∀ (n : Nat) (r p : List Slt) (acc : List Reg), s0.1 = p ++ r → r.length < n → (p ++ r).length ≤ 1048576 → (∀ x ∈ r, x.2.2.1.length ≤ 1048576) → acc.length ≤ p.length →
    regX_l3 fuel n s0 acc (p.length : Int) = some (.val (.slice tRegion) (acc ++ valuesR (r, ()))) := by
  obtain ⟨hg, hc⟩ := regG_parts h0
  intro n
  induction n with
  | zero => intro r p acc _ h; omega
  | succ n ih =>
    intro r p acc hs h hl hne ha
    rw [regX_l3_eq, hs]
    cases r with
    | nil =>
      have hlim : acc.length ≤ LIM := by simp at hl; simp [LIM]; omega
      rw [lt_end (t := tSlot), hg, hc]
      simp [valuesR, crowdsF, hlim]
    | cons c r =>
      have hl' : p.length + (r.length + 1) ≤ 1048576 := by simpa using hl
      have next := fun acc' (h' : acc'.length ≤ p.length + 1) => ih r (p ++ [c]) acc' (by rw [hs]; simp) (by simp at h; omega) (by simp; omega) (fun x hx => hne x (List.mem_cons_of_mem _ hx)) (by simpa using h')
      rw [← nx_len (t := tSlot) p c (by omega)] at next
      have g1 : lenA c.2.2.1 = true := dt (hne c (List.mem_cons_self ..))
      rw [ix_mid (t := tSlot), lt_mid (t := tSlot), nn_len (t := tSlot), g1, regX_j4_eq, regX_j4_eq, next _ (by simp; omega), next _ (by omega), values_cons]
      have hlim : acc.length + 1 ≤ LIM := by simp [LIM]; omega
      simp only [cond_true, Bool.and_self]
      cases differF c.2.2.1 <;> simp [hlim]

theorem regX_meets (s : Sta) (h : regG s = true) : ∃ fuel, regX_run fuel s = some (.val (.slice tRegion) (regF s)) := by
  obtain ⟨h1, h2⟩ := stG_parts (regG_parts h).1
  refine ⟨s.1.length + 1, ?_⟩
  rw [regX_eq, reg_values h]
  exact regX_loop _ s h (s.1.length + 1) s.1 [] [] rfl (by omega) h1 (fun x hx => (h2 x hx).2) (by simp)

theorem regionsL_meets (s : Sta) (h : regG s = true) : ∃ fuel, regionsL_run fuel s = some (.val .bool (ttS s)) := by
  obtain ⟨h1, h2⟩ := stG_parts (regG_parts h).1
  have hv : regVG s = true := (regG_parts h).1
  have hlen : (regF s).length ≤ 1048576 := by rw [reg_values h]; exact Nat.le_trans (values_len s) h1
  have htwo : ∀ r ∈ regF s, twoReg r r = true := by
    intro r hr
    rw [reg_values h] at hr
    simp only [valuesR, List.mem_map, List.mem_filter] at hr
    obtain ⟨x, ⟨hx, _⟩, rfl⟩ := hr
    have := (h2 x hx).2
    simp [twoReg, twoA, twoI, lenA, this]
  have loop : ∀ (n k : Nat), (regF s).length - k < n → k ≤ (regF s).length → regionsL_l5 ((regF s).length + 1) n s (k : Int) = some (.val .bool true) := by
    intro n
    induction n with
    | zero => intro k h; omega
    | succ n ih =>
      intro k hk hle
      rw [regionsL_l5_eq]
      by_cases hlt : k < (regF s).length
      · have c1 : decide ((k : Int) < ((regF s).length : Int)) = true := dt (by omega)
        have c2 : decide ((0 : Int) ≤ (k : Int)) = true := dt (by omega)
        have e : ix tRegion (regF s) (k : Int) = (regF s)[k] := by simp [ix, hlt]
        have e2 : w64 ((k : Int) + 1) = ((k + 1 : Nat) : Int) := by rw [w64_id (by omega) (by omega)]; simp
        rw [c1, c2, e, htwo _ (List.getElem_mem hlt), sameRegF_self, e2, ih (k + 1) (by omega) (by omega)]
        rfl
      · have c1 : decide ((k : Int) < ((regF s).length : Int)) = false := df (by omega)
        rw [c1, cond_false]
  refine ⟨(regF s).length + 1, ?_⟩
  rw [regionsL_eq, hv, h]
  have := loop ((regF s).length + 1) 0 (by omega) (Nat.zero_le _)
  simp only [cond_true, decide_true, Bool.not_true, cond_false, ttS]
  exact this

/-- The state of the sanity check. -/
def awk : Sta := ([(1048577, 3, [(1048582, (0, false, [102], 0, ()), ()), (1048583, (0, false, [103], 0, ()), ())], ()), (1048578, 2, [(1048582, (2, false, [], 1048577, ()), ())], ()), (1048579, 2, [(1048583, (2, false, [], 1048577, ()), ())], ())], ())

theorem awk_reg : regF awk = [(1, 1048577, 3, [(1048582, (0, false, [102], 0, ()), ()), (1048583, (0, false, [103], 0, ()), ())], [], ()), (2, 1048577, 2, [], [1048578, 1048579], ())] := by
  have e : standL (modelF awk) = [((1048577, 2, ()), 1048578, ()), ((1048577, 2, ()), 1048579, ())] := by kernel_rfl
  have es : standF (modelF awk) = [((1048577, 2, ()), 1048578, ()), ((1048577, 2, ()), 1048579, ())] := by
    rw [standF, e]
    refine (sortD_unique cmpSt_total (List.Perm.refl _) ?_).symm
    simp only [List.pairwise_cons, List.mem_cons, List.not_mem_nil, or_false, false_implies, implies_true, and_true, forall_eq, List.Pairwise.nil]
    decide
  rw [regF, es]
  rfl

theorem awake27_meets : ∃ fuel, awake27_run fuel = some (.val .bool tt0) := by
  refine ⟨0, ?_⟩
  rw [awake27_eq]
  have w5 : w64 ((1048577 : Int) + 5) = 1048582 := by decide
  have w6 : w64 ((1048577 : Int) + 6) = 1048583 := by decide
  have w1 : w64 ((1048577 : Int) + 1) = 1048578 := by decide
  have w2 : w64 ((1048577 : Int) + 2) = 1048579 := by decide
  rw [w5, w6, w1, w2]
  change (bif (regVG awk) then (bif (stG awk) then _ else _) else _) = _
  have h1 : stG awk = true := by kernel_rfl
  have h2 : regVG awk = true := h1
  have hr : regF ([(1048577, 3, [(1048582, (0, false, [102], 0, ()), ()), (1048583, (0, false, [103], 0, ()), ())], ()), (1048578, 2, [(1048582, (2, false, [], 1048577, ()), ())], ()), (1048579, 2, [(1048583, (2, false, [], 1048577, ()), ())], ())], ()) = _ := awk_reg
  rw [h1, h2, hr]
  rfl

theorem withL_len (id field : Int) (v : Val) : ∀ (l : List Cel) (done : Bool), (withL id field v done l).length ≤ l.length + (if done then 0 else 1)
  | [], done => by cases done <;> simp [withL]
  | c :: l, done => by
    have := withL_len id field v l (done || !ahd c.1 c.2.1 id field)
    simp only [withL, List.length_append, List.length_cons]
    have h1 : (if decide (c.1 = id) && decide (c.2.1 = field) then [] else [c]).length ≤ 1 := by split <;> simp
    generalize (if decide (c.1 = id) && decide (c.2.1 = field) then [] else [c]).length = d at h1 ⊢
    cases done
    · cases hA : ahd c.1 c.2.1 id field <;> rw [hA] at this <;> simp at this ⊢ <;> omega
    · simp at this ⊢; omega

theorem withF_len (m : Mdl) (id field : Int) (v : Val) : (withF m id field v).1.length ≤ m.1.length + 1 := by
  have := withL_len id field v m.1 (eqD tVal v zv)
  simp only [withF]
  split at this <;> omega

theorem lawModels_meets (l : List Mrk) (id field : Int) (v : Val) : ∃ fuel, lawModels_run fuel l id field v = some (.val .bool (ttM l id field v)) := by
  refine ⟨0, ?_⟩
  have hok := state_ok l
  have h1 := hok.stG (by omega)
  have h2 := model_len (stateF l)
  have h3 := hok.len
  have hw : ∀ v, withG (modelF (stateF l)) (id2F id 3) (mod2F field 12) v = true := fun v => dt (by omega)
  have ht : twoC (modelF (stateF l)).1 (modelF (stateF l)).1 = true := by simp [twoC]; omega
  have htw : ∀ v, twoC (withF (modelF (stateF l)) (id2F id 3) (mod2F field 12) v).1 (withF (modelF (stateF l)) (id2F id 3) (mod2F field 12) v).1 = true := fun v => by
    have := withF_len (modelF (stateF l)) (id2F id 3) (mod2F field 12) v
    simp [twoC]; omega
  have g1 : id2G id 3 = true := dt (by decide)
  have g2 : mod2G field 12 = true := dt (by decide)
  rw [lawModels_eq, h1, g1, g2, ht, hw, hw, htw, htw, sameCF_self, sameCF_self, sameCF_self]
  rfl

/-- The states that marks make have no crowd: an entity's home is under itself. -/
theorem state_crowd (l : List Mrk) : regG (stateF l) = true := by
  have hok := state_ok l
  have h1 := hok.stG (by omega)
  simp only [regG, h1, Bool.true_and, crowdG, Bool.and_eq_true, decide_eq_true_eq]
  refine ⟨model_modG h1, ?_⟩
  have hval := hok.val
  have halt := hok.alts
  have hasc := hok.asc
  generalize stateF l = s at *
  simp only [standL, modelF]
  rw [List.pairwise_map, List.pairwise_filter, List.pairwise_map, List.pairwise_filter]
  refine hasc.imp_of_mem (fun {x y} hx hy hxy _ _ gx gy => ?_)
  have ref : ∀ z ∈ s.1, isHome (z.1, z.2.1, firstV z, ()) = true → (firstV z).2.2.2.1 = z.1 ∧ z.2.1 = 2 := by
    intro z hz gz
    simp only [isHome, Bool.and_eq_true, decide_eq_true_eq, Bool.not_eq_true', decide_eq_false_iff_not] at gz
    refine ⟨?_, gz.1.1.1⟩
    obtain ⟨a, al, e⟩ : ∃ a al, z.2.2.1 = a :: al := by
      cases hz2 : z.2.2.1 with
      | nil => exact absurd hz2 (halt z hz).1
      | cons a al => exact ⟨a, al, rfl⟩
    have hf : firstV z = a.2.1 := by unfold firstV; rw [e]
    rcases hval z hz a (by rw [e]; exact List.mem_cons_self ..) with h | h
    · rw [hf] at gz; exact absurd h gz.1.1.2
    · rw [hf]; exact h
  obtain ⟨r1, f1⟩ := ref x hx gx
  obtain ⟨r2, f2⟩ := ref y hy gy
  cases hh : eqD tPlace (stOf (x.1, x.2.1, firstV x, ())).1 (stOf (y.1, y.2.1, firstV y, ())).1 with
  | false => rfl
  | true =>
    have := eqD_eq _ _ _ hh
    simp only [stOf, Prod.mk.injEq] at this
    have e : x.1 = y.1 := by rw [← r1, ← r2]; exact this.1
    unfold slotLt at hxy
    rw [e, f1, f2, ahd_iff] at hxy
    omega

theorem lawRegions_meets (l : List Mrk) : ∃ fuel, lawRegions_run fuel l = some (.val .bool (ttR l)) := by
  refine ⟨0, ?_⟩
  rw [lawRegions_eq, state_crowd l]
  rfl

end Go.Proofs.Ytfeijnbommgigaa.Abs
