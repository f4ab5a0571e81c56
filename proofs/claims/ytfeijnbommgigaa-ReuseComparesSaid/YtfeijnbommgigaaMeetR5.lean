/- The laws ReuseCompares, ReuseAdds, ReuseFinds answer true. -/
import Derived.Test.YtfeijnbommgigaaMeetR4
namespace Go.Proofs.Ytfeijnbommgigaa.Abs
open Go

theorem awake34_meets : ∃ fuel, awake34_run fuel = some (.val .bool tt0) := ⟨0, by rw [awake34_eq]; kernel_rfl⟩

theorem lawCompares_meets (a b c : Val) : ∃ fuel, lawCompares_run fuel a b c = some (.val .bool (ttV a b c)) :=
  ⟨0, by
    have h := rCmp_pre
    have r := h.rng a b
    have e : w64 (0 - rCmpF a b) = rCmpF b a := by rw [w64_id (by omega) (by omega), h.neg a b]; omega
    rw [lawCompares_eq, e, eqV_cmp]
    by_cases h1 : rCmpF a b ≤ 0
    · by_cases h2 : rCmpF b c ≤ 0
      · have := h.trans a b c h1 h2
        simp [this, tt0, ttV]
      · have : rCmpF b c > 0 := by omega
        simp [this, tt0, ttV]
    · have : rCmpF a b > 0 := by omega
      simp [this, tt0, ttV]⟩

theorem addF_all (a b : List Rec) : Asc cmpRF (addF a b) ∧ (∀ z, z ∈ addF a b ↔ z ∈ a ∨ z ∈ b) ∧ (addF a b).length ≤ a.length + b.length := by
  obtain ⟨h1, h2, h3⟩ := foldC_all cmpR_pre cmpR_zero (a ++ b) [] List.Pairwise.nil
  have e : addF a b = (a ++ b).foldl (insC cmpRF) [] := by rw [List.foldl_append]; rfl
  rw [e]
  exact ⟨h1, fun z => by rw [h2]; simp, by simpa using h3⟩

theorem addF_of {a b c d : List Rec} (h : ∀ z, (z ∈ a ∨ z ∈ b) ↔ (z ∈ c ∨ z ∈ d)) : addF a b = addF c d :=
  asc_unique cmpR_pre (addF_all a b).1 (addF_all c d).1 fun z => by rw [(addF_all a b).2.1, (addF_all c d).2.1, h]

theorem sameRs_refl (l : List Rec) : sameRsF l l = true := by
  have : ∀ l : List Rec, (l.zip l).all (fun p => decide (cmpRF p.1 p.2 = 0)) = true := fun l => by
    induction l with
    | nil => rfl
    | cons x l ih => simp [cmpR_pre.refl x, ih]
  simp only [sameRsF, this, decide_true, Bool.and_self]

/-- A list of drawn records, or of some put together. -/
def Small (n : Nat) (l : List Rec) : Prop := l.length ≤ n ∧ ∀ y ∈ l, recOk y = true

theorem valuesF_ok (l : List Alt) (h : l.length ≤ 3) (k f : Int) (v : Val) : recOk (k, f, valuesF l, v, ()) = true := by
  have := valuesF_len l
  exact dt (by show (valuesF l).length ≤ LIM; unfold LIM; omega)

theorem records_small (l : List Drw) : Small 20 (recordsF l) := by
  refine ⟨by simp [recordsF]; omega, fun y hy => ?_⟩
  simp only [recordsF, List.mem_map] at hy
  obtain ⟨d, _, rfl⟩ := hy
  exact valuesF_ok _ (by simp; omega) _ _ _

theorem Small.add {n m : Nat} {a b : List Rec} (h : Small n a) (g : Small m b) : Small (n + m) (addF a b) :=
  ⟨by have := (addF_all a b).2.2; have := h.1; have := g.1; omega, fun y hy => (((addF_all a b).2.1 y).1 hy).elim (h.2 y) (g.2 y)⟩

theorem Small.addG {n m : Nat} {a b : List Rec} (h : Small n a) (g : Small m b) (hn : n + m ≤ 1048576) : addG a b = true := by
  have := h.1; have := g.1
  simp only [Abs.addG, Bool.and_eq_true, decide_eq_true_eq, List.all_eq_true]
  exact ⟨⟨by omega, h.2⟩, g.2⟩

theorem Small.same {n m : Nat} {a b : List Rec} (h : Small n a) (g : Small m b) (hn : n + m ≤ 1048576) : sameRsG a b = true := by
  have := h.1; have := g.1
  have e1 : a.length ≤ LIM := by unfold LIM; omega
  have e2 : b.length ≤ LIM := by unfold LIM; omega
  simp only [sameRsG, Bool.and_eq_true, decide_eq_true_eq, List.all_eq_true]
  exact ⟨⟨⟨e1, e2⟩, h.2⟩, g.2⟩

theorem lawAdds_meets (a b c : List Drw) : ∃ fuel, lawAdds_run fuel a b c = some (.val .bool (ttD a b c)) :=
  ⟨0, by
    have ha := records_small a
    have hb := records_small b
    have hc := records_small c
    rw [lawAdds_eq]
    have e1 : addF (recordsF b) (recordsF a) = addF (recordsF a) (recordsF b) := addF_of fun z => or_comm
    have e2 : addF (addF (recordsF a) (recordsF b)) (recordsF c) = addF (recordsF a) (addF (recordsF b) (recordsF c)) := addF_of fun z => by
      rw [(addF_all _ _).2.1, (addF_all _ _).2.1, or_assoc]
    have e3 : addF (addF (recordsF a) (recordsF b)) (recordsF a) = addF (recordsF a) (recordsF b) := addF_of fun z => by
      rw [(addF_all _ _).2.1]; constructor
      · rintro ((h | h) | h)
        · exact .inl h
        · exact .inr h
        · exact .inl h
      · exact .inl
    have g1 := ha.addG hb (by decide)
    have g2 := (ha.add hb).same (ha.add hb) (by decide)
    have g3 := hb.addG ha (by decide)
    have g4 := (ha.add hb).addG hc (by decide)
    have g5 := hb.addG hc (by decide)
    have g6 := ha.addG (hb.add hc) (by decide)
    have g7 := (ha.add (hb.add hc)).same (ha.add (hb.add hc)) (by decide)
    have g8 := (ha.add hb).addG ha (by decide)
    rw [e1, e2, e3, g1, g2, g3, g4, g5, g6, g7, g8, sameRs_refl, sameRs_refl]
    rfl⟩

theorem eqV_refl (a : Val) : eqD tVal a a = true := (eqV_iff a a).2 rfl

theorem lawFinds_end (fuel : Nat) (l : List Drw) (b0 b1 b2 : Int) (b3 : List Alt) (b4 : List Int) (h : b3.length ≤ 1048576) : lawFinds_j10 fuel l b0 b1 b2 b3 b4 = some (.val .bool true) := by
  have hl := records_small l
  have hg : findG (recordsF l) (b0, b1, b2, b3, b4, ()) = true := by
    have := hl.1
    have e : (recordsF l).length ≤ LIM := by unfold LIM; omega
    simp only [findG, Bool.and_eq_true, decide_eq_true_eq, List.all_eq_true]
    exact ⟨⟨e, hl.2⟩, dt h⟩
  rw [lawFinds_j10_eq, hg, eqV_refl]
  simp [tt0]

theorem ix_mem {t : Ty} (l : List t.den) (i : Int) (h0 : 0 ≤ i) (h1 : i < (l.length : Int)) : ix t l i ∈ l := by
  have h : i.toNat < l.length := by omega
  rw [ix, List.getD_eq_getElem?_getD, List.getElem?_eq_getElem h]
  exact List.getElem_mem h

theorem lawFinds_loop (fuel : Nat) (l : List Drw) (id b0 b1 b2 : Int) (b4 : List Int) : ∀ (n k : Nat) (b3 : List Alt), k < n → k ≤ ((ix tRecord (recordsF l) (mod2F id ((recordsF l).length : Int))).2.2.1).length → b3.length + k ≤ 1048576 →
    lawFinds_l7 fuel n l id ((k : Int) - 1) b0 b1 b2 b3 b4 = some (.val .bool true) := by
  intro n
  induction n with
  | zero => intro k b3 h; omega
  | succ n ih =>
    intro k b3 h hk hb
    cases k with
    | zero =>
      rw [lawFinds_l7_eq, df (p := ((0 : Nat) : Int) - 1 ≥ 0) (by omega), cond_false]
      exact lawFinds_end fuel l b0 b1 b2 b3 b4 (by omega)
    | succ k =>
      have e0 : (((k + 1 : Nat) : Int) - 1) = (k : Int) := by omega
      have next := fun x => ih k (b3 ++ [x]) (by omega) (by omega) (by simp; omega)
      rw [e0, lawFinds_l7_eq, dt (p := (k : Int) ≥ 0) (by omega), dt (p := (k : Int) < _) (by omega), dt (p := List.length b3 + _ ≤ LIM) (by simp only [List.length_cons, List.length_nil]; unfold LIM; omega), w64_id (n := (k : Int) - 1) (by omega) (by omega)]
      simp only [cond_true, Bool.and_self]
      exact next _

theorem lawFinds_meets (l : List Drw) (kind id a b c : Int) : ∃ fuel, lawFinds_run fuel l kind id a b c = some (.val .bool (ttF l kind id a b c)) := by
  have hl := records_small l
  have hl1 := hl.1
  refine ⟨4294967297, ?_⟩
  rw [lawFinds_eq, mod2G_is _ 8 (by decide), mod2G_is _ 3 (by decide), show id2G id 1 = true from dt (by decide), mod2G_is _ ((recordsF l).length : Int) (by omega)]
  simp only [cond_true, impl_true]
  by_cases h0 : ((recordsF l).length : Int) > 0
  · obtain ⟨m1, m2⟩ := mod2F_rng id (n := ((recordsF l).length : Int)) (by omega)
    have hmem := ix_mem (t := tRecord) (recordsF l) _ m1 m2
    have hrec : (ix tRecord (recordsF l) (mod2F id ((recordsF l).length : Int))).2.2.1.length ≤ 3 := by
      simp only [recordsF, List.mem_map] at hmem
      obtain ⟨d, _, hd⟩ := hmem
      have : (ix tRecord (recordsF l) (mod2F id ((recordsF l).length : Int))).2.2.1 = (recordF d).2.2.1 := by rw [hd]; rfl
      rw [this]
      refine Nat.le_trans (valuesF_len _) (by simp; omega)
    rw [dt h0, dt m1, dt m2]
    simp only [cond_true, Bool.and_self]
    by_cases h1 : mod2F kind 3 > 0
    · rw [dt h1, cond_true]
      have := lawFinds_loop 4294967297 l id (w64 (1 + w64 (Int.tdiv (mod2F kind 8) 7))) (ix tRecord (recordsF l) (mod2F id ((recordsF l).length : Int))).1 3 [] 4294967297 _ [] (by omega) (Nat.le_refl _) (by rw [List.length_nil]; omega)
      rw [w64_id (n := _ - 1) (by omega) (by omega)]
      exact this
    · rw [df h1, cond_false]
      exact lawFinds_end _ _ _ _ _ _ _ (by simp)
  · rw [df h0]
    exact lawFinds_end _ _ _ _ _ _ _ (by simp)

end Go.Proofs.Ytfeijnbommgigaa.Abs
