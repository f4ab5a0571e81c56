/- Layer 25 as the reference has it: places, alternatives, states that are made of marks. -/
import Derived.Test.YtfeijnbommgigaaMeetV2
namespace Go.Proofs.Ytfeijnbommgigaa.Abs
open Go

theorem ahd_iff {i f j g : Int} : ahd i f j g = true ↔ i < j ∨ (i = j ∧ f < g) := by simp [ahd]
theorem ahd_no {i f j g : Int} : ahd i f j g = false ↔ ¬ (i < j ∨ (i = j ∧ f < g)) := by rw [← ahd_iff]; simp
theorem ahd_trans {i f j g k h : Int} (h1 : ahd i f j g = true) (h2 : ahd j g k h = true) : ahd i f k h = true := by
  rw [ahd_iff] at *; omega

theorem ahd_tot {i f j g : Int} (h : ahd i f j g = false) (hne : ¬ (i = j ∧ f = g)) : ahd j g i f = true := by
  rw [ahd_no] at h
  rw [ahd_iff]
  omega

/-- Where a register's place is, in an ascending state. -/
theorem place_at {L : List Slt} (hp : L.Pairwise slotLt) (id field : Int) : ∀ m, m < L.length → ahd (L.getD m (zero tSlot)).1 (L.getD m (zero tSlot)).2.1 id field = decide (m < (L.takeWhile (fun x => ahd x.1 x.2.1 id field)).length) := by
  induction L with
  | nil => intro m hm; simp at hm
  | cons x L ih =>
    obtain ⟨h1, h2⟩ := List.pairwise_cons.1 hp
    intro m hm
    rw [List.takeWhile_cons]
    cases hx : ahd x.1 x.2.1 id field with
    | true =>
      cases m with
      | zero => simp [List.getD, hx]
      | succ m =>
        have := ih h2 m (by simpa using hm)
        simpa [List.getD] using this
    | false =>
      cases m with
      | zero => simp [List.getD, hx]
      | succ m =>
        have hm' : m < L.length := by simpa using hm
        have hmem : L.getD m (zero tSlot) ∈ L := by
          simp only [List.getD, List.getElem?_eq_getElem hm', Option.getD_some]
          exact List.getElem_mem hm'
        have hlt := h1 _ hmem
        have e : (x :: L).getD (m + 1) (zero tSlot) = L.getD m (zero tSlot) := by simp [List.getD]
        rw [e]
        cases hy : ahd (L.getD m (zero tSlot)).1 (L.getD m (zero tSlot)).2.1 id field with
        | false => simp
        | true =>
          have := ahd_trans hlt hy
          rw [hx] at this
          cases this

theorem place_loop (fuel : Nat) (id field : Int) (L : List Slt) (u : Unit) (hl : L.length ≤ 1048576) (hp : L.Pairwise slotLt) : ∀ (n lo hi : Nat), hi - lo < n → lo ≤ (L.takeWhile (fun x => ahd x.1 x.2.1 id field)).length → (L.takeWhile (fun x => ahd x.1 x.2.1 id field)).length ≤ hi → hi ≤ L.length →
    placeX_l2 fuel n id field (L, u) (lo : Int) (hi : Int) = some (.val tInt ((L.takeWhile (fun x => ahd x.1 x.2.1 id field)).length : Int)) := by
  intro n
  induction n with
  | zero => intro lo hi h; omega
  | succ n ih =>
    intro lo hi h h1 h2 h3
    rw [placeX_l2_eq]
    dsimp only
    by_cases hlt : lo < hi
    · have e1 : w64 ((lo : Int) + (hi : Int)) = ((lo + hi : Nat) : Int) := by rw [w64_id (by omega) (by omega)]; simp
      have e2 : Int.tdiv ((lo + hi : Nat) : Int) 2 = (((lo + hi) / 2 : Nat) : Int) := rfl
      have e3 : w64 (((lo + hi) / 2 : Nat) : Int) = (((lo + hi) / 2 : Nat) : Int) := w64_nat (by omega)
      rw [e1, e2, e3]
      generalize hm : (lo + hi) / 2 = m
      have hm1 : lo ≤ m := by omega
      have hm2 : m < hi := by omega
      have e4 : w64 ((m : Int) + 1) = ((m + 1 : Nat) : Int) := by rw [w64_id (by omega) (by omega)]; simp
      have e5 : ix tSlot L (m : Int) = L.getD m (zero tSlot) := by simp [ix]
      rw [e4, e5, aheadF_is, place_at hp id field m (by omega)]
      have c1 : decide ((lo : Int) < (hi : Int)) = true := dt (by omega)
      have c2 : decide ((0 : Int) ≤ (m : Int)) = true := dt (by omega)
      have c3 : decide ((m : Int) < (L.length : Int)) = true := dt (by omega)
      rw [c1, c2, c3]
      simp only [Bool.and_self, cond_true]
      by_cases hk : m < (L.takeWhile (fun x => ahd x.1 x.2.1 id field)).length
      · rw [dt hk, cond_true]
        exact ih (m + 1) hi (by omega) (by omega) h2 h3
      · rw [df hk, cond_false]
        exact ih lo m (by omega) h1 (by omega) (by omega)
    · have c1 : decide ((lo : Int) < (hi : Int)) = false := df (by omega)
      have e : (L.takeWhile (fun x => ahd x.1 x.2.1 id field)).length = lo := by omega
      rw [c1, cond_false, e]

theorem placeG_parts {s : Sta} {id field : Int} (h : placeG s id field = true) : s.1.length ≤ 1048576 ∧ s.1.Pairwise slotLt := by
  simpa [placeG, ascS] using h

theorem placeX_meets (s : Sta) (id field : Int) (h : placeG s id field = true) : ∃ fuel, placeX_run fuel s id field = some (.val tInt (placeF s id field)) := by
  obtain ⟨h1, h2⟩ := placeG_parts h
  obtain ⟨l, u⟩ := s
  refine ⟨l.length + 1, ?_⟩
  rw [placeX_eq]
  exact place_loop _ id field l u h1 h2 (l.length + 1) 0 l.length (by omega) (Nat.zero_le _) (List.takeWhile_sublist _).length_le (Nat.le_refl _)

theorem split_s (s : Sta) (id field : Int) : s.1 = before s id field ++ behind s id field := (List.takeWhile_append_dropWhile).symm

theorem altsX_meets (s : Sta) (id field : Int) (h : placeG s id field = true) : ∃ fuel, altsX_run fuel s id field = some (.val (.slice tAlt) (altsF s id field)) := by
  refine ⟨0, ?_⟩
  rw [altsX_eq, h]
  have hs := split_s s id field
  unfold altsF placeF
  generalize before s id field = p at *
  cases hq : behind s id field with
  | nil =>
    rw [hq] at hs
    rw [hs]
    have c : decide ((p.length : Int) < ((p ++ []).length : Int)) = false := df (by simp)
    rw [c]
    simp [false_impl]
  | cons x r =>
    rw [hq] at hs
    rw [hs, ix_mid (t := tSlot), lt_mid (t := tSlot), nn_len (t := tSlot)]
    simp only [cond_true, Bool.and_self, impl_true]
    by_cases h1 : x.1 = id <;> by_cases h2 : x.2.1 = field <;> simp [h1, h2]

theorem drop_mid {t : Ty} (p : List t.den) (c : t.den) (r : List t.den) : List.drop (p.length + 1) (p ++ c :: r) = r := by
  rw [← List.drop_drop]; simp

theorem setX_meets (s : Sta) (id field : Int) (l : List Alt) (h : setG s id field l = true) : ∃ fuel, setX_run fuel s id field l = some (.val tState (stSetF s id field l)) := by
  refine ⟨0, ?_⟩
  have hG : placeG s id field = true := h
  obtain ⟨h1, _⟩ := placeG_parts hG
  have hs := split_s s id field
  unfold stSetF
  have j7 : ∀ (out : List Slt) (k : Nat), out.length ≤ 2097152 → k ≤ s.1.length → setX_j7 0 out s (k : Int) = some (.val tState (out ++ s.1.drop k, ())) := by
    intro out k ho hk
    rw [setX_j7_eq]
    have c1 : decide ((0 : Int) ≤ (k : Int)) = true := dt (by omega)
    have c2 : decide ((k : Int) ≤ (s.1.length : Int)) = true := dt (by omega)
    have c3 : decide (out.length + ((List.take s.1.length s.1).drop (Int.toNat (k : Int))).length ≤ LIM) = true := dt (by simp [LIM]; omega)
    rw [c1, c2, c3]
    simp
  have j5 : ∀ out : List Slt, out.length ≤ 2097152 → setX_j5 0 id field s out = some (.val tState (out ++ cutR id field (behind s id field), ())) := by
    intro out ho
    have hk : (before s id field).length ≤ s.1.length := by rw [hs]; simp
    rw [setX_j5_eq]
    unfold placeF
    cases hq : behind s id field with
    | nil =>
      rw [hq] at hs
      have c : decide (((before s id field).length : Int) < (s.1.length : Int)) = false := df (by rw [hs]; simp)
      rw [c, j7 out _ ho hk]
      have hd : s.1.drop (before s id field).length = [] := by rw [hs]; simp
      rw [hd]
      simp [false_impl, cutR]
    | cons x r =>
      rw [hq] at hs
      have hk1 : (before s id field).length + 1 ≤ s.1.length := by rw [hs]; simp
      have e1 : ix tSlot s.1 ((before s id field).length : Int) = x := by rw [hs]; exact ix_mid (t := tSlot) _ _ _
      have c1 : decide (((before s id field).length : Int) < (s.1.length : Int)) = true := dt (by omega)
      have c2 : decide ((0 : Int) ≤ ((before s id field).length : Int)) = true := dt (by omega)
      have e2 : w64 (((before s id field).length : Int) + 1) = (((before s id field).length + 1 : Nat) : Int) := by rw [w64_id (by omega) (by omega)]; simp
      have d1 : s.1.drop (before s id field).length = x :: r := by rw [hs]; simp
      have d2 : s.1.drop ((before s id field).length + 1) = r := by rw [hs]; exact drop_mid (t := tSlot) _ _ _
      rw [e1, c1, c2, e2, j7 out _ ho hk, j7 out _ ho hk1, d1, d2]
      simp only [cond_true, Bool.and_self, impl_true]
      by_cases g1 : x.1 = id <;> by_cases g2 : x.2.1 = field <;> simp [g1, g2, cutR]
  rw [setX_eq, hG]
  unfold placeF
  have hk : (before s id field).length ≤ s.1.length := by rw [hs]; simp
  have ht : (List.take (Int.toNat ((before s id field).length : Int)) s.1).drop 0 = before s id field := by
    simp only [Int.toNat_natCast, List.drop_zero]
    rw [hs]; simp
  have c1 : decide ((0 : Int) ≤ ((before s id field).length : Int)) = true := dt (by omega)
  have c2 : decide (((before s id field).length : Int) ≤ (s.1.length : Int)) = true := dt (by omega)
  have c3 : decide (([] : List Slt).length + (before s id field).length ≤ LIM) = true := dt (by simp [LIM]; omega)
  have c4 : decide ((([] : List Slt) ++ before s id field).length + ([(id, field, l, ())] : List Slt).length ≤ LIM) = true := dt (by simp [LIM]; omega)
  rw [ht, c1, c2, c3, c4, j5 _ (by simp; omega), j5 _ (by simp; omega)]
  cases l with
  | nil => simp
  | cons a l =>
    have c5 : decide (((a :: l).length : Int) > 0) = true := dt (by simp)
    rw [c5]
    simp

/-- What the state of some marks is like. -/
structure SOk (n : Nat) (s : Sta) : Prop where
  len : s.1.length ≤ n
  asc : s.1.Pairwise slotLt
  alts : ∀ x ∈ s.1, x.2.2.1 ≠ [] ∧ x.2.2.1.length ≤ n
  val : ∀ x ∈ s.1, ∀ a ∈ x.2.2.1, a.2.1.2.2.2.1 = 0 ∨ a.2.1.2.2.2.1 = x.1

theorem lt_of_not {a b : Int} (h1 : ¬ a < b) (h2 : ¬ a = b) : b < a := by omega

theorem empty_ok : SOk 0 (([], ()) : Sta) := ⟨Nat.le_refl _, List.Pairwise.nil, (fun x hx => by cases hx), (fun x hx => by cases hx)⟩

theorem SOk.mono {n m : Nat} {s : Sta} (h : SOk n s) (hle : n ≤ m) : SOk m s :=
  ⟨Nat.le_trans h.len hle, h.asc, fun x hx => ⟨(h.alts x hx).1, Nat.le_trans (h.alts x hx).2 hle⟩, h.val⟩

theorem SOk.place {n : Nat} {s : Sta} (h : SOk n s) (hn : n ≤ 1048576) (id field : Int) : placeG s id field = true := by
  simp only [placeG, ascS, Bool.and_eq_true, decide_eq_true_eq]
  exact ⟨Nat.le_trans h.len hn, h.asc⟩

theorem alts_in (s : Sta) (id field : Int) : altsF s id field = [] ∨ ∃ x ∈ s.1, x.1 = id ∧ x.2.2.1 = altsF s id field := by
  unfold altsF
  cases hq : behind s id field with
  | nil => exact .inl rfl
  | cons x r =>
    simp only
    split
    · rename_i h
      refine .inr ⟨x, ?_, h.1, rfl⟩
      rw [split_s s id field, hq]; simp
    · exact .inl rfl

theorem id2F_rng (x n : Int) (h1 : 1 ≤ n) (h2 : n ≤ 4) : 0 < id2F x n ∧ id2F x n < 8388608 := by
  obtain ⟨a1, a2⟩ := mod2F_rng x (n := 3) (by decide)
  obtain ⟨b1, b2⟩ := mod2F_rng (w64 (x.tdiv 3)) h1
  unfold id2F; omega

theorem value_ref (id field t : Int) (h : 0 < id ∧ id < 8388608) : (value2F id field t).2.2.2.1 = 0 ∨ (value2F id field t).2.2.2.1 = id := by
  obtain ⟨a1, a2⟩ := mod2F_rng (w64 (field * t)) (n := 2) (by decide)
  simp only [value2F]
  have : mod2F (w64 (field * t)) 2 = 0 ∨ mod2F (w64 (field * t)) 2 = 1 := by omega
  rcases this with e | e <;> rw [e]
  · left; rw [Int.zero_mul]; exact w64_id (by omega) (by omega)
  · right; rw [Int.one_mul]; exact w64_id (by omega) (by omega)

theorem newAlts_len (old : List Alt) (id field t : Int) : (newAlts old id field t).length = old.length + 1 := by
  have := congrArg List.length (List.takeWhile_append_dropWhile (p := fun a : Alt => decide (a.1 < t)) (l := old))
  simp only [List.length_append] at this
  simp only [newAlts, List.length_append, List.length_singleton]; omega

theorem newAlts_mem {old : List Alt} {id field t : Int} {a : Alt} (h : a ∈ newAlts old id field t) : a ∈ old ∨ a = (t, value2F id field t, ()) := by
  simp only [newAlts, List.mem_append, List.mem_singleton] at h
  rcases h with (h | h) | h
  · exact .inl ((List.takeWhile_sublist _).subset h)
  · exact .inr h
  · exact .inl ((List.dropWhile_sublist _).subset h)

theorem takeWhile_all {α : Type} (p : α → Bool) : ∀ (l : List α), ∀ x ∈ l.takeWhile p, p x = true
  | [], x, h => by simp at h
  | y :: l, x, h => by
    rw [List.takeWhile_cons] at h
    split at h
    · rename_i hy
      rcases List.mem_cons.1 h with rfl | h
      · exact hy
      · exact takeWhile_all p l x h
    · simp at h

theorem dropWhile_head {α : Type} (p : α → Bool) : ∀ (l : List α) (x : α) (r : List α), l.dropWhile p = x :: r → p x = false
  | [], x, r, h => by simp at h
  | y :: l, x, r, h => by
    rw [List.dropWhile_cons] at h
    split at h
    · exact dropWhile_head p l x r h
    · rename_i hy
      injection h with h1 h2
      subst h1
      simpa using hy

theorem set_ok {n : Nat} {s : Sta} (h : SOk n s) (id field : Int) (l : List Alt) (hne : l ≠ []) (hl : l.length ≤ n + 1) (hv : ∀ a ∈ l, a.2.1.2.2.2.1 = 0 ∨ a.2.1.2.2.2.1 = id) : SOk (n + 1) (stSetF s id field l) := by
  have hs := split_s s id field
  have hp : ∀ x ∈ before s id field, ahd x.1 x.2.1 id field = true := takeWhile_all _ _
  have hh : ∀ x r, behind s id field = x :: r → ahd x.1 x.2.1 id field = false := dropWhile_head _ _
  have hasc := h.asc
  have hlen := h.len
  have key : ∀ q', (∀ y ∈ q', y ∈ s.1) → q'.Pairwise slotLt → (∀ y ∈ q', ahd id field y.1 y.2.1 = true) → (∀ x ∈ before s id field, ∀ y ∈ q', slotLt x y) → (before s id field).length + q'.length ≤ n → SOk (n + 1) (before s id field ++ [(id, field, l, ())] ++ q', ()) := by
    intro q' k1 k2 k3 k4 k5
    have mem : ∀ x ∈ before s id field ++ [(id, field, l, ())] ++ q', x ∈ s.1 ∨ x = (id, field, l, ()) := by
      intro x hx
      simp only [List.mem_append, List.mem_singleton] at hx
      rcases hx with (hx | hx) | hx
      · exact .inl (by rw [hs]; exact List.mem_append_left _ hx)
      · exact .inr hx
      · exact .inl (k1 x hx)
    refine ⟨by simp; omega, ?_, fun x hx => ?_, fun x hx a ha => ?_⟩
    · show (before s id field ++ [(id, field, l, ())] ++ q').Pairwise slotLt
      rw [hs, List.pairwise_append] at hasc
      rw [List.append_assoc, List.pairwise_append]
      refine ⟨hasc.1, ?_, fun x hx y hy => ?_⟩
      · rw [List.singleton_append, List.pairwise_cons]
        exact ⟨fun y hy => k3 y hy, k2⟩
      · rcases List.mem_append.1 hy with hy | hy
        · rw [List.mem_singleton.1 hy]; exact hp x hx
        · exact k4 x hx y hy
    · rcases mem x hx with hx | rfl
      · exact ⟨(h.alts x hx).1, Nat.le_succ_of_le (h.alts x hx).2⟩
      · exact ⟨hne, hl⟩
    · rcases mem x hx with hx | rfl
      · exact h.val x hx a ha
      · exact hv a ha
  unfold stSetF
  have he : l.isEmpty = false := by cases l with | nil => exact absurd rfl hne | cons _ _ => rfl
  rw [he]
  have hps := hasc
  rw [hs, List.pairwise_append] at hps
  cases hq : behind s id field with
  | nil =>
    exact key [] (fun y hy => by cases hy) List.Pairwise.nil (fun y hy => by cases hy) (fun x _ y hy => by cases hy) (by rw [hs, hq] at hlen; simpa using hlen)
  | cons x r =>
    rw [hq] at hps
    have hx := hh x r hq
    obtain ⟨q1, q2⟩ := List.pairwise_cons.1 hps.2.1
    have hlen' : (before s id field).length + (r.length + 1) ≤ n := by rw [hs, hq] at hlen; simpa using hlen
    have inS : ∀ y ∈ x :: r, y ∈ s.1 := fun y hy => by rw [hs, hq]; exact List.mem_append_right _ hy
    simp only [cutR]
    by_cases hsame : x.1 = id ∧ x.2.1 = field
    · rw [if_pos hsame]
      refine key r (fun y hy => inS y (List.mem_cons_of_mem _ hy)) q2 (fun y hy => ?_) (fun a ha y hy => hps.2.2 a ha y (List.mem_cons_of_mem _ hy)) (by omega)
      have := q1 y hy
      unfold slotLt at this
      rw [hsame.1, hsame.2] at this
      exact this
    · rw [if_neg hsame]
      have hx' : ahd id field x.1 x.2.1 = true := by
        exact ahd_tot hx hsame
      refine key (x :: r) inS hps.2.1 (fun y hy => ?_) hps.2.2 (by simpa using hlen')
      rcases List.mem_cons.1 hy with rfl | hy
      · exact hx'
      · exact ahd_trans hx' (q1 y hy)

theorem step_ok {n : Nat} {s : Sta} (h : SOk n s) (m : Mrk) : SOk (n + 1) (stStep s m) := by
  unfold stStep
  cases hasT (altsF s (id2F m.1 3) (fields2F m.2.1)) (id2F m.2.2.1 4) with
  | true => exact h.mono (by omega)
  | false =>
    have ho : (altsF s (id2F m.1 3) (fields2F m.2.1)).length ≤ n ∧ ∀ a ∈ altsF s (id2F m.1 3) (fields2F m.2.1), a.2.1.2.2.2.1 = 0 ∨ a.2.1.2.2.2.1 = id2F m.1 3 := by
      rcases alts_in s (id2F m.1 3) (fields2F m.2.1) with e | ⟨x, hx, e1, e2⟩
      · rw [e]; exact ⟨Nat.zero_le _, fun a ha => by cases ha⟩
      · rw [← e2, ← e1]; exact ⟨(h.alts x hx).2, h.val x hx⟩
    refine set_ok h _ _ _ ?_ ?_ ?_
    · intro e
      have := newAlts_len (altsF s (id2F m.1 3) (fields2F m.2.1)) (id2F m.1 3) (fields2F m.2.1) (id2F m.2.2.1 4)
      rw [e] at this
      simp at this
    · rw [newAlts_len]; omega
    · intro a ha
      rcases newAlts_mem ha with ha | rfl
      · exact ho.2 a ha
      · exact value_ref _ _ _ (id2F_rng _ 3 (by decide) (by decide))

theorem state_l8 (fuel n3 : Nat) (p r : List Mrk) (c : Mrk) (S : List Slt) (hG : placeG (S, ()) (id2F c.1 3) (fields2F c.2.1) = true) (hl : (altsF (S, ()) (id2F c.1 3) (fields2F c.2.1)).length ≤ 1048576) :
    ∀ (n8 : Nat) (a b : List Alt), altsF (S, ()) (id2F c.1 3) (fields2F c.2.1) = a ++ b → (∀ x ∈ a, x.1 < id2F c.2.2.1 4) → b.length < n8 →
      stateX_l8 fuel n3 n8 (p ++ c :: r) (p.length : Int) S (a.length : Int) = stateX_j4 fuel n3 (p ++ c :: r) (p.length : Int) (stStep (S, ()) c).1 := by
  intro n8
  induction n8 with
  | zero => intro a b _ _ h; omega
  | succ n8 ih =>
    intro a b hab ha hb
    rw [stateX_l8_eq, ix_mid (t := tMark)]
    have hla : a.length + b.length ≤ 1048576 := by rw [hab] at hl; simpa using hl
    have htw : ∀ b', (∀ x b'', b' = x :: b'' → ¬ x.1 < id2F c.2.2.1 4) → List.takeWhile (fun x : Alt => decide (x.1 < id2F c.2.2.1 4)) (a ++ b') = a ∧ List.dropWhile (fun x : Alt => decide (x.1 < id2F c.2.2.1 4)) (a ++ b') = b' := by
      intro b' hb'
      rw [List.takeWhile_append_of_pos (fun x hx => dt (ha x hx)), List.dropWhile_append_of_pos (fun x hx => dt (ha x hx))]
      cases b' with
      | nil => simp
      | cons x b'' => have := hb' x b'' rfl; simp [this]
    have hset : ∀ b', altsF (S, ()) (id2F c.1 3) (fields2F c.2.1) = a ++ b' → (∀ x b'', b' = x :: b'' → id2F c.2.2.1 4 < x.1) → (stSetF (S, ()) (id2F c.1 3) (fields2F c.2.1) (a ++ [(id2F c.2.2.1 4, value2F (id2F c.1 3) (fields2F c.2.1) (id2F c.2.2.1 4), ())] ++ b')) = stStep (S, ()) c := by
      intro b' e hb'
      obtain ⟨t1, t2⟩ := htw b' (fun x b'' h => by have := hb' x b'' h; omega)
      unfold stStep newAlts hasT
      rw [e, t1, t2]
      cases b' with
      | nil => rfl
      | cons x b'' =>
        have := hb' x b'' rfl
        have hne : ¬ x.1 = id2F c.2.2.1 4 := fun e => by rw [e] at this; exact absurd this (Int.lt_irrefl _)
        simp only [df hne, cond_false]
    have lims : decide (([] : List Alt).length + a.length ≤ LIM) = true ∧ decide ((([] : List Alt) ++ a).length + ([(id2F c.2.2.1 4, value2F (id2F c.1 3) (fields2F c.2.1) (id2F c.2.2.1 4), ())] : List Alt).length ≤ LIM) = true ∧ decide (((([] : List Alt) ++ a) ++ [(id2F c.2.2.1 4, value2F (id2F c.1 3) (fields2F c.2.1) (id2F c.2.2.1 4), ())]).length + b.length ≤ LIM) = true :=
      ⟨dt (by simp [LIM]; omega), dt (by simp [LIM]; omega), dt (by simp [LIM]; omega)⟩
    have hG' : ∀ l, setG (S, ()) (id2F c.1 3) (fields2F c.2.1) l = true := fun l => hG
    have ht : (List.take (Int.toNat (a.length : Int)) (a ++ b)).drop 0 = a := by simp
    have hd : (List.take (List.length (a ++ b)) (a ++ b)).drop (Int.toNat (a.length : Int)) = b := by rw [List.take_length]; simp
    have hle : decide ((a.length : Int) ≤ ((a ++ b).length : Int)) = true := dt (by simp; omega)
    have hst := hset b hab
    rw [hab, ht, hd, lims.1, lims.2.1, lims.2.2, hG', hle, nn_len (t := tAlt)]
    rw [List.nil_append]
    cases b with
    | nil =>
      rw [lt_end (t := tAlt)]
      rw [hst (fun x b'' h => by cases h)]
      simp [false_impl]
    | cons x b =>
      rw [ix_mid (t := tAlt), lt_mid (t := tAlt)]
      simp only [cond_true, Bool.and_self, impl_true]
      by_cases h1 : x.1 < id2F c.2.2.1 4
      · rw [dt h1, cond_true]
        have next := ih (a ++ [x]) b (by rw [hab]; simp) (fun y hy => by
          rcases List.mem_append.1 hy with hy | hy
          · exact ha y hy
          · rw [List.mem_singleton.1 hy]; exact h1) (by simp at hb; omega)
        rw [← nx_len (t := tAlt) a x (by omega)] at next
        exact next
      · rw [df h1, cond_false]
        by_cases h2 : x.1 = id2F c.2.2.1 4
        · rw [dt h2, cond_true]
          obtain ⟨t1, t2⟩ := htw (x :: b) (fun y b'' h => by injection h with h _; subst h; exact h1)
          have : stStep (S, ()) c = (S, ()) := by
            unfold stStep hasT
            rw [hab, t2]
            simp only [dt h2, cond_true]
          rw [this]
        · rw [df h2, cond_false, hst (fun y b'' h => by injection h with h _; subst h; exact lt_of_not h1 h2)]

theorem state_loop (fuel : Nat) : ∀ (n : Nat) (r p : List Mrk) (S : List Slt), r.length < n → p.length ≤ 40 → SOk p.length (S, ()) → 41 ≤ fuel →
    stateX_l3 fuel n (p ++ r) (p.length : Int) S = some (.val tState ((r.take (40 - p.length)).foldl stStep (S, ()))) := by
  intro n
  induction n with
  | zero => intro r p S h; omega
  | succ n ih =>
    intro r p S h hp hok hf
    rw [stateX_l3_eq]
    cases r with
    | nil => rw [lt_end (t := tMark)]; simp
    | cons c r =>
      rw [ix_mid (t := tMark), lt_mid (t := tMark), nn_len (t := tMark)]
      by_cases h40 : p.length < 40
      · have c1 : decide ((p.length : Int) < 40) = true := dt (by omega)
        have hG := hok.place (by omega) (id2F c.1 3) (fields2F c.2.1)
        have ho : (altsF (S, ()) (id2F c.1 3) (fields2F c.2.1)).length ≤ 40 := by
          rcases alts_in (S, ()) (id2F c.1 3) (fields2F c.2.1) with e | ⟨x, hx, e1, e2⟩
          · rw [e]; exact Nat.zero_le _
          · rw [← e2]; exact Nat.le_trans (hok.alts x hx).2 hp
        have l8 := state_l8 fuel n p r c S hG (by omega) fuel [] (altsF (S, ()) (id2F c.1 3) (fields2F c.2.1)) rfl (fun x hx => by cases hx) (by omega)
        rw [show (([] : List Alt).length : Int) = 0 from rfl] at l8
        have next := ih r (p ++ [c]) (stStep (S, ()) c).1 (by simp at h; omega) (by simp; omega) (by simpa using step_ok hok c) hf
        rw [← as_mid (t := tMark), ← nx_len (t := tMark) p c (by omega)] at next
        have g1 : id2G c.1 3 = true := dt (by decide)
        have g2 : id2G c.2.2.1 4 = true := dt (by decide)
        rw [c1, g1, g2, hG, l8, stateX_j4_eq, next]
        have e : 40 - p.length = (40 - (p.length + 1)) + 1 := by omega
        simp only [cond_true, Bool.and_self, e, List.take_succ_cons, List.foldl_cons, List.length_append, List.length_singleton]
      · have c1 : decide ((p.length : Int) < 40) = false := df (by omega)
        have e : 40 - p.length = 0 := by omega
        rw [c1, e]
        simp

theorem stateX_meets (l : List Mrk) : ∃ fuel, stateX_run fuel l = some (.val tState (stateF l)) := by
  refine ⟨l.length + 41, ?_⟩
  rw [stateX_eq]
  exact state_loop (l.length + 41) (l.length + 41) l [] [] (by omega) (by simp) empty_ok (by omega)

theorem foldl_ok : ∀ (l : List Mrk) (n : Nat) (s : Sta), SOk n s → SOk (n + l.length) (l.foldl stStep s)
  | [], n, s, h => h
  | m :: l, n, s, h => by
    have := foldl_ok l (n + 1) (stStep s m) (step_ok h m)
    rw [List.foldl_cons, List.length_cons, show n + (l.length + 1) = n + 1 + l.length by omega]
    exact this

theorem state_ok (l : List Mrk) : SOk 40 (stateF l) := by
  have := foldl_ok (l.take 40) 0 ([], ()) empty_ok
  exact this.mono (by simp; omega)

theorem SOk.stG {n : Nat} {s : Sta} (h : SOk n s) (hn : n ≤ 1048576) : stG s = true := by
  simp only [Abs.stG, Bool.and_eq_true, decide_eq_true_eq, List.all_eq_true, Bool.not_eq_true', lenA]
  exact ⟨Nat.le_trans h.len hn, fun x hx => ⟨by
    have := (h.alts x hx).1
    cases hx2 : x.2.2.1 with
    | nil => exact absurd hx2 this
    | cons _ _ => rfl, Nat.le_trans (h.alts x hx).2 hn⟩⟩

end Go.Proofs.Ytfeijnbommgigaa.Abs
