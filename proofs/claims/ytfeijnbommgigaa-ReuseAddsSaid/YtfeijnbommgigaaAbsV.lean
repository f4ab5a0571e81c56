/- A mask is sound; the run of a function's code is sound. -/
import Derived.Test.YtfeijnbommgigaaAbsU
import Derived.LoopN
namespace Go.Proofs.Ytfeijnbommgigaa.Abs
open Go Go.RowKit

theorem setBoxes_len : ∀ (bs : List (Nat × List AV)) (H : List HO), (setBoxes bs H).length = H.length
  | [], _ => rfl
  | (k, cells) :: r, H => by rw [setBoxes, setBoxes_len r]; simp

theorem setBoxes_other : ∀ (bs : List (Nat × List AV)) (H : List HO) (k : Nat), k ∉ bs.map (·.1) → (setBoxes bs H)[k]? = H[k]?
  | [], _, _, _ => rfl
  | (k', cells) :: r, H, k, h => by
    simp only [List.map_cons, List.mem_cons, not_or] at h
    rw [setBoxes, setBoxes_other r _ k h.2, get_set, if_neg (fun e => h.1 e.symm)]

theorem noDup_cons {a : Nat} {l : List Nat} (h : noDup (a :: l) = true) : a ∉ l ∧ noDup l = true := by
  simpa [noDup] using h

theorem setBoxes_mem : ∀ (bs : List (Nat × List AV)) (H : List HO), noDup (bs.map (·.1)) = true → ∀ p ∈ bs, p.1 < H.length → (setBoxes bs H)[p.1]? = some (.box p.2)
  | [], _, _, _, h, _ => by cases h
  | (k, cells) :: r, H, hd, p, hp, hlt => by
    obtain ⟨h1, h2⟩ := noDup_cons hd
    rw [setBoxes]
    rcases List.mem_cons.1 hp with rfl | hp
    · rw [setBoxes_other r _ _ h1, get_set, if_pos rfl, if_pos hlt]
    · exact setBoxes_mem r _ h2 p hp (by simpa using hlt)

theorem othersOk_spec {h0 : Nat} {pre : List Nat} : ∀ (l : List HO) (i : Nat), othersOk h0 pre i l = true → ∀ (j : Nat) ho, l[j]? = some ho → (i + j) ∉ pre → ho.under h0 = true
  | [], _, _, j, ho, h, _ => by simp at h
  | x :: l, i, h, j, ho, hj, hn => by
    simp only [othersOk, Bool.and_eq_true, Bool.or_eq_true] at h
    cases j with
    | zero =>
      simp at hj
      subst hj
      rcases h.1 with h | h
      · exact absurd (by simpa using h) hn
      · exact h
    | succ j =>
      simp at hj
      exact othersOk_spec l (i + 1) h.2 j ho hj (by rw [show i + 1 + j = i + (j + 1) by omega]; exact hn)

section
variable {P : Program} {B lo : Nat} {w0 : World} {St0 : Nat → Nat → Prop} {fs : List (List AV × List Value)} {σ σ' : Sg} {a : Act} {w : World}

theorem mask_sound {m : MS} (h : mask lo m σ = some σ') (hr : Rel fs lo B w0 St0 σ a w) : Rel fs lo B w0 St0 σ' a w ∧ lo ≤ σ'.heap.length := by
  obtain ⟨c, hw, hh, hI, hE, hdf, hfs⟩ := hr
  unfold mask at h
  split at h
  · rename_i hchk
    simp only [Bool.and_eq_true, decide_eq_true_eq, List.all_eq_true] at hchk
    obtain ⟨⟨⟨⟨k1, k2⟩, k3⟩, k4⟩, k5⟩ := hchk
    split at h
    · rename_i bs H1 L1 hpre
      split at h
      · rename_i env' H2 L2 henv
        simp only [Option.some.injEq] at h
        subst h
        have c0 : CInv B c σ.heap [] [] := ⟨by rw [hh], rfl, fun k cells => by rw [hh], fun k t e v hk => ⟨v, by rw [hh]; exact hk, Nat.le_refl _⟩, fun k t e v hk => ⟨v, by rw [← hh]; exact hk, Nat.le_refl _⟩, fun i le s hl => by simp at hl, fun i j s s' b _ hs => by simp at hs, fun k t e v l hk => by rw [hh]; exact hk, fun k t e v l hk => .inl (by rw [← hh]; exact hk), fun k hk => by rw [← hh]; exact hk⟩
        obtain ⟨V1, c1, _, _, hnames, hbs⟩ := convPre_sound hI c0 hpre
        obtain ⟨V2, c2, pL, pV, hpend⟩ := convEnv_sound hI hE c1 henv (fun c' _ _ _ _ _ => RAs_unk (c := c') hE.length.symm)
        -- the state behind the mask
        let rv' : Nat → Value := fun i => if i < m.h0 then (match c.heap[i]?, H2[i]? with | some (.row _ _ v0), some (.row _ _ v) => if v = v0 then c.rv i else .slice none 0 0 | _, _ => c.rv i) else V2.getD (i - m.h0) (.slice none 0 0)
        let heap' : List HO := setBoxes bs (H2.take m.h0) ++ L2.map LE.ho
        let St' : Nat → Nat → Prop := fun b o => c.St b o ∨ ∃ (i : Nat) (t : Ty) (e : TypeId) (ko : Option (Nat × Nat)) (l : List t.den) (s : Value), L2[i]? = some (.frz t e ko l) ∧ V2[i]? = some s ∧ s.ownBlock = some b
        let c' : Gh := { heap := heap', St := St', blk := c.blk, rv := rv', w := c.w }
        have hlen0 : (setBoxes bs (H2.take m.h0)).length = m.h0 := by
          rw [setBoxes_len, List.length_take, c2.len, hh]
          omega
        have gold : ∀ k, k < m.h0 → heap'[k]? = (setBoxes bs (H2.take m.h0))[k]? := fun k hk => by
          show (_ ++ _)[k]? = _
          rw [List.getElem?_append_left (by omega)]
        have gnew : ∀ i, heap'[m.h0 + i]? = (L2.map LE.ho)[i]? := fun i => by
          show (_ ++ _)[m.h0 + i]? = _
          rw [List.getElem?_append_right (by omega), hlen0]
          congr 1
          omega
        have gkeep : ∀ k, k < m.h0 → k ∉ bs.map (·.1) → heap'[k]? = H2[k]? := fun k hk hn => by
          rw [gold k hk, setBoxes_other _ _ _ hn, List.getElem?_take, if_pos hk]
        have hnd : noDup (bs.map (·.1)) = true := by rw [hnames]; exact k3
        have hbnd : ∀ p ∈ bs, p.1 < m.h0 := fun p hp => by
          have : p.1 ∈ bs.map (·.1) := List.mem_map.2 ⟨p, hp, rfl⟩
          rw [hnames] at this
          obtain ⟨q, hq, e⟩ := List.mem_map.1 this
          have := k4 q hq
          omega
        have gbox : ∀ p ∈ bs, heap'[p.1]? = some (.box p.2) := fun p hp => by
          rw [gold _ (hbnd p hp)]
          exact setBoxes_mem bs _ hnd p hp (by rw [List.length_take, c2.len, hh]; have := hbnd p hp; omega)
        have notbox : ∀ (k : Nat) t e v0, c.heap[k]? = some (.row t e v0) → k ∉ bs.map (·.1) := fun k t e v0 hk hm => by
          obtain ⟨p, hp, e⟩ := List.mem_map.1 hm
          obtain ⟨cells, _, _, g1, _⟩ := hbs p hp
          have e : p.1 = k := e
          rw [e, hk] at g1
          cases g1
        have hrv : ∀ (k : Nat) t e v0 v, k < m.h0 → c.heap[k]? = some (.row t e v0) → H2[k]? = some (.row t e v) → rv' k = if v = v0 then c.rv k else .slice none 0 0 := fun k t e v0 v hk h1 h2 => by
          simp only [rv', if_pos hk, h1, h2]
        have notboxM : ∀ (k : Nat) ho, c.heap[k]? = some ho → (∀ cells, ho ≠ .box cells) → k ∉ bs.map (·.1) := fun k ho hk hnb hm => by
          obtain ⟨p, hp, e⟩ := List.mem_map.1 hm
          obtain ⟨cells, _, _, g1, _⟩ := hbs p hp
          have e : p.1 = k := e
          rw [e, hk] at g1
          injection g1 with g1
          exact hnb cells g1
        have fin : Fin c c' m.h0 L2 V2 := by
          refine ⟨rfl, fun _ _ => Iff.rfl, rfl, fun k cells hk hc => ?_, fun k t e v0 hk hc => ?_, fun i le s hl hs => ?_, fun k t e v l hk hc => ?_, fun k hk hc => ?_⟩
          · by_cases hm : k ∈ bs.map (·.1)
            · obtain ⟨p, hp, e⟩ := List.mem_map.1 hm
              have e : p.1 = k := e
              exact ⟨p.2, e ▸ gbox p hp⟩
            · exact ⟨cells, (gkeep k hk hm).trans ((c2.box k cells).2 hc)⟩
          · obtain ⟨v, h1, h2⟩ := c2.back k t e v0 hc
            exact ⟨v, (gkeep k hk (notbox k t e v0 hc)).trans h1, h2, fun e' => by show rv' k = _; rw [hrv k t e v0 v hk hc h1, if_pos e']⟩
          · refine ⟨by rw [gnew]; simp [hl], ?_⟩
            show rv' (m.h0 + i) = s
            simp only [rv']
            rw [if_neg (by omega), show m.h0 + i - m.h0 = i by omega]
            simp [List.getD, hs]
          · have hnb := notboxM k _ hc (fun cells e => by cases e)
            rcases c2.mback k t e v l hc with h1 | h1
            · refine .inl ⟨(gkeep k hk hnb).trans h1, ?_⟩
              show rv' k = _
              simp only [rv', if_pos hk, hc]
            · exact .inr ((gkeep k hk hnb).trans h1)
          · exact (gkeep k hk (notboxM k _ hc (fun cells e => by cases e))).trans (c2.dead k hc)
        have takenOf : ∀ (i : Nat) s, V2[i]? = some s → taken c H2 s := fun i s hs => by
          have hil : i < L2.length := by rw [c2.lv]; exact lt_of_get hs
          have hcl := c2.claim i L2[i] s (List.getElem?_eq_getElem hil) hs
          generalize L2[i] = le at hcl
          cases le with
          | own t e => exact hcl.2
          | «mut» t e ko l => exact hcl.2.1
          | frz t e ko l => exact hcl.2.1
        -- an object that stays where it was, and its block
        have hobk : ∀ k b, k < m.h0 → obk c' k = some b → obk c k = some b ∧ (∀ t e v0 v, c.heap[k]? = some (.row t e v0) → H2[k]? = some (.row t e v) → v = v0) ∧ H2[k]? ≠ some HO.dead := by
          intro k b hk hb
          cases hck : c.heap[k]? with
          | none =>
            exfalso
            have hkl : k < c.heap.length := by rw [hh]; omega
            rw [List.getElem?_eq_getElem hkl] at hck
            cases hck
          | some x =>
            cases x with
            | none =>
              exfalso
              have hn := notboxM k _ hck (fun cells e => by cases e)
              have h2 := gkeep k hk hn
              unfold obk at hb
              rw [show c'.heap[k]? = H2[k]? from h2] at hb
              cases hH : H2[k]? with
              | none => rw [hH] at hb; cases hb
              | some y =>
                rw [hH] at hb
                cases y with
                | none => cases hb
                | box cells => have := (c2.box k cells).1 hH; rw [hck] at this; cases this
                | row t e v => obtain ⟨v0, g, _⟩ := c2.row k t e v hH; rw [hck] at g; cases g
                | mrow t e v l => have := c2.mrow k t e v l hH; rw [hck] at this; cases this
                | dead => cases hb
            | box cells =>
              obtain ⟨cells', h2⟩ := fin.box k cells hk hck
              unfold obk at hb ⊢
              rw [h2] at hb
              rw [hck]
              exact ⟨hb, (fun t e v0 v h => by cases h), by rw [(c2.box k cells).2 hck]; intro e; cases e⟩
            | row t e v0 =>
              obtain ⟨v, h1, h2⟩ := c2.back k t e v0 hck
              have h3 : c'.heap[k]? = some (.row t e v) := (gkeep k hk (notbox k t e v0 hck)).trans h1
              have h4 := hrv k t e v0 v hk hck h1
              unfold obk at hb ⊢
              rw [h3] at hb
              rw [hck]
              have hb : (rv' k).ownBlock = some b := hb
              rw [h4] at hb
              by_cases hv : v = v0
              · rw [if_pos hv] at hb
                refine ⟨hb, fun t' e' v0' v' g1 g2 => ?_, by rw [h1]; intro e; cases e⟩
                rw [h1] at g2
                injection g1 with g1
                injection g2 with g2
                injection g1 with _ _ g1
                injection g2 with _ _ g2
                omega
              · rw [if_neg hv] at hb
                simp [Value.ownBlock] at hb
            | mrow t e v l =>
              rcases fin.mrow k t e v l hk hck with ⟨h1, h2⟩ | h1
              · unfold obk at hb ⊢
                rw [h1] at hb
                rw [hck]
                have hb : (c'.rv k).ownBlock = some b := hb
                rw [h2] at hb
                refine ⟨hb, (fun t e v0 v h => by cases h), ?_⟩
                intro hd
                have := (gkeep k hk (notboxM k _ hck (fun cells e => by cases e))).symm.trans h1
                rw [hd] at this
                cases this
              · unfold obk at hb
                rw [h1] at hb
                cases hb
            | dead =>
              have h1 := fin.dead k hk hck
              unfold obk at hb
              rw [h1] at hb
              cases hb
        -- the block of a row that was taken out is no other object's
        have apartOf : ∀ (k i : Nat) (s : Value) (b : Nat), k < m.h0 → obk c' k = some b → V2[i]? = some s → s.ownBlock ≠ some b := by
          intro k i s b hk h1 hs hb
          obtain ⟨o1, o2, o3⟩ := hobk k b hk h1
          rcases takenOf i s hs with c4 | ⟨k', g1, g2⟩
          · rw [c4] at hb; cases hb
          · have hok' : obk c k' = some b := by
              rcases g2 with ⟨t, e, v0, v, q1, q2, q3⟩ | ⟨t, e, v, l, q1, q2⟩ <;> (unfold obk; rw [q1]; exact (by rw [g1]; exact hb))
            by_cases hkk : k = k'
            · subst hkk
              rcases g2 with ⟨t, e, v0, v, q1, q2, q3⟩ | ⟨t, e, v, l, q1, q2⟩
              · have := o2 t e v0 v q1 q2
                omega
              · exact o3 q2
            · exact hI.sep k k' b hkk o1 hok'
        have hobn : ∀ i b, obk c' (m.h0 + i) = some b → ∃ s, V2[i]? = some s ∧ s.ownBlock = some b ∧ ∀ t e ko l, L2[i]? ≠ some (.frz t e ko l) := by
          intro i b hb
          unfold obk at hb
          rw [show c'.heap[m.h0 + i]? = _ from gnew i] at hb
          cases hl : L2[i]? with
          | none => simp [hl] at hb
          | some le =>
            have hil : i < V2.length := by rw [← c2.lv]; exact lt_of_get hl
            have hs : V2[i]? = some V2[i] := List.getElem?_eq_getElem hil
            obtain ⟨_, n2⟩ := fin.new i le V2[i] hl hs
            simp only [List.getElem?_map, hl, Option.map_some] at hb
            cases le with
            | own t e =>
              simp only [LE.ho] at hb
              rw [n2] at hb
              exact ⟨_, hs, hb, fun _ _ _ _ e => by cases e⟩
            | «mut» t e ko l =>
              simp only [LE.ho] at hb
              rw [n2] at hb
              exact ⟨_, hs, hb, fun _ _ _ _ e => by cases e⟩
            | frz t e ko l => simp [LE.ho] at hb
        have crossed : ∀ k i b, k < m.h0 → obk c' k = some b → obk c' (m.h0 + i) = some b → False := by
          intro k i b hk h1 h2
          obtain ⟨s, hs, hb, _⟩ := hobn i b h2
          exact apartOf k i s b hk h1 hs hb
        -- what became stable lies in no object's block
        have frzOld : ∀ k b o, k < m.h0 → obk c' k = some b → St' b o → c.St b o := by
          intro k b o hk hb x
          rcases x with x | ⟨i, t, e, ko, l, s, q1, q2, q3⟩
          · exact x
          · exact absurd q3 (apartOf k i s b hk hb q2)
        have frzNew : ∀ i b o, obk c' (m.h0 + i) = some b → St' b o → c.St b o := by
          intro i b o hb x
          obtain ⟨s, hs, hsb, hnf⟩ := hobn i b hb
          rcases x with x | ⟨j, t, e, ko, l, s', q1, q2, q3⟩
          · exact x
          · by_cases hij : i = j
            · subst hij
              exact absurd q1 (hnf t e ko l)
            · exact absurd q3 (c2.dist i j s s' b hij hs q2 hsb)
        have blkOf : ∀ s b, (∃ i : Nat, V2[i]? = some s) → s.ownBlock = some b → b < c.w.heap.size ∧ B ≤ b := by
          rintro s b ⟨i, hs⟩ hb
          rcases takenOf i s hs with c4 | ⟨k', g1, g2⟩
          · rw [c4] at hb; cases hb
          · refine obk_lt hI (k := k') ?_
            rcases g2 with ⟨t, e, v0, v, q1, q2, q3⟩ | ⟨t, e, v, l, q1, q2⟩ <;> (unfold obk; rw [q1]; exact (by rw [g1]; exact hb))
        have inv : Inv B w0 St0 c' := by
          refine ⟨hI.below, hI.size, fun b o x => ?_, fun b o x => .inl (hI.st0 b o x), fun b o x => ?_, fun k cells hk => ?_, fun k t e v hk => ?_, fun k k' b hne h1 h2 => ?_, fun k t e v l hk => ?_, hI.drawn⟩
          · rcases x with x | ⟨i, t, e, ko, l, s, q1, q2, q3⟩
            · exact hI.bnd b o x
            · exact (blkOf s b ⟨i, q2⟩ q3).1
          · rcases x with x | ⟨i, t, e, ko, l, s, q1, q2, q3⟩
            · exact hI.stN b o x
            · exact .inr (blkOf s b ⟨i, q2⟩ q3).2
          · have hk0 : k < m.h0 := by
              rcases Nat.lt_or_ge k m.h0 with x | x
              · exact x
              · exfalso
                have := gnew (k - m.h0)
                rw [show m.h0 + (k - m.h0) = k by omega] at this
                rw [show c'.heap[k]? = _ from this] at hk
                cases hl : L2[k - m.h0]? with
                | none => simp [hl] at hk
                | some p => cases p <;> simp [hl, LE.ho] at hk
            have hobk' : obk c' k = some (c.blk k) := by unfold obk; rw [hk]
            by_cases hm : k ∈ bs.map (·.1)
            · obtain ⟨p, hp, e⟩ := List.mem_map.1 hm
              have e : p.1 = k := e
              subst e
              have := gbox p hp
              rw [show c'.heap[p.1]? = _ from this] at hk
              injection hk with hk
              injection hk with hk
              subst hk
              obtain ⟨cells0, arr, t, g1, g2, g3⟩ := hbs p hp
              obtain ⟨arr', t', q1, q2, q3, _⟩ := hI.box p.1 cells0 g1
              rw [g2] at q1
              exact ⟨arr, t, g2, q2, fun o x => q3 o (frzOld p.1 _ o hk0 hobk' x), g3 c' L2 V2 fin pL pV⟩
            · have hH := (gkeep k hk0 hm).symm.trans hk
              have hck := (c2.box k cells).1 hH
              obtain ⟨arr, t, q1, q2, q3, q4⟩ := hI.box k cells hck
              have hu := othersOk_spec _ 0 k5 k (.box cells) (by rw [List.getElem?_take, if_pos hk0, ← hh]; exact hck) (by rw [Nat.zero_add, ← hnames]; exact hm)
              exact ⟨arr, t, q1, q2, fun o x => q3 o (frzOld k _ o hk0 hobk' x), fin.keeps hu q4⟩
          · rcases Nat.lt_or_ge k m.h0 with hk0 | hk0
            · have hm : k ∉ bs.map (·.1) := fun hm => by
                obtain ⟨p, hp, e'⟩ := List.mem_map.1 hm
                have e' : p.1 = k := e'
                have := gbox p hp
                rw [e'] at this
                rw [show c'.heap[k]? = _ from this] at hk
                cases hk
              have hH := (gkeep k hk0 hm).symm.trans hk
              obtain ⟨v0, hck, hle⟩ := c2.row k t e v hH
              have h4 := hrv k t e v0 v hk0 hck hH
              by_cases hv : v = v0
              · have hobk' : obk c' k = (rv' k).ownBlock := by unfold obk; rw [hk]
                rw [if_pos hv] at h4
                obtain ⟨n, xs, q1, q2⟩ := hI.row k t e v0 hck
                refine ⟨n, xs, by show c.w.ownsRow B e t.size (rv' k) n xs; rw [h4]; exact q1, fun b hb o hle x => ?_⟩
                have hb : (rv' k).ownBlock = some b := hb
                have hx := frzOld k b o hk0 (hobk'.trans hb) x
                rw [h4] at hb
                exact q2 b hb o hle hx
              · rw [if_neg hv] at h4
                exact ⟨0, [], by show c.w.ownsRow B e t.size (rv' k) 0 []; rw [h4]; exact World.ownsRow_nil _ _ _ _, by show ∀ b, (rv' k).ownBlock = some b → _; rw [h4]; intro b hb; simp [Value.ownBlock] at hb⟩
            · have hk' := hk
              have hg := gnew (k - m.h0)
              rw [show m.h0 + (k - m.h0) = k by omega] at hg
              rw [show c'.heap[k]? = _ from hg] at hk
              cases hl : L2[k - m.h0]? with
              | none => simp [hl] at hk
              | some le =>
                have hil : k - m.h0 < V2.length := by rw [← c2.lv]; exact lt_of_get hl
                have hs : V2[k - m.h0]? = some V2[k - m.h0] := List.getElem?_eq_getElem hil
                obtain ⟨_, n2⟩ := fin.new (k - m.h0) le _ hl hs
                rw [show m.h0 + (k - m.h0) = k by omega] at n2
                have hcl := c2.claim (k - m.h0) le _ hl hs
                cases le with
                | own t1 e1 =>
                  simp only [List.getElem?_map, hl, Option.map_some, LE.ho, Option.some.injEq, HO.row.injEq] at hk
                  obtain ⟨rfl, rfl, rfl⟩ := hk
                  obtain ⟨⟨n, xs, q1, q2⟩, _⟩ := hcl
                  refine ⟨n, xs, by rw [n2]; exact q1, fun b hb o hle x => ?_⟩
                  have hobk' : obk c' k = (c'.rv k).ownBlock := by unfold obk; rw [hk']
                  have hx := frzNew (k - m.h0) b o (by rw [show m.h0 + (k - m.h0) = k by omega]; exact hobk'.trans hb) x
                  rw [n2] at hb
                  exact q2 b hb o hle hx
                | «mut» t1 e1 ko l => simp [hl, LE.ho] at hk
                | frz t1 e1 ko l => simp [hl, LE.ho] at hk
          · rcases Nat.lt_or_ge k m.h0 with hk0 | hk0
            · rcases Nat.lt_or_ge k' m.h0 with hk1 | hk1
              · exact hI.sep k k' b hne (hobk k b hk0 h1).1 (hobk k' b hk1 h2).1
              · exact crossed k (k' - m.h0) b hk0 h1 (by rw [show m.h0 + (k' - m.h0) = k' by omega]; exact h2)
            · rcases Nat.lt_or_ge k' m.h0 with hk1 | hk1
              · exact crossed k' (k - m.h0) b hk1 h2 (by rw [show m.h0 + (k - m.h0) = k by omega]; exact h1)
              · obtain ⟨s, hs, hb, _⟩ := hobn (k - m.h0) b (by rw [show m.h0 + (k - m.h0) = k by omega]; exact h1)
                obtain ⟨s', hs', hb', _⟩ := hobn (k' - m.h0) b (by rw [show m.h0 + (k' - m.h0) = k' by omega]; exact h2)
                exact c2.dist (k - m.h0) (k' - m.h0) s s' b (by omega) hs hs' hb hb'
          · have hobk' : obk c' k = (c'.rv k).ownBlock := by unfold obk; rw [hk]
            rcases Nat.lt_or_ge k m.h0 with hk0 | hk0
            · have hm : k ∉ bs.map (·.1) := fun hm => by
                obtain ⟨p, hp, e'⟩ := List.mem_map.1 hm
                have e' : p.1 = k := e'
                have := gbox p hp
                rw [e'] at this
                rw [show c'.heap[k]? = _ from this] at hk
                cases hk
              have hH := (gkeep k hk0 hm).symm.trans hk
              have hck := c2.mrow k t e v l hH
              obtain ⟨xs, q1, q2, q3⟩ := hI.mrow k t e v l hck
              have h4 : c'.rv k = c.rv k := by
                show rv' k = _
                simp only [rv', if_pos hk0, hck]
              refine ⟨xs, by rw [h4]; exact q1, q2.mono fin.st fin.cell, fun b hb o x => ?_⟩
              have hx := frzOld k b o hk0 (hobk'.trans hb) x
              rw [h4] at hb
              exact q3 b hb o hx
            · have hg := gnew (k - m.h0)
              rw [show m.h0 + (k - m.h0) = k by omega] at hg
              rw [show c'.heap[k]? = _ from hg] at hk
              cases hl : L2[k - m.h0]? with
              | none => simp [hl] at hk
              | some le =>
                have hil : k - m.h0 < V2.length := by rw [← c2.lv]; exact lt_of_get hl
                have hs : V2[k - m.h0]? = some V2[k - m.h0] := List.getElem?_eq_getElem hil
                obtain ⟨_, n2⟩ := fin.new (k - m.h0) le _ hl hs
                rw [show m.h0 + (k - m.h0) = k by omega] at n2
                have hcl := c2.claim (k - m.h0) le _ hl hs
                cases le with
                | own t1 e1 => simp [hl, LE.ho] at hk
                | frz t1 e1 ko l1 => simp [hl, LE.ho] at hk
                | «mut» t1 e1 ko l1 =>
                  simp only [List.getElem?_map, hl, Option.map_some, LE.ho, Option.some.injEq] at hk
                  injection hk with z1 z2 z3 z4
                  subst z1; subst z2
                  have z4 := eq_of_heq z4
                  subst z4
                  obtain ⟨⟨xs, q1, q2, q3⟩, _⟩ := hcl
                  refine ⟨xs, by rw [n2]; exact q1, q2.mono fin.st fin.cell, fun b hb o x => ?_⟩
                  have hx := frzNew (k - m.h0) b o (by rw [show m.h0 + (k - m.h0) = k by omega]; exact hobk'.trans hb) x
                  rw [n2] at hb
                  exact q3 b hb o hx
        refine ⟨⟨c', hw, rfl, inv, hpend c' L2 V2 fin (List.prefix_refl _) (List.prefix_refl _), hdf, fun fr hfr => ⟨fin.keeps (under_all k1 (hfs fr hfr).2) (hfs fr hfr).1, (hfs fr hfr).2⟩⟩, ?_⟩
        show lo ≤ heap'.length
        simp only [heap', List.length_append, hlen0]
        omega
      · cases h
    · cases h
  · cases h

/-- Where the code leads: the rest gives r. -/
def XPost (fs : List (List AV × List Value)) (lo B : Nat) (w0 : World) (St0 : Nat → Nat → Prop) (k : KT) (r : AV) : Exit → Act → World → Prop
  | .normal, a, w => ∃ σ', k .normal σ' = some r ∧ Rel fs lo B w0 St0 σ' a w ∧ lo ≤ σ'.heap.length
  | .exit id, a, w => ∃ σ', k (.exit id) σ' = some r ∧ Rel fs lo B w0 St0 σ' a w ∧ lo ≤ σ'.heap.length
  | .ret, a, w => ∃ σ', k .ret σ' = some r ∧ Rel fs lo B w0 St0 σ' a w ∧ lo ≤ σ'.heap.length
  | _, _, _ => False

theorem masked_sound {m : Option MS} {k : Sg → Option AV} {r : AV} (h : masked lo m σ k = some r) (hr : Rel fs lo B w0 St0 σ a w) (hlo : lo ≤ σ.heap.length) : ∃ σ', k σ' = some r ∧ Rel fs lo B w0 St0 σ' a w ∧ lo ≤ σ'.heap.length := by
  unfold masked at h
  split at h
  · exact ⟨σ, h, hr, hlo⟩
  · split at h
    · rename_i σ' hm
      obtain ⟨h1, h2⟩ := mask_sound hm hr
      exact ⟨σ', h, h1, h2⟩
    · cases h

theorem exec_sound {ck : Callk} {S : Par} {fuel : Nat} (hm : P.follows .mixedOrders = true) (tk : TabOk P S.tab) (tsok : SpecsOk P S.T) (ckok : CkOk P ck) {r : AV} : ∀ (c : Code) (σ : Sg) (k : KT) (a : Act) (w : World), lo ≤ σ.heap.length →
    exec ck S lo fuel c σ k = some r → Rel fs lo B w0 St0 σ a w → c.wp P (XPost fs lo B w0 St0 k r) a w := by
  intro c
  induction c with
  | skip => intro σ k a w hlo h hr; exact wp_skip ⟨σ, h, hr, hlo⟩
  | label l => intro σ k a w hlo h hr; exact wp_label ⟨σ, h, hr, hlo⟩
  | region id ops draw =>
    intro σ k a w hlo h hr
    refine wp_mono (region_sound hm tk tsok ckok hlo (by simpa [exec] using h) hr) fun e a w hn => ?_
    cases e with
    | normal => exact hn
    | _ => exact hn.elim
  | seq x y ihx ihy =>
    intro σ k a w hlo h hr
    simp only [exec] at h
    refine wp_seq (wp_mono (ihx σ _ a w hlo h hr) fun e a w hn => ?_)
    cases e with
    | normal =>
      obtain ⟨σ', h1, h2, h3⟩ := hn
      simp only [kSeq] at h1
      obtain ⟨σ2, g1, g2, g3⟩ := masked_sound h1 h2 h3
      exact ihy σ2 k a w g3 g1 g2
    | exit id => exact hn
    | ret => exact hn
    | goto l => exact hn.elim
    | panic ch => exact hn.elim
    | outgrown => exact hn.elim
  | cond cnd x y ihx ihy =>
    intro σ k a w hlo h hr
    simp only [exec] at h
    split at h
    · rename_i b hb
      have hr' := hr
      obtain ⟨c, _, _, _, hE, _⟩ := hr'
      have hv := opnd_sound hE cnd
      rw [hb] at hv
      have hev := rep_bool hv.val_inv
      cases b with
      | true => exact wp_cond_true hev (ihx σ k a w hlo h hr)
      | false => exact wp_cond_false hev (ihy σ k a w hlo h hr)
    · cases h
  | block id x ih =>
    intro σ k a w hlo h hr
    simp only [exec] at h
    refine wp_block (wp_mono (ih σ _ a w hlo h hr) fun e a w hn => ?_)
    cases e with
    | normal => exact hn
    | exit id' =>
      obtain ⟨σ', h1, h2⟩ := hn
      simp only [kBlock] at h1
      show if id' = id then _ else _
      cases hb : Nat.beq id' id with
      | true =>
        rw [hb] at h1
        rw [if_pos (Nat.eq_of_beq_eq_true hb)]
        exact ⟨σ', h1, h2⟩
      | false =>
        rw [hb] at h1
        rw [if_neg (Nat.ne_of_beq_eq_false hb)]
        exact ⟨σ', h1, h2⟩
    | ret => exact hn
    | goto l => exact hn.elim
    | panic ch => exact hn.elim
    | outgrown => exact hn.elim
  | loop x ih =>
    intro σ k a w hlo h hr
    simp only [exec] at h
    split at h
    · rename_i m hmm
      obtain ⟨σ1, h1, h2, h3⟩ := masked_sound h hr hlo
      refine wp_loop_rounds fuel ?_
      have key : ∀ n σ a w, lo ≤ σ.heap.length → loopN lo m (fun σ k => exec ck S lo fuel x σ k) k n σ = some r → Rel fs lo B w0 St0 σ a w → Code.rounds P x (XPost fs lo B w0 St0 k r) n a w := by
        intro n
        induction n with
        | zero => intro σ a w _ h _; cases h
        | succ n ihn =>
          intro σ a w hlo h hr
          rw [rounds_succ]
          refine wp_mono (ih σ _ a w hlo h hr) fun e a w hn => ?_
          cases e with
          | normal =>
            obtain ⟨σ', q1, q2, q3⟩ := hn
            simp only [kLoop] at q1
            obtain ⟨σ2, g1, g2, g3⟩ := masked_sound q1 q2 q3
            exact ihn σ2 a w g3 g1 g2
          | exit id => exact hn
          | ret => exact hn
          | goto l => exact hn.elim
          | panic ch => exact hn.elim
          | outgrown => exact hn.elim
      exact key fuel σ1 a w h3 h1 h2
    · cases h
  | exit id => intro σ k a w hlo h hr; exact wp_exit ⟨σ, h, hr, hlo⟩
  | ret => intro σ k a w hlo h hr; exact wp_ret ⟨σ, h, hr, hlo⟩
  | rangeFunc f ps x y _ _ => intro σ k a w _ h _; cases h
  | scope x _ => intro σ k a w _ h _; cases h
  | goto l => intro σ k a w _ h _; cases h
  | refuse s => intro σ k a w _ h _; cases h

end
end Go.Proofs.Ytfeijnbommgigaa.Abs
