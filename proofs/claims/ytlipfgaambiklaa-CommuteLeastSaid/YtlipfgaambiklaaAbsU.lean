/- Masks are sound. -/
import Derived.Test.YtlipfgaambiklaaAbsR
namespace Go.Proofs.Ytlipfgaambiklaa.Abs
open Go Go.RowKit

section
variable {B : Nat} {w0 : World} {St0 : Nat → Nat → Prop} {c : Gh} {h0 : Nat}

/-- While a mask is taken: rows that were taken out, and the list of what they held. -/
structure CInv (B : Nat) (c : Gh) (H : List HO) (L : List (Ty × TypeId)) (V : List Value) : Prop where
  len : H.length = c.heap.length
  lv : L.length = V.length
  box : ∀ (k : Nat) (cells : List AV), H[k]? = some (.box cells) ↔ c.heap[k]? = some (.box cells)
  row : ∀ (k : Nat) t e v, H[k]? = some (.row t e v) → ∃ v0, c.heap[k]? = some (.row t e v0) ∧ v0 ≤ v
  back : ∀ (k : Nat) t e v0, c.heap[k]? = some (.row t e v0) → ∃ v, H[k]? = some (.row t e v) ∧ v0 ≤ v
  claim : ∀ (i : Nat) t e s, L[i]? = some (t, e) → V[i]? = some s → (∃ n xs, c.w.ownsRow B e t.size s n xs ∧ ∀ b, s.ownBlock = some b → ∀ o, n * t.size ≤ o → ¬ c.St b o) ∧
    (s.ownBlock = none ∨ ∃ (k : Nat) (t' : Ty) (e' : TypeId) (v0 v : Nat), c.heap[k]? = some (.row t' e' v0) ∧ c.rv k = s ∧ H[k]? = some (.row t' e' v) ∧ v0 < v)
  dist : ∀ (i j : Nat) s s' b, i ≠ j → V[i]? = some s → V[j]? = some s' → s.ownBlock = some b → s'.ownBlock ≠ some b

/-- What is asked of the state behind the mask. -/
structure Fin (c c' : Gh) (h0 : Nat) (L : List (Ty × TypeId)) (V : List Value) : Prop where
  w : c'.w = c.w
  St : c'.St = c.St
  blk : c'.blk = c.blk
  box : ∀ (k : Nat) (cells : List AV), k < h0 → c.heap[k]? = some (.box cells) → ∃ cells', c'.heap[k]? = some (.box cells')
  row : ∀ (k : Nat) t e v0, k < h0 → c.heap[k]? = some (.row t e v0) → ∃ v, c'.heap[k]? = some (.row t e v) ∧ v0 ≤ v ∧ (v = v0 → c'.rv k = c.rv k)
  new : ∀ (i : Nat) t e s, L[i]? = some (t, e) → V[i]? = some s → c'.heap[h0 + i]? = some (.row t e 0) ∧ c'.rv (h0 + i) = s

def Pend (c : Gh) (h0 : Nat) (L : List (Ty × TypeId)) (V : List Value) (a : AV) (v : Value) : Prop :=
  ∀ c' Lf Vf, Fin c c' h0 Lf Vf → L <+: Lf → V <+: Vf → RA c' a [v]

theorem get_prefix {α : Type} {l l' : List α} (h : l <+: l') {i : Nat} {x : α} (hx : l[i]? = some x) : l'[i]? = some x := by
  obtain ⟨r, rfl⟩ := h
  rw [List.getElem?_append_left (lt_of_get hx)]
  exact hx

theorem Fin.keep {c' : Gh} {L : List (Ty × TypeId)} {V : List Value} (h : Fin c c' h0 L V) : ∀ {a : AV} {vs : List Value}, a.under h0 = true → RA c a vs → RA c' a vs
  | .unk, _, _, r => r
  | .val t x, _, _, ⟨v, e, r⟩ => ⟨v, e, by rw [h.w, h.St]; exact r⟩
  | .nil, _, _, r => r
  | .own k v t l, _, hu, ⟨s, e, r, t', e', v', hr, hle, heq⟩ => by
    simp only [AV.under, decide_eq_true_eq] at hu
    obtain ⟨v2, h2, l2, q2⟩ := h.row k t' e' v' hu hr
    exact ⟨s, e, by rw [h.w, h.St]; exact r, t', e', v2, h2, Nat.le_trans hle l2, fun x => (heq (by omega)).trans (q2 (by omega)).symm⟩
  | .ref t x, _, _, ⟨ad, ds, e, hs, hd, hc⟩ => ⟨ad, ds, e, hs, by rw [h.w, h.St]; exact hd, by rw [h.w, h.St]; exact hc⟩
  | .box k off, _, hu, ⟨cells, hk, e⟩ => by
    simp only [AV.under, decide_eq_true_eq] at hu
    obtain ⟨c2, h2⟩ := h.box k cells hu hk
    exact ⟨c2, h2, by rw [h.blk]; exact e⟩
  | .fn f caps, _, hu, ⟨cs, e, r, o⟩ => ⟨cs, e, h.keep (a := caps) hu r, o⟩
  | .agg p, _, hu, ⟨cs, e, r, o⟩ => ⟨cs, e, h.keep (a := p) hu r, o⟩
  | .tup p, _, hu, ⟨cs, e, r, o⟩ => ⟨cs, e, h.keep (a := p) hu r, o⟩
  | .pnil, _, _, r => r
  | .pcons a b, _, hu, ⟨v, r, e, ha, hb⟩ => by
    simp only [AV.under, Bool.and_eq_true] at hu
    exact ⟨v, r, e, h.keep hu.1 ha, h.keep hu.2 hb⟩
  | .cond g a, vs, hu, r => by
    simp only [RA] at r ⊢
    split
    · rename_i hg; simp only [hg, if_true] at r; exact h.keep (a := a) hu r
    · rename_i hg; simp only [hg] at r; exact r

theorem Fin.keeps {c' : Gh} {L : List (Ty × TypeId)} {V : List Value} (h : Fin c c' h0 L V) : ∀ {l : List AV} {vs : List Value}, l.all (AV.under h0) = true → RAs c l vs → RAs c' l vs
  | [], [], _, _ => trivial
  | _ :: _, _ :: _, hu, ⟨a, b⟩ => by
    simp only [List.all_cons, Bool.and_eq_true] at hu
    exact ⟨h.keep hu.1 a, h.keeps hu.2 b⟩

theorem conv_sound (hI : Inv B w0 St0 c) {m : MK} {a a' : AV} {v : Value} {H H' : List HO} {L L' : List (Ty × TypeId)} {V : List Value} (hc : CInv B c H L V) (h : conv h0 m a H L = some (a', H', L')) (hr : RA c a [v]) :
    ∃ V', CInv B c H' L' V' ∧ L <+: L' ∧ V <+: V' ∧ Pend c h0 L' V' a' v := by
  cases m with
  | dat t =>
    simp only [conv] at h
    split at h
    · rename_i x hx
      simp only [Option.some.injEq, Prod.mk.injEq] at h
      obtain ⟨rfl, rfl, rfl⟩ := h
      exact ⟨V, hc, List.prefix_refl _, List.prefix_refl _, fun c' Lf Vf hf _ _ => ⟨v, rfl, by rw [hf.w, hf.St]; exact dat?_sound hx hr⟩⟩
    · cases h
  | keep =>
    simp only [conv] at h
    split at h
    · rename_i hu
      simp only [Option.some.injEq, Prod.mk.injEq] at h
      obtain ⟨rfl, rfl, rfl⟩ := h
      exact ⟨V, hc, List.prefix_refl _, List.prefix_refl _, fun c' Lf Vf hf _ _ => hf.keep hu hr⟩
    · cases h
  | drop =>
    simp only [conv, Option.some.injEq, Prod.mk.injEq] at h
    obtain ⟨rfl, rfl, rfl⟩ := h
    exact ⟨V, hc, List.prefix_refl _, List.prefix_refl _, fun c' Lf Vf hf _ _ => ⟨v, rfl⟩⟩
  | own t e =>
    cases a with
    | nil =>
      simp only [conv, Option.some.injEq, Prod.mk.injEq] at h
      obtain ⟨rfl, rfl, rfl⟩ := h
      have hv : [v] = [.slice none 0 0] := hr
      simp only [List.cons.injEq, and_true] at hv
      subst hv
      refine ⟨V ++ [.slice none 0 0], ⟨hc.len, by simp [hc.lv], hc.box, hc.row, hc.back, fun i t' e' s hl hs => ?_, fun i j s s' b hij hs hs' hb hb' => ?_⟩, List.prefix_append _ _, List.prefix_append _ _, fun c' Lf Vf hf hL hV => ?_⟩
      · rcases Nat.lt_or_ge i L.length with hlt | hge
        · rw [List.getElem?_append_left hlt] at hl
          rw [List.getElem?_append_left (by rw [← hc.lv]; exact hlt)] at hs
          exact hc.claim i t' e' s hl hs
        · rw [List.getElem?_append_right hge] at hl
          rw [List.getElem?_append_right (by rw [← hc.lv]; exact hge)] at hs
          have hi0 : i - L.length = 0 := by have := lt_of_get hl; simp at this; omega
          rw [hi0] at hl
          rw [← hc.lv, hi0] at hs
          simp only [List.getElem?_cons_zero, Option.some.injEq, Prod.mk.injEq] at hl hs
          obtain ⟨rfl, rfl⟩ := hl
          subst hs
          exact ⟨⟨0, [], World.ownsRow_nil _ _ _ _, fun b hb => by simp [Value.ownBlock] at hb⟩, .inl rfl⟩
      · rcases Nat.lt_or_ge i V.length with hi | hi
        · rcases Nat.lt_or_ge j V.length with hj | hj
          · rw [List.getElem?_append_left hi] at hs
            rw [List.getElem?_append_left hj] at hs'
            exact hc.dist i j s s' b hij hs hs' hb hb'
          · rw [List.getElem?_append_right hj] at hs'
            have : s' = .slice none 0 0 := by
              have hlt := lt_of_get hs'
              simp at hlt
              have h0 : j - V.length = 0 := by omega
              rw [h0] at hs'
              simpa using hs'.symm
            subst this
            simp [Value.ownBlock] at hb'
        · rw [List.getElem?_append_right hi] at hs
          have : s = .slice none 0 0 := by
            have hlt := lt_of_get hs
            simp at hlt
            have h0 : i - V.length = 0 := by omega
            rw [h0] at hs
            simpa using hs.symm
          subst this
          simp [Value.ownBlock] at hb
      · have hl := get_prefix hL (i := L.length) (x := (t, e)) (by simp)
        have hv := get_prefix hV (i := L.length) (x := .slice none 0 0) (by rw [hc.lv]; simp)
        obtain ⟨n1, n2⟩ := hf.new _ _ _ _ hl hv
        exact ⟨_, rfl, (repv_cell rfl).2 ⟨none, 0, 0, rfl, rfl, Nat.le_refl _, .inl rfl⟩, t, e, 0, n1, Nat.le_refl _, fun _ => n2.symm⟩
    | own k ver t1 l =>
      simp only [conv] at h
      split at h
      · rename_i t2 e2 v2 hH
        split at h
        · rename_i q1
          split at h
          · rename_i q2
            split at h
            · rename_i q3
              split at h
              · rename_i l2 hcast
                obtain ⟨et, hl2⟩ := cast?_some hcast
                injection et with et
                subst et
                have hl2 : l2 = l := hl2
                subst hl2
                subst q1; subst q2; subst q3
                simp only [Option.some.injEq, Prod.mk.injEq] at h
                obtain ⟨rfl, rfl, rfl⟩ := h
                obtain ⟨s, es, hrep, t', e', v', hrow, hle, hcur⟩ := hr
                simp only [List.cons.injEq, and_true] at es
                subst es
                obtain ⟨v0, hc0, hv0⟩ := hc.row k _ _ _ hH
                rw [hc0] at hrow
                injection hrow with hrow
                injection hrow with r1 r2 r3
                subst r1; subst r2; subst r3
                have hve : v0 = v2 := by omega
                subst hve
                have hs : v = c.rv k := hcur rfl
                obtain ⟨n, xs, hown, hsp⟩ := hI.row k _ _ _ hc0
                have hklt := lt_of_get hH
                have hob : obk c k = (c.rv k).ownBlock := by unfold obk; rw [hc0]
                have old : ∀ j, j ≠ k → (H.set k (.row t2 e2 (v0 + 1)))[j]? = H[j]? := fun j hj => by rw [get_set, if_neg (fun e => hj e.symm)]
                have new : (H.set k (.row t2 e2 (v0 + 1)))[k]? = some (.row t2 e2 (v0 + 1)) := by rw [get_set, if_pos rfl, if_pos hklt]
                refine ⟨V ++ [v], ⟨by simp [hc.len], by simp [hc.lv], fun j cells => ?_, fun j t' e' v' hj => ?_, fun j t' e' v' hj => ?_, fun i t' e' s hl hsv => ?_, fun i j s s' b hij hsv hs' hb hb' => ?_⟩, List.prefix_append _ _, List.prefix_append _ _, fun c' Lf Vf hf hL hV => ?_⟩
                · by_cases hj : j = k
                  · subst hj
                    rw [new, hc0]
                    simp
                  · rw [old j hj]; exact hc.box j cells
                · by_cases hjk : j = k
                  · subst hjk
                    rw [new] at hj
                    injection hj with hj
                    injection hj with j1 j2 j3
                    subst j1; subst j2; subst j3
                    exact ⟨v0, hc0, by omega⟩
                  · rw [old j hjk] at hj; exact hc.row j t' e' v' hj
                · by_cases hjk : j = k
                  · subst hjk
                    rw [hc0] at hj
                    injection hj with hj
                    injection hj with j1 j2 j3
                    subst j1; subst j2; subst j3
                    exact ⟨v0 + 1, new, by omega⟩
                  · obtain ⟨v1, h1, h2⟩ := hc.back j t' e' v' hj
                    exact ⟨v1, (old j hjk).trans h1, h2⟩
                · rcases Nat.lt_or_ge i L.length with hlt | hge
                  · rw [List.getElem?_append_left hlt] at hl
                    rw [List.getElem?_append_left (by rw [← hc.lv]; exact hlt)] at hsv
                    obtain ⟨c1, c2⟩ := hc.claim i t' e' s hl hsv
                    refine ⟨c1, c2.imp id ?_⟩
                    rintro ⟨k', tt, ee, va, vb, g1, g2, g3, g4⟩
                    have hne : k' ≠ k := fun e => by
                      subst e
                      rw [hH] at g3
                      rw [hc0] at g1
                      injection g3 with g3
                      injection g1 with g1
                      injection g3 with _ _ z1
                      injection g1 with _ _ z2
                      omega
                    exact ⟨k', tt, ee, va, vb, g1, g2, (old k' hne).trans g3, g4⟩
                  · rw [List.getElem?_append_right hge] at hl
                    rw [List.getElem?_append_right (by rw [← hc.lv]; exact hge)] at hsv
                    have hi0 : i - L.length = 0 := by have := lt_of_get hl; simp at this; omega
                    rw [hi0] at hl
                    rw [← hc.lv, hi0] at hsv
                    simp only [List.getElem?_cons_zero, Option.some.injEq, Prod.mk.injEq] at hl hsv
                    obtain ⟨rfl, rfl⟩ := hl
                    subst hsv
                    exact ⟨⟨n, xs, by rw [hs]; exact hown, by rw [hs]; exact hsp⟩, .inr ⟨k, t2, e2, v0, v0 + 1, hc0, hs.symm, new, by omega⟩⟩
                · -- the row that is taken out now was taken by none before
                  have fresh : ∀ (j : Nat) s', V[j]? = some s' → ∀ b, (c.rv k).ownBlock = some b → s'.ownBlock ≠ some b := by
                    intro j s' hj b hb hb'
                    have hjl : j < L.length := by rw [hc.lv]; exact lt_of_get hj
                    obtain ⟨_, c2⟩ := hc.claim j L[j].1 L[j].2 s' (by rw [List.getElem?_eq_getElem hjl]) hj
                    rcases c2 with c2 | ⟨k', tt, ee, va, vb, g1, g2, g3, g4⟩
                    · rw [c2] at hb'; cases hb'
                    · have hne : k' ≠ k := fun e => by
                        subst e
                        rw [hH] at g3
                        rw [hc0] at g1
                        injection g3 with g3
                        injection g1 with g1
                        injection g3 with _ _ z1
                        injection g1 with _ _ z2
                        omega
                      have : obk c k' = (c.rv k').ownBlock := by unfold obk; rw [g1]
                      exact hI.sep k' k b hne (by rw [this, g2]; exact hb') (by rw [hob]; exact hb)
                  rcases Nat.lt_or_ge i V.length with hi | hi
                  · rcases Nat.lt_or_ge j V.length with hj | hj
                    · rw [List.getElem?_append_left hi] at hsv
                      rw [List.getElem?_append_left hj] at hs'
                      exact hc.dist i j s s' b hij hsv hs' hb hb'
                    · rw [List.getElem?_append_left hi] at hsv
                      rw [List.getElem?_append_right hj] at hs'
                      have : s' = v := by
                        have hlt := lt_of_get hs'
                        simp at hlt
                        have h0 : j - V.length = 0 := by omega
                        rw [h0] at hs'
                        simpa using hs'.symm
                      subst this
                      rw [hs] at hb'
                      exact fresh i s hsv b hb' hb
                  · rw [List.getElem?_append_right hi] at hsv
                    have hsv2 : s = v := by
                      have hlt := lt_of_get hsv
                      simp at hlt
                      have h0 : i - V.length = 0 := by omega
                      rw [h0] at hsv
                      simpa using hsv.symm
                    have hil : i = V.length := by have hlt := lt_of_get hsv; simp at hlt; omega
                    subst hsv2
                    rcases Nat.lt_or_ge j V.length with hj | hj
                    · rw [List.getElem?_append_left hj] at hs'
                      rw [hs] at hb
                      exact fresh j s' hs' b hb hb'
                    · have hlt := lt_of_get hs'
                      simp at hlt
                      omega
                · have hl := get_prefix hL (i := L.length) (x := (t2, e2)) (by simp)
                  have hv := get_prefix hV (i := L.length) (x := v) (by rw [hc.lv]; simp)
                  obtain ⟨n1, n2⟩ := hf.new _ _ _ _ hl hv
                  exact ⟨v, rfl, by rw [hf.w, hf.St]; exact hrep, t2, e2, 0, n1, Nat.le_refl _, fun _ => n2.symm⟩
              · cases h
            · cases h
          · cases h
        · cases h
      · cases h
    | _ => simp [conv] at h

def Pends (c : Gh) (h0 : Nat) (L : List (Ty × TypeId)) (V : List Value) (as : List AV) (vs : List Value) : Prop :=
  ∀ c' Lf Vf, Fin c c' h0 Lf Vf → L <+: Lf → V <+: Vf → RAs c' as vs

theorem convs_sound (hI : Inv B w0 St0 c) : ∀ {ms : List MK} {as as' : List AV} {vs : List Value} {H H' : List HO} {L L' : List (Ty × TypeId)} {V : List Value}, CInv B c H L V → convs h0 ms as H L = some (as', H', L') → RAs c as vs →
    ∃ V', CInv B c H' L' V' ∧ L <+: L' ∧ V <+: V' ∧ Pends c h0 L' V' as' vs
  | [], [], as', [], H, H', L, L', V, hc, h, _ => by
    simp only [convs, Option.some.injEq, Prod.mk.injEq] at h
    obtain ⟨rfl, rfl, rfl⟩ := h
    exact ⟨V, hc, List.prefix_refl _, List.prefix_refl _, fun _ _ _ _ _ _ => trivial⟩
  | m :: ms, a :: as, as', v :: vs, H, H', L, L', V, hc, h, ⟨hr, hrs⟩ => by
    simp only [convs] at h
    split at h
    · rename_i a1 H1 L1 h1
      split at h
      · rename_i as1 H2 L2 h2
        simp only [Option.some.injEq, Prod.mk.injEq] at h
        obtain ⟨rfl, rfl, rfl⟩ := h
        obtain ⟨V1, c1, p1, q1, r1⟩ := conv_sound hI hc h1 hr
        obtain ⟨V2, c2, p2, q2, r2⟩ := convs_sound hI c1 h2 hrs
        exact ⟨V2, c2, p1.trans p2, q1.trans q2, fun c' Lf Vf hf hL hV => ⟨r1 c' Lf Vf hf (p2.trans hL) (q2.trans hV), r2 c' Lf Vf hf hL hV⟩⟩
      · cases h
    · cases h

theorem convEnv_sound (hI : Inv B w0 St0 c) {env : List AV} {vs : List Value} (hE : RAs c env vs) : ∀ {l : List (Nat × MK)} {acc acc' : List AV} {H H' : List HO} {L L' : List (Ty × TypeId)} {V : List Value}, CInv B c H L V → convEnv h0 env l acc H L = some (acc', H', L') → Pends c h0 L V acc vs →
    ∃ V', CInv B c H' L' V' ∧ L <+: L' ∧ V <+: V' ∧ Pends c h0 L' V' acc' vs
  | [], acc, acc', H, H', L, L', V, hc, h, hp => by
    simp only [convEnv, Option.some.injEq, Prod.mk.injEq] at h
    obtain ⟨rfl, rfl, rfl⟩ := h
    exact ⟨V, hc, List.prefix_refl _, List.prefix_refl _, hp⟩
  | (s, m) :: l, acc, acc', H, H', L, L', V, hc, h, hp => by
    simp only [convEnv] at h
    split at h
    · rename_i a1 H1 L1 h1
      rcases Nat.lt_or_ge s env.length with hlt | hge
      · obtain ⟨v, hv, hr⟩ := hE.get s env[s] (List.getElem?_eq_getElem hlt)
        have e1 : env.getD s .unk = env[s] := by simp [List.getD, List.getElem?_eq_getElem hlt]
        rw [e1] at h1
        obtain ⟨V1, c1, p1, q1, r1⟩ := conv_sound hI hc h1 hr
        refine (convEnv_sound hI hE c1 h ?_).imp fun V2 ⟨c2, p2, q2, r2⟩ => ⟨c2, p1.trans p2, q1.trans q2, r2⟩
        intro c' Lf Vf hf hL hV
        have hset := (hp c' Lf Vf hf (p1.trans hL) (q1.trans hV)).set s (r1 c' Lf Vf hf hL hV)
        have : vs.set s v = vs := set_same hv
        rw [this] at hset
        exact hset
      · have e1 : env.getD s .unk = .unk := by simp [List.getD, List.getElem?_eq_none hge]
        rw [e1] at h1
        obtain ⟨V1, c1, p1, q1, r1⟩ := conv_sound hI (v := undef) hc h1 ⟨_, rfl⟩
        refine (convEnv_sound hI hE c1 h ?_).imp fun V2 ⟨c2, p2, q2, r2⟩ => ⟨c2, p1.trans p2, q1.trans q2, r2⟩
        intro c' Lf Vf hf hL hV
        have hset := (hp c' Lf Vf hf (p1.trans hL) (q1.trans hV)).set s (r1 c' Lf Vf hf hL hV)
        have hvl := hE.length
        have : vs.set s undef = vs := List.set_eq_of_length_le (by omega)
        rw [this] at hset
        exact hset
    · cases h

/-- The boxes that are kept in place, with their contents cut down. -/
theorem convPre_sound (hI : Inv B w0 St0 c) : ∀ {l : List (Nat × List MK)} {bs : List (Nat × List AV)} {H H' : List HO} {L L' : List (Ty × TypeId)} {V : List Value}, CInv B c H L V → convPre h0 l H L = some (bs, H', L') →
    ∃ V', CInv B c H' L' V' ∧ L <+: L' ∧ V <+: V' ∧ bs.map (·.1) = l.map (·.1) ∧ ∀ p ∈ bs, ∃ cells arr t, c.heap[p.1]? = some (.box cells) ∧ c.w.heap[c.blk p.1]? = some (.cells arr t (0, 0)) ∧ Pends c h0 L' V' p.2 arr.toList
  | [], bs, H, H', L, L', V, hc, h => by
    simp only [convPre, Option.some.injEq, Prod.mk.injEq] at h
    obtain ⟨rfl, rfl, rfl⟩ := h
    exact ⟨V, hc, List.prefix_refl _, List.prefix_refl _, rfl, fun p hp => by cases hp⟩
  | (k, ms) :: l, bs, H, H', L, L', V, hc, h => by
    simp only [convPre] at h
    split at h
    · rename_i cells hk
      split at h
      · rename_i cells' H1 L1 h1
        split at h
        · rename_i bs' H2 L2 h2
          simp only [Option.some.injEq, Prod.mk.injEq] at h
          obtain ⟨rfl, rfl, rfl⟩ := h
          have hck := (hc.box k cells).1 hk
          obtain ⟨arr, t, g1, _, _, g4⟩ := hI.box k cells hck
          obtain ⟨V1, c1, p1, q1, r1⟩ := convs_sound hI hc h1 g4
          obtain ⟨V2, c2, p2, q2, e2, r2⟩ := convPre_sound hI c1 h2
          refine ⟨V2, c2, p1.trans p2, q1.trans q2, by simp [e2], fun p hp => ?_⟩
          rcases List.mem_cons.1 hp with rfl | hp
          · exact ⟨cells, arr, t, hck, g1, fun c' Lf Vf hf hL hV => r1 c' Lf Vf hf (p2.trans hL) (q2.trans hV)⟩
          · exact r2 p hp
        · cases h
      · cases h
    · cases h

end
end Go.Proofs.Ytlipfgaambiklaa.Abs
