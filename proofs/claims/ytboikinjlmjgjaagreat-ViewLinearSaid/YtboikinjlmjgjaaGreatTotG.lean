/- Evaluators that always answer: the state at heads; the parts of a deed. -/
import Derived.Test.YtboikinjlmjgjaaGreatTotE
namespace Go.Proofs.YtboikinjlmjgjaaGreat.Abs
open Go
theorem qi (s : Sta) (id f : Int) : el s id f = [] ∨ ∃ x ∈ s.1, x.1 = id ∧ x.2.1 = f ∧ x.2.2.1 = el s id f := by
 unfold el
 cases hq : iK s id f with
 | nil => exact .inl rfl
 | cons x r =>
  simp only
  split
  ·rename_i h
   refine .inr ⟨x, ?_, h.1, h.2, rfl⟩
   rw [tX s id f, hq]; simp
  ·exact .inl rfl
theorem Z2 {s : Sta} (hasc : s.1.Pairwise gf) (id f : Int) {l : List Alt} (hne : l ≠ []) : (lX s id f l).1.Pairwise gf ∧ (lX s id f l).1.length ≤ s.1.length + 1 ∧ ∀ x ∈ (lX s id f l).1, (x ∈ s.1 ∧ ¬ (x.1 = id ∧ x.2.1 = f)) ∨ x = (id, f, l, ()) := by
 have hs := tX s id f
 have hp : ∀ x ∈ bJ s id f, ahd x.1 x.2.1 id f = true := rQ _ _
 have hh : ∀ x r, iK s id f = x :: r → ahd x.1 x.2.1 id f = false := qa _ _
 have he : l.isEmpty = false := by cases l with | nil => exact absurd rfl hne | cons _ _ => rfl
 have hps := hasc
 rw [hs, List.pairwise_append] at hps
 have key : ∀ q', q'.Pairwise gf → (∀ y ∈ q', y ∈ s.1 ∧ ahd id f y.1 y.2.1 = true) → (bJ s id f).length + q'.length ≤ s.1.length → (bJ s id f ++ [(id, f, l, ())] ++ q').Pairwise gf ∧ (bJ s id f ++ [(id, f, l, ())] ++ q').length ≤ s.1.length + 1 ∧ ∀ x ∈ bJ s id f ++ [(id, f, l, ())] ++ q', (x ∈ s.1 ∧ ¬ (x.1 = id ∧ x.2.1 = f)) ∨ x = (id, f, l, ()) := by
  intro q' k2 k3 k5
  refine ⟨?_, by simp; omega, fun x hx => ?_⟩
  ·rw [List.append_assoc, List.pairwise_append]
   refine ⟨hps.1, ?_, fun x hx y hy => ?_⟩
   ·rw [List.singleton_append, List.pairwise_cons]
    exact ⟨fun y hy => (k3 y hy).2, k2⟩
   ·rcases List.mem_append.1 hy with hy | hy
    ·rw [List.mem_singleton.1 hy]; exact hp x hx
    ·exact rH (hp x hx) (k3 y hy).2
  ·simp only [List.mem_append, List.mem_singleton] at hx
   rcases hx with (hx | hx) | hx
   ·refine .inl ⟨by rw [hs]; exact List.mem_append_left _ hx, fun e => ?_⟩
    have := hp x hx
    rw [e.1, e.2, gL] at this; omega
   ·exact .inr hx
   ·refine .inl ⟨(k3 x hx).1, fun e => ?_⟩
    have := (k3 x hx).2
    rw [e.1, e.2, gL] at this; omega
 have hlen : (bJ s id f).length + (iK s id f).length = s.1.length := by rw [← List.length_append, ← hs]
 unfold lX
 simp only [he, Bool.false_eq_true, if_false]
 cases hq : iK s id f with
 | nil => exact key [] List.Pairwise.nil (fun y hy => by cases hy) (by rw [hq] at hlen; simpa using Nat.le_of_eq hlen)
 | cons x r =>
  rw [hq] at hps hlen
  have hx := hh x r hq
  have hmem : ∀ y ∈ x :: r, y ∈ s.1 := fun y hy => by rw [hs, hq]; exact List.mem_append_right _ hy
  have hr := List.pairwise_cons.1 hps.2.1
  by_cases e : x.1 = id ∧ x.2.1 = f
  ·simp only [Uj, if_pos e]
   refine key r hr.2 (fun y hy => ⟨hmem y (List.mem_cons_of_mem _ hy), ?_⟩) (by simp at hlen; omega)
   have := hr.1 y hy
   unfold gf at this
   rwa [e.1, e.2] at this
  ·simp only [Uj, if_neg e]
   have h1 : ahd id f x.1 x.2.1 = true := adm hx e
   refine key (x :: r) hps.2.1 (fun y hy => ⟨hmem y hy, ?_⟩) (by omega)
   rcases List.mem_cons.1 hy with rfl | hy
   ·exact h1
   ·exact rH h1 (hr.1 y hy)
def Alv (T : List Com) (AB : List (List Int)) (st : Int) (id f : Int) : Prop := ∀ j < T.length, ¬ (T.getD j (zero ae)).1 = st → Wr (ws (T.getD j (zero ae))) id f → ¬ st ∈ AB.getD j []
structure StI (T : List Com) (AB : List (List Int)) (N : Nat) (s : List Slt) : Prop where
 asc : s.Pairwise gf
 len : s.length ≤ N
 alts : ∀ x ∈ s, x.2.2.1 ≠ [] ∧ x.2.2.1.length ≤ N
 srt : ∀ x ∈ s, x.2.2.1.Pairwise fun a b => a.1 < b.1
 txt : ∀ x ∈ s, ∀ a ∈ x.2.2.1, TxV a.2.1
 src : ∀ x ∈ s, ∀ a ∈ x.2.2.1, ∃ c ∈ T, c.1 = a.1 ∧ Wr (ws c) x.1 x.2.1 ∧ Alv T AB c.1 x.1 x.2.1
theorem StI.mono {T : List Com} {AB : List (List Int)} {N N' : Nat} {s : List Slt} (h : StI T AB N s) (hn : N ≤ N') : StI T AB N' s :=
 ⟨h.asc, Nat.le_trans h.len hn, fun x hx => ⟨(h.alts x hx).1, Nat.le_trans (h.alts x hx).2 hn⟩, h.srt, h.txt, h.src⟩
theorem StI.place {T : List Com} {AB : List (List Int)} {N : Nat} {s : List Slt} (h : StI T AB N s) (hn : N ≤ 1000000) (id f : Int) : bX (s, ()) id f = true := by
 unfold bX adf
 rw [Bool.and_eq_true]
 have := h.len
 exact ⟨decide_eq_true (show s.length ≤ 1048576 by omega), decide_eq_true h.asc⟩
theorem StI.stg {T : List Com} {AB : List (List Int)} {N : Nat} {s : List Slt} (h : StI T AB N s) (hn : N ≤ 1000000) : stG (s, ()) = true := by
 unfold stG BP
 rw [Bool.and_eq_true]
 have := h.len
 refine ⟨decide_eq_true (show s.length ≤ 1048576 by omega), List.all_eq_true.2 fun x hx => ?_⟩
 have := h.alts x hx
 rw [Bool.and_eq_true]
 refine ⟨by cases hq : x.2.2.1 with | nil => exact absurd hq this.1 | cons _ _ => rfl, decide_eq_true (by omega)⟩
structure Rep0 (T : List Com) (AB : List (List Int)) : Prop where
 few : T.length ≤ 20
 asc : T.Pairwise fun a b => a.1 < b.1
 ord : ∀ c ∈ T, Dz (ws c)
 txt : ∀ c ∈ T, ∀ x ∈ ws c, TxC x
 wl : ∀ c ∈ T, (ws c).length < 1000000
 ab : AB.length = T.length
 al : ∀ r ∈ AB, r.length < 1000000
theorem aas {wp wr : List Cel} {w : Cel} (h : Dz (wp ++ w :: wr)) : ¬ Wr wp w.1 w.2.1 := by
 rintro ⟨c, hc, e1, e2⟩
 have := (List.pairwise_append.1 h).2.2 c hc w (List.mem_cons_self ..)
 rw [e1, e2, gL] at this; omega
theorem KL {T : List Com} {AB : List (List Int)} (h0 : Rep0 T AB) {P R : List Com} {c : Com} (hT : T = P ++ c :: R) {wp wr : List Cel} {w : Cel} (hw : ws c = wp ++ w :: wr) (k0 : bC Sta) (k : bZ Sta) (Q : Sta → Prop) (N : Nat) (hN : N ≤ 500000) (b : List Slt) (hb : StI T AB N b)
  (hst : ∀ x ∈ b, ∀ a ∈ x.2.2.1, a.1 ≤ c.1 ∧ (a.1 = c.1 → Wr wp x.1 x.2.1))
  (hk : ∀ b', StI T AB (N + 1) b' → (∀ x ∈ b', ∀ a ∈ x.2.2.1, a.1 ≤ c.1 ∧ (a.1 = c.1 → Wr (wp ++ [w]) x.1 x.2.1)) → Tot (k T AB P.length ((wp.length : Int) + 1) b') Q) :
  ∀ (n : Nat) (al : Bool) (j : Nat), j ≤ T.length → T.length - j < n → (al = true → ∀ j' < j, ¬ (T.getD j' (zero ae)).1 = c.1 → Wr (ws (T.getD j' (zero ae))) w.1 w.2.1 → ¬ c.1 ∈ AB.getD j' []) → Tot (fD k0 k n T AB P.length wp.length b al j) Q
 | 0, al, j, h1, h2, h3 => by omega
 | n + 1, al, j, h1, h2, h3 => by
  show Tot (g9 false some (fD k0 k n) k T AB P.length wp.length b al j) _
  have hPi : (P.length : Int) < T.length := by rw [hT]; simp; omega
  have ec : ix ae T (P.length : Int) = c := by rw [hT]; exact bU (t := ae) P c R
  have ew : ix ac c.2.2.2.2.1 (wp.length : Int) = w := by
   show ix ac (ws c) _ = w
   rw [hw]; exact bU (t := ac) wp w wr
  have hwl : (ws c).length < 1000000 := h0.wl c (by rw [hT]; simp)
  have hwp : wp.length < 1000000 := by rw [hw] at hwl; simp at hwl; omega
  have hfew := h0.few
  simp only [g9, cS, tt, il, List.nil_append]
  rw [ec, ew, aE (n := (wp.length : Int) + 1) (by omega) (by omega), aE (n := (j : Int) + 1) (by omega) (by omega)]
  refine ⟨fun hj => ?_, fun hj => ⟨fun ha => ?_, fun _ => ?_⟩⟩
  ·have hja : j < T.length ∧ al = true := by
    simp only [Bool.cond_false_right, Bool.and_eq_true, decide_eq_true_eq] at hj; exact ⟨by omega, hj.2⟩
   have hjt : (j : Int) < T.length := by omega
   have hjn := hja.1
   have etj : ix ae T (j : Int) = T.getD j (zero ae) := rfl
   have eaj : ix (.slice aa) AB (j : Int) = AB.getD j [] := rfl
   have hmem : T.getD j (zero ae) ∈ T := eT (t := ae) (by omega) hjt
   have hwr := DB (T.getD j (zero ae)) w.1 w.2.1 (h0.wl _ hmem)
   have hal : (AB.getD j []).length < 1000000 := h0.al _ (by rw [List.getD_eq_getElem?_getD, List.getElem?_eq_getElem (by rw [h0.ab]; exact hjn)]; exact List.getElem_mem _)
   rw [etj, eaj, LP _ _ hal]
   have hG : zT (T.getD j (zero ae)) w.1 w.2.1 = true := hwr.some
   have hF : dq (T.getD j (zero ae)) w.1 w.2.1 = true ↔ Wr (ws (T.getD j (zero ae))) w.1 w.2.1 := hwr.getD (zero .bool)
   refine ⟨aA fun _ => aL (by omega) hjt, aA fun _ => hG, aA fun _ => aL (by omega) (by rw [h0.ab]; omega), aA fun _ => aL (by omega) hPi, aA fun _ => rl _ _ hal, ?_⟩
   refine KL h0 hT hw k0 k Q N hN b hb hst hk n _ (j + 1) (by omega) (by omega) fun ha j' hj' hne hW => ?_
   by_cases e : j' = j
   ·subst e
    have hji : ¬ (j' : Int) = P.length := fun e => hne (by rw [← etj, e, ec])
    rw [hF.2 hW] at ha
    simpa [hji] using ha
   ·exact h3 hja.2 j' (by omega) hne hW
  ·subst ha
   have hjl : T.length ≤ j := by
    by_cases e : j < T.length
    ·simp [show (j : Int) < T.length by omega] at hj
    ·omega
   have halv : Alv T AB c.1 w.1 w.2.1 := fun j' hj' => h3 rfl j' (by omega)
   have hpl := hb.place (by omega) w.1 w.2.1
   have hlenA : (el (b, ()) w.1 w.2.1).length ≤ N := by
    rcases qi (b, ()) w.1 w.2.1 with e | ⟨x, hx, _, _, e⟩
    ·rw [e]; simp
    ·rw [← e]; exact (hb.alts x hx).2
   have hlt : ∀ a ∈ el (b, ()) w.1 w.2.1, a.1 < c.1 := fun a ha => by
    rcases qi (b, ()) w.1 w.2.1 with e | ⟨x, hx, e1, e2, e⟩
    ·rw [e] at ha; cases ha
    ·rw [← e] at ha
     have h1 := hst x hx a ha
     by_cases h2 : a.1 = c.1
     ·have := h1.2 h2
      rw [e1, e2] at this
      exact absurd this (aas (hw ▸ h0.ord c (by rw [hT]; simp)))
     ·exact Int.lt_iff_le_and_ne.2 ⟨h1.1, h2⟩
   have hset := Z2 hb.asc w.1 w.2.1 (s := (b, ())) (l := el (b, ()) w.1 w.2.1 ++ [(c.1, w.2.2.1, ())]) (by simp)
   have hin : ∀ x ∈ (lX (b, ()) w.1 w.2.1 (el (b, ()) w.1 w.2.1 ++ [(c.1, w.2.2.1, ())])).1, x ∈ b ∨ x = (w.1, w.2.1, el (b, ()) w.1 w.2.1 ++ [(c.1, w.2.2.1, ())], ()) := fun x hx => (hset.2.2 x hx).imp (·.1) id
   have hold : ∀ a ∈ el (b, ()) w.1 w.2.1, ∃ x ∈ b, x.1 = w.1 ∧ x.2.1 = w.2.1 ∧ a ∈ x.2.2.1 := fun a ha => by
    rcases qi (b, ()) w.1 w.2.1 with e | ⟨x, hx, e1, e2, e⟩
    ·rw [e] at ha; cases ha
    ·exact ⟨x, hx, e1, e2, e ▸ ha⟩
   refine ⟨hpl, eS (by simp; omega), aL (by omega) hPi, eS (by simp; omega), hpl, hk _ ⟨hset.1, Nat.le_trans hset.2.1 (by have := hb.len; simp; omega), fun x hx => ?_, fun x hx => ?_, fun x hx a ha => ?_, fun x hx a ha => ?_⟩ fun x hx a ha => ?_⟩
   ·rcases hin x hx with hx | rfl
    ·exact ⟨(hb.alts x hx).1, Nat.le_succ_of_le (hb.alts x hx).2⟩
    ·exact ⟨by simp, by simp; omega⟩
   ·rcases hin x hx with hx | rfl
    ·exact hb.srt x hx
    ·show (el (b, ()) w.1 w.2.1 ++ [(c.1, w.2.2.1, ())]).Pairwise _
     rw [List.pairwise_append]
     refine ⟨?_, by simp, fun a ha d hd => ?_⟩
     ·rcases qi (b, ()) w.1 w.2.1 with e | ⟨x, hx, e1, e2, e⟩
      ·rw [e]; exact List.Pairwise.nil
      ·rw [← e]; exact hb.srt x hx
     ·rw [List.mem_singleton.1 hd]; exact hlt a ha
   ·rcases hin x hx with hx | rfl
    ·exact hb.txt x hx a ha
    ·rcases List.mem_append.1 ha with ha | ha
     ·obtain ⟨y, hy, _, _, h⟩ := hold a ha
      exact hb.txt y hy a h
     ·rw [List.mem_singleton.1 ha]
      exact h0.txt c (by rw [hT]; simp) w (by rw [hw]; simp)
   ·rcases hin x hx with hx | rfl
    ·exact hb.src x hx a ha
    ·rcases List.mem_append.1 ha with ha | ha
     ·obtain ⟨y, hy, e1, e2, h⟩ := hold a ha
      have := hb.src y hy a h
      rwa [e1, e2] at this
     ·rw [List.mem_singleton.1 ha]
      exact ⟨c, by rw [hT]; simp, rfl, ⟨w, by rw [hw]; simp, rfl, rfl⟩, halv⟩
   ·rcases hin x hx with hx | rfl
    ·have := hst x hx a ha
     refine ⟨this.1, fun e => ?_⟩
     obtain ⟨d, hd, h⟩ := this.2 e
     exact ⟨d, List.mem_append_left _ hd, h⟩
    ·rcases List.mem_append.1 ha with ha | ha
     ·have := hlt a ha
      exact ⟨Int.le_of_lt this, fun e => absurd e (Int.ne_of_lt this)⟩
     ·rw [List.mem_singleton.1 ha]
      exact ⟨Int.le_refl _, fun _ => ⟨w, by simp, rfl, rfl⟩⟩
  ·exact hk b (hb.mono (by omega)) fun x hx a ha => ⟨(hst x hx a ha).1, fun e => by
    obtain ⟨d, hd, h⟩ := (hst x hx a ha).2 e
    exact ⟨d, List.mem_append_left _ hd, h⟩⟩
def cE : List Com → Nat
 | [] => 0
 | c :: l => (ws c).length + cE l
theorem cR (a b : List Com) : cE (a ++ b) = cE a + cE b := by
 induction a with
 | nil => simp [cE]
 | cons c a ih => simp [cE, ih]; omega
theorem KM {T : List Com} {AB : List (List Int)} (h0 : Rep0 T AB) {P R : List Com} {c : Com} (hT : T = P ++ c :: R) (k0 : bC Sta) (Q : Sta → Prop) (M : Nat) (hM : M ≤ 500000) (hk : ∀ b', StI T AB M b' → (∀ x ∈ b', ∀ a ∈ x.2.2.1, a.1 ≤ c.1) → Tot (k0 T AB ((P.length : Int) + 1) b') Q) :
  ∀ (n : Nat) (wr wp : List Cel) (N : Nat) (b : List Slt), ws c = wp ++ wr → wr.length < n → N + wr.length ≤ M → StI T AB N b → (∀ x ∈ b, ∀ a ∈ x.2.2.1, a.1 ≤ c.1 ∧ (a.1 = c.1 → Wr wp x.1 x.2.1)) → Tot (fF k0 n T AB P.length wp.length b) Q
 | 0, wr, wp, N, b, h1, h2, h3, h4, h5 => by omega
 | n + 1, wr, wp, N, b, h1, h2, h3, h4, h5 => by
  show Tot (hC false some (fD k0 (fF k0 n) FU) k0 T AB P.length wp.length b) _
  have hfew := h0.few
  have hPi : (P.length : Int) < T.length := by rw [hT]; simp; omega
  have ec : ix ae T (P.length : Int) = c := by rw [hT]; exact bU (t := ae) P c R
  have hwl : (ws c).length < 1000000 := h0.wl c (by rw [hT]; simp)
  simp only [hC, tt, il]
  rw [ec, aE (n := (P.length : Int) + 1) (by omega) (by omega)]
  show bd _ _ = true ∧ (decide ((wp.length : Int) < ((ws c).length : Int)) = true → bd _ _ = true ∧ bd (wp.length : Int) (ws c).length = true ∧ _) ∧ (decide ((wp.length : Int) < ((ws c).length : Int)) = false → _)
  refine ⟨aL (by omega) hPi, fun h => ⟨aL (by omega) hPi, aL (by omega) (by simpa using h), ?_⟩, fun _ => hk b (h4.mono (by omega)) fun x hx a ha => (h5 x hx a ha).1⟩
  cases wr with
  | nil => rw [h1] at h; simp at h
  | cons w wr =>
   refine KL h0 hT h1 k0 _ Q N (by omega) b h4 h5 (fun b' hb' hst => ?_) FU true 0 (by omega) (by rw [bn]; omega) (fun _ j' hj' => by omega)
   have := KM h0 hT k0 Q M hM hk n wr (wp ++ [w]) (N + 1) b' (by rw [h1]; simp) (by simp at h2; omega) (by simp at h3; omega) hb' hst
   simpa using this
theorem KN {T : List Com} {AB : List (List Int)} (h0 : Rep0 T AB) (hM : cE T ≤ 500000) : ∀ (n : Nat) (R P : List Com) (b : List Slt), T = P ++ R → R.length < n → StI T AB (cE P) b → (∀ x ∈ b, ∀ a ∈ x.2.2.1, ∀ d ∈ R, a.1 < d.1) → Tot (fG n T AB P.length b) fun s => StI T AB (cE T) s.1
 | 0, R, P, b, h1, h2, h3, h4 => by omega
 | n + 1, R, P, b, h1, h2, h3, h4 => by
  show Tot (hU false some (fF (fG n) FU) T AB P.length b) _
  have hws : cE P + cE R = cE T := by rw [h1, cR]
  simp only [hU, tt, il]
  refine ⟨fun h => ?_, fun _ => h3.mono (by omega)⟩
  cases R with
  | nil => rw [h1] at h; simp at h
  | cons c R =>
   simp only [cE] at hws
   have hwl : (ws c).length < 1000000 := h0.wl c (by rw [h1]; simp)
   have hasc := h0.asc
   rw [h1, List.pairwise_append] at hasc
   have hcR := (List.pairwise_cons.1 hasc.2.1).1
   refine KM h0 h1 _ _ (cE P + (ws c).length) (by omega) (fun b' hb' hst => ?_) FU (ws c) [] (cE P) b rfl (by rw [bn]; omega) (by omega) h3 fun x hx a ha => ?_
   ·have := KN h0 hM n R (P ++ [c]) b' (by rw [h1]; simp) (by simp at h2; omega) (by rw [cR]; simpa [cE] using hb') fun x hx a ha d hd => Int.lt_of_le_of_lt (hst x hx a ha) (hcR d hd)
    simpa using this
   ·have := h4 x hx a ha c (List.mem_cons_self ..)
    exact ⟨Int.le_of_lt this, fun e => absurd e (Int.ne_of_lt this)⟩
end Go.Proofs.YtboikinjlmjgjaaGreat.Abs
namespace Go.Proofs.YtboikinjlmjgjaaGreat.Abs
open Go
theorem fb {α : Type} (a b : List α) (d : α) {j : Nat} (h : j < a.length) : (a ++ b).getD j d = a.getD j d := by simp [List.getD_eq_getElem?_getD, List.getElem?_append_left h]
theorem nd {α : Type} (a : List α) (x d : α) : (a ++ [x]).getD a.length d = x := by simp [List.getD_eq_getElem?_getD]
structure H0 (l : List Com) : Prop where
 few : l.length ≤ 20
 asc : l.Pairwise fun a b => a.1 < b.1
 par : ∀ c ∈ l, c.2.1.length ≤ 4
 ord : ∀ c ∈ l, Dz (ws c)
 txt : ∀ c ∈ l, ∀ x ∈ ws c, TxC x
 sum : cE l ≤ 500000
theorem H0.isFew {l : List Com} (h : H0 l) : Few l := ⟨h.few, h.par⟩
theorem zQ {l : List Com} {c : Com} (h : c ∈ l) : (ws c).length ≤ cE l := by
 induction l with
 | nil => cases h
 | cons d l ih =>
  simp only [cE]
  rcases List.mem_cons.1 h with rfl | h
  ·omega
  ·have := ih h; omega
def AtP (l : List Com) (s : Sta) : Prop := ∃ T AB, (∀ c ∈ T, c ∈ l) ∧ (∀ j < T.length, UE l [(T.getD j (zero ae)).1] (AB.getD j [])) ∧ StI T AB (cE l) s.1
theorem QD (l : List Com) (hl : H0 l) (only : List Int) (ho : only.length < 1000000) : ∀ (n : Nat) (R P T : List Com) (AB : List (List Int)), l = P ++ R → R.length < n → (∀ c ∈ T, c ∈ P) → (T.Pairwise fun a b => a.1 < b.1) → T.length ≤ P.length → cE T ≤ cE P → AB.length = T.length → (∀ j < T.length, UE l [(T.getD j (zero ae)).1] (AB.getD j [])) → (∀ r ∈ AB, r.length < 1000000) → Tot (g8 n l only T AB P.length) (AtP l)
 | 0, R, P, T, AB, h1, h2, _, _, _, _, _, _, _ => by omega
 | n + 1, R, P, T, AB, h1, h2, h3, h4, h5, h6, h7, h8, h9 => by
  show Tot (jQ false some (g8 n) (fG FU) l only T AB P.length) _
  have hfew := hl.few
  have hws : cE P + cE R = cE l := by rw [h1, cR]
  have hsum := hl.sum
  have hP : P.length ≤ 20 := by rw [h1] at hfew; simp at hfew; omega
  simp only [jQ, dE, tt, il]
  rw [aE (n := (P.length : Int) + 1) (by omega) (by omega)]
  refine ⟨fun h => ?_, fun _ => ?_⟩
  ·cases R with
   | nil => rw [h1] at h; simp at h
   | cons c R =>
    have hPl : (P.length : Int) < l.length := by simpa using h
    have ec : ix ae l (P.length : Int) = c := by rw [h1]; exact bU (t := ae) P c R
    have hcl : c ∈ l := by rw [h1]; simp
    have hasc := hl.asc
    rw [h1, List.pairwise_append] at hasc
    have next : ∀ (T : List Com) (AB : List (List Int)), (∀ c' ∈ T, c' ∈ P ++ [c]) → (T.Pairwise fun a b => a.1 < b.1) → T.length ≤ P.length + 1 → cE T ≤ cE (P ++ [c]) → AB.length = T.length → (∀ j < T.length, UE l [(T.getD j (zero ae)).1] (AB.getD j [])) → (∀ r ∈ AB, r.length < 1000000) → Tot (g8 n l only T AB ((P.length : Int) + 1)) (AtP l) := fun T AB a1 a2 a3 a4 a5 a6 a7 => by
     have := QD l hl only ho n R (P ++ [c]) T AB (by rw [h1]; simp) (by simp at h2; omega) a1 a2 (by simpa using a3) a4 a5 a6 a7
     simpa using this
    rw [ec]
    refine ⟨aL (by omega) hPl, _, HC only _ ho, fun _ => ⟨aL (by omega) hPl, eS (by simp; omega), aL (by omega) hPl, (Dr l [c.1] hl.isFew (by simp)).mono fun r hr => ⟨eS (by simp; omega), next _ _ (fun d hd => ?_) ?_ (by simp; omega) (by rw [cR, cR]; simp [cE]; omega) (by simp; omega) (fun j hj => ?_) (fun r' hr' => ?_)⟩⟩, fun _ => next T AB (fun d hd => List.mem_append_left _ (h3 d hd)) h4 (by omega) (by rw [cR]; omega) h7 h8 h9⟩
    ·rcases List.mem_append.1 hd with hd | hd
     ·exact List.mem_append_left _ (h3 d hd)
     ·exact List.mem_append_right _ hd
    ·rw [List.pairwise_append]
     exact ⟨h4, by simp, fun a ha b hb => hasc.2.2 a (h3 a ha) b (by rw [List.mem_singleton.1 hb]; simp)⟩
    ·by_cases e : j < T.length
     ·rw [fb _ _ _ e, fb _ _ _ (by omega)]; exact h8 j e
     ·have e : j = T.length := by simp at hj; omega
      subst e
      rw [nd, ← h7, nd]
      exact hr.2
    ·rcases List.mem_append.1 hr' with h | h
     ·exact h9 r' h
     ·rw [List.mem_singleton.1 h]; have := hr.1; omega
  ·have hTl : ∀ c ∈ T, c ∈ l := fun c hc => by rw [h1]; exact List.mem_append_left _ (h3 c hc)
   have h0 : Rep0 T AB := ⟨by omega, h4, fun c hc => hl.ord c (hTl c hc), fun c hc => hl.txt c (hTl c hc), fun c hc => by have := zQ (hTl c hc); omega, h7, h9⟩
   exact (KN h0 (by omega) FU T [] [] rfl (by rw [bn]; omega) ⟨List.Pairwise.nil, by simp, fun x hx => (by cases hx), fun x hx => (by cases hx), fun x hx => (by cases hx), fun x hx => (by cases hx)⟩ fun x hx => by cases hx).mono fun s hs => ⟨T, AB, hTl, h8, hs.mono (by omega)⟩
theorem KG (l : List Com) (hl : H0 l) (only : List Int) (ho : only.length < 1000000) : Tot (jR l only) (AtP l) := by
 have := hl.few
 simp only [jR, qO]
 exact QD l hl only ho FU l [] [] [] rfl (by rw [bn]; omega) (fun c hc => by cases hc) List.Pairwise.nil (by simp) (by simp [cE]) rfl (fun j hj => by simp at hj) fun r hr => by cases hr
theorem FZ (l : List Com) (hl : H0 l) (heads : List Int) (hh : heads.length ≤ 1000) : Tot (nt l heads) (AtP l) := by
 simp only [nt, zM, tt]
 exact (Dr l heads hl.isFew hh).mono fun r hr => (KG l hl r (by have := hr.1; omega)).mono fun _ h => h
theorem RN (l : List Com) (hl : H0 l) : Tot (xo l) (AtP l) := by
 have := hl.few
 simp only [xo, RO, rk, u7, tt]
 exact (OJ l hl.isFew).mono fun r hr => (FZ l hl r (by omega)).mono fun _ h => h
theorem bD (x n : Int) (h1 : 1 ≤ n) (h2 : n ≤ 4000000000) : Tot (aZ x n) fun r => 0 ≤ r ∧ r < n := by
 simp only [aZ, Hn, tt]
 have a1 := Int.tmod_lt_of_pos x (show 0 < n by omega)
 have a2 : -n < x.tmod n := by
  have := Int.tmod_lt_of_pos (-x) (show 0 < n by omega)
  rw [Int.neg_tmod] at this
  omega
 refine ⟨fun h => by simp at h; omega, fun _ => ⟨by simp; omega, by simp; omega, ?_⟩⟩
 rw [aE (by omega) (by omega)]
 exact ⟨Int.tmod_nonneg _ (by omega), Int.tmod_lt_of_pos _ (by omega)⟩
theorem ji (l : List Int) (x : Int) (hs : l.length < 1000000) : Tot (bj l x) fun r => r = 0 ∨ r ∈ l := by
 simp only [bj, yW, tt, il]
 refine ⟨fun _ => .inl trivial, fun h => ?_⟩
 have h : ¬ (l.length : Int) = 0 := by simpa using h
 exact (bD x l.length (by omega) (by omega)).mono fun r hr => ⟨aL hr.1 hr.2, .inr (eT (t := aa) hr.1 hr.2)⟩
def Sh (s : Str) : Prop := s.length < 1000
theorem qv (k x : Int) : Tot (gP k x) Sh := by
 simp only [gP, yQ, tt]
 refine (bD x 5 (by omega) (by omega)).mono fun r _ => ?_
 simp [Sh]
theorem Kb (x : Int) : Tot (jE x) Sh := by
 simp only [jE, qD, tt]
 refine (bD x 5 (by omega) (by omega)).mono fun r _ => ?_
 simp [Sh]
theorem BU (x : Int) : Tot (ou x) Sh := by
 simp only [ou, Hr, tt]
 exact (bD x 26 (by omega) (by omega)).mono fun r _ => ⟨by decide, (bD _ 25 (by omega) (by omega)).mono fun r _ => by simp [Sh]⟩
structure St1 (s : Sta) : Prop where
 asc : s.1.Pairwise gf
 len : s.1.length < 1000000
 alts : ∀ x ∈ s.1, x.2.2.1 ≠ [] ∧ x.2.2.1.length < 1000000
 txt : ∀ x ∈ s.1, ∀ a ∈ x.2.2.1, TxV a.2.1
theorem AtP.st1 {l : List Com} {s : Sta} (h : AtP l s) (hl : H0 l) : St1 s := by
 obtain ⟨T, AB, _, _, h⟩ := h
 have := hl.sum
 exact ⟨h.asc, by have := h.len; omega, fun x hx => ⟨(h.alts x hx).1, by have := (h.alts x hx).2; omega⟩, h.txt⟩
theorem St1.place {s : Sta} (h : St1 s) (id f : Int) : bX s id f = true := by
 unfold bX adf
 rw [Bool.and_eq_true]
 have := h.len
 exact ⟨decide_eq_true (by omega), decide_eq_true h.asc⟩
theorem St1.stg {s : Sta} (h : St1 s) : stG s = true := by
 unfold stG BP
 rw [Bool.and_eq_true]
 have := h.len
 refine ⟨decide_eq_true (by omega), List.all_eq_true.2 fun x hx => ?_⟩
 have := h.alts x hx
 rw [Bool.and_eq_true]
 refine ⟨by cases hq : x.2.2.1 with | nil => exact absurd hq this.1 | cons _ _ => rfl, decide_eq_true (by omega)⟩
theorem UG : TxV (0, false, [], 0, ()) := by simp [TxV]
theorem SD {s : Sta} (h : St1 s) (id f : Int) : Tot (ez s id f) TxV := by
 simp only [ez, yV, tt, il]
 refine ⟨h.place id f, fun _ => UG, fun hn => ?_⟩
 have hn : ¬ ((el s id f).length : Int) = 0 := by simpa using hn
 refine ⟨aL (by omega) (by omega), ?_⟩
 rcases qi s id f with e | ⟨x, hx, _, _, e⟩
 ·rw [e] at hn; simp at hn
 ·exact h.txt x hx _ (by rw [e]; exact eT (t := aR) (by omega) (by omega))
theorem VS {s : Sta} (h : St1 s) : (∀ c ∈ (aI s).1, TxC c ∧ ∃ x ∈ s.1, x.1 = c.1 ∧ x.2.1 = c.2.1) ∧ (aI s).1.length ≤ s.1.length := by
 refine ⟨fun c hc => ?_, mT s⟩
 simp only [aI, List.mem_map, List.mem_filter] at hc
 obtain ⟨x, ⟨hx, _⟩, rfl⟩ := hc
 refine ⟨?_, x, hx, rfl, rfl⟩
 show TxV (cM x)
 unfold cM
 cases hq : x.2.2.1 with
 | nil => exact UG
 | cons a r => exact h.txt x hx a (by rw [hq]; simp)
theorem kC {s : Sta} (h : St1 s) (kind : Int) : ∀ (n : Nat) (out : List Int) (i : Int), 0 ≤ i → i ≤ s.1.length → out.length ≤ i → s.1.length - i < n → Tot (gJ n kind s out i) fun r => r.length ≤ s.1.length
 | 0, out, i, h0, h1, h2, h3 => by omega
 | n + 1, out, i, h0, h1, h2, h3 => by
  show Tot (fY false some (gJ n) kind s out i) _
  have hl := h.len
  simp only [fY, fZ, tt, il]
  refine ⟨fun hi => ?_, fun _ => by omega⟩
  have hi : i < s.1.length := by simpa using hi
  rw [aE (n := i + 1) (by omega) (by omega)]
  exact ⟨aL h0 hi, aA fun _ => aL h0 hi, aA fun _ => (q8 s _ (h.place _ 1)).some, aA fun _ => by simp [aP], fun _ => ⟨aL h0 hi, eS (by simp; omega), kC h kind n _ _ (by omega) (by omega) (by simp; omega) (by omega)⟩, fun _ => kC h kind n _ _ (by omega) (by omega) (by omega) (by omega)⟩
theorem dj {s : Sta} (h : St1 s) (kind : Int) : Tot (bc s kind) fun r => r.length ≤ s.1.length := by
 have hl := h.len
 simp only [bc, lM]
 exact kC h kind FU [] 0 (by omega) (by omega) (by simp) (by rw [bn]; omega)
theorem Kw (v : Val) {s : Sta} (h : St1 s) (x : Int) : Tot (dz v s x) TxV := by
 have hl := h.len
 have ent := fun k (Q : Int → Prop) (y : Int) (hQ : ∀ r, Q r) => (dj h k).mono fun r hr => (ji r y (by omega)).mono fun r _ => hQ r
 simp only [dz, qJ, tt]
 refine ⟨fun _ => (bD x 4 (by omega) (by omega)).mono fun r _ => ⟨fun _ => by simp [TxV], fun _ => ⟨fun _ => by simp [TxV], fun _ => ⟨fun _ => ⟨by decide, (qv _ _).mono fun t ht => ht⟩, fun _ => ?_⟩⟩⟩, fun _ => ⟨fun _ => (bD x 2 (by omega) (by omega)).mono fun r _ => ⟨fun _ => by simp [TxV], fun _ => by simp [TxV]⟩, fun _ => ⟨fun _ => (qv _ _).mono fun t ht => ht, fun _ => (bD x 6 (by omega) (by omega)).mono fun r _ => ⟨fun _ => by simp [TxV], fun _ => ⟨fun _ => by simp [TxV], fun _ => ⟨fun _ => ?_, fun _ => ⟨fun _ => ?_, fun _ => ⟨fun _ => by simp [TxV], fun _ => by simp [TxV]⟩⟩⟩⟩⟩⟩⟩⟩
 ·exact (dj h 3).mono fun r hr => ⟨by decide, (ji r _ (by omega)).mono fun r _ => ⟨fun _ => by simp [TxV], fun _ => by simp [TxV]⟩⟩
 ·exact (dj h 4).mono fun r hr => ⟨by decide, (ji r _ (by omega)).mono fun r _ => ⟨fun _ => by simp [TxV], fun _ => by simp [TxV]⟩⟩
 ·exact (dj h 2).mono fun r hr => ⟨by decide, (ji r _ (by omega)).mono fun r _ => ⟨fun _ => ⟨by decide, (bD _ 3 (by omega) (by omega)).mono fun _ _ => by simp [TxV]⟩, fun _ => by simp [TxV]⟩⟩
end Go.Proofs.YtboikinjlmjgjaaGreat.Abs
