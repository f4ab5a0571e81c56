/- Layer 27: the laws of the histories' states. -/
import Derived.Test.YtboikinjlmjgjaaGreatTotK
import Derived.Test.YtboikinjlmjgjaaGreatGenH
import Derived.Test.YtboikinjlmjgjaaGreatChecked
namespace Go.Proofs.YtboikinjlmjgjaaGreat.Abs
open Go
theorem tI (id f : Int) (v : Val) : ∀ (l l' : List Cel) (done : Bool), (∀ c ∈ l, ahd c.1 c.2.1 id f = true) → gQ id f v done (l ++ l') = l ++ gQ id f v done l'
 | [], l', done, _ => rfl
 | c :: l, l', done, h => by
  have hc := h c (List.mem_cons_self ..)
  have hn : ¬ (c.1 = id ∧ c.2.1 = f) := fun e => by rw [e.1, e.2, gL] at hc; omega
  have ih := tI id f v l l' done fun d hd => h d (List.mem_cons_of_mem _ hd)
  have hd : (decide (c.1 = id) && decide (c.2.1 = f)) = false := by
   rw [Bool.eq_false_iff]; intro e; simp at e; exact hn e
  simp only [List.cons_append, gQ, hc, hd, Bool.not_true, Bool.false_and, Bool.or_false, if_false, List.nil_append, ih, Bool.false_eq_true]
theorem oX (id f : Int) (v : Val) : ∀ (l : List Cel), (∀ c ∈ l, ahd id f c.1 c.2.1 = true) → gQ id f v true l = l
 | [], _ => rfl
 | c :: l, h => by
  have hc := h c (List.mem_cons_self ..)
  have hn : ¬ (c.1 = id ∧ c.2.1 = f) := fun e => by rw [e.1, e.2, gL] at hc; omega
  have ih := oX id f v l fun d hd => h d (List.mem_cons_of_mem _ hd)
  have hd : (decide (c.1 = id) && decide (c.2.1 = f)) = false := by
   rw [Bool.eq_false_iff]; intro e; simp at e; exact hn e
  simp only [gQ, hd, Bool.true_or, Bool.not_true, Bool.and_false, if_false, List.nil_append, ih, Bool.false_eq_true]
  rfl
theorem BK (p r : List Slt) : (aI (p ++ r, ())).1 = (aI (p, ())).1 ++ (aI (r, ())).1 := by simp [aI]
theorem BJ {l : List Slt} {c : Cel} (h : c ∈ (aI (l, ())).1) : ∃ x ∈ l, x.1 = c.1 ∧ x.2.1 = c.2.1 := by
 simp only [aI, List.mem_map, List.mem_filter] at h
 obtain ⟨x, ⟨hx, _⟩, rfl⟩ := h
 exact ⟨x, hx, rfl, rfl⟩
theorem M1 {s : Sta} (h : s.1.Pairwise gf) {x : Slt} (hx : x ∈ s.1) : rO (aI s) x.1 x.2.1 (cM x) = aI s := by
 obtain ⟨p, r, e⟩ := List.append_of_mem hx
 obtain ⟨l, u⟩ := s
 have e : l = p ++ x :: r := e
 subst e
 have h := List.pairwise_append.1 h
 have hr := List.pairwise_cons.1 h.2.1
 have hp : ∀ c ∈ (aI (p, ())).1, ahd c.1 c.2.1 x.1 x.2.1 = true := fun c hc => by
  obtain ⟨y, hy, e1, e2⟩ := BJ hc
  rw [← e1, ← e2]; exact h.2.2 y hy x (List.mem_cons_self ..)
 have hq : ∀ c ∈ (aI (r, ())).1, ahd x.1 x.2.1 c.1 c.2.1 = true := fun c hc => by
  obtain ⟨y, hy, e1, e2⟩ := BJ hc
  rw [← e1, ← e2]; exact hr.1 y hy
 have em : (aI (p ++ x :: r, u)).1 = (aI (p, ())).1 ++ ((if eqD aF (cM x) zv then [] else [(x.1, x.2.1, cM x, ())]) ++ (aI (r, ())).1) := by
  rw [show (p ++ x :: r, u) = ((p ++ [x] ++ r : List Slt), ()) by simp, BK, BK, List.append_assoc]
  congr 2
  cases hz : eqD aF (cM x) zv <;> simp [aI, hz]
 unfold rO
 refine Prod.ext ?_ rfl
 show gQ x.1 x.2.1 (cM x) (eqD aF (cM x) zv) (aI (p ++ x :: r, u)).1 = (aI (p ++ x :: r, u)).1
 rw [em, tI _ _ _ _ _ _ hp]
 congr 1
 cases hz : eqD aF (cM x) zv
 ·have ha : ahd x.1 x.2.1 x.1 x.2.1 = false := by
   cases hh : ahd x.1 x.2.1 x.1 x.2.1 with
   | false => rfl
   | true => rw [gL] at hh; omega
  simp [gQ, ha, oX _ _ _ _ hq]
 ·simpa using oX _ _ _ _ hq
end Go.Proofs.YtboikinjlmjgjaaGreat.Abs
namespace Go.Proofs.YtboikinjlmjgjaaGreat.Abs
end Go.Proofs.YtboikinjlmjgjaaGreat.Abs
namespace Go.Proofs.YtboikinjlmjgjaaGreat.Abs
def ama : Unit := ()
end Go.Proofs.YtboikinjlmjgjaaGreat.Abs
namespace Go.Proofs.YtboikinjlmjgjaaGreat.Abs
open Go
set_option linter.unusedSimpArgs false
set_option linter.unusedVariables false
noncomputable section
def Ke : TabL := {
 ty := [(3, aa), (4, .bool), (9, .str), (22, (.slice aQ)), (23, (.slice aa)), (24, (.slice ac)), (26, ae), (28, (.slice ae)), (30, aQ), (35, (.slice ar)), (37, (.slice aj)), (39, ao), (41, (.slice aR)), (43, ar), (48, aw), (51, aF), (53, aR), (75, aj), (86, ac)],
 cells := [(3, 1), (4, 1), (9, 1), (22, 1), (23, 1), (24, 1), (26, 5), (28, 1), (30, 4), (35, 1), (37, 1), (39, 1), (41, 1), (43, 5), (48, 1), (51, 4), (53, 5), (75, 3), (86, 6)],
 offs := [((26, 0), 0), ((26, 1), 1), ((26, 2), 2), ((26, 3), 3), ((26, 4), 4), ((30, 0), 0), ((30, 1), 1), ((30, 2), 2), ((30, 3), 3), ((39, 0), 0), ((43, 0), 0), ((43, 1), 1), ((43, 2), 2), ((43, 3), 3), ((43, 4), 4), ((48, 0), 0), ((51, 0), 0), ((51, 1), 1), ((51, 2), 2), ((51, 3), 3), ((53, 0), 0), ((53, 1), 1), ((75, 0), 0), ((75, 1), 1), ((75, 2), 2), ((86, 0), 0), ((86, 1), 1), ((86, 2), 2)],
 one := [],
 elem := [(22, 30), (23, 3), (24, 86), (28, 26), (35, 43), (37, 75), (41, 53)] }
theorem Gt : TabOk Tryz.prog Ke.tab := TabL.ok (by kernel_rfl)
abbrev bB (β : Type) := (List ar.den) → aw.den → Int → Option β
abbrev DR (β : Type) := (List ar.den) → Int → aw.den → Option β
abbrev dI (β : Type) := (List ar.den) → Int → aw.den → Bool → Int → Option β
def da (m : Bool) {β : Type} (K : Bool → Option β) (k_l5 : bB β) : DR β := fun r4 i r3 => (fz m aa (w64 (i + 1)) fun y2_ => (k_l5 r4 r3 y2_))
def fO (m : Bool) {β : Type} (K : Bool → Option β) (k_l5 : bB β) (k_l11 : dI β) : bB β := fun r4 r3 i => (bif (decide (i < (il r4))) then (ck (bd i r4.length) (bif (!decide ((ix ar r4 i).1 = 1)) then (da m K k_l5 r4 i r3) else (ck (bd i r4.length) (k_l11 r4 i r3 false 1)))) else (cl m .bool gu fun r5 => (K r5)))
def eB (m : Bool) {β : Type} (K : Bool → Option β) (k_l11 : dI β) (k_l5 : bB β) : dI β := fun r4 i r3 two t11 => (bif (decide (t11 < (il ((ix ar r4 i).2.2.2.1)))) then (nm m 2 (!two) (bd t11 ((ix ar r4 i).2.2.2.1).length) (nq m [2, 2] (!two) (nm m 1 (!two) (bd 0 ((ix ar r4 i).2.2.2.1).length) (nq m [2, 2, 3, 0] (!two) (ck (bd t11 ((ix ar r4 i).2.2.2.1).length) (ck (bd (w64 (t11 - 1)) ((ix ar r4 i).2.2.2.1).length) (bif (decide ((ix aR (ix ar r4 i).2.2.2.1 t11).1 ≤ (ix aR (ix ar r4 i).2.2.2.1 (w64 (t11 - 1))).1)) then (K false) else (fz m .bool (bif two then true else (!eqD aF (ix aR (ix ar r4 i).2.2.2.1 t11).2.1 (ix aR (ix ar r4 i).2.2.2.1 0).2.1)) fun y3_ => (fz m aa (w64 (t11 + 1)) fun y4_ => (k_l11 r4 i r3 y3_ y4_)))))))))) else (nm m 2 (!(!two)) (bd i r4.length) (nq m [2, 2] (!(!two)) (nm m 2 (!(!two)) (bd i r4.length) (nq m [2, 2] (!(!two)) (nm m 1 (!(!two)) (bd 0 ((ix ar r4 i).2.2.2.1).length) (nq m [2, 2] (!(!two)) (ck (((ii (!(!two))) && ((ii (!(!two))) && ((ii (!(!two))) && ((ii (!(!two))) && true)))) && (aM (!(!two)) (JR r3 ((ix ar r4 i).2.1) ((ix ar r4 i).2.2.1) ((ix aR (ix ar r4 i).2.2.2.1 0).2.1)))) (nq m [2, 2] (!(!two)) (nm m 2 (!(!two)) (Nb ((rO r3 ((ix ar r4 i).2.1) ((ix ar r4 i).2.2.1) ((ix aR (ix ar r4 i).2.2.2.1 0).2.1)).1) (r3.1)) (nq m [2, 0] (!(!two)) (bif (bif (!two) then true else (!(ph ((rO r3 ((ix ar r4 i).2.1) ((ix ar r4 i).2.2.1) ((ix aR (ix ar r4 i).2.2.2.1 0).2.1)).1) (r3.1)))) then (K false) else (da m K k_l5 r4 i r3)))))))))))))
def lA (m : Bool) {β : Type} (K : Bool → Option β) (k_l5 : bB β) (first : Int) (l : (List aQ.den)) : Option β := (cl m (.slice ae) (im first l) fun r1 => (cl m ao (xo r1) fun r2 => (ce m aw (stG r2) (aI r2) fun r3 => (ce m (.slice ar) (AX r2) (hZ r2) fun r4 => (k_l5 r4 r3 0)))))
def dJ (k_l5 : bB Bool) : Nat → dI Bool := lp (fun _ _ _ _ _ => none) fun k_l11 => eB false some k_l11 k_l5
def eA : Nat → bB Bool := lp (fun _ _ _ => none) fun k_l5 => fO false some k_l5 (dJ k_l5 FU)
def i4 (first : Int) (l : (List aQ.den)) : Option Bool := lA false some (eA FU) first l
def cT (r : Bool) : AV := .val .bool r
def LA : Ent := evE (.cons aa (.cons (.slice aQ) .unit)) cT (zero .bool) (fun x => i4 x.1 x.2.1)
def l5 : MS := ⟨10, [(5, [.drop]), (9, [.dat (.slice ac)])], [(6, .keep), (7, .dat (.slice ar)), (8, .dat aa)]⟩
def pJ : MS := ⟨10, [(5, [.drop]), (9, [.dat (.slice ac)])], [(6, .keep), (7, .dat (.slice ar)), (8, .dat aa), (9, .dat (.slice aR)), (10, .dat .bool), (11, .dat aa)]⟩
def sb : MS := ⟨10, [(5, [.drop]), (9, [.dat (.slice ac)])], [(6, .keep), (7, .dat (.slice ar)), (8, .dat aa)]⟩
def xW : Par := ⟨Ke.tab, (av [(13, BZ), (11, Zr), (14, pE), (10, AW), (12, xn), (16, Gl), (15, GD)]), (fun _ => ak [(6, sb)]), (fun _ => ak [(5, l5), (11, pJ)])⟩
def xX : KT := aB Ke.tab [.tmp 4] [.bool]
def dK (fuel lo : Nat) (p : List Nat) : Sg → KT → Option AV := xc (aH fi0 hs0 fuel 0) xW lo fuel (sub ((Tryz.f4.body).getD .skip) p)
def dh (fuel n : Nat) : bB AV := fun r4 r3 i => aD 0 l5 (dK fuel 0 [1, 1, 1, 1, 0, 1, 0, 0]) (ai 0 (ax 0 none (dK fuel 0 [1, 1, 1, 1, 1]) xX)) n ⟨mkE 94 [(6, .box 9 0), (7, .val (.slice ar) r4), (8, .val aa i)], mkH 10 [(5, .box [.unk]), (9, .box [.val (.slice ac) r3.1])]⟩
def fP (fuel n5 n : Nat) : dI AV := fun r4 i r3 two t11 => aD 0 pJ (dK fuel 0 [1, 1, 1, 1, 0, 1, 0, 0, 1, 0, 0, 1, 1, 1, 0, 1, 0, 0]) (ai 2 (ax 0 none (dK fuel 0 [1, 1, 1, 1, 0, 1, 0, 0, 1, 0, 0, 1, 1, 1, 1]) (ai 1 (ax 0 (some sb) (dK fuel 0 [1, 1, 1, 1, 0, 1, 0, 0, 1, 1]) (kLp 0 l5 (dK fuel 0 [1, 1, 1, 1, 0, 1, 0, 0]) (ai 0 (ax 0 none (dK fuel 0 [1, 1, 1, 1, 1]) xX)) n5))))) n ⟨mkE 94 [(6, .box 9 0), (7, .val (.slice ar) r4), (8, .val aa i), (9, .val (.slice aR) (ix ar r4 i).2.2.2.1), (10, .val .bool two), (11, .val aa t11)], mkH 10 [(5, .box [.unk]), (9, .box [.val (.slice ac) r3.1])]⟩
theorem DS (fuel n5 : Nat) : dh fuel (n5 + 1) = fO true (sm cT) (dh fuel n5) (fP fuel n5 fuel) := by kernel_rfl
theorem BQ (fuel n5 n11 : Nat) : fP fuel n5 (n11 + 1) = eB true (sm cT) (fP fuel n5 n11) (dh fuel n5) := by kernel_rfl
theorem BR (n5 : Nat) {k_l5 : bB Bool} (h_l5 : dh FU n5 = mp3 cT k_l5) : ∀ n, fP FU n5 n = mp5 cT (dJ k_l5 n) := ba (by kernel_rfl) fun n11 _ h => (BQ FU n5 n11).trans (by rw [h, h_l5]; funext _ _ _ _ _; simp only [eB, da, ss])
theorem DT : ∀ n, dh FU n = mp3 cT (eA n) := ba (by kernel_rfl) fun n5 _ h => (DS FU n5).trans (by rw [h, BR n5 h FU]; funext _ _ _; simp only [fO, da, ss])
theorem adC : ap Tryz.prog 4 (LA) := evX Tryz.func4 (S := xW) Gt (ah ⟨OH, adZ, BH, NQ, FY, ZT, Z8, trivial⟩) (tys := [.bool]) (fun fuel x => lA true (sm cT) (dh fuel fuel) x.1 x.2.1) (fun x => by show _ = Option.map cT _; rw [DT FU]; simp only [lA, i4, da, ss])
abbrev di (β : Type) := (List aQ.den) → (List ae.den) → (List Int) → Int → Option β
abbrev DV (β : Type) := (List aQ.den) → Int → (List ae.den) → (List Int) → Option β
abbrev dL (β : Type) := (List ar.den) → Int → Option β
def d8 (m : Bool) {β : Type} (K : Bool → Option β) (k_l4 : di β) : DV β := fun l i h made => (fz m aa (w64 (i + 1)) fun y3_ => (k_l4 l h made y3_))
def fQ (m : Bool) {β : Type} (K : Bool → Option β) (k_l4 : di β) (k_l14 : dL β) : di β := fun l h made i => (nq m [2, 1] (decide (i < (il l))) (bif (bif (decide (i < (il l))) then (decide (i < 9)) else false) then (ck (bd i l.length) (cl m aa (aZ ((ix aQ l i).2.1) 3) fun r2 => (cl m (.cons ae (.cons .bool .unit)) (gq h made ((ix aQ l i).1, (w64 (r2 + 9)), (ix aQ l i).2.2.1, (ix aQ l i).2.2.2.1, ())) fun r3 => (nq m [2, 2, 2, 1] (r3.2.1) (nq m [2] (bif r3.2.1 then (decide ((il r3.1.2.1) = 1)) else false) (nm m 1 (bif r3.2.1 then (decide ((il r3.1.2.1) = 1)) else false) (bd 0 r3.1.2.1.length) (nq m [2, 2, 2] (bif r3.2.1 then (decide ((il r3.1.2.1) = 1)) else false) (nm m 2 (bif r3.2.1 then (decide ((il r3.1.2.1) = 1)) else false) (bd (w64 ((il made) - 1)) made.length) (nq m [2, 3, 1] (bif r3.2.1 then (decide ((il r3.1.2.1) = 1)) else false) (bif (bif (bif r3.2.1 then (decide ((il r3.1.2.1) = 1)) else false) then (decide ((ix aa r3.1.2.1 0) = (ix aa made (w64 ((il made) - 1))))) else false) then (cl m (.slice ae) (gl h (r3.1)) fun r4 => (ck (lm (List.length made + List.length ([r3.1.1] : List Int))) (fz m (.slice aa) (made ++ [r3.1.1]) fun y3_ => (d8 m K k_l4 l i r4 y3_)))) else (d8 m K k_l4 l i h made))))))))))) else (cl m ao (xo h) fun r5 => (ce m (.slice ar) (AX r5) (hZ r5) fun r6 => (k_l14 r6 0)))))
def eC (m : Bool) {β : Type} (K : Bool → Option β) (k_l14 : dL β) : dL β := fun r6 i => (bif (decide (i < (il r6))) then (ck (bd i r6.length) (bif (decide ((ix ar r6 i).1 = 1)) then (K false) else (fz m aa (w64 (i + 1)) fun y1_ => (k_l14 r6 y1_)))) else (cl m .bool gu fun r7 => (K r7)))
def lB (m : Bool) {β : Type} (K : Bool → Option β) (k_l4 : di β) (first : Int) (l : (List aQ.den)) : Option β := (cl m ae (bK first) fun r1 => (ck (bd 0 ([r1] : List ae.den).length) (fz m (.slice ae) [r1] fun y1_ => (fz m (.slice aa) [(ix ae [r1] 0).1] fun y2_ => (k_l4 l y1_ y2_ 0)))))
def dM : Nat → dL Bool := lp (fun _ _ => none) fun k_l14 => eC false some k_l14
def gD : Nat → di Bool := lp (fun _ _ _ _ => none) fun k_l4 => fQ false some k_l4 (dM FU)
def d9 (first : Int) (l : (List aQ.den)) : Option Bool := lB false some (gD FU) first l
def cU (r : Bool) : AV := .val .bool r
def xY : Ent := evE (.cons aa (.cons (.slice aQ) .unit)) cU (zero .bool) (fun x => d9 x.1 x.2.1)
def sd : MS := ⟨0, [], [(1, .dat (.slice aQ)), (5, .dat (.slice ae)), (6, .own aa 3), (7, .dat aa)]⟩
def pK : MS := ⟨0, [], [(11, .dat (.slice ar)), (12, .dat aa)]⟩
def DW : MS := ⟨0, [], [(1, .dat (.slice aQ)), (5, .dat (.slice ae)), (6, .own aa 3), (7, .dat aa)]⟩
def xZ : Par := ⟨Ke.tab, (av [(6, C0), (7, lZ), (8, xi), (9, wQ), (11, Zr), (10, AW), (12, xn)]), (fun _ => ak [(5, DW)]), (fun _ => ak [(4, sd), (14, pK)])⟩
def x6 : KT := aB Ke.tab [.tmp 4] [.bool]
def lC (fuel lo : Nat) (p : List Nat) : Sg → KT → Option AV := xc (aH fi0 hs0 fuel 0) xZ lo fuel (sub ((Tryz.f3.body).getD .skip) p)
def gC (fuel n : Nat) : di AV := fun l h made i => aD 0 sd (lC fuel 0 [1, 1, 1, 0, 1, 0, 0]) (ai 0 (ax 0 none (lC fuel 0 [1, 1, 1, 1]) x6)) n ⟨mkE 91 [(1, .val (.slice aQ) l), (5, .val (.slice ae) h), (6, .own 0 0 aa made), (7, .val aa i)], mkH 1 [(0, .row aa 3 0)]⟩
def fR (fuel n : Nat) : dL AV := fun r6 i => aD 0 pK (lC fuel 0 [1, 1, 1, 1, 1, 0, 1, 0, 0]) (ai 2 (ax 0 none (lC fuel 0 [1, 1, 1, 1, 1, 1]) x6)) n ⟨mkE 91 [(11, .val (.slice ar) r6), (12, .val aa i)], mkH 0 []⟩
theorem DX (fuel n4 : Nat) : gC fuel (n4 + 1) = fQ true (sm cU) (gC fuel n4) (fR fuel fuel) := by kernel_rfl
theorem BS (fuel n14 : Nat) : fR fuel (n14 + 1) = eC true (sm cU) (fR fuel n14) := by kernel_rfl
theorem BT : ∀ n, fR FU n = mp2 cU (dM n) := ba (by kernel_rfl) fun n14 _ h => (BS FU n14).trans (by rw [h]; funext _ _; simp only [eC, d8, ss])
theorem DY : ∀ n, gC FU n = mp4 cU (gD n) := ba (by kernel_rfl) fun n4 _ h => (DX FU n4).trans (by rw [h, BT FU]; funext _ _ _ _; simp only [fQ, d8, ss])
theorem LB : ap Tryz.prog 3 (xY) := evX Tryz.func3 (S := xZ) Gt (ah ⟨Mq, oo, FO, Fp, adZ, NQ, FY, trivial⟩) (tys := [.bool]) (fun fuel x => lB true (sm cU) (gC fuel fuel) x.1 x.2.1) (fun x => by show _ = Option.map cU _; rw [DY FU]; simp only [lB, d9, d8, ss])
end
end Go.Proofs.YtboikinjlmjgjaaGreat.Abs
namespace Go.Proofs.YtboikinjlmjgjaaGreat.Abs
open Go
theorem yE : Tot gu fun r => r = true := by
 simp only [gu, rC]
 change Tot (ce false (.slice ar) (AX awk) (hZ awk) _) _
 rw [adc]
 exact ⟨true, by kernel_rfl, rfl⟩
theorem De : ∀ (n : Nat) (l : List Stg), ∀ r ∈ qf n l, r.1 = 2
 | 0, _, r, h => by cases h
 | _ + 1, [], r, h => by cases h
 | n + 1, x :: l, r, h => by
  rw [td] at h
  rcases List.mem_append.1 h with h | h
  ·split at h
   ·cases h
   ·rw [List.mem_singleton.1 h]
  ·exact De n _ r h
theorem FN : ∀ (n : Nat) (l : List Stg), (qf n l).length ≤ n
 | 0, _ => Nat.le_refl _
 | _ + 1, [] => Nat.zero_le _
 | n + 1, x :: l => by
  rw [td, List.length_append]
  have := FN n (l.dropWhile (fun y => eqD aT y.1 x.1))
  split <;> simp <;> omega
theorem yT {s : Sta} : (hZ s).length ≤ 2 * s.1.length := by
 have h1 := Aa s
 have h2 := FN (eN (aI s)).length (eN (aI s))
 have h3 := EG (aI s)
 have h4 := mT s
 simp only [hZ, List.length_append]; omega
theorem EU {s : Sta} {r : Reg} (h : r ∈ hZ s) (hk : r.1 = 1) : ∃ x ∈ s.1, dc x.2.2.1 = true ∧ r = (1, x.1, x.2.1, x.2.2.1, [], ()) := by
 rcases List.mem_append.1 h with h | h
 ·simp only [gy, List.mem_map, List.mem_filter] at h
  obtain ⟨x, ⟨hx, hd⟩, rfl⟩ := h
  exact ⟨x, hx, hd, rfl⟩
 ·have := De _ _ r h
  rw [hk] at this
  exact absurd this (by decide)
theorem Ht {t : Ty} {l : List t.den} {i : Nat} (h : i < l.length) : ix t l (i : Int) = l[i] := by
 unfold ix
 rw [List.getD_eq_getElem?_getD, Int.toNat_natCast, List.getElem?_eq_getElem h]; rfl
theorem Ug {al : List Alt} (hd : dc al = true) : ∃ j, ∃ (h : j < al.length), eqD aF (al[j]).2.1 (ix aR al 0).2.1 = false := by
 cases al with
 | nil => cases hd
 | cons a al =>
  simp only [dc, List.any_eq_true] at hd
  obtain ⟨b, hb, hb2⟩ := hd
  obtain ⟨j, hj, rfl⟩ := List.mem_iff_getElem.1 hb
  exact ⟨j + 1, Nat.succ_lt_succ hj, by simpa using hb2⟩
theorem Ey {s : Sta} (hs : St1 s) (hl : s.1.length ≤ 500000) {x : Slt} (hx : x ∈ s.1) (hd : dc x.2.2.1 = true) (hsrt : x.2.2.1.Pairwise fun a b => a.1 < b.1) (k : bB Bool) (l : List Reg) (i : Int) (h0 : 0 ≤ i) (h1 : i < l.length) (hlen : l.length ≤ 1000000) (he : ix ar l i = (1, x.1, x.2.1, x.2.2.1, [], ())) (hk : Tot (k l (aI s) (i + 1)) fun r => r = true) :
  ∀ (n : Nat) (two : Bool) (t : Nat), 1 ≤ t → t ≤ x.2.2.1.length → x.2.2.1.length - t < n → (two = false → ∀ j (hj : j < x.2.2.1.length), j < t → eqD aF (x.2.2.1[j]).2.1 (ix aR x.2.2.1 0).2.1 = true) → Tot (dJ k n l i (aI s) two t) fun r => r = true
 | 0, two, t, a0, a1, a2, a3 => by omega
 | n + 1, two, t, a0, a1, a2, a3 => by
  show Tot (eB false some (dJ k n) k l i (aI s) two t) _
  have halt := (hs.alts x hx).2
  simp only [eB, da, tt, il, he]
  have e1 : w64 ((t : Int) + 1) = ((t + 1 : Nat) : Int) := by rw [aE (by omega) (by omega)]; omega
  have e2 : w64 ((t : Int) - 1) = ((t - 1 : Nat) : Int) := by rw [aE (by omega) (by omega)]; omega
  have e3 : w64 (i + 1) = i + 1 := aE (by omega) (by omega)
  rw [e1, e2, e3]
  refine ⟨fun hc => ?_, fun hc => ?_⟩
  ·have hc : t < x.2.2.1.length := by simp at hc; omega
   have g1 : ix aR x.2.2.1 (t : Int) = x.2.2.1[t] := Ht (t := aR) hc
   have g2 : ix aR x.2.2.1 ((t - 1 : Nat) : Int) = x.2.2.1[t - 1] := Ht (t := aR) (by omega)
   rw [g1, g2]
   have hlt : (x.2.2.1[t - 1]).1 < (x.2.2.1[t]).1 := List.pairwise_iff_getElem.1 hsrt (t - 1) t (by omega) hc (by omega)
   refine ⟨aA fun _ => aL (by omega) (by omega), aA fun _ => aL (by omega) (by omega), aL (by omega) (by omega), aL (by omega) (by omega), fun h => ?_, fun _ => ?_⟩
   ·exact absurd hlt (Int.not_lt.2 (of_decide_eq_true h))
   ·refine Ey hs hl hx hd hsrt k l i h0 h1 hlen he hk n _ (t + 1) (by omega) (by omega) (by omega) fun ht j hj hjt => ?_
    cases two with
    | true => simp at ht
    | false =>
     by_cases e : j < t
     ·exact a3 rfl j hj e
     ·have e : j = t := by omega
      subst e
      simpa using ht
  ·have hc : t = x.2.2.1.length := by simp at hc; omega
   have hne := (hs.alts x hx).1
   have hpos : 0 < x.2.2.1.length := List.length_pos_iff.2 hne
   have g0 : ix aR x.2.2.1 (0 : Int) = x.2.2.1[0] := Ht (t := aR) (i := 0) hpos
   have htwo : two = true := by
    cases two with
    | true => rfl
    | false =>
     obtain ⟨j, hj, e⟩ := Ug hd
     rw [a3 rfl j hj (by omega)] at e; cases e
   have hfirst : (ix aR x.2.2.1 0).2.1 = cM x := by
    rw [g0]; unfold cM
    generalize x.2.2.1 = al at *
    cases al with
    | nil => simp at hpos
    | cons a al => rfl
   have hml := mT s
   have hW : rO (aI s) x.1 x.2.1 (cM x) = aI s := M1 hs.asc hx
   have hwg : JR (aI s) x.1 x.2.1 (cM x) = true := dt (by omega)
   have htc : Nb (aI s).1 (aI s).1 = true := by simp [Nb]; omega
   rw [hfirst, hW, hwg, htc, KB, htwo]
   simp only [Bool.not_true, bo, Bool.and_true, cond_false, Bool.false_eq_true, false_imp_iff, true_and, forall_const]
   refine ⟨aA fun _ => aL h0 (by omega), aA fun _ => aL h0 (by omega), aA fun _ => aL (by omega) (by omega), by decide, hk⟩
theorem J4 {s : Sta} (hs : St1 s) (hl : s.1.length ≤ 500000) (hsrt : ∀ x ∈ s.1, x.2.2.1.Pairwise fun a b => a.1 < b.1) : ∀ (n : Nat) (i : Nat), i ≤ (hZ s).length → (hZ s).length - i < n → Tot (eA n (hZ s) (aI s) i) fun r => r = true
 | 0, i, h0, h1 => by omega
 | n + 1, i, h0, h1 => by
  show Tot (fO false some (eA n) (dJ (eA n) FU) (hZ s) (aI s) i) _
  have hlen := yT (s := s)
  have e1 : w64 ((i : Int) + 1) = ((i + 1 : Nat) : Int) := by rw [aE (by omega) (by omega)]; omega
  simp only [fO, da, tt, il]
  rw [e1]
  refine ⟨fun hc => ?_, fun _ => yE.mono fun _ h => h⟩
  have hc : i < (hZ s).length := by simp at hc; omega
  have next := J4 hs hl hsrt n (i + 1) (by omega) (by omega)
  refine ⟨aL (by omega) (by omega), fun _ => next, fun hk => ⟨aL (by omega) (by omega), ?_⟩⟩
  have hm := eT (t := ar) (l := hZ s) (i := (i : Int)) (by omega) (by omega)
  have hk : (ix ar (hZ s) (i : Int)).1 = 1 := by simpa using hk
  obtain ⟨x, hx, hd, he⟩ := EU hm hk
  have hpos : 0 < x.2.2.1.length := List.length_pos_iff.2 (hs.alts x hx).1
  have halt := (hs.alts x hx).2
  refine Ey hs hl hx hd (hsrt x hx) _ (hZ s) i (by omega) (by omega) (by omega) he (by simpa using next) FU false 1 (by omega) (by omega) (by rw [bn]; omega) fun _ j hj hj1 => ?_
  have : j = 0 := by omega
  subst this
  rw [show (0 : Int) = ((0 : Nat) : Int) from rfl, Ht (t := aR) hpos]
  exact p8 aF _ rfl
theorem ZO (first : Int) (l : List aQ.den) : Tot (i4 first l) fun r => r = true := by
 simp only [i4, lA, tt]
 refine (Hw first l).mono fun h hh => (RN h hh.h0).mono fun s hs => ?_
 have hst := hs.st1 hh.h0
 have hsum := hh.h0.sum
 have hlen : s.1.length ≤ 500000 := by
  obtain ⟨_, _, _, _, h⟩ := hs
  have := h.len; omega
 have hsrt : ∀ x ∈ s.1, x.2.2.1.Pairwise fun a b => a.1 < b.1 := by
  obtain ⟨_, _, _, _, h⟩ := hs
  exact h.srt
 have hreg := yT (s := s)
 exact ⟨hst.stg, hst.stg, J4 hst hlen hsrt FU 0 (by omega) (by rw [bn]; omega)⟩
structure Lin (h : List Com) (made : List Int) : Prop where
 pos : 0 < made.length
 inn : ∀ k < made.length, InH h (made.getD k 0)
 all : ∀ c ∈ h, ∃ k < made.length, made.getD k 0 = c.1
 lnk : ∀ k, k + 1 < made.length → ∃ c ∈ h, c.1 = made.getD (k + 1) 0 ∧ made.getD k 0 ∈ c.2.1
theorem YP {l : List Com} (hasc : l.Pairwise fun a b => a.1 < b.1) {c : Com} (hc : c ∈ l) : iD l c.1 = some c := by
 induction l with
 | nil => cases hc
 | cons d l ih =>
  have ha := List.pairwise_cons.1 hasc
  unfold iD
  rw [List.find?_cons]
  rcases List.mem_cons.1 hc with rfl | hc
  ·simp
  ·have : ¬ d.1 = c.1 := fun e => by have := ha.1 c hc; rw [e] at this; exact absurd this (Int.lt_irrefl _)
   simp only [this, decide_false]
   exact ih ha.2 hc
theorem Ho {h : List Com} {made : List Int} (hl : Lin h made) (hasc : h.Pairwise fun a b => a.1 < b.1) {r : List Int} {j : Nat} (hj : j < made.length) (hr : UE h [made.getD j 0] r) : ∀ d, d ≤ j → made.getD (j - d) 0 ∈ r
 | 0, _ => hr.1 _ (by simp) (hl.inn j hj)
 | d + 1, hd => by
  have ih := Ho hl hasc hj hr d (by omega)
  obtain ⟨c, hc, e1, e2⟩ := hl.lnk (j - (d + 1)) (by omega)
  rw [show j - (d + 1) + 1 = j - d by omega] at e1
  rw [← e1] at ih
  exact hr.2 _ ih c (YP hasc hc) _ e2 (hl.inn _ (by omega))
theorem aaL {P R : List Com} {made : List Int} {c : Com} (h : Lin (P ++ R) made) (hp : made.getD (made.length - 1) 0 ∈ c.2.1) : Lin (P ++ c :: R) (made ++ [c.1]) := by
 have hpos := h.pos
 have hmem : ∀ d ∈ P ++ R, d ∈ P ++ c :: R := fun d hd => by
  rcases List.mem_append.1 hd with hd | hd
  ·exact List.mem_append_left _ hd
  ·exact List.mem_append_right _ (List.mem_cons_of_mem _ hd)
 have hc : c ∈ P ++ c :: R := by simp
 refine ⟨by simp, fun k hk => ?_, fun d hd => ?_, fun k hk => ?_⟩
 ·by_cases e : k < made.length
  ·rw [fb _ _ _ e]
   obtain ⟨d, hd, e⟩ := h.inn k e
   exact ⟨d, hmem d hd, e⟩
  ·have e : k = made.length := by simp at hk; omega
   subst e
   rw [nd]
   exact ⟨c, hc, rfl⟩
 ·simp only [List.mem_append, List.mem_cons] at hd
  rcases hd with hd | rfl | hd
  ·obtain ⟨k, hk, e⟩ := h.all d (List.mem_append_left _ hd)
   exact ⟨k, by simp; omega, by rw [fb _ _ _ hk]; exact e⟩
  ·exact ⟨made.length, by simp, nd _ _ _⟩
  ·obtain ⟨k, hk, e⟩ := h.all d (List.mem_append_right _ hd)
   exact ⟨k, by simp; omega, by rw [fb _ _ _ hk]; exact e⟩
 ·by_cases e : k + 1 < made.length
  ·rw [fb _ _ _ e, fb _ _ _ (by omega)]
   obtain ⟨d, hd, e⟩ := h.lnk k e
   exact ⟨d, hmem d hd, e⟩
  ·have e : k + 1 = made.length := by simp at hk; omega
   have hk' : k = made.length - 1 := by omega
   refine ⟨c, hc, ?_, ?_⟩
   ·rw [e, nd]
   ·rw [fb _ _ _ (by omega), hk']; exact hp
theorem VY {h : List Com} {made : List Int} (hl : Lin h made) (hasc : h.Pairwise fun a b => a.1 < b.1) {s : Sta} (hs : AtP h s) : ∀ x ∈ s.1, dc x.2.2.1 = false := fun x hx => by
 obtain ⟨T, AB, hT, hA, hst⟩ := hs
 have hsrt := hst.srt x hx
 have hsrc := hst.src x hx
 cases ha : x.2.2.1 with
 | nil => rfl
 | cons a al =>
  cases al with
  | nil => rfl
  | cons b al =>
   exfalso
   rw [ha] at hsrt hsrc
   have hlt : a.1 < b.1 := (List.pairwise_cons.1 hsrt).1 b (by simp)
   obtain ⟨c1, hc1, e1, w1, l1⟩ := hsrc a (by simp)
   obtain ⟨c2, hc2, e2, w2, l2⟩ := hsrc b (by simp)
   obtain ⟨j1, hj1, rfl⟩ := List.mem_iff_getElem.1 hc1
   obtain ⟨j2, hj2, rfl⟩ := List.mem_iff_getElem.1 hc2
   have g1 : T.getD j1 (zero ae) = T[j1] := by rw [List.getD_eq_getElem?_getD, List.getElem?_eq_getElem hj1]; rfl
   have g2 : T.getD j2 (zero ae) = T[j2] := by rw [List.getD_eq_getElem?_getD, List.getElem?_eq_getElem hj2]; rfl
   obtain ⟨k1, hk1, f1⟩ := hl.all _ (hT _ hc1)
   obtain ⟨k2, hk2, f2⟩ := hl.all _ (hT _ hc2)
   have a1 := hA j1 hj1
   have a2 := hA j2 hj2
   rw [g1, ← f1] at a1
   rw [g2, ← f2] at a2
   rcases Nat.le_total k1 k2 with hk | hk
   ·have := Ho hl hasc hk2 a2 (k2 - k1) (by omega)
    rw [show k2 - (k2 - k1) = k1 by omega, f1] at this
    exact l1 j2 hj2 (by rw [g2, e1, e2]; exact Int.ne_of_gt hlt) (by rw [g2]; exact w2) this
   ·have := Ho hl hasc hk1 a1 (k1 - k2) (by omega)
    rw [show k1 - (k1 - k2) = k2 by omega, f2] at this
    exact l2 j1 hj1 (by rw [g1, e1, e2]; exact Int.ne_of_lt hlt) (by rw [g1]; exact w1) this
theorem Fk {s : Sta} (hl : s.1.length ≤ 500000) (h : ∀ x ∈ s.1, dc x.2.2.1 = false) : ∀ (n i : Nat), i ≤ (hZ s).length → (hZ s).length - i < n → Tot (dM n (hZ s) i) fun r => r = true
 | 0, i, h0, h1 => by omega
 | n + 1, i, h0, h1 => by
  show Tot (eC false some (dM n) (hZ s) i) _
  have hlen := yT (s := s)
  have e1 : w64 ((i : Int) + 1) = ((i + 1 : Nat) : Int) := by rw [aE (by omega) (by omega)]; omega
  simp only [eC, tt, il]
  rw [e1]
  refine ⟨fun hc => ?_, fun _ => yE.mono fun _ h => h⟩
  have hc : i < (hZ s).length := by simp at hc; omega
  have hm := eT (t := ar) (l := hZ s) (i := (i : Int)) (by omega) (by omega)
  refine ⟨aL (by omega) (by omega), fun hk => ?_, fun _ => Fk hl h n (i + 1) (by omega) (by omega)⟩
  obtain ⟨x, hx, hd, _⟩ := EU hm (of_decide_eq_true hk)
  rw [h x hx] at hd; cases hd
theorem BO (l : List aQ.den) : ∀ (n : Nat) (h : List Com) (made : List Int) (i : Nat), HisP i h → Lin h made → made.length ≤ i + 1 → i ≤ 9 → 9 - i < n → Tot (gD n l h made i) fun r => r = true
 | 0, h, made, i, h1, h2, h3, h4, h5 => by omega
 | n + 1, h, made, i, h1, h2, h3, h4, h5 => by
  show Tot (fQ false some (gD n) (dM FU) l h made i) _
  have hpos := h2.pos
  have e1 : w64 ((i : Int) + 1) = ((i + 1 : Nat) : Int) := by rw [aE (by omega) (by omega)]; omega
  have e2 : w64 ((made.length : Int) - 1) = ((made.length - 1 : Nat) : Int) := by rw [aE (by omega) (by omega)]; omega
  simp only [fQ, d8, tt, il]
  rw [e1, e2]
  refine ⟨fun hc => ?_, fun _ => ?_⟩
  ·have hc : i < l.length ∧ i < 9 := by
    simp only [Bool.cond_false_right, Bool.and_eq_true, decide_eq_true_eq] at hc; omega
   have hb : bnd i ≤ 54005 := Jq (b := 8) (by omega)
   have hs := h1.sum
   refine ⟨aL (by omega) (by omega), (bD _ 3 (by omega) (by omega)).mono fun r2 _ => (yB h1.h0 h1.ne (by omega) made hpos (by omega) _).mono fun r hr => ⟨aA fun hg => ?_, aA fun _ => aL (by omega) (by omega), fun ho => ?_, fun _ => ?_⟩⟩
   ·simp only [Bool.cond_false_right, Bool.and_eq_true, decide_eq_true_eq] at hg
    exact aL (by omega) (by omega)
   ·simp only [Bool.cond_false_right, Bool.and_eq_true, decide_eq_true_eq] at ho
    have hp : made.getD (made.length - 1) 0 ∈ r.1.2.1 := by
     have := eT (t := aa) (l := r.1.2.1) (i := 0) (by omega) (by omega)
     rw [ho.2] at this
     exact this
    refine (x8 h r.1 (by have := h1.len; omega)).mono fun r3 h3' => ⟨eS (by simp; omega), ?_⟩
    obtain ⟨P, R, rfl, rfl, a1, a2⟩ := h3'
    exact BO l n _ _ (i + 1) (h1.ins (hr ho.1.1) a1 a2 hc.2) (aaL h2 hp) (by simp; omega) (by omega) (by omega)
   ·exact BO l n _ _ (i + 1) h1.mono h2 (by omega) (by omega) (by omega)
  ·refine (RN h h1.h0).mono fun s hs => ?_
   have hst := hs.st1 h1.h0
   have hsum := h1.h0.sum
   have hlen : s.1.length ≤ 500000 := by
    obtain ⟨_, _, _, _, h⟩ := hs
    have := h.len; omega
   have hreg := yT (s := s)
   exact ⟨hst.stg, Fk hlen (VY h2 h1.h0.asc hs) FU 0 (by omega) (by rw [bn]; omega)⟩
theorem DU (first : Int) (l : List aQ.den) : Tot (d9 first l) fun r => r = true := by
 simp only [d9, lB, tt]
 refine (CY first).mono fun c hc => ⟨aL (by omega) (by simp), ?_⟩
 refine BO l FU [c] [c.1] 0 hc.his ⟨by simp, fun k hk => ?_, fun d hd => ?_, fun k hk => by simp at hk⟩ (by simp) (by omega) (by rw [bn]; omega)
 ·have : k = 0 := by simp at hk; omega
  subst this
  exact ⟨c, by simp, rfl⟩
 ·rw [List.mem_singleton.1 hd]; exact ⟨0, by simp, rfl⟩
end Go.Proofs.YtboikinjlmjgjaaGreat.Abs
