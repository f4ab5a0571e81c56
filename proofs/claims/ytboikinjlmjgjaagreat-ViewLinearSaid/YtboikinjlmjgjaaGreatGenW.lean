/- The equations of the program's functions on the abstract machine. (Printed by gen.py; each is checked by the kernel.) -/
import Derived.Test.YtboikinjlmjgjaaGreatGenG
import Derived.Test.YtboikinjlmjgjaaGreatAbsW
import Derived.Test.YtboikinjlmjgjaaGreatChecked
namespace Go.Proofs.YtboikinjlmjgjaaGreat.Abs
abbrev aR : Ty := (.cons aa (.cons aF .unit))
abbrev ar : Ty := (.cons aa (.cons aa (.cons aa (.cons (.slice aR) (.cons (.slice aa) .unit)))))
abbrev aj : Ty := (.cons aa (.cons aa (.cons (.slice aR) .unit)))
abbrev ao : Ty := (.cons (.slice aj) .unit)
abbrev aq : Ty := (.cons aT (.cons aa .unit))
end Go.Proofs.YtboikinjlmjgjaaGreat.Abs
namespace Go.Proofs.YtboikinjlmjgjaaGreat.Abs
abbrev Val := aF.den
abbrev Alt := aR.den
abbrev Slt := aj.den
abbrev Sta := ao.den
abbrev Cel := ac.den
abbrev Mdl := aw.den
abbrev Reg := ar.den
abbrev Stg := aq.den
def tt0 : Bool := true
def Ox (l : List Int) : Bool := decide (l.length ≤ LIM)
def orF (l : List Int) : Int := match l.find? (fun n => !decide (n = 0)) with | some n => n | none => 0
def oS (x y : Int) : Int := if x < y then -1 else if y < x then 1 else 0
def eQ (a b : Int) : Int := if a = 0 then b else a
def zv : Val := (0, false, [], 0, ())
def ahd (i f i2 f2 : Int) : Bool := decide (i < i2) || (decide (i = i2) && decide (f < f2))
def Nb (a b : List Cel) : Bool := decide (a.length ≤ 1048577) && decide (b.length ≤ 1048577)
def ph (a b : List Cel) : Bool := decide (a.length = b.length) && (a.zip b).all (fun p => eqD ac p.1 p.2)
def BP (l : List Alt) : Bool := decide (l.length ≤ 1048576)
def stG (s : Sta) : Bool := decide (s.1.length ≤ 1048576) && s.1.all (fun x => !x.2.2.1.isEmpty && BP x.2.2.1)
def cM (x : Slt) : Val := match x.2.2.1 with | a :: _ => a.2.1 | [] => zv
def aI (s : Sta) : Mdl := ((s.1.filter (fun x => !eqD aF (cM x) zv)).map (fun x => (x.1, x.2.1, cM x, ())), ())
def Lw (m : Mdl) : Bool := decide (m.1.length ≤ 1048576)
def gQ (id field : Int) (v : Val) : Bool → List Cel → List Cel
 | done, [] => if done then [] else [(id, field, v, ())]
 | done, c :: l => (if !ahd c.1 c.2.1 id field && !done then [(id, field, v, ())] else []) ++ (if decide (c.1 = id) && decide (c.2.1 = field) then [] else [c]) ++ gQ id field v (done || !ahd c.1 c.2.1 id field) l
def rO (m : Mdl) (id field : Int) (v : Val) : Mdl := (gQ id field v (eqD aF v zv) m.1, ())
def JR (m : Mdl) (_ _ : Int) (_ : Val) : Bool := Lw m
def gf (a b : Slt) : Prop := ahd a.1 a.2.1 b.1 b.2.1 = true
instance slotDec (a b : Slt) : Decidable (gf a b) := inferInstanceAs (Decidable (_ = true))
def adf (l : List Slt) : Bool := decide (l.Pairwise gf)
def bX (s : Sta) (_ _ : Int) : Bool := decide (s.1.length ≤ 1048576) && adf s.1
def bJ (s : Sta) (id field : Int) : List Slt := s.1.takeWhile (fun x => ahd x.1 x.2.1 id field)
def iK (s : Sta) (id field : Int) : List Slt := s.1.dropWhile (fun x => ahd x.1 x.2.1 id field)
def am (s : Sta) (id field : Int) : Int := ((bJ s id field).length : Int)
def el (s : Sta) (id field : Int) : List Alt := match iK s id field with
 | x :: _ => if x.1 = id ∧ x.2.1 = field then x.2.2.1 else []
 | [] => []
def Uj (id field : Int) : List Slt → List Slt
 | x :: r => if x.1 = id ∧ x.2.1 = field then r else x :: r
 | [] => []
def lX (s : Sta) (id field : Int) (l : List Alt) : Sta := (bJ s id field ++ (if l.isEmpty then [] else [(id, field, l, ())]) ++ Uj id field (iK s id field), ())
def Z7 (s : Sta) (id field : Int) (_ : List Alt) : Bool := bX s id field
def dc (l : List Alt) : Bool := match l with
 | a :: r => r.any (fun b => !eqD aF b.2.1 a.2.1)
 | [] => false
def idA (l : List Alt) : List Alt := l
def tg (l : List Alt) : Bool := !l.isEmpty && BP l
def gr (a b : Stg) : Int := eQ (oS a.1.1 b.1.1) (eQ (oS a.1.2.1 b.1.2.1) (oS a.2.1 b.2.1))
def Zy (_ : Stg) : Bool := true
def wP (c : Cel) : Bool := decide (c.2.1 = 2) && !decide (c.2.2.1.2.2.2.1 = 0) && decide (c.2.2.1.1 ≥ 1) && decide (c.2.2.1.1 ≤ 3)
def U6 (c : Cel) : Stg := ((c.2.2.1.2.2.2.1, c.2.2.1.1, ()), c.1, ())
def pb (m : Mdl) : List Stg := (m.1.filter wP).map U6
def eN (m : Mdl) : List Stg := fu gr (pb m)
def qf : Nat → List Stg → List Reg
 | 0, _ => []
 | _ + 1, [] => []
 | n + 1, x :: r => (if (r.takeWhile (fun y => eqD aT y.1 x.1)).isEmpty then [] else [(2, x.1.1, x.1.2.1, [], x.2.1 :: (r.takeWhile (fun y => eqD aT y.1 x.1)).map (·.2.1), ())]) ++ qf n (r.dropWhile (fun y => eqD aT y.1 x.1))
def gy (s : Sta) : List Reg := (s.1.filter (fun x => dc x.2.2.1)).map (fun x => (1, x.1, x.2.1, x.2.2.1, [], ()))
def hZ (s : Sta) : List Reg := gy s ++ qf (eN (aI s)).length (eN (aI s))
def AX (s : Sta) : Bool := stG s
end Go.Proofs.YtboikinjlmjgjaaGreat.Abs
namespace Go.Proofs.YtboikinjlmjgjaaGreat.Abs
open Go
def cZ : TabL := {
 ty := [(3, aa), (4, .bool), (9, .str), (23, (.slice aa)), (24, (.slice ac)), (35, (.slice ar)), (37, (.slice aj)), (39, ao), (41, (.slice aR)), (43, ar), (48, aw), (51, aF), (53, aR), (75, aj), (78, (.slice aq)), (81, aT), (83, aq), (86, ac)],
 cells := [(3, 1), (4, 1), (9, 1), (23, 1), (24, 1), (35, 1), (37, 1), (39, 1), (41, 1), (43, 5), (48, 1), (51, 4), (53, 5), (72, 1), (75, 3), (78, 1), (81, 2), (83, 3), (86, 6), (133, 1)],
 offs := [((39, 0), 0), ((43, 0), 0), ((43, 1), 1), ((43, 2), 2), ((43, 3), 3), ((43, 4), 4), ((48, 0), 0), ((51, 0), 0), ((51, 1), 1), ((51, 2), 2), ((51, 3), 3), ((53, 0), 0), ((53, 1), 1), ((75, 0), 0), ((75, 1), 1), ((75, 2), 2), ((81, 0), 0), ((81, 1), 1), ((83, 0), 0), ((83, 1), 2), ((86, 0), 0), ((86, 1), 1), ((86, 2), 2)],
 one := [(43, 5)],
 elem := [(23, 3), (24, 86), (35, 43), (37, 75), (41, 53), (78, 83)] }
theorem bV : TabOk Tryz.prog cZ.tab := TabL.ok (by kernel_rfl)
def l6 (x : Int) : Bool := (!decide (x = x))
def y9 : List (Nat × Ent) := []
def aaQ : Par := ⟨cZ.tab, (av y9), (fun _ => ak []), (fun _ => ak [])⟩
noncomputable def aaP : Code := (Tryz.f80.body).getD .skip
noncomputable def Q5 : Fi := ⟨aaQ, 6, [.tmp 2], aaP⟩
def aj7 : KT := aB cZ.tab [.tmp 2] [.bool]
noncomputable def Fo (fuel : Nat) (x : Int) : Option AV := f0 fi0 hs0 0 Q5 [.bool] fuel [.val aa x]
theorem V6 (fuel : Nat) (x : Int) : Fo fuel x = some (.val .bool (!decide (x = x))) := by kernel_rfl
theorem V5 : aU Tryz.prog y9 → FiOk Tryz.prog 80 (Q5) := fun h => ⟨⟨Tryz.f80, Tryz.func80, rfl, by kernel_rfl, by kernel_rfl, by kernel_rfl⟩, bV, ah h⟩
def y8 : Ent := sp1 aa (fun _ => true) (fun x0 => .val .bool (l6 x0))
theorem Tp (hT : aU Tryz.prog y9) (h : ∀ (x0 : Int), ∃ fuel, Fo fuel x0 = some (.val .bool (l6 x0))) : ap Tryz.prog 80 y8 := gc fun x0 _ => (let ⟨_, hf⟩ := h x0; aO follows (fun _ _ h => by cases h) bA (V5 hT) (ds := [⟨_, x0⟩]) hf)
theorem Tq (hT : aU Tryz.prog y9) : ap Tryz.prog 80 y8 := Tp hT (fun x => ⟨0, by rw [V6]; first | rfl | (simp only [cN]; rfl)⟩)
def ct (x : Int) (y : Int) : Int := (bif (l6 x) then (bif (l6 y) then (0 : Int) else (-1 : Int)) else (bif (l6 y) then (1 : Int) else (bif (decide (x < y)) then (-1 : Int) else (bif (decide (x > y)) then (1 : Int) else (0 : Int)))))
def Jl : List (Nat × Ent) := [(80, y8)]
def ahu : Par := ⟨cZ.tab, (av Jl), (fun _ => ak []), (fun _ => ak [])⟩
noncomputable def aht : Code := (Tryz.f35.body).getD .skip
noncomputable def Zj : Fi := ⟨ahu, 20, [.tmp 4], aht⟩
def al8 : KT := aB cZ.tab [.tmp 4] [aa]
noncomputable def ME (fuel : Nat) (x : Int) (y : Int) : Option AV := f0 fi0 hs0 0 Zj [aa] fuel [.val aa x, .val aa y]
theorem acY (fuel : Nat) (x : Int) (y : Int) : ME fuel x y = (bif (l6 x) then (bif (l6 y) then some (.val aa (0 : Int)) else some (.val aa (-1 : Int))) else (bif (l6 y) then some (.val aa (1 : Int)) else (bif (decide (x < y)) then some (.val aa (-1 : Int)) else (bif (decide (x > y)) then some (.val aa (1 : Int)) else some (.val aa (0 : Int)))))) := by kernel_rfl
theorem acX : aU Tryz.prog Jl → FiOk Tryz.prog 35 (Zj) := fun h => ⟨⟨Tryz.f35, Tryz.func35, rfl, by kernel_rfl, by kernel_rfl, by kernel_rfl⟩, bV, ah h⟩
def Dg : Ent := sp2 aa aa (fun _ _ => true) (fun x0 x1 => .val aa (ct x0 x1))
theorem Zh (hT : aU Tryz.prog Jl) (h : ∀ (x0 : Int) (x1 : Int), ∃ fuel, ME fuel x0 x1 = some (.val aa (ct x0 x1))) : ap Tryz.prog 35 Dg := Nl fun x0 x1 _ => (let ⟨_, hf⟩ := h x0 x1; aO follows (fun _ _ h => by cases h) bA (acX hT) (ds := [⟨_, x0⟩, ⟨_, x1⟩]) hf)
theorem Zi (hT : aU Tryz.prog Jl) : ap Tryz.prog 35 Dg := Zh hT (fun x y => ⟨0, by rw [acY]; first | rfl | (simp only [cN]; rfl)⟩)
def QI : MS := ⟨0, [], [(3, .dat aa), (6, .dat (.slice aa)), (7, .dat aa), (8, .dat aa)]⟩
def VH : List (Nat × Ent) := []
def VI : Par := ⟨cZ.tab, (av VH), (fun _ => ak []), (fun _ => ak [(3, QI)])⟩
noncomputable def VG : Code := (Tryz.f34.body).getD .skip
noncomputable def adx : Fi := ⟨VI, 18, [.tmp 2], VG⟩
noncomputable def aeq : Code := sub VG [1, 1, 0, 1, 0, 0]
noncomputable def aep : Code := sub VG [1, 1, 1]
def ah7 : KT := aB cZ.tab [.tmp 2] [aa]
noncomputable def Bn (fuel : Nat) (n : Nat) (vals : (List Int)) (t8 : Int) : Option AV := aD 0 QI (fun σ k => be (aH fi0 hs0 fuel 0) VI 0 fuel aeq σ k) (ai 0 (ax 0 none (fun σ k => be (aH fi0 hs0 fuel 0) VI 0 fuel aep σ k) ah7)) n ⟨mkE 18 [(3, .val aa (0 : Int)), (6, .val (.slice aa) vals), (7, .val aa (vals.length : Int)), (8, .val aa t8)], mkH 0 []⟩
noncomputable def G8 (fuel : Nat) (vals : (List Int)) : Option AV := f0 fi0 hs0 0 adx [aa] fuel [.val (.slice aa) vals]
theorem E3 (fuel n3 : Nat) (vals : (List Int)) (t8 : Int) : Bn fuel (n3 + 1) vals t8 = (bif (decide (t8 < (vals.length : Int))) then (bif (decide (0 ≤ t8) && decide (t8 < (vals.length : Int))) then (bif (!decide ((ix aa vals t8) = 0)) then some (.val aa (ix aa vals t8)) else (Bn fuel n3 vals (w64 (t8 + 1)))) else none) else some (.val aa (0 : Int))) := by kernel_rfl
theorem ah6 (fuel : Nat) (vals : (List Int)) (t8 : Int) : Bn fuel 0 vals t8 = none := rfl
theorem aeo (fuel : Nat) (vals : (List Int)) : G8 fuel vals = (Bn fuel fuel vals 0) := by kernel_rfl
theorem aen : aU Tryz.prog VH → FiOk Tryz.prog 34 (adx) := fun h => ⟨⟨Tryz.f34, Tryz.func34, rfl, by kernel_rfl, by kernel_rfl, by kernel_rfl⟩, bV, ah h⟩
def QJ : Ent := sp1 (.slice aa) (fun x0 => Ox x0) (fun x0 => .val aa (orF x0))
theorem aav (hT : aU Tryz.prog VH) (h : ∀ (x0 : (List Int)), Ox x0 = true → ∃ fuel, G8 fuel x0 = some (.val aa (orF x0))) : ap Tryz.prog 34 QJ := gc fun x0 hg => (let ⟨_, hf⟩ := h x0 hg; aO follows (fun _ _ h => by cases h) bA (aen hT) (ds := [⟨_, x0⟩]) hf)
def qm (id : Int) (field : Int) (id2 : Int) (field2 : Int) : Bool := (bif (decide (id < id2)) then true else (bif (decide (id = id2)) then (decide (field < field2)) else false))
def zN : List (Nat × Ent) := []
def adj : Par := ⟨cZ.tab, (av zN), (fun _ => ak []), (fun _ => ak [])⟩
noncomputable def adi : Code := (Tryz.f85.body).getD .skip
noncomputable def RR : Fi := ⟨adj, 22, [.tmp 8], adi⟩
def akf : KT := aB cZ.tab [.tmp 8] [.bool]
noncomputable def xq (fuel : Nat) (id : Int) (field : Int) (id2 : Int) (field2 : Int) : Option AV := f0 fi0 hs0 0 RR [.bool] fuel [.val aa id, .val aa field, .val aa id2, .val aa field2]
theorem Uz (fuel : Nat) (id : Int) (field : Int) (id2 : Int) (field2 : Int) : xq fuel id field id2 field2 = (bif (((aM (!(decide (id < id2))) (!(decide (id < id2)))) && ((aM (!(decide (id < id2))) (!(decide (id < id2)))) && true)) && true) then (bif (((aM (!(decide (id < id2))) (!(decide (id < id2)))) && true) && true) then (bif (((aM ((!(decide (id < id2))) && (decide (id = id2))) ((!(decide (id < id2))) && (decide (id = id2)))) && ((aM ((!(decide (id < id2))) && (decide (id = id2))) ((!(decide (id < id2))) && (decide (id = id2)))) && true)) && true) then (bif ((aM (!(decide (id < id2))) (!(decide (id < id2)))) && (aM (!(decide (id < id2))) ((aM ((!(decide (id < id2))) && (decide (id = id2))) ((!(decide (id < id2))) && (decide (id = id2)))) && true))) then (bif (aM (!(decide (id < id2))) (!(decide (id < id2)))) then some (.val .bool (bif (decide (id < id2)) then true else (bif (decide (id = id2)) then (decide (field < field2)) else false))) else none) else none) else none) else none) else none) := by kernel_rfl
theorem ZK (fuel : Nat) (id : Int) (field : Int) (id2 : Int) (field2 : Int) : xq fuel id field id2 field2 = some (.val .bool (bif (decide (id < id2)) then true else (bif (decide (id = id2)) then (decide (field < field2)) else false))) := by simpa only [aP, bo, Bool.and_true, Bool.true_and, cond_true, cond_false, decide_true, decide_false, Bool.not_false, Bool.not_true, Int.reduceLE, Int.reduceEq, Int.reduceLT, Nat.zero_add] using Uz fuel id field id2 field2
theorem ZJ : aU Tryz.prog zN → FiOk Tryz.prog 85 (RR) := fun h => ⟨⟨Tryz.f85, Tryz.func85, rfl, by kernel_rfl, by kernel_rfl, by kernel_rfl⟩, bV, ah h⟩
def rG : Ent := sp4 aa aa aa aa (fun _ _ _ _ => true) (fun x0 x1 x2 x3 => .val .bool (qm x0 x1 x2 x3))
theorem UA (hT : aU Tryz.prog zN) (h : ∀ (x0 : Int) (x1 : Int) (x2 : Int) (x3 : Int), ∃ fuel, xq fuel x0 x1 x2 x3 = some (.val .bool (qm x0 x1 x2 x3))) : ap Tryz.prog 85 rG := Nk fun x0 x1 x2 x3 _ => (let ⟨_, hf⟩ := h x0 x1 x2 x3; aO follows (fun _ _ h => by cases h) bA (ZJ hT) (ds := [⟨_, x0⟩, ⟨_, x1⟩, ⟨_, x2⟩, ⟨_, x3⟩]) hf)
theorem UB (hT : aU Tryz.prog zN) : ap Tryz.prog 85 rG := UA hT (fun id field id2 field2 => ⟨0, by rw [ZK]; first | rfl | (simp only [cN]; rfl)⟩)
def EM : MS := ⟨0, [], [(0, .dat (.slice ac)), (1, .dat (.slice ac)), (5, .dat aa)]⟩
def GF : List (Nat × Ent) := []
def GG : Par := ⟨cZ.tab, (av GF), (fun _ => ak []), (fun _ => ak [(4, EM)])⟩
noncomputable def GE : Code := (Tryz.f15.body).getD .skip
noncomputable def QA : Fi := ⟨GG, 26, [.tmp 4], GE⟩
noncomputable def Vp : Code := sub GE [1, 1, 0, 1, 0, 0]
noncomputable def Vo : Code := sub GE [1, 1, 1]
def Z9 : KT := aB cZ.tab [.tmp 4] [.bool]
noncomputable def pg (fuel : Nat) (n : Nat) (a : (List ac.den)) (b : (List ac.den)) (i : Int) : Option AV := aD 0 EM (fun σ k => be (aH fi0 hs0 fuel 0) GG 0 fuel Vp σ k) (ai 0 (ax 0 none (fun σ k => be (aH fi0 hs0 fuel 0) GG 0 fuel Vo σ k) Z9)) n ⟨mkE 26 [(0, .val (.slice ac) a), (1, .val (.slice ac) b), (5, .val aa i)], mkH 0 []⟩
noncomputable def wo (fuel : Nat) (a : (List ac.den)) (b : (List ac.den)) : Option AV := f0 fi0 hs0 0 QA [.bool] fuel [.val (.slice ac) a, .val (.slice ac) b]
theorem xL (fuel n4 : Nat) (a : (List ac.den)) (b : (List ac.den)) (i : Int) : pg fuel (n4 + 1) a b i = (bif (decide (i < (a.length : Int))) then (bif (decide (0 ≤ i) && decide (i < (a.length : Int))) then (bif (decide (0 ≤ i) && decide (i < (b.length : Int))) then (bif (!eqD ac (ix ac a i) (ix ac b i)) then some (.val .bool false) else (pg fuel n4 a b (w64 (i + 1)))) else none) else none) else some (.val .bool true)) := by kernel_rfl
theorem aed (fuel : Nat) (a : (List ac.den)) (b : (List ac.den)) (i : Int) : pg fuel 0 a b i = none := rfl
theorem Vn (fuel : Nat) (a : (List ac.den)) (b : (List ac.den)) : wo fuel a b = (bif (!decide ((a.length : Int) = (b.length : Int))) then some (.val .bool false) else (pg fuel fuel a b 0)) := by kernel_rfl
theorem Vm : aU Tryz.prog GF → FiOk Tryz.prog 15 (QA) := fun h => ⟨⟨Tryz.f15, Tryz.func15, rfl, by kernel_rfl, by kernel_rfl, by kernel_rfl⟩, bV, ah h⟩
def GD : Ent := sp2 (.slice ac) (.slice ac) (fun x0 x1 => Nb x0 x1) (fun x0 x1 => .val .bool (ph x0 x1))
theorem Sy (hT : aU Tryz.prog GF) (h : ∀ (x0 : (List ac.den)) (x1 : (List ac.den)), Nb x0 x1 = true → ∃ fuel, wo fuel x0 x1 = some (.val .bool (ph x0 x1))) : ap Tryz.prog 15 GD := Nl fun x0 x1 hg => (let ⟨_, hf⟩ := h x0 x1 hg; aO follows (fun _ _ h => by cases h) bA (Vm hT) (ds := [⟨_, x0⟩, ⟨_, x1⟩]) hf)
def BI : List (Nat × Ent) := []
def uN : Par := ⟨cZ.tab, (av BI), (fun _ => ak []), (fun _ => ak [])⟩
noncomputable def uM : Code := (Tryz.f14.body).getD .skip
noncomputable def Lv : Fi := ⟨uN, 36, [.cell 2 48], uM⟩
noncomputable def Tb : Code := sub uM [1, 1, 0, 1, 0, 1]
noncomputable def Ta : Code := sub uM [1, 1, 0, 1, 0, 0]
noncomputable def S9 : Code := sub uM [1, 1, 1]
def i3 : List (Nat × Ent) := []
def Hm : Par := ⟨cZ.tab, (av i3), (fun _ => ak []), (fun _ => ak [])⟩
noncomputable def Hl : Code := (Tryz.f29.body).getD .skip
noncomputable def uL : Fi := ⟨Hm, 4, [.tmp 2], Hl⟩
def pD : MS := ⟨10, [(0, [.dat (.slice aj)]), (1, [.own ac 86]), (2, [.own ac 86]), (5, [.dat (.slice aj)])], [(0, .keep), (6, .dat (.slice aj)), (7, .dat aa), (8, .dat aa)]⟩
def i0 : List (Nat × Ent) := []
def uJ : Par := ⟨cZ.tab, (av i0), (fun _ => ak []), (fun _ => ak [(1, pD)])⟩
noncomputable def uI : Code := (Tryz.f76.body).getD .skip
noncomputable def uK : Fi := ⟨uJ, 17, [], uI⟩
noncomputable def DP : Code := sub uI [1, 0, 0]
def VU : KT := aB cZ.tab [.cell 2 48] [aw]
noncomputable def gj : FuncId → Option Fi := ak [(29, uL), (76, uK)]
noncomputable def bS (fuel : Nat) (n : Nat) (s : ao.den) (t8 : Int) (b0_0 : (List aj.den)) (b1_0 : (List ac.den)) (b2_0 : (List ac.den)) (b5_0 : (List aj.den)) : Option AV := aD 10 pD (fun σ k => be (ac1 (Ff gj hs0 fuel 0) (AD 9 (aH gj hs0 fuel 1).call (mkE 36 [(0, .val ao s), (1, .box 0 0), (2, .box 1 0), (3, .box 2 0), (5, .val ao s), (6, .fn 76 (bh [.box 5 0]))]) [7] (fun lo σ k => be (aH gj hs0 fuel 1) uN lo fuel Tb σ (uT (fun σ k => be (aH gj hs0 fuel 1) uN lo fuel Ta σ k) k)))) uJ 10 fuel DP σ k) (ai 0 (Vr cZ.tab [] (V3 (mkE 36 [(0, .val ao s), (1, .box 0 0), (2, .box 1 0), (3, .box 2 0), (5, .val ao s), (6, .fn 76 (bh [.box 5 0]))]) (ai 0 (ax 0 none (fun σ k => be (aH gj hs0 fuel 1) uN 0 fuel S9 σ k) VU))))) n ⟨mkE 17 [(0, .yld 9), (6, .val (.slice aj) s.1), (7, .val aa (s.1.length : Int)), (8, .val aa t8)], mkH 12 [(0, .box [.val (.slice aj) b0_0]), (1, .box [.own 10 0 ac b1_0]), (2, .box [.own 11 0 ac b2_0]), (5, .box [.val (.slice aj) b5_0]), (9, .dead), (10, .row ac 86 0), (11, .row ac 86 0)]⟩
noncomputable def sL (fuel : Nat) (s : ao.den) : Option AV := f0 gj hs0 1 Lv [aw] fuel [.val ao s]
theorem uH (fuel n76_1 : Nat) (s : ao.den) (t8 : Int) (b0_0 : (List aj.den)) (b1_0 : (List ac.den)) (b2_0 : (List ac.den)) (b5_0 : (List aj.den)) : bS fuel (n76_1 + 1) s t8 b0_0 b1_0 b2_0 b5_0 = (bif (decide (t8 < (s.1.length : Int))) then (bif (decide (0 ≤ t8) && decide (t8 < (s.1.length : Int))) then (bif (((aM (decide ((((ix aj s.1 t8).2.2.1).length : Int) > 0)) (decide ((((ix aj s.1 t8).2.2.1).length : Int) > 0))) && true) && true) then (bif (((aM (decide ((((ix aj s.1 t8).2.2.1).length : Int) > 0)) (decide ((((ix aj s.1 t8).2.2.1).length : Int) > 0))) && true) && (aM (decide ((((ix aj s.1 t8).2.2.1).length : Int) > 0)) (decide (0 ≤ (0 : Int)) && decide (0 < (((ix aj s.1 t8).2.2.1).length : Int))))) then (bif (((aM (decide ((((ix aj s.1 t8).2.2.1).length : Int) > 0)) (decide ((((ix aj s.1 t8).2.2.1).length : Int) > 0))) && true) && true) then (bif (((aM (decide ((((ix aj s.1 t8).2.2.1).length : Int) > 0)) (decide ((((ix aj s.1 t8).2.2.1).length : Int) > 0))) && true) && true) then (bif (((aM (decide ((((ix aj s.1 t8).2.2.1).length : Int) > 0)) (decide ((((ix aj s.1 t8).2.2.1).length : Int) > 0))) && ((aM (decide ((((ix aj s.1 t8).2.2.1).length : Int) > 0)) (decide ((((ix aj s.1 t8).2.2.1).length : Int) > 0))) && true)) && true) then (bif ((aM (decide ((((ix aj s.1 t8).2.2.1).length : Int) > 0)) (decide ((((ix aj s.1 t8).2.2.1).length : Int) > 0))) && true) then (bif (bif (decide ((((ix aj s.1 t8).2.2.1).length : Int) > 0)) then (!eqD aF (ix aR (ix aj s.1 t8).2.2.1 0).2.1 (0, false, [], 0, ())) else false) then (bif (decide (0 ≤ (0 : Int)) && decide (0 < (((ix aj s.1 t8).2.2.1).length : Int))) then (bif (decide (List.length b2_0 + List.length ([((ix aj s.1 t8).1, (ix aj s.1 t8).2.1, (ix aR (ix aj s.1 t8).2.2.1 0).2.1, ())] : List ac.den) ≤ LIM)) then (bS fuel n76_1 s (w64 (t8 + 1)) b0_0 b1_0 (b2_0 ++ [((ix aj s.1 t8).1, (ix aj s.1 t8).2.1, (ix aR (ix aj s.1 t8).2.2.1 0).2.1, ())]) b5_0) else none) else none) else (bS fuel n76_1 s (w64 (t8 + 1)) b0_0 b1_0 b2_0 b5_0)) else none) else none) else none) else none) else none) else none) else none) else some (.val aw (b2_0, ()))) := by kernel_rfl
theorem mV (fuel n76_1 : Nat) (s : ao.den) (t8 : Int) (b0_0 : (List aj.den)) (b1_0 : (List ac.den)) (b2_0 : (List ac.den)) (b5_0 : (List aj.den)) : bS fuel (n76_1 + 1) s t8 b0_0 b1_0 b2_0 b5_0 = (bif (decide (t8 < (s.1.length : Int))) then (bif (decide (0 ≤ t8) && decide (t8 < (s.1.length : Int))) then (bif (aM (decide ((((ix aj s.1 t8).2.2.1).length : Int) > 0)) (decide (0 ≤ (0 : Int)) && decide (0 < (((ix aj s.1 t8).2.2.1).length : Int)))) then (bif (bif (decide ((((ix aj s.1 t8).2.2.1).length : Int) > 0)) then (!eqD aF (ix aR (ix aj s.1 t8).2.2.1 0).2.1 (0, false, [], 0, ())) else false) then (bif (decide (0 ≤ (0 : Int)) && decide (0 < (((ix aj s.1 t8).2.2.1).length : Int))) then (bif (decide (List.length b2_0 + List.length ([((ix aj s.1 t8).1, (ix aj s.1 t8).2.1, (ix aR (ix aj s.1 t8).2.2.1 0).2.1, ())] : List ac.den) ≤ LIM)) then (bS fuel n76_1 s (w64 (t8 + 1)) b0_0 b1_0 (b2_0 ++ [((ix aj s.1 t8).1, (ix aj s.1 t8).2.1, (ix aR (ix aj s.1 t8).2.2.1 0).2.1, ())]) b5_0) else none) else none) else (bS fuel n76_1 s (w64 (t8 + 1)) b0_0 b1_0 b2_0 b5_0)) else none) else none) else some (.val aw (b2_0, ()))) := by simpa only [aP, bo, Bool.and_true, Bool.true_and, cond_true, cond_false, decide_true, decide_false, Bool.not_false, Bool.not_true, Int.reduceLE, Int.reduceEq, Int.reduceLT, Nat.zero_add] using uH fuel n76_1 s t8 b0_0 b1_0 b2_0 b5_0
theorem UF (fuel : Nat) (s : ao.den) (t8 : Int) (b0_0 : (List aj.den)) (b1_0 : (List ac.den)) (b2_0 : (List ac.den)) (b5_0 : (List aj.den)) : bS fuel 0 s t8 b0_0 b1_0 b2_0 b5_0 = none := rfl
theorem S8 (fuel : Nat) (s : ao.den) : sL fuel s = (bS fuel fuel s 0 (s.1) [] [] (s.1)) := by kernel_rfl
theorem S7 : aU Tryz.prog BI → FiOk Tryz.prog 14 (Lv) := fun h => ⟨⟨Tryz.f14, Tryz.func14, rfl, by kernel_rfl, by kernel_rfl, by kernel_rfl⟩, bV, ah h⟩
theorem DQ : aU Tryz.prog i3 → FiOk Tryz.prog 29 (uL) := fun h => ⟨⟨Tryz.f29, Tryz.func29, rfl, by kernel_rfl, by kernel_rfl, by kernel_rfl⟩, bV, ah h⟩
theorem DO : aU Tryz.prog i0 → FiOk Tryz.prog 76 (uK) := fun h => ⟨⟨Tryz.f76, Tryz.func76, rfl, by kernel_rfl, by kernel_rfl, by kernel_rfl⟩, bV, ah h⟩
theorem Lu (h0 : aU Tryz.prog i3) (h1 : aU Tryz.prog i0) : ∀ f x, gj f = some x → FiOk Tryz.prog f x := fun f x h => by
 have hm := fM h
 simp only [List.mem_cons, List.not_mem_nil, or_false, Prod.mk.injEq] at hm
 rcases hm with ⟨rfl, rfl⟩ | ⟨rfl, rfl⟩
 ·exact DQ h0
 ·exact DO h1
def pE : Ent := sp1 ao (fun x0 => stG x0) (fun x0 => .val aw (aI x0))
theorem Oq (hT : aU Tryz.prog BI) (h0 : aU Tryz.prog i3) (h1 : aU Tryz.prog i0) (h : ∀ (x0 : ao.den), stG x0 = true → ∃ fuel, sL fuel x0 = some (.val aw (aI x0))) : ap Tryz.prog 14 pE := gc fun x0 hg => (let ⟨_, hf⟩ := h x0 hg; aO follows (Lu h0 h1) bA (S7 hT) (ds := [⟨_, x0⟩]) hf)
def om : MS := ⟨3, [(0, [.dat (.slice aj)]), (1, [.own ac 86]), (2, [.own ac 86])], [(1, .keep), (2, .keep), (3, .keep), (4, .dat aa)]⟩
def On : MS := ⟨3, [(0, [.dat (.slice aj)]), (1, [.own ac 86]), (2, [.own ac 86])], [(1, .keep), (2, .keep), (3, .keep), (4, .dat aa)]⟩
def BF : List (Nat × Ent) := []
def j6 : Par := ⟨cZ.tab, (av BF), (fun _ => ak [(4, On)]), (fun _ => ak [(3, om)])⟩
noncomputable def uG : Code := (Tryz.f61.body).getD .skip
noncomputable def Ls : Fi := ⟨j6, 41, [.cell 2 48], uG⟩
noncomputable def Fe : Code := sub uG [1, 1, 0, 1, 0, 0]
noncomputable def wJ : Code := sub uG [1, 1, 1]
noncomputable def S6 : Code := sub uG [1, 1, 0, 1, 0, 0, 1, 1]
def BG : KT := aB cZ.tab [.cell 2 48] [aw]
noncomputable def mU (fuel : Nat) (n : Nat) (s : ao.den) (i : Int) (b2_0 : (List ac.den)) : Option AV := aD 0 om (fun σ k => be (aH fi0 hs0 fuel 0) j6 0 fuel Fe σ k) (ai 0 (ax 0 none (fun σ k => be (aH fi0 hs0 fuel 0) j6 0 fuel wJ σ k) BG)) n ⟨mkE 41 [(1, .box 0 0), (2, .box 1 0), (3, .box 2 0), (4, .val aa i)], mkH 5 [(0, .box [.val (.slice aj) s.1]), (1, .box [.own 3 0 ac []]), (2, .box [.own 4 0 ac b2_0]), (3, .row ac 86 0), (4, .row ac 86 0)]⟩
noncomputable def wI (fuel n3 : Nat) (i : Int) (s : ao.den) (b2_0 : (List ac.den)) : Option AV := be (aH fi0 hs0 fuel 0) j6 0 fuel S6 ⟨mkE 41 [(1, .box 0 0), (2, .box 1 0), (3, .box 2 0), (4, .val aa i)], mkH 5 [(0, .box [.val (.slice aj) s.1]), (1, .box [.own 3 0 ac []]), (2, .box [.own 4 0 ac b2_0]), (3, .row ac 86 0), (4, .row ac 86 0)]⟩ (se 0 om (aD 0 om (fun σ k => be (aH fi0 hs0 fuel 0) j6 0 fuel Fe σ k) (ai 0 (ax 0 none (fun σ k => be (aH fi0 hs0 fuel 0) j6 0 fuel wJ σ k) BG)) n3) (ai 0 (ax 0 none (fun σ k => be (aH fi0 hs0 fuel 0) j6 0 fuel wJ σ k) BG)))
noncomputable def sK (fuel : Nat) (s : ao.den) : Option AV := f0 fi0 hs0 0 Ls [aw] fuel [.val ao s]
theorem uE (fuel n3 : Nat) (s : ao.den) (i : Int) (b2_0 : (List ac.den)) : mU fuel (n3 + 1) s i b2_0 = (bif (decide (i < (s.1.length : Int))) then (bif (decide (0 ≤ i) && decide (i < (s.1.length : Int))) then (bif (decide (0 ≤ (0 : Int)) && decide (0 < (((ix aj s.1 i).2.2.1).length : Int))) then (bif (!eqD aF (ix aR (ix aj s.1 i).2.2.1 0).2.1 (0, false, [], 0, ())) then (bif (decide (0 ≤ (0 : Int)) && decide (0 < (((ix aj s.1 i).2.2.1).length : Int))) then (bif (decide (List.length b2_0 + List.length ([((ix aj s.1 i).1, (ix aj s.1 i).2.1, (ix aR (ix aj s.1 i).2.2.1 0).2.1, ())] : List ac.den) ≤ LIM)) then (wI fuel n3 i s (b2_0 ++ [((ix aj s.1 i).1, (ix aj s.1 i).2.1, (ix aR (ix aj s.1 i).2.2.1 0).2.1, ())])) else none) else none) else (wI fuel n3 i s b2_0)) else none) else none) else some (.val aw (b2_0, ()))) := by kernel_rfl
theorem adB (fuel : Nat) (s : ao.den) (i : Int) (b2_0 : (List ac.den)) : mU fuel 0 s i b2_0 = none := rfl
theorem uF (fuel n3 : Nat) (i : Int) (s : ao.den) (b2_0 : (List ac.den)) : wI fuel n3 i s b2_0 = (mU fuel n3 s (w64 (i + 1)) b2_0) := by kernel_rfl
theorem S5 (fuel : Nat) (s : ao.den) : sK fuel s = (mU fuel fuel s 0 []) := by kernel_rfl
theorem S4 : aU Tryz.prog BF → FiOk Tryz.prog 61 (Ls) := fun h => ⟨⟨Tryz.f61, Tryz.func61, rfl, by kernel_rfl, by kernel_rfl, by kernel_rfl⟩, bV, ah h⟩
def BE : Ent := sp1 ao (fun x0 => stG x0) (fun x0 => .val aw (aI x0))
theorem Oo (hT : aU Tryz.prog BF) (h : ∀ (x0 : ao.den), stG x0 = true → ∃ fuel, sK fuel x0 = some (.val aw (aI x0))) : ap Tryz.prog 61 BE := gc fun x0 hg => (let ⟨_, hf⟩ := h x0 hg; aO follows (fun _ _ h => by cases h) bA (S4 hT) (ds := [⟨_, x0⟩]) hf)
def je : MS := ⟨3, [(0, [.drop]), (1, [.dat aa, .dat .bool, .dat .str, .dat aa]), (2, [.own ac 86])], [(1, .dat aa), (2, .dat aa), (7, .keep), (8, .keep), (9, .mut ac 86), (10, .dat .bool), (23, .dat (.slice ac)), (24, .dat aa), (25, .dat aa)]⟩
def M3 : MS := ⟨9, [(0, [.drop]), (1, [.dat aa, .dat .bool, .dat .str, .dat aa]), (2, [.own ac 86]), (8, [.dat aa, .dat aa, .dat aa, .dat .bool, .dat .str, .dat aa])], [(1, .dat aa), (2, .dat aa), (7, .keep), (8, .keep), (9, .mut ac 86), (10, .dat .bool), (12, .keep), (13, .dat aa), (23, .dat (.slice ac)), (24, .dat aa), (25, .dat aa)]⟩
def M2 : MS := ⟨3, [(0, [.drop]), (1, [.drop, .drop, .drop, .drop]), (2, [.dat (.slice ac)])], [(8, .keep), (9, .dat (.slice ac))]⟩
def zZ : MS := ⟨3, [(0, [.drop]), (1, [.dat aa, .dat .bool, .dat .str, .dat aa]), (2, [.own ac 86])], [(1, .dat aa), (2, .dat aa), (7, .keep), (8, .keep), (9, .mut ac 86), (10, .dat .bool), (23, .dat (.slice ac)), (24, .dat aa), (25, .dat aa)]⟩
def Gm : List (Nat × Ent) := [(35, Dg), (34, QJ)]
def dW : Par := ⟨cZ.tab, (av Gm), (fun _ => ak [(10, M3), (15, M2), (12, zZ)]), (fun _ => ak [(4, je)])⟩
noncomputable def qw : Code := (Tryz.f16.body).getD .skip
noncomputable def Qp : Fi := ⟨dW, 70, [.cell 8 48], qw⟩
noncomputable def z6 : Code := sub qw [1, 1, 1, 0, 1, 0, 0]
noncomputable def oW : Code := sub qw [1, 1, 1, 1]
noncomputable def UO : Code := sub qw [1, 1, 1, 0, 1, 0, 0, 1, 1, 0, 0, 1, 1, 1]
noncomputable def JQ : Code := sub qw [1, 1, 1, 0, 1, 0, 0, 1, 1, 1]
noncomputable def UN : Code := sub qw [1, 1, 1, 1, 1]
def qx : KT := aB cZ.tab [.cell 8 48] [aw]
noncomputable def mj (fuel : Nat) (n : Nat) (id : Int) (field : Int) (m : aw.den) (v : aF.den) (l_hi : Nat) (done : Bool) (t25 : Int) (l : (List ac.den)) : Option AV := aD 0 je (fun σ k => be (aH fi0 hs0 fuel 0) dW 0 fuel z6 σ k) (ai 0 (ax 0 none (fun σ k => be (aH fi0 hs0 fuel 0) dW 0 fuel oW σ k) qx)) n ⟨mkE 70 [(1, .val aa id), (2, .val aa field), (7, .box 1 0), (8, .box 2 0), (9, .msl 4 0 0 l_hi), (10, .val .bool done), (23, .val (.slice ac) m.1), (24, .val aa (m.1.length : Int)), (25, .val aa t25)], mkH 5 [(0, .box [.unk]), (1, .box [.val aa v.1, .val .bool v.2.1, .val .str v.2.2.1, .val aa v.2.2.2.1]), (2, .box [.own 3 0 ac []]), (3, .row ac 86 0), (4, .mrow ac 86 0 l)]⟩
noncomputable def jf (fuel n4 : Nat) (id : Int) (field : Int) (m : aw.den) (t25 : Int) (v : aF.den) (l_hi : Nat) (done : Bool) (l : (List ac.den)) : Option AV := be (aH fi0 hs0 fuel 0) dW 0 fuel UO ⟨mkE 70 [(1, .val aa id), (2, .val aa field), (7, .box 1 0), (8, .box 2 0), (9, .msl 10 0 0 l_hi), (10, .val .bool done), (12, .box 8 0), (13, .val aa (orF [(ct ((ix ac m.1 t25).1) id), (ct ((ix ac m.1 t25).2.1) field)])), (23, .val (.slice ac) m.1), (24, .val aa (m.1.length : Int)), (25, .val aa t25)], mkH 11 [(0, .box [.unk]), (1, .box [.val aa v.1, .val .bool v.2.1, .val .str v.2.2.1, .val aa v.2.2.2.1]), (2, .box [.own 9 0 ac []]), (3, .row ac 86 1), (4, .dead), (8, .box [.val aa (ix ac m.1 t25).1, .val aa (ix ac m.1 t25).2.1, .val aa (ix ac m.1 t25).2.2.1.1, .val .bool (ix ac m.1 t25).2.2.1.2.1, .val .str (ix ac m.1 t25).2.2.1.2.2.1, .val aa (ix ac m.1 t25).2.2.1.2.2.2.1]), (9, .row ac 86 0), (10, .mrow ac 86 0 l)]⟩ (ai 1 (ax 0 (some zZ) (fun σ k => be (aH fi0 hs0 fuel 0) dW 0 fuel JQ σ k) (se 0 je (aD 0 je (fun σ k => be (aH fi0 hs0 fuel 0) dW 0 fuel z6 σ k) (ai 0 (ax 0 none (fun σ k => be (aH fi0 hs0 fuel 0) dW 0 fuel oW σ k) qx)) n4) (ai 0 (ax 0 none (fun σ k => be (aH fi0 hs0 fuel 0) dW 0 fuel oW σ k) qx)))))
noncomputable def ml (fuel : Nat) (l : (List ac.den)) : Option AV := be (aH fi0 hs0 fuel 0) dW 0 fuel UN ⟨mkE 70 [(8, .box 2 0), (9, .val (.slice ac) l)], mkH 4 [(0, .box [.unk]), (1, .box [.unk, .unk, .unk, .unk]), (2, .box [.val (.slice ac) []]), (3, .dead)]⟩ qx
noncomputable def we (fuel n4 : Nat) (id : Int) (field : Int) (m : aw.den) (t25 : Int) (v : aF.den) (l_hi : Nat) (done : Bool) (l : (List ac.den)) : Option AV := be (aH fi0 hs0 fuel 0) dW 0 fuel JQ ⟨mkE 70 [(1, .val aa id), (2, .val aa field), (7, .box 1 0), (8, .box 2 0), (9, .msl 4 0 0 l_hi), (10, .val .bool done), (23, .val (.slice ac) m.1), (24, .val aa (m.1.length : Int)), (25, .val aa t25)], mkH 5 [(0, .box [.unk]), (1, .box [.val aa v.1, .val .bool v.2.1, .val .str v.2.2.1, .val aa v.2.2.2.1]), (2, .box [.own 3 0 ac []]), (3, .row ac 86 0), (4, .mrow ac 86 0 l)]⟩ (se 0 je (aD 0 je (fun σ k => be (aH fi0 hs0 fuel 0) dW 0 fuel z6 σ k) (ai 0 (ax 0 none (fun σ k => be (aH fi0 hs0 fuel 0) dW 0 fuel oW σ k) qx)) n4) (ai 0 (ax 0 none (fun σ k => be (aH fi0 hs0 fuel 0) dW 0 fuel oW σ k) qx)))
noncomputable def wc (fuel : Nat) (m : aw.den) (id : Int) (field : Int) (v : aF.den) : Option AV := f0 fi0 hs0 0 Qp [aw] fuel [.val aw m, .val aa id, .val aa field, .val aF v]
theorem Gj (fuel n4 : Nat) (id : Int) (field : Int) (m : aw.den) (v : aF.den) (l_hi : Nat) (done : Bool) (t25 : Int) (l : (List ac.den)) : mj fuel (n4 + 1) id field m v l_hi done t25 l = (bif (decide (t25 < (m.1.length : Int))) then (bif (decide (0 ≤ t25) && decide (t25 < (m.1.length : Int))) then (bif (Ox [(ct ((ix ac m.1 t25).1) id), (ct ((ix ac m.1 t25).2.1) field)]) then (bif (((aM (decide ((orF [(ct ((ix ac m.1 t25).1) id), (ct ((ix ac m.1 t25).2.1) field)]) ≥ 0)) (decide ((orF [(ct ((ix ac m.1 t25).1) id), (ct ((ix ac m.1 t25).2.1) field)]) ≥ 0))) && true) && true) then (bif ((aM (decide ((orF [(ct ((ix ac m.1 t25).1) id), (ct ((ix ac m.1 t25).2.1) field)]) ≥ 0)) (decide ((orF [(ct ((ix ac m.1 t25).1) id), (ct ((ix ac m.1 t25).2.1) field)]) ≥ 0))) && true) then (bif (bif (decide ((orF [(ct ((ix ac m.1 t25).1) id), (ct ((ix ac m.1 t25).2.1) field)]) ≥ 0)) then (!done) else false) then (bif (decide (l_hi + List.length ([(id, field, v, ())] : List ac.den) ≤ LIM)) then (jf fuel n4 id field m t25 v (l_hi + List.length ([(id, field, v, ())] : List ac.den)) true (List.take l_hi l ++ [(id, field, v, ())])) else none) else (jf fuel n4 id field m t25 v l_hi done l)) else none) else none) else none) else none) else (bif (!done) then (bif (decide (l_hi + List.length ([(id, field, v, ())] : List ac.den) ≤ LIM)) then (ml fuel ((List.take (l_hi + List.length ([(id, field, v, ())] : List ac.den)) (List.take l_hi l ++ [(id, field, v, ())])).drop 0)) else none) else (ml fuel ((List.take l_hi l).drop 0)))) := by kernel_rfl
theorem xw (fuel n4 : Nat) (id : Int) (field : Int) (m : aw.den) (v : aF.den) (l_hi : Nat) (done : Bool) (t25 : Int) (l : (List ac.den)) : mj fuel (n4 + 1) id field m v l_hi done t25 l = (bif (decide (t25 < (m.1.length : Int))) then (bif (decide (0 ≤ t25) && decide (t25 < (m.1.length : Int))) then (bif (Ox [(ct ((ix ac m.1 t25).1) id), (ct ((ix ac m.1 t25).2.1) field)]) then (bif (bif (decide ((orF [(ct ((ix ac m.1 t25).1) id), (ct ((ix ac m.1 t25).2.1) field)]) ≥ 0)) then (!done) else false) then (bif (decide (l_hi + List.length ([(id, field, v, ())] : List ac.den) ≤ LIM)) then (jf fuel n4 id field m t25 v (l_hi + List.length ([(id, field, v, ())] : List ac.den)) true (List.take l_hi l ++ [(id, field, v, ())])) else none) else (jf fuel n4 id field m t25 v l_hi done l)) else none) else none) else (bif (!done) then (bif (decide (l_hi + List.length ([(id, field, v, ())] : List ac.den) ≤ LIM)) then (ml fuel ((List.take (l_hi + List.length ([(id, field, v, ())] : List ac.den)) (List.take l_hi l ++ [(id, field, v, ())])).drop 0)) else none) else (ml fuel ((List.take l_hi l).drop 0)))) := by simpa only [aP, bo, Bool.and_true, Bool.true_and, cond_true, cond_false, decide_true, decide_false, Bool.not_false, Bool.not_true, Int.reduceLE, Int.reduceEq, Int.reduceLT, Nat.zero_add] using Gj fuel n4 id field m v l_hi done t25 l
theorem ad4 (fuel : Nat) (id : Int) (field : Int) (m : aw.den) (v : aF.den) (l_hi : Nat) (done : Bool) (t25 : Int) (l : (List ac.den)) : mj fuel 0 id field m v l_hi done t25 l = none := rfl
theorem Gk (fuel n4 : Nat) (id : Int) (field : Int) (m : aw.den) (t25 : Int) (v : aF.den) (l_hi : Nat) (done : Bool) (l : (List ac.den)) : jf fuel n4 id field m t25 v l_hi done l = (bif (!decide ((orF [(ct ((ix ac m.1 t25).1) id), (ct ((ix ac m.1 t25).2.1) field)]) = 0)) then (bif (decide (l_hi + List.length ([(ix ac m.1 t25)] : List ac.den) ≤ LIM)) then (we fuel n4 id field m t25 v (l_hi + List.length ([(ix ac m.1 t25)] : List ac.den)) done (List.take l_hi l ++ [(ix ac m.1 t25)])) else none) else (we fuel n4 id field m t25 v l_hi done l)) := by kernel_rfl
theorem tG (fuel : Nat) (l : (List ac.den)) : ml fuel l = some (.val aw (l, ())) := by kernel_rfl
theorem tH (fuel n4 : Nat) (id : Int) (field : Int) (m : aw.den) (t25 : Int) (v : aF.den) (l_hi : Nat) (done : Bool) (l : (List ac.den)) : we fuel n4 id field m t25 v l_hi done l = (mj fuel n4 id field m v l_hi done (w64 (t25 + 1)) l) := by kernel_rfl
theorem UM (fuel : Nat) (m : aw.den) (id : Int) (field : Int) (v : aF.den) : wc fuel m id field v = (bif (decide (0 ≤ (0 : Int)) && decide ((0 : Int) ≤ (w64 ((m.1.length : Int) + 1))) && decide ((w64 ((m.1.length : Int) + 1)) ≤ (LIM : Int))) then (mj fuel fuel id field m v (Int.toNat 0) (eqD aF v (0, false, [], 0, ())) 0 (List.replicate (Int.toNat 0) (zero ac))) else none) := by kernel_rfl
theorem UL : aU Tryz.prog Gm → FiOk Tryz.prog 16 (Qp) := fun h => ⟨⟨Tryz.f16, Tryz.func16, rfl, by kernel_rfl, by kernel_rfl, by kernel_rfl⟩, bV, ah h⟩
def Gl : Ent := sp4 aw aa aa aF (fun x0 x1 x2 x3 => JR x0 x1 x2 x3) (fun x0 x1 x2 x3 => .val aw (rO x0 x1 x2 x3))
theorem R2 (hT : aU Tryz.prog Gm) (h : ∀ (x0 : aw.den) (x1 : Int) (x2 : Int) (x3 : aF.den), JR x0 x1 x2 x3 = true → ∃ fuel, wc fuel x0 x1 x2 x3 = some (.val aw (rO x0 x1 x2 x3))) : ap Tryz.prog 16 Gl := Nk fun x0 x1 x2 x3 hg => (let ⟨_, hf⟩ := h x0 x1 x2 x3 hg; aO follows (fun _ _ h => by cases h) bA (UL hT) (ds := [⟨_, x0⟩, ⟨_, x1⟩, ⟨_, x2⟩, ⟨_, x3⟩]) hf)
def Bg : MS := ⟨1, [(0, [.dat (.slice aj)])], [(1, .dat aa), (2, .dat aa), (3, .keep), (7, .dat aa), (8, .dat aa)]⟩
def Bi : List (Nat × Ent) := [(85, rG)]
def Bj : Par := ⟨cZ.tab, (av Bi), (fun _ => ak []), (fun _ => ak [(2, Bg)])⟩
noncomputable def Bh : Code := (Tryz.f116.body).getD .skip
noncomputable def La : Fi := ⟨Bj, 39, [.tmp 6], Bh⟩
noncomputable def SL : Code := sub Bh [1, 1, 0, 0, 0]
noncomputable def SK : Code := sub Bh [1, 1, 1]
def VD : KT := aB cZ.tab [.tmp 6] [aa]
noncomputable def d4 (fuel : Nat) (n : Nat) (id : Int) (field : Int) (s : ao.den) (lo : Int) (hi : Int) : Option AV := aD 0 Bg (fun σ k => be (aH fi0 hs0 fuel 0) Bj 0 fuel SL σ k) (ai 0 (ax 0 none (fun σ k => be (aH fi0 hs0 fuel 0) Bj 0 fuel SK σ k) VD)) n ⟨mkE 39 [(1, .val aa id), (2, .val aa field), (3, .box 0 0), (7, .val aa lo), (8, .val aa hi)], mkH 1 [(0, .box [.val (.slice aj) s.1])]⟩
noncomputable def sJ (fuel : Nat) (s : ao.den) (id : Int) (field : Int) : Option AV := f0 fi0 hs0 0 La [aa] fuel [.val ao s, .val aa id, .val aa field]
theorem DI (fuel n2 : Nat) (id : Int) (field : Int) (s : ao.den) (lo : Int) (hi : Int) : d4 fuel (n2 + 1) id field s lo hi = (bif (decide (lo < hi)) then (bif (!decide ((2 : Int) = 0)) then (bif (decide (0 ≤ (w64 (Int.tdiv (w64 (lo + hi)) 2))) && decide ((w64 (Int.tdiv (w64 (lo + hi)) 2)) < (s.1.length : Int))) then (bif (decide (0 ≤ (w64 (Int.tdiv (w64 (lo + hi)) 2))) && decide ((w64 (Int.tdiv (w64 (lo + hi)) 2)) < (s.1.length : Int))) then (bif (qm ((ix aj s.1 (w64 (Int.tdiv (w64 (lo + hi)) 2))).1) ((ix aj s.1 (w64 (Int.tdiv (w64 (lo + hi)) 2))).2.1) id field) then (d4 fuel n2 id field s (w64 ((w64 (Int.tdiv (w64 (lo + hi)) 2)) + 1)) hi) else (d4 fuel n2 id field s lo (w64 (Int.tdiv (w64 (lo + hi)) 2)))) else none) else none) else none) else some (.val aa lo)) := by kernel_rfl
theorem G1 (fuel n2 : Nat) (id : Int) (field : Int) (s : ao.den) (lo : Int) (hi : Int) : d4 fuel (n2 + 1) id field s lo hi = (bif (decide (lo < hi)) then (bif (decide (0 ≤ (w64 (Int.tdiv (w64 (lo + hi)) 2))) && decide ((w64 (Int.tdiv (w64 (lo + hi)) 2)) < (s.1.length : Int))) then (bif (decide (0 ≤ (w64 (Int.tdiv (w64 (lo + hi)) 2))) && decide ((w64 (Int.tdiv (w64 (lo + hi)) 2)) < (s.1.length : Int))) then (bif (qm ((ix aj s.1 (w64 (Int.tdiv (w64 (lo + hi)) 2))).1) ((ix aj s.1 (w64 (Int.tdiv (w64 (lo + hi)) 2))).2.1) id field) then (d4 fuel n2 id field s (w64 ((w64 (Int.tdiv (w64 (lo + hi)) 2)) + 1)) hi) else (d4 fuel n2 id field s lo (w64 (Int.tdiv (w64 (lo + hi)) 2)))) else none) else none) else some (.val aa lo)) := by simpa only [aP, bo, Bool.and_true, Bool.true_and, cond_true, cond_false, decide_true, decide_false, Bool.not_false, Bool.not_true, Int.reduceLE, Int.reduceEq, Int.reduceLT, Nat.zero_add] using DI fuel n2 id field s lo hi
theorem adv (fuel : Nat) (id : Int) (field : Int) (s : ao.den) (lo : Int) (hi : Int) : d4 fuel 0 id field s lo hi = none := rfl
theorem SJ (fuel : Nat) (s : ao.den) (id : Int) (field : Int) : sJ fuel s id field = (d4 fuel fuel id field s 0 (s.1.length : Int)) := by kernel_rfl
theorem SI : aU Tryz.prog Bi → FiOk Tryz.prog 116 (La) := fun h => ⟨⟨Tryz.f116, Tryz.func116, rfl, by kernel_rfl, by kernel_rfl, by kernel_rfl⟩, bV, ah h⟩
def uu : Ent := sp3 ao aa aa (fun x0 x1 x2 => bX x0 x1 x2) (fun x0 x1 x2 => .val aa (am x0 x1 x2))
theorem N3 (hT : aU Tryz.prog Bi) (h : ∀ (x0 : ao.den) (x1 : Int) (x2 : Int), bX x0 x1 x2 = true → ∃ fuel, sJ fuel x0 x1 x2 = some (.val aa (am x0 x1 x2))) : ap Tryz.prog 116 uu := U7 fun x0 x1 x2 hg => (let ⟨_, hf⟩ := h x0 x1 x2 hg; aO follows (fun _ _ h => by cases h) bA (SI hT) (ds := [⟨_, x0⟩, ⟨_, x1⟩, ⟨_, x2⟩]) hf)
def Jx : List (Nat × Ent) := [(116, uu)]
def adh : Par := ⟨cZ.tab, (av Jx), (fun _ => ak []), (fun _ => ak [])⟩
noncomputable def adg : Code := (Tryz.f83.body).getD .skip
noncomputable def RP : Fi := ⟨adh, 43, [.tmp 6], adg⟩
def ake : KT := aB cZ.tab [.tmp 6] [(.slice aR)]
noncomputable def rE (fuel : Nat) (s : ao.den) (id : Int) (field : Int) : Option AV := f0 fi0 hs0 0 RP [(.slice aR)] fuel [.val ao s, .val aa id, .val aa field]
theorem Ux (fuel : Nat) (s : ao.den) (id : Int) (field : Int) : rE fuel s id field = (bif (bX s id field) then (bif (((aM (decide ((am s id field) < (s.1.length : Int))) (decide ((am s id field) < (s.1.length : Int)))) && true) && true) then (bif (((aM (decide ((am s id field) < (s.1.length : Int))) (decide ((am s id field) < (s.1.length : Int)))) && ((aM (decide ((am s id field) < (s.1.length : Int))) (decide ((am s id field) < (s.1.length : Int)))) && true)) && (aM (decide ((am s id field) < (s.1.length : Int))) (decide (0 ≤ (am s id field)) && decide ((am s id field) < (s.1.length : Int))))) then (bif (((aM (decide ((am s id field) < (s.1.length : Int))) (decide ((am s id field) < (s.1.length : Int)))) && true) && true) then (bif (((aM (decide ((am s id field) < (s.1.length : Int))) (decide ((am s id field) < (s.1.length : Int)))) && true) && true) then (bif (((aM (decide ((am s id field) < (s.1.length : Int))) (decide ((am s id field) < (s.1.length : Int)))) && ((aM (decide ((am s id field) < (s.1.length : Int))) (decide ((am s id field) < (s.1.length : Int)))) && true)) && true) then (bif ((aM (decide ((am s id field) < (s.1.length : Int))) (decide ((am s id field) < (s.1.length : Int)))) && true) then (bif (((aM (bif (decide ((am s id field) < (s.1.length : Int))) then (decide ((ix aj s.1 (am s id field)).1 = id)) else false) (bif (decide ((am s id field) < (s.1.length : Int))) then (decide ((ix aj s.1 (am s id field)).1 = id)) else false)) && true) && true) then (bif (((aM (bif (decide ((am s id field) < (s.1.length : Int))) then (decide ((ix aj s.1 (am s id field)).1 = id)) else false) (bif (decide ((am s id field) < (s.1.length : Int))) then (decide ((ix aj s.1 (am s id field)).1 = id)) else false)) && ((aM (bif (decide ((am s id field) < (s.1.length : Int))) then (decide ((ix aj s.1 (am s id field)).1 = id)) else false) (bif (decide ((am s id field) < (s.1.length : Int))) then (decide ((ix aj s.1 (am s id field)).1 = id)) else false)) && true)) && (aM (bif (decide ((am s id field) < (s.1.length : Int))) then (decide ((ix aj s.1 (am s id field)).1 = id)) else false) (decide (0 ≤ (am s id field)) && decide ((am s id field) < (s.1.length : Int))))) then (bif (((aM (bif (decide ((am s id field) < (s.1.length : Int))) then (decide ((ix aj s.1 (am s id field)).1 = id)) else false) (bif (decide ((am s id field) < (s.1.length : Int))) then (decide ((ix aj s.1 (am s id field)).1 = id)) else false)) && true) && true) then (bif (((aM (bif (decide ((am s id field) < (s.1.length : Int))) then (decide ((ix aj s.1 (am s id field)).1 = id)) else false) (bif (decide ((am s id field) < (s.1.length : Int))) then (decide ((ix aj s.1 (am s id field)).1 = id)) else false)) && true) && true) then (bif (((aM (bif (decide ((am s id field) < (s.1.length : Int))) then (decide ((ix aj s.1 (am s id field)).1 = id)) else false) (bif (decide ((am s id field) < (s.1.length : Int))) then (decide ((ix aj s.1 (am s id field)).1 = id)) else false)) && ((aM (bif (decide ((am s id field) < (s.1.length : Int))) then (decide ((ix aj s.1 (am s id field)).1 = id)) else false) (bif (decide ((am s id field) < (s.1.length : Int))) then (decide ((ix aj s.1 (am s id field)).1 = id)) else false)) && true)) && true) then (bif ((aM (bif (decide ((am s id field) < (s.1.length : Int))) then (decide ((ix aj s.1 (am s id field)).1 = id)) else false) (bif (decide ((am s id field) < (s.1.length : Int))) then (decide ((ix aj s.1 (am s id field)).1 = id)) else false)) && true) then (bif (bif (bif (decide ((am s id field) < (s.1.length : Int))) then (decide ((ix aj s.1 (am s id field)).1 = id)) else false) then (decide ((ix aj s.1 (am s id field)).2.1 = field)) else false) then (bif (decide (0 ≤ (am s id field)) && decide ((am s id field) < (s.1.length : Int))) then some (.val (.slice aR) (ix aj s.1 (am s id field)).2.2.1) else none) else some (.val (.slice aR) [])) else none) else none) else none) else none) else none) else none) else none) else none) else none) else none) else none) else none) else none) := by kernel_rfl
theorem Zx (fuel : Nat) (s : ao.den) (id : Int) (field : Int) : rE fuel s id field = (bif (bX s id field) then (bif (aM (decide ((am s id field) < (s.1.length : Int))) (decide (0 ≤ (am s id field)) && decide ((am s id field) < (s.1.length : Int)))) then (bif (aM (bif (decide ((am s id field) < (s.1.length : Int))) then (decide ((ix aj s.1 (am s id field)).1 = id)) else false) (decide (0 ≤ (am s id field)) && decide ((am s id field) < (s.1.length : Int)))) then (bif (bif (bif (decide ((am s id field) < (s.1.length : Int))) then (decide ((ix aj s.1 (am s id field)).1 = id)) else false) then (decide ((ix aj s.1 (am s id field)).2.1 = field)) else false) then (bif (decide (0 ≤ (am s id field)) && decide ((am s id field) < (s.1.length : Int))) then some (.val (.slice aR) (ix aj s.1 (am s id field)).2.2.1) else none) else some (.val (.slice aR) [])) else none) else none) else none) := by simpa only [aP, bo, Bool.and_true, Bool.true_and, cond_true, cond_false, decide_true, decide_false, Bool.not_false, Bool.not_true, Int.reduceLE, Int.reduceEq, Int.reduceLT, Nat.zero_add] using Ux fuel s id field
theorem Zw : aU Tryz.prog Jx → FiOk Tryz.prog 83 (RP) := fun h => ⟨⟨Tryz.f83, Tryz.func83, rfl, by kernel_rfl, by kernel_rfl, by kernel_rfl⟩, bV, ah h⟩
def vW : Ent := sp3 ao aa aa (fun x0 x1 x2 => bX x0 x1 x2) (fun x0 x1 x2 => .val (.slice aR) (el x0 x1 x2))
theorem Uy (hT : aU Tryz.prog Jx) (h : ∀ (x0 : ao.den) (x1 : Int) (x2 : Int), bX x0 x1 x2 = true → ∃ fuel, rE fuel x0 x1 x2 = some (.val (.slice aR) (el x0 x1 x2))) : ap Tryz.prog 83 vW := U7 fun x0 x1 x2 hg => (let ⟨_, hf⟩ := h x0 x1 x2 hg; aO follows (fun _ _ h => by cases h) bA (Zw hT) (ds := [⟨_, x0⟩, ⟨_, x1⟩, ⟨_, x2⟩]) hf)
def Vh : MS := ⟨2, [(0, [.dat (.slice aj)]), (1, [.own aj 75])], [(1, .dat aa), (2, .dat aa), (4, .keep), (8, .keep), (9, .dat aa), (10, .own aj 75)]⟩
def Vg : MS := ⟨2, [(0, [.dat (.slice aj)]), (1, [.own aj 75])], [(4, .keep), (8, .keep), (9, .dat aa), (10, .own aj 75)]⟩
def NG : List (Nat × Ent) := [(116, uu)]
def NH : Par := ⟨cZ.tab, (av NG), (fun _ => ak [(5, Vh), (7, Vg)]), (fun _ => ak [])⟩
noncomputable def NF : Code := (Tryz.f84.body).getD .skip
noncomputable def Vk : Fi := ⟨NH, 65, [.cell 8 39], NF⟩
noncomputable def Z6 : Code := sub NF [1, 1, 1, 1]
noncomputable def Z5 : Code := sub NF [1, 1, 1, 1, 1]
def Vj : KT := aB cZ.tab [.cell 8 39] [ao]
noncomputable def uc (fuel : Nat) (id : Int) (field : Int) (s : ao.den) (out : (List aj.den)) : Option AV := be (aH fi0 hs0 fuel 0) NH 0 fuel Z6 ⟨mkE 65 [(1, .val aa id), (2, .val aa field), (4, .box 0 0), (8, .box 1 0), (9, .val aa (am s id field)), (10, .own 3 0 aj out)], mkH 4 [(0, .box [.val (.slice aj) s.1]), (1, .box [.own 2 0 aj []]), (2, .row aj 75 0), (3, .row aj 75 0)]⟩ Vj
noncomputable def qM (fuel : Nat) (out : (List aj.den)) (s : ao.den) (t9 : Int) : Option AV := be (aH fi0 hs0 fuel 0) NH 0 fuel Z5 ⟨mkE 65 [(4, .box 0 0), (8, .box 1 0), (9, .val aa t9), (10, .own 3 0 aj out)], mkH 4 [(0, .box [.val (.slice aj) s.1]), (1, .box [.own 2 0 aj []]), (2, .row aj 75 0), (3, .row aj 75 0)]⟩ Vj
noncomputable def Ax (fuel : Nat) (s : ao.den) (id : Int) (field : Int) (l : (List aR.den)) : Option AV := f0 fi0 hs0 0 Vk [ao] fuel [.val ao s, .val aa id, .val aa field, .val (.slice aR) l]
theorem Kx (fuel : Nat) (id : Int) (field : Int) (s : ao.den) (out : (List aj.den)) : uc fuel id field s out = (bif (((aM (decide ((am s id field) < (s.1.length : Int))) (decide ((am s id field) < (s.1.length : Int)))) && true) && true) then (bif (((aM (decide ((am s id field) < (s.1.length : Int))) (decide ((am s id field) < (s.1.length : Int)))) && ((aM (decide ((am s id field) < (s.1.length : Int))) (decide ((am s id field) < (s.1.length : Int)))) && true)) && (aM (decide ((am s id field) < (s.1.length : Int))) (decide (0 ≤ (am s id field)) && decide ((am s id field) < (s.1.length : Int))))) then (bif (((aM (decide ((am s id field) < (s.1.length : Int))) (decide ((am s id field) < (s.1.length : Int)))) && true) && true) then (bif (((aM (decide ((am s id field) < (s.1.length : Int))) (decide ((am s id field) < (s.1.length : Int)))) && true) && true) then (bif (((aM (decide ((am s id field) < (s.1.length : Int))) (decide ((am s id field) < (s.1.length : Int)))) && ((aM (decide ((am s id field) < (s.1.length : Int))) (decide ((am s id field) < (s.1.length : Int)))) && true)) && true) then (bif ((aM (decide ((am s id field) < (s.1.length : Int))) (decide ((am s id field) < (s.1.length : Int)))) && true) then (bif (((aM (bif (decide ((am s id field) < (s.1.length : Int))) then (decide ((ix aj s.1 (am s id field)).1 = id)) else false) (bif (decide ((am s id field) < (s.1.length : Int))) then (decide ((ix aj s.1 (am s id field)).1 = id)) else false)) && true) && true) then (bif (((aM (bif (decide ((am s id field) < (s.1.length : Int))) then (decide ((ix aj s.1 (am s id field)).1 = id)) else false) (bif (decide ((am s id field) < (s.1.length : Int))) then (decide ((ix aj s.1 (am s id field)).1 = id)) else false)) && ((aM (bif (decide ((am s id field) < (s.1.length : Int))) then (decide ((ix aj s.1 (am s id field)).1 = id)) else false) (bif (decide ((am s id field) < (s.1.length : Int))) then (decide ((ix aj s.1 (am s id field)).1 = id)) else false)) && true)) && (aM (bif (decide ((am s id field) < (s.1.length : Int))) then (decide ((ix aj s.1 (am s id field)).1 = id)) else false) (decide (0 ≤ (am s id field)) && decide ((am s id field) < (s.1.length : Int))))) then (bif (((aM (bif (decide ((am s id field) < (s.1.length : Int))) then (decide ((ix aj s.1 (am s id field)).1 = id)) else false) (bif (decide ((am s id field) < (s.1.length : Int))) then (decide ((ix aj s.1 (am s id field)).1 = id)) else false)) && true) && true) then (bif (((aM (bif (decide ((am s id field) < (s.1.length : Int))) then (decide ((ix aj s.1 (am s id field)).1 = id)) else false) (bif (decide ((am s id field) < (s.1.length : Int))) then (decide ((ix aj s.1 (am s id field)).1 = id)) else false)) && true) && true) then (bif (((aM (bif (decide ((am s id field) < (s.1.length : Int))) then (decide ((ix aj s.1 (am s id field)).1 = id)) else false) (bif (decide ((am s id field) < (s.1.length : Int))) then (decide ((ix aj s.1 (am s id field)).1 = id)) else false)) && ((aM (bif (decide ((am s id field) < (s.1.length : Int))) then (decide ((ix aj s.1 (am s id field)).1 = id)) else false) (bif (decide ((am s id field) < (s.1.length : Int))) then (decide ((ix aj s.1 (am s id field)).1 = id)) else false)) && true)) && true) then (bif ((aM (bif (decide ((am s id field) < (s.1.length : Int))) then (decide ((ix aj s.1 (am s id field)).1 = id)) else false) (bif (decide ((am s id field) < (s.1.length : Int))) then (decide ((ix aj s.1 (am s id field)).1 = id)) else false)) && true) then (bif (bif (bif (decide ((am s id field) < (s.1.length : Int))) then (decide ((ix aj s.1 (am s id field)).1 = id)) else false) then (decide ((ix aj s.1 (am s id field)).2.1 = field)) else false) then (qM fuel out s (w64 ((am s id field) + 1))) else (qM fuel out s (am s id field))) else none) else none) else none) else none) else none) else none) else none) else none) else none) else none) else none) else none) := by kernel_rfl
theorem ND (fuel : Nat) (id : Int) (field : Int) (s : ao.den) (out : (List aj.den)) : uc fuel id field s out = (bif (aM (decide ((am s id field) < (s.1.length : Int))) (decide (0 ≤ (am s id field)) && decide ((am s id field) < (s.1.length : Int)))) then (bif (aM (bif (decide ((am s id field) < (s.1.length : Int))) then (decide ((ix aj s.1 (am s id field)).1 = id)) else false) (decide (0 ≤ (am s id field)) && decide ((am s id field) < (s.1.length : Int)))) then (bif (bif (bif (decide ((am s id field) < (s.1.length : Int))) then (decide ((ix aj s.1 (am s id field)).1 = id)) else false) then (decide ((ix aj s.1 (am s id field)).2.1 = field)) else false) then (qM fuel out s (w64 ((am s id field) + 1))) else (qM fuel out s (am s id field))) else none) else none) := by simpa only [aP, bo, Bool.and_true, Bool.true_and, cond_true, cond_false, decide_true, decide_false, Bool.not_false, Bool.not_true, Int.reduceLE, Int.reduceEq, Int.reduceLT, Nat.zero_add] using Kx fuel id field s out
theorem NC (fuel : Nat) (out : (List aj.den)) (s : ao.den) (t9 : Int) : qM fuel out s t9 = (bif (decide (0 ≤ t9) && decide (t9 ≤ (s.1.length : Int))) then (bif (decide (List.length out + List.length ((List.take (List.length s.1) s.1).drop (Int.toNat t9)) ≤ LIM)) then some (.val ao ((out ++ ((List.take (List.length s.1) s.1).drop (Int.toNat t9))), ())) else none) else none) := by kernel_rfl
theorem Z4 (fuel : Nat) (s : ao.den) (id : Int) (field : Int) (l : (List aR.den)) : Ax fuel s id field l = (bif (bX s id field) then (bif (decide (0 ≤ (am s id field)) && decide ((am s id field) ≤ (s.1.length : Int))) then (bif (decide (List.length ([] : List aj.den) + List.length ((List.take (Int.toNat (am s id field)) s.1).drop 0) ≤ LIM)) then (bif (decide ((l.length : Int) > 0)) then (bif (decide (List.length ([] ++ ((List.take (Int.toNat (am s id field)) s.1).drop 0)) + List.length ([(id, field, l, ())] : List aj.den) ≤ LIM)) then (uc fuel id field s (([] ++ ((List.take (Int.toNat (am s id field)) s.1).drop 0)) ++ [(id, field, l, ())])) else none) else (uc fuel id field s ([] ++ ((List.take (Int.toNat (am s id field)) s.1).drop 0)))) else none) else none) else none) := by kernel_rfl
theorem Z3 : aU Tryz.prog NG → FiOk Tryz.prog 84 (Vk) := fun h => ⟨⟨Tryz.f84, Tryz.func84, rfl, by kernel_rfl, by kernel_rfl, by kernel_rfl⟩, bV, ah h⟩
def NE : Ent := sp4 ao aa aa (.slice aR) (fun x0 x1 x2 x3 => Z7 x0 x1 x2 x3) (fun x0 x1 x2 x3 => .val ao (lX x0 x1 x2 x3))
theorem Vi (hT : aU Tryz.prog NG) (h : ∀ (x0 : ao.den) (x1 : Int) (x2 : Int) (x3 : (List aR.den)), Z7 x0 x1 x2 x3 = true → ∃ fuel, Ax fuel x0 x1 x2 x3 = some (.val ao (lX x0 x1 x2 x3))) : ap Tryz.prog 84 NE := Nk fun x0 x1 x2 x3 hg => (let ⟨_, hf⟩ := h x0 x1 x2 x3 hg; aO follows (fun _ _ h => by cases h) bA (Z3 hT) (ds := [⟨_, x0⟩, ⟨_, x1⟩, ⟨_, x2⟩, ⟨_, x3⟩]) hf)
def yx : MS := ⟨0, [], [(0, .dat (.slice aR)), (5, .dat (.slice aR)), (6, .dat aa), (7, .dat aa)]⟩
def xe : List (Nat × Ent) := []
def xf : Par := ⟨cZ.tab, (av xe), (fun _ => ak []), (fun _ => ak [(2, yx)])⟩
noncomputable def xd : Code := (Tryz.f30.body).getD .skip
noncomputable def FL : Fi := ⟨xf, 19, [.tmp 2], xd⟩
noncomputable def Qc : Code := sub xd [1, 0, 1, 0, 0]
noncomputable def Qb : Code := sub xd [1, 1]
def Ui : KT := aB cZ.tab [.tmp 2] [.bool]
noncomputable def kD (fuel : Nat) (n : Nat) (l : (List aR.den)) (t7 : Int) : Option AV := aD 0 yx (fun σ k => be (aH fi0 hs0 fuel 0) xf 0 fuel Qc σ k) (ai 0 (ax 0 none (fun σ k => be (aH fi0 hs0 fuel 0) xf 0 fuel Qb σ k) Ui)) n ⟨mkE 19 [(0, .val (.slice aR) l), (5, .val (.slice aR) l), (6, .val aa (l.length : Int)), (7, .val aa t7)], mkH 0 []⟩
noncomputable def qc (fuel : Nat) (l : (List aR.den)) : Option AV := f0 fi0 hs0 0 FL [.bool] fuel [.val (.slice aR) l]
theorem l9 (fuel n2 : Nat) (l : (List aR.den)) (t7 : Int) : kD fuel (n2 + 1) l t7 = (bif (decide (t7 < (l.length : Int))) then (bif (decide (0 ≤ t7) && decide (t7 < (l.length : Int))) then (bif (decide (0 ≤ (0 : Int)) && decide (0 < (l.length : Int))) then (bif (!eqD aF (ix aR l t7).2.1 (ix aR l 0).2.1) then some (.val .bool true) else (kD fuel n2 l (w64 (t7 + 1)))) else none) else none) else some (.val .bool false)) := by kernel_rfl
theorem acR (fuel : Nat) (l : (List aR.den)) (t7 : Int) : kD fuel 0 l t7 = none := rfl
theorem Qa (fuel : Nat) (l : (List aR.den)) : qc fuel l = (kD fuel fuel l 0) := by kernel_rfl
theorem P9 : aU Tryz.prog xe → FiOk Tryz.prog 30 (FL) := fun h => ⟨⟨Tryz.f30, Tryz.func30, rfl, by kernel_rfl, by kernel_rfl, by kernel_rfl⟩, bV, ah h⟩
def xb : Ent := sp1 (.slice aR) (fun x0 => BP x0) (fun x0 => .val .bool (dc x0))
theorem My (hT : aU Tryz.prog xe) (h : ∀ (x0 : (List aR.den)), BP x0 = true → ∃ fuel, qc fuel x0 = some (.val .bool (dc x0))) : ap Tryz.prog 30 xb := gc fun x0 hg => (let ⟨_, hf⟩ := h x0 hg; aO follows (fun _ _ h => by cases h) bA (P9 hT) (ds := [⟨_, x0⟩]) hf)
def Dj : List (Nat × Ent) := []
def Zm : Par := ⟨cZ.tab, (av Dj), (fun _ => ak []), (fun _ => ak [])⟩
noncomputable def Zl : Code := (Tryz.f31.body).getD .skip
noncomputable def MF : Fi := ⟨Zm, 8, [.tmp 2], Zl⟩
def ajY : KT := aB cZ.tab [.tmp 2] [(.slice aR)]
noncomputable def th (fuel : Nat) (s : (List aR.den)) : Option AV := f0 fi0 hs0 0 MF [(.slice aR)] fuel [.val (.slice aR) s]
theorem Uo (fuel : Nat) (s : (List aR.den)) : th fuel s = (bif (!List.isEmpty s) then (bif (decide (List.length ([] : List aR.den) + List.length s ≤ LIM)) then some (.val (.slice aR) ([] ++ s)) else none) else none) := by kernel_rfl
theorem Un : aU Tryz.prog Dj → FiOk Tryz.prog 31 (MF) := fun h => ⟨⟨Tryz.f31, Tryz.func31, rfl, by kernel_rfl, by kernel_rfl, by kernel_rfl⟩, bV, ah h⟩
def Di : Ent := sp1 (.slice aR) (fun x0 => tg x0) (fun x0 => .val (.slice aR) (idA x0))
theorem Qe (hT : aU Tryz.prog Dj) (h : ∀ (x0 : (List aR.den)), tg x0 = true → ∃ fuel, th fuel x0 = some (.val (.slice aR) (idA x0))) : ap Tryz.prog 31 Di := gc fun x0 hg => (let ⟨_, hf⟩ := h x0 hg; aO follows (fun _ _ h => by cases h) bA (Un hT) (ds := [⟨_, x0⟩]) hf)
def Jk : List (Nat × Ent) := [(35, Dg), (34, QJ)]
def acW : Par := ⟨cZ.tab, (av Jk), (fun _ => ak []), (fun _ => ak [])⟩
noncomputable def acV : Code := (Tryz.f78.body).getD .skip
noncomputable def RJ : Fi := ⟨acW, 26, [.tmp 4], acV⟩
def aj9 : KT := aB cZ.tab [.tmp 4] [aa]
noncomputable def xj (fuel : Nat) (x : aq.den) (y : aq.den) : Option AV := f0 fi0 hs0 0 RJ [aa] fuel [.val aq x, .val aq y]
theorem Ze (fuel : Nat) (x : aq.den) (y : aq.den) : xj fuel x y = (bif (Ox [(ct (x.1.1) (y.1.1)), (ct (x.1.2.1) (y.1.2.1)), (ct (x.2.1) (y.2.1))]) then some (.val aa (orF [(ct (x.1.1) (y.1.1)), (ct (x.1.2.1) (y.1.2.1)), (ct (x.2.1) (y.2.1))])) else none) := by kernel_rfl
theorem Zd : aU Tryz.prog Jk → FiOk Tryz.prog 78 (RJ) := fun h => ⟨⟨Tryz.f78, Tryz.func78, rfl, by kernel_rfl, by kernel_rfl, by kernel_rfl⟩, bV, ah h⟩
def zL : Ent := sp2 aq aq (fun _ _ => true) (fun x0 x1 => .val aa (gr x0 x1))
theorem Ul (hT : aU Tryz.prog Jk) (h : ∀ (x0 : aq.den) (x1 : aq.den), ∃ fuel, xj fuel x0 x1 = some (.val aa (gr x0 x1))) : ap Tryz.prog 78 zL := Nl fun x0 x1 _ => (let ⟨_, hf⟩ := h x0 x1; aO follows (fun _ _ h => by cases h) bA (Zd hT) (ds := [⟨_, x0⟩, ⟨_, x1⟩]) hf)
def Nj : Qj := Vb aq 83 78 gr Zy
def nK : MS := ⟨0, [], [(3, .mut aq 83), (7, .dat (.slice ac)), (8, .dat aa), (9, .dat aa)]⟩
def Nh : MS := ⟨0, [], [(3, .mut aq 83), (7, .dat (.slice ac)), (8, .dat aa), (9, .dat aa)]⟩
def Aq : List (Nat × Ent) := []
def jG : Par := ⟨cZ.tab, (av Aq), (fun _ => ak [(7, Nh)]), (fun _ => ak [(3, nK)])⟩
noncomputable def tV : Code := (Tryz.f32.body).getD .skip
noncomputable def Kk : Fi := ⟨jG, 51, [.tmp 2], tV⟩
noncomputable def EH : Code := sub tV [1, 1, 0, 1, 0, 0]
noncomputable def wm : Code := sub tV [1, 1, 1]
noncomputable def Sq : Code := sub tV [1, 1, 0, 1, 0, 0, 1, 1, 1]
def Ar : KT := aB cZ.tab [.tmp 2] [(.slice aq)]
def ga : Hs := aeK [(77, Nj)]
noncomputable def jh (fuel : Nat) (n : Nat) (m : aw.den) (l_hi : Nat) (t9 : Int) (l : (List aq.den)) : Option AV := aD 0 nK (fun σ k => be (aH fi0 ga fuel 1) jG 0 fuel EH σ k) (ai 0 (ax 0 none (fun σ k => be (aH fi0 ga fuel 1) jG 0 fuel wm σ k) Ar)) n ⟨mkE 51 [(3, .msl 0 0 0 l_hi), (7, .val (.slice ac) m.1), (8, .val aa (m.1.length : Int)), (9, .val aa t9)], mkH 1 [(0, .mrow aq 83 0 l)]⟩
noncomputable def mE (fuel n3 : Nat) (m : aw.den) (t9 : Int) (l_hi : Nat) (l : (List aq.den)) : Option AV := be (aH fi0 ga fuel 1) jG 0 fuel Sq ⟨mkE 51 [(3, .msl 0 0 0 l_hi), (7, .val (.slice ac) m.1), (8, .val aa (m.1.length : Int)), (9, .val aa t9)], mkH 1 [(0, .mrow aq 83 0 l)]⟩ (se 0 nK (aD 0 nK (fun σ k => be (aH fi0 ga fuel 1) jG 0 fuel EH σ k) (ai 0 (ax 0 none (fun σ k => be (aH fi0 ga fuel 1) jG 0 fuel wm σ k) Ar)) n3) (ai 0 (ax 0 none (fun σ k => be (aH fi0 ga fuel 1) jG 0 fuel wm σ k) Ar)))
noncomputable def sD (fuel : Nat) (m : aw.den) : Option AV := f0 fi0 ga 1 Kk [(.slice aq)] fuel [.val aw m]
theorem DG (fuel n3 : Nat) (m : aw.den) (l_hi : Nat) (t9 : Int) (l : (List aq.den)) : jh fuel (n3 + 1) m l_hi t9 l = (bif (decide (t9 < (m.1.length : Int))) then (bif (decide (0 ≤ t9) && decide (t9 < (m.1.length : Int))) then (bif (((aM (decide ((ix ac m.1 t9).2.1 = 2)) (decide ((ix ac m.1 t9).2.1 = 2))) && true) && true) then (bif (((aM (decide ((ix ac m.1 t9).2.1 = 2)) (decide ((ix ac m.1 t9).2.1 = 2))) && true) && true) then (bif (((aM (decide ((ix ac m.1 t9).2.1 = 2)) (decide ((ix ac m.1 t9).2.1 = 2))) && true) && true) then (bif ((aM (decide ((ix ac m.1 t9).2.1 = 2)) (decide ((ix ac m.1 t9).2.1 = 2))) && true) then (bif (((aM (bif (decide ((ix ac m.1 t9).2.1 = 2)) then (!decide ((ix ac m.1 t9).2.2.1.2.2.2.1 = 0)) else false) (bif (decide ((ix ac m.1 t9).2.1 = 2)) then (!decide ((ix ac m.1 t9).2.2.1.2.2.2.1 = 0)) else false)) && true) && true) then (bif (((aM (bif (decide ((ix ac m.1 t9).2.1 = 2)) then (!decide ((ix ac m.1 t9).2.2.1.2.2.2.1 = 0)) else false) (bif (decide ((ix ac m.1 t9).2.1 = 2)) then (!decide ((ix ac m.1 t9).2.2.1.2.2.2.1 = 0)) else false)) && true) && true) then (bif (((aM (bif (decide ((ix ac m.1 t9).2.1 = 2)) then (!decide ((ix ac m.1 t9).2.2.1.2.2.2.1 = 0)) else false) (bif (decide ((ix ac m.1 t9).2.1 = 2)) then (!decide ((ix ac m.1 t9).2.2.1.2.2.2.1 = 0)) else false)) && true) && true) then (bif ((aM (bif (decide ((ix ac m.1 t9).2.1 = 2)) then (!decide ((ix ac m.1 t9).2.2.1.2.2.2.1 = 0)) else false) (bif (decide ((ix ac m.1 t9).2.1 = 2)) then (!decide ((ix ac m.1 t9).2.2.1.2.2.2.1 = 0)) else false)) && true) then (bif (((aM (bif (bif (decide ((ix ac m.1 t9).2.1 = 2)) then (!decide ((ix ac m.1 t9).2.2.1.2.2.2.1 = 0)) else false) then (decide ((ix ac m.1 t9).2.2.1.1 ≥ 1)) else false) (bif (bif (decide ((ix ac m.1 t9).2.1 = 2)) then (!decide ((ix ac m.1 t9).2.2.1.2.2.2.1 = 0)) else false) then (decide ((ix ac m.1 t9).2.2.1.1 ≥ 1)) else false)) && true) && true) then (bif (((aM (bif (bif (decide ((ix ac m.1 t9).2.1 = 2)) then (!decide ((ix ac m.1 t9).2.2.1.2.2.2.1 = 0)) else false) then (decide ((ix ac m.1 t9).2.2.1.1 ≥ 1)) else false) (bif (bif (decide ((ix ac m.1 t9).2.1 = 2)) then (!decide ((ix ac m.1 t9).2.2.1.2.2.2.1 = 0)) else false) then (decide ((ix ac m.1 t9).2.2.1.1 ≥ 1)) else false)) && true) && true) then (bif (((aM (bif (bif (decide ((ix ac m.1 t9).2.1 = 2)) then (!decide ((ix ac m.1 t9).2.2.1.2.2.2.1 = 0)) else false) then (decide ((ix ac m.1 t9).2.2.1.1 ≥ 1)) else false) (bif (bif (decide ((ix ac m.1 t9).2.1 = 2)) then (!decide ((ix ac m.1 t9).2.2.1.2.2.2.1 = 0)) else false) then (decide ((ix ac m.1 t9).2.2.1.1 ≥ 1)) else false)) && true) && true) then (bif ((aM (bif (bif (decide ((ix ac m.1 t9).2.1 = 2)) then (!decide ((ix ac m.1 t9).2.2.1.2.2.2.1 = 0)) else false) then (decide ((ix ac m.1 t9).2.2.1.1 ≥ 1)) else false) (bif (bif (decide ((ix ac m.1 t9).2.1 = 2)) then (!decide ((ix ac m.1 t9).2.2.1.2.2.2.1 = 0)) else false) then (decide ((ix ac m.1 t9).2.2.1.1 ≥ 1)) else false)) && true) then (bif (bif (bif (bif (decide ((ix ac m.1 t9).2.1 = 2)) then (!decide ((ix ac m.1 t9).2.2.1.2.2.2.1 = 0)) else false) then (decide ((ix ac m.1 t9).2.2.1.1 ≥ 1)) else false) then (decide ((ix ac m.1 t9).2.2.1.1 ≤ 3)) else false) then (bif (decide (l_hi + List.length ([(((ix ac m.1 t9).2.2.1.2.2.2.1, (ix ac m.1 t9).2.2.1.1, ()), (ix ac m.1 t9).1, ())] : List aq.den) ≤ LIM)) then (mE fuel n3 m t9 (l_hi + List.length ([(((ix ac m.1 t9).2.2.1.2.2.2.1, (ix ac m.1 t9).2.2.1.1, ()), (ix ac m.1 t9).1, ())] : List aq.den)) (List.take l_hi l ++ [(((ix ac m.1 t9).2.2.1.2.2.2.1, (ix ac m.1 t9).2.2.1.1, ()), (ix ac m.1 t9).1, ())])) else none) else (mE fuel n3 m t9 l_hi l)) else none) else none) else none) else none) else none) else none) else none) else none) else none) else none) else none) else none) else none) else (bif (decide (List.length l ≤ LIM) && List.all l Zy) then some (.val (.slice aq) ((List.take l_hi (List.take 0 l ++ fu gr ((List.take l_hi l).drop 0) ++ List.drop l_hi l)).drop 0)) else none)) := by kernel_rfl
theorem tT (fuel n3 : Nat) (m : aw.den) (l_hi : Nat) (t9 : Int) (l : (List aq.den)) : jh fuel (n3 + 1) m l_hi t9 l = (bif (decide (t9 < (m.1.length : Int))) then (bif (decide (0 ≤ t9) && decide (t9 < (m.1.length : Int))) then (bif (bif (bif (bif (decide ((ix ac m.1 t9).2.1 = 2)) then (!decide ((ix ac m.1 t9).2.2.1.2.2.2.1 = 0)) else false) then (decide ((ix ac m.1 t9).2.2.1.1 ≥ 1)) else false) then (decide ((ix ac m.1 t9).2.2.1.1 ≤ 3)) else false) then (bif (decide (l_hi + List.length ([(((ix ac m.1 t9).2.2.1.2.2.2.1, (ix ac m.1 t9).2.2.1.1, ()), (ix ac m.1 t9).1, ())] : List aq.den) ≤ LIM)) then (mE fuel n3 m t9 (l_hi + List.length ([(((ix ac m.1 t9).2.2.1.2.2.2.1, (ix ac m.1 t9).2.2.1.1, ()), (ix ac m.1 t9).1, ())] : List aq.den)) (List.take l_hi l ++ [(((ix ac m.1 t9).2.2.1.2.2.2.1, (ix ac m.1 t9).2.2.1.1, ()), (ix ac m.1 t9).1, ())])) else none) else (mE fuel n3 m t9 l_hi l)) else none) else (bif (decide (List.length l ≤ LIM) && List.all l Zy) then some (.val (.slice aq) ((List.take l_hi (List.take 0 l ++ fu gr ((List.take l_hi l).drop 0) ++ List.drop l_hi l)).drop 0)) else none)) := by simpa only [aP, bo, Bool.and_true, Bool.true_and, cond_true, cond_false, decide_true, decide_false, Bool.not_false, Bool.not_true, Int.reduceLE, Int.reduceEq, Int.reduceLT, Nat.zero_add] using DG fuel n3 m l_hi t9 l
theorem adu (fuel : Nat) (m : aw.den) (l_hi : Nat) (t9 : Int) (l : (List aq.den)) : jh fuel 0 m l_hi t9 l = none := rfl
theorem tU (fuel n3 : Nat) (m : aw.den) (t9 : Int) (l_hi : Nat) (l : (List aq.den)) : mE fuel n3 m t9 l_hi l = (jh fuel n3 m l_hi (w64 (t9 + 1)) l) := by kernel_rfl
theorem Sp (fuel : Nat) (m : aw.den) : sD fuel m = (jh fuel fuel m 0 0 []) := by kernel_rfl
theorem So : aU Tryz.prog Aq → FiOk Tryz.prog 32 (Kk) := fun h => ⟨⟨Tryz.f32, Tryz.func32, rfl, by kernel_rfl, by kernel_rfl, by kernel_rfl⟩, bV, ah h⟩
def Ap : Ent := sp1 aw (fun x0 => Lw x0) (fun x0 => .val (.slice aq) (eN x0))
theorem Ni (hT : aU Tryz.prog Aq) (hH : ads Tryz.prog [(77, Nj)]) (h : ∀ (x0 : aw.den), Lw x0 = true → ∃ fuel, sD fuel x0 = some (.val (.slice aq) (eN x0))) : ap Tryz.prog 32 Ap := gc fun x0 hg => (let ⟨_, hf⟩ := h x0 hg; aO follows (fun _ _ h => by cases h) (aaU hH) (So hT) (ds := [⟨_, x0⟩]) hf)
def hX : MS := ⟨3, [(0, [.drop]), (2, [.own ar 43])], [(3, .keep), (5, .dat (.slice aq))]⟩
def KS : MS := ⟨3, [(0, [.drop]), (2, [.own ar 43])], [(3, .keep), (5, .dat (.slice aq)), (6, .dat aa)]⟩
def EV : MS := ⟨34, [(0, [.drop]), (2, [.own ar 43]), (33, [.dat aa, .dat aa, .dat aa, .own aR 53, .own aa 3])], [(3, .keep), (5, .dat (.slice aq)), (6, .dat aa), (7, .keep), (66, .dat (.slice aq)), (67, .dat aa), (68, .dat aa)]⟩
def EW : MS := ⟨3, [(0, [.drop]), (2, [.own ar 43])], [(3, .keep), (5, .dat (.slice aq)), (6, .dat aa)]⟩
def NW : List (Nat × Ent) := [(30, xb), (31, Di), (14, pE), (32, Ap)]
def cF : Par := ⟨cZ.tab, (av NW), (fun _ => ak [(19, EW)]), (fun _ => ak [(7, hX), (9, KS), (14, EV)])⟩
noncomputable def jT : Code := (Tryz.f10.body).getD .skip
noncomputable def Vt : Fi := ⟨cF, 88, [.tmp 2], jT⟩
noncomputable def aaj : Code := sub jT [1, 1, 0, 1, 0, 1]
noncomputable def aai : Code := sub jT [1, 1, 0, 1, 0, 0]
noncomputable def aah : Code := sub jT [1, 1, 1]
noncomputable def yU : Code := sub jT [1, 1, 1, 1, 0, 0, 0]
noncomputable def nZ : Code := sub jT [1, 1, 1, 1, 1]
noncomputable def aag : Code := sub jT [1, 1, 1, 1, 0, 0, 0, 1, 0, 1, 0, 0, 0]
noncomputable def aaf : Code := sub jT [1, 1, 1, 1, 0, 0, 0, 1, 0, 1, 1]
noncomputable def aae : Code := sub jT [1, 1, 1, 1, 0, 0, 0, 1, 0, 1, 1, 0, 1, 0, 1, 0, 1, 0, 0]
noncomputable def aad : Code := sub jT [1, 1, 1, 1, 0, 0, 0, 1, 0, 1, 1, 0, 1, 0, 1, 1]
noncomputable def QF : Code := sub jT [1, 1, 1, 1, 0, 0, 0, 1, 0, 1, 1, 1]
def nY : List (Nat × Ent) := []
def NV : Par := ⟨cZ.tab, (av nY), (fun _ => ak []), (fun _ => ak [])⟩
noncomputable def NU : Code := (Tryz.f29.body).getD .skip
noncomputable def AU : Fi := ⟨NV, 4, [.tmp 2], NU⟩
def ul : MS := ⟨10, [(0, [.dat (.slice aj)]), (2, [.own ar 43]), (5, [.dat (.slice aj)])], [(0, .keep), (6, .dat (.slice aj)), (7, .dat aa), (8, .dat aa)]⟩
def nX : List (Nat × Ent) := []
def AR : Par := ⟨cZ.tab, (av nX), (fun _ => ak []), (fun _ => ak [(1, ul)])⟩
noncomputable def AQ : Code := (Tryz.f76.body).getD .skip
noncomputable def AS : Fi := ⟨AR, 17, [], AQ⟩
noncomputable def KY : Code := sub AQ [1, 0, 0]
def pp : KT := aB cZ.tab [.tmp 2] [(.slice ar)]
noncomputable def bz : FuncId → Option Fi := ak [(29, AU), (76, AS)]
noncomputable def dG (fuel : Nat) (n : Nat) (s : ao.den) (t8 : Int) (b0_0 : (List aj.den)) (b2_0 : (List ar.den)) (b5_0 : (List aj.den)) : Option AV := aD 10 ul (fun σ k => be (ac1 (Ff bz hs0 fuel 0) (AD 9 (aH bz hs0 fuel 1).call (mkE 88 [(0, .val ao s), (1, .box 0 0), (2, .nil), (3, .box 2 0), (10, .val ao s), (11, .fn 76 (bh [.box 5 0]))]) [12] (fun lo σ k => be (aH bz hs0 fuel 1) cF lo fuel aaj σ (uT (fun σ k => be (aH bz hs0 fuel 1) cF lo fuel aai σ k) k)))) AR 10 fuel KY σ k) (ai 0 (Vr cZ.tab [] (V3 (mkE 88 [(0, .val ao s), (1, .box 0 0), (2, .nil), (3, .box 2 0), (10, .val ao s), (11, .fn 76 (bh [.box 5 0]))]) (ai 0 (ax 0 none (fun σ k => be (aH bz hs0 fuel 1) cF 0 fuel aah σ k) pp))))) n ⟨mkE 17 [(0, .yld 9), (6, .val (.slice aj) s.1), (7, .val aa (s.1.length : Int)), (8, .val aa t8)], mkH 11 [(0, .box [.val (.slice aj) b0_0]), (2, .box [.own 10 0 ar b2_0]), (5, .box [.val (.slice aj) b5_0]), (9, .dead), (10, .row ar 43 0)]⟩
noncomputable def lh (fuel : Nat) (n : Nat) (t5 : (List aq.den)) (b2_0 : (List ar.den)) : Option AV := aD 0 hX (fun σ k => be (aH bz hs0 fuel 1) cF 0 fuel yU σ k) (ai 2 (ax 0 none (fun σ k => be (aH bz hs0 fuel 1) cF 0 fuel nZ σ k) pp)) n ⟨mkE 88 [(3, .box 2 0), (5, .val (.slice aq) t5)], mkH 4 [(0, .box [.unk]), (2, .box [.own 3 0 ar b2_0]), (3, .row ar 43 0)]⟩
noncomputable def nW (fuel n7 : Nat) (n : Nat) (t5 : (List aq.den)) (t6 : Int) (b2_0 : (List ar.den)) : Option AV := aD 0 KS (fun σ k => be (aH bz hs0 fuel 1) cF 0 fuel aag σ k) (ai 4 (ax 0 none (fun σ k => be (aH bz hs0 fuel 1) cF 0 fuel aaf σ k) (ai 3 (se 0 hX (aD 0 hX (fun σ k => be (aH bz hs0 fuel 1) cF 0 fuel yU σ k) (ai 2 (ax 0 none (fun σ k => be (aH bz hs0 fuel 1) cF 0 fuel nZ σ k) pp)) n7) (ai 2 (ax 0 none (fun σ k => be (aH bz hs0 fuel 1) cF 0 fuel nZ σ k) pp)))))) n ⟨mkE 88 [(3, .box 2 0), (5, .val (.slice aq) t5), (6, .val aa t6)], mkH 4 [(0, .box [.unk]), (2, .box [.own 3 0 ar b2_0]), (3, .row ar 43 0)]⟩
noncomputable def hY (fuel n7 : Nat) (n : Nat) (t5 : (List aq.den)) (t6 : Int) (t68 : Int) (b2_0 : (List ar.den)) (b33_0 : Int) (b33_1 : Int) (b33_2 : Int) (b33_3 : (List aR.den)) (b33_4 : (List Int)) : Option AV := aD 0 EV (fun σ k => be (aH bz hs0 fuel 1) cF 0 fuel aae σ k) (ai 6 (ax 0 none (fun σ k => be (aH bz hs0 fuel 1) cF 0 fuel aad σ k) (ax 0 (some EW) (fun σ k => be (aH bz hs0 fuel 1) cF 0 fuel QF σ k) (ai 3 (se 0 hX (aD 0 hX (fun σ k => be (aH bz hs0 fuel 1) cF 0 fuel yU σ k) (ai 2 (ax 0 none (fun σ k => be (aH bz hs0 fuel 1) cF 0 fuel nZ σ k) pp)) n7) (ai 2 (ax 0 none (fun σ k => be (aH bz hs0 fuel 1) cF 0 fuel nZ σ k) pp))))))) n ⟨mkE 88 [(3, .box 2 0), (5, .val (.slice aq) t5), (6, .val aa t6), (7, .box 33 0), (66, .val (.slice aq) ((List.take (Int.toNat t6) t5).drop 0)), (67, .val aa (((List.take (Int.toNat t6) t5).drop 0).length : Int)), (68, .val aa t68)], mkH 37 [(0, .box [.unk]), (2, .box [.own 34 0 ar b2_0]), (3, .row ar 43 1), (33, .box [.val aa b33_0, .val aa b33_1, .val aa b33_2, .own 35 0 aR b33_3, .own 36 0 aa b33_4]), (34, .row ar 43 0), (35, .row aR 53 0), (36, .row aa 3 0)]⟩
noncomputable def jS (fuel n7 : Nat) (t5 : (List aq.den)) (t6 : Int) (b2_0 : (List ar.den)) : Option AV := be (aH bz hs0 fuel 1) cF 0 fuel QF ⟨mkE 88 [(3, .box 2 0), (5, .val (.slice aq) t5), (6, .val aa t6)], mkH 4 [(0, .box [.unk]), (2, .box [.own 3 0 ar b2_0]), (3, .row ar 43 0)]⟩ (ai 3 (se 0 hX (aD 0 hX (fun σ k => be (aH bz hs0 fuel 1) cF 0 fuel yU σ k) (ai 2 (ax 0 none (fun σ k => be (aH bz hs0 fuel 1) cF 0 fuel nZ σ k) pp)) n7) (ai 2 (ax 0 none (fun σ k => be (aH bz hs0 fuel 1) cF 0 fuel nZ σ k) pp))))
noncomputable def AP (fuel : Nat) (s : ao.den) : Option AV := f0 bz hs0 1 Vt [(.slice ar)] fuel [.val ao s]
theorem po (fuel n76_1 : Nat) (s : ao.den) (t8 : Int) (b0_0 : (List aj.den)) (b2_0 : (List ar.den)) (b5_0 : (List aj.den)) : dG fuel (n76_1 + 1) s t8 b0_0 b2_0 b5_0 = (bif (decide (t8 < (s.1.length : Int))) then (bif (decide (0 ≤ t8) && decide (t8 < (s.1.length : Int))) then (bif (BP ((ix aj s.1 t8).2.2.1)) then (bif (dc ((ix aj s.1 t8).2.2.1)) then (bif (tg ((ix aj s.1 t8).2.2.1)) then (bif (decide (List.length b2_0 + List.length ([(1, (ix aj s.1 t8).1, (ix aj s.1 t8).2.1, (idA ((ix aj s.1 t8).2.2.1)), [], ())] : List ar.den) ≤ LIM)) then (dG fuel n76_1 s (w64 (t8 + 1)) b0_0 (b2_0 ++ [(1, (ix aj s.1 t8).1, (ix aj s.1 t8).2.1, (idA ((ix aj s.1 t8).2.2.1)), [], ())]) b5_0) else none) else none) else (dG fuel n76_1 s (w64 (t8 + 1)) b0_0 b2_0 b5_0)) else none) else none) else (bif (stG (b0_0, ())) then (bif (Lw (aI (b0_0, ()))) then (lh fuel fuel (eN (aI (b0_0, ()))) b2_0) else none) else none)) := by kernel_rfl
theorem ZN (fuel : Nat) (s : ao.den) (t8 : Int) (b0_0 : (List aj.den)) (b2_0 : (List ar.den)) (b5_0 : (List aj.den)) : dG fuel 0 s t8 b0_0 b2_0 b5_0 = none := rfl
theorem NT (fuel n7 : Nat) (t5 : (List aq.den)) (b2_0 : (List ar.den)) : lh fuel (n7 + 1) t5 b2_0 = (bif (decide ((t5.length : Int) > 0)) then (nW fuel n7 fuel t5 1 b2_0) else some (.val (.slice ar) b2_0)) := by kernel_rfl
theorem ahU (fuel : Nat) (t5 : (List aq.den)) (b2_0 : (List ar.den)) : lh fuel 0 t5 b2_0 = none := rfl
theorem KU (fuel n7 n9 : Nat) (t5 : (List aq.den)) (t6 : Int) (b2_0 : (List ar.den)) : nW fuel n7 (n9 + 1) t5 t6 b2_0 = (bif (((aM (decide (t6 < (t5.length : Int))) (decide (t6 < (t5.length : Int)))) && ((aM (decide (t6 < (t5.length : Int))) (decide (t6 < (t5.length : Int)))) && true)) && (aM (decide (t6 < (t5.length : Int))) (decide (0 ≤ t6) && decide (t6 < (t5.length : Int))))) then (bif (((aM (decide (t6 < (t5.length : Int))) (decide (t6 < (t5.length : Int)))) && true) && true) then (bif (((aM (decide (t6 < (t5.length : Int))) (decide (t6 < (t5.length : Int)))) && true) && true) then (bif (((aM (decide (t6 < (t5.length : Int))) (decide (t6 < (t5.length : Int)))) && true) && (aM (decide (t6 < (t5.length : Int))) (decide (0 ≤ (0 : Int)) && decide (0 < (t5.length : Int))))) then (bif (((aM (decide (t6 < (t5.length : Int))) (decide (t6 < (t5.length : Int)))) && true) && true) then (bif (((aM (decide (t6 < (t5.length : Int))) (decide (t6 < (t5.length : Int)))) && true) && true) then (bif (((aM (decide (t6 < (t5.length : Int))) (decide (t6 < (t5.length : Int)))) && ((aM (decide (t6 < (t5.length : Int))) (decide (t6 < (t5.length : Int)))) && true)) && true) then (bif ((aM (decide (t6 < (t5.length : Int))) (decide (t6 < (t5.length : Int)))) && true) then (bif (bif (decide (t6 < (t5.length : Int))) then (eqD aT (ix aq t5 t6).1 (ix aq t5 0).1) else false) then (nW fuel n7 n9 t5 (w64 (t6 + 1)) b2_0) else (bif (decide (t6 > 1)) then (bif (decide (0 ≤ (0 : Int)) && decide (0 < (t5.length : Int))) then (bif (decide (0 ≤ (0 : Int)) && decide (0 < (t5.length : Int))) then (bif (decide (0 ≤ t6) && decide (t6 ≤ (t5.length : Int))) then (hY fuel n7 fuel t5 t6 0 b2_0 2 ((ix aq t5 0).1.1) ((ix aq t5 0).1.2.1) [] []) else none) else none) else none) else (jS fuel n7 t5 t6 b2_0))) else none) else none) else none) else none) else none) else none) else none) else none) := by kernel_rfl
theorem NS (fuel n7 n9 : Nat) (t5 : (List aq.den)) (t6 : Int) (b2_0 : (List ar.den)) : nW fuel n7 (n9 + 1) t5 t6 b2_0 = (bif (aM (decide (t6 < (t5.length : Int))) (decide (0 ≤ t6) && decide (t6 < (t5.length : Int)))) then (bif (aM (decide (t6 < (t5.length : Int))) (decide (0 ≤ (0 : Int)) && decide (0 < (t5.length : Int)))) then (bif (bif (decide (t6 < (t5.length : Int))) then (eqD aT (ix aq t5 t6).1 (ix aq t5 0).1) else false) then (nW fuel n7 n9 t5 (w64 (t6 + 1)) b2_0) else (bif (decide (t6 > 1)) then (bif (decide (0 ≤ (0 : Int)) && decide (0 < (t5.length : Int))) then (bif (decide (0 ≤ (0 : Int)) && decide (0 < (t5.length : Int))) then (bif (decide (0 ≤ t6) && decide (t6 ≤ (t5.length : Int))) then (hY fuel n7 fuel t5 t6 0 b2_0 2 ((ix aq t5 0).1.1) ((ix aq t5 0).1.2.1) [] []) else none) else none) else none) else (jS fuel n7 t5 t6 b2_0))) else none) else none) := by simpa only [aP, bo, Bool.and_true, Bool.true_and, cond_true, cond_false, decide_true, decide_false, Bool.not_false, Bool.not_true, Int.reduceLE, Int.reduceEq, Int.reduceLT, Nat.zero_add] using KU fuel n7 n9 t5 t6 b2_0
theorem ahT (fuel n7 : Nat) (t5 : (List aq.den)) (t6 : Int) (b2_0 : (List ar.den)) : nW fuel n7 0 t5 t6 b2_0 = none := rfl
theorem KV (fuel n7 n14 : Nat) (t5 : (List aq.den)) (t6 : Int) (t68 : Int) (b2_0 : (List ar.den)) (b33_0 : Int) (b33_1 : Int) (b33_2 : Int) (b33_3 : (List aR.den)) (b33_4 : (List Int)) : hY fuel n7 (n14 + 1) t5 t6 t68 b2_0 b33_0 b33_1 b33_2 b33_3 b33_4 = (bif (decide (t68 < (((List.take (Int.toNat t6) t5).drop 0).length : Int))) then (bif (decide (0 ≤ t68) && decide (t68 < (((List.take (Int.toNat t6) t5).drop 0).length : Int))) then (bif (decide (List.length b33_4 + List.length ([(ix aq ((List.take (Int.toNat t6) t5).drop 0) t68).2.1] : List Int) ≤ LIM)) then (hY fuel n7 n14 t5 t6 (w64 (t68 + 1)) b2_0 b33_0 b33_1 b33_2 b33_3 (b33_4 ++ [(ix aq ((List.take (Int.toNat t6) t5).drop 0) t68).2.1])) else none) else none) else (bif (decide (List.length b2_0 + List.length ([(b33_0, b33_1, b33_2, b33_3, b33_4, ())] : List ar.den) ≤ LIM)) then (jS fuel n7 t5 t6 (b2_0 ++ [(b33_0, b33_1, b33_2, b33_3, b33_4, ())])) else none)) := by kernel_rfl
theorem aei (fuel n7 : Nat) (t5 : (List aq.den)) (t6 : Int) (t68 : Int) (b2_0 : (List ar.den)) (b33_0 : Int) (b33_1 : Int) (b33_2 : Int) (b33_3 : (List aR.den)) (b33_4 : (List Int)) : hY fuel n7 0 t5 t6 t68 b2_0 b33_0 b33_1 b33_2 b33_3 b33_4 = none := rfl
theorem KW (fuel n7 : Nat) (t5 : (List aq.den)) (t6 : Int) (b2_0 : (List ar.den)) : jS fuel n7 t5 t6 b2_0 = (bif (decide (0 ≤ t6) && decide (t6 ≤ (t5.length : Int))) then (lh fuel n7 ((List.take (List.length t5) t5).drop (Int.toNat t6)) b2_0) else none) := by kernel_rfl
theorem aac (fuel : Nat) (s : ao.den) : AP fuel s = (dG fuel fuel s 0 (s.1) [] (s.1)) := by kernel_rfl
theorem aab : aU Tryz.prog NW → FiOk Tryz.prog 10 (Vt) := fun h => ⟨⟨Tryz.f10, Tryz.func10, rfl, by kernel_rfl, by kernel_rfl, by kernel_rfl⟩, bV, ah h⟩
theorem KZ : aU Tryz.prog nY → FiOk Tryz.prog 29 (AU) := fun h => ⟨⟨Tryz.f29, Tryz.func29, rfl, by kernel_rfl, by kernel_rfl, by kernel_rfl⟩, bV, ah h⟩
theorem KX : aU Tryz.prog nX → FiOk Tryz.prog 76 (AS) := fun h => ⟨⟨Tryz.f76, Tryz.func76, rfl, by kernel_rfl, by kernel_rfl, by kernel_rfl⟩, bV, ah h⟩
theorem SC (h0 : aU Tryz.prog nY) (h1 : aU Tryz.prog nX) : ∀ f x, bz f = some x → FiOk Tryz.prog f x := fun f x h => by
 have hm := fM h
 simp only [List.mem_cons, List.not_mem_nil, or_false, Prod.mk.injEq] at hm
 rcases hm with ⟨rfl, rfl⟩ | ⟨rfl, rfl⟩
 ·exact KZ h0
 ·exact KX h1
def AW : Ent := sp1 ao (fun x0 => AX x0) (fun x0 => .val (.slice ar) (hZ x0))
theorem Vs (hT : aU Tryz.prog NW) (h0 : aU Tryz.prog nY) (h1 : aU Tryz.prog nX) (h : ∀ (x0 : ao.den), AX x0 = true → ∃ fuel, AP fuel x0 = some (.val (.slice ar) (hZ x0))) : ap Tryz.prog 10 AW := gc fun x0 hg => (let ⟨_, hf⟩ := h x0 hg; aO follows (SC h0 h1) bA (aab hT) (ds := [⟨_, x0⟩]) hf)
end Go.Proofs.YtboikinjlmjgjaaGreat.Abs
