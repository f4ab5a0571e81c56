/- The equations of the program's functions on the abstract machine. (Printed by gen.py; each is checked by the kernel.) -/
import Derived.Test.YtboikinjlmjgjaaGreatGenW
import Derived.Test.YtboikinjlmjgjaaGreatChainW
import Derived.Test.YtboikinjlmjgjaaGreatChecked
namespace Go.Proofs.YtboikinjlmjgjaaGreat.Abs
end Go.Proofs.YtboikinjlmjgjaaGreat.Abs
namespace Go.Proofs.YtboikinjlmjgjaaGreat.Abs
def amb : Unit := ()
end Go.Proofs.YtboikinjlmjgjaaGreat.Abs
namespace Go.Proofs.YtboikinjlmjgjaaGreat.Abs
open Go
set_option linter.unusedSimpArgs false
set_option linter.unusedVariables false
noncomputable section
def bg : TabL := {
 ty := [(3, aa), (4, .bool), (5, (.int .u8)), (9, .str), (22, (.slice aQ)), (23, (.slice aa)), (24, (.slice ac)), (26, ae), (28, (.slice ae)), (30, aQ), (35, (.slice ar)), (37, (.slice aj)), (39, ao), (41, (.slice aR)), (43, ar), (48, aw), (51, aF), (53, aR), (60, aa), (75, aj), (86, ac), (101, (.slice (.slice aa))), (152, (.slice (.int .u8)))],
 cells := [(3, 1), (4, 1), (5, 1), (9, 1), (22, 1), (23, 1), (24, 1), (26, 5), (28, 1), (30, 4), (35, 1), (37, 1), (39, 1), (41, 1), (43, 5), (48, 1), (51, 4), (53, 5), (60, 1), (75, 3), (86, 6), (101, 1), (152, 1)],
 offs := [((26, 0), 0), ((26, 1), 1), ((26, 2), 2), ((26, 3), 3), ((26, 4), 4), ((30, 0), 0), ((30, 1), 1), ((30, 2), 2), ((30, 3), 3), ((39, 0), 0), ((43, 0), 0), ((43, 1), 1), ((43, 2), 2), ((43, 3), 3), ((43, 4), 4), ((48, 0), 0), ((51, 0), 0), ((51, 1), 1), ((51, 2), 2), ((51, 3), 3), ((53, 0), 0), ((53, 1), 1), ((75, 0), 0), ((75, 1), 1), ((75, 2), 2), ((86, 0), 0), ((86, 1), 1), ((86, 2), 2)],
 one := [],
 elem := [(22, 30), (23, 3), (24, 86), (28, 26), (35, 43), (37, 75), (41, 53), (101, 23), (152, 5)] }
def Kg : TabL := {
 ty := [(3, aa), (4, .bool), (5, (.int .u8)), (9, .str), (22, (.slice aQ)), (23, (.slice aa)), (24, (.slice ac)), (26, ae), (28, (.slice ae)), (30, aQ), (35, (.slice ar)), (37, (.slice aj)), (39, ao), (41, (.slice aR)), (43, ar), (48, aw), (51, aF), (53, aR), (60, aa), (75, aj), (86, ac), (101, (.slice (.slice aa))), (152, (.slice (.int .u8)))],
 cells := [(3, 1), (4, 1), (5, 1), (9, 1), (22, 1), (23, 1), (24, 1), (26, 5), (28, 1), (30, 4), (35, 1), (37, 1), (39, 1), (41, 1), (43, 5), (48, 1), (51, 4), (53, 5), (60, 1), (75, 3), (86, 6), (101, 1), (152, 1)],
 offs := [((26, 0), 0), ((26, 1), 1), ((26, 2), 2), ((26, 3), 3), ((26, 4), 4), ((30, 0), 0), ((30, 1), 1), ((30, 2), 2), ((30, 3), 3), ((39, 0), 0), ((43, 0), 0), ((43, 1), 1), ((43, 2), 2), ((43, 3), 3), ((43, 4), 4), ((48, 0), 0), ((51, 0), 0), ((51, 1), 1), ((51, 2), 2), ((51, 3), 3), ((53, 0), 0), ((53, 1), 1), ((75, 0), 0), ((75, 1), 1), ((75, 2), 2), ((86, 0), 0), ((86, 1), 1), ((86, 2), 2)],
 one := [],
 inp := [22, 23, 24, 28, 35, 37, 41, 101, 152],
 elem := [(22, 30), (23, 3), (24, 86), (28, 26), (35, 43), (37, 75), (41, 53), (101, 23), (152, 5)] }
theorem aJ : TabOk Tryz.prog bg.tab := TabL.ok (by kernel_rfl)
theorem Kf : TabOk Tryz.prog Kg.tab := TabL.ok (by kernel_rfl)
def nH (m : Bool) {β : Type} (K : Bool → Option β) (id : Int) : Option β := (nq m [2, 1] (decide (id > 1048576)) (nm m 1 (bif (decide (id > 1048576)) then (decide (id < 34603008)) else false) (!decide ((1048576 : Int) = 0)) (nq m [2, 1] (bif (decide (id > 1048576)) then (decide (id < 34603008)) else false) (K (bif (bif (decide (id > 1048576)) then (decide (id < 34603008)) else false) then (!decide ((Int.tmod id 1048576) = 0)) else false)))))
def bT (id : Int) : Option Bool := nH false some id
def sB (r : Bool) : AV := .val .bool r
def du : Ent := evE (.cons aa .unit) sB (zero .bool) (fun x => bT x.1)
def M9 : Par := ⟨bg.tab, (av []), (fun _ => ak []), (fun _ => ak [])⟩
theorem eJ : ap Tryz.prog 109 (du) := evX Tryz.func109 (S := M9) aJ (ah trivial) (tys := [.bool]) (fun fuel x => nH true (sm sB) x.1) (fun x => by show _ = Option.map sB _; simp only [nH, bT, ss])
abbrev gS (β : Type) := Str → Int → Option β
def jz (m : Bool) {β : Type} (K : Bool → Option β) (k_l4 : gS β) : gS β := fun key i => (bif (decide (i < (il key))) then (ck (bd i key.length) (nm m 2 (!(decide ((ixs key i) < 97))) (bd i key.length) (nq m [2, 0] (!(decide ((ixs key i) < 97))) (bif (bif (decide ((ixs key i) < 97)) then true else (decide ((ixs key i) > 122))) then (K false) else (fz m aa (w64 (i + 1)) fun y1_ => (k_l4 key y1_)))))) else (K true))
def qA (m : Bool) {β : Type} (K : Bool → Option β) (k_l4 : gS β) (key : Str) : Option β := (nq m [2, 2, 0] (!(decide ((il key) < 1))) (nq m [2, 2] (!(bif (decide ((il key) < 1)) then true else (decide ((il key) > 60)))) (nm m 2 (!(bif (decide ((il key) < 1)) then true else (decide ((il key) > 60)))) (bd (w64 ((il key) - 1)) key.length) (nq m [2, 0] (!(bif (decide ((il key) < 1)) then true else (decide ((il key) > 60)))) (bif (bif (bif (decide ((il key) < 1)) then true else (decide ((il key) > 60))) then true else (decide ((ixs key (w64 ((il key) - 1))) = 97))) then (K false) else (k_l4 key 0))))))
def kY : Nat → gS Bool := lp (fun _ _ => none) fun k_l4 => jz false some k_l4
def jA (key : Str) : Option Bool := qA false some (kY FU) key
def mp (r : Bool) : AV := .val .bool r
def Es : Ent := evE (.cons .str .unit) mp (zero .bool) (fun x => jA x.1)
def xz : MS := ⟨0, [], [(0, .dat .str), (3, .dat aa)]⟩
def Et : Par := ⟨bg.tab, (av []), (fun _ => ak []), (fun _ => ak [(4, xz)])⟩
def R7 : KT := aB bg.tab [.tmp 2] [.bool]
def Eu (fuel lo : Nat) (p : List Nat) : Sg → KT → Option AV := xc (aH fi0 hs0 fuel 0) Et lo fuel (sub ((Tryz.f179.body).getD .skip) p)
def kX (fuel n : Nat) : gS AV := fun key i => aD 0 xz (Eu fuel 0 [1, 1, 0, 1, 0, 0]) (ai 0 (ax 0 none (Eu fuel 0 [1, 1, 1]) R7)) n ⟨mkE 36 [(0, .val .str key), (3, .val aa i)], mkH 0 []⟩
theorem J1 (fuel n4 : Nat) : kX fuel (n4 + 1) = jz true (sm mp) (kX fuel n4) := by kernel_rfl
theorem J2 : ∀ n, kX FU n = mp2 mp (kY n) := ba (by kernel_rfl) fun n4 _ h => (J1 FU n4).trans (by rw [h]; funext _ _; simp only [jz, ss])
theorem R6 : ap Tryz.prog 179 (Es) := evX Tryz.func179 (S := Et) aJ (ah trivial) (tys := [.bool]) (fun fuel x => qA true (sm mp) (kX fuel fuel) x.1) (fun x => by show _ = Option.map mp _; rw [J2 FU]; simp only [qA, jA, ss])
def lg (m : Bool) {β : Type} (K : Bool → Option β) (a : ac.den) (b : ac.den) : Option β := (nq m [2, 2, 3, 1] (decide (a.1 = b.1)) (K (bif (decide (a.1 = b.1)) then (decide (a.2.1 = b.2.1)) else false)))
def d0 (a : ac.den) (b : ac.den) : Option Bool := lg false some a b
def pn (r : Bool) : AV := .val .bool r
def xQ : Ent := evE (.cons ac (.cons ac .unit)) pn (zero .bool) (fun x => d0 x.1 x.2.1)
def KR : Par := ⟨bg.tab, (av []), (fun _ => ak []), (fun _ => ak [])⟩
theorem KP : ap Tryz.prog 224 (xQ) := evX Tryz.func224 (S := KR) aJ (ah trivial) (tys := [.bool]) (fun fuel x => lg true (sm pn) x.1 x.2.1) (fun x => by show _ = Option.map pn _; simp only [lg, d0, ss])
def v7 (m : Bool) {β : Type} (K : Bool → Option β) (a : ac.den) (b : ac.den) : Option β := (bif (!decide (a.1 = b.1)) then (K (decide (a.1 < b.1))) else (K (decide (a.2.1 < b.2.1))))
def gv (a : ac.den) (b : ac.den) : Option Bool := v7 false some a b
def Dv (r : Bool) : AV := .val .bool r
def Dw : Ent := evE (.cons ac (.cons ac .unit)) Dv (zero .bool) (fun x => gv x.1 x.2.1)
def ZL : Par := ⟨bg.tab, (av []), (fun _ => ak []), (fun _ => ak [])⟩
theorem MU : ap Tryz.prog 223 (Dw) := evX Tryz.func223 (S := ZL) aJ (ah trivial) (tys := [.bool]) (fun fuel x => v7 true (sm Dv) x.1 x.2.1) (fun x => by show _ = Option.map Dv _; simp only [v7, gv, ss])
abbrev E5 := (List ac.den)
abbrev qU (β : Type) := (List ac.den) → Int → (List ac.den) → Int → Option β
abbrev aaC (β : Type) := (List ac.den) → Int → Int → (List ac.den) → Option β
def Bv (m : Bool) {β : Type} (K : E5 → Option β) (k_l3 : qU β) : aaC β := fun l id i out => (fz m aa (w64 (i + 1)) fun y3_ => (k_l3 l id out y3_))
def Bu (m : Bool) {β : Type} (K : E5 → Option β) (k_l3 : qU β) : qU β := fun l id out i => (bif (decide (i < (il l))) then (ck (bd i l.length) (bif (decide ((ix ac l i).1 = id)) then (ck (bd i l.length) (ck (lm (List.length out + List.length ([(ix ac l i)] : List ac.den))) (fz m (.slice ac) (out ++ [(ix ac l i)]) fun y3_ => (Bv m K k_l3 l id i y3_)))) else (Bv m K k_l3 l id i out))) else (K out))
def QN (m : Bool) {β : Type} (K : E5 → Option β) (k_l3 : qU β) (l : (List ac.den)) (id : Int) : Option β := (k_l3 l id [] 0)
def yY : Nat → qU E5 := lp (fun _ _ _ _ => none) fun k_l3 => Bu false some k_l3
def Bw (l : (List ac.den)) (id : Int) : Option E5 := QN false some (yY FU) l id
def Ln (r : E5) : AV := .val (.slice ac) r
def ady : Ent := evE (.cons (.slice ac) (.cons aa .unit)) Ln (zero (.slice ac)) (fun x => Bw x.1 x.2.1)
def QO : MS := ⟨0, [], [(0, .dat (.slice ac)), (1, .dat aa), (5, .own ac 86), (6, .dat aa)]⟩
def aaD : MS := ⟨0, [], [(0, .dat (.slice ac)), (1, .dat aa), (5, .own ac 86), (6, .dat aa)]⟩
def adz : Par := ⟨bg.tab, (av []), (fun _ => ak [(4, aaD)]), (fun _ => ak [(3, QO)])⟩
def aia : KT := aB bg.tab [.tmp 4] [(.slice ac)]
def adA (fuel lo : Nat) (p : List Nat) : Sg → KT → Option AV := xc (aH fi0 hs0 fuel 0) adz lo fuel (sub ((Tryz.f108.body).getD .skip) p)
def yX (fuel n : Nat) : qU AV := fun l id out i => aD 0 QO (adA fuel 0 [1, 1, 0, 1, 0, 0]) (ai 0 (ax 0 none (adA fuel 0 [1, 1, 1]) aia)) n ⟨mkE 28 [(0, .val (.slice ac) l), (1, .val aa id), (5, .own 0 0 ac out), (6, .val aa i)], mkH 1 [(0, .row ac 86 0)]⟩
theorem aaE (fuel n3 : Nat) : yX fuel (n3 + 1) = Bu true (sm Ln) (yX fuel n3) := by kernel_rfl
theorem aaF : ∀ n, yX FU n = mp4 Ln (yY n) := ba (by kernel_rfl) fun n3 _ h => (aaE FU n3).trans (by rw [h]; funext _ _ _ _; simp only [Bu, Bv, ss])
theorem ah9 : ap Tryz.prog 108 (ady) := evX Tryz.func108 (S := adz) aJ (ah trivial) (tys := [(.slice ac)]) (fun fuel x => QN true (sm Ln) (yX fuel fuel) x.1 x.2.1) (fun x => by show _ = Option.map Ln _; rw [aaF FU]; simp only [QN, Bw, Bv, ss])
abbrev gN (β : Type) := (List ac.den) → Int → Option β
def adk (x0 : ac.den) (x1 : ac.den) : Bool := (gv x0 x1).isSome
def adl (x0 : ac.den) (x1 : ac.den) : Bool := (gv x0 x1).getD (zero .bool)
def js (m : Bool) {β : Type} (K : Bool → Option β) (k_l2 : gN β) : gN β := fun l i => (bif (decide (i < (il l))) then (ck (bd i l.length) (cl m .bool (bT ((ix ac l i).1)) fun r1 => (nm m 2 (!(!r1)) (bd i l.length) (nq m [2, 2, 2, 0] (!(!r1)) (nm m 2 (!(bif (!r1) then true else (decide ((ix ac l i).2.1 < 1)))) (bd i l.length) (nq m [2, 2, 2, 0] (!(bif (!r1) then true else (decide ((ix ac l i).2.1 < 1)))) (nq m [2, 2] (!(bif (bif (!r1) then true else (decide ((ix ac l i).2.1 < 1))) then true else (decide ((ix ac l i).2.1 ≥ 48)))) (nq m [2] ((!(bif (bif (!r1) then true else (decide ((ix ac l i).2.1 < 1))) then true else (decide ((ix ac l i).2.1 ≥ 48)))) && (decide (i > 0))) (nm m 2 ((!(bif (bif (!r1) then true else (decide ((ix ac l i).2.1 < 1))) then true else (decide ((ix ac l i).2.1 ≥ 48)))) && (decide (i > 0))) (bd (w64 (i - 1)) l.length) (nq m [2] ((!(bif (bif (!r1) then true else (decide ((ix ac l i).2.1 < 1))) then true else (decide ((ix ac l i).2.1 ≥ 48)))) && (decide (i > 0))) (nm m 2 ((!(bif (bif (!r1) then true else (decide ((ix ac l i).2.1 < 1))) then true else (decide ((ix ac l i).2.1 ≥ 48)))) && (decide (i > 0))) (bd i l.length) (nq m [2] ((!(bif (bif (!r1) then true else (decide ((ix ac l i).2.1 < 1))) then true else (decide ((ix ac l i).2.1 ≥ 48)))) && (decide (i > 0))) (nm m 2 ((!(bif (bif (!r1) then true else (decide ((ix ac l i).2.1 < 1))) then true else (decide ((ix ac l i).2.1 ≥ 48)))) && (decide (i > 0))) (adk (ix ac l (w64 (i - 1))) (ix ac l i)) (nq m [2] ((!(bif (bif (!r1) then true else (decide ((ix ac l i).2.1 < 1))) then true else (decide ((ix ac l i).2.1 ≥ 48)))) && (decide (i > 0))) (nm m 0 (!(bif (bif (!r1) then true else (decide ((ix ac l i).2.1 < 1))) then true else (decide ((ix ac l i).2.1 ≥ 48)))) ((ii ((!(bif (bif (!r1) then true else (decide ((ix ac l i).2.1 < 1))) then true else (decide ((ix ac l i).2.1 ≥ 48)))) && (decide (i > 0)))) && true) (nq m [0] (!(bif (bif (!r1) then true else (decide ((ix ac l i).2.1 < 1))) then true else (decide ((ix ac l i).2.1 ≥ 48)))) (bif (bif (bif (bif (!r1) then true else (decide ((ix ac l i).2.1 < 1))) then true else (decide ((ix ac l i).2.1 ≥ 48))) then true else (bif (decide (i > 0)) then (!(adl (ix ac l (w64 (i - 1))) (ix ac l i))) else false)) then (K false) else (fz m aa (w64 (i + 1)) fun y1_ => (k_l2 l y1_))))))))))))))))))) else (K true))
def qp (m : Bool) {β : Type} (K : Bool → Option β) (k_l2 : gN β) (l : (List ac.den)) : Option β := (k_l2 l 0)
def kN : Nat → gN Bool := lp (fun _ _ => none) fun k_l2 => js false some k_l2
def jt (l : (List ac.den)) : Option Bool := qp false some (kN FU) l
def mf (r : Bool) : AV := .val .bool r
def Eh : Ent := evE (.cons (.slice ac) .unit) mf (zero .bool) (fun x => jt x.1)
def xu : MS := ⟨0, [], [(0, .dat (.slice ac)), (3, .dat aa)]⟩
def Ei : Par := ⟨bg.tab, (av [(109, du), (223, Dw)]), (fun _ => ak []), (fun _ => ak [(2, xu)])⟩
def RX : KT := aB bg.tab [.tmp 2] [.bool]
def Ej (fuel lo : Nat) (p : List Nat) : Sg → KT → Option AV := xc (aH fi0 hs0 fuel 0) Ei lo fuel (sub ((Tryz.f209.body).getD .skip) p)
def kM (fuel n : Nat) : gN AV := fun l i => aD 0 xu (Ej fuel 0 [1, 0, 1, 0, 0]) (ai 0 (ax 0 none (Ej fuel 0 [1, 1]) RX)) n ⟨mkE 50 [(0, .val (.slice ac) l), (3, .val aa i)], mkH 0 []⟩
theorem JE (fuel n2 : Nat) : kM fuel (n2 + 1) = js true (sm mf) (kM fuel n2) := by kernel_rfl
theorem JF : ∀ n, kM FU n = mp2 mf (kN n) := ba (by kernel_rfl) fun n2 _ h => (JE FU n2).trans (by rw [h]; funext _ _; simp only [js, ss])
theorem RW : ap Tryz.prog 209 (Eh) := evX Tryz.func209 (S := Ei) aJ (ah ⟨eJ, MU, trivial⟩) (tys := [.bool]) (fun fuel x => qp true (sm mf) (kM fuel fuel) x.1) (fun x => by show _ = Option.map mf _; rw [JF FU]; simp only [qp, jt, ss])
abbrev gR (β : Type) := (List ac.den) → Int → Option β
def jx (m : Bool) {β : Type} (K : Bool → Option β) (k_l2 : gR β) : gR β := fun l i => (bif (decide (i < (il l))) then (ck (bd i l.length) (bif (eqD aF (ix ac l i).2.2.1 (0, false, [], 0, ())) then (K false) else (fz m aa (w64 (i + 1)) fun y1_ => (k_l2 l y1_)))) else (cl m .bool (jt l) fun r1 => (K r1)))
def qz (m : Bool) {β : Type} (K : Bool → Option β) (k_l2 : gR β) (l : (List ac.den)) : Option β := (k_l2 l 0)
def kW : Nat → gR Bool := lp (fun _ _ => none) fun k_l2 => jx false some k_l2
def jy (l : (List ac.den)) : Option Bool := qz false some (kW FU) l
def mo (r : Bool) : AV := .val .bool r
def Ep : Ent := evE (.cons (.slice ac) .unit) mo (zero .bool) (fun x => jy x.1)
def xy : MS := ⟨0, [], [(0, .dat (.slice ac)), (3, .dat aa)]⟩
def Eq : Par := ⟨bg.tab, (av [(209, Eh)]), (fun _ => ak []), (fun _ => ak [(2, xy)])⟩
def R5 : KT := aB bg.tab [.tmp 2] [.bool]
def Er (fuel lo : Nat) (p : List Nat) : Sg → KT → Option AV := xc (aH fi0 hs0 fuel 0) Eq lo fuel (sub ((Tryz.f177.body).getD .skip) p)
def kV (fuel n : Nat) : gR AV := fun l i => aD 0 xy (Er fuel 0 [1, 0, 1, 0, 0]) (ai 0 (ax 0 none (Er fuel 0 [1, 1]) R5)) n ⟨mkE 19 [(0, .val (.slice ac) l), (3, .val aa i)], mkH 0 []⟩
theorem JY (fuel n2 : Nat) : kV fuel (n2 + 1) = jx true (sm mo) (kV fuel n2) := by kernel_rfl
theorem JZ : ∀ n, kV FU n = mp2 mo (kW n) := ba (by kernel_rfl) fun n2 _ h => (JY FU n2).trans (by rw [h]; funext _ _; simp only [jx, ss])
theorem R4 : ap Tryz.prog 177 (Ep) := evX Tryz.func177 (S := Eq) aJ (ah ⟨RW, trivial⟩) (tys := [.bool]) (fun fuel x => qz true (sm mo) (kV fuel fuel) x.1) (fun x => by show _ = Option.map mo _; rw [JZ FU]; simp only [qz, jy, ss])
abbrev jv (β : Type) := aw.den → Int → Int → Int → Int → Option β
def AO (x0 : ac.den) (x1 : ac.den) : Bool := (d0 x0 x1).isSome
def NP (x0 : ac.den) (x1 : ac.den) : Bool := (d0 x0 x1).getD (zero .bool)
def mn (m : Bool) {β : Type} (K : aF.den → Option β) (k_l3 : jv β) : jv β := fun t0 id field lo hi => (bif (decide (lo < hi)) then (ck (!decide ((2 : Int) = 0)) (ck (bd (w64 (Int.tdiv (w64 (lo + hi)) 2)) t0.1.length) (cl m .bool (gv (ix ac t0.1 (w64 (Int.tdiv (w64 (lo + hi)) 2))) (id, field, (0, false, [], 0, ()), ())) fun r1 => (bif r1 then (fz m aa (w64 ((w64 (Int.tdiv (w64 (lo + hi)) 2)) + 1)) fun y3_ => (k_l3 t0 id field y3_ hi)) else (fz m aa (w64 (Int.tdiv (w64 (lo + hi)) 2)) fun y4_ => (k_l3 t0 id field lo y4_)))))) else (nq m [2] (decide (lo < (il t0.1))) (nm m 2 (decide (lo < (il t0.1))) (bd lo t0.1.length) (nq m [2] (decide (lo < (il t0.1))) (nm m 2 (decide (lo < (il t0.1))) (AO (ix ac t0.1 lo) (id, field, (0, false, [], 0, ()), ())) (nq m [1] (decide (lo < (il t0.1))) (bif (bif (decide (lo < (il t0.1))) then (NP (ix ac t0.1 lo) (id, field, (0, false, [], 0, ()), ())) else false) then (ck (bd lo t0.1.length) (K ((ix ac t0.1 lo).2.2.1))) else (K (0, false, [], 0, ())))))))))
def tK (m : Bool) {β : Type} (K : aF.den → Option β) (k_l3 : jv β) (t0 : aw.den) (id : Int) (field : Int) : Option β := (fz m aa (il t0.1) fun y4_ => (k_l3 t0 id field 0 y4_))
def nG : Nat → jv aF.den := lp (fun _ _ _ _ _ => none) fun k_l3 => mn false some k_l3
def qy (t0 : aw.den) (id : Int) (field : Int) : Option aF.den := tK false some (nG FU) t0 id field
def oZ (r : aF.den) : AV := .val aF r
def JU : Ent := evE (.cons aw (.cons aa (.cons aa .unit))) oZ (zero aF) (fun x => qy x.1 x.2.1 x.2.2.1)
def Ab : MS := ⟨6, [(0, [.dat (.slice ac)]), (1, [.dat aa, .dat .bool, .dat .str, .dat aa]), (5, [.dat aa, .dat aa, .dat aa, .dat .bool, .dat .str, .dat aa])], [(3, .keep), (6, .keep), (7, .keep), (8, .dat aa), (9, .dat aa)]⟩
def JV : Par := ⟨bg.tab, (av [(223, Dw), (224, xQ)]), (fun _ => ak []), (fun _ => ak [(3, Ab)])⟩
def US : KT := aB bg.tab [.cell 6 51] [aF]
def JW (fuel lo : Nat) (p : List Nat) : Sg → KT → Option AV := xc (aH fi0 hs0 fuel 0) JV lo fuel (sub ((Tryz.f210.body).getD .skip) p)
def nF (fuel n : Nat) : jv AV := fun t0 id field lo hi => aD 0 Ab (JW fuel 0 [1, 1, 1, 0, 0, 0]) (ai 0 (ax 0 none (JW fuel 0 [1, 1, 1, 1]) US)) n ⟨mkE 55 [(3, .box 0 0), (6, .box 1 0), (7, .box 5 0), (8, .val aa lo), (9, .val aa hi)], mkH 6 [(0, .box [.val (.slice ac) t0.1]), (1, .box [.val aa (0 : Int), .val .bool false, .val .str [], .val aa (0 : Int)]), (5, .box [.val aa id, .val aa field, .val aa (0 : Int), .val .bool false, .val .str [], .val aa (0 : Int)])]⟩
theorem M6 (fuel n3 : Nat) : nF fuel (n3 + 1) = mn true (sm oZ) (nF fuel n3) := by kernel_rfl
theorem M7 : ∀ n, nF FU n = mp5 oZ (nG n) := ba (by kernel_rfl) fun n3 _ h => (M6 FU n3).trans (by rw [h]; funext _ _ _ _ _; simp only [mn, ss])
theorem UR : ap Tryz.prog 210 (JU) := evX Tryz.func210 (S := JV) aJ (ah ⟨MU, KP, trivial⟩) (tys := [aF]) (fun fuel x => tK true (sm oZ) (nF fuel fuel) x.1 x.2.1 x.2.2.1) (fun x => by show _ = Option.map oZ _; rw [M7 FU]; simp only [tK, qy, ss])
def HT (m : Bool) {β : Type} (K : aF.den → Option β) (t0 : aw.den) (id : Int) (field : Int) : Option β := (cl m aF (qy t0 id field) fun r1 => (K r1))
def vh (t0 : aw.den) (id : Int) (field : Int) : Option aF.den := HT false some t0 id field
def O1 (r : aF.den) : AV := .val aF r
def Xs : Ent := evE (.cons aw (.cons aa (.cons aa .unit))) O1 (zero aF) (fun x => vh x.1 x.2.1 x.2.2.1)
def afV : Par := ⟨bg.tab, (av [(210, JU)]), (fun _ => ak []), (fun _ => ak [])⟩
theorem afU : ap Tryz.prog 178 (Xs) := evX Tryz.func178 (S := afV) aJ (ah ⟨UR, trivial⟩) (tys := [aF]) (fun fuel x => HT true (sm O1) x.1 x.2.1 x.2.2.1) (fun x => by show _ = Option.map O1 _; simp only [HT, vh, ss])
abbrev jl (β : Type) := aw.den → (List Int) → Int → Option β
abbrev TA (β : Type) := Int → aw.den → (List Int) → Option β
def pN (m : Bool) {β : Type} (K : (List Int) → Option β) (k_l3 : jl β) : TA β := fun i t0 l => (fz m aa (w64 (i + 1)) fun y2_ => (k_l3 t0 l y2_))
def pM (m : Bool) {β : Type} (K : (List Int) → Option β) (k_l3 : jl β) : jl β := fun t0 l i => (bif (decide (i < (il t0.1))) then (nq m [2] (!(decide (i = 0))) (nm m 2 (!(decide (i = 0))) (bd i t0.1.length) (nq m [2, 2, 2, 2] (!(decide (i = 0))) (nm m 2 (!(decide (i = 0))) (bd (w64 (i - 1)) t0.1.length) (nq m [2, 2, 3, 0] (!(decide (i = 0))) (bif (bif (decide (i = 0)) then true else (!decide ((ix ac t0.1 i).1 = (ix ac t0.1 (w64 (i - 1))).1))) then (ck (bd i t0.1.length) (ck (lm (List.length l + List.length ([(ix ac t0.1 i).1] : List Int))) (fz m (.slice aa) (l ++ [(ix ac t0.1 i).1]) fun y2_ => (pN m K k_l3 i t0 y2_)))) else (pN m K k_l3 i t0 l))))))) else (K l))
def za (m : Bool) {β : Type} (K : (List Int) → Option β) (k_l3 : jl β) (t0 : aw.den) : Option β := (k_l3 t0 [] 0)
def rj : Nat → jl (List Int) := lp (fun _ _ _ => none) fun k_l3 => pM false some k_l3
def pO (t0 : aw.den) : Option (List Int) := za false some (rj FU) t0
def uX (r : (List Int)) : AV := .val (.slice aa) r
def Q7 : Ent := evE (.cons aw .unit) uX (zero (.slice aa)) (fun x => pO x.1)
def Ft : MS := ⟨1, [(0, [.dat (.slice ac)])], [(1, .keep), (3, .own aa 3), (4, .dat aa)]⟩
def TB : MS := ⟨1, [(0, [.dat (.slice ac)])], [(1, .keep), (3, .own aa 3), (4, .dat aa)]⟩
def Q8 : Par := ⟨bg.tab, (av []), (fun _ => ak [(4, TB)]), (fun _ => ak [(3, Ft)])⟩
def aaT : KT := aB bg.tab [.tmp 2] [(.slice aa)]
def Q9 (fuel lo : Nat) (p : List Nat) : Sg → KT → Option AV := xc (aH fi0 hs0 fuel 0) Q8 lo fuel (sub ((Tryz.f135.body).getD .skip) p)
def ri (fuel n : Nat) : jl AV := fun t0 l i => aD 0 Ft (Q9 fuel 0 [1, 1, 0, 1, 0, 0]) (ai 0 (ax 0 none (Q9 fuel 0 [1, 1, 1]) aaT)) n ⟨mkE 40 [(1, .box 0 0), (3, .own 1 0 aa l), (4, .val aa i)], mkH 2 [(0, .box [.val (.slice ac) t0.1]), (1, .row aa 3 0)]⟩
theorem TC (fuel n3 : Nat) : ri fuel (n3 + 1) = pM true (sm uX) (ri fuel n3) := by kernel_rfl
theorem TD : ∀ n, ri FU n = mp3 uX (rj n) := ba (by kernel_rfl) fun n3 _ h => (TC FU n3).trans (by rw [h]; funext _ _ _; simp only [pM, pN, ss])
theorem aaS : ap Tryz.prog 135 (Q7) := evX Tryz.func135 (S := Q8) aJ (ah trivial) (tys := [(.slice aa)]) (fun fuel x => za true (sm uX) (ri fuel fuel) x.1) (fun x => by show _ = Option.map uX _; rw [TD FU]; simp only [za, pO, pN, ss])
def mq (x0 : Int) : Bool := (bT x0).isSome
def wg (x0 : Int) : Bool := (bT x0).getD (zero .bool)
def nT (m : Bool) {β : Type} (K : Bool → Option β) (v : aF.den) : Option β := (nq m [2, 2, 0] (!(decide (v.1 < 5))) (nq m [2, 2, 2] (!(bif (decide (v.1 < 5)) then true else (decide (v.1 > 22)))) (nq m [2] ((!(bif (decide (v.1 < 5)) then true else (decide (v.1 > 22)))) && (!decide (v.2.2.2.1 = 0))) (nm m 1 ((!(bif (decide (v.1 < 5)) then true else (decide (v.1 > 22)))) && (!decide (v.2.2.2.1 = 0))) (mq (v.2.2.2.1)) (nq m [2] ((!(bif (decide (v.1 < 5)) then true else (decide (v.1 > 22)))) && (!decide (v.2.2.2.1 = 0))) (nm m 0 (!(bif (decide (v.1 < 5)) then true else (decide (v.1 > 22)))) ((ii ((!(bif (decide (v.1 < 5)) then true else (decide (v.1 > 22)))) && (!decide (v.2.2.2.1 = 0)))) && true) (nq m [0] (!(bif (decide (v.1 < 5)) then true else (decide (v.1 > 22)))) (bif (bif (bif (decide (v.1 < 5)) then true else (decide (v.1 > 22))) then true else (bif (!decide (v.2.2.2.1 = 0)) then (!(wg (v.2.2.2.1))) else false)) then (K false) else (nq m [2, 2, 0] (!(decide (v.1 = 12))) (nq m [2, 2, 0] (!(bif (decide (v.1 = 12)) then true else (decide (v.1 = 16)))) (nq m [2, 1] (!decide (v.2.2.2.1 = 0)) (nq m [2, 2, 1] (bif (!decide (v.2.2.2.1 = 0)) then (!(bif (bif (decide (v.1 = 12)) then true else (decide (v.1 = 16))) then true else (decide (v.1 = 9)))) else false) (bif (bif (bif (!decide (v.2.2.2.1 = 0)) then (!(bif (bif (decide (v.1 = 12)) then true else (decide (v.1 = 16))) then true else (decide (v.1 = 9)))) else false) then (!decide (v.1 = 17)) else false) then (K false) else (nq m [2, 2, 2] (v.2.1) (nq m [2, 2, 2] (v.2.1 && (!(decide (v.2.2.2.1 = 0)))) (nq m [2, 2] ((v.2.1 && (!(decide (v.2.2.2.1 = 0)))) && (!decide (v.1 = 16))) (nm m 0 (v.2.1 && (!(decide (v.2.2.2.1 = 0)))) ((ii ((v.2.1 && (!(decide (v.2.2.2.1 = 0)))) && (!decide (v.1 = 16)))) && true) (nm m 0 (v.2.1) (ii (v.2.1 && (!(decide (v.2.2.2.1 = 0))))) (nq m [1] (v.2.1) (bif (bif v.2.1 then (bif (decide (v.2.2.2.1 = 0)) then true else (bif (!decide (v.1 = 16)) then (!decide (v.1 = 9)) else false)) else false) then (K false) else (nq m [2, 2, 1] (bif (bif (decide (v.1 = 12)) then true else (decide (v.1 = 16))) then true else (decide (v.1 = 9))) (bif (bif (bif (bif (decide (v.1 = 12)) then true else (decide (v.1 = 16))) then true else (decide (v.1 = 9))) then (!decide (v.2.2.2.1 = 0)) else false) then (K (decide (v.2.2.1 = []))) else (cl m .bool (cY (v.1) (v.2.2.1)) fun r1 => (K r1))))))))))))))))))))))))
def gY (v : aF.den) : Option Bool := nT false some v
def sH (r : Bool) : AV := .val .bool r
def Aw : Ent := evE (.cons aF .unit) sH (zero .bool) (fun x => gY x.1)
def NA : Par := ⟨bg.tab, (av [(109, du), (195, o9)]), (fun _ => ak []), (fun _ => ak [])⟩
theorem Nz : ap Tryz.prog 181 (Aw) := evX Tryz.func181 (S := NA) aJ (ah ⟨eJ, xE, trivial⟩) (tys := [.bool]) (fun fuel x => nT true (sm sH) x.1) (fun x => by show _ = Option.map sH _; simp only [nT, gY, ss])
def UV (x0 : Str) (x1 : Bool) : Bool := (eM x0 x1).isSome
def UW (x0 : Str) (x1 : Bool) : Bool := (eM x0 x1).getD (zero .bool)
def ru (m : Bool) {β : Type} (K : Bool → Option β) (kind : Int) (field : Int) (v : aF.den) : Option β := (bif (eqD aF v (0, false, [], 0, ())) then (K true) else (nq m [2, 0] (!(decide (kind < 1))) (bif (bif (decide (kind < 1)) then true else (decide (kind > 5))) then (K false) else (bif (decide (field = 1)) then (K (eqD aF v (kind, false, [], 0, ()))) else (nq m [2, 1] (decide (field = 2)) (bif (bif (decide (field = 2)) then (decide (kind = 1)) else false) then (K (eqD aF v (1, false, [], 0, ()))) else (bif (decide (field = 2)) then (nq m [2, 2, 0] (!(decide (v.1 < 0))) (nq m [2, 0] (!(bif (decide (v.1 < 0)) then true else (decide (v.1 > 3)))) (nq m [2] (!(bif (bif (decide (v.1 < 0)) then true else (decide (v.1 > 3))) then true else v.2.1)) (nm m 1 (!(bif (bif (decide (v.1 < 0)) then true else (decide (v.1 > 3))) then true else v.2.1)) (mq (v.2.2.2.1)) (nq m [2, 0] (!(bif (bif (decide (v.1 < 0)) then true else (decide (v.1 > 3))) then true else v.2.1)) (bif (bif (bif (bif (decide (v.1 < 0)) then true else (decide (v.1 > 3))) then true else v.2.1) then true else (!(wg (v.2.2.2.1)))) then (K false) else (bif (decide (v.1 = 0)) then (cl m .bool (jA (v.2.2.1)) fun r1 => (K r1)) else (K (decide (v.2.2.1 = [])))))))))) else (nq m [2, 1] (decide (field = 3)) (bif (bif (decide (field = 3)) then (!decide (kind = 5)) else false) then (cl m aa (eh (v.2.2.1)) fun r2 => (bif (!eqD aF v (0, false, v.2.2.1, 0, ())) then (K false) else (nq m [2, 0] (!(decide (kind = 1))) (bif (bif (decide (kind = 1)) then true else (decide (kind = 3))) then (K (decide (r2 = 2))) else (K (decide (r2 = 1))))))) else (nq m [2, 1] (decide (field = 4)) (bif (bif (decide (field = 4)) then (decide (kind = 5)) else false) then (cl m .bool (gY v) fun r3 => (K r3)) else (nq m [2, 1] (decide (field ≥ 8)) (bif (bif (decide (field ≥ 8)) then (decide (field < 48)) else false) then (nq m [2, 2, 2] (eqD aF v (0, false, v.2.2.1, 0, ())) (nq m [2] ((eqD aF v (0, false, v.2.2.1, 0, ())) && (decide (kind = 1))) (nm m 0 (eqD aF v (0, false, v.2.2.1, 0, ())) ((ii ((eqD aF v (0, false, v.2.2.1, 0, ())) && (decide (kind = 1)))) && true) (nm m 2 (eqD aF v (0, false, v.2.2.1, 0, ())) (UV (v.2.2.1) (bif (decide (kind = 1)) then (decide (field = 10)) else false)) (nq m [1] (eqD aF v (0, false, v.2.2.1, 0, ())) (K (bif (eqD aF v (0, false, v.2.2.1, 0, ())) then (UW (v.2.2.1) (bif (decide (kind = 1)) then (decide (field = 10)) else false)) else false))))))) else (K false))))))))))))))
def gp (kind : Int) (field : Int) (v : aF.den) : Option Bool := ru false some kind field v
def w8 (r : Bool) : AV := .val .bool r
def w9 : Ent := evE (.cons aa (.cons aa (.cons aF .unit))) w8 (zero .bool) (fun x => gp x.1 x.2.1 x.2.2.1)
def Ue : Par := ⟨bg.tab, (av [(109, du), (179, Es), (180, vO), (181, Aw), (182, wh)]), (fun _ => ak []), (fun _ => ak [])⟩
theorem FH : ap Tryz.prog 137 (w9) := evX Tryz.func137 (S := Ue) aJ (ah ⟨eJ, R6, Dk, Nz, EA, trivial⟩) (tys := [.bool]) (fun fuel x => ru true (sm w8) x.1 x.2.1 x.2.2.1) (fun x => by show _ = Option.map w8 _; simp only [ru, gp, ss])
abbrev eO (β : Type) := aw.den → Int → Bool → Bool → Int → Option β
abbrev Kl (β : Type) := aw.den → Int → Int → Bool → Bool → Option β
abbrev Nn (β : Type) := aw.den → Int → Int → Bool → Bool → Option β
def mG (m : Bool) {β : Type} (K : Bool → Option β) (k_l6 : eO β) : Nn β := fun t0 i kind named shaped => (fz m aa (w64 (i + 1)) fun y4_ => (k_l6 t0 kind named shaped y4_))
def gd (m : Bool) {β : Type} (K : Bool → Option β) (k_l6 : eO β) : Kl β := fun t0 i kind named shaped => (ck (bd i t0.1.length) (ck (bd i t0.1.length) (cl m .bool (gp kind ((ix ac t0.1 i).2.1) ((ix ac t0.1 i).2.2.1)) fun r2 => (bif (!r2) then (K false) else (nm m 2 (!named) (bd i t0.1.length) (nq m [2, 2, 2, 0] (!named) (nm m 2 (!shaped) (bd i t0.1.length) (nq m [2, 2, 2, 0] (!shaped) (nq m [2] (!(decide (i = (w64 ((il t0.1) - 1))))) (nm m 2 (!(decide (i = (w64 ((il t0.1) - 1))))) (bd (w64 (i + 1)) t0.1.length) (nq m [2, 2] (!(decide (i = (w64 ((il t0.1) - 1))))) (nm m 2 (!(decide (i = (w64 ((il t0.1) - 1))))) (bd i t0.1.length) (nq m [2, 2, 3, 0] (!(decide (i = (w64 ((il t0.1) - 1))))) (bif (bif (decide (i = (w64 ((il t0.1) - 1)))) then true else (!decide ((ix ac t0.1 (w64 (i + 1))).1 = (ix ac t0.1 i).1))) then (nq m [2, 1] (decide (kind = 5)) (nq m [2, 2] (!(bif (decide (kind = 5)) then (!(bif shaped then true else (decide ((ix ac t0.1 i).2.1 = 4)))) else false)) (nq m [2] ((!(bif (decide (kind = 5)) then (!(bif shaped then true else (decide ((ix ac t0.1 i).2.1 = 4)))) else false)) && (!decide (kind = 5))) (nm m 0 (!(bif (decide (kind = 5)) then (!(bif shaped then true else (decide ((ix ac t0.1 i).2.1 = 4)))) else false)) ((ii ((!(bif (decide (kind = 5)) then (!(bif shaped then true else (decide ((ix ac t0.1 i).2.1 = 4)))) else false)) && (!decide (kind = 5)))) && true) (nq m [0] (!(bif (decide (kind = 5)) then (!(bif shaped then true else (decide ((ix ac t0.1 i).2.1 = 4)))) else false)) (bif (bif (bif (decide (kind = 5)) then (!(bif shaped then true else (decide ((ix ac t0.1 i).2.1 = 4)))) else false) then true else (bif (!decide (kind = 5)) then (!(bif named then true else (decide ((ix ac t0.1 i).2.1 = 3)))) else false)) then (K false) else (fz m .bool (bif named then true else (decide ((ix ac t0.1 i).2.1 = 3))) fun y3_ => (fz m .bool (bif shaped then true else (decide ((ix ac t0.1 i).2.1 = 4))) fun y4_ => (mG m K k_l6 t0 i kind y3_ y4_))))))))) else (fz m .bool (bif named then true else (decide ((ix ac t0.1 i).2.1 = 3))) fun y3_ => (fz m .bool (bif shaped then true else (decide ((ix ac t0.1 i).2.1 = 4))) fun y4_ => (mG m K k_l6 t0 i kind y3_ y4_)))))))))))))))))
def mF (m : Bool) {β : Type} (K : Bool → Option β) (k_l6 : eO β) : eO β := fun t0 kind named shaped i => (bif (decide (i < (il t0.1))) then (nm m 2 (!(decide (i = 0))) (bd i t0.1.length) (nq m [2, 2, 2] (!(decide (i = 0))) (nm m 2 (!(decide (i = 0))) (bd (w64 (i - 1)) t0.1.length) (nq m [2, 2, 3, 0] (!(decide (i = 0))) (bif (bif (decide (i = 0)) then true else (!decide ((ix ac t0.1 i).1 = (ix ac t0.1 (w64 (i - 1))).1))) then (ck (bd i t0.1.length) (bif (!decide ((ix ac t0.1 i).2.1 = 1)) then (K false) else (ck (bd i t0.1.length) (fz m aa ((ix ac t0.1 i).2.2.1.1) fun y2_ => (gd m K k_l6 t0 i y2_ false false))))) else (gd m K k_l6 t0 i kind named shaped)))))) else (K true))
def tY (m : Bool) {β : Type} (K : Bool → Option β) (k_l6 : eO β) (t0 : aw.den) : Option β := (cl m .bool (jy (t0.1)) fun r1 => (bif (!r1) then (K false) else (k_l6 t0 0 false false 0)))
def jH : Nat → eO Bool := lp (fun _ _ _ _ _ => none) fun k_l6 => mF false some k_l6
def mH (t0 : aw.den) : Option Bool := tY false some (jH FU) t0
def pc (r : Bool) : AV := .val .bool r
def Kn : Ent := evE (.cons aw .unit) pc (zero .bool) (fun x => mH x.1)
def As : MS := ⟨0, [], [(3, .dat (.slice ac)), (4, .dat aa), (5, .dat .bool), (6, .dat .bool), (7, .dat aa)]⟩
def Km : MS := ⟨0, [], [(3, .dat (.slice ac)), (4, .dat aa), (5, .dat .bool), (6, .dat .bool), (7, .dat aa)]⟩
def Np : MS := ⟨0, [], [(3, .dat (.slice ac)), (4, .dat aa), (5, .dat .bool), (6, .dat .bool), (7, .dat aa)]⟩
def Ko : Par := ⟨bg.tab, (av [(177, Ep), (137, w9)]), (fun _ => ak [(12, Km), (7, Np)]), (fun _ => ak [(6, As)])⟩
def U9 : KT := aB bg.tab [.tmp 2] [.bool]
def Kp (fuel lo : Nat) (p : List Nat) : Sg → KT → Option AV := xc (aH fi0 hs0 fuel 0) Ko lo fuel (sub ((Tryz.f134.body).getD .skip) p)
def nL (fuel n : Nat) : eO AV := fun t0 kind named shaped i => aD 0 As (Kp fuel 0 [1, 1, 1, 1, 0, 1, 0, 0]) (ai 0 (ax 0 none (Kp fuel 0 [1, 1, 1, 1, 1]) U9)) n ⟨mkE 111 [(3, .val (.slice ac) t0.1), (4, .val aa kind), (5, .val .bool named), (6, .val .bool shaped), (7, .val aa i)], mkH 0 []⟩
theorem Nq (fuel n6 : Nat) : nL fuel (n6 + 1) = mF true (sm pc) (nL fuel n6) := by kernel_rfl
theorem Nr : ∀ n, nL FU n = mp5 pc (jH n) := ba (by kernel_rfl) fun n6 _ h => (Nq FU n6).trans (by rw [h]; funext _ _ _ _ _; simp only [mF, gd, mG, ss])
theorem U8 : ap Tryz.prog 134 (Kn) := evX Tryz.func134 (S := Ko) aJ (ah ⟨R4, FH, trivial⟩) (tys := [.bool]) (fun fuel x => tY true (sm pc) (nL fuel fuel) x.1) (fun x => by show _ = Option.map pc _; rw [Nr FU]; simp only [tY, mH, gd, mG, ss])
abbrev fH (β : Type) := Int → Int → aw.den → Int → Int → Option β
def ia (m : Bool) {β : Type} (K : Bool → Option β) (k_l2 : fH β) : fH β := fun to most t0 id i => (bif (decide (i < most)) then (cl m aF (vh t0 id 2) fun r1 => (bif (decide (r1.2.2.2.1 = to)) then (K true) else (bif (decide (r1.2.2.2.1 = 0)) then (K false) else (fz m aa (w64 (i + 1)) fun y4_ => (k_l2 to most t0 (r1.2.2.2.1) y4_))))) else (K false))
def n0 (m : Bool) {β : Type} (K : Bool → Option β) (k_l2 : fH β) (t0 : aw.den) (id : Int) (to : Int) (most : Int) : Option β := (k_l2 to most t0 id 0)
def iY : Nat → fH Bool := lp (fun _ _ _ _ _ => none) fun k_l2 => ia false some k_l2
def eY (t0 : aw.den) (id : Int) (to : Int) (most : Int) : Option Bool := n0 false some (iY FU) t0 id to most
def jU (r : Bool) : AV := .val .bool r
def AY : Ent := evE (.cons aw (.cons aa (.cons aa (.cons aa .unit)))) jU (zero .bool) (fun x => eY x.1 x.2.1 x.2.2.1 x.2.2.2.1)
def um : MS := ⟨1, [(0, [.dat (.slice ac)])], [(1, .dat aa), (2, .dat aa), (3, .dat aa), (4, .keep), (9, .dat aa)]⟩
def AZ : Par := ⟨bg.tab, (av [(178, Xs)]), (fun _ => ak []), (fun _ => ak [(2, um)])⟩
def NY : KT := aB bg.tab [.tmp 8] [.bool]
def Ba (fuel lo : Nat) (p : List Nat) : Sg → KT → Option AV := xc (aH fi0 hs0 fuel 0) AZ lo fuel (sub ((Tryz.f136.body).getD .skip) p)
def iX (fuel n : Nat) : fH AV := fun to most t0 id i => aD 0 um (Ba fuel 0 [1, 0, 1, 0, 0]) (ai 0 (ax 0 none (Ba fuel 0 [1, 1]) NY)) n ⟨mkE 24 [(1, .val aa id), (2, .val aa to), (3, .val aa most), (4, .box 0 0), (9, .val aa i)], mkH 1 [(0, .box [.val (.slice ac) t0.1])]⟩
theorem GW (fuel n2 : Nat) : iX fuel (n2 + 1) = ia true (sm jU) (iX fuel n2) := by kernel_rfl
theorem GX : ∀ n, iX FU n = mp5 jU (iY n) := ba (by kernel_rfl) fun n2 _ h => (GW FU n2).trans (by rw [h]; funext _ _ _ _ _; simp only [ia, ss])
theorem NX : ap Tryz.prog 136 (AY) := evX Tryz.func136 (S := AZ) aJ (ah ⟨afU, trivial⟩) (tys := [.bool]) (fun fuel x => n0 true (sm jU) (iX fuel fuel) x.1 x.2.1 x.2.2.1 x.2.2.2.1) (fun x => by show _ = Option.map jU _; rw [GX FU]; simp only [n0, eY, ss])
abbrev fe (β : Type) := Int → (List Int) → aw.den → (List Int) → Int → Option β
abbrev MJ (β : Type) := Int → (List Int) → Int → aw.den → (List Int) → Option β
def kH (m : Bool) {β : Type} (K : (List Int) → Option β) (k_l6 : fe β) : MJ β := fun id r2 i t0 out => (fz m aa (w64 (i + 1)) fun y4_ => (k_l6 id r2 t0 out y4_))
def EY (x0 : aw.den) (x1 : Int) (x2 : Int) (x3 : Int) : Bool := (eY x0 x1 x2 x3).isSome
def SE (x0 : aw.den) (x1 : Int) (x2 : Int) (x3 : Int) : Bool := (eY x0 x1 x2 x3).getD (zero .bool)
def kG (m : Bool) {β : Type} (K : (List Int) → Option β) (k_l6 : fe β) : fe β := fun id r2 t0 out i => (bif (decide (i < (il r2))) then (ck (bd i r2.length) (nm m 2 (!decide ((ix aa r2 i) = id)) (bd i r2.length) (nq m [2, 2, 2] (!decide ((ix aa r2 i) = id)) (ck (((ii (!decide ((ix aa r2 i) = id))) && ((ii (!decide ((ix aa r2 i) = id))) && ((ii (!decide ((ix aa r2 i) = id))) && ((ii (!decide ((ix aa r2 i) = id))) && true)))) && (aM (!decide ((ix aa r2 i) = id)) (EY t0 (ix aa r2 i) id (w64 ((il r2) + 1))))) (nq m [1] (!decide ((ix aa r2 i) = id)) (bif (bif (!decide ((ix aa r2 i) = id)) then (SE t0 (ix aa r2 i) id (w64 ((il r2) + 1))) else false) then (ck (bd i r2.length) (ck (lm (List.length out + List.length ([(ix aa r2 i)] : List Int))) (fz m (.slice aa) (out ++ [(ix aa r2 i)]) fun y4_ => (kH m K k_l6 id r2 i t0 y4_)))) else (kH m K k_l6 id r2 i t0 out))))))) else (K out))
def rA (m : Bool) {β : Type} (K : (List Int) → Option β) (k_l6 : fe β) (t0 : aw.den) (id : Int) : Option β := (cl m .bool (mH t0) fun r1 => (nm m 1 (!(!r1)) (mq id) (nq m [2, 0] (!(!r1)) (bif (bif (!r1) then true else (!(wg id))) then (K []) else (cl m (.slice aa) (pO t0) fun r2 => (k_l6 id r2 t0 [] 0))))))
def lP : Nat → fe (List Int) := lp (fun _ _ _ _ _ => none) fun k_l6 => kG false some k_l6
def kI (t0 : aw.den) (id : Int) : Option (List Int) := rA false some (lP FU) t0 id
def nr (r : (List Int)) : AV := .val (.slice aa) r
def FT : Ent := evE (.cons aw (.cons aa .unit)) nr (zero (.slice aa)) (fun x => kI x.1 x.2.1)
def yD : MS := ⟨1, [(0, [.dat (.slice ac)])], [(1, .dat aa), (2, .keep), (5, .own aa 3), (6, .dat (.slice aa)), (7, .dat aa)]⟩
def ML : MS := ⟨1, [(0, [.dat (.slice ac)])], [(1, .dat aa), (2, .keep), (5, .own aa 3), (6, .dat (.slice aa)), (7, .dat aa)]⟩
def FV : Par := ⟨bg.tab, (av [(134, Kn), (109, du), (135, Q7), (136, AY)]), (fun _ => ak [(7, ML)]), (fun _ => ak [(6, yD)])⟩
def Us : KT := aB bg.tab [.tmp 4] [(.slice aa)]
def FW (fuel lo : Nat) (p : List Nat) : Sg → KT → Option AV := xc (aH fi0 hs0 fuel 0) FV lo fuel (sub ((Tryz.f107.body).getD .skip) p)
def lO (fuel n : Nat) : fe AV := fun id r2 t0 out i => aD 0 yD (FW fuel 0 [1, 1, 1, 1, 0, 1, 0, 0]) (ai 0 (ax 0 none (FW fuel 0 [1, 1, 1, 1, 1]) Us)) n ⟨mkE 50 [(1, .val aa id), (2, .box 0 0), (5, .own 1 0 aa out), (6, .val (.slice aa) r2), (7, .val aa i)], mkH 2 [(0, .box [.val (.slice ac) t0.1]), (1, .row aa 3 0)]⟩
theorem MM (fuel n6 : Nat) : lO fuel (n6 + 1) = kG true (sm nr) (lO fuel n6) := by kernel_rfl
theorem MN : ∀ n, lO FU n = mp5 nr (lP n) := ba (by kernel_rfl) fun n6 _ h => (MM FU n6).trans (by rw [h]; funext _ _ _ _ _; simp only [kG, kH, ss])
theorem Ur : ap Tryz.prog 107 (FT) := evX Tryz.func107 (S := FV) aJ (ah ⟨U8, eJ, aaS, NX, trivial⟩) (tys := [(.slice aa)]) (fun fuel x => rA true (sm nr) (lO fuel fuel) x.1 x.2.1) (fun x => by show _ = Option.map nr _; rw [MN FU]; simp only [rA, kI, kH, ss])
abbrev pQ (β : Type) := (List Int) → Int → Int → Option β
def vd (m : Bool) {β : Type} (K : Bool → Option β) (k_l2 : pQ β) : pQ β := fun l x i => (bif (decide (i < (il l))) then (ck (bd i l.length) (bif (decide ((ix aa l i) = x)) then (K true) else (fz m aa (w64 (i + 1)) fun y2_ => (k_l2 l x y2_)))) else (K false))
def HB (m : Bool) {β : Type} (K : Bool → Option β) (k_l2 : pQ β) (l : (List Int)) (x : Int) : Option β := (k_l2 l x 0)
def vc : Nat → pQ Bool := lp (fun _ _ _ => none) fun k_l2 => vd false some k_l2
def oE (l : (List Int)) (x : Int) : Option Bool := HB false some (vc FU) l x
def B6 (r : Bool) : AV := .val .bool r
def wS : Ent := evE (.cons (.slice aa) (.cons aa .unit)) B6 (zero .bool) (fun x => oE x.1 x.2.1)
def LO : MS := ⟨0, [], [(0, .dat (.slice aa)), (1, .dat aa), (5, .dat aa)]⟩
def Wg : Par := ⟨bg.tab, (av []), (fun _ => ak []), (fun _ => ak [(2, LO)])⟩
def aeL : KT := aB bg.tab [.tmp 4] [.bool]
def Wh (fuel lo : Nat) (p : List Nat) : Sg → KT → Option AV := xc (aH fi0 hs0 fuel 0) Wg lo fuel (sub ((Tryz.f81.body).getD .skip) p)
def u9 (fuel n : Nat) : pQ AV := fun l x i => aD 0 LO (Wh fuel 0 [1, 0, 1, 0, 0]) (ai 0 (ax 0 none (Wh fuel 0 [1, 1]) aeL)) n ⟨mkE 18 [(0, .val (.slice aa) l), (1, .val aa x), (5, .val aa i)], mkH 0 []⟩
theorem We (fuel n2 : Nat) : u9 fuel (n2 + 1) = vd true (sm B6) (u9 fuel n2) := by kernel_rfl
theorem Wf : ∀ n, u9 FU n = mp3 B6 (vc n) := ba (by kernel_rfl) fun n2 _ h => (We FU n2).trans (by rw [h]; funext _ _ _; simp only [vd, ss])
theorem B5 : ap Tryz.prog 81 (wS) := evX Tryz.func81 (S := Wg) aJ (ah trivial) (tys := [.bool]) (fun fuel x => HB true (sm B6) (u9 fuel fuel) x.1 x.2.1) (fun x => by show _ = Option.map B6 _; rw [Wf FU]; simp only [HB, oE, ss])
abbrev pr (β : Type) := (List Int) → Int → Int → Option β
def up (m : Bool) {β : Type} (K : (List Int) → Option β) (k_l2 : pr β) : pr β := fun l x t5 => (nq m [2] (decide (t5 > 0)) (nm m 2 (decide (t5 > 0)) (bd (w64 (t5 - 1)) l.length) (nq m [2, 3, 1] (decide (t5 > 0)) (bif (bif (decide (t5 > 0)) then (decide ((ix aa l (w64 (t5 - 1))) ≥ x)) else false) then (ck (bd (w64 (t5 - 1)) l.length) (bif (decide ((ix aa l (w64 (t5 - 1))) = x)) then (K l) else (fz m aa (w64 (t5 - 1)) fun y2_ => (k_l2 l x y2_)))) else (ck (decide (0 ≤ t5) && decide (t5 ≤ (l.length : Int))) (ck (lm (List.length ([] : List Int) + List.length ((List.take (Int.toNat t5) l).drop 0))) (ck (lm (List.length ([] ++ ((List.take (Int.toNat t5) l).drop 0)) + List.length ([x] : List Int))) (ck (decide (0 ≤ t5) && decide (t5 ≤ (l.length : Int))) (ck (lm (List.length (([] ++ ((List.take (Int.toNat t5) l).drop 0)) ++ [x]) + List.length ((List.take (List.length l) l).drop (Int.toNat t5)))) (K ((([] ++ ((List.take (Int.toNat t5) l).drop 0)) ++ [x]) ++ ((List.take (List.length l) l).drop (Int.toNat t5)))))))))))))
def GY (m : Bool) {β : Type} (K : (List Int) → Option β) (k_l2 : pr β) (l : (List Int)) (x : Int) : Option β := (fz m aa (il l) fun y2_ => (k_l2 l x y2_))
def uo : Nat → pr (List Int) := lp (fun _ _ _ => none) fun k_l2 => up false some k_l2
def qR (l : (List Int)) (x : Int) : Option (List Int) := GY false some (uo FU) l x
def Bb (r : (List Int)) : AV := .val (.slice aa) r
def NZ : Ent := evE (.cons (.slice aa) (.cons aa .unit)) Bb (zero (.slice aa)) (fun x => qR x.1 x.2.1)
def K2 : MS := ⟨0, [], [(0, .dat (.slice aa)), (1, .dat aa), (5, .dat aa)]⟩
def VA : Par := ⟨bg.tab, (av []), (fun _ => ak []), (fun _ => ak [(2, K2)])⟩
def ael : KT := aB bg.tab [.tmp 4] [(.slice aa)]
def VB (fuel lo : Nat) (p : List Nat) : Sg → KT → Option AV := xc (aH fi0 hs0 fuel 0) VA lo fuel (sub ((Tryz.f60.body).getD .skip) p)
def un (fuel n : Nat) : pr AV := fun l x t5 => aD 0 K2 (VB fuel 0 [1, 1, 0, 0, 0]) (ai 0 (ax 0 none (VB fuel 0 [1, 1, 1]) ael)) n ⟨mkE 44 [(0, .val (.slice aa) l), (1, .val aa x), (5, .val aa t5)], mkH 0 []⟩
theorem Vy (fuel n2 : Nat) : un fuel (n2 + 1) = up true (sm Bb) (un fuel n2) := by kernel_rfl
theorem Vz : ∀ n, un FU n = mp3 Bb (uo n) := ba (by kernel_rfl) fun n2 _ h => (Vy FU n2).trans (by rw [h]; funext _ _ _; simp only [up, ss])
theorem Vx : ap Tryz.prog 60 (NZ) := evX Tryz.func60 (S := VA) aJ (ah trivial) (tys := [(.slice aa)]) (fun fuel x => GY true (sm Bb) (un fuel fuel) x.1 x.2.1) (fun x => by show _ = Option.map Bb _; rw [Vz FU]; simp only [GY, qR, ss])
abbrev kf (β : Type) := (List Int) → Int → Option β
def m8 (m : Bool) {β : Type} (K : Bool → Option β) (k_l2 : kf β) : kf β := fun l i => (bif (decide (i < (il l))) then (ck (bd i l.length) (cl m .bool (bT (ix aa l i)) fun r1 => (nq m [2, 2] (!(!r1)) (nm m 2 ((!(!r1)) && (decide (i > 0))) (bd i l.length) (nq m [2, 2] ((!(!r1)) && (decide (i > 0))) (nm m 2 ((!(!r1)) && (decide (i > 0))) (bd (w64 (i - 1)) l.length) (nq m [2, 3] ((!(!r1)) && (decide (i > 0))) (nm m 0 (!(!r1)) ((ii ((!(!r1)) && (decide (i > 0)))) && true) (nq m [0] (!(!r1)) (bif (bif (!r1) then true else (bif (decide (i > 0)) then (decide ((ix aa l i) ≤ (ix aa l (w64 (i - 1))))) else false)) then (K false) else (fz m aa (w64 (i + 1)) fun y1_ => (k_l2 l y1_)))))))))))) else (K true))
def uY (m : Bool) {β : Type} (K : Bool → Option β) (k_l2 : kf β) (l : (List Int)) : Option β := (k_l2 l 0)
def oA : Nat → kf Bool := lp (fun _ _ => none) fun k_l2 => m8 false some k_l2
def jm (l : (List Int)) : Option Bool := uY false some (oA FU) l
def pP (r : Bool) : AV := .val .bool r
def LG : Ent := evE (.cons (.slice aa) .unit) pP (zero .bool) (fun x => jm x.1)
def BX : MS := ⟨0, [], [(0, .dat (.slice aa)), (3, .dat aa)]⟩
def LH : Par := ⟨bg.tab, (av [(109, du)]), (fun _ => ak []), (fun _ => ak [(2, BX)])⟩
def Wa : KT := aB bg.tab [.tmp 2] [.bool]
def LI (fuel lo : Nat) (p : List Nat) : Sg → KT → Option AV := xc (aH fi0 hs0 fuel 0) LH lo fuel (sub ((Tryz.f110.body).getD .skip) p)
def ox (fuel n : Nat) : kf AV := fun l i => aD 0 BX (LI fuel 0 [1, 0, 1, 0, 0]) (ai 0 (ax 0 none (LI fuel 0 [1, 1]) Wa)) n ⟨mkE 32 [(0, .val (.slice aa) l), (3, .val aa i)], mkH 0 []⟩
theorem OE (fuel n2 : Nat) : ox fuel (n2 + 1) = m8 true (sm pP) (ox fuel n2) := by kernel_rfl
theorem OG : ∀ n, ox FU n = mp2 pP (oA n) := ba (by kernel_rfl) fun n2 _ h => (OE FU n2).trans (by rw [h]; funext _ _; simp only [m8, ss])
theorem V9 : ap Tryz.prog 110 (LG) := evX Tryz.func110 (S := LH) aJ (ah ⟨eJ, trivial⟩) (tys := [.bool]) (fun fuel x => uY true (sm pP) (ox fuel fuel) x.1) (fun x => by show _ = Option.map pP _; rw [OG FU]; simp only [uY, jm, ss])
abbrev ib (β : Type) := ae.den → Int → Option β
def jV (m : Bool) {β : Type} (K : Bool → Option β) (k_l4 : ib β) : ib β := fun c i => (bif (decide (i < (il c.2.2.2.1))) then (ck (bd i c.2.2.2.1.length) (nq m [2] (!(decide ((ixs c.2.2.2.1 i) < 32))) (nm m 2 (!(decide ((ixs c.2.2.2.1 i) < 32))) (bd i c.2.2.2.1.length) (nq m [2, 0] (!(decide ((ixs c.2.2.2.1 i) < 32))) (bif (bif (decide ((ixs c.2.2.2.1 i) < 32)) then true else (decide ((ixs c.2.2.2.1 i) > 126))) then (K false) else (fz m aa (w64 (i + 1)) fun y1_ => (k_l4 c y1_))))))) else (K true))
def Ra (x0 : (List Int)) : Bool := (jm x0).isSome
def bE (x0 : (List Int)) : Bool := (jm x0).getD (zero .bool)
def yb (x0 : (List Int)) (x1 : Int) : Bool := (oE x0 x1).isSome
def nc (x0 : (List Int)) (x1 : Int) : Bool := (oE x0 x1).getD (zero .bool)
def qS (m : Bool) {β : Type} (K : Bool → Option β) (k_l4 : ib β) (c : ae.den) : Option β := (cl m .bool (bT (c.1)) fun r1 => (nq m [2] (!(!r1)) (nm m 1 (!(!r1)) (Ra (c.2.1)) (nq m [2, 0] (!(!r1)) (nq m [2] (!(bif (!r1) then true else (!(bE (c.2.1))))) (nm m 1 (!(bif (!r1) then true else (!(bE (c.2.1))))) (Ra (c.2.2.1)) (nq m [2, 0] (!(bif (!r1) then true else (!(bE (c.2.1))))) (nq m [2, 2, 2, 0] (!(bif (bif (!r1) then true else (!(bE (c.2.1)))) then true else (!(bE (c.2.2.1))))) (nq m [2, 2, 2, 0] (!(bif (bif (bif (!r1) then true else (!(bE (c.2.1)))) then true else (!(bE (c.2.2.1)))) then true else (decide ((il c.2.1) > 4)))) (nq m [2, 2] (!(bif (bif (bif (bif (!r1) then true else (!(bE (c.2.1)))) then true else (!(bE (c.2.2.1)))) then true else (decide ((il c.2.1) > 4))) then true else (decide ((il c.2.2.1) > 4)))) (nm m 2 (!(bif (bif (bif (bif (!r1) then true else (!(bE (c.2.1)))) then true else (!(bE (c.2.2.1)))) then true else (decide ((il c.2.1) > 4))) then true else (decide ((il c.2.2.1) > 4)))) (yb (c.2.1) (c.1)) (nq m [0] (!(bif (bif (bif (bif (!r1) then true else (!(bE (c.2.1)))) then true else (!(bE (c.2.2.1)))) then true else (decide ((il c.2.1) > 4))) then true else (decide ((il c.2.2.1) > 4)))) (nq m [2, 2] (!(bif (bif (bif (bif (bif (!r1) then true else (!(bE (c.2.1)))) then true else (!(bE (c.2.2.1)))) then true else (decide ((il c.2.1) > 4))) then true else (decide ((il c.2.2.1) > 4))) then true else (nc (c.2.1) (c.1)))) (nm m 2 (!(bif (bif (bif (bif (bif (!r1) then true else (!(bE (c.2.1)))) then true else (!(bE (c.2.2.1)))) then true else (decide ((il c.2.1) > 4))) then true else (decide ((il c.2.2.1) > 4))) then true else (nc (c.2.1) (c.1)))) (yb (c.2.2.1) (c.1)) (nq m [0] (!(bif (bif (bif (bif (bif (!r1) then true else (!(bE (c.2.1)))) then true else (!(bE (c.2.2.1)))) then true else (decide ((il c.2.1) > 4))) then true else (decide ((il c.2.2.1) > 4))) then true else (nc (c.2.1) (c.1)))) (nq m [2, 2, 2, 0] (!(bif (bif (bif (bif (bif (bif (!r1) then true else (!(bE (c.2.1)))) then true else (!(bE (c.2.2.1)))) then true else (decide ((il c.2.1) > 4))) then true else (decide ((il c.2.2.1) > 4))) then true else (nc (c.2.1) (c.1))) then true else (nc (c.2.2.1) (c.1)))) (bif (bif (bif (bif (bif (bif (bif (bif (!r1) then true else (!(bE (c.2.1)))) then true else (!(bE (c.2.2.1)))) then true else (decide ((il c.2.1) > 4))) then true else (decide ((il c.2.2.1) > 4))) then true else (nc (c.2.1) (c.1))) then true else (nc (c.2.2.1) (c.1))) then true else (decide ((il c.2.2.2.1) > 80))) then (K false) else (k_l4 c 0))))))))))))))))))
def ll : Nat → ib Bool := lp (fun _ _ => none) fun k_l4 => jV false some k_l4
def jW (c : ae.den) : Option Bool := qS false some (ll FU) c
def mJ (r : Bool) : AV := .val .bool r
def E0 : Ent := evE (.cons ae .unit) mJ (zero .bool) (fun x => jW x.1)
def xR : MS := ⟨1, [(0, [.dat aa, .dat (.slice aa), .dat (.slice aa), .dat .str, .dat (.slice ac)])], [(1, .keep), (3, .dat aa)]⟩
def E1 : Par := ⟨bg.tab, (av [(109, du), (110, LG), (81, wS)]), (fun _ => ak []), (fun _ => ak [(4, xR)])⟩
def SH : KT := aB bg.tab [.tmp 2] [.bool]
def E2 (fuel lo : Nat) (p : List Nat) : Sg → KT → Option AV := xc (aH fi0 hs0 fuel 0) E1 lo fuel (sub ((Tryz.f73.body).getD .skip) p)
def lk (fuel n : Nat) : ib AV := fun c i => aD 0 xR (E2 fuel 0 [1, 1, 0, 1, 0, 0]) (ai 0 (ax 0 none (E2 fuel 0 [1, 1, 1]) SH)) n ⟨mkE 71 [(1, .box 0 0), (3, .val aa i)], mkH 1 [(0, .box [.val aa c.1, .val (.slice aa) c.2.1, .val (.slice aa) c.2.2.1, .val .str c.2.2.2.1, .val (.slice ac) c.2.2.2.2.1])]⟩
theorem K6 (fuel n4 : Nat) : lk fuel (n4 + 1) = jV true (sm mJ) (lk fuel n4) := by kernel_rfl
theorem K7 : ∀ n, lk FU n = mp2 mJ (ll n) := ba (by kernel_rfl) fun n4 _ h => (K6 FU n4).trans (by rw [h]; funext _ _; simp only [jV, ss])
theorem SG : ap Tryz.prog 73 (E0) := evX Tryz.func73 (S := E1) aJ (ah ⟨eJ, V9, B5, trivial⟩) (tys := [.bool]) (fun fuel x => qS true (sm mJ) (lk fuel fuel) x.1) (fun x => by show _ = Option.map mJ _; rw [K7 FU]; simp only [qS, jW, ss])
abbrev jr := (Ty.den (.cons aF (.cons .bool .unit)))
abbrev fh (β : Type) := (List ac.den) → Int → Int → Int → Option β
def gM (m : Bool) {β : Type} (K : jr → Option β) (k_l2 : fh β) : fh β := fun w id field i => (bif (decide (i ≥ 0)) then (ck (bd i w.length) (nm m 2 (decide ((ix ac w i).1 = id)) (bd i w.length) (nq m [2, 2, 3, 1] (decide ((ix ac w i).1 = id)) (bif (bif (decide ((ix ac w i).1 = id)) then (decide ((ix ac w i).2.1 = field)) else false) then (ck (bd i w.length) (K ((ix ac w i).2.2.1, true, ()))) else (fz m aa (w64 (i - 1)) fun y3_ => (k_l2 w id field y3_)))))) else (K ((0, false, [], 0, ()), false, ())))
def nv (m : Bool) {β : Type} (K : jr → Option β) (k_l2 : fh β) (w : (List ac.den)) (id : Int) (field : Int) : Option β := (fz m aa (w64 ((il w) - 1)) fun y3_ => (k_l2 w id field y3_))
def iN : Nat → fh jr := lp (fun _ _ _ _ => none) fun k_l2 => gM false some k_l2
def dp (w : (List ac.den)) (id : Int) (field : Int) : Option jr := nv false some (iN FU) w id field
def jq (r : jr) : AV := .tup (bh [.val aF r.1, .val .bool r.2.1])
def nx : Ent := evE (.cons (.slice ac) (.cons aa (.cons aa .unit))) jq (zero (.cons aF (.cons .bool .unit))) (fun x => dp x.1 x.2.1 x.2.2.1)
def tC : MS := ⟨1, [(0, [.dat aa, .dat .bool, .dat .str, .dat aa])], [(0, .dat (.slice ac)), (1, .dat aa), (2, .dat aa), (6, .keep), (8, .dat aa)]⟩
def zR : Par := ⟨bg.tab, (av []), (fun _ => ak []), (fun _ => ak [(2, tC)])⟩
def MW : KT := aB bg.tab [.cell 6 51, .tmp 7] [aF, .bool]
def zS (fuel lo : Nat) (p : List Nat) : Sg → KT → Option AV := xc (aH fi0 hs0 fuel 0) zR lo fuel (sub ((Tryz.f42.body).getD .skip) p)
def iM (fuel n : Nat) : fh AV := fun w id field i => aD 0 tC (zS fuel 0 [1, 0, 1, 0, 0]) (ai 0 (ax 0 none (zS fuel 0 [1, 1]) MW)) n ⟨mkE 38 [(0, .val (.slice ac) w), (1, .val aa id), (2, .val aa field), (6, .box 0 0), (8, .val aa i)], mkH 1 [(0, .box [.val aa (0 : Int), .val .bool false, .val .str [], .val aa (0 : Int)])]⟩
theorem F2 (fuel n2 : Nat) : iM fuel (n2 + 1) = gM true (sm jq) (iM fuel n2) := by kernel_rfl
theorem F3 : ∀ n, iM FU n = mp4 jq (iN n) := ba (by kernel_rfl) fun n2 _ h => (F2 FU n2).trans (by rw [h]; funext _ _ _ _; simp only [gM, ss])
theorem sy : ap Tryz.prog 42 (nx) := evX Tryz.func42 (S := zR) aJ (ah trivial) (tys := [aF, .bool]) (fun fuel x => nv true (sm jq) (iM fuel fuel) x.1 x.2.1 x.2.2.1) (fun x => by show _ = Option.map jq _; rw [F3 FU]; simp only [nv, dp, ss])
def y6 (m : Bool) {β : Type} (K : Int → Option β) (s : ao.den) (id : Int) : Option β := (ce m (.slice aR) (bX s id 1) (el s id 1) fun r1 => (bif (decide ((il r1) = 0)) then (K 0) else (ck (bd 0 r1.length) (K ((ix aR r1 0).2.1.1)))))
def eD (s : ao.den) (id : Int) : Option Int := y6 false some s id
def Hq (r : Int) : AV := .val aa r
def uS : Ent := evE (.cons ao (.cons aa .unit)) Hq (zero aa) (fun x => eD x.1 x.2.1)
def aaM : Par := ⟨bg.tab, (av [(83, vW)]), (fun _ => ak []), (fun _ => ak [])⟩
theorem y5 : ap Tryz.prog 64 (uS) := evX Tryz.func64 (S := aaM) aJ (ah ⟨Jw, trivial⟩) (tys := [aa]) (fun fuel x => y6 true (sm Hq) x.1 x.2.1) (fun x => by show _ = Option.map Hq _; simp only [y6, eD, ss])
def q9 (m : Bool) {β : Type} (K : Int → Option β) (s : ao.den) (w : (List ac.den)) (id : Int) : Option β := (cl m aa (eD s id) fun r1 => (bif (!decide (r1 = 0)) then (K r1) else (cl m (.cons aF (.cons .bool .unit)) (dp w id 1) fun r2 => (K (r2.1.1)))))
def j9 (s : ao.den) (w : (List ac.den)) (id : Int) : Option Int := q9 false some s w id
def wM (r : Int) : AV := .val aa r
def Fm : Ent := evE (.cons ao (.cons (.slice ac) (.cons aa .unit))) wM (zero aa) (fun x => j9 x.1 x.2.1 x.2.2.1)
def Tj : Par := ⟨bg.tab, (av [(64, uS), (42, nx)]), (fun _ => ak []), (fun _ => ak [])⟩
theorem Ti : ap Tryz.prog 112 (Fm) := evX Tryz.func112 (S := Tj) aJ (ah ⟨y5, sy, trivial⟩) (tys := [aa]) (fun fuel x => q9 true (sm wM) x.1 x.2.1 x.2.2.1) (fun x => by show _ = Option.map wM _; simp only [q9, j9, ss])
def ow (m : Bool) {β : Type} (K : Bool → Option β) (f : Int) : Option β := (nq m [2, 1] (decide (f ≥ 1)) (nq m [2, 2] (!(bif (decide (f ≥ 1)) then (decide (f ≤ 4)) else false)) (nq m [2] ((!(bif (decide (f ≥ 1)) then (decide (f ≤ 4)) else false)) && (decide (f ≥ 8))) (nm m 0 (!(bif (decide (f ≥ 1)) then (decide (f ≤ 4)) else false)) ((ii ((!(bif (decide (f ≥ 1)) then (decide (f ≤ 4)) else false)) && (decide (f ≥ 8)))) && true) (nq m [0] (!(bif (decide (f ≥ 1)) then (decide (f ≤ 4)) else false)) (K (bif (bif (decide (f ≥ 1)) then (decide (f ≤ 4)) else false) then true else (bif (decide (f ≥ 8)) then (decide (f < 48)) else false))))))))
def e8 (f : Int) : Option Bool := ow false some f
def sN (r : Bool) : AV := .val .bool r
def BV : Ent := evE (.cons aa .unit) sN (zero .bool) (fun x => e8 x.1)
def OC : Par := ⟨bg.tab, (av []), (fun _ => ak []), (fun _ => ak [])⟩
theorem OA : ap Tryz.prog 111 (BV) := evX Tryz.func111 (S := OC) aJ (ah trivial) (tys := [.bool]) (fun fuel x => ow true (sm sN) x.1) (fun x => by show _ = Option.map sN _; simp only [ow, e8, ss])
def tR (m : Bool) {β : Type} (K : Bool → Option β) (kind : Int) (field : Int) (v : aF.den) : Option β := (cl m .bool (gp kind field v) fun r1 => (nq m [3, 2] r1 (nq m [2, 2] (r1 && (!(!eqD aF v (0, false, [], 0, ())))) (nq m [2] ((r1 && (!(!eqD aF v (0, false, [], 0, ())))) && (!decide (field = 3))) (nm m 0 (r1 && (!(!eqD aF v (0, false, [], 0, ())))) ((ii ((r1 && (!(!eqD aF v (0, false, [], 0, ())))) && (!decide (field = 3)))) && true) (nm m 0 r1 (ii (r1 && (!(!eqD aF v (0, false, [], 0, ()))))) (nq m [1] r1 (K (bif r1 then (bif (!eqD aF v (0, false, [], 0, ())) then true else (bif (!decide (field = 3)) then (!decide (field = 4)) else false)) else false)))))))))
def mB (kind : Int) (field : Int) (v : aF.den) : Option Bool := tR false some kind field v
def Ai (r : Bool) : AV := .val .bool r
def Kh : Ent := evE (.cons aa (.cons aa (.cons aF .unit))) Ai (zero .bool) (fun x => mB x.1 x.2.1 x.2.2.1)
def U0 : Par := ⟨bg.tab, (av [(137, w9)]), (fun _ => ak []), (fun _ => ak [])⟩
theorem UZ : ap Tryz.prog 113 (Kh) := evX Tryz.func113 (S := U0) aJ (ah ⟨FH, trivial⟩) (tys := [.bool]) (fun fuel x => tR true (sm Ai) x.1 x.2.1 x.2.2.1) (fun x => by show _ = Option.map Ai _; simp only [tR, mB, ss])
abbrev gF (β : Type) := ae.den → ac.den → Int → Option β
abbrev eE (β : Type) := Option β
def ja (m : Bool) {β : Type} (K : Int → Option β) (k_j14 : eE β) : gF β := fun c x need => (cl m (.cons aF (.cons .bool .unit)) (dp (c.2.2.2.2.1) (x.1) need) fun r5 => (bif (!r5.2.1) then (K 16) else k_j14))
def i9 (m : Bool) {β : Type} (K : Int → Option β) : eE β := (K 0)
def Ts (x0 : Int) : Bool := (e8 x0).isSome
def Tt (x0 : Int) : Bool := (e8 x0).getD (zero .bool)
def oH (m : Bool) {β : Type} (K : Int → Option β) (k_j11 : gF β) (k_j14 : eE β) (s : ao.den) (c : ae.den) (x : ac.den) : Option β := (cl m .bool (bT (x.1)) fun r1 => (nq m [2, 2, 3, 0] (!(!r1)) (nq m [2] (!(bif (!r1) then true else (decide (x.1 = c.1)))) (nm m 1 (!(bif (!r1) then true else (decide (x.1 = c.1)))) (Ts (x.2.1)) (nq m [2, 0] (!(bif (!r1) then true else (decide (x.1 = c.1)))) (bif (bif (bif (!r1) then true else (decide (x.1 = c.1))) then true else (!(Tt (x.2.1)))) then (K 5) else (cl m aa (eD s (x.1)) fun r2 => (bif (decide (x.2.1 = 1)) then (nq m [2, 2, 2, 0] (!(decide (x.2.2.1.1 < 1))) (nq m [2, 2, 2, 2, 3, 0] (!(bif (decide (x.2.2.1.1 < 1)) then true else (decide (x.2.2.1.1 > 5)))) (nq m [2, 2] (!(bif (bif (decide (x.2.2.1.1 < 1)) then true else (decide (x.2.2.1.1 > 5))) then true else (!eqD aF x.2.2.1 (x.2.2.1.1, false, [], 0, ())))) (nq m [2, 2, 3] ((!(bif (bif (decide (x.2.2.1.1 < 1)) then true else (decide (x.2.2.1.1 > 5))) then true else (!eqD aF x.2.2.1 (x.2.2.1.1, false, [], 0, ())))) && (!decide (r2 = 0))) (nm m 0 (!(bif (bif (decide (x.2.2.1.1 < 1)) then true else (decide (x.2.2.1.1 > 5))) then true else (!eqD aF x.2.2.1 (x.2.2.1.1, false, [], 0, ())))) ((ii ((!(bif (bif (decide (x.2.2.1.1 < 1)) then true else (decide (x.2.2.1.1 > 5))) then true else (!eqD aF x.2.2.1 (x.2.2.1.1, false, [], 0, ())))) && (!decide (r2 = 0)))) && true) (nq m [0] (!(bif (bif (decide (x.2.2.1.1 < 1)) then true else (decide (x.2.2.1.1 > 5))) then true else (!eqD aF x.2.2.1 (x.2.2.1.1, false, [], 0, ())))) (bif (bif (bif (bif (decide (x.2.2.1.1 < 1)) then true else (decide (x.2.2.1.1 > 5))) then true else (!eqD aF x.2.2.1 (x.2.2.1.1, false, [], 0, ()))) then true else (bif (!decide (r2 = 0)) then (!decide (r2 = x.2.2.1.1)) else false)) then (K 10) else (bif (decide (r2 = 0)) then (bif (decide (x.2.2.1.1 = 5)) then (k_j11 c x 4) else (k_j11 c x 3)) else k_j14)))))))) else (cl m aa (j9 s (c.2.2.2.2.1) (x.1)) fun r3 => (bif (decide (r3 = 0)) then (K 7) else (cl m .bool (mB r3 (x.2.1) (x.2.2.1)) fun r4 => (bif (!r4) then (K 13) else (K 0)))))))))))))
def eF : eE Int := i9 false some
def gH : gF Int := ja false some eF
def iA (s : ao.den) (c : ae.den) (x : ac.den) : Option Int := oH false some gH eF s c x
def eU (r : Int) : AV := .val aa r
def CV : Ent := evE (.cons ao (.cons ae (.cons ac .unit))) eU (zero aa) (fun x => iA x.1 x.2.1 x.2.2.1)
def D3 : MS := ⟨3, [(0, [.drop]), (1, [.dat aa, .dat (.slice aa), .dat (.slice aa), .dat .str, .dat (.slice ac)]), (2, [.dat aa, .dat aa, .dat aa, .dat .bool, .dat .str, .dat aa])], [(4, .keep), (5, .keep), (8, .dat aa)]⟩
def sn : MS := ⟨0, [], []⟩
def CW : Par := ⟨bg.tab, (av [(109, du), (111, BV), (64, uS), (112, Fm), (113, Kh), (42, nx)]), (fun _ => ak [(11, D3), (14, sn)]), (fun _ => ak [])⟩
def CX : KT := aB bg.tab [.tmp 6] [aa]
def kw (fuel lo : Nat) (p : List Nat) : Sg → KT → Option AV := xc (aH fi0 hs0 fuel 0) CW lo fuel (sub ((Tryz.f75.body).getD .skip) p)
def l8 (fuel : Nat) : gF AV := fun c x need => (kw fuel 0 [1, 1, 1, 0, 1, 0, 1, 0, 1, 0, 1, 1]) ⟨mkE 98 [(4, .box 1 0), (5, .box 2 0), (8, .val aa need)], mkH 3 [(0, .box [.unk]), (1, .box [.val aa c.1, .val (.slice aa) c.2.1, .val (.slice aa) c.2.2.1, .val .str c.2.2.2.1, .val (.slice ac) c.2.2.2.2.1]), (2, .box [.val aa x.1, .val aa x.2.1, .val aa x.2.2.1.1, .val .bool x.2.2.1.2.1, .val .str x.2.2.1.2.2.1, .val aa x.2.2.1.2.2.2.1])]⟩ (ax 0 (some sn) (kw fuel 0 [1, 1, 1, 0, 1, 0, 1, 1]) (ax 0 none (kw fuel 0 [1, 1, 1, 1]) CX))
def gG (fuel : Nat) : eE AV := (kw fuel 0 [1, 1, 1, 0, 1, 0, 1, 1]) ⟨mkE 98 [], mkH 0 []⟩ (ax 0 none (kw fuel 0 [1, 1, 1, 1]) CX)
theorem D5 (fuel : Nat) : l8 fuel = ja true (sm eU) (gG fuel) := by kernel_rfl
theorem D4 (fuel : Nat) : gG fuel = i9 true (sm eU) := by kernel_rfl
theorem so : gG FU = mp0 eU (eF) := (D4 FU).trans (by simp only [i9, eF, ss])
theorem D6 : l8 FU = mp3 eU (gH) := (D5 FU).trans (by rw [so]; funext _ _ _; simp only [ja, gH, ss])
theorem PZ : ap Tryz.prog 75 (CV) := evX Tryz.func75 (S := CW) aJ (ah ⟨eJ, OA, y5, Ti, UZ, sy, trivial⟩) (tys := [aa]) (fun fuel x => oH true (sm eU) (l8 fuel) (gG fuel) x.1 x.2.1 x.2.2.1) (fun x => by show _ = Option.map eU _; rw [D6, so]; simp only [oH, iA, ss])
abbrev fJ (β : Type) := (List ac.den) → Int → Option β
def dH (m : Bool) {β : Type} (K : Bool → Option β) (k_l2 : fJ β) : fJ β := fun l i => (bif (decide (i < (il l))) then (ck (bd (w64 (i - 1)) l.length) (ck (bd (w64 (i - 1)) l.length) (ck (bd i l.length) (ck (bd i l.length) (ce m .bool true (qm ((ix ac l (w64 (i - 1))).1) ((ix ac l (w64 (i - 1))).2.1) ((ix ac l i).1) ((ix ac l i).2.1)) fun r1 => (bif (!r1) then (K false) else (fz m aa (w64 (i + 1)) fun y1_ => (k_l2 l y1_)))))))) else (K true))
def od (m : Bool) {β : Type} (K : Bool → Option β) (k_l2 : fJ β) (l : (List ac.den)) : Option β := (k_l2 l 1)
def fK : Nat → fJ Bool := lp (fun _ _ => none) fun k_l2 => dH false some k_l2
def ic (l : (List ac.den)) : Option Bool := od false some (fK FU) l
def jY (r : Bool) : AV := .val .bool r
def Bk : Ent := evE (.cons (.slice ac) .unit) jY (zero .bool) (fun x => ic x.1)
def uz : MS := ⟨0, [], [(0, .dat (.slice ac)), (3, .dat aa)]⟩
def Bl : Par := ⟨bg.tab, (av [(85, rG)]), (fun _ => ak []), (fun _ => ak [(2, uz)])⟩
def N5 : KT := aB bg.tab [.tmp 2] [.bool]
def Bm (fuel lo : Nat) (p : List Nat) : Sg → KT → Option AV := xc (aH fi0 hs0 fuel 0) Bl lo fuel (sub ((Tryz.f74.body).getD .skip) p)
def iZ (fuel n : Nat) : fJ AV := fun l i => aD 0 uz (Bm fuel 0 [1, 0, 1, 0, 0]) (ai 0 (ax 0 none (Bm fuel 0 [1, 1]) N5)) n ⟨mkE 34 [(0, .val (.slice ac) l), (3, .val aa i)], mkH 0 []⟩
theorem G6 (fuel n2 : Nat) : iZ fuel (n2 + 1) = dH true (sm jY) (iZ fuel n2) := by kernel_rfl
theorem G7 : ∀ n, iZ FU n = mp2 jY (fK n) := ba (by kernel_rfl) fun n2 _ h => (G6 FU n2).trans (by rw [h]; funext _ _; simp only [dH, ss])
theorem N4 : ap Tryz.prog 74 (Bk) := evX Tryz.func74 (S := Bl) aJ (ah ⟨JA, trivial⟩) (tys := [.bool]) (fun fuel x => od true (sm jY) (iZ fuel fuel) x.1) (fun x => by show _ = Option.map jY _; rw [G7 FU]; simp only [od, ic, ss])
abbrev iB (β : Type) := ao.den → ae.den → Int → Option β
def kx (m : Bool) {β : Type} (K : Int → Option β) (k_l6 : iB β) : iB β := fun s c i => (bif (decide (i < (il c.2.2.2.2.1))) then (ck (bd i c.2.2.2.2.1.length) (cl m aa (iA s c (ix ac c.2.2.2.2.1 i)) fun r3 => (bif (!decide (r3 = 0)) then (K r3) else (fz m aa (w64 (i + 1)) fun y2_ => (k_l6 s c y2_))))) else (K 0))
def rt (m : Bool) {β : Type} (K : Int → Option β) (k_l6 : iB β) (s : ao.den) (c : ae.den) : Option β := (cl m .bool (jW c) fun r1 => (bif (!r1) then (K 5) else (cl m .bool (ic (c.2.2.2.2.1)) fun r2 => (bif (!r2) then (K 12) else (k_l6 s c 0)))))
def lL : Nat → iB Int := lp (fun _ _ _ => none) fun k_l6 => kx false some k_l6
def ky (s : ao.den) (c : ae.den) : Option Int := rt false some (lL FU) s c
def nk (r : Int) : AV := .val aa r
def FE : Ent := evE (.cons ao (.cons ae .unit)) nk (zero aa) (fun x => ky x.1 x.2.1)
def ym : MS := ⟨2, [(0, [.dat (.slice aj)]), (1, [.dat aa, .dat (.slice aa), .dat (.slice aa), .dat .str, .dat (.slice ac)])], [(2, .keep), (3, .keep), (5, .dat aa)]⟩
def FF : Par := ⟨bg.tab, (av [(73, E0), (74, Bk), (75, CV)]), (fun _ => ak []), (fun _ => ak [(6, ym)])⟩
def Ud : KT := aB bg.tab [.tmp 4] [aa]
def FG (fuel lo : Nat) (p : List Nat) : Sg → KT → Option AV := xc (aH fi0 hs0 fuel 0) FF lo fuel (sub ((Tryz.f28.body).getD .skip) p)
def lK (fuel n : Nat) : iB AV := fun s c i => aD 0 ym (FG fuel 0 [1, 1, 1, 0, 1, 0, 0]) (ai 0 (ax 0 none (FG fuel 0 [1, 1, 1, 1]) Ud)) n ⟨mkE 32 [(2, .box 0 0), (3, .box 1 0), (5, .val aa i)], mkH 2 [(0, .box [.val (.slice aj) s.1]), (1, .box [.val aa c.1, .val (.slice aa) c.2.1, .val (.slice aa) c.2.2.1, .val .str c.2.2.2.1, .val (.slice ac) c.2.2.2.2.1])]⟩
theorem Mo (fuel n6 : Nat) : lK fuel (n6 + 1) = kx true (sm nk) (lK fuel n6) := by kernel_rfl
theorem Mp : ∀ n, lK FU n = mp3 nk (lL n) := ba (by kernel_rfl) fun n6 _ h => (Mo FU n6).trans (by rw [h]; funext _ _ _; simp only [kx, ss])
theorem Uc : ap Tryz.prog 28 (FE) := evX Tryz.func28 (S := FF) aJ (ah ⟨SG, N4, PZ, trivial⟩) (tys := [aa]) (fun fuel x => rt true (sm nk) (lK fuel fuel) x.1 x.2.1) (fun x => by show _ = Option.map nk _; rw [Mp FU]; simp only [rt, ky, ss])
abbrev p5 := (Ty.den (.cons ae (.cons .bool .unit)))
abbrev kz (β : Type) := (List ae.den) → Int → Int → Option β
def nl (m : Bool) {β : Type} (K : p5 → Option β) (k_l2 : kz β) : kz β := fun l stamp i => (bif (decide (i < (il l))) then (ck (bd i l.length) (bif (decide ((ix ae l i).1 = stamp)) then (ck (bd i l.length) (K ((ix ae l i), true, ()))) else (fz m aa (w64 (i + 1)) fun y2_ => (k_l2 l stamp y2_)))) else (K ((0, [], [], [], [], ()), false, ())))
def vE (m : Bool) {β : Type} (K : p5 → Option β) (k_l2 : kz β) (l : (List ae.den)) (stamp : Int) : Option β := (k_l2 l stamp 0)
def oK : Nat → kz p5 := lp (fun _ _ _ => none) fun k_l2 => nl false some k_l2
def jp (l : (List ae.den)) (stamp : Int) : Option p5 := vE false some (oK FU) l stamp
def p4 (r : p5) : AV := .tup (bh [.val ae r.1, .val .bool r.2.1])
def C3 : Ent := evE (.cons (.slice ae) (.cons aa .unit)) p4 (zero (.cons ae (.cons .bool .unit))) (fun x => jp x.1 x.2.1)
def C2 : MS := ⟨1, [(0, [.dat aa, .own aa 3, .own aa 3, .dat .str, .own ac 86])], [(0, .dat (.slice ae)), (1, .dat aa), (4, .keep), (6, .dat aa)]⟩
def Ms : Par := ⟨bg.tab, (av []), (fun _ => ak []), (fun _ => ak [(2, C2)])⟩
def YQ : KT := aB bg.tab [.cell 4 26, .tmp 5] [ae, .bool]
def Mt (fuel lo : Nat) (p : List Nat) : Sg → KT → Option AV := xc (aH fi0 hs0 fuel 0) Ms lo fuel (sub ((Tryz.f58.body).getD .skip) p)
def oJ (fuel n : Nat) : kz AV := fun l stamp i => aD 0 C2 (Mt fuel 0 [1, 0, 1, 0, 0]) (ai 0 (ax 0 none (Mt fuel 0 [1, 1]) YQ)) n ⟨mkE 25 [(0, .val (.slice ae) l), (1, .val aa stamp), (4, .box 0 0), (6, .val aa i)], mkH 4 [(0, .box [.val aa (0 : Int), .own 1 0 aa [], .own 2 0 aa [], .val .str [], .own 3 0 ac []]), (1, .row aa 3 0), (2, .row aa 3 0), (3, .row ac 86 0)]⟩
theorem P1 (fuel n2 : Nat) : oJ fuel (n2 + 1) = nl true (sm p4) (oJ fuel n2) := by kernel_rfl
theorem P2 : ∀ n, oJ FU n = mp3 p4 (oK n) := ba (by kernel_rfl) fun n2 _ h => (P1 FU n2).trans (by rw [h]; funext _ _ _; simp only [nl, ss])
theorem Mr : ap Tryz.prog 58 (C3) := evX Tryz.func58 (S := Ms) aJ (ah trivial) (tys := [ae, .bool]) (fun fuel x => vE true (sm p4) (oJ fuel fuel) x.1 x.2.1) (fun x => by show _ = Option.map p4 _; rw [P2 FU]; simp only [vE, jp, ss])
abbrev qh (β : Type) := (List ae.den) → (List Int) → Nat → (List Int) → Option β
def vV (m : Bool) {β : Type} (K : (List Int) → Option β) (k_l3 : qh β) : qh β := fun l out todo_hi todo => (bif (decide ((ni todo_hi) > 0)) then (ck (decide (0 ≤ (w64 ((ni todo_hi) - 1))) && decide ((w64 ((ni todo_hi) - 1)) < (ni todo_hi))) (ck (decide (0 ≤ (w64 ((ni todo_hi) - 1))) && decide ((w64 ((ni todo_hi) - 1)) ≤ (ni todo_hi))) (cl m (.cons ae (.cons .bool .unit)) (jp l (List.getD todo (0 + Int.toNat (w64 ((ni todo_hi) - 1))) (zero aa))) fun r1 => (nm m 2 (!(!r1.2.1)) (yb out (List.getD todo (0 + Int.toNat (w64 ((ni todo_hi) - 1))) (zero aa))) (nq m [0] (!(!r1.2.1)) (bif (bif (!r1.2.1) then true else (nc out (List.getD todo (0 + Int.toNat (w64 ((ni todo_hi) - 1))) (zero aa)))) then (fm m (0 + (Int.toNat (w64 ((ni todo_hi) - 1)))) fun y2_ => (k_l3 l out y2_ todo)) else (cl m (.slice aa) (qR out (List.getD todo (0 + Int.toNat (w64 ((ni todo_hi) - 1))) (zero aa))) fun r2 => (ck (lm ((0 + (Int.toNat (w64 ((ni todo_hi) - 1)))) + List.length r1.1.2.1)) (fm m ((0 + (Int.toNat (w64 ((ni todo_hi) - 1)))) + List.length r1.1.2.1) fun y2_ => (fz m (.slice aa) (List.take (0 + (Int.toNat (w64 ((ni todo_hi) - 1)))) todo ++ r1.1.2.1) fun y3_ => (k_l3 l r2 y2_ y3_))))))))))) else (K out))
def Ju (m : Bool) {β : Type} (K : (List Int) → Option β) (k_l3 : qh β) (l : (List ae.den)) (stamps : (List Int)) : Option β := (ck (lm (0 + List.length stamps)) (fm m (0 + List.length stamps) fun y2_ => (fz m (.slice aa) (List.take 0 [] ++ stamps) fun y3_ => (k_l3 l [] y2_ y3_))))
def vU : Nat → qh (List Int) := lp (fun _ _ _ _ => none) fun k_l3 => vV false some k_l3
def lS (l : (List ae.den)) (stamps : (List Int)) : Option (List Int) := Ju false some (vU FU) l stamps
def Ds (r : (List Int)) : AV := .val (.slice aa) r
def Jv : Ent := evE (.cons (.slice ae) (.cons (.slice aa) .unit)) Ds (zero (.slice aa)) (fun x => lS x.1 x.2.1)
def MQ : MS := ⟨0, [], [(0, .dat (.slice ae)), (5, .dat (.slice aa)), (6, .mut aa 3)]⟩
def Zu : Par := ⟨Kg.tab, (av [(58, C3), (81, wS), (60, NZ)]), (fun _ => ak []), (fun _ => ak [(3, MQ)])⟩
def ahE : KT := aB Kg.tab [.tmp 4] [(.slice aa)]
def Zv (fuel lo : Nat) (p : List Nat) : Sg → KT → Option AV := xc (aH fi0 hs0 fuel 0) Zu lo fuel (sub ((Tryz.f37.body).getD .skip) p)
def vT (fuel n : Nat) : qh AV := fun l out todo_hi todo => aD 0 MQ (Zv fuel 0 [1, 1, 1, 0, 0, 0]) (ai 0 (ax 0 none (Zv fuel 0 [1, 1, 1, 1]) ahE)) n ⟨mkE 48 [(0, .val (.slice ae) l), (5, .val (.slice aa) out), (6, .msl 0 0 0 todo_hi)], mkH 1 [(0, .mrow aa 3 0 todo)]⟩
theorem Zs (fuel n3 : Nat) : vT fuel (n3 + 1) = vV true (sm Ds) (vT fuel n3) := by kernel_rfl
theorem Zt : ∀ n, vT FU n = mp4 Ds (vU n) := ba (by kernel_rfl) fun n3 _ h => (Zs FU n3).trans (by rw [h]; funext _ _ _ _; simp only [vV, ss])
theorem Qf : ap Tryz.prog 37 (Jv) := evX Tryz.func37 (S := Zu) Kf (ah ⟨Mr, B5, Vx, trivial⟩) (tys := [(.slice aa)]) (fun fuel x => Ju true (sm Ds) (vT fuel fuel) x.1 x.2.1) (fun x => by show _ = Option.map Ds _; rw [Zt FU]; simp only [Ju, lS, ss])
def aj3 (x0 : (List ae.den)) (x1 : (List Int)) : Bool := (lS x0 x1).isSome
def ad0 (x0 : (List ae.den)) (x1 : (List Int)) : (List Int) := (lS x0 x1).getD (zero (.slice aa))
def rB (m : Bool) {β : Type} (K : Bool → Option β) (l : (List ae.den)) (a : Int) (b : Int) : Option β := (nq m [1] (!decide (a = b)) (nm m 2 (!decide (a = b)) (aj3 l [b]) (nm m 2 (!decide (a = b)) (yb (ad0 l [b]) a) (nq m [1] (!decide (a = b)) (K (bif (!decide (a = b)) then (nc (ad0 l [b]) a) else false))))))
def kJ (l : (List ae.den)) (a : Int) (b : Int) : Option Bool := rB false some l a b
def xl (r : Bool) : AV := .val .bool r
def FX : Ent := evE (.cons (.slice ae) (.cons aa (.cons aa .unit))) xl (zero .bool) (fun x => kJ x.1 x.2.1 x.2.2.1)
def Uu : Par := ⟨bg.tab, (av [(37, Jv), (81, wS)]), (fun _ => ak []), (fun _ => ak [])⟩
theorem Ut : ap Tryz.prog 59 (FX) := evX Tryz.func59 (S := Uu) aJ (ah ⟨Qf, B5, trivial⟩) (tys := [.bool]) (fun fuel x => rB true (sm xl) x.1 x.2.1 x.2.2.1) (fun x => by show _ = Option.map xl _; simp only [rB, kJ, ss])
abbrev dX (β : Type) := (List ae.den) → (List Int) → (List Int) → Int → Option β
abbrev jg (β : Type) := (List ae.den) → (List Int) → (List Int) → Int → Bool → Int → Option β
abbrev Sd (β : Type) := (List ae.den) → (List Int) → (List Int) → Int → Int → Bool → Option β
abbrev Se (β : Type) := (List ae.den) → (List Int) → Int → (List Int) → Option β
def o6 (m : Bool) {β : Type} (K : (List Int) → Option β) (k_l7 : jg β) : dX β := fun l stamps out i => (bif (decide (i < (il stamps))) then (ck (bd i stamps.length) (cl m (.cons ae (.cons .bool .unit)) (jp l (ix aa stamps i)) fun r1 => (k_l7 l stamps out i (r1.2.1) 0))) else (K out))
def mz (m : Bool) {β : Type} (K : (List Int) → Option β) (k_l7 : jg β) : Sd β := fun l stamps out i t9 ok => (fz m aa (w64 (t9 + 1)) fun y5_ => (k_l7 l stamps out i ok y5_))
def mA (m : Bool) {β : Type} (K : (List Int) → Option β) (k_l3 : dX β) : Se β := fun l stamps i out => (fz m aa (w64 (i + 1)) fun y3_ => (k_l3 l stamps out y3_))
def o5 (m : Bool) {β : Type} (K : (List Int) → Option β) (k_l7 : jg β) (k_l3 : dX β) : jg β := fun l stamps out i ok t9 => (nq m [2, 3, 1] ok (bif (bif ok then (decide (t9 < (il stamps))) else false) then (ck (bd i stamps.length) (ck (bd t9 stamps.length) (cl m .bool (kJ l (ix aa stamps i) (ix aa stamps t9)) fun r2 => (bif r2 then (mz m K k_l7 l stamps out i t9 false) else (mz m K k_l7 l stamps out i t9 ok))))) else (bif ok then (ck (bd i stamps.length) (cl m (.slice aa) (qR out (ix aa stamps i)) fun r3 => (mA m K k_l3 l stamps i r3))) else (mA m K k_l3 l stamps i out))))
def yR (m : Bool) {β : Type} (K : (List Int) → Option β) (k_l3 : dX β) (l : (List ae.den)) (stamps : (List Int)) : Option β := (k_l3 l stamps [] 0)
def mw (k_l3 : dX (List Int)) : Nat → jg (List Int) := lp (fun _ _ _ _ _ _ => none) fun k_l7 => o5 false some k_l7 k_l3
def qG : Nat → dX (List Int) := lp (fun _ _ _ _ => none) fun k_l3 => o6 false some (mw k_l3 FU)
def o7 (l : (List ae.den)) (stamps : (List Int)) : Option (List Int) := yR false some (qG FU) l stamps
def k7 (r : (List Int)) : AV := .val (.slice aa) r
def Qr : Ent := evE (.cons (.slice ae) (.cons (.slice aa) .unit)) k7 (zero (.slice aa)) (fun x => o7 x.1 x.2.1)
def wk : MS := ⟨0, [], [(0, .dat (.slice ae)), (1, .dat (.slice aa)), (5, .dat (.slice aa)), (6, .dat aa)]⟩
def EE : MS := ⟨0, [], [(0, .dat (.slice ae)), (1, .dat (.slice aa)), (5, .dat (.slice aa)), (6, .dat aa), (8, .dat .bool), (9, .dat aa)]⟩
def Sf : MS := ⟨0, [], [(0, .dat (.slice ae)), (1, .dat (.slice aa)), (5, .dat (.slice aa)), (6, .dat aa), (8, .dat .bool), (9, .dat aa)]⟩
def EF : MS := ⟨0, [], [(0, .dat (.slice ae)), (1, .dat (.slice aa)), (5, .dat (.slice aa)), (6, .dat aa)]⟩
def Qs : Par := ⟨bg.tab, (av [(58, C3), (59, FX), (60, NZ)]), (fun _ => ak [(8, Sf), (4, EF)]), (fun _ => ak [(3, wk), (7, EE)])⟩
def Qt : KT := aB bg.tab [.tmp 4] [(.slice aa)]
def nJ (fuel lo : Nat) (p : List Nat) : Sg → KT → Option AV := xc (aH fi0 hs0 fuel 0) Qs lo fuel (sub ((Tryz.f25.body).getD .skip) p)
def my (fuel n : Nat) : dX AV := fun l stamps out i => aD 0 wk (nJ fuel 0 [1, 1, 0, 1, 0, 0]) (ai 0 (ax 0 none (nJ fuel 0 [1, 1, 1]) Qt)) n ⟨mkE 52 [(0, .val (.slice ae) l), (1, .val (.slice aa) stamps), (5, .val (.slice aa) out), (6, .val aa i)], mkH 0 []⟩
def qE (fuel n3 n : Nat) : jg AV := fun l stamps out i ok t9 => aD 0 EE (nJ fuel 0 [1, 1, 0, 1, 0, 0, 1, 0, 0, 1, 0, 1, 0, 0]) (ai 2 (ax 0 none (nJ fuel 0 [1, 1, 0, 1, 0, 0, 1, 0, 0, 1, 1]) (ai 1 (ax 0 (some EF) (nJ fuel 0 [1, 1, 0, 1, 0, 0, 1, 1]) (kLp 0 wk (nJ fuel 0 [1, 1, 0, 1, 0, 0]) (ai 0 (ax 0 none (nJ fuel 0 [1, 1, 1]) Qt)) n3))))) n ⟨mkE 52 [(0, .val (.slice ae) l), (1, .val (.slice aa) stamps), (5, .val (.slice aa) out), (6, .val aa i), (8, .val .bool ok), (9, .val aa t9)], mkH 0 []⟩
theorem Sk (fuel n3 : Nat) : my fuel (n3 + 1) = o6 true (sm k7) (qE fuel n3 fuel) := by kernel_rfl
theorem Si (fuel n3 n7 : Nat) : qE fuel n3 (n7 + 1) = o5 true (sm k7) (qE fuel n3 n7) (my fuel n3) := by kernel_rfl
theorem Sj (n3 : Nat) {k_l3 : dX (List Int)} (h_l3 : my FU n3 = mp4 k7 k_l3) : ∀ n, qE FU n3 n = mp6 k7 (mw k_l3 n) := ba (by kernel_rfl) fun n7 _ h => (Si FU n3 n7).trans (by rw [h, h_l3]; funext _ _ _ _ _ _; simp only [o5, mA, mz, ss])
theorem Sl : ∀ n, my FU n = mp4 k7 (qG n) := ba (by kernel_rfl) fun n3 _ h => (Sk FU n3).trans (by rw [Sj n3 h FU]; funext _ _ _ _; simp only [o6, mA, mz, ss])
theorem ZX : ap Tryz.prog 25 (Qr) := evX Tryz.func25 (S := Qs) aJ (ah ⟨Mr, Ut, Vx, trivial⟩) (tys := [(.slice aa)]) (fun fuel x => yR true (sm k7) (my fuel fuel) x.1 x.2.1) (fun x => by show _ = Option.map k7 _; rw [Sl FU]; simp only [yR, o7, mA, mz, ss])
abbrev db (β : Type) := (List ae.den) → (List Int) → Int → Option β
abbrev kh (β : Type) := (List ae.den) → (List Int) → Int → Bool → Int → Option β
abbrev OK (β : Type) := (List ae.den) → Int → (List Int) → Option β
def na (m : Bool) {β : Type} (K : (List Int) → Option β) (k_l7 : kh β) : db β := fun l out i => (bif (decide (i < (il l))) then (k_l7 l out i true 0) else (K out))
def jn (m : Bool) {β : Type} (K : (List Int) → Option β) (k_l3 : db β) : OK β := fun l i out => (fz m aa (w64 (i + 1)) fun y2_ => (k_l3 l out y2_))
def m9 (m : Bool) {β : Type} (K : (List Int) → Option β) (k_l7 : kh β) (k_l3 : db β) : kh β := fun l out i head t6 => (bif (decide (t6 < (il l))) then (nm m 2 head (bd t6 l.length) (nq m [2, 2] head (nm m 2 head (bd i l.length) (nq m [2, 2] head (nm m 2 head (yb ((ix ae l t6).2.1) ((ix ae l i).1)) (nq m [2, 1] head (fz m .bool (bif head then (!(nc ((ix ae l t6).2.1) ((ix ae l i).1))) else false) fun y3_ => (fz m aa (w64 (t6 + 1)) fun y4_ => (k_l7 l out i y3_ y4_))))))))) else (bif head then (ck (bd i l.length) (ck (lm (List.length out + List.length ([(ix ae l i).1] : List Int))) (fz m (.slice aa) (out ++ [(ix ae l i).1]) fun y2_ => (jn m K k_l3 l i y2_)))) else (jn m K k_l3 l i out)))
def u4 (m : Bool) {β : Type} (K : (List Int) → Option β) (k_l3 : db β) (l : (List ae.den)) : Option β := (k_l3 l [] 0)
def ki (k_l3 : db (List Int)) : Nat → kh (List Int) := lp (fun _ _ _ _ _ => none) fun k_l7 => m9 false some k_l7 k_l3
def oD : Nat → db (List Int) := lp (fun _ _ _ => none) fun k_l3 => na false some (ki k_l3 FU)
def nb (l : (List ae.den)) : Option (List Int) := u4 false some (oD FU) l
def io (r : (List Int)) : AV := .val (.slice aa) r
def LK : Ent := evE (.cons (.slice ae) .unit) io (zero (.slice aa)) (fun x => nb x.1)
def sP : MS := ⟨0, [], [(0, .dat (.slice ae)), (3, .own aa 3), (4, .dat aa)]⟩
def B2 : MS := ⟨0, [], [(0, .dat (.slice ae)), (3, .own aa 3), (4, .dat aa), (5, .dat .bool), (6, .dat aa)]⟩
def B3 : MS := ⟨0, [], [(0, .dat (.slice ae)), (3, .own aa 3), (4, .dat aa)]⟩
def LL : Par := ⟨bg.tab, (av [(81, wS)]), (fun _ => ak [(4, B3)]), (fun _ => ak [(3, sP), (7, B2)])⟩
def LM : KT := aB bg.tab [.tmp 2] [(.slice aa)]
def kl (fuel lo : Nat) (p : List Nat) : Sg → KT → Option AV := xc (aH fi0 hs0 fuel 0) LL lo fuel (sub ((Tryz.f79.body).getD .skip) p)
def kj (fuel n : Nat) : db AV := fun l out i => aD 0 sP (kl fuel 0 [1, 1, 0, 1, 0, 0]) (ai 0 (ax 0 none (kl fuel 0 [1, 1, 1]) LM)) n ⟨mkE 44 [(0, .val (.slice ae) l), (3, .own 0 0 aa out), (4, .val aa i)], mkH 1 [(0, .row aa 3 0)]⟩
def oC (fuel n3 n : Nat) : kh AV := fun l out i head t6 => aD 0 B2 (kl fuel 0 [1, 1, 0, 1, 0, 0, 1, 0, 0, 1, 0, 1, 0, 0]) (ai 2 (ax 0 none (kl fuel 0 [1, 1, 0, 1, 0, 0, 1, 0, 0, 1, 1]) (ai 1 (ax 0 (some B3) (kl fuel 0 [1, 1, 0, 1, 0, 0, 1, 1]) (kLp 0 sP (kl fuel 0 [1, 1, 0, 1, 0, 0]) (ai 0 (ax 0 none (kl fuel 0 [1, 1, 1]) LM)) n3))))) n ⟨mkE 44 [(0, .val (.slice ae) l), (3, .own 0 0 aa out), (4, .val aa i), (5, .val .bool head), (6, .val aa t6)], mkH 1 [(0, .row aa 3 0)]⟩
theorem ON (fuel n3 : Nat) : kj fuel (n3 + 1) = na true (sm io) (oC fuel n3 fuel) := by kernel_rfl
theorem OL (fuel n3 n7 : Nat) : oC fuel n3 (n7 + 1) = m9 true (sm io) (oC fuel n3 n7) (kj fuel n3) := by kernel_rfl
theorem OM (n3 : Nat) {k_l3 : db (List Int)} (h_l3 : kj FU n3 = mp3 io k_l3) : ∀ n, oC FU n3 n = mp5 io (ki k_l3 n) := ba (by kernel_rfl) fun n7 _ h => (OL FU n3 n7).trans (by rw [h, h_l3]; funext _ _ _ _ _; simp only [m9, jn, ss])
theorem OO : ∀ n, kj FU n = mp3 io (oD n) := ba (by kernel_rfl) fun n3 _ h => (ON FU n3).trans (by rw [OM n3 h FU]; funext _ _ _; simp only [na, jn, ss])
theorem Wb : ap Tryz.prog 79 (LK) := evX Tryz.func79 (S := LL) aJ (ah ⟨B5, trivial⟩) (tys := [(.slice aa)]) (fun fuel x => u4 true (sm io) (kj fuel fuel) x.1) (fun x => by show _ = Option.map io _; rw [OO FU]; simp only [u4, nb, jn, ss])
def kO (m : Bool) {β : Type} (K : Bool → Option β) (c : ae.den) (id : Int) (field : Int) : Option β := (cl m (.cons aF (.cons .bool .unit)) (dp (c.2.2.2.2.1) id field) fun r1 => (K (r1.2.1)))
def dT (c : ae.den) (id : Int) (field : Int) : Option Bool := kO false some c id field
def oT (r : Bool) : AV := .val .bool r
def xv : Ent := evE (.cons ae (.cons aa (.cons aa .unit))) oT (zero .bool) (fun x => dT x.1 x.2.1 x.2.2.1)
def JH : Par := ⟨bg.tab, (av [(42, nx)]), (fun _ => ak []), (fun _ => ak [])⟩
theorem JG : ap Tryz.prog 82 (xv) := evX Tryz.func82 (S := JH) aJ (ah ⟨sy, trivial⟩) (tys := [.bool]) (fun fuel x => kO true (sm oT) x.1 x.2.1 x.2.2.1) (fun x => by show _ = Option.map oT _; simp only [kO, dT, ss])
abbrev eW (β : Type) := (List ae.den) → (List Int) → (List ae.den) → (List (List Int)) → Int → Option β
abbrev KH (β : Type) := (List ae.den) → (List Int) → Int → (List ae.den) → (List (List Int)) → Option β
abbrev bC (β : Type) := (List ae.den) → (List (List Int)) → Int → (List aj.den) → Option β
abbrev bZ (β : Type) := (List ae.den) → (List (List Int)) → Int → Int → (List aj.den) → Option β
abbrev fC (β : Type) := (List ae.den) → (List (List Int)) → Int → Int → (List aj.den) → Bool → Int → Option β
abbrev GM (β : Type) := (List ae.den) → (List (List Int)) → Int → Int → (List aj.den) → Option β
def dE (m : Bool) {β : Type} (K : ao.den → Option β) (k_l4 : eW β) : KH β := fun l only i these above => (fz m aa (w64 (i + 1)) fun y4_ => (k_l4 l only these above y4_))
def jQ (m : Bool) {β : Type} (K : ao.den → Option β) (k_l4 : eW β) (k_l11 : bC β) : eW β := fun l only these above i => (bif (decide (i < (il l))) then (ck (bd i l.length) (cl m .bool (oE only ((ix ae l i).1)) fun r1 => (bif r1 then (ck (bd i l.length) (ck (lm (List.length these + List.length ([(ix ae l i)] : List ae.den))) (ck (bd i l.length) (cl m (.slice aa) (lS l [(ix ae l i).1]) fun r2 => (ck (lm (List.length above + List.length ([r2] : List (List Int)))) (fz m (.slice ae) (these ++ [(ix ae l i)]) fun y3_ => (fz m (.slice (.slice aa)) (above ++ [r2]) fun y4_ => (dE m K k_l4 l only i y3_ y4_)))))))) else (dE m K k_l4 l only i these above)))) else (k_l11 these above 0 []))
def hU (m : Bool) {β : Type} (K : ao.den → Option β) (k_l14 : bZ β) : bC β := fun these above i b7_0 => (bif (decide (i < (il these))) then (k_l14 these above i 0 b7_0) else (K (b7_0, ())))
def hC (m : Bool) {β : Type} (K : ao.den → Option β) (k_l19 : fC β) (k_l11 : bC β) : bZ β := fun these above i t10 b7_0 => (ck (bd i these.length) (bif (decide (t10 < (il ((ix ae these i).2.2.2.2.1)))) then (ck (bd i these.length) (ck (bd t10 ((ix ae these i).2.2.2.2.1).length) (k_l19 these above i t10 b7_0 true 0))) else (fz m aa (w64 (i + 1)) fun y2_ => (k_l11 these above y2_ b7_0))))
def cS (m : Bool) {β : Type} (K : ao.den → Option β) (k_l14 : bZ β) : GM β := fun these above i t10 b7_0 => (fz m aa (w64 (t10 + 1)) fun y3_ => (k_l14 these above i y3_ b7_0))
def zT (x0 : ae.den) (x1 : Int) (x2 : Int) : Bool := (dT x0 x1 x2).isSome
def dq (x0 : ae.den) (x1 : Int) (x2 : Int) : Bool := (dT x0 x1 x2).getD (zero .bool)
def g9 (m : Bool) {β : Type} (K : ao.den → Option β) (k_l19 : fC β) (k_l14 : bZ β) : fC β := fun these above i t10 b7_0 alive j => (nq m [1] (decide (j < (il these))) (bif (bif (decide (j < (il these))) then alive else false) then (nm m 2 (!(decide (j = i))) (bd j these.length) (nq m [2, 2, 2] (!(decide (j = i))) (nm m 3 (!(decide (j = i))) (zT (ix ae these j) ((ix ac (ix ae these i).2.2.2.2.1 t10).1) ((ix ac (ix ae these i).2.2.2.2.1 t10).2.1)) (nq m [2, 0] (!(decide (j = i))) (nm m 2 (!(bif (decide (j = i)) then true else (!(dq (ix ae these j) ((ix ac (ix ae these i).2.2.2.2.1 t10).1) ((ix ac (ix ae these i).2.2.2.2.1 t10).2.1))))) (bd j above.length) (nq m [2] (!(bif (decide (j = i)) then true else (!(dq (ix ae these j) ((ix ac (ix ae these i).2.2.2.2.1 t10).1) ((ix ac (ix ae these i).2.2.2.2.1 t10).2.1))))) (nm m 2 (!(bif (decide (j = i)) then true else (!(dq (ix ae these j) ((ix ac (ix ae these i).2.2.2.2.1 t10).1) ((ix ac (ix ae these i).2.2.2.2.1 t10).2.1))))) (bd i these.length) (nq m [2, 2] (!(bif (decide (j = i)) then true else (!(dq (ix ae these j) ((ix ac (ix ae these i).2.2.2.2.1 t10).1) ((ix ac (ix ae these i).2.2.2.2.1 t10).2.1))))) (nm m 2 (!(bif (decide (j = i)) then true else (!(dq (ix ae these j) ((ix ac (ix ae these i).2.2.2.2.1 t10).1) ((ix ac (ix ae these i).2.2.2.2.1 t10).2.1))))) (yb (ix (.slice aa) above j) ((ix ae these i).1)) (nq m [2, 0] (!(bif (decide (j = i)) then true else (!(dq (ix ae these j) ((ix ac (ix ae these i).2.2.2.2.1 t10).1) ((ix ac (ix ae these i).2.2.2.2.1 t10).2.1))))) (fz m .bool (bif (bif (decide (j = i)) then true else (!(dq (ix ae these j) ((ix ac (ix ae these i).2.2.2.2.1 t10).1) ((ix ac (ix ae these i).2.2.2.2.1 t10).2.1)))) then true else (!(nc (ix (.slice aa) above j) ((ix ae these i).1)))) fun y5_ => (fz m aa (w64 (j + 1)) fun y6_ => (k_l19 these above i t10 b7_0 y5_ y6_))))))))))))) else (bif alive then (ce m (.slice aR) (bX (b7_0, ()) ((ix ac (ix ae these i).2.2.2.2.1 t10).1) ((ix ac (ix ae these i).2.2.2.2.1 t10).2.1)) (el (b7_0, ()) ((ix ac (ix ae these i).2.2.2.2.1 t10).1) ((ix ac (ix ae these i).2.2.2.2.1 t10).2.1)) fun r3 => (ck (lm (List.length ([] : List aR.den) + List.length r3)) (ck (bd i these.length) (ck (lm (List.length ([] ++ r3) + List.length ([((ix ae these i).1, (ix ac (ix ae these i).2.2.2.2.1 t10).2.2.1, ())] : List aR.den))) (ce m ao (Z7 (b7_0, ()) ((ix ac (ix ae these i).2.2.2.2.1 t10).1) ((ix ac (ix ae these i).2.2.2.2.1 t10).2.1) (([] ++ r3) ++ [((ix ae these i).1, (ix ac (ix ae these i).2.2.2.2.1 t10).2.2.1, ())])) (lX (b7_0, ()) ((ix ac (ix ae these i).2.2.2.2.1 t10).1) ((ix ac (ix ae these i).2.2.2.2.1 t10).2.1) (([] ++ r3) ++ [((ix ae these i).1, (ix ac (ix ae these i).2.2.2.2.1 t10).2.2.1, ())])) fun r4 => (cS m K k_l14 these above i t10 (r4.1))))))) else (cS m K k_l14 these above i t10 b7_0))))
def qO (m : Bool) {β : Type} (K : ao.den → Option β) (k_l4 : eW β) (l : (List ae.den)) (only : (List Int)) : Option β := (k_l4 l only [] [] 0)
def fD (k_l11 : bC ao.den) (k_l14 : bZ ao.den) : Nat → fC ao.den := lp (fun _ _ _ _ _ _ _ => none) fun k_l19 => g9 false some k_l19 k_l14
def fF (k_l11 : bC ao.den) : Nat → bZ ao.den := lp (fun _ _ _ _ _ => none) fun k_l14 => hC false some (fD k_l11 k_l14 FU) k_l11
def fG : Nat → bC ao.den := lp (fun _ _ _ _ => none) fun k_l11 => hU false some (fF k_l11 FU)
def g8 : Nat → eW ao.den := lp (fun _ _ _ _ _ => none) fun k_l4 => jQ false some k_l4 (fG FU)
def jR (l : (List ae.den)) (only : (List Int)) : Option ao.den := qO false some (g8 FU) l only
def bW (r : ao.den) : AV := .val ao r
def EQ : Ent := evE (.cons (.slice ae) (.cons (.slice aa) .unit)) bW (zero ao) (fun x => jR x.1 x.2.1)
def xP : MS := ⟨1, [(0, [.dat (.slice aj)])], [(0, .dat (.slice ae)), (1, .dat (.slice aa)), (4, .keep), (5, .own ae 26), (6, .own (.slice aa) 23), (7, .dat aa)]⟩
def iV : MS := ⟨8, [(0, [.dat (.slice aj)]), (7, [.dat (.slice aj)])], [(4, .keep), (5, .own ae 26), (6, .own (.slice aa) 23), (8, .keep), (9, .dat aa)]⟩
def nV : MS := ⟨8, [(0, [.dat (.slice aj)]), (7, [.dat (.slice aj)])], [(4, .keep), (5, .own ae 26), (6, .own (.slice aa) 23), (8, .keep), (9, .dat aa), (10, .dat aa)]⟩
def ui : MS := ⟨27, [(0, [.dat (.slice aj)]), (7, [.dat (.slice aj)]), (26, [.dat aa, .dat aa, .dat aa, .dat .bool, .dat .str, .dat aa])], [(4, .keep), (5, .own ae 26), (6, .own (.slice aa) 23), (8, .keep), (9, .dat aa), (10, .dat aa), (11, .keep), (12, .dat .bool), (13, .dat aa)]⟩
def KI : MS := ⟨1, [(0, [.dat (.slice aj)])], [(0, .dat (.slice ae)), (1, .dat (.slice aa)), (4, .keep), (5, .own ae 26), (6, .own (.slice aa) 23), (7, .dat aa)]⟩
def uj : MS := ⟨8, [(0, [.dat (.slice aj)]), (7, [.dat (.slice aj)])], [(4, .keep), (5, .own ae 26), (6, .own (.slice aa) 23), (8, .keep), (9, .dat aa), (10, .dat aa)]⟩
def ER : Par := ⟨bg.tab, (av [(81, wS), (37, Jv), (82, xv), (83, vW), (84, NE)]), (fun _ => ak [(5, KI), (15, uj)]), (fun _ => ak [(4, xP), (11, iV), (14, nV), (19, ui)])⟩
def qP : KT := aB bg.tab [.cell 4 39] [ao]
def bR (fuel lo : Nat) (p : List Nat) : Sg → KT → Option AV := xc (aH fi0 hs0 fuel 0) ER lo fuel (sub ((Tryz.f36.body).getD .skip) p)
def lf (fuel n : Nat) : eW AV := fun l only these above i => aD 0 xP (bR fuel 0 [1, 1, 1, 0, 1, 0, 0]) (ai 0 (ax 0 none (bR fuel 0 [1, 1, 1, 1]) qP)) n ⟨mkE 134 [(0, .val (.slice ae) l), (1, .val (.slice aa) only), (4, .box 0 0), (5, .own 1 0 ae these), (6, .own 2 0 (.slice aa) above), (7, .val aa i)], mkH 3 [(0, .box [.val (.slice aj) []]), (1, .row ae 26 0), (2, .row (.slice aa) 23 0)]⟩
def dZ (fuel n : Nat) : bC AV := fun these above i b7_0 => aD 0 iV (bR fuel 0 [1, 1, 1, 1, 1, 0, 1, 0, 0]) (ai 2 (ax 0 none (bR fuel 0 [1, 1, 1, 1, 1, 1]) qP)) n ⟨mkE 134 [(4, .box 0 0), (5, .own 8 0 ae these), (6, .own 9 0 (.slice aa) above), (8, .box 7 0), (9, .val aa i)], mkH 10 [(0, .box [.val (.slice aj) []]), (1, .row ae 26 1), (2, .row (.slice aa) 23 1), (7, .box [.val (.slice aj) b7_0]), (8, .row ae 26 0), (9, .row (.slice aa) 23 0)]⟩
def fE (fuel n11 n : Nat) : bZ AV := fun these above i t10 b7_0 => aD 0 nV (bR fuel 0 [1, 1, 1, 1, 1, 0, 1, 0, 0, 1, 0, 0, 1, 0, 0]) (ai 4 (ai 3 (ax 0 none (bR fuel 0 [1, 1, 1, 1, 1, 0, 1, 0, 0, 1, 1]) (kLp 0 iV (bR fuel 0 [1, 1, 1, 1, 1, 0, 1, 0, 0]) (ai 2 (ax 0 none (bR fuel 0 [1, 1, 1, 1, 1, 1]) qP)) n11)))) n ⟨mkE 134 [(4, .box 0 0), (5, .own 8 0 ae these), (6, .own 9 0 (.slice aa) above), (8, .box 7 0), (9, .val aa i), (10, .val aa t10)], mkH 10 [(0, .box [.val (.slice aj) []]), (1, .row ae 26 1), (2, .row (.slice aa) 23 1), (7, .box [.val (.slice aj) b7_0]), (8, .row ae 26 0), (9, .row (.slice aa) 23 0)]⟩
def iW (fuel n11 n14 n : Nat) : fC AV := fun these above i t10 b7_0 alive j => aD 0 ui (bR fuel 0 [1, 1, 1, 1, 1, 0, 1, 0, 0, 1, 0, 0, 1, 0, 0, 1, 0, 0, 1, 1, 0, 1, 0, 0]) (ai 6 (ax 0 none (bR fuel 0 [1, 1, 1, 1, 1, 0, 1, 0, 0, 1, 0, 0, 1, 0, 0, 1, 0, 0, 1, 1, 1]) (ai 5 (ax 0 (some uj) (bR fuel 0 [1, 1, 1, 1, 1, 0, 1, 0, 0, 1, 0, 0, 1, 0, 0, 1, 1]) (kLp 0 nV (bR fuel 0 [1, 1, 1, 1, 1, 0, 1, 0, 0, 1, 0, 0, 1, 0, 0]) (ai 4 (ai 3 (ax 0 none (bR fuel 0 [1, 1, 1, 1, 1, 0, 1, 0, 0, 1, 1]) (kLp 0 iV (bR fuel 0 [1, 1, 1, 1, 1, 0, 1, 0, 0]) (ai 2 (ax 0 none (bR fuel 0 [1, 1, 1, 1, 1, 1]) qP)) n11)))) n14))))) n ⟨mkE 134 [(4, .box 0 0), (5, .own 27 0 ae these), (6, .own 28 0 (.slice aa) above), (8, .box 7 0), (9, .val aa i), (10, .val aa t10), (11, .box 26 0), (12, .val .bool alive), (13, .val aa j)], mkH 29 [(0, .box [.val (.slice aj) []]), (1, .row ae 26 1), (2, .row (.slice aa) 23 1), (7, .box [.val (.slice aj) b7_0]), (8, .row ae 26 1), (9, .row (.slice aa) 23 1), (26, .box [.val aa (ix ac (ix ae these i).2.2.2.2.1 t10).1, .val aa (ix ac (ix ae these i).2.2.2.2.1 t10).2.1, .val aa (ix ac (ix ae these i).2.2.2.2.1 t10).2.2.1.1, .val .bool (ix ac (ix ae these i).2.2.2.2.1 t10).2.2.1.2.1, .val .str (ix ac (ix ae these i).2.2.2.2.1 t10).2.2.1.2.2.1, .val aa (ix ac (ix ae these i).2.2.2.2.1 t10).2.2.1.2.2.2.1]), (27, .row ae 26 0), (28, .row (.slice aa) 23 0)]⟩
theorem KJ (fuel n4 : Nat) : lf fuel (n4 + 1) = jQ true (sm bW) (lf fuel n4) (dZ fuel fuel) := by kernel_rfl
theorem GR (fuel n11 : Nat) : dZ fuel (n11 + 1) = hU true (sm bW) (fE fuel n11 fuel) := by kernel_rfl
theorem GP (fuel n11 n14 : Nat) : fE fuel n11 (n14 + 1) = hC true (sm bW) (iW fuel n11 n14 fuel) (dZ fuel n11) := by kernel_rfl
theorem GN (fuel n11 n14 n19 : Nat) : iW fuel n11 n14 (n19 + 1) = g9 true (sm bW) (iW fuel n11 n14 n19) (fE fuel n11 n14) := by kernel_rfl
theorem GO (n11 n14 : Nat) {k_l11 : bC ao.den} (h_l11 : dZ FU n11 = mp4 bW k_l11) {k_l14 : bZ ao.den} (h_l14 : fE FU n11 n14 = mp5 bW k_l14) : ∀ n, iW FU n11 n14 n = mp7 bW (fD k_l11 k_l14 n) := ba (by kernel_rfl) fun n19 _ h => (GN FU n11 n14 n19).trans (by rw [h, h_l14]; funext _ _ _ _ _ _ _; simp only [g9, cS, dE, ss])
theorem GQ (n11 : Nat) {k_l11 : bC ao.den} (h_l11 : dZ FU n11 = mp4 bW k_l11) : ∀ n, fE FU n11 n = mp5 bW (fF k_l11 n) := ba (by kernel_rfl) fun n14 _ h => (GP FU n11 n14).trans (by rw [GO n11 n14 h_l11 h FU, h_l11]; funext _ _ _ _ _; simp only [hC, cS, dE, ss])
theorem GS : ∀ n, dZ FU n = mp4 bW (fG n) := ba (by kernel_rfl) fun n11 _ h => (GR FU n11).trans (by rw [GQ n11 h FU]; funext _ _ _ _; simp only [hU, cS, dE, ss])
theorem KK : ∀ n, lf FU n = mp5 bW (g8 n) := ba (by kernel_rfl) fun n4 _ h => (KJ FU n4).trans (by rw [h, GS FU]; funext _ _ _ _ _; simp only [jQ, cS, dE, ss])
theorem SA : ap Tryz.prog 36 (EQ) := evX Tryz.func36 (S := ER) aJ (ah ⟨B5, Qf, JG, Jw, aec, trivial⟩) (tys := [ao]) (fun fuel x => qO true (sm bW) (lf fuel fuel) x.1 x.2.1) (fun x => by show _ = Option.map bW _; rw [KK FU]; simp only [qO, jR, cS, dE, ss])
def zM (m : Bool) {β : Type} (K : ao.den → Option β) (l : (List ae.den)) (heads : (List Int)) : Option β := (cl m (.slice aa) (lS l heads) fun r1 => (cl m ao (jR l r1) fun r2 => (K r2)))
def nt (l : (List ae.den)) (heads : (List Int)) : Option ao.den := zM false some l heads
def Js (r : ao.den) : AV := .val ao r
def Jt : Ent := evE (.cons (.slice ae) (.cons (.slice aa) .unit)) Js (zero ao) (fun x => nt x.1 x.2.1)
def ade : Par := ⟨bg.tab, (av [(37, Jv), (36, EQ)]), (fun _ => ak []), (fun _ => ak [])⟩
theorem RM : ap Tryz.prog 17 (Jt) := evX Tryz.func17 (S := ade) aJ (ah ⟨Qf, SA, trivial⟩) (tys := [ao]) (fun fuel x => zM true (sm Js) x.1 x.2.1) (fun x => by show _ = Option.map Js _; simp only [zM, nt, ss])
def yQ (m : Bool) {β : Type} (K : Str → Option β) (kind : Int) (x : Int) : Option β := (nq m [2, 0] (!(decide (kind = 1))) (cl m aa (aZ x 5) fun r1 => (bif (decide (r1 = 0)) then (bif (bif (decide (kind = 1)) then true else (decide (kind = 3))) then (K [77]) else (K [102])) else (bif (decide (r1 = 1)) then (bif (bif (decide (kind = 1)) then true else (decide (kind = 3))) then (K [78]) else (K [103])) else (bif (decide (r1 = 2)) then (bif (bif (decide (kind = 1)) then true else (decide (kind = 3))) then (K [84]) else (K [120])) else (bif (decide (r1 = 3)) then (bif (bif (decide (kind = 1)) then true else (decide (kind = 3))) then (K [65, 98, 49]) else (K [121])) else (bif (bif (decide (kind = 1)) then true else (decide (kind = 3))) then (K [81]) else (K [107, 95, 50]))))))))
def gP (kind : Int) (x : Int) : Option Str := yQ false some kind x
def Gg (r : Str) : AV := .val .str r
def Gi : Ent := evE (.cons aa (.cons aa .unit)) Gg (zero .str) (fun x => gP x.1 x.2.1)
def ZS : Par := ⟨bg.tab, (av [(7, lZ)]), (fun _ => ak []), (fun _ => ak [])⟩
theorem Qo : ap Tryz.prog 65 (Gi) := evX Tryz.func65 (S := ZS) aJ (ah ⟨oo, trivial⟩) (tys := [.str]) (fun fuel x => yQ true (sm Gg) x.1 x.2.1) (fun x => by show _ = Option.map Gg _; simp only [yQ, gP, ss])
def qD (m : Bool) {β : Type} (K : Str → Option β) (x : Int) : Option β := (cl m aa (aZ x 5) fun r1 => (bif (decide (r1 = 0)) then (K [32]) else (bif (decide (r1 = 1)) then (K [10]) else (bif (decide (r1 = 2)) then (K [32, 35, 32, 110, 111, 116, 101, 10]) else (bif (decide (r1 = 3)) then (K []) else (K [9, 32, 32]))))))
def jE (x : Int) : Option Str := qD false some x
def wi (r : Str) : AV := .val .str r
def ED : Ent := evE (.cons aa .unit) wi (zero .str) (fun x => jE x.1)
def Sb : Par := ⟨bg.tab, (av [(7, lZ)]), (fun _ => ak []), (fun _ => ak [])⟩
theorem Sa : ap Tryz.prog 68 (ED) := evX Tryz.func68 (S := Sb) aJ (ah ⟨oo, trivial⟩) (tys := [.str]) (fun fuel x => qD true (sm wi) x.1) (fun x => by show _ = Option.map wi _; simp only [qD, jE, ss])
def Hr (m : Bool) {β : Type} (K : Str → Option β) (x : Int) : Option β := (cl m aa (aZ x 26) fun r1 => (ck (!decide ((26 : Int) = 0)) (cl m aa (aZ (w64 (Int.tdiv x 26)) 25) fun r2 => (K (List.map (fun n : Int => UInt8.ofNat n.toNat) [(IntKind.wrap .u8 (w64 ((97 : Int) + r1))), (IntKind.wrap .u8 (w64 ((98 : Int) + r2)))])))))
def ou (x : Int) : Option Str := Hr false some x
def Oz (r : Str) : AV := .val .str r
def VZ : Ent := evE (.cons aa .unit) Oz (zero .str) (fun x => ou x.1)
def aeH : Par := ⟨bg.tab, (av [(7, lZ)]), (fun _ => ak []), (fun _ => ak [])⟩
theorem aeG : ap Tryz.prog 69 (VZ) := evX Tryz.func69 (S := aeH) aJ (ah ⟨oo, trivial⟩) (tys := [.str]) (fun fuel x => Hr true (sm Oz) x.1) (fun x => by show _ = Option.map Oz _; simp only [Hr, ou, ss])
abbrev dl (β : Type) := Int → ao.den → (List Int) → Int → Option β
abbrev D8 (β : Type) := Int → Int → ao.den → (List Int) → Option β
def fZ (m : Bool) {β : Type} (K : (List Int) → Option β) (k_l3 : dl β) : D8 β := fun kind i s out => (fz m aa (w64 (i + 1)) fun y3_ => (k_l3 kind s out y3_))
def aeE (x0 : ao.den) (x1 : Int) : Bool := (eD x0 x1).isSome
def aeF (x0 : ao.den) (x1 : Int) : Int := (eD x0 x1).getD (zero aa)
def fY (m : Bool) {β : Type} (K : (List Int) → Option β) (k_l3 : dl β) : dl β := fun kind s out i => (bif (decide (i < (il s.1))) then (ck (bd i s.1.length) (nq m [2, 2] (decide ((ix aj s.1 i).2.1 = 1)) (nq m [2] ((decide ((ix aj s.1 i).2.1 = 1)) && (!(decide (kind = 0)))) (nm m 2 ((decide ((ix aj s.1 i).2.1 = 1)) && (!(decide (kind = 0)))) (bd i s.1.length) (nq m [2, 2] ((decide ((ix aj s.1 i).2.1 = 1)) && (!(decide (kind = 0)))) (nm m 2 ((decide ((ix aj s.1 i).2.1 = 1)) && (!(decide (kind = 0)))) (aeE s ((ix aj s.1 i).1)) (nq m [3] ((decide ((ix aj s.1 i).2.1 = 1)) && (!(decide (kind = 0)))) (nm m 0 (decide ((ix aj s.1 i).2.1 = 1)) (ii ((decide ((ix aj s.1 i).2.1 = 1)) && (!(decide (kind = 0))))) (nq m [1] (decide ((ix aj s.1 i).2.1 = 1)) (bif (bif (decide ((ix aj s.1 i).2.1 = 1)) then (bif (decide (kind = 0)) then true else (decide ((aeF s ((ix aj s.1 i).1)) = kind))) else false) then (ck (bd i s.1.length) (ck (lm (List.length out + List.length ([(ix aj s.1 i).1] : List Int))) (fz m (.slice aa) (out ++ [(ix aj s.1 i).1]) fun y3_ => (fZ m K k_l3 kind i s y3_)))) else (fZ m K k_l3 kind i s out))))))))))) else (K out))
def lM (m : Bool) {β : Type} (K : (List Int) → Option β) (k_l3 : dl β) (s : ao.den) (kind : Int) : Option β := (k_l3 kind s [] 0)
def gJ : Nat → dl (List Int) := lp (fun _ _ _ _ => none) fun k_l3 => fY false some k_l3
def bc (s : ao.den) (kind : Int) : Option (List Int) := lM false some (gJ FU) s kind
def lN (r : (List Int)) : AV := .val (.slice aa) r
def p9 : Nw := nwE aa (.cons ao (.cons aa .unit)) 3 (fun x => bc x.1 x.2.1)
def sq : MS := ⟨1, [(0, [.dat (.slice aj)])], [(1, .dat aa), (2, .keep), (5, .own aa 3), (6, .dat aa)]⟩
def D9 : MS := ⟨1, [(0, [.dat (.slice aj)])], [(1, .dat aa), (2, .keep), (5, .own aa 3), (6, .dat aa)]⟩
def yu : Par := ⟨bg.tab, (av [(64, uS)]), (fun _ => ak [(4, D9)]), (fun _ => ak [(3, sq)])⟩
def Mv : KT := wt bg.tab [.tmp 4] aa 3
def yv (fuel lo : Nat) (p : List Nat) : Sg → KT → Option AV := xc (aH fi0 hs0 fuel 0) yu lo fuel (sub ((Tryz.f62.body).getD .skip) p)
def gI (fuel n : Nat) : dl AV := fun kind s out i => aD 0 sq (yv fuel 0 [1, 1, 0, 1, 0, 0]) (ai 0 (ax 0 none (yv fuel 0 [1, 1, 1]) Mv)) n ⟨mkE 47 [(1, .val aa kind), (2, .box 0 0), (5, .own 1 0 aa out), (6, .val aa i)], mkH 2 [(0, .box [.val (.slice aj) s.1]), (1, .row aa 3 0)]⟩
theorem Ea (fuel n3 : Nat) : gI fuel (n3 + 1) = fY true (sm lN) (gI fuel n3) := by kernel_rfl
theorem Eb : ∀ n, gI FU n = mp4 lN (gJ n) := ba (by kernel_rfl) fun n3 _ h => (Ea FU n3).trans (by rw [h]; funext _ _ _ _; simp only [fY, fZ, ss])
theorem yt : Eg Tryz.prog 62 (p9) := nwX Tryz.func62 (S := yu) aJ (ah ⟨y5, trivial⟩) (fun fuel x => lM true (sm lN) (gI fuel fuel) x.1 x.2.1) (fun x => by show _ = Option.map lN _; rw [Eb FU]; simp only [lM, bc, fZ, ss])
def yW (m : Bool) {β : Type} (K : Int → Option β) (l : (List Int)) (x : Int) : Option β := (bif (decide ((il l) = 0)) then (K 0) else (cl m aa (aZ x (il l)) fun r1 => (ck (bd r1 l.length) (K (ix aa l r1)))))
def bj (l : (List Int)) (x : Int) : Option Int := yW false some l x
def G2 (r : Int) : AV := .val aa r
def G3 : Ent := evE (.cons (.slice aa) (.cons aa .unit)) G2 (zero aa) (fun x => bj x.1 x.2.1)
def aaq : Par := ⟨bg.tab, (av [(7, lZ)]), (fun _ => ak []), (fun _ => ak [])⟩
theorem QH : ap Tryz.prog 63 (G3) := evX Tryz.func63 (S := aaq) aJ (ah ⟨oo, trivial⟩) (tys := [aa]) (fun fuel x => yW true (sm G2) x.1 x.2.1) (fun x => by show _ = Option.map G2 _; simp only [yW, bj, ss])
def yV (m : Bool) {β : Type} (K : aF.den → Option β) (s : ao.den) (id : Int) (field : Int) : Option β := (ce m (.slice aR) (bX s id field) (el s id field) fun r1 => (bif (decide ((il r1) = 0)) then (K (0, false, [], 0, ())) else (ck (bd 0 r1.length) (K ((ix aR r1 0).2.1)))))
def ez (s : ao.den) (id : Int) (field : Int) : Option aF.den := yV false some s id field
def GU (r : aF.den) : AV := .val aF r
def QG : Ent := evE (.cons ao (.cons aa (.cons aa .unit))) GU (zero aF) (fun x => ez x.1 x.2.1 x.2.2.1)
def aan : Par := ⟨bg.tab, (av [(83, vW)]), (fun _ => ak []), (fun _ => ak [])⟩
theorem aam : ap Tryz.prog 67 (QG) := evX Tryz.func67 (S := aan) aJ (ah ⟨Jw, trivial⟩) (tys := [aF]) (fun fuel x => yV true (sm GU) x.1 x.2.1 x.2.2.1) (fun x => by show _ = Option.map GU _; simp only [yV, ez, ss])
def qJ (m : Bool) {β : Type} (K : aF.den → Option β) (v : aF.den) (s : ao.den) (x : Int) : Option β := (nq m [2, 2, 1] (decide (v.1 ≥ 5)) (bif (bif (decide (v.1 ≥ 5)) then (decide (v.1 ≤ 9)) else false) then (cl m aa (aZ x 4) fun r1 => (bif (decide (r1 = 0)) then (K (5, false, [], 0, ())) else (bif (decide (r1 = 1)) then (K (6, false, [], 0, ())) else (bif (decide (r1 = 2)) then (ck (!decide ((4 : Int) = 0)) (cl m .str (gP 3 (w64 (Int.tdiv x 4))) fun r2 => (K (9, false, r2, 0, ())))) else (cl m (.slice aa) (bc s 3) fun r3 => (ck (!decide ((4 : Int) = 0)) (cl m aa (bj r3 (w64 (Int.tdiv x 4))) fun r4 => (bif (!decide (r4 = 0)) then (K (9, false, [], r4, ())) else (K (7, false, [], 0, ())))))))))) else (bif (decide (v.1 = 21)) then (cl m aa (aZ x 2) fun r5 => (bif (decide (r5 = 0)) then (K (21, false, [42], 0, ())) else (K (21, false, [60], 0, ())))) else (bif (decide (v.1 = 20)) then (cl m .str (gP 2 x) fun r6 => (K (20, false, r6, 0, ()))) else (cl m aa (aZ x 6) fun r7 => (bif (decide (r7 = 0)) then (K (10, false, [51], 0, ())) else (bif (decide (r7 = 1)) then (K (11, false, [34, 115, 34], 0, ())) else (bif (decide (r7 = 2)) then (cl m (.slice aa) (bc s 4) fun r8 => (ck (!decide ((6 : Int) = 0)) (cl m aa (bj r8 (w64 (Int.tdiv x 6))) fun r9 => (bif (!decide (r9 = 0)) then (K (12, false, [], r9, ())) else (K (12, false, [122], 0, ())))))) else (bif (decide (r7 = 3)) then (cl m (.slice aa) (bc s 2) fun r10 => (ck (!decide ((6 : Int) = 0)) (cl m aa (bj r10 (w64 (Int.tdiv x 6))) fun r11 => (bif (!decide (r11 = 0)) then (ck (!decide ((6 : Int) = 0)) (cl m aa (aZ (w64 (Int.tdiv x 6)) 3) fun r12 => (K (16, (decide (r12 = 0)), [], r11, ())))) else (K (16, false, [77, 46, 102], 0, ())))))) else (bif (decide (r7 = 4)) then (K (10, false, [49, 50], 0, ())) else (K (13, false, [], 0, ()))))))))))))
def dz (v : aF.den) (s : ao.den) (x : Int) : Option aF.den := qJ false some v s x
def wn (r : aF.den) : AV := .val aF r
def EL : Ent := evE (.cons aF (.cons ao (.cons aa .unit))) wn (zero aF) (fun x => dz x.1 x.2.1 x.2.2.1)
def Su : Par := ⟨bg.tab, (bQ [(7, lZ), (65, Gi), (63, G3)] [] [] [] [(62, p9)]), (fun _ => ak []), (fun _ => ak [])⟩
theorem Ss : ap Tryz.prog 66 (EL) := evX Tryz.func66 (S := Su) aJ (aW ⟨oo, Qo, QH, trivial⟩ trivial trivial trivial ⟨yt, trivial⟩) (tys := [aF]) (fun fuel x => qJ true (sm wn) x.1 x.2.1 x.2.2.1) (fun x => by show _ = Option.map wn _; simp only [qJ, dz, ss])
abbrev cI := (List ac.den)
abbrev b7 (β : Type) := (List ac.den) → Nat → Int → (List ac.den) → Option β
abbrev gV (β : Type) := (List ac.den) → Int → Nat → Int → (List ac.den) → Option β
abbrev Gx (β : Type) := (List ac.den) → Int → Int → Nat → Int → (List ac.den) → Option β
abbrev Kr (β : Type) := (List ac.den) → Int → Nat → (List ac.den) → Option β
def jJ (m : Bool) {β : Type} (K : cI → Option β) (k_l6 : gV β) : b7 β := fun l out_hi i out => (bif (decide (i < (il l))) then (fz m aa (ni out_hi) fun y3_ => (k_l6 l i out_hi y3_ out)) else (K ((List.take out_hi out).drop 0)))
def jK (m : Bool) {β : Type} (K : cI → Option β) (k_l3 : b7 β) : Kr β := fun l i out_hi out => (fz m aa (w64 (i + 1)) fun y2_ => (k_l3 l out_hi y2_ out))
def dx (m : Bool) {β : Type} (K : cI → Option β) (k_l3 : b7 β) : Gx β := fun l i t5 out_hi j out => (ck (decide (0 ≤ j) && decide (j ≤ (ni out_hi))) (ck (lm (List.length ([] : List ac.den) + List.length ((List.take (0 + out_hi) out).drop (0 + (Int.toNat j))))) (ck (decide (0 ≤ t5) && decide (t5 ≤ (ni out_hi))) (ck (bd i l.length) (ck (lm ((0 + (Int.toNat t5)) + List.length ([(ix ac l i)] : List ac.den))) (ck (lm (((0 + (Int.toNat t5)) + List.length ([(ix ac l i)] : List ac.den)) + List.length (([] : List ac.den) ++ ((List.take (0 + out_hi) out).drop (0 + (Int.toNat j)))))) (fm m (((0 + (Int.toNat t5)) + List.length ([(ix ac l i)] : List ac.den)) + List.length (([] : List ac.den) ++ ((List.take (0 + out_hi) out).drop (0 + (Int.toNat j))))) fun y2_ => (fz m (.slice ac) (List.take ((0 + (Int.toNat t5)) + List.length ([(ix ac l i)] : List ac.den)) (List.take (0 + (Int.toNat t5)) out ++ [(ix ac l i)]) ++ (([] : List ac.den) ++ ((List.take (0 + out_hi) out).drop (0 + (Int.toNat j))))) fun y3_ => (jK m K k_l3 l i y2_ y3_)))))))))
def jI (m : Bool) {β : Type} (K : cI → Option β) (k_l6 : gV β) (k_l3 : b7 β) : gV β := fun l i out_hi t5 out => (nq m [2] (decide (t5 > 0)) (nm m 2 (decide (t5 > 0)) (decide (0 ≤ (w64 (t5 - 1))) && decide ((w64 (t5 - 1)) < (ni out_hi))) (nq m [2, 2, 2] (decide (t5 > 0)) (nm m 2 (decide (t5 > 0)) (decide (0 ≤ (w64 (t5 - 1))) && decide ((w64 (t5 - 1)) < (ni out_hi))) (nq m [2, 2] (decide (t5 > 0)) (nm m 2 (decide (t5 > 0)) (bd i l.length) (nq m [2, 2] (decide (t5 > 0)) (nm m 2 (decide (t5 > 0)) (bd i l.length) (nq m [2, 2] (decide (t5 > 0)) (ck (((ii (decide (t5 > 0))) && ((ii (decide (t5 > 0))) && ((ii (decide (t5 > 0))) && ((ii (decide (t5 > 0))) && true)))) && true) (nq m [2, 1] (decide (t5 > 0)) (bif (bif (decide (t5 > 0)) then (!(qm ((List.getD out (0 + Int.toNat (w64 (t5 - 1))) (zero ac)).1) ((List.getD out (0 + Int.toNat (w64 (t5 - 1))) (zero ac)).2.1) ((ix ac l i).1) ((ix ac l i).2.1))) else false) then (fz m aa (w64 (t5 - 1)) fun y3_ => (k_l6 l i out_hi y3_ out)) else (nm m 2 (decide (t5 < (ni out_hi))) (decide (0 ≤ t5) && decide (t5 < (ni out_hi))) (nq m [2, 2] (decide (t5 < (ni out_hi))) (nm m 2 (decide (t5 < (ni out_hi))) (bd i l.length) (nq m [2, 2, 3, 1] (decide (t5 < (ni out_hi))) (nm m 2 (bif (decide (t5 < (ni out_hi))) then (decide ((List.getD out (0 + Int.toNat t5) (zero ac)).1 = (ix ac l i).1)) else false) (decide (0 ≤ t5) && decide (t5 < (ni out_hi))) (nq m [2, 2] (bif (decide (t5 < (ni out_hi))) then (decide ((List.getD out (0 + Int.toNat t5) (zero ac)).1 = (ix ac l i).1)) else false) (nm m 2 (bif (decide (t5 < (ni out_hi))) then (decide ((List.getD out (0 + Int.toNat t5) (zero ac)).1 = (ix ac l i).1)) else false) (bd i l.length) (nq m [2, 2, 3, 1] (bif (decide (t5 < (ni out_hi))) then (decide ((List.getD out (0 + Int.toNat t5) (zero ac)).1 = (ix ac l i).1)) else false) (bif (bif (bif (decide (t5 < (ni out_hi))) then (decide ((List.getD out (0 + Int.toNat t5) (zero ac)).1 = (ix ac l i).1)) else false) then (decide ((List.getD out (0 + Int.toNat t5) (zero ac)).2.1 = (ix ac l i).2.1)) else false) then (fz m aa (w64 (t5 + 1)) fun y4_ => (dx m K k_l3 l i t5 out_hi y4_ out)) else (dx m K k_l3 l i t5 out_hi t5 out))))))))))))))))))))))
def qI (m : Bool) {β : Type} (K : cI → Option β) (k_l3 : b7 β) (l : (List ac.den)) : Option β := (k_l3 l 0 0 [])
def gW (k_l3 : b7 cI) : Nat → gV cI := lp (fun _ _ _ _ _ => none) fun k_l6 => jI false some k_l6 k_l3
def la : Nat → b7 cI := lp (fun _ _ _ _ => none) fun k_l3 => jJ false some (gW k_l3 FU)
def jL (l : (List ac.den)) : Option cI := qI false some (la FU) l
def eV (r : cI) : AV := .val (.slice ac) r
def EI : Ent := evE (.cons (.slice ac) .unit) eV (zero (.slice ac)) (fun x => jL x.1)
def pd : MS := ⟨0, [], [(0, .dat (.slice ac)), (3, .mut ac 86), (4, .dat aa)]⟩
def xI : MS := ⟨0, [], [(0, .dat (.slice ac)), (3, .mut ac 86), (4, .dat aa), (5, .dat aa)]⟩
def Gy : MS := ⟨0, [], [(0, .dat (.slice ac)), (3, .mut ac 86), (4, .dat aa), (5, .dat aa), (6, .dat aa)]⟩
def xJ : MS := ⟨0, [], [(0, .dat (.slice ac)), (3, .mut ac 86), (4, .dat aa)]⟩
def EJ : Par := ⟨bg.tab, (av [(85, rG)]), (fun _ => ak [(11, Gy), (4, xJ)]), (fun _ => ak [(3, pd), (6, xI)])⟩
def EK : KT := aB bg.tab [.tmp 2] [(.slice ac)]
def ge (fuel lo : Nat) (p : List Nat) : Sg → KT → Option AV := xc (aH fi0 hs0 fuel 0) EJ lo fuel (sub ((Tryz.f72.body).getD .skip) p)
def gX (fuel n : Nat) : b7 AV := fun l out_hi i out => aD 0 pd (ge fuel 0 [1, 1, 0, 1, 0, 0]) (ai 0 (ax 0 none (ge fuel 0 [1, 1, 1]) EK)) n ⟨mkE 96 [(0, .val (.slice ac) l), (3, .msl 0 0 0 out_hi), (4, .val aa i)], mkH 1 [(0, .mrow ac 86 0 out)]⟩
def k9 (fuel n3 n : Nat) : gV AV := fun l i out_hi t5 out => aD 0 xI (ge fuel 0 [1, 1, 0, 1, 0, 0, 1, 0, 0, 1, 0, 0, 0]) (ai 2 (ax 0 none (ge fuel 0 [1, 1, 0, 1, 0, 0, 1, 0, 0, 1, 1]) (ai 1 (ax 0 (some xJ) (ge fuel 0 [1, 1, 0, 1, 0, 0, 1, 1]) (kLp 0 pd (ge fuel 0 [1, 1, 0, 1, 0, 0]) (ai 0 (ax 0 none (ge fuel 0 [1, 1, 1]) EK)) n3))))) n ⟨mkE 96 [(0, .val (.slice ac) l), (3, .msl 0 0 0 out_hi), (4, .val aa i), (5, .val aa t5)], mkH 1 [(0, .mrow ac 86 0 out)]⟩
theorem Ku (fuel n3 : Nat) : gX fuel (n3 + 1) = jJ true (sm eV) (k9 fuel n3 fuel) := by kernel_rfl
theorem Ks (fuel n3 n6 : Nat) : k9 fuel n3 (n6 + 1) = jI true (sm eV) (k9 fuel n3 n6) (gX fuel n3) := by kernel_rfl
theorem Kt (n3 : Nat) {k_l3 : b7 cI} (h_l3 : gX FU n3 = mp4 eV k_l3) : ∀ n, k9 FU n3 n = mp5 eV (gW k_l3 n) := ba (by kernel_rfl) fun n6 _ h => (Ks FU n3 n6).trans (by rw [h, h_l3]; funext _ _ _ _ _; simp only [jI, dx, jK, ss])
theorem Kv : ∀ n, gX FU n = mp4 eV (la n) := ba (by kernel_rfl) fun n3 _ h => (Ku FU n3).trans (by rw [Kt n3 h FU]; funext _ _ _ _; simp only [jJ, dx, jK, ss])
theorem Sr : ap Tryz.prog 72 (EI) := evX Tryz.func72 (S := EJ) aJ (ah ⟨JA, trivial⟩) (tys := [(.slice ac)]) (fun fuel x => qI true (sm eV) (gX fuel fuel) x.1) (fun x => by show _ = Option.map eV _; rw [Kv FU]; simp only [qI, jL, dx, jK, ss])
abbrev me := (List ac.den)
abbrev iG (β : Type) := Int → (List Int) → aw.den → (List ac.den) → Int → Option β
abbrev nu (β : Type) := Int → (List Int) → Int → (List ac.den) → aw.den → (List ac.den) → Int → Option β
abbrev ZA (β : Type) := Int → (List Int) → Int → (List ac.den) → Int → aw.den → (List ac.den) → Option β
def v6 (m : Bool) {β : Type} (K : me → Option β) (k_l8 : nu β) : iG β := fun id r1 t0 out i => (nq m [2, 1] (decide (i < (il ([id] ++ r1)))) (bif (bif (decide (i < (il ([id] ++ r1)))) then (decide (i < 12)) else false) then (ck (bd i ([id] ++ r1).length) (cl m (.slice ac) (Bw (t0.1) (ix aa ([id] ++ r1) i)) fun r2 => (k_l8 id r1 i r2 t0 out 0))) else (K out)))
def rF (m : Bool) {β : Type} (K : me → Option β) (k_l8 : nu β) : ZA β := fun id r1 i r2 t9 t0 out => (fz m aa (w64 (t9 + 1)) fun y6_ => (k_l8 id r1 i r2 t0 out y6_))
def vY (m : Bool) {β : Type} (K : me → Option β) (k_l8 : nu β) (k_l4 : iG β) : nu β := fun id r1 i r2 t0 out t9 => (bif (decide (t9 < (il r2))) then (ck (bd t9 r2.length) (bif (!decide ((ix ac r2 t9).2.1 = 1)) then (ck (bd t9 r2.length) (ck (lm (List.length out + List.length ([(ix ac r2 t9)] : List ac.den))) (fz m (.slice ac) (out ++ [(ix ac r2 t9)]) fun y6_ => (rF m K k_l8 id r1 i r2 t9 t0 y6_)))) else (rF m K k_l8 id r1 i r2 t9 t0 out))) else (fz m aa (w64 (i + 1)) fun y4_ => (k_l4 id r1 t0 out y4_)))
def Jy (m : Bool) {β : Type} (K : me → Option β) (k_l4 : iG β) (t0 : aw.den) (id : Int) : Option β := (cl m (.slice aa) (kI t0 id) fun r1 => (ck (lm (List.length ([id] : List Int) + List.length r1)) (k_l4 id r1 t0 [] 0)))
def qk (k_l4 : iG me) : Nat → nu me := lp (fun _ _ _ _ _ _ _ => none) fun k_l8 => vY false some k_l8 k_l4
def vZ : Nat → iG me := lp (fun _ _ _ _ _ => none) fun k_l4 => v6 false some (qk k_l4 FU)
def lT (t0 : aw.den) (id : Int) : Option me := Jy false some (vZ FU) t0 id
def qj (r : me) : AV := .val (.slice ac) r
def ZG : Ent := evE (.cons aw (.cons aa .unit)) qj (zero (.slice ac)) (fun x => lT x.1 x.2.1)
def Du : MS := ⟨1, [(0, [.dat (.slice ac)])], [(2, .keep), (5, .dat (.slice aa)), (6, .own ac 86), (7, .dat aa)]⟩
def MT : MS := ⟨1, [(0, [.dat (.slice ac)])], [(2, .keep), (5, .dat (.slice aa)), (6, .own ac 86), (7, .dat aa), (8, .dat (.slice ac)), (9, .dat aa)]⟩
def ZB : MS := ⟨1, [(0, [.dat (.slice ac)])], [(2, .keep), (5, .dat (.slice aa)), (6, .own ac 86), (7, .dat aa), (8, .dat (.slice ac)), (9, .dat aa)]⟩
def ZH : Par := ⟨bg.tab, (av [(107, FT), (108, ady)]), (fun _ => ak [(9, ZB)]), (fun _ => ak [(4, Du), (8, MT)])⟩
def ZI : KT := aB bg.tab [.tmp 4] [(.slice ac)]
def xp (fuel lo : Nat) (p : List Nat) : Sg → KT → Option AV := xc (aH fi0 hs0 fuel 0) ZH lo fuel (sub ((Tryz.f71.body).getD .skip) p)
def ql (fuel n : Nat) : iG AV := fun id r1 t0 out i => aD 0 Du (xp fuel 0 [1, 1, 1, 0, 1, 0, 0]) (ai 0 (ax 0 none (xp fuel 0 [1, 1, 1, 1]) ZI)) n ⟨mkE 53 [(2, .box 0 0), (5, .val (.slice aa) ([id] ++ r1)), (6, .own 1 0 ac out), (7, .val aa i)], mkH 2 [(0, .box [.val (.slice ac) t0.1]), (1, .row ac 86 0)]⟩
def vX (fuel n4 n : Nat) : nu AV := fun id r1 i r2 t0 out t9 => aD 0 MT (xp fuel 0 [1, 1, 1, 0, 1, 0, 0, 1, 0, 0, 1, 1, 0, 0]) (ai 2 (ai 1 (ax 0 none (xp fuel 0 [1, 1, 1, 0, 1, 0, 0, 1, 1]) (kLp 0 Du (xp fuel 0 [1, 1, 1, 0, 1, 0, 0]) (ai 0 (ax 0 none (xp fuel 0 [1, 1, 1, 1]) ZI)) n4)))) n ⟨mkE 53 [(2, .box 0 0), (5, .val (.slice aa) ([id] ++ r1)), (6, .own 1 0 ac out), (7, .val aa i), (8, .val (.slice ac) r2), (9, .val aa t9)], mkH 2 [(0, .box [.val (.slice ac) t0.1]), (1, .row ac 86 0)]⟩
theorem ZE (fuel n4 : Nat) : ql fuel (n4 + 1) = v6 true (sm qj) (vX fuel n4 fuel) := by kernel_rfl
theorem ZC (fuel n4 n8 : Nat) : vX fuel n4 (n8 + 1) = vY true (sm qj) (vX fuel n4 n8) (ql fuel n4) := by kernel_rfl
theorem ZD (n4 : Nat) {k_l4 : iG me} (h_l4 : ql FU n4 = mp5 qj k_l4) : ∀ n, vX FU n4 n = mp7 qj (qk k_l4 n) := ba (by kernel_rfl) fun n8 _ h => (ZC FU n4 n8).trans (by rw [h, h_l4]; funext _ _ _ _ _ _ _; simp only [vY, rF, ss])
theorem ZF : ∀ n, ql FU n = mp5 qj (vZ n) := ba (by kernel_rfl) fun n4 _ h => (ZE FU n4).trans (by rw [ZD n4 h FU]; funext _ _ _ _ _; simp only [v6, rF, ss])
theorem ahF : ap Tryz.prog 71 (ZG) := evX Tryz.func71 (S := ZH) aJ (ah ⟨Ur, ah9, trivial⟩) (tys := [(.slice ac)]) (fun fuel x => Jy true (sm qj) (ql fuel fuel) x.1 x.2.1) (fun x => by show _ = Option.map qj _; rw [ZF FU]; simp only [Jy, lT, rF, ss])
abbrev gg := (List ac.den)
abbrev dY (β : Type) := Nat → Int → (List ac.den) → Option β
abbrev GI (β : Type) := Int → Nat → (List ac.den) → Option β
def g7 (m : Bool) {β : Type} (K : gg → Option β) (k_l3 : dY β) : GI β := fun i out_hi out => (fz m aa (w64 (i + 1)) fun y1_ => (k_l3 out_hi y1_ out))
def gZ (m : Bool) {β : Type} (K : gg → Option β) (k_l3 : dY β) : dY β := fun out_hi i out => (bif (decide (i < (ni out_hi))) then (ck (decide (0 ≤ i) && decide (i < (ni out_hi))) (bif (decide ((List.getD out (0 + Int.toNat i) (zero ac)).2.1 = 2)) then (ck (decide (0 ≤ i) && decide (i < (ni out_hi))) (fz m (.slice ac) (List.set out (0 + Int.toNat i) ((List.getD out (0 + Int.toNat i) (zero ac)).1, (List.getD out (0 + Int.toNat i) (zero ac)).2.1, (0, false, [], 0, ()), ())) fun y2_ => (g7 m K k_l3 i out_hi y2_))) else (g7 m K k_l3 i out_hi out))) else (K ((List.take out_hi out).drop 0)))
def nU (m : Bool) {β : Type} (K : gg → Option β) (k_l3 : dY β) (l : (List ac.den)) : Option β := (ck (lm (0 + List.length l)) (fm m (0 + List.length l) fun y0_ => (fz m (.slice ac) (List.take 0 [] ++ l) fun y2_ => (k_l3 y0_ 0 y2_))))
def iU : Nat → dY gg := lp (fun _ _ _ => none) fun k_l3 => gZ false some k_l3
def dC (l : (List ac.den)) : Option gg := nU false some (iU FU) l
def jN (r : gg) : AV := .val (.slice ac) r
def AE : Ent := evE (.cons (.slice ac) .unit) jN (zero (.slice ac)) (fun x => dC x.1)
def ug : MS := ⟨0, [], [(3, .mut ac 86), (4, .dat aa)]⟩
def GJ : MS := ⟨0, [], [(3, .mut ac 86), (4, .dat aa)]⟩
def AF : Par := ⟨Kg.tab, (av []), (fun _ => ak [(4, GJ)]), (fun _ => ak [(3, ug)])⟩
def NL : KT := aB Kg.tab [.tmp 2] [(.slice ac)]
def AG (fuel lo : Nat) (p : List Nat) : Sg → KT → Option AV := xc (aH fi0 hs0 fuel 0) AF lo fuel (sub ((Tryz.f70.body).getD .skip) p)
def iT (fuel n : Nat) : dY AV := fun out_hi i out => aD 0 ug (AG fuel 0 [1, 1, 0, 1, 0, 0]) (ai 0 (ax 0 none (AG fuel 0 [1, 1, 1]) NL)) n ⟨mkE 26 [(3, .msl 0 0 0 out_hi), (4, .val aa i)], mkH 1 [(0, .mrow ac 86 0 out)]⟩
theorem GK (fuel n3 : Nat) : iT fuel (n3 + 1) = gZ true (sm jN) (iT fuel n3) := by kernel_rfl
theorem GL : ∀ n, iT FU n = mp3 jN (iU n) := ba (by kernel_rfl) fun n3 _ h => (GK FU n3).trans (by rw [h]; funext _ _ _; simp only [gZ, g7, ss])
theorem NK : ap Tryz.prog 70 (AE) := evX Tryz.func70 (S := AF) Kf (ah trivial) (tys := [(.slice ac)]) (fun fuel x => nU true (sm jN) (iT fuel fuel) x.1) (fun x => by show _ = Option.map jN _; rw [GL FU]; simp only [nU, dC, g7, ss])
abbrev ca := (List ac.den)
abbrev kP (β : Type) := Int → (List Int) → (List Int) → (List Int) → Int → Bool → (List aj.den) → Int → Int → Int → Int → (List ac.den) → Option β
abbrev iQ (β : Type) := Int → Int → Int → Int → Int → Int → Option β
abbrev iP (β : Type) := Int → (List Int) → (List Int) → (List Int) → Int → Bool → (List aj.den) → Int → Int → Int → Int → (List ac.den) → Option β
abbrev dU (β : Type) := (List ac.den) → Option β
abbrev iO (β : Type) := Int → Int → Bool → Str → Int → Option β
def ny (m : Bool) {β : Type} (K : ca → Option β) (k_j14 : iQ β) (k_j17 : iP β) : kP β := fun last r2 r3 r4 r5 t33 b0_0 b1_0 b1_1 b1_2 b1_3 b5_0 => (bif t33 then (cl m aa (bj r2 b1_2) fun r6 => (cl m aa (eD (b0_0, ()) r6) fun r7 => (nq m [2, 0] (!(decide (r7 = 5))) (bif (bif (decide (r7 = 5)) then true else (decide (r7 = 0))) then (cl m aa (bj r4 b1_2) fun r8 => (k_j14 r8 2 b1_0 b1_1 b1_2 b1_3)) else (k_j14 r6 r7 b1_0 b1_1 b1_2 b1_3))))) else (bif (decide (r5 = 2)) then (fz m .bool (decide (r5 = 2)) fun y5_ => (k_j17 last r2 r3 r4 r5 y5_ b0_0 b1_0 b1_1 b1_2 b1_3 b5_0)) else (fz m .bool (decide (r5 = 3)) fun y5_ => (k_j17 last r2 r3 r4 r5 y5_ b0_0 b1_0 b1_1 b1_2 b1_3 b5_0))))
def kU (m : Bool) {β : Type} (K : ca → Option β) (k_j45 : dU β) : iQ β := fun id t13 b1_0 b1_1 b1_2 b1_3 => (cl m .str (gP t13 b1_3) fun r9 => (ck (lm (List.length ([] : List ac.den) + List.length ([(id, 3, (0, false, r9, 0, ()), ())] : List ac.den))) (fz m (.slice ac) ([] ++ [(id, 3, (0, false, r9, 0, ()), ())]) fun y0_ => (k_j45 y0_))))
def kT (m : Bool) {β : Type} (K : ca → Option β) (k_j45 : dU β) (k_j42 : iO β) : iP β := fun last r2 r3 r4 r5 t63 b0_0 b1_0 b1_1 b1_2 b1_3 b5_0 => (bif t63 then (cl m aa (bj r3 b1_2) fun r10 => (cl m aF (ez (b0_0, ()) r10 4) fun r11 => (cl m aF (dz r11 (b0_0, ()) b1_3) fun r12 => (ck (lm (List.length ([] : List ac.den) + List.length ([(r10, 4, r12, ())] : List ac.den))) (fz m (.slice ac) ([] ++ [(r10, 4, r12, ())]) fun y0_ => (k_j45 y0_)))))) else (bif (decide (r5 = 4)) then (cl m aa (bj r2 b1_2) fun r13 => (cl m aa (aZ b1_3 3) fun r14 => (ck (!decide ((3 : Int) = 0)) (cl m .str (jE (w64 (Int.tdiv b1_3 3))) fun r15 => (ck (lm (List.length ([] : List ac.den) + List.length ([(r13, (w64 ((8 : Int) + r14)), (0, false, r15, 0, ()), ())] : List ac.den))) (fz m (.slice ac) ([] ++ [(r13, (w64 ((8 : Int) + r14)), (0, false, r15, 0, ()), ())]) fun y0_ => (k_j45 y0_))))))) else (bif (decide (r5 = 5)) then (cl m aa (bj r4 b1_2) fun r16 => (cl m (.slice aa) (bc (b0_0, ()) 1) fun r17 => (cl m aa (bj r17 b1_3) fun r18 => (ck (!decide ((2 : Int) = 0)) (cl m .str (ou (w64 (Int.tdiv b1_3 2))) fun r19 => (ck (lm (List.length ([] : List ac.den) + List.length ([(r16, 2, (0, false, r19, r18, ()), ())] : List ac.den))) (fz m (.slice ac) ([] ++ [(r16, 2, (0, false, r19, r18, ()), ())]) fun y0_ => (k_j45 y0_)))))))) else (bif (decide (r5 = 6)) then (cl m aa (bj r3 b1_2) fun r20 => (cl m aa (bj r3 b1_3) fun r21 => (cl m aF (ez (b0_0, ()) r21 2) fun r22 => (ck (lm (List.length ([] : List ac.den) + List.length ([(r20, 2, r22, ())] : List ac.den))) (fz m (.slice ac) ([] ++ [(r20, 2, r22, ())]) fun y0_ => (k_j45 y0_)))))) else (bif (decide (r5 = 7)) then (cl m aa (bj r3 b1_2) fun r23 => (cl m aF (ez (b0_0, ()) r23 2) fun r24 => (cl m (.slice ac) (lT (b5_0, ()) r23) fun r25 => (cl m (.slice ac) (dC r25) fun r26 => (ck (lm (List.length ([] : List ac.den) + List.length r26)) (cl m aF (ez (b0_0, ()) r23 4) fun r27 => (cl m aF (dz r27 (b0_0, ()) b1_3) fun r28 => (ck (lm (List.length ([] ++ r26) + List.length ([((w64 (last + 1)), 1, (5, false, [], 0, ()), ()), ((w64 (last + 1)), 2, r24, ()), ((w64 (last + 1)), 4, r28, ())] : List ac.den))) (fz m (.slice ac) (([] ++ r26) ++ [((w64 (last + 1)), 1, (5, false, [], 0, ()), ()), ((w64 (last + 1)), 2, r24, ()), ((w64 (last + 1)), 4, r28, ())]) fun y0_ => (k_j45 y0_)))))))))) else (bif (decide (r5 = 8)) then (cl m (.slice aa) (bc (b0_0, ()) 1) fun r29 => (cl m aa (bj r29 b1_2) fun r30 => (cl m .str (ou b1_3) fun r31 => (cl m .str (gP 2 b1_3) fun r32 => (ck (!decide ((2 : Int) = 0)) (cl m aF (dz (0, false, [], 0, ()) (b0_0, ()) (w64 (Int.tdiv b1_3 2))) fun r33 => (ck (lm (List.length ([] : List ac.den) + List.length ([((w64 (last + 1)), 1, (2, false, [], 0, ()), ()), ((w64 (last + 1)), 2, (0, false, r31, r30, ()), ()), ((w64 (last + 1)), 3, (0, false, r32, 0, ()), ()), ((w64 (last + 1)), 8, (0, false, [10], 0, ()), ()), ((w64 (last + 1)), 9, (0, false, [32], 0, ()), ()), ((w64 (last + 2)), 1, (5, false, [], 0, ()), ()), ((w64 (last + 2)), 2, (1, false, [], (w64 (last + 1)), ()), ()), ((w64 (last + 2)), 4, (5, false, [], 0, ()), ()), ((w64 (last + 3)), 1, (5, false, [], 0, ()), ()), ((w64 (last + 3)), 2, (2, false, [], (w64 (last + 1)), ()), ()), ((w64 (last + 3)), 4, r33, ())] : List ac.den))) (fz m (.slice ac) ([] ++ [((w64 (last + 1)), 1, (2, false, [], 0, ()), ()), ((w64 (last + 1)), 2, (0, false, r31, r30, ()), ()), ((w64 (last + 1)), 3, (0, false, r32, 0, ()), ()), ((w64 (last + 1)), 8, (0, false, [10], 0, ()), ()), ((w64 (last + 1)), 9, (0, false, [32], 0, ()), ()), ((w64 (last + 2)), 1, (5, false, [], 0, ()), ()), ((w64 (last + 2)), 2, (1, false, [], (w64 (last + 1)), ()), ()), ((w64 (last + 2)), 4, (5, false, [], 0, ()), ()), ((w64 (last + 3)), 1, (5, false, [], 0, ()), ()), ((w64 (last + 3)), 2, (2, false, [], (w64 (last + 1)), ()), ()), ((w64 (last + 3)), 4, r33, ())]) fun y0_ => (k_j45 y0_))))))))) else (bif (decide (r5 = 9)) then (cl m (.slice aa) (bc (b0_0, ()) 4) fun r34 => (ck (lm (r4.length + r34.length)) (cl m aa (bj (r4 ++ r34) b1_2) fun r35 => (cl m (.slice ac) (lT (b5_0, ()) r35) fun r36 => (cl m (.slice ac) (dC r36) fun r37 => (k_j45 r37)))))) else (bif (decide (r5 = 10)) then (cl m (.slice aa) (bc (b0_0, ()) 4) fun r38 => (cl m aa (bj r38 b1_2) fun r39 => (cl m aF (ez (b0_0, ()) r39 2) fun r40 => (bif (!decide (r40.2.2.2.1 = 0)) then (cl m .str (ou b1_3) fun r41 => (k_j42 r39 (r40.1) (r40.2.1) r41 (r40.2.2.2.1))) else (k_j42 r39 (r40.1) (r40.2.1) (r40.2.2.1) (r40.2.2.2.1)))))) else (bif (decide (r5 = 11)) then (cl m aa (bj r2 b1_2) fun r42 => (cl m (.slice ac) (lT (b5_0, ()) r42) fun r43 => (k_j45 r43))) else (k_j45 []))))))))))
def kR (m : Bool) {β : Type} (K : ca → Option β) : dU β := fun w => (cl m (.slice ac) (jL w) fun r44 => (K r44))
def kS (m : Bool) {β : Type} (K : ca → Option β) (k_j45 : dU β) : iO β := fun r39 b31_0 b31_1 b31_2 b31_3 => (ck (lm (List.length ([] : List ac.den) + List.length ([(r39, 2, (b31_0, b31_1, b31_2, b31_3, ()), ())] : List ac.den))) (fz m (.slice ac) ([] ++ [(r39, 2, (b31_0, b31_1, b31_2, b31_3, ()), ())]) fun y0_ => (k_j45 y0_)))
def qq (m : Bool) {β : Type} (K : ca → Option β) (k_j9 : kP β) (s : ao.den) (d : aQ.den) (last : Int) : Option β := (ce m aw (stG s) (aI s) fun r1 => (cl m (.slice aa) (bc s 0) fun r2 => (cl m (.slice aa) (bc s 5) fun r3 => (cl m (.slice aa) (bc s 2) fun r4 => (cl m aa (aZ (d.1) 13) fun r5 => (bif (decide (r5 = 0)) then (fz m .bool (decide (r5 = 0)) fun y5_ => (fz m (.slice aj) (s.1) fun y6_ => (fz m aa (d.1) fun y7_ => (fz m aa (d.2.1) fun y8_ => (fz m aa (d.2.2.1) fun y9_ => (fz m aa (d.2.2.2.1) fun y10_ => (k_j9 last r2 r3 r4 r5 y5_ y6_ y7_ y8_ y9_ y10_ (r1.1)))))))) else (fz m .bool (decide (r5 = 1)) fun y5_ => (fz m (.slice aj) (s.1) fun y6_ => (fz m aa (d.1) fun y7_ => (fz m aa (d.2.1) fun y8_ => (fz m aa (d.2.2.1) fun y9_ => (fz m aa (d.2.2.2.1) fun y10_ => (k_j9 last r2 r3 r4 r5 y5_ y6_ y7_ y8_ y9_ y10_ (r1.1))))))))))))))
def cW : dU ca := kR false some
def cX : iQ ca := kU false some cW
def fp : iO ca := kS false some cW
def fq : iP ca := kT false some cW fp
def kQ : kP ca := ny false some cX fq
def ju (s : ao.den) (d : aQ.den) (last : Int) : Option ca := qq false some kQ s d last
def b9 (r : ca) : AV := .val (.slice ac) r
def Ek : Ent := evE (.cons ao (.cons aQ (.cons aa .unit))) b9 (zero (.slice ac)) (fun x => ju x.1 x.2.1 x.2.2.1)
def JJ : MS := ⟨6, [(0, [.dat (.slice aj)]), (1, [.dat aa, .dat aa, .dat aa, .dat aa]), (5, [.dat (.slice ac)])], [(2, .dat aa), (3, .keep), (4, .keep), (7, .keep), (8, .dat (.slice aa)), (9, .dat (.slice aa)), (10, .own aa 3), (11, .own ac 86), (32, .dat aa), (33, .dat .bool)]⟩
def F6 : MS := ⟨2, [(0, [.drop]), (1, [.dat aa, .dat aa, .dat aa, .dat aa])], [(4, .keep), (11, .own ac 86), (12, .dat aa), (13, .dat aa)]⟩
def F5 : MS := ⟨6, [(0, [.dat (.slice aj)]), (1, [.dat aa, .dat aa, .dat aa, .dat aa]), (5, [.dat (.slice ac)])], [(2, .dat aa), (3, .keep), (4, .keep), (7, .keep), (8, .dat (.slice aa)), (9, .dat (.slice aa)), (10, .own aa 3), (11, .own ac 86), (32, .dat aa), (63, .dat .bool)]⟩
def fj : MS := ⟨0, [], [(11, .dat (.slice ac))]⟩
def F4 : MS := ⟨32, [(0, [.drop]), (1, [.drop, .drop, .drop, .drop]), (5, [.drop]), (31, [.dat aa, .dat .bool, .dat .str, .dat aa])], [(11, .own ac 86), (20, .dat aa), (21, .keep)]⟩
def El : Par := ⟨bg.tab, (bQ [(61, BE), (7, lZ), (63, G3), (64, uS), (65, Gi), (67, QG), (66, EL), (68, ED), (69, VZ), (71, ZG), (70, AE), (72, EI)] [] [] [] [(62, p9)]), (fun _ => ak [(9, JJ), (14, F6), (17, F5), (45, fj), (42, F4)]), (fun _ => ak [])⟩
def mg : KT := aB bg.tab [.tmp 6] [(.slice ac)]
def dV (fuel lo : Nat) (p : List Nat) : Sg → KT → Option AV := xc (aH fi0 hs0 fuel 0) El lo fuel (sub ((Tryz.f27.body).getD .skip) p)
def oU (fuel : Nat) : kP AV := fun last r2 r3 r4 r5 t33 b0_0 b1_0 b1_1 b1_2 b1_3 b5_0 => (dV fuel 0 [1, 1, 1, 1, 1, 1, 0, 1, 0, 1]) ⟨mkE 290 [(2, .val aa last), (3, .box 0 0), (4, .box 1 0), (7, .box 5 0), (8, .val (.slice aa) r2), (9, .val (.slice aa) r3), (10, .own 6 0 aa r4), (11, .own 7 0 ac []), (32, .val aa r5), (33, .val .bool t33)], mkH 8 [(0, .box [.val (.slice aj) b0_0]), (1, .box [.val aa b1_0, .val aa b1_1, .val aa b1_2, .val aa b1_3]), (5, .box [.val (.slice ac) b5_0]), (6, .row aa 3 0), (7, .row ac 86 0)]⟩ (ai 0 (ax 0 (some fj) (dV fuel 0 [1, 1, 1, 1, 1, 1, 1]) mg))
def nC (fuel : Nat) : iQ AV := fun id t13 b1_0 b1_1 b1_2 b1_3 => (dV fuel 0 [1, 1, 1, 1, 1, 1, 0, 1, 0, 1, 0, 1, 1, 1]) ⟨mkE 290 [(4, .box 1 0), (11, .own 2 0 ac []), (12, .val aa id), (13, .val aa t13)], mkH 3 [(0, .box [.unk]), (1, .box [.val aa b1_0, .val aa b1_1, .val aa b1_2, .val aa b1_3]), (2, .row ac 86 0)]⟩ (ai 0 (ax 0 (some fj) (dV fuel 0 [1, 1, 1, 1, 1, 1, 1]) mg))
def nB (fuel : Nat) : iP AV := fun last r2 r3 r4 r5 t63 b0_0 b1_0 b1_1 b1_2 b1_3 b5_0 => (dV fuel 0 [1, 1, 1, 1, 1, 1, 0, 1, 0, 1, 1, 1]) ⟨mkE 290 [(2, .val aa last), (3, .box 0 0), (4, .box 1 0), (7, .box 5 0), (8, .val (.slice aa) r2), (9, .val (.slice aa) r3), (10, .own 6 0 aa r4), (11, .own 7 0 ac []), (32, .val aa r5), (63, .val .bool t63)], mkH 8 [(0, .box [.val (.slice aj) b0_0]), (1, .box [.val aa b1_0, .val aa b1_1, .val aa b1_2, .val aa b1_3]), (5, .box [.val (.slice ac) b5_0]), (6, .row aa 3 0), (7, .row ac 86 0)]⟩ (ai 0 (ax 0 (some fj) (dV fuel 0 [1, 1, 1, 1, 1, 1, 1]) mg))
def fk (fuel : Nat) : dU AV := fun w => (dV fuel 0 [1, 1, 1, 1, 1, 1, 1]) ⟨mkE 290 [(11, .val (.slice ac) w)], mkH 0 []⟩ mg
def nA (fuel : Nat) : iO AV := fun r39 b31_0 b31_1 b31_2 b31_3 => (dV fuel 0 [1, 1, 1, 1, 1, 1, 0, 1, 0, 1, 1, 1, 1, 1, 1, 1, 1, 1, 1, 1, 1, 1, 1, 1, 1, 1, 0, 1, 1, 1]) ⟨mkE 290 [(11, .own 32 0 ac []), (20, .val aa r39), (21, .box 31 0)], mkH 33 [(0, .box [.unk]), (1, .box [.unk, .unk, .unk, .unk]), (5, .box [.unk]), (6, .row aa 3 0), (7, .row ac 86 1), (23, .row aa 3 1), (31, .box [.val aa b31_0, .val .bool b31_1, .val .str b31_2, .val aa b31_3]), (32, .row ac 86 0)]⟩ (ai 0 (ax 0 (some fj) (dV fuel 0 [1, 1, 1, 1, 1, 1, 1]) mg))
theorem JK (fuel : Nat) : oU fuel = ny true (sm b9) (nC fuel) (nB fuel) := by kernel_rfl
theorem Gc (fuel : Nat) : nC fuel = kU true (sm b9) (fk fuel) := by kernel_rfl
theorem Ga (fuel : Nat) : nB fuel = kT true (sm b9) (fk fuel) (nA fuel) := by kernel_rfl
theorem F7 (fuel : Nat) : fk fuel = kR true (sm b9) := by kernel_rfl
theorem F8 (fuel : Nat) : nA fuel = kS true (sm b9) (fk fuel) := by kernel_rfl
theorem nz : fk FU = mp1 b9 (cW) := (F7 FU).trans (by funext _; simp only [kR, cW, ss])
theorem Ge : nC FU = mp6 b9 (cX) := (Gc FU).trans (by rw [nz]; funext _ _ _ _ _ _; simp only [kU, cX, ss])
theorem F9 : nA FU = mp5 b9 (fp) := (F8 FU).trans (by rw [nz]; funext _ _ _ _ _; simp only [kS, fp, ss])
theorem Gb : nB FU = aeA b9 (fq) := (Ga FU).trans (by rw [nz, F9]; funext _ _ _ _ _ _ _ _ _ _ _ _; simp only [kT, fq, ss])
theorem JL : oU FU = aeA b9 (kQ) := (JK FU).trans (by rw [Ge, Gb]; funext _ _ _ _ _ _ _ _ _ _ _ _; simp only [ny, kQ, ss])
theorem RY : ap Tryz.prog 27 (Ek) := evX Tryz.func27 (S := El) aJ (aW ⟨VT, oo, QH, y5, Qo, aam, Ss, Sa, aeG, ahF, NK, Sr, trivial⟩ trivial trivial trivial ⟨yt, trivial⟩) (tys := [(.slice ac)]) (fun fuel x => qq true (sm b9) (oU fuel) x.1 x.2.1 x.2.2.1) (fun x => by show _ = Option.map b9 _; rw [JL]; simp only [qq, ju, ss])
abbrev d5 (β : Type) := (List ae.den) → Int → Int → Int → Option β
abbrev SV (β : Type) := (List ae.den) → Int → Int → Int → Option β
abbrev gi (β : Type) := (List ae.den) → Int → Int → Int → Int → Option β
abbrev SU (β : Type) := (List ae.den) → Int → Int → Int → Int → Option β
abbrev SW (β : Type) := (List ae.den) → Int → Int → Int → Option β
def mR (m : Bool) {β : Type} (K : Int → Option β) (k_l8 : gi β) : SV β := fun l site i x => (k_l8 l site i x 0)
def pA (m : Bool) {β : Type} (K : Int → Option β) (k_l8 : gi β) : d5 β := fun l site x i => (bif (decide (i < (il l))) then (ck (bd i l.length) (ck (decide (0 ≤ (20 : Int))) (bif (decide ((Sw .i64 (ix ae l i).1 20) = site)) then (ck (bd i l.length) (fz m aa (mW x (ix ae l i).1) fun y3_ => (mR m K k_l8 l site i y3_))) else (mR m K k_l8 l site i x)))) else (K x))
def mQ (m : Bool) {β : Type} (K : Int → Option β) (k_l8 : gi β) : SU β := fun l site i t7 x => (fz m aa (w64 (t7 + 1)) fun y4_ => (k_l8 l site i x y4_))
def pB (m : Bool) {β : Type} (K : Int → Option β) (k_l3 : d5 β) : SW β := fun l site i x => (fz m aa (w64 (i + 1)) fun y3_ => (k_l3 l site x y3_))
def pz (m : Bool) {β : Type} (K : Int → Option β) (k_l8 : gi β) (k_l3 : d5 β) : gi β := fun l site i x t7 => (ck (bd i l.length) (bif (decide (t7 < (il ((ix ae l i).2.2.2.2.1)))) then (ck (bd i l.length) (ck (bd t7 ((ix ae l i).2.2.2.2.1).length) (ck (decide (0 ≤ (20 : Int))) (bif (decide ((Sw .i64 (ix ac (ix ae l i).2.2.2.2.1 t7).1 20) = site)) then (ck (bd i l.length) (ck (bd t7 ((ix ae l i).2.2.2.2.1).length) (fz m aa (mW x (ix ac (ix ae l i).2.2.2.2.1 t7).1) fun y4_ => (mQ m K k_l8 l site i t7 y4_)))) else (mQ m K k_l8 l site i t7 x))))) else (pB m K k_l3 l site i x)))
def y3 (m : Bool) {β : Type} (K : Int → Option β) (k_l3 : d5 β) (l : (List ae.den)) (site : Int) : Option β := (ck (decide (0 ≤ (20 : Int))) (fz m aa (Ve .i64 site 20) fun y2_ => (k_l3 l site y2_ 0)))
def jj (k_l3 : d5 Int) : Nat → gi Int := lp (fun _ _ _ _ _ => none) fun k_l8 => pz false some k_l8 k_l3
def mP : Nat → d5 Int := lp (fun _ _ _ _ => none) fun k_l3 => pA false some (jj k_l3 FU)
def mS (l : (List ae.den)) (site : Int) : Option Int := y3 false some (mP FU) l site
def lu (r : Int) : AV := .val aa r
def QT : Ent := evE (.cons (.slice ae) (.cons aa .unit)) lu (zero aa) (fun x => mS x.1 x.2.1)
def wF : MS := ⟨0, [], [(0, .dat (.slice ae)), (1, .dat aa), (5, .dat aa), (6, .dat aa)]⟩
def Fc : MS := ⟨0, [], [(0, .dat (.slice ae)), (1, .dat aa), (5, .dat aa), (6, .dat aa), (7, .dat aa)]⟩
def SY : MS := ⟨0, [], [(0, .dat (.slice ae)), (1, .dat aa), (5, .dat aa), (6, .dat aa)]⟩
def SX : MS := ⟨0, [], [(0, .dat (.slice ae)), (1, .dat aa), (5, .dat aa), (6, .dat aa), (7, .dat aa)]⟩
def Fd : MS := ⟨0, [], [(0, .dat (.slice ae)), (1, .dat aa), (5, .dat aa), (6, .dat aa)]⟩
def QU : Par := ⟨bg.tab, (av []), (fun _ => ak [(7, SY), (9, SX), (4, Fd)]), (fun _ => ak [(3, wF), (8, Fc)])⟩
def QV : KT := aB bg.tab [.tmp 4] [aa]
def q0 (fuel lo : Nat) (p : List Nat) : Sg → KT → Option AV := xc (aH fi0 hs0 fuel 0) QU lo fuel (sub ((Tryz.f26.body).getD .skip) p)
def mO (fuel n : Nat) : d5 AV := fun l site x i => aD 0 wF (q0 fuel 0 [1, 1, 0, 1, 0, 0]) (ai 0 (ax 0 none (q0 fuel 0 [1, 1, 1]) QV)) n ⟨mkE 65 [(0, .val (.slice ae) l), (1, .val aa site), (5, .val aa x), (6, .val aa i)], mkH 0 []⟩
def qZ (fuel n3 n : Nat) : gi AV := fun l site i x t7 => aD 0 Fc (q0 fuel 0 [1, 1, 0, 1, 0, 0, 1, 0, 0, 1, 1, 0, 0]) (ai 2 (ai 1 (ax 0 (some Fd) (q0 fuel 0 [1, 1, 0, 1, 0, 0, 1, 1]) (kLp 0 wF (q0 fuel 0 [1, 1, 0, 1, 0, 0]) (ai 0 (ax 0 none (q0 fuel 0 [1, 1, 1]) QV)) n3)))) n ⟨mkE 65 [(0, .val (.slice ae) l), (1, .val aa site), (5, .val aa x), (6, .val aa i), (7, .val aa t7)], mkH 0 []⟩
theorem S1 (fuel n3 : Nat) : mO fuel (n3 + 1) = pA true (sm lu) (qZ fuel n3 fuel) := by kernel_rfl
theorem SZ (fuel n3 n8 : Nat) : qZ fuel n3 (n8 + 1) = pz true (sm lu) (qZ fuel n3 n8) (mO fuel n3) := by kernel_rfl
theorem S0 (n3 : Nat) {k_l3 : d5 Int} (h_l3 : mO FU n3 = mp4 lu k_l3) : ∀ n, qZ FU n3 n = mp5 lu (jj k_l3 n) := ba (by kernel_rfl) fun n8 _ h => (SZ FU n3 n8).trans (by rw [h, h_l3]; funext _ _ _ _ _; simp only [pz, pB, mR, mQ, ss])
theorem S2 : ∀ n, mO FU n = mp4 lu (mP n) := ba (by kernel_rfl) fun n3 _ h => (S1 FU n3).trans (by rw [S0 n3 h FU]; funext _ _ _ _; simp only [pA, pB, mR, mQ, ss])
theorem aaG : ap Tryz.prog 26 (QT) := evX Tryz.func26 (S := QU) aJ (ah trivial) (tys := [aa]) (fun fuel x => y3 true (sm lu) (mO fuel fuel) x.1 x.2.1) (fun x => by show _ = Option.map lu _; rw [S2 FU]; simp only [y3, mS, pB, mR, mQ, ss])
abbrev m7 := (List ae.den)
abbrev ig (β : Type) := (List ae.den) → ae.den → Int → Option β
def kc (m : Bool) {β : Type} (K : m7 → Option β) (k_l2 : ig β) : ig β := fun l c t5 => (nm m 2 (decide (t5 < (il l))) (bd t5 l.length) (nq m [2, 2, 2, 3, 1] (decide (t5 < (il l))) (bif (bif (decide (t5 < (il l))) then (decide ((ix ae l t5).1 < c.1)) else false) then (fz m aa (w64 (t5 + 1)) fun y2_ => (k_l2 l c y2_)) else (ck (decide (0 ≤ t5) && decide (t5 ≤ (l.length : Int))) (ck (lm (List.length ([] : List ae.den) + List.length ((List.take (Int.toNat t5) l).drop 0))) (ck (lm (List.length ([] ++ ((List.take (Int.toNat t5) l).drop 0)) + List.length ([c] : List ae.den))) (ck (decide (0 ≤ t5) && decide (t5 ≤ (l.length : Int))) (ck (lm (List.length (([] ++ ((List.take (Int.toNat t5) l).drop 0)) ++ [c]) + List.length ((List.take (List.length l) l).drop (Int.toNat t5)))) (K ((([] ++ ((List.take (Int.toNat t5) l).drop 0)) ++ [c]) ++ ((List.take (List.length l) l).drop (Int.toNat t5))))))))))))
def rg (m : Bool) {β : Type} (K : m7 → Option β) (k_l2 : ig β) (l : (List ae.den)) (c : ae.den) : Option β := (k_l2 l c 0)
def lF : Nat → ig m7 := lp (fun _ _ _ => none) fun k_l2 => kc false some k_l2
def gl (l : (List ae.den)) (c : ae.den) : Option m7 := rg false some (lF FU) l c
def m6 (r : m7) : AV := .val (.slice ae) r
def wQ : Ent := evE (.cons (.slice ae) (.cons ae .unit)) m6 (zero (.slice ae)) (fun x => gl x.1 x.2.1)
def x9 : MS := ⟨1, [(0, [.dat aa, .dat (.slice aa), .dat (.slice aa), .dat .str, .dat (.slice ac)])], [(0, .dat (.slice ae)), (3, .keep), (5, .dat aa)]⟩
def Fq : Par := ⟨bg.tab, (av []), (fun _ => ak []), (fun _ => ak [(2, x9)])⟩
def Tu : KT := aB bg.tab [.tmp 4] [(.slice ae)]
def Fr (fuel lo : Nat) (p : List Nat) : Sg → KT → Option AV := xc (aH fi0 hs0 fuel 0) Fq lo fuel (sub ((Tryz.f9.body).getD .skip) p)
def lE (fuel n : Nat) : ig AV := fun l c t5 => aD 0 x9 (Fr fuel 0 [1, 1, 0, 0, 0]) (ai 0 (ax 0 none (Fr fuel 0 [1, 1, 1]) Tu)) n ⟨mkE 37 [(0, .val (.slice ae) l), (3, .box 0 0), (5, .val aa t5)], mkH 1 [(0, .box [.val aa c.1, .val (.slice aa) c.2.1, .val (.slice aa) c.2.2.1, .val .str c.2.2.2.1, .val (.slice ac) c.2.2.2.2.1])]⟩
theorem LD (fuel n2 : Nat) : lE fuel (n2 + 1) = kc true (sm m6) (lE fuel n2) := by kernel_rfl
theorem LF : ∀ n, lE FU n = mp3 m6 (lF n) := ba (by kernel_rfl) fun n2 _ h => (LD FU n2).trans (by rw [h]; funext _ _ _; simp only [kc, ss])
theorem Fp : ap Tryz.prog 9 (wQ) := evX Tryz.func9 (S := Fq) aJ (ah trivial) (tys := [(.slice ae)]) (fun fuel x => rg true (sm m6) (lE fuel fuel) x.1 x.2.1) (fun x => by show _ = Option.map m6 _; rw [LF FU]; simp only [rg, gl, ss])
abbrev no := (Ty.den (.cons ae (.cons .bool .unit)))
abbrev MB (β : Type) := (List ae.den) → Int → aQ.den → (List Int) → Option β
abbrev Ji (β : Type) := ao.den → Int → (List Int) → (List Int) → Str → (List ac.den) → Option β
def iE (m : Bool) {β : Type} (K : no → Option β) : Ji β := fun r6 b7_0 b7_1 b7_2 b7_3 b7_4 => (cl m aa (ky r6 (b7_0, b7_1, b7_2, b7_3, b7_4, ())) fun r12 => (K ((b7_0, b7_1, b7_2, b7_3, b7_4, ()), (decide (r12 = 0)), ())))
def kE (m : Bool) {β : Type} (K : no → Option β) : MB β := fun l r1 d parents => (cl m (.slice aa) (o7 l parents) fun r5 => (cl m ao (nt l r5) fun r6 => (cl m aa (mS l (w64 ((1 : Int) + r1))) fun r7 => (cl m aa (aZ (d.1) 13) fun r8 => (bif (decide (r8 = 12)) then (cl m aa (aZ (d.2.2.1) (il l)) fun r9 => (ck (bd r9 l.length) (fz m aa (w64 (r7 + 1)) fun y1_ => (fz m (.slice aa) [(ix ae l r9).1] fun y3_ => (fz m .str [100, 101, 101, 100] fun y4_ => (fz m (.slice ac) ((ix ae l r9).2.2.2.2.1) fun y5_ => (iE m K r6 y1_ r5 y3_ y4_ y5_))))))) else (cl m (.slice ac) (ju r6 d r7) fun r10 => (ck (lm (List.length ([] : List ae.den) + List.length l)) (ck (lm (List.length ([] ++ l) + List.length ([(0, r5, [], [100, 101, 101, 100], r10, ())] : List ae.den))) (cl m aa (mS (([] ++ l) ++ [(0, r5, [], [100, 101, 101, 100], r10, ())]) (w64 ((1 : Int) + r1))) fun r11 => (fz m aa (w64 (r11 + 1)) fun y1_ => (fz m .str [100, 101, 101, 100] fun y4_ => (iE m K r6 y1_ r5 [] y4_ r10))))))))))))
def rz (m : Bool) {β : Type} (K : no → Option β) (l : (List ae.den)) (made : (List Int)) (d : aQ.den) : Option β := (cl m aa (aZ (d.2.1) 3) fun r1 => (ck (!decide ((3 : Int) = 0)) (cl m aa (aZ (w64 (Int.tdiv d.2.1 3)) 3) fun r2 => (ck (bd (mW (w64 ((w64 ((il made) - 1)) - r2)) 0) made.length) (ck (!decide ((9 : Int) = 0)) (cl m aa (aZ (w64 (Int.tdiv d.2.1 9)) 3) fun r3 => (bif (decide (r3 = 0)) then (ck (!decide ((27 : Int) = 0)) (cl m aa (aZ (w64 (Int.tdiv d.2.1 27)) (il made)) fun r4 => (ck (bd r4 made.length) (ck (lm (List.length ([(ix aa made (mW (w64 ((w64 ((il made) - 1)) - r2)) 0))] : List Int) + List.length ([(ix aa made r4)] : List Int))) (fz m (.slice aa) ([(ix aa made (mW (w64 ((w64 ((il made) - 1)) - r2)) 0))] ++ [(ix aa made r4)]) fun y3_ => (kE m K l r1 d y3_)))))) else (fz m (.slice aa) [(ix aa made (mW (w64 ((w64 ((il made) - 1)) - r2)) 0))] fun y3_ => (kE m K l r1 d y3_)))))))))
def gq (l : (List ae.den)) (made : (List Int)) (d : aQ.den) : Option no := rz false some l made d
def xh (r : no) : AV := .tup (bh [.val ae r.1, .val .bool r.2.1])
def xi : Ent := evE (.cons (.slice ae) (.cons (.slice aa) (.cons aQ .unit))) xh (zero (.cons ae (.cons .bool .unit))) (fun x => gq x.1 x.2.1 x.2.2.1)
def MC : MS := ⟨2, [(0, [.dat aa, .dat aa, .dat aa, .dat aa]), (1, [.dat aa, .dat (.slice aa), .dat (.slice aa), .dat .str, .dat (.slice ac)])], [(0, .dat (.slice ae)), (5, .keep), (6, .keep), (8, .dat aa), (10, .own aa 3)]⟩
def Jj : MS := ⟨14, [(0, [.drop, .drop, .drop, .drop]), (1, [.dat aa, .dat (.slice aa), .dat (.slice aa), .dat .str, .dat (.slice ac)]), (7, [.dat aa, .dat (.slice aa), .dat (.slice aa), .dat .str, .dat (.slice ac)]), (13, [.dat (.slice aj)])], [(6, .keep), (11, .keep), (12, .keep)]⟩
def Uk : Par := ⟨bg.tab, (av [(7, lZ), (25, Qr), (17, Jt), (26, QT), (27, Ek), (28, FE)]), (fun _ => ak [(6, MC), (14, Jj)]), (fun _ => ak [])⟩
theorem FO : ap Tryz.prog 8 (xi) := evX Tryz.func8 (S := Uk) aJ (ah ⟨oo, ZX, RM, aaG, RY, Uc, trivial⟩) (tys := [ae, .bool]) (fun fuel x => rz true (sm xh) x.1 x.2.1 x.2.2.1) (fun x => by show _ = Option.map xh _; simp only [rz, gq, iE, kE, ss])
abbrev gn := (List ae.den)
abbrev ef (β : Type) := (List aQ.den) → (List ae.den) → (List Int) → Int → Option β
abbrev Hx (β : Type) := (List aQ.den) → Int → (List ae.den) → (List Int) → Option β
def ik (m : Bool) {β : Type} (K : gn → Option β) (k_l5 : ef β) : Hx β := fun l i out made => (fz m aa (w64 (i + 1)) fun y3_ => (k_l5 l out made y3_))
def ij (m : Bool) {β : Type} (K : gn → Option β) (k_l5 : ef β) : ef β := fun l out made i => (nq m [2, 1] (decide (i < (il l))) (bif (bif (decide (i < (il l))) then (decide (i < 9)) else false) then (ck (bd i l.length) (cl m (.cons ae (.cons .bool .unit)) (gq out made (ix aQ l i)) fun r2 => (bif r2.2.1 then (cl m (.slice ae) (gl out (r2.1)) fun r3 => (ck (lm (List.length made + List.length ([r2.1.1] : List Int))) (fz m (.slice aa) (made ++ [r2.1.1]) fun y3_ => (ik m K k_l5 l i r3 y3_)))) else (ik m K k_l5 l i out made)))) else (K out)))
def oB (m : Bool) {β : Type} (K : gn → Option β) (k_l5 : ef β) (first : Int) (l : (List aQ.den)) : Option β := (cl m ae (bK first) fun r1 => (fz m (.slice ae) [r1] fun y1_ => (fz m (.slice aa) [r1.1] fun y2_ => (k_l5 l y1_ y2_ 0))))
def i6 : Nat → ef gn := lp (fun _ _ _ _ => none) fun k_l5 => ij false some k_l5
def im (first : Int) (l : (List aQ.den)) : Option gn := oB false some (i6 FU) first l
def kg (r : gn) : AV := .val (.slice ae) r
def BZ : Ent := evE (.cons aa (.cons (.slice aQ) .unit)) kg (zero (.slice ae)) (fun x => im x.1 x.2.1)
def uZ : MS := ⟨0, [], [(1, .dat (.slice aQ)), (6, .dat (.slice ae)), (7, .own aa 3), (8, .dat aa)]⟩
def Hy : MS := ⟨0, [], [(1, .dat (.slice aQ)), (6, .dat (.slice ae)), (7, .own aa 3), (8, .dat aa)]⟩
def B0 : Par := ⟨bg.tab, (av [(6, C0), (8, xi), (9, wQ)]), (fun _ => ak [(6, Hy)]), (fun _ => ak [(5, uZ)])⟩
def OI : KT := aB bg.tab [.tmp 4] [(.slice ae)]
def B1 (fuel lo : Nat) (p : List Nat) : Sg → KT → Option AV := xc (aH fi0 hs0 fuel 0) B0 lo fuel (sub ((Tryz.f13.body).getD .skip) p)
def i5 (fuel n : Nat) : ef AV := fun l out made i => aD 0 uZ (B1 fuel 0 [1, 1, 1, 1, 0, 1, 0, 0]) (ai 0 (ax 0 none (B1 fuel 0 [1, 1, 1, 1, 1]) OI)) n ⟨mkE 48 [(1, .val (.slice aQ) l), (6, .val (.slice ae) out), (7, .own 0 0 aa made), (8, .val aa i)], mkH 1 [(0, .row aa 3 0)]⟩
theorem Hz (fuel n5 : Nat) : i5 fuel (n5 + 1) = ij true (sm kg) (i5 fuel n5) := by kernel_rfl
theorem HA : ∀ n, i5 FU n = mp4 kg (i6 n) := ba (by kernel_rfl) fun n5 _ h => (Hz FU n5).trans (by rw [h]; funext _ _ _ _; simp only [ij, ik, ss])
theorem OH : ap Tryz.prog 13 (BZ) := evX Tryz.func13 (S := B0) aJ (ah ⟨Mq, FO, Fp, trivial⟩) (tys := [(.slice ae)]) (fun fuel x => oB true (sm kg) (i5 fuel fuel) x.1 x.2.1) (fun x => by show _ = Option.map kg _; rw [HA FU]; simp only [oB, im, ik, ss])
def u7 (m : Bool) {β : Type} (K : (List Int) → Option β) (l : (List ae.den)) : Option β := (cl m (.slice aa) (nb l) fun r1 => (K r1))
def rk (l : (List ae.den)) : Option (List Int) := u7 false some l
def B4 (r : (List Int)) : AV := .val (.slice aa) r
def LN : Ent := evE (.cons (.slice ae) .unit) B4 (zero (.slice aa)) (fun x => rk x.1)
def Wd : Par := ⟨bg.tab, (av [(79, LK)]), (fun _ => ak []), (fun _ => ak [])⟩
theorem Wc : ap Tryz.prog 33 (LN) := evX Tryz.func33 (S := Wd) aJ (ah ⟨Wb, trivial⟩) (tys := [(.slice aa)]) (fun fuel x => u7 true (sm B4) x.1) (fun x => by show _ = Option.map B4 _; simp only [u7, rk, ss])
def RO (m : Bool) {β : Type} (K : ao.den → Option β) (l : (List ae.den)) : Option β := (cl m (.slice aa) (rk l) fun r1 => (cl m ao (nt l r1) fun r2 => (K r2)))
def xo (l : (List ae.den)) : Option ao.den := RO false some l
def Zq (r : ao.den) : AV := .val ao r
def Zr : Ent := evE (.cons (.slice ae) .unit) Zq (zero ao) (fun x => xo x.1)
def aj1 : Par := ⟨bg.tab, (av [(33, LN), (17, Jt)]), (fun _ => ak []), (fun _ => ak [])⟩
theorem adZ : ap Tryz.prog 11 (Zr) := evX Tryz.func11 (S := aj1) aJ (ah ⟨Wc, RM, trivial⟩) (tys := [ao]) (fun fuel x => RO true (sm Zq) x.1) (fun x => by show _ = Option.map Zq _; simp only [RO, xo, ss])
def rC (m : Bool) {β : Type} (K : Bool → Option β) : Option β := (ce m (.slice ar) (AX ([(1048577, 3, [(1048582, (0, false, [102], 0, ()), ()), (1048583, (0, false, [103], 0, ()), ())], ()), (1048578, 2, [(1048582, (2, false, [], 1048577, ()), ())], ()), (1048579, 2, [(1048583, (2, false, [], 1048577, ()), ())], ())], ())) (hZ ([(1048577, 3, [(1048582, (0, false, [102], 0, ()), ()), (1048583, (0, false, [103], 0, ()), ())], ()), (1048578, 2, [(1048582, (2, false, [], 1048577, ()), ())], ()), (1048579, 2, [(1048583, (2, false, [], 1048577, ()), ())], ())], ())) fun r1 => (ce m aw (stG ([(1048577, 3, [(1048582, (0, false, [102], 0, ()), ()), (1048583, (0, false, [103], 0, ()), ())], ()), (1048578, 2, [(1048582, (2, false, [], 1048577, ()), ())], ()), (1048579, 2, [(1048583, (2, false, [], 1048577, ()), ())], ())], ())) (aI ([(1048577, 3, [(1048582, (0, false, [102], 0, ()), ()), (1048583, (0, false, [103], 0, ()), ())], ()), (1048578, 2, [(1048582, (2, false, [], 1048577, ()), ())], ()), (1048579, 2, [(1048583, (2, false, [], 1048577, ()), ())], ())], ())) fun r2 => (nm m 1 (decide ((il r1) = 2)) (bd 0 r1.length) (nq m [2, 2, 2, 1] (decide ((il r1) = 2)) (nm m 1 (bif (decide ((il r1) = 2)) then (decide ((ix ar r1 0).1 = 1)) else false) (bd 1 r1.length) (nq m [2, 2, 2, 1] (bif (decide ((il r1) = 2)) then (decide ((ix ar r1 0).1 = 1)) else false) (nq m [2, 2, 2, 1] (bif (bif (decide ((il r1) = 2)) then (decide ((ix ar r1 0).1 = 1)) else false) then (decide ((ix ar r1 1).1 = 2)) else false) (nq m [2] (bif (bif (bif (decide ((il r1) = 2)) then (decide ((ix ar r1 0).1 = 1)) else false) then (decide ((ix ar r1 1).1 = 2)) else false) then (decide ((il r2.1) = 3)) else false) (nm m 1 (bif (bif (bif (decide ((il r1) = 2)) then (decide ((ix ar r1 0).1 = 1)) else false) then (decide ((ix ar r1 1).1 = 2)) else false) then (decide ((il r2.1) = 3)) else false) (bd 0 r2.1.length) (nq m [2, 2, 2, 2, 1] (bif (bif (bif (decide ((il r1) = 2)) then (decide ((ix ar r1 0).1 = 1)) else false) then (decide ((ix ar r1 1).1 = 2)) else false) then (decide ((il r2.1) = 3)) else false) (K (bif (bif (bif (bif (decide ((il r1) = 2)) then (decide ((ix ar r1 0).1 = 1)) else false) then (decide ((ix ar r1 1).1 = 2)) else false) then (decide ((il r2.1) = 3)) else false) then (decide ((ix ac r2.1 0).2.2.1.2.2.1 = [102])) else false))))))))))))
def gu : Option Bool := rC false some
def xm (r : Bool) : AV := .val .bool r
def xn : Ent := evE .unit xm (zero .bool) (fun _ => gu)
def Uv : Par := ⟨bg.tab, (av [(10, AW), (14, pE)]), (fun _ => ak []), (fun _ => ak [])⟩
theorem FY : ap Tryz.prog 12 (xn) := evX Tryz.func12 (S := Uv) aJ (ah ⟨NQ, BH, trivial⟩) (tys := [.bool]) (fun fuel _ => rC true (sm xm)) (fun _ => by show _ = Option.map xm _; simp only [rC, gu, ss])
end
end Go.Proofs.YtboikinjlmjgjaaGreat.Abs
