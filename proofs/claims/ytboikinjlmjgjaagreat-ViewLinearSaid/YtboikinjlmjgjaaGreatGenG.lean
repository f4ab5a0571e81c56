/- The equations of the program's functions on the abstract machine. (Printed by gen.py; each is checked by the kernel.) -/
import Derived.Test.YtboikinjlmjgjaaGreatGenF
import Derived.Test.YtboikinjlmjgjaaGreatChecked
namespace Go.Proofs.YtboikinjlmjgjaaGreat.Abs
abbrev aF : Ty := (.cons aa (.cons .bool (.cons .str (.cons aa .unit))))
abbrev ac : Ty := (.cons aa (.cons aa (.cons aF .unit)))
abbrev ae : Ty := (.cons aa (.cons (.slice aa) (.cons (.slice aa) (.cons .str (.cons (.slice ac) .unit)))))
abbrev aw : Ty := (.cons (.slice ac) .unit)
abbrev au : Ty := (.cons .str (.cons .str .unit))
end Go.Proofs.YtboikinjlmjgjaaGreat.Abs
namespace Go.Proofs.YtboikinjlmjgjaaGreat.Abs
def amc : Unit := ()
end Go.Proofs.YtboikinjlmjgjaaGreat.Abs
namespace Go.Proofs.YtboikinjlmjgjaaGreat.Abs
open Go
set_option linter.unusedSimpArgs false
set_option linter.unusedVariables false
noncomputable section
def bm : TabL := {
 ty := [(3, aa), (4, .bool), (5, (.int .u8)), (9, .str), (23, (.slice aa)), (24, (.slice ac)), (26, ae), (48, aw), (51, aF), (60, aa), (63, (.slice .tree)), (86, ac), (101, (.slice (.slice aa))), (103, (.slice .str)), (105, .tree), (152, (.slice (.int .u8))), (156, (.slice af)), (164, af), (212, (.slice au)), (215, au), (221, aQ)],
 cells := [(3, 1), (4, 1), (5, 1), (9, 1), (23, 1), (24, 1), (26, 5), (48, 1), (51, 4), (60, 1), (63, 1), (86, 6), (101, 1), (103, 1), (105, 4), (152, 1), (156, 1), (164, 3), (212, 1), (215, 2), (221, 4)],
 offs := [((26, 0), 0), ((26, 1), 1), ((26, 2), 2), ((26, 3), 3), ((26, 4), 4), ((48, 0), 0), ((51, 0), 0), ((51, 1), 1), ((51, 2), 2), ((51, 3), 3), ((86, 0), 0), ((86, 1), 1), ((86, 2), 2), ((105, 0), 0), ((105, 1), 1), ((105, 2), 2), ((105, 3), 3), ((164, 0), 0), ((164, 1), 1), ((164, 2), 2), ((215, 0), 0), ((215, 1), 1), ((221, 0), 0), ((221, 1), 1), ((221, 2), 2), ((221, 3), 3)],
 one := [(105, 4)],
 elem := [(23, 3), (24, 86), (63, 105), (101, 23), (103, 9), (152, 5), (156, 164), (212, 215)] }
theorem aN : TabOk Tryz.prog bm.tab := TabL.ok (by kernel_rfl)
def Hn (m : Bool) {β : Type} (K : Int → Option β) (x : Int) (t1 : Int) : Option β := (bif (decide (t1 < 1)) then (K 0) else (ck (!decide (t1 = 0)) (ck (!decide (t1 = 0)) (K (Int.tmod (w64 ((Int.tmod x t1) + t1)) t1)))))
def aZ (x : Int) (t1 : Int) : Option Int := Hn false some x t1
def Ot (r : Int) : AV := .val aa r
def lZ : Ent := evE (.cons aa (.cons aa .unit)) Ot (zero aa) (fun x => aZ x.1 x.2.1)
def aeB : Par := ⟨bm.tab, (av []), (fun _ => ak []), (fun _ => ak [])⟩
theorem oo : ap Tryz.prog 7 (lZ) := evX Tryz.func7 (S := aeB) aN (ah trivial) (tys := [aa]) (fun fuel x => Hn true (sm Ot) x.1 x.2.1) (fun x => by show _ = Option.map Ot _; simp only [Hn, aZ, ss])
def abl (m : Bool) {β : Type} (K : (List Str) → Option β) (x : Int) : Option β := (cl m aa (aZ x 8) fun r1 => (bif (decide (r1 = 0)) then (K [[109, 111, 100, 117, 108, 101, 32, 77, 10, 100, 101, 102, 32, 102, 40, 120, 58, 32, 73, 110, 116, 44, 32, 121, 58, 32, 73, 110, 116, 41, 58, 32, 73, 110, 116, 32, 61, 32, 120, 32, 43, 32, 121, 10, 100, 101, 102, 32, 103, 40, 41, 58, 32, 73, 110, 116, 32, 61, 32, 102, 40, 49, 44, 32, 50, 41, 10]]) else (bif (decide (r1 = 1)) then (K [[109, 111, 100, 117, 108, 101, 32, 77, 10, 100, 101, 102, 32, 102, 40, 120, 58, 32, 73, 110, 116, 41, 58, 32, 73, 110, 116, 32, 61, 32, 120, 32, 35, 32, 99, 10], [109, 111, 100, 117, 108, 101, 32, 78, 10, 100, 101, 102, 32, 107, 40, 41, 58, 32, 73, 110, 116, 32, 61, 32, 77, 46, 102, 40, 55, 41, 10]]) else (bif (decide (r1 = 2)) then (K [[109, 111, 100, 117, 108, 101, 32, 77, 32, 116, 121, 112, 101, 32, 84, 32, 61, 32, 91, 73, 110, 116, 93, 32, 100, 101, 102, 32, 104, 40, 97, 58, 32, 84, 41, 58, 32, 84, 32, 61, 32, 91, 49, 44, 32, 50, 93]]) else (bif (decide (r1 = 3)) then (K [[109, 111, 100, 117, 108, 101, 32, 77, 10, 100, 101, 102, 32, 102, 40, 98, 58, 32, 66, 111, 111, 108, 41, 58, 32, 73, 110, 116, 32, 61, 32, 105, 102, 32, 98, 32, 116, 104, 101, 110, 32, 49, 32, 101, 108, 115, 101, 32, 108, 101, 116, 32, 97, 32, 61, 32, 50, 32, 105, 110, 32, 97, 10]]) else (bif (decide (r1 = 4)) then (K [[109, 111, 100, 117, 108, 101, 32, 77, 10]]) else (bif (decide (r1 = 5)) then (K [[109, 111, 100, 117, 108, 101, 32, 77, 10, 100, 101, 102, 32, 102, 40, 41, 58, 32, 84, 101, 120, 116, 32, 61, 32, 34, 97, 34, 10, 100, 101, 102, 32, 103, 40, 41, 58, 32, 84, 101, 120, 116, 32, 61, 32, 40, 102, 40, 41, 41, 10]]) else (bif (decide (r1 = 6)) then (K [[109, 111, 100, 117, 108, 101, 32, 77, 32, 100, 101, 102, 32, 102, 40, 120, 58, 32, 73, 110, 116, 41, 58, 32, 73, 110, 116, 32, 61, 32, 102, 40, 120, 41, 32, 42, 32, 50, 32, 100, 101, 102, 32, 103, 40, 120, 58, 32, 73, 110, 116, 44, 32, 121, 58, 32, 73, 110, 116, 41, 58, 32, 66, 111, 111, 108, 32, 61, 32, 102, 40, 120, 41, 32, 60, 32, 102, 40, 102, 40, 121, 41, 41]]) else (K [[109, 111, 100, 117, 108, 101, 32, 77, 10, 100, 101, 102, 32, 102, 40, 120, 58, 32, 73, 110, 116, 41, 58, 32, 73, 110, 116, 32, 61, 32, 103, 40, 120, 41, 10], [109, 111, 100, 117, 108, 101, 32, 78, 10, 100, 101, 102, 32, 102, 40, 41, 58, 32, 73, 110, 116, 32, 61, 32, 63, 10]])))))))))
def FA (x : Int) : Option (List Str) := abl false some x
def agn (r : (List Str)) : AV := .val (.slice .str) r
def ai7 : Ent := evE (.cons aa .unit) agn (zero (.slice .str)) (fun x => FA x.1)
def alG : Par := ⟨bm.tab, (av [(7, lZ)]), (fun _ => ak []), (fun _ => ak [])⟩
theorem alF : ap Tryz.prog 56 (ai7) := evX Tryz.func56 (S := alG) aN (ah ⟨oo, trivial⟩) (tys := [(.slice .str)]) (fun fuel x => abl true (sm agn) x.1) (fun x => by show _ = Option.map agn _; simp only [abl, FA, ss])
abbrev Cw (β : Type) := (List Str) → (List Tree) → Int → Option β
def XM (m : Bool) {β : Type} (K : (List Tree) → Option β) (k_l4 : Cw β) : Cw β := fun r1 p i => (bif (decide (i < (il r1))) then (ck (bd i r1.length) (cl m (.cons .tree (.cons aa (.cons aa .unit))) (Yu (ix .str r1 i)) fun r2 => (ck (lm (List.length p + List.length ([(te (r2.1))] : List Tree))) (fz m (.slice .tree) (p ++ [(te (r2.1))]) fun y1_ => (fz m aa (w64 (i + 1)) fun y2_ => (k_l4 r1 y1_ y2_)))))) else (K p))
def abk (m : Bool) {β : Type} (K : (List Tree) → Option β) (k_l4 : Cw β) (x : Int) : Option β := (cl m (.slice .str) (FA x) fun r1 => (k_l4 r1 [] 0))
def XL : Nat → Cw (List Tree) := lp (fun _ _ _ => none) fun k_l4 => XM false some k_l4
def Fz (x : Int) : Option (List Tree) := abk false some (XL FU) x
def XJ (r : (List Tree)) : AV := .val (.slice .tree) r
def ai4 : Ent := evE (.cons aa .unit) XJ (zero (.slice .tree)) (fun x => Fz x.1)
def XK : MS := ⟨0, [], [(3, .own .tree 105), (4, .dat (.slice .str)), (5, .dat aa)]⟩
def ai5 : Par := ⟨bm.tab, (av [(56, ai7), (57, ajo)]), (fun _ => ak []), (fun _ => ak [(4, XK)])⟩
def alE : KT := aB bm.tab [.tmp 2] [(.slice .tree)]
def ai6 (fuel lo : Nat) (p : List Nat) : Sg → KT → Option AV := xc (aH fi0 hs0 fuel 0) ai5 lo fuel (sub ((Tryz.f23.body).getD .skip) p)
def H7 (fuel n : Nat) : Cw AV := fun r1 p i => aD 0 XK (ai6 fuel 0 [1, 1, 1, 0, 1, 0, 0]) (ai 0 (ax 0 none (ai6 fuel 0 [1, 1, 1, 1]) alE)) n ⟨mkE 31 [(3, .own 0 0 .tree p), (4, .val (.slice .str) r1), (5, .val aa i)], mkH 1 [(0, .row .tree 105 0)]⟩
theorem agl (fuel n4 : Nat) : H7 fuel (n4 + 1) = XM true (sm XJ) (H7 fuel n4) := by kernel_rfl
theorem agm : ∀ n, H7 FU n = mp3 XJ (XL n) := ba (by kernel_rfl) fun n4 _ h => (agl FU n4).trans (by rw [h]; funext _ _ _; simp only [XM, ss])
theorem alD : ap Tryz.prog 23 (ai4) := evX Tryz.func23 (S := ai5) aN (ah ⟨alF, alJ, trivial⟩) (tys := [(.slice .tree)]) (fun fuel x => abk true (sm XJ) (H7 fuel fuel) x.1) (fun x => by show _ = Option.map XJ _; rw [agm FU]; simp only [abk, Fz, ss])
def vN (m : Bool) {β : Type} (K : Int → Option β) (text : Str) : Option β := (nm m 1 (!(decide (text = []))) (bd 0 text.length) (nq m [2, 0] (!(decide (text = []))) (nm m 1 (!(bif (decide (text = [])) then true else (nE (ixs text 0)))) (bd 0 text.length) (nq m [2, 0] (!(bif (decide (text = [])) then true else (nE (ixs text 0)))) (bif (bif (bif (decide (text = [])) then true else (nE (ixs text 0))) then true else (decide ((ixs text 0) = 35))) then (K 0) else (cl m aQ (mN text 0) fun r1 => (nq m [2, 2, 3, 0] (!(!decide (r1.2.2.1 = 0))) (bif (bif (!decide (r1.2.2.1 = 0)) then true else (!decide (r1.1 = (il text)))) then (K 0) else (K (r1.2.1))))))))))
def eh (text : Str) : Option Int := vN false some text
def Dn (r : Int) : AV := .val aa r
def vO : Ent := evE (.cons .str .unit) Dn (zero aa) (fun x => eh x.1)
def Zn : Par := ⟨bm.tab, (av [(198, mm), (172, Hh)]), (fun _ => ak []), (fun _ => ak [])⟩
theorem Dk : ap Tryz.prog 180 (vO) := evX Tryz.func180 (S := Zn) aN (ah ⟨z7, QQ, trivial⟩) (tys := [aa]) (fun fuel x => vN true (sm Dn) x.1) (fun x => by show _ = Option.map Dn _; simp only [vN, eh, ss])
def acZ (x0 : Str) : Bool := (eh x0).isSome
def ac0 (x0 : Str) : Int := (eh x0).getD (zero aa)
def agj (m : Bool) {β : Type} (K : Bool → Option β) (a : Str) (b : Str) : Option β := (cl m aa (eh a) fun r1 => (nm m 1 (!(decide (r1 = 0))) (acZ b) (nq m [2, 0] (!(decide (r1 = 0))) (bif (bif (decide (r1 = 0)) then true else (decide ((ac0 b) = 0))) then (K false) else (ck (decide (a.length + b.length ≤ Qh)) (cl m (.cons (.slice af) (.cons .str (.cons aa (.cons aa .unit)))) (RI (a ++ b)) fun r2 => (nq m [2, 2, 0] (!(!decide (r2.2.2.2.1 = 0))) (nq m [2, 0] (!(bif (!decide (r2.2.2.2.1 = 0)) then true else (!decide ((il r2.1) = 2)))) (nm m 1 (!(bif (bif (!decide (r2.2.2.2.1 = 0)) then true else (!decide ((il r2.1) = 2))) then true else (!decide (r2.2.1 = [])))) (bd 0 r2.1.length) (nq m [2, 2, 3, 0] (!(bif (bif (!decide (r2.2.2.2.1 = 0)) then true else (!decide ((il r2.1) = 2))) then true else (!decide (r2.2.1 = [])))) (nm m 1 (!(bif (bif (bif (!decide (r2.2.2.2.1 = 0)) then true else (!decide ((il r2.1) = 2))) then true else (!decide (r2.2.1 = []))) then true else (!decide ((ix af r2.1 0).2.2.1 = a)))) (bd 0 r2.1.length) (nq m [2, 2, 2, 0] (!(bif (bif (bif (!decide (r2.2.2.2.1 = 0)) then true else (!decide ((il r2.1) = 2))) then true else (!decide (r2.2.1 = []))) then true else (!decide ((ix af r2.1 0).2.2.1 = a)))) (nm m 1 (!(bif (bif (bif (bif (!decide (r2.2.2.2.1 = 0)) then true else (!decide ((il r2.1) = 2))) then true else (!decide (r2.2.1 = []))) then true else (!decide ((ix af r2.1 0).2.2.1 = a))) then true else (!decide ((ix af r2.1 0).2.1 = [])))) (bd 1 r2.1.length) (nq m [2, 2, 3, 0] (!(bif (bif (bif (bif (!decide (r2.2.2.2.1 = 0)) then true else (!decide ((il r2.1) = 2))) then true else (!decide (r2.2.1 = []))) then true else (!decide ((ix af r2.1 0).2.2.1 = a))) then true else (!decide ((ix af r2.1 0).2.1 = [])))) (nm m 1 (!(bif (bif (bif (bif (bif (!decide (r2.2.2.2.1 = 0)) then true else (!decide ((il r2.1) = 2))) then true else (!decide (r2.2.1 = []))) then true else (!decide ((ix af r2.1 0).2.2.1 = a))) then true else (!decide ((ix af r2.1 0).2.1 = []))) then true else (!decide ((ix af r2.1 1).2.2.1 = b)))) (bd 1 r2.1.length) (nq m [2, 2, 2, 0] (!(bif (bif (bif (bif (bif (!decide (r2.2.2.2.1 = 0)) then true else (!decide ((il r2.1) = 2))) then true else (!decide (r2.2.1 = []))) then true else (!decide ((ix af r2.1 0).2.2.1 = a))) then true else (!decide ((ix af r2.1 0).2.1 = []))) then true else (!decide ((ix af r2.1 1).2.2.1 = b)))) (K (bif (bif (bif (bif (bif (bif (!decide (r2.2.2.2.1 = 0)) then true else (!decide ((il r2.1) = 2))) then true else (!decide (r2.2.1 = []))) then true else (!decide ((ix af r2.1 0).2.2.1 = a))) then true else (!decide ((ix af r2.1 0).2.1 = []))) then true else (!decide ((ix af r2.1 1).2.2.1 = b))) then true else (!decide ((ix af r2.1 1).2.1 = []))))))))))))))))))))
def Rn (a : Str) (b : Str) : Option Bool := agj false some a b
def agk (r : Bool) : AV := .val .bool r
def ai3 : Ent := evE (.cons .str (.cons .str .unit)) agk (zero .bool) (fun x => Rn x.1 x.2.1)
def alC : Par := ⟨bm.tab, (av [(180, vO), (104, ahl)]), (fun _ => ak []), (fun _ => ak [])⟩
theorem alB : ap Tryz.prog 167 (ai3) := evX Tryz.func167 (S := alC) aN (ah ⟨Dk, ajR, trivial⟩) (tys := [.bool]) (fun fuel x => agj true (sm agk) x.1 x.2.1) (fun x => by show _ = Option.map agk _; simp only [agj, Rn, ss])
abbrev dv (β : Type) := Str → Bool → Int → Option β
abbrev Gr (β : Type) := Str → Int → Bool → Option β
abbrev J7 (β : Type) := Str → Int → Bool → Option β
def jD (m : Bool) {β : Type} (K : Bool → Option β) (k_l8 : dv β) : J7 β := fun s i comment => (fz m aa (w64 (i + 1)) fun y2_ => (k_l8 s comment y2_))
def gU (m : Bool) {β : Type} (K : Bool → Option β) (k_l8 : dv β) : Gr β := fun s i comment => (ck (bd i s.length) (bif (decide ((ixs s i) = 10)) then (jD m K k_l8 s i false) else (jD m K k_l8 s i comment)))
def jC (m : Bool) {β : Type} (K : Bool → Option β) (k_l8 : dv β) : dv β := fun s comment i => (bif (decide (i < (il s))) then (ck (bd i s.length) (bif (decide ((ixs s i) = 35)) then (gU m K k_l8 s i true) else (gU m K k_l8 s i comment))) else (K (!comment)))
def qC (m : Bool) {β : Type} (K : Bool → Option β) (k_l8 : dv β) (s : Str) (t1 : Bool) : Option β := (cl m aT (m5 s 0) fun r1 => (nq m [2, 3, 0] (!(decide (r1.2.1 ≥ 0))) (bif (bif (decide (r1.2.1 ≥ 0)) then true else (decide (r1.1 < (il s)))) then (K false) else (bif t1 then (K true) else (k_l8 s false 0)))))
def k6 : Nat → dv Bool := lp (fun _ _ _ => none) fun k_l8 => jC false some k_l8
def eM (s : Str) (t1 : Bool) : Option Bool := qC false some (k6 FU) s t1
def mv (r : Bool) : AV := .val .bool r
def wh : Ent := evE (.cons .str (.cons .bool .unit)) mv (zero .bool) (fun x => eM x.1 x.2.1)
def xA : MS := ⟨0, [], [(0, .dat .str), (7, .dat .bool), (8, .dat aa)]⟩
def Gs : MS := ⟨0, [], [(0, .dat .str), (7, .dat .bool), (8, .dat aa)]⟩
def J8 : MS := ⟨0, [], [(0, .dat .str), (7, .dat .bool), (8, .dat aa)]⟩
def EB : Par := ⟨bm.tab, (av [(171, Hp)]), (fun _ => ak [(12, Gs), (9, J8)]), (fun _ => ak [(8, xA)])⟩
def R9 : KT := aB bm.tab [.tmp 4] [.bool]
def EC (fuel lo : Nat) (p : List Nat) : Sg → KT → Option AV := xc (aH fi0 hs0 fuel 0) EB lo fuel (sub ((Tryz.f182.body).getD .skip) p)
def kZ (fuel n : Nat) : dv AV := fun s comment i => aD 0 xA (EC fuel 0 [1, 1, 1, 1, 1, 0, 1, 0, 0]) (ai 0 (ax 0 none (EC fuel 0 [1, 1, 1, 1, 1, 1]) R9)) n ⟨mkE 39 [(0, .val .str s), (7, .val .bool comment), (8, .val aa i)], mkH 0 []⟩
theorem J9 (fuel n8 : Nat) : kZ fuel (n8 + 1) = jC true (sm mv) (kZ fuel n8) := by kernel_rfl
theorem Ka : ∀ n, kZ FU n = mp3 mv (k6 n) := ba (by kernel_rfl) fun n8 _ h => (J9 FU n8).trans (by rw [h]; funext _ _ _; simp only [jC, gU, jD, ss])
theorem EA : ap Tryz.prog 182 (wh) := evX Tryz.func182 (S := EB) aN (ah ⟨QY, trivial⟩) (tys := [.bool]) (fun fuel x => qC true (sm mv) (kZ fuel fuel) x.1 x.2.1) (fun x => by show _ = Option.map mv _; rw [Ka FU]; simp only [qC, eM, gU, jD, ss])
def agf (m : Bool) {β : Type} (K : Bool → Option β) (kind : Int) : Option β := (nq m [2, 1] (decide (kind ≥ 10)) (nq m [2, 1] (bif (decide (kind ≥ 10)) then (decide (kind ≤ 22)) else false) (K (bif (bif (decide (kind ≥ 10)) then (decide (kind ≤ 22)) else false) then (!decide (kind = 17)) else false))))
def LZ (kind : Int) : Option Bool := agf false some kind
def agh (r : Bool) : AV := .val .bool r
def agi : Ent := evE (.cons aa .unit) agh (zero .bool) (fun x => LZ x.1)
def alA : Par := ⟨bm.tab, (av []), (fun _ => ak []), (fun _ => ak [])⟩
theorem ai2 : ap Tryz.prog 215 (agi) := evX Tryz.func215 (S := alA) aN (ah trivial) (tys := [.bool]) (fun fuel x => agf true (sm agh) x.1) (fun x => by show _ = Option.map agh _; simp only [agf, LZ, ss])
def agd (m : Bool) {β : Type} (K : Bool → Option β) (kind : Int) : Option β := (nq m [2, 1] (decide (kind ≥ 5)) (K (bif (decide (kind ≥ 5)) then (decide (kind ≤ 9)) else false)))
def Rm (kind : Int) : Option Bool := agd false some kind
def age (r : Bool) : AV := .val .bool r
def ai1 : Ent := evE (.cons aa .unit) age (zero .bool) (fun x => Rm x.1)
def alz : Par := ⟨bm.tab, (av []), (fun _ => ak []), (fun _ => ak [])⟩
theorem aly : ap Tryz.prog 216 (ai1) := evX Tryz.func216 (S := alz) aN (ah trivial) (tys := [.bool]) (fun fuel x => agd true (sm age) x.1) (fun x => by show _ = Option.map age _; simp only [agd, Rm, ss])
def agb (m : Bool) {β : Type} (K : Bool → Option β) (kind : Int) : Option β := (cl m .bool (LZ kind) fun r1 => (nq m [2, 1] r1 (nq m [2, 1] (bif r1 then (!decide (kind = 19)) else false) (nq m [2, 1] (bif (bif r1 then (!decide (kind = 19)) else false) then (!decide (kind = 20)) else false) (K (bif (bif (bif r1 then (!decide (kind = 19)) else false) then (!decide (kind = 20)) else false) then (!decide (kind = 21)) else false))))))
def XI (kind : Int) : Option Bool := agb false some kind
def agc (r : Bool) : AV := .val .bool r
def ai0 : Ent := evE (.cons aa .unit) agc (zero .bool) (fun x => XI x.1)
def alx : Par := ⟨bm.tab, (av [(215, agi)]), (fun _ => ak []), (fun _ => ak [])⟩
theorem alw : ap Tryz.prog 217 (ai0) := evX Tryz.func217 (S := alx) aN (ah ⟨ai2, trivial⟩) (tys := [.bool]) (fun fuel x => agb true (sm agc) x.1) (fun x => by show _ = Option.map agc _; simp only [agb, XI, ss])
def af9 (m : Bool) {β : Type} (K : Int → Option β) (kids : Int) (must : Int) (t2 : Int) : Option β := (bif (decide (kids = must)) then (K t2) else (K (-1)))
def vk (kids : Int) (must : Int) (t2 : Int) : Option Int := af9 false some kids must t2
def aga (r : Int) : AV := .val aa r
def aiZ : Ent := evE (.cons aa (.cons aa (.cons aa .unit))) aga (zero aa) (fun x => vk x.1 x.2.1 x.2.2.1)
def alv : Par := ⟨bm.tab, (av []), (fun _ => ak []), (fun _ => ak [])⟩
theorem alu : ap Tryz.prog 214 (aiZ) := evX Tryz.func214 (S := alv) aN (ah trivial) (tys := [aa]) (fun fuel x => af9 true (sm aga) x.1 x.2.1 x.2.2.1) (fun x => by show _ = Option.map aga _; simp only [af9, vk, ss])
abbrev vj (β : Type) := Option β
abbrev zf (β : Type) := Int → Int → Bool → Option β
abbrev zd (β : Type) := Int → Int → Bool → Option β
def O6 (m : Bool) {β : Type} (K : Int → Option β) : vj β := (K (-1))
def O8 (m : Bool) {β : Type} (K : Int → Option β) (k_j24 : zd β) : zf β := fun kids kind t22 => (bif t22 then (cl m aa (vk kids 1 2) fun r2 => (K r2)) else (bif (decide (kind = 5)) then (fz m .bool (decide (kind = 5)) fun y2_ => (k_j24 kids kind y2_)) else (bif (decide (kind = 6)) then (fz m .bool (decide (kind = 6)) fun y2_ => (k_j24 kids kind y2_)) else (bif (decide (kind = 7)) then (fz m .bool (decide (kind = 7)) fun y2_ => (k_j24 kids kind y2_)) else (bif (decide (kind = 9)) then (fz m .bool (decide (kind = 9)) fun y2_ => (k_j24 kids kind y2_)) else (bif (decide (kind = 10)) then (fz m .bool (decide (kind = 10)) fun y2_ => (k_j24 kids kind y2_)) else (bif (decide (kind = 11)) then (fz m .bool (decide (kind = 11)) fun y2_ => (k_j24 kids kind y2_)) else (bif (decide (kind = 12)) then (fz m .bool (decide (kind = 12)) fun y2_ => (k_j24 kids kind y2_)) else (bif (decide (kind = 13)) then (fz m .bool (decide (kind = 13)) fun y2_ => (k_j24 kids kind y2_)) else (bif (decide (kind = 14)) then (fz m .bool (decide (kind = 14)) fun y2_ => (k_j24 kids kind y2_)) else (fz m .bool (decide (kind = 15)) fun y2_ => (k_j24 kids kind y2_))))))))))))
def O7 (m : Bool) {β : Type} (K : Int → Option β) (k_j39 : vj β) : zd β := fun kids kind t28 => (bif t28 then (cl m aa (vk kids 0 1) fun r3 => (K r3)) else (bif (decide (kind = 16)) then (bif (decide (kids ≥ 0)) then (K (w64 ((3 : Int) + (mW 0 (w64 (kids - 1)))))) else k_j39) else (bif (decide (kind = 17)) then (cl m aa (vk kids 1 0) fun r4 => (K r4)) else (bif (decide (kind = 18)) then (bif (decide (kids ≥ 1)) then (K (w64 ((1 : Int) + kids))) else k_j39) else (bif (decide (kind = 19)) then (cl m aa (vk kids 3 3) fun r5 => (K r5)) else (bif (decide (kind = 20)) then (cl m aa (vk kids 2 4) fun r6 => (K r6)) else (bif (decide (kind = 21)) then (cl m aa (vk kids 2 1) fun r7 => (K r7)) else k_j39)))))))
def af6 (m : Bool) {β : Type} (K : Int → Option β) (k_j39 : vj β) (k_j13 : zf β) (kind : Int) (kids : Int) : Option β := (bif (decide (kind = 1)) then (bif (decide (kids ≥ 0)) then (K 3) else k_j39) else (bif (decide (kind = 2)) then (bif (decide (kids ≥ 2)) then (K (w64 ((6 : Int) + (mW 0 (w64 (kids - 3)))))) else k_j39) else (bif (decide (kind = 3)) then (cl m aa (vk kids 1 3) fun r1 => (K r1)) else (bif (decide (kind = 4)) then (fz m .bool (decide (kind = 4)) fun y2_ => (k_j13 kids kind y2_)) else (bif (decide (kind = 8)) then (fz m .bool (decide (kind = 8)) fun y2_ => (k_j13 kids kind y2_)) else (fz m .bool (decide (kind = 22)) fun y2_ => (k_j13 kids kind y2_)))))))
def zh : vj Int := O6 false some
def H4 : zd Int := O7 false some zh
def H6 : zf Int := O8 false some H4
def Rl (kind : Int) (kids : Int) : Option Int := af6 false some zh H6 kind kids
def HY (r : Int) : AV := .val aa r
def af7 : Ent := evE (.cons aa (.cons aa .unit)) HY (zero aa) (fun x => Rl x.1 x.2.1)
def HZ : MS := ⟨0, [], []⟩
def abe : MS := ⟨0, [], [(1, .dat aa), (5, .dat aa), (22, .dat .bool)]⟩
def abd : MS := ⟨0, [], [(1, .dat aa), (5, .dat aa), (28, .dat .bool)]⟩
def aiY : Par := ⟨bm.tab, (av [(214, aiZ)]), (fun _ => ak [(39, HZ), (13, abe), (24, abd)]), (fun _ => ak [])⟩
def af8 : KT := aB bm.tab [.tmp 4] [aa]
def XH (fuel lo : Nat) (p : List Nat) : Sg → KT → Option AV := xc (aH fi0 hs0 fuel 0) aiY lo fuel (sub ((Tryz.f194.body).getD .skip) p)
def zg (fuel : Nat) : vj AV := (XH fuel 0 [1, 1]) ⟨mkE 71 [], mkH 0 []⟩ af8
def H5 (fuel : Nat) : zf AV := fun kids kind t22 => (XH fuel 0 [1, 0, 1, 0, 1, 1, 1, 1, 1, 1, 1]) ⟨mkE 71 [(1, .val aa kids), (5, .val aa kind), (22, .val .bool t22)], mkH 0 []⟩ (ai 0 (ax 0 (some HZ) (XH fuel 0 [1, 1]) af8))
def H3 (fuel : Nat) : zd AV := fun kids kind t28 => (XH fuel 0 [1, 0, 1, 0, 1, 1, 1, 1, 1, 1, 1, 1, 1]) ⟨mkE 71 [(1, .val aa kids), (5, .val aa kind), (28, .val .bool t28)], mkH 0 []⟩ (ai 0 (ax 0 (some HZ) (XH fuel 0 [1, 1]) af8))
theorem abf (fuel : Nat) : zg fuel = O6 true (sm HY) := by kernel_rfl
theorem abi (fuel : Nat) : H5 fuel = O8 true (sm HY) (H3 fuel) := by kernel_rfl
theorem abg (fuel : Nat) : H3 fuel = O7 true (sm HY) (zg fuel) := by kernel_rfl
theorem Rk : zg FU = mp0 HY (zh) := (abf FU).trans (by simp only [O6, zh, ss])
theorem abh : H3 FU = mp3 HY (H4) := (abg FU).trans (by rw [Rk]; funext _ _ _; simp only [O7, H4, ss])
theorem abj : H5 FU = mp3 HY (H6) := (abi FU).trans (by rw [abh]; funext _ _ _; simp only [O8, H6, ss])
theorem aiX : ap Tryz.prog 194 (af7) := evX Tryz.func194 (S := aiY) aN (ah ⟨alu, trivial⟩) (tys := [aa]) (fun fuel x => af6 true (sm HY) (zg fuel) (H5 fuel) x.1 x.2.1) (fun x => by show _ = Option.map HY _; rw [Rk, abj]; simp only [af6, Rl, ss])
abbrev DE (β : Type) := Str → Int → Int → Bool → Option β
abbrev Af (β : Type) := Str → Int → Int → Bool → Option β
abbrev Ae (β : Type) := Str → Option β
def lV (m : Bool) {β : Type} (K : Bool → Option β) : Ae β := fun s => (K (decide (s = [])))
def dg (m : Bool) {β : Type} (K : Bool → Option β) : Af β := fun s r1 kind t14 => (bif t14 then (K (decide (r1 = 1))) else (bif (decide (kind = 9)) then (nq m [2, 0] (!(decide (r1 = 2))) (K (bif (decide (r1 = 2)) then true else (decide (r1 = 4))))) else (bif (decide (kind = 16)) then (nq m [2, 0] (!(decide (r1 = 1))) (K (bif (decide (r1 = 1)) then true else (decide (r1 = 3))))) else (bif (decide (kind = 10)) then (K (decide (r1 = 5))) else (bif (decide (kind = 11)) then (K (decide (r1 = 6))) else (bif (decide (kind = 21)) then (cl m .bool (ka s) fun r2 => (K r2)) else (lV m K s)))))))
def iR (m : Bool) {β : Type} (K : Bool → Option β) : DE β := fun s r1 kind t9 => (bif t9 then (K (decide (r1 = 2))) else (bif (decide (kind = 2)) then (fz m .bool (decide (kind = 2)) fun y3_ => (dg m K s r1 kind y3_)) else (bif (decide (kind = 4)) then (fz m .bool (decide (kind = 4)) fun y3_ => (dg m K s r1 kind y3_)) else (bif (decide (kind = 12)) then (fz m .bool (decide (kind = 12)) fun y3_ => (dg m K s r1 kind y3_)) else (fz m .bool (decide (kind = 20)) fun y3_ => (dg m K s r1 kind y3_))))))
def k8 (m : Bool) {β : Type} (K : Bool → Option β) (kind : Int) (s : Str) : Option β := (cl m aa (eh s) fun r1 => (bif (decide (kind = 1)) then (fz m .bool (decide (kind = 1)) fun y3_ => (iR m K s r1 kind y3_)) else (fz m .bool (decide (kind = 3)) fun y3_ => (iR m K s r1 kind y3_))))
def cY (kind : Int) (s : Str) : Option Bool := k8 false some kind s
def o8 (r : Bool) : AV := .val .bool r
def o9 : Ent := evE (.cons aa (.cons .str .unit)) o8 (zero .bool) (fun x => cY x.1 x.2.1)
def DF : MS := ⟨0, [], [(1, .dat .str), (5, .dat aa), (8, .dat aa), (9, .dat .bool)]⟩
def Ah : MS := ⟨0, [], [(1, .dat .str), (5, .dat aa), (8, .dat aa), (14, .dat .bool)]⟩
def Ag : MS := ⟨0, [], [(1, .dat .str)]⟩
def Kd : Par := ⟨bm.tab, (av [(180, vO), (208, Hu)]), (fun _ => ak [(5, DF), (10, Ah), (21, Ag)]), (fun _ => ak [])⟩
theorem xE : ap Tryz.prog 195 (o9) := evX Tryz.func195 (S := Kd) aN (ah ⟨Dk, Q2, trivial⟩) (tys := [.bool]) (fun fuel x => k8 true (sm o8) x.1 x.2.1) (fun x => by show _ = Option.map o8 _; simp only [k8, cY, dg, lV, iR, ss])
abbrev aba (β : Type) := Int → Int → Tree → Bool → Option β
abbrev aa9 (β : Type) := Int → Option β
def XF (m : Bool) {β : Type} (K : Bool → Option β) : aa9 β := fun kind => (cl m .bool (LZ kind) fun r5 => (K r5))
def HX (m : Bool) {β : Type} (K : Bool → Option β) : aba β := fun i kind t t38 => (bif t38 then (cl m .bool (Rm kind) fun r3 => (K r3)) else (bif (decide (t.kind = 16)) then (K (decide (kind = 17))) else (bif (decide (t.kind = 21)) then (cl m .bool (XI kind) fun r4 => (nq m [2, 2] (!r4) (nq m [2] ((!r4) && (decide (i = 0))) (nm m 0 (!r4) ((ii ((!r4) && (decide (i = 0)))) && true) (nq m [0] (!r4) (K (bif r4 then true else (bif (decide (i = 0)) then (decide (kind = 21)) else false)))))))) else (XF m K kind))))
def af4 (m : Bool) {β : Type} (K : Bool → Option β) (t : Tree) (i : Int) (kind : Int) : Option β := (bif (decide (t.kind = 1)) then (nq m [2, 0] (!(decide (kind = 2))) (K (bif (decide (kind = 2)) then true else (decide (kind = 3))))) else (bif (decide (t.kind = 2)) then (bif (decide (i = (w64 ((il t.kids) - 1)))) then (cl m .bool (LZ kind) fun r1 => (K r1)) else (bif (decide (i = (w64 ((il t.kids) - 2)))) then (cl m .bool (Rm kind) fun r2 => (K r2)) else (K (decide (kind = 4))))) else (bif (decide (t.kind = 3)) then (fz m .bool (decide (t.kind = 3)) fun y3_ => (HX m K i kind t y3_)) else (bif (decide (t.kind = 4)) then (fz m .bool (decide (t.kind = 4)) fun y3_ => (HX m K i kind t y3_)) else (fz m .bool (decide (t.kind = 8)) fun y3_ => (HX m K i kind t y3_))))))
def XG (t : Tree) (i : Int) (kind : Int) : Option Bool := af4 false some t i kind
def af5 (r : Bool) : AV := .val .bool r
def aiW : Ent := evE (.cons .tree (.cons aa (.cons aa .unit))) af5 (zero .bool) (fun x => XG x.1 x.2.1 x.2.2.1)
def abc : MS := ⟨0, [], [(1, .dat aa), (2, .dat aa), (12, .dat aa), (38, .dat .bool)]⟩
def abb : MS := ⟨0, [], [(2, .dat aa)]⟩
def alt : Par := ⟨bm.tab, (av [(215, agi), (216, ai1), (217, ai0)]), (fun _ => ak [(15, abc), (20, abb)]), (fun _ => ak [])⟩
theorem als : ap Tryz.prog 196 (aiW) := evX Tryz.func196 (S := alt) aN (ah ⟨ai2, aly, alw, trivial⟩) (tys := [.bool]) (fun fuel x => af4 true (sm af5) x.1 x.2.1 x.2.2.1) (fun x => by show _ = Option.map af5 _; simp only [af4, XG, HX, XF, ss])
abbrev XE := Tree → Option Bool
abbrev Ct (β : Type) := Tree → Int → Option β
def XC (m : Bool) {β : Type} (c_gd : XE) (K : Bool → Option β) (k_l4 : Ct β) : Ct β := fun t i => (bif (decide (i < (il t.kids))) then (ck (bd i t.kids.length) (cl m .bool (XG (te t) i ((ix .tree t.kids i).kind)) fun r2 => (nq m [2] (!(!r2)) (nm m 2 (!(!r2)) (bd i t.kids.length) (nq m [2] (!(!r2)) (nm m 1 (!(!r2)) (gO1 c_gd (ix .tree t.kids i)) (nq m [2, 0] (!(!r2)) (bif (bif (!r2) then true else (!(fO1 (zero .bool) c_gd (ix .tree t.kids i)))) then (K false) else (fz m aa (w64 (i + 1)) fun y1_ => (k_l4 t y1_)))))))))) else (K true))
def Nc (x0 : Int) (x1 : Str) : Bool := (cY x0 x1).isSome
def Nd (x0 : Int) (x1 : Str) : Bool := (cY x0 x1).getD (zero .bool)
def af1 (m : Bool) {β : Type} (c_gd : XE) (K : Bool → Option β) (k_l4 : Ct β) (t : Tree) : Option β := (cl m aa (Rl (t.kind) (il t.kids)) fun r1 => (nq m [2, 2] (!(decide (r1 < 0))) (nm m 2 (!(decide (r1 < 0))) (Nc (t.kind) (t.text)) (nq m [2, 0] (!(decide (r1 < 0))) (bif (bif (decide (r1 < 0)) then true else (!(Nd (t.kind) (t.text)))) then (K false) else (k_l4 t 0))))))
def XB (c_gd : XE) : Nat → Ct Bool := lp (fun _ _ => none) fun k_l4 => XC false c_gd some k_l4
def O5 (c_gd : XE) (t : Tree) : Option Bool := af1 false c_gd some (XB c_gd FU) t
def Xz (r : Bool) : AV := .val .bool r
def yc : Nat → XE
 | 0 => (fun _ => none)
 | d + 1 => (fun t => O5 ((yc d)) t)
def vi (d : Nat) (t : Tree) : Option Bool := yc d t
theorem alq (d : Nat) (t : Tree) : vi (d + 1) t = O5 (vi d) t := rfl
def XD (d : Nat) : Ent := evE (.cons .tree .unit) Xz (zero .bool) (fun x => vi d x.1)
def XA : MS := ⟨1, [(0, [.dat aa, .dat .str, .dat (.slice .str), .dat (.slice .tree)])], [(1, .keep), (3, .dat aa)]⟩
def aiU (d : Nat) : Par := ⟨bm.tab, (av [(194, af7), (195, o9), (196, aiW), (164, XD d)]), (fun _ => ak []), (fun _ => ak [(4, XA)])⟩
def alr : KT := aB bm.tab [.tmp 2] [.bool]
def aiV (d : Nat) (fuel lo : Nat) (p : List Nat) : Sg → KT → Option AV := xc (aH fi0 hs0 fuel 0) (aiU d) lo fuel (sub ((Tryz.f164.body).getD .skip) p)
def HW (d : Nat) (fuel n : Nat) : Ct AV := fun t i => aD 0 XA (aiV d fuel 0 [1, 1, 0, 1, 0, 0]) (ai 0 (ax 0 none (aiV d fuel 0 [1, 1, 1]) alr)) n ⟨mkE 45 [(1, .box 0 0), (3, .val aa i)], mkH 1 [(0, .box [.val aa t.kind, .val .str t.text, .val (.slice .str) t.leads, .val (.slice .tree) t.kids])]⟩
theorem af2 (d : Nat) (fuel n4 : Nat) : HW d fuel (n4 + 1) = XC true (vi d) (sm Xz) (HW d fuel n4) := by kernel_rfl
theorem af3 (d : Nat) : ∀ n, HW d FU n = mp2 Xz (XB (vi d) n) := ba (by kernel_rfl) fun n4 _ h => (af2 d FU n4).trans (by rw [h]; funext _ _; simp only [XC, ss])
theorem yd : ∀ d, (ap Tryz.prog 164 (XD d)) ∧ True
 | 0 => ⟨p7 fun _ => rfl, trivial⟩
 | d + 1 => by
  have ih := yd d
  exact ⟨evX Tryz.func164 (S := (aiU d)) aN (ah ⟨aiX, xE, als, ih.1, trivial⟩) (tys := [.bool]) (fun fuel x => af1 true (vi d) (sm Xz) (HW d fuel fuel) x.1) (fun x => by show _ = Option.map Xz _; rw [af3 d FU]; simp only [af1, alq, O5, ss]), trivial⟩
theorem aiT (d : Nat) : ap Tryz.prog 164 (XD d) := (yd d).1
abbrev O4 := Tree → Option Bool
abbrev Cq (β : Type) := Tree → Int → Option β
abbrev Cp (β : Type) := Tree → Int → Option β
def Xy (m : Bool) {β : Type} (c_ge : O4) (K : Bool → Option β) (k_l4 : Cq β) (k_l9 : Cp β) : Cq β := fun t i => (bif (decide (i < (il t.leads))) then (ck (bd i t.leads.length) (nq m [2, 1] (decide (t.kind = 1)) (cl m .bool (eM (ix .str t.leads i) (bif (decide (t.kind = 1)) then (decide (i = 2)) else false)) fun r2 => (bif (!r2) then (K false) else (fz m aa (w64 (i + 1)) fun y1_ => (k_l4 t y1_)))))) else (k_l9 t 0))
def Xw (m : Bool) {β : Type} (c_ge : O4) (K : Bool → Option β) (k_l9 : Cp β) : Cp β := fun t i => (bif (decide (i < (il t.kids))) then (ck (bd i t.kids.length) (cl m .bool (c_ge (ix .tree t.kids i)) fun r3 => (bif (!r3) then (K false) else (fz m aa (w64 (i + 1)) fun y1_ => (k_l9 t y1_))))) else (K true))
def afW (m : Bool) {β : Type} (c_ge : O4) (K : Bool → Option β) (k_l4 : Cq β) (t : Tree) : Option β := (cl m aa (Rl (t.kind) (il t.kids)) fun r1 => (bif (!decide ((il t.leads) = r1)) then (K false) else (k_l4 t 0)))
def Xv (c_ge : O4) : Nat → Cp Bool := lp (fun _ _ => none) fun k_l9 => Xw false c_ge some k_l9
def Xx (c_ge : O4) : Nat → Cq Bool := lp (fun _ _ => none) fun k_l4 => Xy false c_ge some k_l4 (Xv c_ge FU)
def O3 (c_ge : O4) (t : Tree) : Option Bool := afW false c_ge some (Xx c_ge FU) t
def O2 (r : Bool) : AV := .val .bool r
def Ci : Nat → O4
 | 0 => (fun _ => none)
 | d + 1 => (fun t => O3 ((Ci d)) t)
def sj (d : Nat) (t : Tree) : Option Bool := Ci d t
theorem alp (d : Nat) (t : Tree) : sj (d + 1) t = O3 (sj d) t := rfl
def aa7 (d : Nat) : Ent := evE (.cons .tree .unit) O2 (zero .bool) (fun x => sj d x.1)
def Xu : MS := ⟨1, [(0, [.dat aa, .dat .str, .dat (.slice .str), .dat (.slice .tree)])], [(1, .keep), (3, .dat aa)]⟩
def Xt : MS := ⟨1, [(0, [.dat aa, .dat .str, .dat (.slice .str), .dat (.slice .tree)])], [(1, .keep), (4, .dat aa)]⟩
def aiR (d : Nat) : Par := ⟨bm.tab, (av [(194, af7), (182, wh), (165, aa7 d)]), (fun _ => ak []), (fun _ => ak [(4, Xu), (9, Xt)])⟩
def aiS : KT := aB bm.tab [.tmp 2] [.bool]
def aa8 (d : Nat) (fuel lo : Nat) (p : List Nat) : Sg → KT → Option AV := xc (aH fi0 hs0 fuel 0) (aiR d) lo fuel (sub ((Tryz.f165.body).getD .skip) p)
def HV (d : Nat) (fuel n : Nat) : Cq AV := fun t i => aD 0 Xu (aa8 d fuel 0 [1, 1, 0, 1, 0, 0]) (ai 0 (ax 0 none (aa8 d fuel 0 [1, 1, 1]) aiS)) n ⟨mkE 50 [(1, .box 0 0), (3, .val aa i)], mkH 1 [(0, .box [.val aa t.kind, .val .str t.text, .val (.slice .str) t.leads, .val (.slice .tree) t.kids])]⟩
def HU (d : Nat) (fuel n : Nat) : Cp AV := fun t i => aD 0 Xt (aa8 d fuel 0 [1, 1, 1, 0, 1, 0, 0]) (ai 2 (ax 0 none (aa8 d fuel 0 [1, 1, 1, 1]) aiS)) n ⟨mkE 50 [(1, .box 0 0), (4, .val aa i)], mkH 1 [(0, .box [.val aa t.kind, .val .str t.text, .val (.slice .str) t.leads, .val (.slice .tree) t.kids])]⟩
theorem afZ (d : Nat) (fuel n4 : Nat) : HV d fuel (n4 + 1) = Xy true (sj d) (sm O2) (HV d fuel n4) (HU d fuel fuel) := by kernel_rfl
theorem afX (d : Nat) (fuel n9 : Nat) : HU d fuel (n9 + 1) = Xw true (sj d) (sm O2) (HU d fuel n9) := by kernel_rfl
theorem afY (d : Nat) : ∀ n, HU d FU n = mp2 O2 (Xv (sj d) n) := ba (by kernel_rfl) fun n9 _ h => (afX d FU n9).trans (by rw [h]; funext _ _; simp only [Xw, ss])
theorem af0 (d : Nat) : ∀ n, HV d FU n = mp2 O2 (Xx (sj d) n) := ba (by kernel_rfl) fun n4 _ h => (afZ d FU n4).trans (by rw [h, afY d FU]; funext _ _; simp only [Xy, ss])
theorem Cj : ∀ d, (ap Tryz.prog 165 (aa7 d)) ∧ True
 | 0 => ⟨p7 fun _ => rfl, trivial⟩
 | d + 1 => by
  have ih := Cj d
  exact ⟨evX Tryz.func165 (S := (aiR d)) aN (ah ⟨aiX, EA, ih.1, trivial⟩) (tys := [.bool]) (fun fuel x => afW true (sj d) (sm O2) (HV d fuel fuel) x.1) (fun x => by show _ = Option.map O2 _; rw [af0 d FU]; simp only [afW, alp, O3, ss]), trivial⟩
theorem alo (d : Nat) : ap Tryz.prog 165 (aa7 d) := (Cj d).1
def geG (d : Nat) (x0 : Tree) : Bool := (sj d x0).isSome
def geF (d : Nat) (x0 : Tree) : Bool := (sj d x0).getD (zero .bool)
def afR (m : Bool) {β : Type} (K : Bool → Option β) (t : Tree) : Option β := (cl m .bool (vi FD (te t)) fun r1 => (nm m 1 r1 (geG FD (te t)) (nq m [1] r1 (K (bif r1 then (geF FD (te t)) else false)))))
def Rj (t : Tree) : Option Bool := afR false some t
def afS (r : Bool) : AV := .val .bool r
def afT : Ent := evE (.cons .tree .unit) afS (zero .bool) (fun x => Rj x.1)
def aln : Par := ⟨bm.tab, (av [(164, XD FD), (165, aa7 FD)]), (fun _ => ak []), (fun _ => ak [])⟩
theorem aiQ : ap Tryz.prog 121 (afT) := evX Tryz.func121 (S := aln) aN (ah ⟨(aiT FD), (alo FD), trivial⟩) (tys := [.bool]) (fun fuel x => afR true (sm afS) x.1) (fun x => by show _ = Option.map afS _; simp only [afR, Rj, ss])
abbrev Xq := Tree → Option Bool
abbrev Co (β : Type) := Tree → Int → Option β
def Xp (m : Bool) {β : Type} (c_gg : Xq) (K : Bool → Option β) (k_l5 : Co β) : Co β := fun t i => (bif (decide (i < (il t.kids))) then (ck (bd i t.kids.length) (cl m .bool (c_gg (ix .tree t.kids i)) fun r1 => (bif (!r1) then (K false) else (fz m aa (w64 (i + 1)) fun y1_ => (k_l5 t y1_))))) else (K true))
def afO (m : Bool) {β : Type} (c_gg : Xq) (K : Bool → Option β) (k_l5 : Co β) (t : Tree) : Option β := (nq m [2, 1] (decide (t.kind = 1)) (nq m [2, 2, 2] (!(bif (decide (t.kind = 1)) then (decide ((il t.kids) > 40)) else false)) (nq m [2] ((!(bif (decide (t.kind = 1)) then (decide ((il t.kids) > 40)) else false)) && (decide (t.kind = 2))) (nm m 0 (!(bif (decide (t.kind = 1)) then (decide ((il t.kids) > 40)) else false)) ((ii ((!(bif (decide (t.kind = 1)) then (decide ((il t.kids) > 40)) else false)) && (decide (t.kind = 2)))) && true) (nq m [0] (!(bif (decide (t.kind = 1)) then (decide ((il t.kids) > 40)) else false)) (nq m [2, 2, 2] (!(bif (bif (decide (t.kind = 1)) then (decide ((il t.kids) > 40)) else false) then true else (bif (decide (t.kind = 2)) then (decide ((il t.kids) > 10)) else false))) (nq m [2] ((!(bif (bif (decide (t.kind = 1)) then (decide ((il t.kids) > 40)) else false) then true else (bif (decide (t.kind = 2)) then (decide ((il t.kids) > 10)) else false))) && (decide (t.kind = 16))) (nm m 0 (!(bif (bif (decide (t.kind = 1)) then (decide ((il t.kids) > 40)) else false) then true else (bif (decide (t.kind = 2)) then (decide ((il t.kids) > 10)) else false))) ((ii ((!(bif (bif (decide (t.kind = 1)) then (decide ((il t.kids) > 40)) else false) then true else (bif (decide (t.kind = 2)) then (decide ((il t.kids) > 10)) else false))) && (decide (t.kind = 16)))) && true) (nq m [0] (!(bif (bif (decide (t.kind = 1)) then (decide ((il t.kids) > 40)) else false) then true else (bif (decide (t.kind = 2)) then (decide ((il t.kids) > 10)) else false))) (nq m [2, 2, 2] (!(bif (bif (bif (decide (t.kind = 1)) then (decide ((il t.kids) > 40)) else false) then true else (bif (decide (t.kind = 2)) then (decide ((il t.kids) > 10)) else false)) then true else (bif (decide (t.kind = 16)) then (decide ((il t.kids) > 8)) else false))) (nq m [2] ((!(bif (bif (bif (decide (t.kind = 1)) then (decide ((il t.kids) > 40)) else false) then true else (bif (decide (t.kind = 2)) then (decide ((il t.kids) > 10)) else false)) then true else (bif (decide (t.kind = 16)) then (decide ((il t.kids) > 8)) else false))) && (decide (t.kind = 18))) (nm m 0 (!(bif (bif (bif (decide (t.kind = 1)) then (decide ((il t.kids) > 40)) else false) then true else (bif (decide (t.kind = 2)) then (decide ((il t.kids) > 10)) else false)) then true else (bif (decide (t.kind = 16)) then (decide ((il t.kids) > 8)) else false))) ((ii ((!(bif (bif (bif (decide (t.kind = 1)) then (decide ((il t.kids) > 40)) else false) then true else (bif (decide (t.kind = 2)) then (decide ((il t.kids) > 10)) else false)) then true else (bif (decide (t.kind = 16)) then (decide ((il t.kids) > 8)) else false))) && (decide (t.kind = 18)))) && true) (nq m [0] (!(bif (bif (bif (decide (t.kind = 1)) then (decide ((il t.kids) > 40)) else false) then true else (bif (decide (t.kind = 2)) then (decide ((il t.kids) > 10)) else false)) then true else (bif (decide (t.kind = 16)) then (decide ((il t.kids) > 8)) else false))) (bif (bif (bif (bif (bif (decide (t.kind = 1)) then (decide ((il t.kids) > 40)) else false) then true else (bif (decide (t.kind = 2)) then (decide ((il t.kids) > 10)) else false)) then true else (bif (decide (t.kind = 16)) then (decide ((il t.kids) > 8)) else false)) then true else (bif (decide (t.kind = 18)) then (decide ((il t.kids) > 16)) else false)) then (K false) else (k_l5 t 0)))))))))))))))
def Xo (c_gg : Xq) : Nat → Co Bool := lp (fun _ _ => none) fun k_l5 => Xp false c_gg some k_l5
def O0 (c_gg : Xq) (t : Tree) : Option Bool := afO false c_gg some (Xo c_gg FU) t
def Xm (r : Bool) : AV := .val .bool r
def yf : Nat → Xq
 | 0 => (fun _ => none)
 | d + 1 => (fun t => O0 ((yf d)) t)
def yh (d : Nat) (t : Tree) : Option Bool := yf d t
theorem alk (d : Nat) (t : Tree) : yh (d + 1) t = O0 (yh d) t := rfl
def aa6 (d : Nat) : Ent := evE (.cons .tree .unit) Xm (zero .bool) (fun x => yh d x.1)
def Xn : MS := ⟨1, [(0, [.dat aa, .dat .str, .dat (.slice .str), .dat (.slice .tree)])], [(1, .keep), (3, .dat aa), (4, .dat aa)]⟩
def aiO (d : Nat) : Par := ⟨bm.tab, (av [(122, aa6 d)]), (fun _ => ak []), (fun _ => ak [(5, Xn)])⟩
def alm : KT := aB bm.tab [.tmp 2] [.bool]
def aiP (d : Nat) (fuel lo : Nat) (p : List Nat) : Sg → KT → Option AV := xc (aH fi0 hs0 fuel 0) (aiO d) lo fuel (sub ((Tryz.f122.body).getD .skip) p)
def HS (d : Nat) (fuel n : Nat) : Co AV := fun t i => aD 0 Xn (aiP d fuel 0 [1, 1, 1, 0, 1, 0, 0]) (ai 0 (ax 0 none (aiP d fuel 0 [1, 1, 1, 1]) alm)) n ⟨mkE 54 [(1, .box 0 0), (3, .val aa (il t.kids)), (4, .val aa i)], mkH 1 [(0, .box [.val aa t.kind, .val .str t.text, .val (.slice .str) t.leads, .val (.slice .tree) t.kids])]⟩
theorem afP (d : Nat) (fuel n5 : Nat) : HS d fuel (n5 + 1) = Xp true (yh d) (sm Xm) (HS d fuel n5) := by kernel_rfl
theorem afQ (d : Nat) : ∀ n, HS d FU n = mp2 Xm (Xo (yh d) n) := ba (by kernel_rfl) fun n5 _ h => (afP d FU n5).trans (by rw [h]; funext _ _; simp only [Xp, ss])
theorem yg : ∀ d, (ap Tryz.prog 122 (aa6 d)) ∧ True
 | 0 => ⟨p7 fun _ => rfl, trivial⟩
 | d + 1 => by
  have ih := yg d
  exact ⟨evX Tryz.func122 (S := (aiO d)) aN (ah ⟨ih.1, trivial⟩) (tys := [.bool]) (fun fuel x => afO true (yh d) (sm Xm) (HS d fuel fuel) x.1) (fun x => by show _ = Option.map Xm _; rw [afQ d FU]; simp only [afO, alk, O0, ss]), trivial⟩
theorem alj (d : Nat) : ap Tryz.prog 122 (aa6 d) := (yg d).1
def afL (m : Bool) {β : Type} (K : Str → Option β) (t : Tree) (t1 : Int) : Option β := (bif (decide (t1 < (il t.leads))) then (ck (bd t1 t.leads.length) (K (ix .str t.leads t1))) else (K []))
def bw (t : Tree) (t1 : Int) : Option Str := afL false some t t1
def afM (r : Str) : AV := .val .str r
def afN : Ent := evE (.cons .tree (.cons aa .unit)) afM (zero .str) (fun x => bw x.1 x.2.1)
def ali : Par := ⟨bm.tab, (av []), (fun _ => ak []), (fun _ => ak [])⟩
theorem aiN : ap Tryz.prog 218 (afN) := evX Tryz.func218 (S := ali) aN (ah trivial) (tys := [.str]) (fun fuel x => afL true (sm afM) x.1 x.2.1) (fun x => by show _ = Option.map afM _; simp only [afL, bw, ss])
abbrev Cn := (List au.den) → Tree → Int → Int → Int → Option (List au.den)
abbrev Cm := (List au.den) → Tree → Option (List au.den)
abbrev OZ := (List au.den)
abbrev sS (β : Type) := Int → Int → Int → (List au.den) → Int → Int → Str → (List Str) → (List Tree) → Option β
abbrev afF (β : Type) := Int → Int → Int → Int → (List au.den) → Int → Str → (List Str) → (List Tree) → Option β
abbrev afG (β : Type) := Int → Int → Int → Int → (List au.den) → Int → Str → (List Str) → (List Tree) → Option β
def Xl (m : Bool) {β : Type} (c_gi : Cn) (c_gj : Cm) (K : OZ → Option β) (k_l2 : sS β) : afG β := fun t2 to comma i l b1_0 b1_1 b1_2 b1_3 => (fz m aa (w64 (i + 1)) fun y4_ => (k_l2 t2 to comma l y4_ b1_0 b1_1 b1_2 b1_3))
def Ri (m : Bool) {β : Type} (c_gi : Cn) (c_gj : Cm) (K : OZ → Option β) (k_l2 : sS β) : afF β := fun t2 to comma i l b1_0 b1_1 b1_2 b1_3 => (ck (bd i b1_3.length) (cl m (.slice au) (c_gj l (ix .tree b1_3 i)) fun r2 => (Xl m c_gi c_gj K k_l2 t2 to comma i r2 b1_0 b1_1 b1_2 b1_3)))
def Xk (m : Bool) {β : Type} (c_gi : Cn) (c_gj : Cm) (K : OZ → Option β) (k_l2 : sS β) : sS β := fun t2 to comma l i b1_0 b1_1 b1_2 b1_3 => (bif (decide (i < to)) then (bif (decide (i > t2)) then (cl m .str (bw (Tree.mk b1_0 b1_1 b1_2 b1_3) (w64 ((w64 ((w64 (comma + i)) - t2)) - 1))) fun r1 => (ck (lm (List.length l + List.length ([(r1, [44], ())] : List au.den))) (fz m (.slice au) (l ++ [(r1, [44], ())]) fun y4_ => (Ri m c_gi c_gj K k_l2 t2 to comma i y4_ b1_0 b1_1 b1_2 b1_3)))) else (Ri m c_gi c_gj K k_l2 t2 to comma i l b1_0 b1_1 b1_2 b1_3)) else (K l))
def afE (m : Bool) {β : Type} (c_gi : Cn) (c_gj : Cm) (K : OZ → Option β) (k_l2 : sS β) (l : (List au.den)) (t : Tree) (t2 : Int) (to : Int) (comma : Int) : Option β := (fz m aa (t.kind) fun y5_ => (fz m .str (t.text) fun y6_ => (fz m (.slice .str) (t.leads) fun y7_ => (fz m (.slice .tree) (t.kids) fun y8_ => (k_l2 t2 to comma l t2 y5_ y6_ y7_ y8_)))))
def Xj (c_gi : Cn) (c_gj : Cm) : Nat → sS OZ := lp (fun _ _ _ _ _ _ _ _ _ => none) fun k_l2 => Xk false c_gi c_gj some k_l2
def OY (c_gi : Cn) (c_gj : Cm) (l : (List au.den)) (t : Tree) (t2 : Int) (to : Int) (comma : Int) : Option OZ := afE false c_gi c_gj some (Xj c_gi c_gj FU) l t t2 to comma
def aa5 (r : OZ) : AV := .val (.slice au) r
abbrev Xh := (List au.den)
abbrev Cl (β : Type) := Tree → (List au.den) → Int → Int → Str → (List Str) → (List Tree) → Option β
def Xg (m : Bool) {β : Type} (c_gi : Cn) (c_gj : Cm) (K : Xh → Option β) (k_l6 : Cl β) : Cl β := fun t l i b1_0 b1_1 b1_2 b1_3 => (bif (decide (i < (il t.kids))) then (ck (bd i b1_3.length) (cl m (.slice au) (c_gj l (ix .tree b1_3 i)) fun r55 => (fz m aa (w64 (i + 1)) fun y2_ => (k_l6 t r55 y2_ b1_0 b1_1 b1_2 b1_3)))) else (cl m .str (bw (Tree.mk b1_0 b1_1 b1_2 b1_3) 2) fun r56 => (ck (lm (List.length l + List.length ([(r56, [], ())] : List au.den))) (K (l ++ [(r56, [], ())])))))
def afz (m : Bool) {β : Type} (c_gi : Cn) (c_gj : Cm) (K : Xh → Option β) (k_l6 : Cl β) (l : (List au.den)) (t : Tree) : Option β := (bif (decide (t.kind = 1)) then (cl m .str (bw (te t) 0) fun r1 => (cl m .str (bw (te t) 1) fun r2 => (ck (lm (List.length l + List.length ([(r1, [109, 111, 100, 117, 108, 101], ()), (r2, t.text, ())] : List au.den))) (fz m (.slice au) (l ++ [(r1, [109, 111, 100, 117, 108, 101], ()), (r2, t.text, ())]) fun y1_ => (fz m aa (t.kind) fun y3_ => (fz m .str (t.text) fun y4_ => (fz m (.slice .str) (t.leads) fun y5_ => (fz m (.slice .tree) (t.kids) fun y6_ => (k_l6 t y1_ 0 y3_ y4_ y5_ y6_))))))))) else (bif (decide (t.kind = 2)) then (cl m .str (bw (te t) 0) fun r3 => (cl m .str (bw (te t) 1) fun r4 => (cl m .str (bw (te t) 2) fun r5 => (ck (lm (List.length l + List.length ([(r3, [100, 101, 102], ()), (r4, t.text, ()), (r5, [40], ())] : List au.den))) (cl m (.slice au) (c_gi (l ++ [(r3, [100, 101, 102], ()), (r4, t.text, ()), (r5, [40], ())]) (te t) 0 (w64 ((il t.kids) - 2)) 6) fun r6 => (cl m .str (bw (te t) 3) fun r7 => (cl m .str (bw (te t) 4) fun r8 => (ck (lm (List.length r6 + List.length ([(r7, [41], ()), (r8, [58], ())] : List au.den))) (ck (bd (w64 ((il t.kids) - 2)) t.kids.length) (cl m (.slice au) (c_gj (r6 ++ [(r7, [41], ()), (r8, [58], ())]) (ix .tree t.kids (w64 ((il t.kids) - 2)))) fun r9 => (cl m .str (bw (te t) 5) fun r10 => (ck (lm (List.length r9 + List.length ([(r10, [61], ())] : List au.den))) (ck (bd (w64 ((il t.kids) - 1)) t.kids.length) (cl m (.slice au) (c_gj (r9 ++ [(r10, [61], ())]) (ix .tree t.kids (w64 ((il t.kids) - 1)))) fun r11 => (K r11))))))))))))))) else (bif (decide (t.kind = 3)) then (cl m .str (bw (te t) 0) fun r12 => (cl m .str (bw (te t) 1) fun r13 => (cl m .str (bw (te t) 2) fun r14 => (ck (lm (List.length l + List.length ([(r12, [116, 121, 112, 101], ()), (r13, t.text, ()), (r14, [61], ())] : List au.den))) (ck (bd 0 t.kids.length) (cl m (.slice au) (c_gj (l ++ [(r12, [116, 121, 112, 101], ()), (r13, t.text, ()), (r14, [61], ())]) (ix .tree t.kids 0)) fun r15 => (K r15))))))) else (bif (decide (t.kind = 4)) then (cl m .str (bw (te t) 0) fun r16 => (cl m .str (bw (te t) 1) fun r17 => (ck (lm (List.length l + List.length ([(r16, t.text, ()), (r17, [58], ())] : List au.den))) (ck (bd 0 t.kids.length) (cl m (.slice au) (c_gj (l ++ [(r16, t.text, ()), (r17, [58], ())]) (ix .tree t.kids 0)) fun r18 => (K r18)))))) else (bif (decide (t.kind = 5)) then (cl m .str (bw (te t) 0) fun r19 => (ck (lm (List.length l + List.length ([(r19, [73, 110, 116], ())] : List au.den))) (K (l ++ [(r19, [73, 110, 116], ())])))) else (bif (decide (t.kind = 6)) then (cl m .str (bw (te t) 0) fun r20 => (ck (lm (List.length l + List.length ([(r20, [84, 101, 120, 116], ())] : List au.den))) (K (l ++ [(r20, [84, 101, 120, 116], ())])))) else (bif (decide (t.kind = 7)) then (cl m .str (bw (te t) 0) fun r21 => (ck (lm (List.length l + List.length ([(r21, [66, 111, 111, 108], ())] : List au.den))) (K (l ++ [(r21, [66, 111, 111, 108], ())])))) else (bif (decide (t.kind = 13)) then (cl m .str (bw (te t) 0) fun r22 => (ck (lm (List.length l + List.length ([(r22, [116, 114, 117, 101], ())] : List au.den))) (K (l ++ [(r22, [116, 114, 117, 101], ())])))) else (bif (decide (t.kind = 14)) then (cl m .str (bw (te t) 0) fun r23 => (ck (lm (List.length l + List.length ([(r23, [102, 97, 108, 115, 101], ())] : List au.den))) (K (l ++ [(r23, [102, 97, 108, 115, 101], ())])))) else (bif (decide (t.kind = 15)) then (cl m .str (bw (te t) 0) fun r24 => (ck (lm (List.length l + List.length ([(r24, [63], ())] : List au.den))) (K (l ++ [(r24, [63], ())])))) else (bif (decide (t.kind = 8)) then (cl m .str (bw (te t) 0) fun r25 => (ck (lm (List.length l + List.length ([(r25, [91], ())] : List au.den))) (ck (bd 0 t.kids.length) (cl m (.slice au) (c_gj (l ++ [(r25, [91], ())]) (ix .tree t.kids 0)) fun r26 => (cl m .str (bw (te t) 1) fun r27 => (ck (lm (List.length r26 + List.length ([(r27, [93], ())] : List au.den))) (K (r26 ++ [(r27, [93], ())])))))))) else (bif (decide (t.kind = 16)) then (cl m .str (bw (te t) 0) fun r28 => (cl m .str (bw (te t) 1) fun r29 => (ck (lm (List.length l + List.length ([(r28, t.text, ()), (r29, [40], ())] : List au.den))) (cl m (.slice au) (c_gi (l ++ [(r28, t.text, ()), (r29, [40], ())]) (te t) 0 (il t.kids) 3) fun r30 => (cl m .str (bw (te t) 2) fun r31 => (ck (lm (List.length r30 + List.length ([(r31, [41], ())] : List au.den))) (K (r30 ++ [(r31, [41], ())])))))))) else (bif (decide (t.kind = 17)) then (ck (bd 0 t.kids.length) (cl m (.slice au) (c_gj l (ix .tree t.kids 0)) fun r32 => (K r32))) else (bif (decide (t.kind = 18)) then (cl m .str (bw (te t) 0) fun r33 => (ck (lm (List.length l + List.length ([(r33, [91], ())] : List au.den))) (cl m (.slice au) (c_gi (l ++ [(r33, [91], ())]) (te t) 0 (il t.kids) 2) fun r34 => (cl m .str (bw (te t) 1) fun r35 => (ck (lm (List.length r34 + List.length ([(r35, [93], ())] : List au.den))) (K (r34 ++ [(r35, [93], ())]))))))) else (bif (decide (t.kind = 19)) then (cl m .str (bw (te t) 0) fun r36 => (ck (lm (List.length l + List.length ([(r36, [105, 102], ())] : List au.den))) (ck (bd 0 t.kids.length) (cl m (.slice au) (c_gj (l ++ [(r36, [105, 102], ())]) (ix .tree t.kids 0)) fun r37 => (cl m .str (bw (te t) 1) fun r38 => (ck (lm (List.length r37 + List.length ([(r38, [116, 104, 101, 110], ())] : List au.den))) (ck (bd 1 t.kids.length) (cl m (.slice au) (c_gj (r37 ++ [(r38, [116, 104, 101, 110], ())]) (ix .tree t.kids 1)) fun r39 => (cl m .str (bw (te t) 2) fun r40 => (ck (lm (List.length r39 + List.length ([(r40, [101, 108, 115, 101], ())] : List au.den))) (ck (bd 2 t.kids.length) (cl m (.slice au) (c_gj (r39 ++ [(r40, [101, 108, 115, 101], ())]) (ix .tree t.kids 2)) fun r41 => (K r41))))))))))))) else (bif (decide (t.kind = 20)) then (cl m .str (bw (te t) 0) fun r42 => (cl m .str (bw (te t) 1) fun r43 => (cl m .str (bw (te t) 2) fun r44 => (ck (lm (List.length l + List.length ([(r42, [108, 101, 116], ()), (r43, t.text, ()), (r44, [61], ())] : List au.den))) (ck (bd 0 t.kids.length) (cl m (.slice au) (c_gj (l ++ [(r42, [108, 101, 116], ()), (r43, t.text, ()), (r44, [61], ())]) (ix .tree t.kids 0)) fun r45 => (cl m .str (bw (te t) 3) fun r46 => (ck (lm (List.length r45 + List.length ([(r46, [105, 110], ())] : List au.den))) (ck (bd 1 t.kids.length) (cl m (.slice au) (c_gj (r45 ++ [(r46, [105, 110], ())]) (ix .tree t.kids 1)) fun r47 => (K r47))))))))))) else (bif (decide (t.kind = 21)) then (ck (bd 0 t.kids.length) (cl m (.slice au) (c_gj l (ix .tree t.kids 0)) fun r48 => (cl m .str (bw (te t) 0) fun r49 => (ck (lm (List.length r48 + List.length ([(r49, t.text, ())] : List au.den))) (ck (bd 1 t.kids.length) (cl m (.slice au) (c_gj (r48 ++ [(r49, t.text, ())]) (ix .tree t.kids 1)) fun r50 => (K r50))))))) else (bif (decide (t.kind = 22)) then (cl m .str (bw (te t) 0) fun r51 => (ck (lm (List.length l + List.length ([(r51, [40], ())] : List au.den))) (ck (bd 0 t.kids.length) (cl m (.slice au) (c_gj (l ++ [(r51, [40], ())]) (ix .tree t.kids 0)) fun r52 => (cl m .str (bw (te t) 1) fun r53 => (ck (lm (List.length r52 + List.length ([(r53, [41], ())] : List au.den))) (K (r52 ++ [(r53, [41], ())])))))))) else (cl m .str (bw (te t) 0) fun r54 => (ck (lm (List.length l + List.length ([(r54, t.text, ())] : List au.den))) (K (l ++ [(r54, t.text, ())]))))))))))))))))))))))
def Xf (c_gi : Cn) (c_gj : Cm) : Nat → Cl Xh := lp (fun _ _ _ _ _ _ _ => none) fun k_l6 => Xg false c_gi c_gj some k_l6
def OX (c_gi : Cn) (c_gj : Cm) (l : (List au.den)) (t : Tree) : Option Xh := afz false c_gi c_gj some (Xf c_gi c_gj FU) l t
def aa4 (r : Xh) : AV := .val (.slice au) r
def e9 : Nat → Cn × Cm
 | 0 => ((fun _ _ _ _ _ => none), (fun _ _ => none))
 | d + 1 => ((fun l t t2 to comma => OY ((e9 d).1) ((e9 d).2) l t t2 to comma), (fun l t => OX ((e9 d).1) ((e9 d).2) l t))
def sg (d : Nat) (l : (List au.den)) (t : Tree) (t2 : Int) (to : Int) (comma : Int) : Option (List au.den) := (e9 d).1 l t t2 to comma
def pS (d : Nat) (l : (List au.den)) (t : Tree) : Option (List au.den) := (e9 d).2 l t
theorem alg (d : Nat) (l : (List au.den)) (t : Tree) (t2 : Int) (to : Int) (comma : Int) : sg (d + 1) l t t2 to comma = OY (sg d) (pS d) l t t2 to comma := rfl
theorem ale (d : Nat) (l : (List au.den)) (t : Tree) : pS (d + 1) l t = OX (sg d) (pS d) l t := rfl
def afD (d : Nat) : Rw := rwE au (.cons .tree (.cons aa (.cons aa (.cons aa .unit)))) 215 (fun l x => sg d l x.1 x.2.1 x.2.2.1 x.2.2.2.1)
def Xd (d : Nat) : Rw := rwE au (.cons .tree .unit) 215 (fun l x => pS d l x.1)
def Xi : MS := ⟨2, [(1, [.dat aa, .dat .str, .dat (.slice .str), .dat (.slice .tree)])], [(0, .own au 215), (2, .dat aa), (3, .dat aa), (4, .dat aa), (6, .keep), (11, .dat aa)]⟩
def afH : MS := ⟨2, [(1, [.dat aa, .dat .str, .dat (.slice .str), .dat (.slice .tree)])], [(0, .own au 215), (2, .dat aa), (3, .dat aa), (4, .dat aa), (6, .keep), (11, .dat aa)]⟩
def afI : MS := ⟨2, [(1, [.dat aa, .dat .str, .dat (.slice .str), .dat (.slice .tree)])], [(0, .own au 215), (2, .dat aa), (3, .dat aa), (4, .dat aa), (6, .keep), (11, .dat aa)]⟩
def aiL (d : Nat) : Par := ⟨bm.tab, (bQ [(218, afN)] [] [] [(197, Xd d)] []), (fun _ => ak [(6, afH), (3, afI)]), (fun _ => ak [(2, Xi)])⟩
def alh : KT := wt bm.tab [.tmp 10] au 215
def aiM (d : Nat) (fuel lo : Nat) (p : List Nat) : Sg → KT → Option AV := xc (aH fi0 hs0 fuel 0) (aiL d) lo fuel (sub ((Tryz.f219.body).getD .skip) p)
def HR (d : Nat) (fuel n : Nat) : sS AV := fun t2 to comma l i b1_0 b1_1 b1_2 b1_3 => aD 0 Xi (aiM d fuel 0 [1, 0, 1, 0, 0]) (ai 0 (ax 0 none (aiM d fuel 0 [1, 1]) alh)) n ⟨mkE 41 [(0, .own 2 0 au l), (2, .val aa t2), (3, .val aa to), (4, .val aa comma), (6, .box 1 0), (11, .val aa i)], mkH 3 [(0, .row au 215 1), (1, .box [.val aa b1_0, .val .str b1_1, .val (.slice .str) b1_2, .val (.slice .tree) b1_3]), (2, .row au 215 0)]⟩
theorem afJ (d : Nat) (fuel n2 : Nat) : HR d fuel (n2 + 1) = Xk true (sg d) (pS d) (sm aa5) (HR d fuel n2) := by kernel_rfl
theorem afK (d : Nat) : ∀ n, HR d FU n = mp9 aa5 (Xj (sg d) (pS d) n) := ba (by kernel_rfl) fun n2 _ h => (afJ d FU n2).trans (by rw [h]; funext _ _ _ _ _ _ _ _ _; simp only [Xk, Xl, Ri, ss])
def Xe : MS := ⟨2, [(1, [.dat aa, .dat .str, .dat (.slice .str), .dat (.slice .tree)])], [(0, .own au 215), (3, .keep), (5, .dat aa), (6, .dat aa)]⟩
def aiK (d : Nat) : Par := ⟨bm.tab, (bQ [(218, afN)] [] [] [(219, afD d), (197, Xd d)] []), (fun _ => ak []), (fun _ => ak [(6, Xe)])⟩
def alf : KT := wt bm.tab [.tmp 4] au 215
def afC (d : Nat) (fuel lo : Nat) (p : List Nat) : Sg → KT → Option AV := xc (aH fi0 hs0 fuel 0) (aiK d) lo fuel (sub ((Tryz.f197.body).getD .skip) p)
def HQ (d : Nat) (fuel n : Nat) : Cl AV := fun t l i b1_0 b1_1 b1_2 b1_3 => aD 0 Xe (afC d fuel 0 [1, 1, 0, 1, 0, 1, 0, 1, 0, 1, 0, 0]) (ai 1 (ax 0 none (afC d fuel 0 [1, 1, 0, 1, 0, 1, 0, 1, 1]) (ai 0 (ax 0 none (afC d fuel 0 [1, 1, 1]) alf)))) n ⟨mkE 365 [(0, .own 2 0 au l), (3, .box 1 0), (5, .val aa (il t.kids)), (6, .val aa i)], mkH 3 [(0, .row au 215 2), (1, .box [.val aa b1_0, .val .str b1_1, .val (.slice .str) b1_2, .val (.slice .tree) b1_3]), (2, .row au 215 0)]⟩
theorem afA (d : Nat) (fuel n6 : Nat) : HQ d fuel (n6 + 1) = Xg true (sg d) (pS d) (sm aa4) (HQ d fuel n6) := by kernel_rfl
theorem afB (d : Nat) : ∀ n, HQ d FU n = mp7 aa4 (Xf (sg d) (pS d) n) := ba (by kernel_rfl) fun n6 _ h => (afA d FU n6).trans (by rw [h]; funext _ _ _ _ _ _ _; simp only [Xg, ss])
theorem pR : ∀ d, (kK Tryz.prog 219 (afD d)) ∧ (kK Tryz.prog 197 (Xd d)) ∧ True
 | 0 => ⟨AA fun _ _ => rfl, AA fun _ _ => rfl, trivial⟩
 | d + 1 => by
  have ih := pR d
  exact ⟨rwX Tryz.func219 (S := (aiL d)) aN (aW ⟨aiN, trivial⟩ trivial trivial ⟨ih.2.1, trivial⟩ trivial) (fun fuel p x => afE true (sg d) (pS d) (sm aa5) (HR d fuel fuel) p x.1 x.2.1 x.2.2.1 x.2.2.2.1) (fun p x => by show _ = Option.map aa5 _; rw [afK d FU]; simp only [afE, alg, OY, Xl, Ri, ss]),
   rwX Tryz.func197 (S := (aiK d)) aN (aW ⟨aiN, trivial⟩ trivial trivial ⟨ih.1, ih.2.1, trivial⟩ trivial) (fun fuel p x => afz true (sg d) (pS d) (sm aa4) (HQ d fuel fuel) p x.1) (fun p x => by show _ = Option.map aa4 _; rw [afB d FU]; simp only [afz, ale, OX, ss]), trivial⟩
theorem amh (d : Nat) : kK Tryz.prog 219 (afD d) := (pR d).1
theorem ald (d : Nat) : kK Tryz.prog 197 (Xd d) := (pR d).2.1
abbrev afy := (List au.den)
def afw (m : Bool) {β : Type} (K : afy → Option β) (t : Tree) : Option β := (cl m (.slice au) (pS FD [] (te t)) fun r1 => (K r1))
def Xc (t : Tree) : Option afy := afw false some t
def afx (r : afy) : AV := .val (.slice au) r
def aiJ : Ent := evE (.cons .tree .unit) afx (zero (.slice au)) (fun x => Xc x.1)
def alc : Par := ⟨bm.tab, (bQ [] [] [] [(197, Xd FD)] []), (fun _ => ak []), (fun _ => ak [])⟩
theorem alb : ap Tryz.prog 166 (aiJ) := evX Tryz.func166 (S := alc) aN (aW trivial trivial trivial ⟨(ald FD), trivial⟩ trivial) (tys := [(.slice au)]) (fun fuel x => afw true (sm afx) x.1) (fun x => by show _ = Option.map afx _; simp only [afw, Xc, ss])
abbrev sR (β : Type) := (List au.den) → Str → Int → Option β
abbrev aa2 (β : Type) := (List au.den) → Int → Str → Option β
abbrev afs (β : Type) := (List au.den) → Int → Str → Option β
def Xb (m : Bool) {β : Type} (K : Str → Option β) (k_l6 : sR β) : afs β := fun r2 i s => (fz m aa (w64 (i + 1)) fun y2_ => (k_l6 r2 s y2_))
def HP (m : Bool) {β : Type} (K : Str → Option β) (k_l6 : sR β) : aa2 β := fun r2 i s => (ck (bd i r2.length) (ck (decide (s.length + (ix au r2 i).1.length ≤ Qh)) (ck (bd i r2.length) (ck (decide ((s ++ (ix au r2 i).1).length + (ix au r2 i).2.1.length ≤ Qh)) (fz m .str ((s ++ (ix au r2 i).1) ++ (ix au r2 i).2.1) fun y2_ => (Xb m K k_l6 r2 i y2_))))))
def g4G (x0 : Str) (x1 : Str) : Bool := (Rn x0 x1).isSome
def g4F (x0 : Str) (x1 : Str) : Bool := (Rn x0 x1).getD (zero .bool)
def Xa (m : Bool) {β : Type} (K : Str → Option β) (k_l6 : sR β) : sR β := fun r2 s i => (bif (decide (i < (il r2))) then (nm m 2 (decide (i > 0)) (bd i r2.length) (nq m [2, 2, 2, 1] (decide (i > 0)) (nq m [2] (bif (decide (i > 0)) then (decide ((ix au r2 i).1 = [])) else false) (nm m 2 (bif (decide (i > 0)) then (decide ((ix au r2 i).1 = [])) else false) (bd (w64 (i - 1)) r2.length) (nq m [2, 2] (bif (decide (i > 0)) then (decide ((ix au r2 i).1 = [])) else false) (nm m 2 (bif (decide (i > 0)) then (decide ((ix au r2 i).1 = [])) else false) (bd i r2.length) (nq m [2, 2] (bif (decide (i > 0)) then (decide ((ix au r2 i).1 = [])) else false) (nm m 2 (bif (decide (i > 0)) then (decide ((ix au r2 i).1 = [])) else false) (g4G ((ix au r2 (w64 (i - 1))).2.1) ((ix au r2 i).2.1)) (nq m [1] (bif (decide (i > 0)) then (decide ((ix au r2 i).1 = [])) else false) (bif (bif (bif (decide (i > 0)) then (decide ((ix au r2 i).1 = [])) else false) then (g4F ((ix au r2 (w64 (i - 1))).2.1) ((ix au r2 i).2.1)) else false) then (ck (decide (s.length + ([32] : List UInt8).length ≤ Qh)) (fz m .str (s ++ [32]) fun y2_ => (HP m K k_l6 r2 i y2_))) else (HP m K k_l6 r2 i s))))))))))) else (K s))
def afr (m : Bool) {β : Type} (K : Str → Option β) (k_l6 : sR β) (t : Tree) : Option β := (cl m .bool (Rj (te t)) fun r1 => (bif (!r1) then (K []) else (cl m (.slice au) (Xc (te t)) fun r2 => (k_l6 r2 [] 0))))
def W9 : Nat → sR Str := lp (fun _ _ _ => none) fun k_l6 => Xa false some k_l6
def Rh (t : Tree) : Option Str := afr false some (W9 FU) t
def W7 (r : Str) : AV := .val .str r
def aiG : Ent := evE (.cons .tree .unit) W7 (zero .str) (fun x => Rh x.1)
def W8 : MS := ⟨0, [], [(3, .dat (.slice au)), (4, .dat .str), (5, .dat aa)]⟩
def aa3 : MS := ⟨0, [], [(3, .dat (.slice au)), (4, .dat .str), (5, .dat aa)]⟩
def aft : MS := ⟨0, [], [(3, .dat (.slice au)), (4, .dat .str), (5, .dat aa)]⟩
def aiH : Par := ⟨bm.tab, (av [(121, afT), (166, aiJ), (167, ai3)]), (fun _ => ak [(10, aa3), (7, aft)]), (fun _ => ak [(6, W8)])⟩
def ala : KT := aB bm.tab [.tmp 2] [.str]
def aiI (fuel lo : Nat) (p : List Nat) : Sg → KT → Option AV := xc (aH fi0 hs0 fuel 0) aiH lo fuel (sub ((Tryz.f123.body).getD .skip) p)
def HN (fuel n : Nat) : sR AV := fun r2 s i => aD 0 W8 (aiI fuel 0 [1, 1, 1, 1, 0, 1, 0, 0]) (ai 0 (ax 0 none (aiI fuel 0 [1, 1, 1, 1, 1]) ala)) n ⟨mkE 57 [(3, .val (.slice au) r2), (4, .val .str s), (5, .val aa i)], mkH 0 []⟩
theorem afu (fuel n6 : Nat) : HN fuel (n6 + 1) = Xa true (sm W7) (HN fuel n6) := by kernel_rfl
theorem afv : ∀ n, HN FU n = mp3 W7 (W9 n) := ba (by kernel_rfl) fun n6 _ h => (afu FU n6).trans (by rw [h]; funext _ _ _; simp only [Xa, HP, Xb, ss])
theorem ak9 : ap Tryz.prog 123 (aiG) := evX Tryz.func123 (S := aiH) aN (ah ⟨aiQ, alb, alB, trivial⟩) (tys := [.str]) (fun fuel x => afr true (sm W7) (HN fuel fuel) x.1) (fun x => by show _ = Option.map W7 _; rw [afv FU]; simp only [afr, Rh, HP, Xb, ss])
def ggG (d : Nat) (x0 : Tree) : Bool := (yh d x0).isSome
def ggF (d : Nat) (x0 : Tree) : Bool := (yh d x0).getD (zero .bool)
def ffG (d : Nat) (x0 : Tree) : Bool := (vH d x0).isSome
def ffF (d : Nat) (x0 : Tree) : Int := (vH d x0).getD (zero aa)
def glG (x0 : Tree) : Bool := (Rh x0).isSome
def glF (x0 : Tree) : Str := (Rh x0).getD (zero .str)
def afp (m : Bool) {β : Type} (K : Bool → Option β) (t : Tree) : Option β := (cl m .bool (Rj (te t)) fun r1 => (nm m 1 r1 (ggG FD (te t)) (nq m [1] r1 (nm m 1 (bif r1 then (ggF FD (te t)) else false) (ffG FD (te t)) (nq m [2, 1] (bif r1 then (ggF FD (te t)) else false) (nm m 1 (bif (bif r1 then (ggF FD (te t)) else false) then (decide ((ffF FD (te t)) ≤ 40)) else false) (glG (te t)) (nq m [2, 2, 1] (bif (bif r1 then (ggF FD (te t)) else false) then (decide ((ffF FD (te t)) ≤ 40)) else false) (K (bif (bif (bif r1 then (ggF FD (te t)) else false) then (decide ((ffF FD (te t)) ≤ 40)) else false) then (decide ((il (glF (te t))) ≤ 4096)) else false)))))))))
def Rg (t : Tree) : Option Bool := afp false some t
def afq (r : Bool) : AV := .val .bool r
def aiF : Ent := evE (.cons .tree .unit) afq (zero .bool) (fun x => Rg x.1)
def ak8 : Par := ⟨bm.tab, (av [(121, afT), (122, aa6 FD), (106, YV FD), (123, aiG)]), (fun _ => ak []), (fun _ => ak [])⟩
theorem ak7 : ap Tryz.prog 99 (aiF) := evX Tryz.func99 (S := ak8) aN (ah ⟨aiQ, (alj FD), (ajO FD), ak9, trivial⟩) (tys := [.bool]) (fun fuel x => afp true (sm afq) x.1) (fun x => by show _ = Option.map afq _; simp only [afp, Rg, ss])
abbrev W6 := Tree → Option Int
abbrev Ch (β : Type) := Tree → Int → Int → Option β
def W4 (m : Bool) {β : Type} (c_gn : W6) (K : Int → Option β) (k_l3 : Ch β) : Ch β := fun t t3 i => (bif (decide (i < (il t.kids))) then (ck (bd i t.kids.length) (cl m aa (c_gn (ix .tree t.kids i)) fun r1 => (fz m aa (w64 (t3 + r1)) fun y1_ => (fz m aa (w64 (i + 1)) fun y2_ => (k_l3 t y1_ y2_))))) else (K t3))
def afm (m : Bool) {β : Type} (c_gn : W6) (K : Int → Option β) (k_l3 : Ch β) (t : Tree) : Option β := (k_l3 t 1 0)
def W3 (c_gn : W6) : Nat → Ch Int := lp (fun _ _ _ => none) fun k_l3 => W4 false c_gn some k_l3
def OW (c_gn : W6) (t : Tree) : Option Int := afm false c_gn some (W3 c_gn FU) t
def W1 (r : Int) : AV := .val aa r
def Fw : Nat → W6
 | 0 => (fun _ => none)
 | d + 1 => (fun t => OW ((Fw d)) t)
def ye (d : Nat) (t : Tree) : Option Int := Fw d t
theorem ak5 (d : Nat) (t : Tree) : ye (d + 1) t = OW (ye d) t := rfl
def W5 (d : Nat) : Ent := evE (.cons .tree .unit) W1 (zero aa) (fun x => ye d x.1)
def W2 : MS := ⟨1, [(0, [.dat aa, .dat .str, .dat (.slice .str), .dat (.slice .tree)])], [(1, .keep), (3, .dat aa), (4, .dat aa)]⟩
def aiD (d : Nat) : Par := ⟨bm.tab, (av [(49, W5 d)]), (fun _ => ak []), (fun _ => ak [(3, W2)])⟩
def ak6 : KT := aB bm.tab [.tmp 2] [aa]
def aiE (d : Nat) (fuel lo : Nat) (p : List Nat) : Sg → KT → Option AV := xc (aH fi0 hs0 fuel 0) (aiD d) lo fuel (sub ((Tryz.f49.body).getD .skip) p)
def HM (d : Nat) (fuel n : Nat) : Ch AV := fun t t3 i => aD 0 W2 (aiE d fuel 0 [1, 1, 0, 1, 0, 0]) (ai 0 (ax 0 none (aiE d fuel 0 [1, 1, 1]) ak6)) n ⟨mkE 21 [(1, .box 0 0), (3, .val aa t3), (4, .val aa i)], mkH 1 [(0, .box [.val aa t.kind, .val .str t.text, .val (.slice .str) t.leads, .val (.slice .tree) t.kids])]⟩
theorem afn (d : Nat) (fuel n3 : Nat) : HM d fuel (n3 + 1) = W4 true (ye d) (sm W1) (HM d fuel n3) := by kernel_rfl
theorem afo (d : Nat) : ∀ n, HM d FU n = mp3 W1 (W3 (ye d) n) := ba (by kernel_rfl) fun n3 _ h => (afn d FU n3).trans (by rw [h]; funext _ _ _; simp only [W4, ss])
theorem Fx : ∀ d, (ap Tryz.prog 49 (W5 d)) ∧ True
 | 0 => ⟨p7 fun _ => rfl, trivial⟩
 | d + 1 => by
  have ih := Fx d
  exact ⟨evX Tryz.func49 (S := (aiD d)) aN (ah ⟨ih.1, trivial⟩) (tys := [aa]) (fun fuel x => afm true (ye d) (sm W1) (HM d fuel fuel) x.1) (fun x => by show _ = Option.map W1 _; rw [afo d FU]; simp only [afm, ak5, OW, ss]), trivial⟩
theorem aiC (d : Nat) : ap Tryz.prog 49 (W5 d) := (Fx d).1
abbrev W0 := (List (List Int)) → Tree → (List Int) → Option (List (List Int))
abbrev WZ := (List (List Int))
abbrev Cf (β : Type) := (List Int) → (List (List Int)) → Int → Int → Str → (List Str) → (List Tree) → Option β
def WY (m : Bool) {β : Type} (c_go : W0) (K : WZ → Option β) (k_l3 : Cf β) : Cf β := fun path l i b1_0 b1_1 b1_2 b1_3 => (bif (decide (i < (il b1_3))) then (ck (bd i b1_3.length) (ck (lm (List.length ([] : List Int) + List.length path)) (ck (lm (List.length ([] ++ path) + List.length ([i] : List Int))) (cl m (.slice (.slice aa)) (c_go l (ix .tree b1_3 i) (([] ++ path) ++ [i])) fun r1 => (fz m aa (w64 (i + 1)) fun y2_ => (k_l3 path r1 y2_ b1_0 b1_1 b1_2 b1_3)))))) else (K l))
def afj (m : Bool) {β : Type} (c_go : W0) (K : WZ → Option β) (k_l3 : Cf β) (l : (List (List Int))) (t : Tree) (path : (List Int)) : Option β := (ck (lm (List.length l + List.length ([path] : List (List Int)))) (fz m (.slice (.slice aa)) (l ++ [path]) fun y1_ => (fz m aa (t.kind) fun y3_ => (fz m .str (t.text) fun y4_ => (fz m (.slice .str) (t.leads) fun y5_ => (fz m (.slice .tree) (t.kids) fun y6_ => (k_l3 path y1_ 0 y3_ y4_ y5_ y6_)))))))
def WX (c_go : W0) : Nat → Cf WZ := lp (fun _ _ _ _ _ _ _ => none) fun k_l3 => WY false c_go some k_l3
def OV (c_go : W0) (l : (List (List Int))) (t : Tree) (path : (List Int)) : Option WZ := afj false c_go some (WX c_go FU) l t path
def aa1 (r : WZ) : AV := .val (.slice (.slice aa)) r
def Cu : Nat → W0
 | 0 => (fun _ _ _ => none)
 | d + 1 => (fun l t path => OV ((Cu d)) l t path)
def Cg (d : Nat) (l : (List (List Int))) (t : Tree) (path : (List Int)) : Option (List (List Int)) := Cu d l t path
theorem ak3 (d : Nat) (l : (List (List Int))) (t : Tree) (path : (List Int)) : Cg (d + 1) l t path = OV (Cg d) l t path := rfl
def aa0 (d : Nat) : Rw := rwE (.slice aa) (.cons .tree (.cons (.slice aa) .unit)) 23 (fun l x => Cg d l x.1 x.2.1)
def WW : MS := ⟨2, [(1, [.dat aa, .dat .str, .dat (.slice .str), .dat (.slice .tree)])], [(0, .own (.slice aa) 23), (2, .dat (.slice aa)), (4, .keep), (7, .dat aa)]⟩
def aiA (d : Nat) : Par := ⟨bm.tab, (bQ [] [] [] [(100, aa0 d)] []), (fun _ => ak []), (fun _ => ak [(3, WW)])⟩
def ak4 : KT := wt bm.tab [.tmp 6] (.slice aa) 23
def aiB (d : Nat) (fuel lo : Nat) (p : List Nat) : Sg → KT → Option AV := xc (aH fi0 hs0 fuel 0) (aiA d) lo fuel (sub ((Tryz.f100.body).getD .skip) p)
def HL (d : Nat) (fuel n : Nat) : Cf AV := fun path l i b1_0 b1_1 b1_2 b1_3 => aD 0 WW (aiB d fuel 0 [1, 1, 0, 1, 0, 0]) (ai 0 (ax 0 none (aiB d fuel 0 [1, 1, 1]) ak4)) n ⟨mkE 33 [(0, .own 2 0 (.slice aa) l), (2, .val (.slice aa) path), (4, .box 1 0), (7, .val aa i)], mkH 3 [(0, .row (.slice aa) 23 2), (1, .box [.val aa b1_0, .val .str b1_1, .val (.slice .str) b1_2, .val (.slice .tree) b1_3]), (2, .row (.slice aa) 23 0)]⟩
theorem afk (d : Nat) (fuel n3 : Nat) : HL d fuel (n3 + 1) = WY true (Cg d) (sm aa1) (HL d fuel n3) := by kernel_rfl
theorem afl (d : Nat) : ∀ n, HL d FU n = mp7 aa1 (WX (Cg d) n) := ba (by kernel_rfl) fun n3 _ h => (afk d FU n3).trans (by rw [h]; funext _ _ _ _ _ _ _; simp only [WY, ss])
theorem Cv : ∀ d, (kK Tryz.prog 100 (aa0 d)) ∧ True
 | 0 => ⟨AA fun _ _ => rfl, trivial⟩
 | d + 1 => by
  have ih := Cv d
  exact ⟨rwX Tryz.func100 (S := (aiA d)) aN (aW trivial trivial trivial ⟨ih.1, trivial⟩ trivial) (fun fuel p x => afj true (Cg d) (sm aa1) (HL d fuel fuel) p x.1 x.2.1) (fun p x => by show _ = Option.map aa1 _; rw [afl d FU]; simp only [afj, ak3, OV, ss]), trivial⟩
theorem ak2 (d : Nat) : kK Tryz.prog 100 (aa0 d) := (Cv d).1
abbrev afi := (List (List Int))
def afg (m : Bool) {β : Type} (K : afi → Option β) (t : Tree) : Option β := (cl m (.slice (.slice aa)) (Cg FD [] (te t) []) fun r1 => (K r1))
def WV (t : Tree) : Option afi := afg false some t
def afh (r : afi) : AV := .val (.slice (.slice aa)) r
def aiz : Ent := evE (.cons .tree .unit) afh (zero (.slice (.slice aa))) (fun x => WV x.1)
def ak1 : Par := ⟨bm.tab, (bQ [] [] [] [(100, aa0 FD)] []), (fun _ => ak []), (fun _ => ak [])⟩
theorem ak0 : ap Tryz.prog 50 (aiz) := evX Tryz.func50 (S := ak1) aN (aW trivial trivial trivial ⟨(ak2 FD), trivial⟩ trivial) (tys := [(.slice (.slice aa))]) (fun fuel x => afg true (sm afh) x.1) (fun x => by show _ = Option.map afh _; simp only [afg, WV, ss])
abbrev WU := (Ty.den (.cons .tree (.cons .bool .unit)))
abbrev Ce (β : Type) := (List Int) → Int → Int → Str → (List Str) → (List Tree) → Option β
def WT (m : Bool) {β : Type} (K : WU → Option β) (k_l2 : Ce β) : Ce β := fun path i b0_0 b0_1 b0_2 b0_3 => (bif (decide (i < (il path))) then (ck (bd i path.length) (nm m 2 (!(decide ((ix aa path i) < 0))) (bd i path.length) (nq m [2, 2, 2, 3, 0] (!(decide ((ix aa path i) < 0))) (bif (bif (decide ((ix aa path i) < 0)) then true else (decide ((ix aa path i) ≥ (il b0_3)))) then (K ((Tree.mk 0 [] [] []), false, ())) else (ck (bd i path.length) (ck (bd (ix aa path i) b0_3.length) (fz m aa (w64 (i + 1)) fun y1_ => (fz m aa ((ix .tree b0_3 (ix aa path i)).kind) fun y2_ => (fz m .str ((ix .tree b0_3 (ix aa path i)).text) fun y3_ => (fz m (.slice .str) ((ix .tree b0_3 (ix aa path i)).leads) fun y4_ => (fz m (.slice .tree) ((ix .tree b0_3 (ix aa path i)).kids) fun y5_ => (k_l2 path y1_ y2_ y3_ y4_ y5_)))))))))))) else (K ((Tree.mk b0_0 b0_1 b0_2 b0_3), true, ())))
def afd (m : Bool) {β : Type} (K : WU → Option β) (k_l2 : Ce β) (t : Tree) (path : (List Int)) : Option β := (fz m aa (t.kind) fun y2_ => (fz m .str (t.text) fun y3_ => (fz m (.slice .str) (t.leads) fun y4_ => (fz m (.slice .tree) (t.kids) fun y5_ => (k_l2 path 0 y2_ y3_ y4_ y5_)))))
def WS : Nat → Ce WU := lp (fun _ _ _ _ _ _ => none) fun k_l2 => WT false some k_l2
def sf (t : Tree) (path : (List Int)) : Option WU := afd false some (WS FU) t path
def WQ (r : WU) : AV := .tup (bh [.val .tree r.1, .val .bool r.2.1])
def TF : Ent := evE (.cons .tree (.cons (.slice aa) .unit)) WQ (zero (.cons .tree (.cons .bool .unit))) (fun x => sf x.1 x.2.1)
def WR : MS := ⟨2, [(0, [.dat aa, .dat .str, .dat (.slice .str), .dat (.slice .tree)]), (1, [.dat aa, .dat .str, .own .str 9, .own .tree 105])], [(1, .dat (.slice aa)), (2, .keep), (4, .keep), (6, .dat aa)]⟩
def aix : Par := ⟨bm.tab, (av []), (fun _ => ak []), (fun _ => ak [(2, WR)])⟩
def akZ : KT := aB bm.tab [.cell 4 105, .tmp 5] [.tree, .bool]
def aiy (fuel lo : Nat) (p : List Nat) : Sg → KT → Option AV := xc (aH fi0 hs0 fuel 0) aix lo fuel (sub ((Tryz.f51.body).getD .skip) p)
def HK (fuel n : Nat) : Ce AV := fun path i b0_0 b0_1 b0_2 b0_3 => aD 0 WR (aiy fuel 0 [1, 0, 1, 0, 0]) (ai 0 (ax 0 none (aiy fuel 0 [1, 1]) akZ)) n ⟨mkE 38 [(1, .val (.slice aa) path), (2, .box 0 0), (4, .box 1 0), (6, .val aa i)], mkH 4 [(0, .box [.val aa b0_0, .val .str b0_1, .val (.slice .str) b0_2, .val (.slice .tree) b0_3]), (1, .box [.val aa (0 : Int), .val .str [], .own 2 0 .str [], .own 3 0 .tree []]), (2, .row .str 9 0), (3, .row .tree 105 0)]⟩
theorem afe (fuel n2 : Nat) : HK fuel (n2 + 1) = WT true (sm WQ) (HK fuel n2) := by kernel_rfl
theorem aff : ∀ n, HK FU n = mp6 WQ (WS n) := ba (by kernel_rfl) fun n2 _ h => (afe FU n2).trans (by rw [h]; funext _ _ _ _ _ _; simp only [WT, ss])
theorem WO : ap Tryz.prog 51 (TF) := evX Tryz.func51 (S := aix) aN (ah trivial) (tys := [.tree, .bool]) (fun fuel x => afd true (sm WQ) (HK fuel fuel) x.1 x.2.1) (fun x => by show _ = Option.map WQ _; rw [aff FU]; simp only [afd, sf, ss])
abbrev sQ (β : Type) := (List Int) → Int → Int → Int → Str → (List Str) → (List Tree) → Option β
abbrev Cb (β : Type) := (List Int) → Int → Int → Str → (List Str) → (List Tree) → Int → Int → Option β
def WN (m : Bool) {β : Type} (K : Int → Option β) (k_l9 : Cb β) : sQ β := fun path t5 i b0_0 b0_1 b0_2 b0_3 => (bif (decide (i < (il path))) then (ck (bd i path.length) (nm m 2 (!(decide ((ix aa path i) < 0))) (bd i path.length) (nq m [2, 2, 2, 3, 0] (!(decide ((ix aa path i) < 0))) (bif (bif (decide ((ix aa path i) < 0)) then true else (decide ((ix aa path i) ≥ (il b0_3)))) then (K (-1)) else (fz m aa (w64 (t5 + 1)) fun y6_ => (k_l9 path i b0_0 b0_1 b0_2 b0_3 y6_ 0)))))) else (K t5))
def WL (m : Bool) {β : Type} (K : Int → Option β) (k_l9 : Cb β) (k_l3 : sQ β) : Cb β := fun path i b0_0 b0_1 b0_2 b0_3 t5 t7 => (ck (bd i path.length) (bif (decide (t7 < (ix aa path i))) then (ck (bd t7 b0_3.length) (cl m aa (ye FD (ix .tree b0_3 t7)) fun r1 => (fz m aa (w64 (t5 + r1)) fun y6_ => (fz m aa (w64 (t7 + 1)) fun y7_ => (k_l9 path i b0_0 b0_1 b0_2 b0_3 y6_ y7_))))) else (ck (bd i path.length) (ck (bd (ix aa path i) b0_3.length) (fz m aa (w64 (i + 1)) fun y2_ => (fz m aa ((ix .tree b0_3 (ix aa path i)).kind) fun y3_ => (fz m .str ((ix .tree b0_3 (ix aa path i)).text) fun y4_ => (fz m (.slice .str) ((ix .tree b0_3 (ix aa path i)).leads) fun y5_ => (fz m (.slice .tree) ((ix .tree b0_3 (ix aa path i)).kids) fun y6_ => (k_l3 path t5 y2_ y3_ y4_ y5_ y6_))))))))))
def ae8 (m : Bool) {β : Type} (K : Int → Option β) (k_l3 : sQ β) (t : Tree) (path : (List Int)) : Option β := (fz m aa (t.kind) fun y3_ => (fz m .str (t.text) fun y4_ => (fz m (.slice .str) (t.leads) fun y5_ => (fz m (.slice .tree) (t.kids) fun y6_ => (k_l3 path 0 0 y3_ y4_ y5_ y6_)))))
def WK (k_l3 : sQ Int) : Nat → Cb Int := lp (fun _ _ _ _ _ _ _ _ => none) fun k_l9 => WL false some k_l9 k_l3
def WM : Nat → sQ Int := lp (fun _ _ _ _ _ _ _ => none) fun k_l3 => WN false some (WK k_l3 FU)
def Cd (t : Tree) (path : (List Int)) : Option Int := ae8 false some (WM FU) t path
def LW (r : Int) : AV := .val aa r
def aaZ : Ent := evE (.cons .tree (.cons (.slice aa) .unit)) LW (zero aa) (fun x => Cd x.1 x.2.1)
def OT : MS := ⟨1, [(0, [.dat aa, .dat .str, .dat (.slice .str), .dat (.slice .tree)])], [(1, .dat (.slice aa)), (2, .keep), (5, .dat aa), (6, .dat aa)]⟩
def WJ : MS := ⟨1, [(0, [.dat aa, .dat .str, .dat (.slice .str), .dat (.slice .tree)])], [(1, .dat (.slice aa)), (2, .keep), (5, .dat aa), (6, .dat aa), (7, .dat aa)]⟩
def aiv : Par := ⟨bm.tab, (av [(49, W5 FD)]), (fun _ => ak []), (fun _ => ak [(3, OT), (9, WJ)])⟩
def aiw : KT := aB bm.tab [.tmp 4] [aa]
def OU (fuel lo : Nat) (p : List Nat) : Sg → KT → Option AV := xc (aH fi0 hs0 fuel 0) aiv lo fuel (sub ((Tryz.f101.body).getD .skip) p)
def Cc (fuel n : Nat) : sQ AV := fun path t5 i b0_0 b0_1 b0_2 b0_3 => aD 0 OT (OU fuel 0 [1, 1, 0, 1, 0, 0]) (ai 0 (ax 0 none (OU fuel 0 [1, 1, 1]) aiw)) n ⟨mkE 56 [(1, .val (.slice aa) path), (2, .box 0 0), (5, .val aa t5), (6, .val aa i)], mkH 1 [(0, .box [.val aa b0_0, .val .str b0_1, .val (.slice .str) b0_2, .val (.slice .tree) b0_3])]⟩
def HJ (fuel n3 n : Nat) : Cb AV := fun path i b0_0 b0_1 b0_2 b0_3 t5 t7 => aD 0 WJ (OU fuel 0 [1, 1, 0, 1, 0, 0, 1, 0, 0, 1, 1, 0, 1, 0, 0]) (ai 2 (ax 0 none (OU fuel 0 [1, 1, 0, 1, 0, 0, 1, 0, 0, 1, 1, 1]) (ai 1 (ax 0 none (OU fuel 0 [1, 1, 0, 1, 0, 0, 1, 1]) (kLp 0 OT (OU fuel 0 [1, 1, 0, 1, 0, 0]) (ai 0 (ax 0 none (OU fuel 0 [1, 1, 1]) aiw)) n3))))) n ⟨mkE 56 [(1, .val (.slice aa) path), (2, .box 0 0), (5, .val aa t5), (6, .val aa i), (7, .val aa t7)], mkH 1 [(0, .box [.val aa b0_0, .val .str b0_1, .val (.slice .str) b0_2, .val (.slice .tree) b0_3])]⟩
theorem afb (fuel n3 : Nat) : Cc fuel (n3 + 1) = WN true (sm LW) (HJ fuel n3 fuel) := by kernel_rfl
theorem ae9 (fuel n3 n9 : Nat) : HJ fuel n3 (n9 + 1) = WL true (sm LW) (HJ fuel n3 n9) (Cc fuel n3) := by kernel_rfl
theorem afa (n3 : Nat) {k_l3 : sQ Int} (h_l3 : Cc FU n3 = mp7 LW k_l3) : ∀ n, HJ FU n3 n = mp8 LW (WK k_l3 n) := ba (by kernel_rfl) fun n9 _ h => (ae9 FU n3 n9).trans (by rw [h, h_l3]; funext _ _ _ _ _ _ _ _; simp only [WL, ss])
theorem afc : ∀ n, Cc FU n = mp7 LW (WM n) := ba (by kernel_rfl) fun n3 _ h => (afb FU n3).trans (by rw [afa n3 h FU]; funext _ _ _ _ _ _ _; simp only [WN, ss])
theorem ae7 : ap Tryz.prog 101 (aaZ) := evX Tryz.func101 (S := aiv) aN (ah ⟨(aiC FD), trivial⟩) (tys := [aa]) (fun fuel x => ae8 true (sm LW) (Cc fuel fuel) x.1 x.2.1) (fun x => by show _ = Option.map LW _; rw [afc FU]; simp only [ae8, Cd, ss])
def gdG (d : Nat) (x0 : Tree) : Bool := (vi d x0).isSome
def gdF (d : Nat) (x0 : Tree) : Bool := (vi d x0).getD (zero .bool)
def ae5 (m : Bool) {β : Type} (K : Bool → Option β) (f : Tree) : Option β := (nm m 1 (decide (f.kind = 2)) (gdG FD (te f)) (nq m [1] (decide (f.kind = 2)) (K (bif (decide (f.kind = 2)) then (gdF FD (te f)) else false))))
def WI (f : Tree) : Option Bool := ae5 false some f
def ae6 (r : Bool) : AV := .val .bool r
def aiu : Ent := evE (.cons .tree .unit) ae6 (zero .bool) (fun x => WI x.1)
def akY : Par := ⟨bm.tab, (av [(164, XD FD)]), (fun _ => ak []), (fun _ => ak [])⟩
theorem akX : ap Tryz.prog 168 (aiu) := evX Tryz.func168 (S := akY) aN (ah ⟨(aiT FD), trivial⟩) (tys := [.bool]) (fun fuel x => ae5 true (sm ae6) x.1) (fun x => by show _ = Option.map ae6 _; simp only [ae5, WI, ss])
abbrev LV := (List (List Int))
abbrev wT (β : Type) := (List Int) → Tree → (List (List Int)) → Int → Option β
abbrev ae1 (β : Type) := (List Int) → Tree → Int → (List (List Int)) → Option β
abbrev vg (β : Type) := Tree → (List (List Int)) → Int → Option β
def LU (m : Bool) {β : Type} (K : LV → Option β) (k_l7 : wT β) : ae1 β := fun path f t9 l => (fz m aa (w64 (t9 - 1)) fun y3_ => (k_l7 path f l y3_))
def WG (m : Bool) {β : Type} (K : LV → Option β) (k_l7 : wT β) (k_l13 : vg β) : wT β := fun path f l t9 => (bif (decide (t9 > 0)) then (ck (decide (0 ≤ (w64 (t9 - 1))) && decide ((w64 (t9 - 1)) ≤ (path.length : Int))) (cl m (.cons .tree (.cons .bool .unit)) (sf (te f) ((List.take (Int.toNat (w64 (t9 - 1))) path).drop 0)) fun r2 => (nq m [2] (decide (r2.1.kind = 20)) (nm m 2 (decide (r2.1.kind = 20)) (bd (w64 (t9 - 1)) path.length) (nq m [2, 2, 1] (decide (r2.1.kind = 20)) (bif (bif (decide (r2.1.kind = 20)) then (decide ((ix aa path (w64 (t9 - 1))) = 1)) else false) then (ck (decide (0 ≤ (w64 (t9 - 1))) && decide ((w64 (t9 - 1)) ≤ (path.length : Int))) (ck (lm (List.length l + List.length ([((List.take (Int.toNat (w64 (t9 - 1))) path).drop 0)] : List (List Int)))) (fz m (.slice (.slice aa)) (l ++ [((List.take (Int.toNat (w64 (t9 - 1))) path).drop 0)]) fun y3_ => (LU m K k_l7 path f t9 y3_)))) else (LU m K k_l7 path f t9 l))))))) else (k_l13 f l 0))
def OS (m : Bool) {β : Type} (K : LV → Option β) (k_l13 : vg β) : vg β := fun f l i => (bif (decide (i < (w64 ((il f.kids) - 2)))) then (ck (lm (List.length l + List.length ([[i]] : List (List Int)))) (fz m (.slice (.slice aa)) (l ++ [[i]]) fun y1_ => (fz m aa (w64 (i + 1)) fun y2_ => (k_l13 f y1_ y2_)))) else (K l))
def ae0 (m : Bool) {β : Type} (K : LV → Option β) (k_l7 : wT β) (f : Tree) (path : (List Int)) : Option β := (cl m (.cons .tree (.cons .bool .unit)) (sf (te f) path) fun r1 => (nq m [2, 2, 0] (!(!r1.2.1)) (nm m 1 (!(bif (!r1.2.1) then true else (decide ((il path) = 0)))) (bd 0 path.length) (nq m [2, 2, 3, 0] (!(bif (!r1.2.1) then true else (decide ((il path) = 0)))) (bif (bif (bif (!r1.2.1) then true else (decide ((il path) = 0))) then true else (!decide ((ix aa path 0) = (w64 ((il f.kids) - 1))))) then (K []) else (fz m aa (il path) fun y3_ => (k_l7 path f [] y3_)))))))
def Rf : Nat → vg LV := lp (fun _ _ _ => none) fun k_l13 => OS false some k_l13
def WF : Nat → wT LV := lp (fun _ _ _ _ => none) fun k_l7 => WG false some k_l7 (Rf FU)
def WH (f : Tree) (path : (List Int)) : Option LV := ae0 false some (WF FU) f path
def OR (r : LV) : AV := .val (.slice (.slice aa)) r
def air : Ent := evE (.cons .tree (.cons (.slice aa) .unit)) OR (zero (.slice (.slice aa))) (fun x => WH x.1 x.2.1)
def WE : MS := ⟨1, [(0, [.dat aa, .dat .str, .dat (.slice .str), .dat (.slice .tree)])], [(1, .dat (.slice aa)), (2, .keep), (5, .dat aa), (8, .own (.slice aa) 23), (9, .dat aa)]⟩
def Re : MS := ⟨0, [], [(5, .dat aa), (8, .own (.slice aa) 23), (12, .dat aa)]⟩
def ae2 : MS := ⟨1, [(0, [.dat aa, .dat .str, .dat (.slice .str), .dat (.slice .tree)])], [(1, .dat (.slice aa)), (2, .keep), (5, .dat aa), (8, .own (.slice aa) 23), (9, .dat aa)]⟩
def ais : Par := ⟨bm.tab, (av [(51, TF)]), (fun _ => ak [(8, ae2)]), (fun _ => ak [(7, WE), (13, Re)])⟩
def ait : KT := aB bm.tab [.tmp 4] [(.slice (.slice aa))]
def aaY (fuel lo : Nat) (p : List Nat) : Sg → KT → Option AV := xc (aH fi0 hs0 fuel 0) ais lo fuel (sub ((Tryz.f169.body).getD .skip) p)
def HI (fuel n : Nat) : wT AV := fun path f l t9 => aD 0 WE (aaY fuel 0 [1, 1, 1, 1, 1, 0, 1, 0, 0]) (ai 0 (ax 0 none (aaY fuel 0 [1, 1, 1, 1, 1, 1]) ait)) n ⟨mkE 82 [(1, .val (.slice aa) path), (2, .box 0 0), (5, .val aa (il f.kids)), (8, .own 1 0 (.slice aa) l), (9, .val aa t9)], mkH 2 [(0, .box [.val aa f.kind, .val .str f.text, .val (.slice .str) f.leads, .val (.slice .tree) f.kids]), (1, .row (.slice aa) 23 0)]⟩
def zb (fuel n : Nat) : vg AV := fun f l i => aD 0 Re (aaY fuel 0 [1, 1, 1, 1, 1, 1, 0, 1, 0, 0]) (ai 2 (ax 0 none (aaY fuel 0 [1, 1, 1, 1, 1, 1, 1]) ait)) n ⟨mkE 82 [(5, .val aa (il f.kids)), (8, .own 0 0 (.slice aa) l), (12, .val aa i)], mkH 1 [(0, .row (.slice aa) 23 0)]⟩
theorem ae3 (fuel n7 : Nat) : HI fuel (n7 + 1) = WG true (sm OR) (HI fuel n7) (zb fuel fuel) := by kernel_rfl
theorem aaW (fuel n13 : Nat) : zb fuel (n13 + 1) = OS true (sm OR) (zb fuel n13) := by kernel_rfl
theorem aaX : ∀ n, zb FU n = mp3 OR (Rf n) := ba (by kernel_rfl) fun n13 _ h => (aaW FU n13).trans (by rw [h]; funext _ _ _; simp only [OS, LU, ss])
theorem ae4 : ∀ n, HI FU n = mp4 OR (WF n) := ba (by kernel_rfl) fun n7 _ h => (ae3 FU n7).trans (by rw [h, aaX FU]; funext _ _ _ _; simp only [WG, LU, ss])
theorem akW : ap Tryz.prog 169 (air) := evX Tryz.func169 (S := ais) aN (ah ⟨WO, trivial⟩) (tys := [(.slice (.slice aa))]) (fun fuel x => ae0 true (sm OR) (HI fuel fuel) x.1 x.2.1) (fun x => by show _ = Option.map OR _; rw [ae4 FU]; simp only [ae0, WH, LU, ss])
abbrev WD := (Ty.den (.cons (.slice aa) (.cons .bool .unit)))
abbrev Ca (β : Type) := Str → (List (List Int)) → Tree → Int → Option β
def WB (m : Bool) {β : Type} (K : WD → Option β) (k_l5 : Ca β) : Ca β := fun name r2 f i => (bif (decide (i < (il r2))) then (ck (bd i r2.length) (cl m (.cons .tree (.cons .bool .unit)) (sf (te f) (ix (.slice aa) r2 i)) fun r3 => (bif (decide (r3.1.text = name)) then (ck (bd i r2.length) (ck (lm (List.length ([] : List Int) + List.length (ix (.slice aa) r2 i))) (K (([] ++ (ix (.slice aa) r2 i)), true, ())))) else (fz m aa (w64 (i + 1)) fun y3_ => (k_l5 name r2 f y3_))))) else (K ([], false, ())))
def aeX (m : Bool) {β : Type} (K : WD → Option β) (k_l5 : Ca β) (f : Tree) (path : (List Int)) (name : Str) : Option β := (cl m .bool (WI (te f)) fun r1 => (bif (!r1) then (K ([], false, ())) else (cl m (.slice (.slice aa)) (WH (te f) path) fun r2 => (k_l5 name r2 f 0))))
def WA : Nat → Ca WD := lp (fun _ _ _ _ => none) fun k_l5 => WB false some k_l5
def WC (f : Tree) (path : (List Int)) (name : Str) : Option WD := aeX false some (WA FU) f path name
def Wy (r : WD) : AV := .tup (bh [.val (.slice aa) r.1, .val .bool r.2.1])
def aio : Ent := evE (.cons .tree (.cons (.slice aa) (.cons .str .unit))) Wy (zero (.cons (.slice aa) (.cons .bool .unit))) (fun x => WC x.1 x.2.1 x.2.2.1)
def Wz : MS := ⟨1, [(0, [.dat aa, .dat .str, .dat (.slice .str), .dat (.slice .tree)])], [(2, .dat .str), (3, .keep), (8, .dat (.slice (.slice aa))), (9, .dat aa)]⟩
def aip : Par := ⟨bm.tab, (av [(168, aiu), (169, air), (51, TF)]), (fun _ => ak []), (fun _ => ak [(5, Wz)])⟩
def akV : KT := aB bm.tab [.tmp 6, .tmp 7] [(.slice aa), .bool]
def aiq (fuel lo : Nat) (p : List Nat) : Sg → KT → Option AV := xc (aH fi0 hs0 fuel 0) aip lo fuel (sub ((Tryz.f124.body).getD .skip) p)
def HH (fuel n : Nat) : Ca AV := fun name r2 f i => aD 0 Wz (aiq fuel 0 [1, 1, 1, 0, 1, 0, 0]) (ai 0 (ax 0 none (aiq fuel 0 [1, 1, 1, 1]) akV)) n ⟨mkE 43 [(2, .val .str name), (3, .box 0 0), (8, .val (.slice (.slice aa)) r2), (9, .val aa i)], mkH 1 [(0, .box [.val aa f.kind, .val .str f.text, .val (.slice .str) f.leads, .val (.slice .tree) f.kids])]⟩
theorem aeY (fuel n5 : Nat) : HH fuel (n5 + 1) = WB true (sm Wy) (HH fuel n5) := by kernel_rfl
theorem aeZ : ∀ n, HH FU n = mp4 Wy (WA n) := ba (by kernel_rfl) fun n5 _ h => (aeY FU n5).trans (by rw [h]; funext _ _ _ _; simp only [WB, ss])
theorem akU : ap Tryz.prog 124 (aio) := evX Tryz.func124 (S := aip) aN (ah ⟨akX, akW, WO, trivial⟩) (tys := [(.slice aa), .bool]) (fun fuel x => aeX true (sm Wy) (HH fuel fuel) x.1 x.2.1 x.2.2.1) (fun x => by show _ = Option.map Wy _; rw [aeZ FU]; simp only [aeX, WC, ss])
abbrev B9 (β : Type) := Str → Int → Option β
def Ww (m : Bool) {β : Type} (K : Int → Option β) (k_l2 : B9 β) : B9 β := fun s i => (bif (decide (i < (il s))) then (ck (bd i s.length) (bif (decide ((ixs s i) = 46)) then (K i) else (fz m aa (w64 (i + 1)) fun y1_ => (k_l2 s y1_)))) else (K (-1)))
def aeU (m : Bool) {β : Type} (K : Int → Option β) (k_l2 : B9 β) (s : Str) : Option β := (k_l2 s 0)
def Wv : Nat → B9 Int := lp (fun _ _ => none) fun k_l2 => Ww false some k_l2
def Wx (s : Str) : Option Int := aeU false some (Wv FU) s
def Wt (r : Int) : AV := .val aa r
def ail : Ent := evE (.cons .str .unit) Wt (zero aa) (fun x => Wx x.1)
def Wu : MS := ⟨0, [], [(0, .dat .str), (3, .dat aa)]⟩
def aim : Par := ⟨bm.tab, (av []), (fun _ => ak []), (fun _ => ak [(2, Wu)])⟩
def akT : KT := aB bm.tab [.tmp 2] [aa]
def ain (fuel lo : Nat) (p : List Nat) : Sg → KT → Option AV := xc (aH fi0 hs0 fuel 0) aim lo fuel (sub ((Tryz.f170.body).getD .skip) p)
def HG (fuel n : Nat) : B9 AV := fun s i => aD 0 Wu (ain fuel 0 [1, 0, 1, 0, 0]) (ai 0 (ax 0 none (ain fuel 0 [1, 1]) akT)) n ⟨mkE 15 [(0, .val .str s), (3, .val aa i)], mkH 0 []⟩
theorem aeV (fuel n2 : Nat) : HG fuel (n2 + 1) = Ww true (sm Wt) (HG fuel n2) := by kernel_rfl
theorem aeW : ∀ n, HG FU n = mp2 Wt (Wv n) := ba (by kernel_rfl) fun n2 _ h => (aeV FU n2).trans (by rw [h]; funext _ _; simp only [Ww, ss])
theorem akS : ap Tryz.prog 170 (ail) := evX Tryz.func170 (S := aim) aN (ah trivial) (tys := [aa]) (fun fuel x => aeU true (sm Wt) (HG fuel fuel) x.1) (fun x => by show _ = Option.map Wt _; rw [aeW FU]; simp only [aeU, Wx, ss])
abbrev LR := (Ty.den (.cons aa (.cons aa (.cons .bool .unit))))
abbrev B8 (β : Type) := (List Tree) → Str → Int → Int → Option β
abbrev aeR (β : Type) := (List Tree) → Int → Str → Option β
abbrev oF (β : Type) := (List Tree) → Int → Str → Int → Option β
def LQ (m : Bool) {β : Type} (K : LR → Option β) (k_l10 : oF β) : aeR β := fun p t1 word => (k_l10 p t1 word 0)
def Wq (m : Bool) {β : Type} (K : LR → Option β) (k_l4 : B8 β) (k_l10 : oF β) : B8 β := fun p word r1 t10 => (nm m 2 (decide (t10 < (il p))) (bd t10 p.length) (nq m [2, 2] (decide (t10 < (il p))) (nm m 2 (decide (t10 < (il p))) (decide (0 ≤ r1) && decide (r1 ≤ (word.length : Int))) (nq m [3, 1] (decide (t10 < (il p))) (bif (bif (decide (t10 < (il p))) then (!decide ((ix .tree p t10).text = ((List.take (Int.toNat r1) word).drop 0))) else false) then (fz m aa (w64 (t10 + 1)) fun y3_ => (k_l4 p word r1 y3_)) else (bif (decide (t10 = (il p))) then (K ((0 : Int), (0 : Int), false, ())) else (ck (decide (0 ≤ (w64 (r1 + 1))) && decide ((w64 (r1 + 1)) ≤ (word.length : Int))) (fz m .str ((List.take (List.length word) word).drop (Int.toNat (w64 (r1 + 1)))) fun y2_ => (LQ m K k_l10 p t10 y2_)))))))))
def OQ (m : Bool) {β : Type} (K : LR → Option β) (k_l10 : oF β) : oF β := fun p t1 word i => (ck (bd t1 p.length) (bif (decide (i < (il ((ix .tree p t1).kids)))) then (ck (bd t1 p.length) (ck (bd i ((ix .tree p t1).kids).length) (bif (decide ((ix .tree (ix .tree p t1).kids i).text = word)) then (K (t1, i, true, ())) else (fz m aa (w64 (i + 1)) fun y3_ => (k_l10 p t1 word y3_))))) else (K ((0 : Int), (0 : Int), false, ()))))
def aeQ (m : Bool) {β : Type} (K : LR → Option β) (k_l4 : B8 β) (k_l10 : oF β) (p : (List Tree)) (t1 : Int) (word : Str) : Option β := (cl m aa (Wx word) fun r1 => (bif (decide (r1 ≥ 0)) then (k_l4 p word r1 0) else (LQ m K k_l10 p t1 word)))
def HF : Nat → oF LR := lp (fun _ _ _ _ => none) fun k_l10 => OQ false some k_l10
def Wp : Nat → B8 LR := lp (fun _ _ _ _ => none) fun k_l4 => Wq false some k_l4 (HF FU)
def Rd (p : (List Tree)) (t1 : Int) (word : Str) : Option LR := aeQ false some (Wp FU) (HF FU) p t1 word
def OP (r : LR) : AV := .tup (bh [.val aa r.1, .val aa r.2.1, .val .bool r.2.2.1])
def aii : Ent := evE (.cons (.slice .tree) (.cons aa (.cons .str .unit))) OP (zero (.cons aa (.cons aa (.cons .bool .unit)))) (fun x => Rd x.1 x.2.1 x.2.2.1)
def Wn : MS := ⟨0, [], [(0, .dat (.slice .tree)), (2, .dat .str), (9, .dat aa), (10, .dat aa)]⟩
def Rb : MS := ⟨0, [], [(0, .dat (.slice .tree)), (1, .dat aa), (2, .dat .str), (11, .dat aa)]⟩
def Wo : MS := ⟨0, [], [(0, .dat (.slice .tree)), (1, .dat aa), (2, .dat .str)]⟩
def aij : Par := ⟨bm.tab, (av [(170, ail)]), (fun _ => ak [(9, Wo)]), (fun _ => ak [(4, Wn), (10, Rb)])⟩
def aik : KT := aB bm.tab [.tmp 6, .tmp 7, .tmp 8] [aa, aa, .bool]
def Ws (fuel lo : Nat) (p : List Nat) : Sg → KT → Option AV := xc (aH fi0 hs0 fuel 0) aij lo fuel (sub ((Tryz.f125.body).getD .skip) p)
def HE (fuel n : Nat) : B8 AV := fun p word r1 t10 => aD 0 Wn (Ws fuel 0 [1, 1, 0, 1, 0, 1, 0, 0, 0]) (ai 0 (ax 0 none (Ws fuel 0 [1, 1, 0, 1, 0, 1, 1]) (ax 0 (some Wo) (Ws fuel 0 [1, 1, 1]) aik))) n ⟨mkE 65 [(0, .val (.slice .tree) p), (2, .val .str word), (9, .val aa r1), (10, .val aa t10)], mkH 0 []⟩
def ve (fuel n : Nat) : oF AV := fun p t1 word i => aD 0 Rb (Ws fuel 0 [1, 1, 1, 0, 1, 0, 0]) (ai 2 (ax 0 none (Ws fuel 0 [1, 1, 1, 1]) aik)) n ⟨mkE 65 [(0, .val (.slice .tree) p), (1, .val aa t1), (2, .val .str word), (11, .val aa i)], mkH 0 []⟩
theorem aeS (fuel n4 : Nat) : HE fuel (n4 + 1) = Wq true (sm OP) (HE fuel n4) (ve fuel fuel) := by kernel_rfl
theorem aaV (fuel n10 : Nat) : ve fuel (n10 + 1) = OQ true (sm OP) (ve fuel n10) := by kernel_rfl
theorem Rc : ∀ n, ve FU n = mp4 OP (HF n) := ba (by kernel_rfl) fun n10 _ h => (aaV FU n10).trans (by rw [h]; funext _ _ _ _; simp only [OQ, LQ, ss])
theorem aeT : ∀ n, HE FU n = mp4 OP (Wp n) := ba (by kernel_rfl) fun n4 _ h => (aeS FU n4).trans (by rw [h, Rc FU]; funext _ _ _ _; simp only [Wq, LQ, ss])
theorem akR : ap Tryz.prog 125 (aii) := evX Tryz.func125 (S := aij) aN (ah ⟨akS, trivial⟩) (tys := [aa, aa, .bool]) (fun fuel x => aeQ true (sm OP) (HE fuel fuel) (ve fuel fuel) x.1 x.2.1 x.2.2.1) (fun x => by show _ = Option.map OP _; rw [aeT FU, Rc FU]; simp only [aeQ, Rd, LQ, ss])
def Am (m : Bool) {β : Type} (K : Bool → Option β) (id : Int) : Option β := (nq m [2, 1] (decide (id ≥ 1048576)) (K (bif (decide (id ≥ 1048576)) then (decide (id < 34603008)) else false)))
def mD (id : Int) : Option Bool := Am false some id
def An (r : Bool) : AV := .val .bool r
def Ao : Ent := evE (.cons aa .unit) An (zero .bool) (fun x => mD x.1)
def U4 : Par := ⟨bm.tab, (av []), (fun _ => ak []), (fun _ => ak [])⟩
theorem Ki : ap Tryz.prog 48 (Ao) := evX Tryz.func48 (S := U4) aN (ah trivial) (tys := [.bool]) (fun fuel x => Am true (sm An) x.1) (fun x => by show _ = Option.map An _; simp only [Am, mD, ss])
def wC (m : Bool) {β : Type} (K : aT.den → Option β) (id : Int) (t1 : Int) : Option β := (cl m .bool (mD id) fun r1 => (nq m [2, 0] (!(!r1)) (bif (bif (!r1) then true else (decide (t1 < 0))) then (K ((0 : Int), (5 : Int), ())) else (ck (!decide ((1048576 : Int) = 0)) (bif (decide (t1 > (w64 ((1048575 : Int) - (Int.tmod id 1048576))))) then (K ((0 : Int), (17 : Int), ())) else (ck (!decide ((1048576 : Int) = 0)) (bif (decide ((w64 ((Int.tmod id 1048576) + t1)) = 0)) then (K ((0 : Int), (5 : Int), ())) else (K ((w64 (id + t1)), (0 : Int), ())))))))))
def ol (id : Int) (t1 : Int) : Option aT.den := wC false some id t1
def wD (r : aT.den) : AV := .tup (bh [.val aa r.1, .val aa r.2.1])
def wE : Ent := evE (.cons aa (.cons aa .unit)) wD (zero aT) (fun x => ol x.1 x.2.1)
def ST : Par := ⟨bm.tab, (av [(48, Ao)]), (fun _ => ak []), (fun _ => ak [])⟩
theorem Fa : ap Tryz.prog 24 (wE) := evX Tryz.func24 (S := ST) aN (ah ⟨Ki, trivial⟩) (tys := [aa, aa]) (fun fuel x => wC true (sm wD) x.1 x.2.1) (fun x => by show _ = Option.map wD _; simp only [wC, ol, ss])
abbrev B7 (β : Type) := Int → (List Str) → Int → Option β
def Wl (m : Bool) {β : Type} (K : (List Str) → Option β) (k_l6 : B7 β) : B7 β := fun t0 l i => (bif (decide (i ≤ t0)) then (ck (!decide ((25 : Int) = 0)) (ck (!decide ((25 : Int) = 0)) (ck (lm (List.length l + List.length ([(List.map (fun n : Int => UInt8.ofNat n.toNat) [(IntKind.wrap .u8 (w64 ((97 : Int) + (w64 (Int.tdiv (w64 (i * (w64 (Int.tdiv 650 (w64 (t0 + 1)))))) 25))))), (IntKind.wrap .u8 (w64 ((98 : Int) + (Int.tmod (w64 (i * (w64 (Int.tdiv 650 (w64 (t0 + 1)))))) 25))))])] : List Str))) (fz m (.slice .str) (l ++ [(List.map (fun n : Int => UInt8.ofNat n.toNat) [(IntKind.wrap .u8 (w64 ((97 : Int) + (w64 (Int.tdiv (w64 (i * (w64 (Int.tdiv 650 (w64 (t0 + 1)))))) 25))))), (IntKind.wrap .u8 (w64 ((98 : Int) + (Int.tmod (w64 (i * (w64 (Int.tdiv 650 (w64 (t0 + 1)))))) 25))))])]) fun y1_ => (fz m aa (w64 (i + 1)) fun y2_ => (k_l6 t0 y1_ y2_)))))) else (K l))
def aeN (m : Bool) {β : Type} (K : (List Str) → Option β) (k_l6 : B7 β) (t0 : Int) : Option β := (nq m [2, 0] (!(decide (t0 < 0))) (bif (bif (decide (t0 < 0)) then true else (decide (t0 > 400))) then (K []) else (ck (!decide ((w64 (t0 + 1)) = 0)) (k_l6 t0 [] 1))))
def Wk : Nat → B7 (List Str) := lp (fun _ _ _ => none) fun k_l6 => Wl false some k_l6
def Wm (t0 : Int) : Option (List Str) := aeN false some (Wk FU) t0
def Wi (r : (List Str)) : AV := .val (.slice .str) r
def aif : Ent := evE (.cons aa .unit) Wi (zero (.slice .str)) (fun x => Wm x.1)
def Wj : MS := ⟨0, [], [(0, .dat aa), (3, .own .str 9), (4, .dat aa), (5, .dat aa)]⟩
def aig : Par := ⟨bm.tab, (av []), (fun _ => ak []), (fun _ => ak [(6, Wj)])⟩
def akQ : KT := aB bm.tab [.tmp 2] [(.slice .str)]
def aih (fuel lo : Nat) (p : List Nat) : Sg → KT → Option AV := xc (aH fi0 hs0 fuel 0) aig lo fuel (sub ((Tryz.f53.body).getD .skip) p)
def HD (fuel n : Nat) : B7 AV := fun t0 l i => aD 0 Wj (aih fuel 0 [1, 1, 1, 1, 0, 1, 0, 0]) (ai 0 (ax 0 none (aih fuel 0 [1, 1, 1, 1, 1]) akQ)) n ⟨mkE 38 [(0, .val aa t0), (3, .own 0 0 .str l), (4, .val aa (w64 (Int.tdiv 650 (w64 (t0 + 1))))), (5, .val aa i)], mkH 1 [(0, .row .str 9 0)]⟩
theorem aeO (fuel n6 : Nat) : HD fuel (n6 + 1) = Wl true (sm Wi) (HD fuel n6) := by kernel_rfl
theorem aeP : ∀ n, HD FU n = mp3 Wi (Wk n) := ba (by kernel_rfl) fun n6 _ h => (aeO FU n6).trans (by rw [h]; funext _ _ _; simp only [Wl, ss])
theorem akP : ap Tryz.prog 53 (aif) := evX Tryz.func53 (S := aig) aN (ah trivial) (tys := [(.slice .str)]) (fun fuel x => aeN true (sm Wi) (HD fuel fuel) x.1) (fun x => by show _ = Option.map Wi _; rw [aeP FU]; simp only [aeN, Wm, ss])
abbrev FB := (List ac.den)
abbrev rn (β : Type) := (List ac.den) → (List ac.den) → Int → Option β
abbrev abv (β : Type) := (List ac.den) → Int → (List ac.den) → Option β
def Ii (m : Bool) {β : Type} (K : FB → Option β) (k_l3 : rn β) : abv β := fun l i out => (fz m aa (w64 (i + 1)) fun y2_ => (k_l3 l out y2_))
def Pi (m : Bool) {β : Type} (K : FB → Option β) (k_l3 : rn β) : rn β := fun l out i => (bif (decide (i < (il l))) then (ck (bd i l.length) (bif (!eqD aF (ix ac l i).2.2.1 (0, false, [], 0, ())) then (ck (bd i l.length) (ck (lm (List.length out + List.length ([(ix ac l i)] : List ac.den))) (fz m (.slice ac) (out ++ [(ix ac l i)]) fun y2_ => (Ii m K k_l3 l i y2_)))) else (Ii m K k_l3 l i out))) else (K out))
def Yp (m : Bool) {β : Type} (K : FB → Option β) (k_l3 : rn β) (l : (List ac.den)) : Option β := (k_l3 l [] 0)
def Rx : Nat → rn FB := lp (fun _ _ _ => none) fun k_l3 => Pi false some k_l3
def Pj (l : (List ac.den)) : Option FB := Yp false some (Rx FU) l
def Mc (r : FB) : AV := .val (.slice ac) r
def adS : Ent := evE (.cons (.slice ac) .unit) Mc (zero (.slice ac)) (fun x => Pj x.1)
def Rv : MS := ⟨0, [], [(0, .dat (.slice ac)), (3, .own ac 86), (4, .dat aa)]⟩
def abw : MS := ⟨0, [], [(0, .dat (.slice ac)), (3, .own ac 86), (4, .dat aa)]⟩
def adT : Par := ⟨bm.tab, (av []), (fun _ => ak [(4, abw)]), (fun _ => ak [(3, Rv)])⟩
def ajn : KT := aB bm.tab [.tmp 2] [(.slice ac)]
def adU (fuel lo : Nat) (p : List Nat) : Sg → KT → Option AV := xc (aH fi0 hs0 fuel 0) adT lo fuel (sub ((Tryz.f55.body).getD .skip) p)
def zo (fuel n : Nat) : rn AV := fun l out i => aD 0 Rv (adU fuel 0 [1, 1, 0, 1, 0, 0]) (ai 0 (ax 0 none (adU fuel 0 [1, 1, 1]) ajn)) n ⟨mkE 26 [(0, .val (.slice ac) l), (3, .own 0 0 ac out), (4, .val aa i)], mkH 1 [(0, .row ac 86 0)]⟩
theorem abx (fuel n3 : Nat) : zo fuel (n3 + 1) = Pi true (sm Mc) (zo fuel n3) := by kernel_rfl
theorem aby : ∀ n, zo FU n = mp3 Mc (Rx n) := ba (by kernel_rfl) fun n3 _ h => (abx FU n3).trans (by rw [h]; funext _ _ _; simp only [Pi, Ii, ss])
theorem ajm : ap Tryz.prog 55 (adS) := evX Tryz.func55 (S := adT) aN (ah trivial) (tys := [(.slice ac)]) (fun fuel x => Yp true (sm Mc) (zo fuel fuel) x.1) (fun x => by show _ = Option.map Mc _; rw [aby FU]; simp only [Yp, Pj, Ii, ss])
def Yn (m : Bool) {β : Type} (K : Int → Option β) (kind : Int) : Option β := (bif (decide (kind = 1)) then (K 1) else (bif (decide (kind = 2)) then (K 2) else (bif (decide (kind = 3)) then (K 3) else (bif (decide (kind = 4)) then (K 4) else (K 5)))))
def Ph (kind : Int) : Option Int := Yn false some kind
def Yo (r : Int) : AV := .val aa r
def adR : Ent := evE (.cons aa .unit) Yo (zero aa) (fun x => Ph x.1)
def ajl : Par := ⟨bm.tab, (av []), (fun _ => ak []), (fun _ => ak [])⟩
theorem ajk : ap Tryz.prog 102 (adR) := evX Tryz.func102 (S := ajl) aN (ah trivial) (tys := [aa]) (fun fuel x => Yn true (sm Yo) x.1) (fun x => by show _ = Option.map Yo _; simp only [Yn, Ph, ss])
abbrev abt (β : Type) := Int → Tree → Bool → Option β
abbrev Yi (β : Type) := Int → Option β
def Ru (m : Bool) {β : Type} (K : aT.den → Option β) : Yi β := fun i => (K ((w64 (i + 1)), (0 : Int), ()))
def Ig (m : Bool) {β : Type} (K : aT.den → Option β) : abt β := fun i t t12 => (bif t12 then (K ((0 : Int), (il t.kids), ())) else (bif (decide (t.kind = 2)) then (bif (decide (i < (w64 ((il t.kids) - 2)))) then (K ((0 : Int), (w64 ((il t.kids) - 2)), ())) else (K ((w64 (i - (w64 ((il t.kids) - 3)))), (w64 ((il t.kids) - 2)), ()))) else (Ru m K i)))
def Yh (m : Bool) {β : Type} (K : aT.den → Option β) (t : Tree) (i : Int) : Option β := (bif (decide (t.kind = 1)) then (fz m .bool (decide (t.kind = 1)) fun y2_ => (Ig m K i t y2_)) else (bif (decide (t.kind = 16)) then (fz m .bool (decide (t.kind = 16)) fun y2_ => (Ig m K i t y2_)) else (fz m .bool (decide (t.kind = 18)) fun y2_ => (Ig m K i t y2_))))
def Ih (t : Tree) (i : Int) : Option aT.den := Yh false some t i
def Yj (r : aT.den) : AV := .tup (bh [.val aa r.1, .val aa r.2.1])
def Ym : Ent := evE (.cons .tree (.cons aa .unit)) Yj (zero aT) (fun x => Ih x.1 x.2.1)
def abu : MS := ⟨0, [], [(1, .dat aa), (6, .dat aa), (11, .dat aa), (12, .dat .bool)]⟩
def Yl : MS := ⟨0, [], [(1, .dat aa)]⟩
def ajj : Par := ⟨bm.tab, (av []), (fun _ => ak [(6, abu), (11, Yl)]), (fun _ => ak [])⟩
theorem adQ : ap Tryz.prog 52 (Ym) := evX Tryz.func52 (S := ajj) aN (ah trivial) (tys := [aa, aa]) (fun fuel x => Yh true (sm Yj) x.1 x.2.1) (fun x => by show _ = Option.map Yj _; simp only [Yh, Ih, Ru, Ig, ss])
def Yf (m : Bool) {β : Type} (K : Int → Option β) (p : (List Tree)) (ids : (List (List Int))) (t2 : Int) (t3 : Int) : Option β := (ck (bd t2 ids.length) (ck (bd t2 p.length) (cl m aa (Cd (ix .tree p t2) [t3]) fun r1 => (ck (bd r1 (ix (.slice aa) ids t2).length) (K (ix aa (ix (.slice aa) ids t2) r1))))))
def Pg (p : (List Tree)) (ids : (List (List Int))) (t2 : Int) (t3 : Int) : Option Int := Yf false some p ids t2 t3
def Yg (r : Int) : AV := .val aa r
def adP : Ent := evE (.cons (.slice .tree) (.cons (.slice (.slice aa)) (.cons aa (.cons aa .unit)))) Yg (zero aa) (fun x => Pg x.1 x.2.1 x.2.2.1 x.2.2.2.1)
def aji : Par := ⟨bm.tab, (av [(101, aaZ)]), (fun _ => ak []), (fun _ => ak [])⟩
theorem ajh : ap Tryz.prog 126 (adP) := evX Tryz.func126 (S := aji) aN (ah ⟨ae7, trivial⟩) (tys := [aa]) (fun fuel x => Yf true (sm Yg) x.1 x.2.1 x.2.2.1 x.2.2.2.1) (fun x => by show _ = Option.map Yg _; simp only [Yf, Pg, ss])
abbrev vq (β : Type) := Str → Int → Option β
def Pf (m : Bool) {β : Type} (K : Bool → Option β) (k_l2 : vq β) : vq β := fun s i => (bif (decide (i < (il s))) then (ck (bd i s.length) (bif (decide ((ixs s i) = 46)) then (K true) else (fz m aa (w64 (i + 1)) fun y1_ => (k_l2 s y1_)))) else (K false))
def Ye (m : Bool) {β : Type} (K : Bool → Option β) (k_l2 : vq β) (s : Str) : Option β := (k_l2 s 0)
def Rt : Nat → vq Bool := lp (fun _ _ => none) fun k_l2 => Pf false some k_l2
def Ie (s : Str) : Option Bool := Ye false some (Rt FU) s
def Mb (r : Bool) : AV := .val .bool r
def adM : Ent := evE (.cons .str .unit) Mb (zero .bool) (fun x => Ie x.1)
def Rs : MS := ⟨0, [], [(0, .dat .str), (3, .dat aa)]⟩
def adN : Par := ⟨bm.tab, (av []), (fun _ => ak []), (fun _ => ak [(2, Rs)])⟩
def ajg : KT := aB bm.tab [.tmp 2] [.bool]
def adO (fuel lo : Nat) (p : List Nat) : Sg → KT → Option AV := xc (aH fi0 hs0 fuel 0) adN lo fuel (sub ((Tryz.f127.body).getD .skip) p)
def zn (fuel n : Nat) : vq AV := fun s i => aD 0 Rs (adO fuel 0 [1, 0, 1, 0, 0]) (ai 0 (ax 0 none (adO fuel 0 [1, 1]) ajg)) n ⟨mkE 14 [(0, .val .str s), (3, .val aa i)], mkH 0 []⟩
theorem abq (fuel n2 : Nat) : zn fuel (n2 + 1) = Pf true (sm Mb) (zn fuel n2) := by kernel_rfl
theorem abr : ∀ n, zn FU n = mp2 Mb (Rt n) := ba (by kernel_rfl) fun n2 _ h => (abq FU n2).trans (by rw [h]; funext _ _; simp only [Pf, ss])
theorem ajf : ap Tryz.prog 127 (adM) := evX Tryz.func127 (S := adN) aN (ah trivial) (tys := [.bool]) (fun fuel x => Ye true (sm Mb) (zn fuel fuel) x.1) (fun x => by show _ = Option.map Mb _; rw [abr FU]; simp only [Ye, Ie, ss])
abbrev X9 (β : Type) := Int → Bool → Str → Int → Option β
abbrev Ya (β : Type) := (List Tree) → (List (List Int)) → Int → (List Int) → (Ty.den (.cons .tree (.cons .bool .unit))) → Bool → Option β
def lH (m : Bool) {β : Type} (K : aF.den → Option β) : X9 β := fun b18_0 b18_1 b18_2 b18_3 => (K (b18_0, b18_1, b18_2, b18_3, ()))
def alH (x0 : Str) : Bool := (Ie x0).isSome
def alI (x0 : Str) : Bool := (Ie x0).getD (zero .bool)
def Id (m : Bool) {β : Type} (K : aF.den → Option β) : Ya β := fun p ids t2 path r1 t81 => (bif t81 then (cl m (.cons aa (.cons aa (.cons .bool .unit))) (Rd p t2 (r1.1.text)) fun r4 => (bif r4.2.2.1 then (cl m aa (Pg p ids (r4.1) (r4.2.1)) fun r5 => (nq m [2] (decide (r4.1 = t2)) (nm m 1 (decide (r4.1 = t2)) (alH (r1.1.text)) (nq m [1] (decide (r4.1 = t2)) (fz m aa (r1.1.kind) fun y0_ => (fz m .bool (bif (decide (r4.1 = t2)) then (alI (r1.1.text)) else false) fun y1_ => (lH m K y0_ y1_ [] r5))))))) else (fz m aa (r1.1.kind) fun y0_ => (fz m .str (r1.1.text) fun y2_ => (lH m K y0_ false y2_ 0))))) else (bif (decide (r1.1.kind = 17)) then (ck (bd t2 p.length) (ck (decide (0 ≤ (w64 ((il path) - 1))) && decide ((w64 ((il path) - 1)) ≤ (path.length : Int))) (cl m (.cons .tree (.cons .bool .unit)) (sf (ix .tree p t2) ((List.take (Int.toNat (w64 ((il path) - 1))) path).drop 0)) fun r6 => (ck (bd (w64 ((il path) - 1)) path.length) (cl m (.cons aa (.cons aa (.cons .bool .unit))) (Rd p t2 (r6.1.text)) fun r7 => (nm m 2 (r7.2.2.1) (bd (r7.1) p.length) (nq m [2, 2] (r7.2.2.1) (nm m 2 (r7.2.2.1) (bd (r7.2.1) ((ix .tree p r7.1).kids).length) (nq m [2, 2, 2, 2, 3, 1] (r7.2.2.1) (bif (bif r7.2.2.1 then (decide ((ix aa path (w64 ((il path) - 1))) < (w64 ((il ((ix .tree (ix .tree p r7.1).kids r7.2.1).kids)) - 2)))) else false) then (ck (bd (r7.1) ids.length) (ck (bd (r7.1) p.length) (cl m aa (Cd (ix .tree p r7.1) [r7.2.1, (ix aa path (w64 ((il path) - 1)))]) fun r8 => (ck (bd r8 (ix (.slice aa) ids r7.1).length) (fz m aa (r1.1.kind) fun y0_ => (fz m .str (r1.1.text) fun y2_ => (fz m aa (ix aa (ix (.slice aa) ids r7.1) r8) fun y3_ => (lH m K y0_ false y2_ y3_)))))))) else (fz m aa (r1.1.kind) fun y0_ => (fz m .str (r1.1.text) fun y2_ => (lH m K y0_ false y2_ 0))))))))))))) else (fz m aa (r1.1.kind) fun y0_ => (fz m .str (r1.1.text) fun y2_ => (lH m K y0_ false y2_ 0)))))
def X8 (m : Bool) {β : Type} (K : aF.den → Option β) (p : (List Tree)) (ids : (List (List Int))) (t2 : Int) (path : (List Int)) : Option β := (ck (bd t2 p.length) (cl m (.cons .tree (.cons .bool .unit)) (sf (ix .tree p t2) path) fun r1 => (bif (decide (r1.1.kind = 12)) then (ck (bd t2 p.length) (ck (bd 0 path.length) (ck (bd (ix aa path 0) ((ix .tree p t2).kids).length) (ck (decide (0 ≤ (1 : Int)) && decide (1 ≤ (path.length : Int))) (cl m (.cons (.slice aa) (.cons .bool .unit)) (WC (ix .tree (ix .tree p t2).kids (ix aa path 0)) ((List.take (List.length path) path).drop (Int.toNat 1)) (r1.1.text)) fun r2 => (bif r2.2.1 then (ck (bd 0 path.length) (ck (lm (List.length ([(ix aa path 0)] : List Int) + List.length r2.1)) (ck (bd t2 ids.length) (ck (bd t2 p.length) (cl m aa (Cd (ix .tree p t2) ([(ix aa path 0)] ++ r2.1)) fun r3 => (ck (bd r3 (ix (.slice aa) ids t2).length) (fz m aa (r1.1.kind) fun y0_ => (fz m aa (ix aa (ix (.slice aa) ids t2) r3) fun y3_ => (lH m K y0_ false [] y3_))))))))) else (fz m aa (r1.1.kind) fun y0_ => (fz m .str (r1.1.text) fun y2_ => (lH m K y0_ false y2_ 0))))))))) else (bif (decide (r1.1.kind = 16)) then (fz m .bool (decide (r1.1.kind = 16)) fun y5_ => (Id m K p ids t2 path r1 y5_)) else (fz m .bool (decide (r1.1.kind = 9)) fun y5_ => (Id m K p ids t2 path r1 y5_))))))
def Pe (p : (List Tree)) (ids : (List (List Int))) (t2 : Int) (path : (List Int)) : Option aF.den := X8 false some p ids t2 path
def Yb (r : aF.den) : AV := .val aF r
def adL : Ent := evE (.cons (.slice .tree) (.cons (.slice (.slice aa)) (.cons aa (.cons (.slice aa) .unit)))) Yb (zero aF) (fun x => Pe x.1 x.2.1 x.2.2.1 x.2.2.2.1)
def Yc : MS := ⟨19, [(0, [.dat aa, .dat .bool, .dat .str, .dat aa]), (10, [.drop, .drop, .drop, .drop]), (18, [.dat aa, .dat .bool, .dat .str, .dat aa])], [(8, .keep), (11, .keep)]⟩
def Yd : MS := ⟨19, [(0, [.dat aa, .dat .bool, .dat .str, .dat aa]), (10, [.dat aa, .dat .str, .dat (.slice .str), .dat (.slice .tree)]), (18, [.dat aa, .dat .bool, .dat .str, .dat aa])], [(0, .dat (.slice .tree)), (1, .dat (.slice (.slice aa))), (2, .dat aa), (3, .dat (.slice aa)), (8, .keep), (9, .keep), (11, .keep), (39, .dat aa), (81, .dat .bool)]⟩
def aje : Par := ⟨bm.tab, (av [(51, TF), (124, aio), (101, aaZ), (125, aii), (126, adP), (127, adM)]), (fun _ => ak [(20, Yc), (11, Yd)]), (fun _ => ak [])⟩
theorem ajd : ap Tryz.prog 103 (adL) := evX Tryz.func103 (S := aje) aN (ah ⟨WO, akU, ae7, akR, ajh, ajf, trivial⟩) (tys := [aF]) (fun fuel x => X8 true (sm Yb) x.1 x.2.1 x.2.2.1 x.2.2.2.1) (fun x => by show _ = Option.map Yb _; simp only [X8, Pe, Id, lH, ss])
abbrev yi := (List ac.den)
abbrev X1 (β : Type) := (List Tree) → (List (List Int)) → Int → (List Int) → Int → Int → (Ty.den (.cons .tree (.cons .bool .unit))) → (List ac.den) → Option β
abbrev X2 (β : Type) := (List Tree) → (List (List Int)) → Int → (List Int) → Int → Int → (Ty.den (.cons .tree (.cons .bool .unit))) → Int → Bool → Str → Int → Option β
abbrev X0 (β : Type) := (List (List Int)) → Int → Int → (Ty.den (.cons .tree (.cons .bool .unit))) → (List ac.den) → Option β
abbrev iq (β : Type) := (List (List Int)) → Int → Int → (Ty.den (.cons .tree (.cons .bool .unit))) → (List ac.den) → Int → Option β
def zj (m : Bool) {β : Type} (K : yi → Option β) (k_l18 : iq β) : X0 β := fun ids t2 r2 r1 l => (k_l18 ids t2 r2 r1 l 0)
def zk (m : Bool) {β : Type} (K : yi → Option β) (k_l18 : iq β) : X1 β := fun p ids t2 path r2 r3 r1 l => (bif (decide (r3 = 5)) then (cl m aF (Pe p ids t2 path) fun r7 => (ck (lm (List.length l + List.length ([((ix aa (ix (.slice aa) ids t2) r2), 4, r7, ())] : List ac.den))) (fz m (.slice ac) (l ++ [((ix aa (ix (.slice aa) ids t2) r2), 4, r7, ())]) fun y4_ => (zj m K k_l18 ids t2 r2 r1 y4_)))) else (ck (lm (List.length l + List.length ([((ix aa (ix (.slice aa) ids t2) r2), 3, (0, false, r1.1.text, 0, ()), ())] : List ac.den))) (fz m (.slice ac) (l ++ [((ix aa (ix (.slice aa) ids t2) r2), 3, (0, false, r1.1.text, 0, ()), ())]) fun y4_ => (zj m K k_l18 ids t2 r2 r1 y4_))))
def zm (m : Bool) {β : Type} (K : yi → Option β) (k_l18 : iq β) : X2 β := fun p ids t2 path r2 r3 r1 b83_0 b83_1 b83_2 b83_3 => (ck (lm (List.length ([((ix aa (ix (.slice aa) ids t2) r2), 1, (r3, false, [], 0, ()), ())] : List ac.den) + List.length ([((ix aa (ix (.slice aa) ids t2) r2), 2, (b83_0, b83_1, b83_2, b83_3, ()), ())] : List ac.den))) (fz m (.slice ac) ([((ix aa (ix (.slice aa) ids t2) r2), 1, (r3, false, [], 0, ()), ())] ++ [((ix aa (ix (.slice aa) ids t2) r2), 2, (b83_0, b83_1, b83_2, b83_3, ()), ())]) fun y7_ => (zk m K k_l18 p ids t2 path r2 r3 r1 y7_)))
def Ic (m : Bool) {β : Type} (K : yi → Option β) (k_l18 : iq β) : iq β := fun ids t2 r2 r1 l t22 => (bif (decide (t22 < (il r1.1.leads))) then (ck (bd t22 r1.1.leads.length) (ck (lm (List.length l + List.length ([((ix aa (ix (.slice aa) ids t2) r2), (w64 ((8 : Int) + t22)), (0, false, (ix .str r1.1.leads t22), 0, ()), ())] : List ac.den))) (fz m (.slice ac) (l ++ [((ix aa (ix (.slice aa) ids t2) r2), (w64 ((8 : Int) + t22)), (0, false, (ix .str r1.1.leads t22), 0, ()), ())]) fun y4_ => (fz m aa (w64 (t22 + 1)) fun y5_ => (k_l18 ids t2 r2 r1 y4_ y5_))))) else (K l))
def XZ (m : Bool) {β : Type} (K : yi → Option β) (k_l18 : iq β) (p : (List Tree)) (ids : (List (List Int))) (t2 : Int) (path : (List Int)) (key : Str) : Option β := (ck (bd t2 p.length) (cl m (.cons .tree (.cons .bool .unit)) (sf (ix .tree p t2) path) fun r1 => (ck (bd t2 ids.length) (ck (bd t2 p.length) (cl m aa (Cd (ix .tree p t2) path) fun r2 => (ck (bd r2 (ix (.slice aa) ids t2).length) (cl m aa (Ph (r1.1.kind)) fun r3 => (bif (decide (r3 = 1)) then (ck (lm (List.length ([((ix aa (ix (.slice aa) ids t2) r2), 1, (r3, false, [], 0, ()), ())] : List ac.den) + List.length ([((ix aa (ix (.slice aa) ids t2) r2), 2, (1, false, [], 0, ()), ())] : List ac.den))) (fz m (.slice ac) ([((ix aa (ix (.slice aa) ids t2) r2), 1, (r3, false, [], 0, ()), ())] ++ [((ix aa (ix (.slice aa) ids t2) r2), 2, (1, false, [], 0, ()), ())]) fun y7_ => (zk m K k_l18 p ids t2 path r2 r3 r1 y7_))) else (ck (decide (0 ≤ (w64 ((il path) - 1))) && decide ((w64 ((il path) - 1)) ≤ (path.length : Int))) (ck (bd t2 p.length) (cl m (.cons .tree (.cons .bool .unit)) (sf (ix .tree p t2) ((List.take (Int.toNat (w64 ((il path) - 1))) path).drop 0)) fun r4 => (ck (bd (w64 ((il path) - 1)) path.length) (cl m aT (Ih (te (r4.1)) (ix aa path (w64 ((il path) - 1)))) fun r5 => (ck (bd t2 ids.length) (ck (bd t2 p.length) (cl m aa (Cd (ix .tree p t2) ((List.take (Int.toNat (w64 ((il path) - 1))) path).drop 0)) fun r6 => (ck (bd r6 (ix (.slice aa) ids t2).length) (bif (decide (r5.1 = 0)) then (fz m aa (ix aa (ix (.slice aa) ids t2) r6) fun y10_ => (zm m K k_l18 p ids t2 path r2 r3 r1 (r5.1) false key y10_)) else (fz m aa (ix aa (ix (.slice aa) ids t2) r6) fun y10_ => (zm m K k_l18 p ids t2 path r2 r3 r1 (r5.1) false [] y10_))))))))))))))))))))
def Ma : Nat → iq yi := lp (fun _ _ _ _ _ _ => none) fun k_l18 => Ic false some k_l18
def Pd (p : (List Tree)) (ids : (List (List Int))) (t2 : Int) (path : (List Int)) (key : Str) : Option yi := XZ false some (Ma FU) p ids t2 path key
def L8 (r : yi) : AV := .val (.slice ac) r
def adI : Ent := evE (.cons (.slice .tree) (.cons (.slice (.slice aa)) (.cons aa (.cons (.slice aa) (.cons .str .unit))))) L8 (zero (.slice ac)) (fun x => Pd x.1 x.2.1 x.2.2.1 x.2.2.2.1 x.2.2.2.2.1)
def L9 : MS := ⟨11, [(10, [.dat aa, .dat .str, .dat (.slice .str), .dat (.slice .tree)])], [(11, .keep), (13, .dat aa), (15, .own ac 86), (22, .dat aa)]⟩
def X4 : MS := ⟨11, [(10, [.dat aa, .dat .str, .dat (.slice .str), .dat (.slice .tree)])], [(0, .dat (.slice .tree)), (1, .dat (.slice (.slice aa))), (2, .dat aa), (3, .dat (.slice aa)), (11, .keep), (13, .dat aa), (14, .dat aa), (15, .own ac 86)]⟩
def X5 : MS := ⟨84, [(10, [.dat aa, .dat .str, .dat (.slice .str), .dat (.slice .tree)]), (53, [.drop, .drop, .drop, .drop]), (83, [.dat aa, .dat .bool, .dat .str, .dat aa])], [(0, .dat (.slice .tree)), (1, .dat (.slice (.slice aa))), (2, .dat aa), (3, .dat (.slice aa)), (11, .keep), (13, .dat aa), (14, .dat aa), (15, .own ac 86), (21, .keep)]⟩
def X3 : MS := ⟨11, [(10, [.dat aa, .dat .str, .dat (.slice .str), .dat (.slice .tree)])], [(11, .keep), (13, .dat aa), (15, .own ac 86)]⟩
def adJ : Par := ⟨bm.tab, (av [(51, TF), (101, aaZ), (102, adR), (52, Ym), (103, adL)]), (fun _ => ak [(14, X4), (13, X5), (17, X3)]), (fun _ => ak [(18, L9)])⟩
def ajc : KT := aB bm.tab [.tmp 10] [(.slice ac)]
def adK (fuel lo : Nat) (p : List Nat) : Sg → KT → Option AV := xc (aH fi0 hs0 fuel 0) adJ lo fuel (sub ((Tryz.f54.body).getD .skip) p)
def vp (fuel n : Nat) : iq AV := fun ids t2 r2 r1 l t22 => aD 0 L9 (adK fuel 0 [1, 1, 1, 1, 1, 1, 1, 0, 1, 0, 0]) (ai 0 (ax 0 none (adK fuel 0 [1, 1, 1, 1, 1, 1, 1, 1]) ajc)) n ⟨mkE 150 [(11, .box 10 0), (13, .val aa (ix aa (ix (.slice aa) ids t2) r2)), (15, .own 11 0 ac l), (22, .val aa t22)], mkH 12 [(10, .box [.val aa r1.1.kind, .val .str r1.1.text, .val (.slice .str) r1.1.leads, .val (.slice .tree) r1.1.kids]), (11, .row ac 86 0)]⟩
theorem X6 (fuel n18 : Nat) : vp fuel (n18 + 1) = Ic true (sm L8) (vp fuel n18) := by kernel_rfl
theorem X7 : ∀ n, vp FU n = mp6 L8 (Ma n) := ba (by kernel_rfl) fun n18 _ h => (X6 FU n18).trans (by rw [h]; funext _ _ _ _ _ _; simp only [Ic, zm, zk, zj, ss])
theorem ajb : ap Tryz.prog 54 (adI) := evX Tryz.func54 (S := adJ) aN (ah ⟨WO, ae7, ajk, adQ, ajd, trivial⟩) (tys := [(.slice ac)]) (fun fuel x => XZ true (sm L8) (vp fuel fuel) x.1 x.2.1 x.2.2.1 x.2.2.2.1 x.2.2.2.2.1) (fun x => by show _ = Option.map L8 _; rw [X7 FU]; simp only [XZ, Pd, zm, zk, zj, ss])
abbrev vo (β : Type) := (List Tree) → Int → Option β
def gmG (x0 : Tree) : Bool := (Rg x0).isSome
def gmF (x0 : Tree) : Bool := (Rg x0).getD (zero .bool)
def Pb (m : Bool) {β : Type} (K : Bool → Option β) (k_l2 : vo β) : vo β := fun p i => (bif (decide (i < (il p))) then (ck (bd i p.length) (nm m 2 (!(!decide ((ix .tree p i).kind = 1))) (bd i p.length) (nq m [2] (!(!decide ((ix .tree p i).kind = 1))) (nm m 1 (!(!decide ((ix .tree p i).kind = 1))) (gmG (ix .tree p i)) (nq m [2, 0] (!(!decide ((ix .tree p i).kind = 1))) (bif (bif (!decide ((ix .tree p i).kind = 1)) then true else (!(gmF (ix .tree p i)))) then (K false) else (fz m aa (w64 (i + 1)) fun y1_ => (k_l2 p y1_)))))))) else (K (decide ((il p) ≤ 8))))
def XY (m : Bool) {β : Type} (K : Bool → Option β) (k_l2 : vo β) (p : (List Tree)) : Option β := (k_l2 p 0)
def Rr : Nat → vo Bool := lp (fun _ _ => none) fun k_l2 => Pb false some k_l2
def Pc (p : (List Tree)) : Option Bool := XY false some (Rr FU) p
def L7 (r : Bool) : AV := .val .bool r
def adF : Ent := evE (.cons (.slice .tree) .unit) L7 (zero .bool) (fun x => Pc x.1)
def Rq : MS := ⟨0, [], [(0, .dat (.slice .tree)), (3, .dat aa)]⟩
def adG : Par := ⟨bm.tab, (av [(99, aiF)]), (fun _ => ak []), (fun _ => ak [(2, Rq)])⟩
def aja : KT := aB bm.tab [.tmp 2] [.bool]
def adH (fuel lo : Nat) (p : List Nat) : Sg → KT → Option AV := xc (aH fi0 hs0 fuel 0) adG lo fuel (sub ((Tryz.f47.body).getD .skip) p)
def zi (fuel n : Nat) : vo AV := fun p i => aD 0 Rq (adH fuel 0 [1, 0, 1, 0, 0]) (ai 0 (ax 0 none (adH fuel 0 [1, 1]) aja)) n ⟨mkE 27 [(0, .val (.slice .tree) p), (3, .val aa i)], mkH 0 []⟩
theorem abo (fuel n2 : Nat) : zi fuel (n2 + 1) = Pb true (sm L7) (zi fuel n2) := by kernel_rfl
theorem abp : ∀ n, zi FU n = mp2 L7 (Rr n) := ba (by kernel_rfl) fun n2 _ h => (abo FU n2).trans (by rw [h]; funext _ _; simp only [Pb, ss])
theorem ai9 : ap Tryz.prog 47 (adF) := evX Tryz.func47 (S := adG) aN (ah ⟨ak7, trivial⟩) (tys := [.bool]) (fun fuel x => XY true (sm L7) (zi fuel fuel) x.1) (fun x => by show _ = Option.map L7 _; rw [abp FU]; simp only [XY, Pc, ss])
abbrev ip := (Ty.den (.cons aw (.cons aa (.cons aa .unit))))
abbrev oG (β : Type) := (List Tree) → Int → (List (List Int)) → Int → Int → Option β
abbrev pT (β : Type) := (List Tree) → Int → (List (List Int)) → Int → Int → (List Int) → Int → Option β
abbrev kn (β : Type) := (List Tree) → Int → (List (List Int)) → Int → (List ac.den) → Int → Option β
abbrev km (β : Type) := (List Tree) → Int → (List (List Int)) → Int → Int → (List (List Int)) → (List ac.den) → Int → Option β
abbrev XO (β : Type) := (List Tree) → Int → (List (List Int)) → Int → (List ac.den) → Int → (List (List Int)) → Int → Str → Option β
abbrev XP (β : Type) := (List Tree) → Int → (List (List Int)) → Int → Int → (List (List Int)) → Int → (List ac.den) → Option β
def O9 (m : Bool) {β : Type} (K : ip → Option β) (k_l10 : pT β) (k_l20 : kn β) : oG β := fun p last ids t8 i => (bif (decide (i < (il p))) then (ck (bd i p.length) (cl m aa (ye FD (ix .tree p i)) fun r2 => (k_l10 p last ids i t8 [] r2))) else (k_l20 p last ids t8 [] 0))
def Ib (m : Bool) {β : Type} (K : ip → Option β) (k_l10 : pT β) (k_l6 : oG β) : pT β := fun p last ids i t8 l t11 => (bif (decide (t11 > 0)) then (cl m aT (ol last (w64 (t8 + 1))) fun r3 => (bif (!decide (r3.2.1 = 0)) then (K (([], ()), (0 : Int), r3.2.1, ())) else (ck (lm (List.length l + List.length ([r3.1] : List Int))) (fz m aa (w64 (t8 + 1)) fun y4_ => (fz m (.slice aa) (l ++ [r3.1]) fun y5_ => (fz m aa (w64 (t11 - 1)) fun y6_ => (k_l10 p last ids i y4_ y5_ y6_))))))) else (ck (lm (List.length ids + List.length ([l] : List (List Int)))) (fz m (.slice (.slice aa)) (ids ++ [l]) fun y2_ => (fz m aa (w64 (i + 1)) fun y4_ => (k_l6 p last y2_ t8 y4_)))))
def Ia (m : Bool) {β : Type} (K : ip → Option β) (k_l24 : km β) : kn β := fun p last ids t8 cells i => (bif (decide (i < (il p))) then (ck (bd i p.length) (cl m (.slice (.slice aa)) (WV (ix .tree p i)) fun r4 => (k_l24 p last ids t8 i r4 cells 0))) else (cl m (.slice ac) (Pj cells) fun r5 => (K ((r5, ()), (w64 (last + t8)), (0 : Int), ()))))
def rm (m : Bool) {β : Type} (K : ip → Option β) (k_l24 : km β) : XP β := fun p last ids t8 i r4 t17 cells => (fz m aa (w64 (t17 + 1)) fun y7_ => (k_l24 p last ids t8 i r4 cells y7_))
def lG (m : Bool) {β : Type} (K : ip → Option β) (k_l24 : km β) : XO β := fun p last ids t8 cells i r4 t17 key => (ck (bd t17 r4.length) (cl m (.slice ac) (Pd p ids i (ix (.slice aa) r4 t17) key) fun r9 => (ck (lm (cells.length + r9.length)) (fz m (.slice ac) (cells ++ r9) fun y7_ => (rm m K k_l24 p last ids t8 i r4 t17 y7_)))))
def H9 (m : Bool) {β : Type} (K : ip → Option β) (k_l24 : km β) (k_l20 : kn β) : km β := fun p last ids t8 i r4 cells t17 => (bif (decide (t17 < (il r4))) then (ck (bd t17 r4.length) (bif (decide ((il (ix (.slice aa) r4 t17)) > 0)) then (ck (bd t17 r4.length) (ck (bd t17 r4.length) (ck (bd (w64 ((il (ix (.slice aa) r4 t17)) - 1)) (ix (.slice aa) r4 t17).length) (ck (bd i p.length) (ck (bd t17 r4.length) (ck (bd t17 r4.length) (ck (decide (0 ≤ (w64 ((il (ix (.slice aa) r4 t17)) - 1))) && decide ((w64 ((il (ix (.slice aa) r4 t17)) - 1)) ≤ ((ix (.slice aa) r4 t17).length : Int))) (cl m (.cons .tree (.cons .bool .unit)) (sf (ix .tree p i) ((List.take (Int.toNat (w64 ((il (ix (.slice aa) r4 t17)) - 1))) (ix (.slice aa) r4 t17)).drop 0)) fun r6 => (cl m aT (Ih (te (r6.1)) (ix aa (ix (.slice aa) r4 t17) (w64 ((il (ix (.slice aa) r4 t17)) - 1)))) fun r7 => (bif (decide (r7.1 = 0)) then (cl m (.slice .str) (Wm (r7.2.1)) fun r8 => (ck (bd (ix aa (ix (.slice aa) r4 t17) (w64 ((il (ix (.slice aa) r4 t17)) - 1))) r8.length) (fz m .str (ix .str r8 (ix aa (ix (.slice aa) r4 t17) (w64 ((il (ix (.slice aa) r4 t17)) - 1)))) fun y8_ => (lG m K k_l24 p last ids t8 cells i r4 t17 y8_)))) else (lG m K k_l24 p last ids t8 cells i r4 t17 []))))))))))) else (lG m K k_l24 p last ids t8 cells i r4 t17 []))) else (fz m aa (w64 (i + 1)) fun y5_ => (k_l20 p last ids t8 cells y5_)))
def ZZ (x0 : Int) : Bool := (mD x0).isSome
def Z0 (x0 : Int) : Bool := (mD x0).getD (zero .bool)
def XN (m : Bool) {β : Type} (K : ip → Option β) (k_l6 : oG β) (p : (List Tree)) (last : Int) : Option β := (cl m .bool (Pc p) fun r1 => (nm m 1 (!(!r1)) (ZZ last) (nq m [2, 0] (!(!r1)) (bif (bif (!r1) then true else (!(Z0 last))) then (K (([], ()), (0 : Int), (5 : Int), ())) else (k_l6 p last [] 0 0)))))
def L6 (k_l6 : oG ip) : Nat → pT ip := lp (fun _ _ _ _ _ _ _ => none) fun k_l10 => Ib false some k_l10 k_l6
def L4 (k_l20 : kn ip) : Nat → km ip := lp (fun _ _ _ _ _ _ _ _ => none) fun k_l24 => H9 false some k_l24 k_l20
def L5 : Nat → kn ip := lp (fun _ _ _ _ _ _ => none) fun k_l20 => Ia false some (L4 k_l20 FU)
def Ro : Nat → oG ip := lp (fun _ _ _ _ _ => none) fun k_l6 => O9 false some (L6 k_l6 FU) (L5 FU)
def Pa (p : (List Tree)) (last : Int) : Option ip := XN false some (Ro FU) p last
def ng (r : ip) : AV := .tup (bh [.val aw r.1, .val aa r.2.1, .val aa r.2.2.1])
def adD : Ent := evE (.cons (.slice .tree) (.cons aa .unit)) ng (zero (.cons aw (.cons aa (.cons aa .unit)))) (fun x => Pa x.1 x.2.1)
def H8 : MS := ⟨1, [(0, [.own ac 86])], [(0, .dat (.slice .tree)), (1, .dat aa), (4, .keep), (7, .own (.slice aa) 23), (8, .dat aa), (9, .dat aa)]⟩
def L3 : MS := ⟨1, [(0, [.own ac 86])], [(0, .dat (.slice .tree)), (1, .dat aa), (4, .keep), (7, .own (.slice aa) 23), (8, .dat aa), (9, .dat aa), (10, .own aa 3), (11, .dat aa)]⟩
def Cx : MS := ⟨1, [(0, [.own ac 86])], [(0, .dat (.slice .tree)), (1, .dat aa), (4, .keep), (7, .own (.slice aa) 23), (8, .dat aa), (14, .own ac 86), (15, .dat aa)]⟩
def L0 : MS := ⟨1, [(0, [.own ac 86])], [(0, .dat (.slice .tree)), (1, .dat aa), (4, .keep), (7, .own (.slice aa) 23), (8, .dat aa), (14, .own ac 86), (15, .dat aa), (16, .dat (.slice (.slice aa))), (17, .dat aa)]⟩
def XQ : MS := ⟨1, [(0, [.own ac 86])], [(0, .dat (.slice .tree)), (1, .dat aa), (4, .keep), (7, .own (.slice aa) 23), (8, .dat aa), (14, .own ac 86), (15, .dat aa), (16, .dat (.slice (.slice aa))), (17, .dat aa), (18, .dat .str)]⟩
def XR : MS := ⟨1, [(0, [.own ac 86])], [(0, .dat (.slice .tree)), (1, .dat aa), (4, .keep), (7, .own (.slice aa) 23), (8, .dat aa), (14, .own ac 86), (15, .dat aa), (16, .dat (.slice (.slice aa))), (17, .dat aa)]⟩
def adE : Par := ⟨bm.tab, (av [(47, adF), (48, Ao), (49, W5 FD), (24, wE), (50, aiz), (55, adS), (51, TF), (52, Ym), (53, aif), (54, adI)]), (fun _ => ak [(33, XQ), (25, XR)]), (fun _ => ak [(6, H8), (10, L3), (20, Cx), (24, L0)])⟩
def Rp : KT := aB bm.tab [.cell 4 48, .tmp 5, .tmp 6] [aw, aa, aa]
def nh (fuel lo : Nat) (p : List Nat) : Sg → KT → Option AV := xc (aH fi0 hs0 fuel 0) adE lo fuel (sub ((Tryz.f22.body).getD .skip) p)
def vl (fuel n : Nat) : oG AV := fun p last ids t8 i => aD 0 H8 (nh fuel 0 [1, 1, 1, 1, 0, 1, 0, 0]) (ai 0 (ax 0 none (nh fuel 0 [1, 1, 1, 1, 1]) Rp)) n ⟨mkE 152 [(0, .val (.slice .tree) p), (1, .val aa last), (4, .box 0 0), (7, .own 2 0 (.slice aa) ids), (8, .val aa t8), (9, .val aa i)], mkH 3 [(0, .box [.own 1 0 ac []]), (1, .row ac 86 0), (2, .row (.slice aa) 23 0)]⟩
def vn (fuel n6 n : Nat) : pT AV := fun p last ids i t8 l t11 => aD 0 L3 (nh fuel 0 [1, 1, 1, 1, 0, 1, 0, 0, 1, 0, 0, 1, 0, 1, 0, 0]) (ai 2 (ax 0 none (nh fuel 0 [1, 1, 1, 1, 0, 1, 0, 0, 1, 0, 0, 1, 1]) (ai 1 (ax 0 none (nh fuel 0 [1, 1, 1, 1, 0, 1, 0, 0, 1, 1]) (kLp 0 H8 (nh fuel 0 [1, 1, 1, 1, 0, 1, 0, 0]) (ai 0 (ax 0 none (nh fuel 0 [1, 1, 1, 1, 1]) Rp)) n6))))) n ⟨mkE 152 [(0, .val (.slice .tree) p), (1, .val aa last), (4, .box 0 0), (7, .own 2 0 (.slice aa) ids), (8, .val aa t8), (9, .val aa i), (10, .own 3 0 aa l), (11, .val aa t11)], mkH 4 [(0, .box [.own 1 0 ac []]), (1, .row ac 86 0), (2, .row (.slice aa) 23 0), (3, .row aa 3 0)]⟩
def pU (fuel n : Nat) : kn AV := fun p last ids t8 cells i => aD 0 Cx (nh fuel 0 [1, 1, 1, 1, 1, 1, 0, 1, 0, 0]) (ai 4 (ax 0 none (nh fuel 0 [1, 1, 1, 1, 1, 1, 1]) Rp)) n ⟨mkE 152 [(0, .val (.slice .tree) p), (1, .val aa last), (4, .box 0 0), (7, .own 2 0 (.slice aa) ids), (8, .val aa t8), (14, .own 3 0 ac cells), (15, .val aa i)], mkH 4 [(0, .box [.own 1 0 ac []]), (1, .row ac 86 0), (2, .row (.slice aa) 23 0), (3, .row ac 86 0)]⟩
def vm (fuel n20 n : Nat) : km AV := fun p last ids t8 i r4 cells t17 => aD 0 L0 (nh fuel 0 [1, 1, 1, 1, 1, 1, 0, 1, 0, 0, 1, 0, 0, 1, 1, 0, 0]) (ai 6 (ai 5 (ax 0 none (nh fuel 0 [1, 1, 1, 1, 1, 1, 0, 1, 0, 0, 1, 1]) (kLp 0 Cx (nh fuel 0 [1, 1, 1, 1, 1, 1, 0, 1, 0, 0]) (ai 4 (ax 0 none (nh fuel 0 [1, 1, 1, 1, 1, 1, 1]) Rp)) n20)))) n ⟨mkE 152 [(0, .val (.slice .tree) p), (1, .val aa last), (4, .box 0 0), (7, .own 2 0 (.slice aa) ids), (8, .val aa t8), (14, .own 3 0 ac cells), (15, .val aa i), (16, .val (.slice (.slice aa)) r4), (17, .val aa t17)], mkH 4 [(0, .box [.own 1 0 ac []]), (1, .row ac 86 0), (2, .row (.slice aa) 23 0), (3, .row ac 86 0)]⟩
theorem abm (fuel n6 : Nat) : vl fuel (n6 + 1) = O9 true (sm ng) (vn fuel n6 fuel) (pU fuel fuel) := by kernel_rfl
theorem XW (fuel n6 n10 : Nat) : vn fuel n6 (n10 + 1) = Ib true (sm ng) (vn fuel n6 n10) (vl fuel n6) := by kernel_rfl
theorem XU (fuel n20 : Nat) : pU fuel (n20 + 1) = Ia true (sm ng) (vm fuel n20 fuel) := by kernel_rfl
theorem XS (fuel n20 n24 : Nat) : vm fuel n20 (n24 + 1) = H9 true (sm ng) (vm fuel n20 n24) (pU fuel n20) := by kernel_rfl
theorem XX (n6 : Nat) {k_l6 : oG ip} (h_l6 : vl FU n6 = mp5 ng k_l6) : ∀ n, vn FU n6 n = mp7 ng (L6 k_l6 n) := ba (by kernel_rfl) fun n10 _ h => (XW FU n6 n10).trans (by rw [h, h_l6]; funext _ _ _ _ _ _ _; simp only [Ib, rm, lG, ss])
theorem XT (n20 : Nat) {k_l20 : kn ip} (h_l20 : pU FU n20 = mp6 ng k_l20) : ∀ n, vm FU n20 n = mp8 ng (L4 k_l20 n) := ba (by kernel_rfl) fun n24 _ h => (XS FU n20 n24).trans (by rw [h, h_l20]; funext _ _ _ _ _ _ _ _; simp only [H9, rm, lG, ss])
theorem XV : ∀ n, pU FU n = mp6 ng (L5 n) := ba (by kernel_rfl) fun n20 _ h => (XU FU n20).trans (by rw [XT n20 h FU]; funext _ _ _ _ _ _; simp only [Ia, rm, lG, ss])
theorem abn : ∀ n, vl FU n = mp5 ng (Ro n) := ba (by kernel_rfl) fun n6 _ h => (abm FU n6).trans (by rw [XX n6 h FU, XV FU]; funext _ _ _ _ _; simp only [O9, rm, lG, ss])
theorem ai8 : ap Tryz.prog 22 (adD) := evX Tryz.func22 (S := adE) aN (ah ⟨ai9, Ki, (aiC FD), Fa, ak0, ajm, WO, adQ, akP, ajb, trivial⟩) (tys := [aw, aa, aa]) (fun fuel x => XN true (sm ng) (vl fuel fuel) x.1 x.2.1) (fun x => by show _ = Option.map ng _; rw [abn FU]; simp only [XN, Pa, rm, lG, ss])
def vB (m : Bool) {β : Type} (K : ae.den → Option β) (x : Int) : Option β := (cl m (.slice .tree) (Fz x) fun r1 => (cl m (.cons aw (.cons aa (.cons aa .unit))) (Pa r1 1048576) fun r2 => (cl m aT (ol (r2.2.1) 1) fun r3 => (K (r3.1, [], [], [102, 105, 114, 115, 116], r2.1.1, ())))))
def bK (x : Int) : Option ae.den := vB false some x
def CZ (r : ae.den) : AV := .val ae r
def C0 : Ent := evE (.cons aa .unit) CZ (zero ae) (fun x => bK x.1)
def YO : Par := ⟨bm.tab, (av [(23, ai4), (22, adD), (24, wE)]), (fun _ => ak []), (fun _ => ak [])⟩
theorem Mq : ap Tryz.prog 6 (C0) := evX Tryz.func6 (S := YO) aN (ah ⟨alD, ai8, Fa, trivial⟩) (tys := [ae]) (fun fuel x => vB true (sm CZ) x.1) (fun x => by show _ = Option.map CZ _; simp only [vB, bK, ss])
end
end Go.Proofs.YtboikinjlmjgjaaGreat.Abs
