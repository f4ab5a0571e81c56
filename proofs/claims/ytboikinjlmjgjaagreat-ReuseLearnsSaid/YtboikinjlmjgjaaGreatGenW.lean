/- The equations of the program's functions on the abstract machine. (Printed by gen.py; each is checked by the kernel.) -/
import Derived.Test.YtboikinjlmjgjaaGreatGenG
import Derived.Test.YtboikinjlmjgjaaGreatAbsW
import Derived.Test.YtboikinjlmjgjaaGreatChecked
namespace Go.Proofs.YtboikinjlmjgjaaGreat.Abs
abbrev aK:Ty:=(.cons aa (.cons ap .unit))
abbrev aG:Ty:=(.cons aa (.cons aa (.cons aa (.cons (.slice aK) (.cons (.slice aa) .unit)))))
abbrev ak:Ty:=(.cons aa (.cons aa (.cons (.slice aK) .unit)))
abbrev au:Ty:=(.cons (.slice ak) .unit)
abbrev av:Ty:=(.cons bm (.cons aa .unit))
end Go.Proofs.YtboikinjlmjgjaaGreat.Abs
namespace Go.Proofs.YtboikinjlmjgjaaGreat.Abs
abbrev Val:=ap.den
abbrev Alt:=aK.den
abbrev Slt:=ak.den
abbrev Sta:=au.den
abbrev Cel:=ac.den
abbrev Mdl:=aM.den
abbrev Reg:=aG.den
abbrev Stg:=av.den
def QC (l:List Int):Bool:=decide (l.length≤LIM)
def orF (l:List Int):Int:=match l.find? (fun n => !decide (n=0)) with | some n=>n | none=>0
def lz (x y:Int):Int:=if x<y then -1 else if y<x then 1 else 0
def bM (a b:Int):Int:=if a=0 then b else a
def zv:Val:=(0,false,[],0,())
def ahd (i f i2 f2:Int):Bool:=decide (i<i2)||(decide (i=i2)&&decide (f<f2))
def md (l:List Alt):Bool:=decide (l.length≤1048576)
def stG (s:Sta):Bool:=decide (s.1.length≤1048576)&&s.1.all (fun x => !x.2.2.1.isEmpty&&md x.2.2.1)
def p5 (x:Slt):Val:=match x.2.2.1 with | a::_=>a.2.1 | []=>zv
def bJ (s:Sta):Mdl:=((s.1.filter (fun x => !eqD ap (p5 x) zv)).map (fun x=>(x.1,x.2.1,p5 x,())),())
def Qx (m:Mdl):Bool:=decide (m.1.length≤1048576)
def jy (a b:Slt):Prop:=ahd a.1 a.2.1 b.1 b.2.1=true
instance slotDec (a b:Slt):Decidable (jy a b):=inferInstanceAs (Decidable (_=true))
def af3 (l:List Slt):Bool:=decide (l.Pairwise jy)
def cK (s:Sta) (_ _:Int):Bool:=decide (s.1.length≤1048576)&&af3 s.1
def cn (s:Sta) (id field:Int):List Slt:=s.1.takeWhile (fun x=>ahd x.1 x.2.1 id field)
def l7 (s:Sta) (id field:Int):List Slt:=s.1.dropWhile (fun x=>ahd x.1 x.2.1 id field)
def aq (s:Sta) (id field:Int):Int:=((cn s id field).length:Int)
def gQ (s:Sta) (id field:Int):List Alt:=match l7 s id field with
 | x::_=>if x.1=id∧x.2.1=field then x.2.2.1 else []
 | []=>[]
def WR (id field:Int):List Slt→List Slt
 | x::r=>if x.1=id∧x.2.1=field then r else x::r
 | []=>[]
def nl (s:Sta) (id field:Int) (l:List Alt):Sta:=(cn s id field++(if l.isEmpty then [] else [(id,field,l,())])++WR id field (l7 s id field),())
def ac8 (s:Sta) (id field:Int) (_:List Alt):Bool:=cK s id field
def eh (l:List Alt):Bool:=match l with
 | a::r=>r.any (fun b => !eqD ap b.2.1 a.2.1)
 | []=>false
def idA (l:List Alt):List Alt:=l
def u9 (l:List Alt):Bool := !l.isEmpty&&md l
def jB (a b:Stg):Int:=bM (lz a.1.1 b.1.1) (bM (lz a.1.2.1 b.1.2.1) (lz a.2.1 b.2.1))
def aco (_:Stg):Bool:=true
def yG (c:Cel):Bool:=decide (c.2.1=2) && !decide (c.2.2.1.2.2.2.1=0)&&decide (c.2.2.1.1≥1)&&decide (c.2.2.1.1≤3)
def XT (c:Cel):Stg:=((c.2.2.1.2.2.2.1,c.2.2.1.1,()),c.1,())
def uz (m:Mdl):List Stg:=(m.1.filter yG).map XT
def g8 (m:Mdl):List Stg:=dv jB (uz m)
def rG:Nat→List Stg→List Reg
 | 0,_=>[]
 | _+1,[]=>[]
 | n+1,x::r=>(if (r.takeWhile (fun y=>eqD bm y.1 x.1)).isEmpty then [] else [(2,x.1.1,x.1.2.1,[],x.2.1::(r.takeWhile (fun y=>eqD bm y.1 x.1)).map (·.2.1),())])++rG n (r.dropWhile (fun y=>eqD bm y.1 x.1))
def gt (s:Sta):List Reg:=(s.1.filter (fun x=>eh x.2.2.1)).map (fun x=>(1,x.1,x.2.1,x.2.2.1,[],()))
def E0 (s:Sta):List Reg:=gt s++rG (g8 (bJ s)).length (g8 (bJ s))
def Tk (s:Sta):Bool:=stG s
end Go.Proofs.YtboikinjlmjgjaaGreat.Abs
namespace Go.Proofs.YtboikinjlmjgjaaGreat.Abs
open Go
def gU:TabL:={
 ty:=[(3,aa),(4,.bool),(9,.str),(23,(.slice aa)),(24,(.slice ac)),(35,(.slice aG)),(37,(.slice ak)),(39,au),(41,(.slice aK)),(43,aG),(48,aM),(51,ap),(53,aK),(75,ak),(78,(.slice av)),(81,bm),(83,av),(86,ac)],
 cells:=[(3,1),(4,1),(9,1),(23,1),(24,1),(35,1),(37,1),(39,1),(41,1),(43,5),(48,1),(51,4),(53,5),(72,1),(75,3),(78,1),(81,2),(83,3),(86,6),(133,1)],
 offs:=[((39,0),0),((43,0),0),((43,1),1),((43,2),2),((43,3),3),((43,4),4),((48,0),0),((51,0),0),((51,1),1),((51,2),2),((51,3),3),((53,0),0),((53,1),1),((75,0),0),((75,1),1),((75,2),2),((81,0),0),((81,1),1),((83,0),0),((83,1),2),((86,0),0),((86,1),1),((86,2),2)],
 one:=[(43,5)],
 elem:=[(23,3),(24,86),(35,43),(37,75),(41,53),(78,83)] }
theorem da:TabOk Tryz.prog gU.tab:=TabL.ok (by kernel_rfl)
def no (x:Int):Bool:=(!decide (x=x))
def Bi:List (Nat×Ent):=[]
def adV:Par:=⟨gU.tab,(ay Bi),(fun _=>ao []),(fun _=>ao [])⟩
noncomputable def adU:Code:=(Tryz.f80.body).getD .skip
noncomputable def TG:Fi:=⟨adV,6,[.tmp 2],adU⟩
def adW:KT:=bc gU.tab [.tmp 2] [.bool]
noncomputable def Gz (fuel:Nat) (x:Int):Option AV:=dX fi0 hs0 0 TG [.bool] fuel [.val aa x]
theorem Y6 (fuel:Nat) (x:Int):Gz fuel x=some (.val .bool (!decide (x=x))):=by kernel_rfl
theorem Y5:aV Tryz.prog Bi→FiOk Tryz.prog 80 (TG):=fun h=>⟨⟨Tryz.f80,Tryz.func80,rfl,by kernel_rfl,by kernel_rfl,by kernel_rfl⟩,da,ah h⟩
def Bh:Ent:=sp1 aa (fun _=>true) (fun x0 => .val .bool (no x0))
theorem V7 (hT:aV Tryz.prog Bi) (h : ∀ (x0:Int),∃ fuel,Gz fuel x0=some (.val .bool (no x0))):ar Tryz.prog 80 Bh:=eA fun x0 _=>(let ⟨_,hf⟩:=h x0; aO follows (fun _ _ h=>by cases h) bI (Y5 hT) (ds:=[⟨_,x0⟩]) hf)
theorem V8 (hT:aV Tryz.prog Bi):ar Tryz.prog 80 Bh:=V7 hT (fun x=>⟨0,by rw [Y6]; first | rfl | (simp only [eP]; rfl)⟩)
def gf (x:Int) (y:Int):Int:=(bif (no x) then (bif (no y) then (0:Int) else (-1:Int)) else (bif (no y) then (1:Int) else (bif (decide (x<y)) then (-1:Int) else (bif (decide (x>y)) then (1:Int) else (0:Int)))))
def KP:List (Nat×Ent):=[(80,Bh)]
def ajB:Par:=⟨gU.tab,(ay KP),(fun _=>ao []),(fun _=>ao [])⟩
noncomputable def ajA:Code:=(Tryz.f35.body).getD .skip
noncomputable def ab9:Fi:=⟨ajB,20,[.tmp 4],ajA⟩
noncomputable def OH (fuel:Nat) (x:Int) (y:Int):Option AV:=dX fi0 hs0 0 ab9 [aa] fuel [.val aa x,.val aa y]
theorem afN (fuel:Nat) (x:Int) (y:Int):OH fuel x y=(bif (no x) then (bif (no y) then some (.val aa (0:Int)) else some (.val aa (-1:Int))) else (bif (no y) then some (.val aa (1:Int)) else (bif (decide (x<y)) then some (.val aa (-1:Int)) else (bif (decide (x>y)) then some (.val aa (1:Int)) else some (.val aa (0:Int)))))):=by kernel_rfl
theorem afM:aV Tryz.prog KP→FiOk Tryz.prog 35 (ab9):=fun h=>⟨⟨Tryz.f35,Tryz.func35,rfl,by kernel_rfl,by kernel_rfl,by kernel_rfl⟩,da,ah h⟩
def zd:Ent:=sp2 aa aa (fun _ _=>true) (fun x0 x1 => .val aa (gf x0 x1))
theorem ab7 (hT:aV Tryz.prog KP) (h : ∀ (x0:Int) (x1:Int),∃ fuel,OH fuel x0 x1=some (.val aa (gf x0 x1))):ar Tryz.prog 35 zd:=qE fun x0 x1 _=>(let ⟨_,hf⟩:=h x0 x1; aO follows (fun _ _ h=>by cases h) bI (afM hT) (ds:=[⟨_,x0⟩,⟨_,x1⟩]) hf)
theorem ab8 (hT:aV Tryz.prog KP):ar Tryz.prog 35 zd:=ab7 hT (fun x y=>⟨0,by rw [afN]; first | rfl | (simp only [eP]; rfl)⟩)
def To:MS:=⟨0,[],[(3,.dat aa),(6,.dat (.slice aa)),(7,.dat aa),(8,.dat aa)]⟩
def YC:List (Nat×Ent):=[]
def YD:Par:=⟨gU.tab,(ay YC),(fun _=>ao []),(fun _=>ao [(3,To)])⟩
noncomputable def YB:Code:=(Tryz.f34.body).getD .skip
noncomputable def agi:Fi:=⟨YD,18,[.tmp 2],YB⟩
noncomputable def ahc:Code:=sub YB [1,1,0,1,0,0]
noncomputable def ahb:Code:=sub YB [1,1,1]
def aj2:KT:=bc gU.tab [.tmp 2] [aa]
noncomputable def Ix (fuel:Nat) (n:Nat) (vals:(List Int)) (t8:Int):Option AV:=aB 0 To (fun σ k=>be (aD fi0 hs0 fuel 0) YD 0 fuel ahc σ k) (ai 0 (aw 0 none (fun σ k=>be (aD fi0 hs0 fuel 0) YD 0 fuel ahb σ k) aj2)) n ⟨mkE 18 [(3,.val aa (0:Int)),(6,.val (.slice aa) vals),(7,.val aa (vals.length:Int)),(8,.val aa t8)],mkH 0 []⟩
noncomputable def Iw (fuel:Nat) (vals:(List Int)):Option AV:=dX fi0 hs0 0 agi [aa] fuel [.val (.slice aa) vals]
theorem Gi (fuel n3:Nat) (vals:(List Int)) (t8:Int):Ix fuel (n3+1) vals t8=(bif (decide (t8<(vals.length:Int))) then (bif (decide (0≤t8)&&decide (t8<(vals.length:Int))) then (bif (!decide ((ix aa vals t8)=0)) then some (.val aa (ix aa vals t8)) else (Ix fuel n3 vals (w64 (t8+1)))) else none) else some (.val aa (0:Int))):=by kernel_rfl
theorem aha (fuel:Nat) (vals:(List Int)):Iw fuel vals=(Ix fuel fuel vals 0):=by kernel_rfl
theorem ag9:aV Tryz.prog YC→FiOk Tryz.prog 34 (agi):=fun h=>⟨⟨Tryz.f34,Tryz.func34,rfl,by kernel_rfl,by kernel_rfl,by kernel_rfl⟩,da,ah h⟩
def MQ:Ent:=sp1 (.slice aa) (fun x0=>QC x0) (fun x0 => .val aa (orF x0))
theorem adA (hT:aV Tryz.prog YC) (h : ∀ (x0:(List Int)),QC x0=true → ∃ fuel,Iw fuel x0=some (.val aa (orF x0))):ar Tryz.prog 34 MQ:=eA fun x0 hg=>(let ⟨_,hf⟩:=h x0 hg; aO follows (fun _ _ h=>by cases h) bI (ag9 hT) (ds:=[⟨_,x0⟩]) hf)
def jC (id:Int) (field:Int) (id2:Int) (field2:Int):Bool:=(bif (decide (id<id2)) then true else (bif (decide (id=id2)) then (decide (field<field2)) else false))
def BF:List (Nat×Ent):=[]
def af8:Par:=⟨gU.tab,(ay BF),(fun _=>ao []),(fun _=>ao [])⟩
noncomputable def af7:Code:=(Tryz.f85.body).getD .skip
noncomputable def Uw:Fi:=⟨af8,22,[.tmp 8],af7⟩
noncomputable def zi (fuel:Nat) (id:Int) (field:Int) (id2:Int) (field2:Int):Option AV:=dX fi0 hs0 0 Uw [.bool] fuel [.val aa id,.val aa field,.val aa id2,.val aa field2]
theorem Xc (fuel:Nat) (id:Int) (field:Int) (id2:Int) (field2:Int):zi fuel id field id2 field2=(bif (((aC (!(decide (id<id2))) (!(decide (id<id2))))&&((aC (!(decide (id<id2))) (!(decide (id<id2))))&&true))&&true) then (bif (((aC (!(decide (id<id2))) (!(decide (id<id2))))&&true)&&true) then (bif (((aC ((!(decide (id<id2)))&&(decide (id=id2))) ((!(decide (id<id2)))&&(decide (id=id2))))&&((aC ((!(decide (id<id2)))&&(decide (id=id2))) ((!(decide (id<id2)))&&(decide (id=id2))))&&true))&&true) then (bif ((aC (!(decide (id<id2))) (!(decide (id<id2))))&&(aC (!(decide (id<id2))) ((aC ((!(decide (id<id2)))&&(decide (id=id2))) ((!(decide (id<id2)))&&(decide (id=id2))))&&true))) then (bif (aC (!(decide (id<id2))) (!(decide (id<id2)))) then some (.val .bool (bif (decide (id<id2)) then true else (bif (decide (id=id2)) then (decide (field<field2)) else false))) else none) else none) else none) else none) else none):=by kernel_rfl
theorem acy (fuel:Nat) (id:Int) (field:Int) (id2:Int) (field2:Int):zi fuel id field id2 field2=some (.val .bool (bif (decide (id<id2)) then true else (bif (decide (id=id2)) then (decide (field<field2)) else false))):=by simpa only [aS,bu,Bool.and_true,Bool.true_and,cond_true,cond_false,decide_true,decide_false,Bool.not_false,Bool.not_true,Int.reduceLE,Int.reduceEq,Int.reduceLT,Nat.zero_add] using Xc fuel id field id2 field2
theorem acx:aV Tryz.prog BF→FiOk Tryz.prog 85 (Uw):=fun h=>⟨⟨Tryz.f85,Tryz.func85,rfl,by kernel_rfl,by kernel_rfl,by kernel_rfl⟩,da,ah h⟩
def nb:Ent:=sp4 aa aa aa aa (fun _ _ _ _=>true) (fun x0 x1 x2 x3 => .val .bool (jC x0 x1 x2 x3))
theorem Xd (hT:aV Tryz.prog BF) (h : ∀ (x0:Int) (x1:Int) (x2:Int) (x3:Int),∃ fuel,zi fuel x0 x1 x2 x3=some (.val .bool (jC x0 x1 x2 x3))):ar Tryz.prog 85 nb:=XU fun x0 x1 x2 x3 _=>(let ⟨_,hf⟩:=h x0 x1 x2 x3; aO follows (fun _ _ h=>by cases h) bI (acx hT) (ds:=[⟨_,x0⟩,⟨_,x1⟩,⟨_,x2⟩,⟨_,x3⟩]) hf)
theorem Xe (hT:aV Tryz.prog BF):ar Tryz.prog 85 nb:=Xd hT (fun id field id2 field2=>⟨0,by rw [acy]; first | rfl | (simp only [eP]; rfl)⟩)
def C9:List (Nat×Ent):=[]
def wL:Par:=⟨gU.tab,(ay C9),(fun _=>ao []),(fun _=>ao [])⟩
noncomputable def wK:Code:=(Tryz.f14.body).getD .skip
noncomputable def Nb:Fi:=⟨wL,36,[.cell 2 48],wK⟩
noncomputable def VP:Code:=sub wK [1,1,0,1,0,1]
noncomputable def VO:Code:=sub wK [1,1,0,1,0,0]
noncomputable def VN:Code:=sub wK [1,1,1]
def jQ:List (Nat×Ent):=[]
def IM:Par:=⟨gU.tab,(ay jQ),(fun _=>ao []),(fun _=>ao [])⟩
noncomputable def IL:Code:=(Tryz.f29.body).getD .skip
noncomputable def wJ:Fi:=⟨IM,4,[.tmp 2],IL⟩
def qY:MS:=⟨10,[(0,[.dat (.slice ak)]),(1,[.own ac 86]),(2,[.own ac 86]),(5,[.dat (.slice ak)])],[(0,.keep),(6,.dat (.slice ak)),(7,.dat aa),(8,.dat aa)]⟩
def jP:List (Nat×Ent):=[]
def wH:Par:=⟨gU.tab,(ay jP),(fun _=>ao []),(fun _=>ao [(1,qY)])⟩
noncomputable def wG:Code:=(Tryz.f76.body).getD .skip
noncomputable def wI:Fi:=⟨wH,17,[],wG⟩
noncomputable def E9:Code:=sub wG [1,0,0]
def wM:KT:=bc gU.tab [.cell 2 48] [aM]
noncomputable def ia:FuncId→Option Fi:=ao [(29,wJ),(76,wI)]
noncomputable def cQ (fuel:Nat) (n:Nat) (s:au.den) (t8:Int) (b0_0:(List ak.den)) (b1_0:(List ac.den)) (b2_0:(List ac.den)) (b5_0:(List ak.den)):Option AV:=aB 10 qY (fun σ k=>be (afQ (Gu ia hs0 fuel 0) (Cq 9 (aD ia hs0 fuel 1).call (mkE 36 [(0,.val au s),(1,.box 0 0),(2,.box 1 0),(3,.box 2 0),(5,.val au s),(6,.fn 76 (br [.box 5 0]))]) [7] (fun lo σ k=>be (aD ia hs0 fuel 1) wL lo fuel VP σ (wU (fun σ k=>be (aD ia hs0 fuel 1) wL lo fuel VO σ k) k)))) wH 10 fuel E9 σ k) (ai 0 (vV gU.tab [] (Y0 (mkE 36 [(0,.val au s),(1,.box 0 0),(2,.box 1 0),(3,.box 2 0),(5,.val au s),(6,.fn 76 (br [.box 5 0]))]) (ai 0 (aw 0 none (fun σ k=>be (aD ia hs0 fuel 1) wL 0 fuel VN σ k) wM))))) n ⟨mkE 17 [(0,.yld 9),(6,.val (.slice ak) s.1),(7,.val aa (s.1.length:Int)),(8,.val aa t8)],mkH 12 [(0,.box [.val (.slice ak) b0_0]),(1,.box [.own 10 0 ac b1_0]),(2,.box [.own 11 0 ac b2_0]),(5,.box [.val (.slice ak) b5_0]),(9,.dead),(10,.row ac 86 0),(11,.row ac 86 0)]⟩
noncomputable def uK (fuel:Nat) (s:au.den):Option AV:=dX ia hs0 1 Nb [aM] fuel [.val au s]
theorem wF (fuel n76_1:Nat) (s:au.den) (t8:Int) (b0_0:(List ak.den)) (b1_0:(List ac.den)) (b2_0:(List ac.den)) (b5_0:(List ak.den)):cQ fuel (n76_1+1) s t8 b0_0 b1_0 b2_0 b5_0=(bif (decide (t8<(s.1.length:Int))) then (bif (decide (0≤t8)&&decide (t8<(s.1.length:Int))) then (bif (((aC (decide ((((ix ak s.1 t8).2.2.1).length:Int)>0)) (decide ((((ix ak s.1 t8).2.2.1).length:Int)>0)))&&true)&&true) then (bif (((aC (decide ((((ix ak s.1 t8).2.2.1).length:Int)>0)) (decide ((((ix ak s.1 t8).2.2.1).length:Int)>0)))&&true)&&(aC (decide ((((ix ak s.1 t8).2.2.1).length:Int)>0)) (decide (0≤(0:Int))&&decide (0<(((ix ak s.1 t8).2.2.1).length:Int))))) then (bif (((aC (decide ((((ix ak s.1 t8).2.2.1).length:Int)>0)) (decide ((((ix ak s.1 t8).2.2.1).length:Int)>0)))&&true)&&true) then (bif (((aC (decide ((((ix ak s.1 t8).2.2.1).length:Int)>0)) (decide ((((ix ak s.1 t8).2.2.1).length:Int)>0)))&&true)&&true) then (bif (((aC (decide ((((ix ak s.1 t8).2.2.1).length:Int)>0)) (decide ((((ix ak s.1 t8).2.2.1).length:Int)>0)))&&((aC (decide ((((ix ak s.1 t8).2.2.1).length:Int)>0)) (decide ((((ix ak s.1 t8).2.2.1).length:Int)>0)))&&true))&&true) then (bif ((aC (decide ((((ix ak s.1 t8).2.2.1).length:Int)>0)) (decide ((((ix ak s.1 t8).2.2.1).length:Int)>0)))&&true) then (bif (bif (decide ((((ix ak s.1 t8).2.2.1).length:Int)>0)) then (!eqD ap (ix aK (ix ak s.1 t8).2.2.1 0).2.1 (0,false,[],0,())) else false) then (bif (decide (0≤(0:Int))&&decide (0<(((ix ak s.1 t8).2.2.1).length:Int))) then (bif (decide (List.length b2_0+List.length ([((ix ak s.1 t8).1,(ix ak s.1 t8).2.1,(ix aK (ix ak s.1 t8).2.2.1 0).2.1,())]:List ac.den)≤LIM)) then (cQ fuel n76_1 s (w64 (t8+1)) b0_0 b1_0 (b2_0++[((ix ak s.1 t8).1,(ix ak s.1 t8).2.1,(ix aK (ix ak s.1 t8).2.2.1 0).2.1,())]) b5_0) else none) else none) else (cQ fuel n76_1 s (w64 (t8+1)) b0_0 b1_0 b2_0 b5_0)) else none) else none) else none) else none) else none) else none) else none) else some (.val aM (b2_0,()))):=by kernel_rfl
theorem ot (fuel n76_1:Nat) (s:au.den) (t8:Int) (b0_0:(List ak.den)) (b1_0:(List ac.den)) (b2_0:(List ac.den)) (b5_0:(List ak.den)):cQ fuel (n76_1+1) s t8 b0_0 b1_0 b2_0 b5_0=(bif (decide (t8<(s.1.length:Int))) then (bif (decide (0≤t8)&&decide (t8<(s.1.length:Int))) then (bif (aC (decide ((((ix ak s.1 t8).2.2.1).length:Int)>0)) (decide (0≤(0:Int))&&decide (0<(((ix ak s.1 t8).2.2.1).length:Int)))) then (bif (bif (decide ((((ix ak s.1 t8).2.2.1).length:Int)>0)) then (!eqD ap (ix aK (ix ak s.1 t8).2.2.1 0).2.1 (0,false,[],0,())) else false) then (bif (decide (0≤(0:Int))&&decide (0<(((ix ak s.1 t8).2.2.1).length:Int))) then (bif (decide (List.length b2_0+List.length ([((ix ak s.1 t8).1,(ix ak s.1 t8).2.1,(ix aK (ix ak s.1 t8).2.2.1 0).2.1,())]:List ac.den)≤LIM)) then (cQ fuel n76_1 s (w64 (t8+1)) b0_0 b1_0 (b2_0++[((ix ak s.1 t8).1,(ix ak s.1 t8).2.1,(ix aK (ix ak s.1 t8).2.2.1 0).2.1,())]) b5_0) else none) else none) else (cQ fuel n76_1 s (w64 (t8+1)) b0_0 b1_0 b2_0 b5_0)) else none) else none) else some (.val aM (b2_0,()))):=by simpa only [aS,bu,Bool.and_true,Bool.true_and,cond_true,cond_false,decide_true,decide_false,Bool.not_false,Bool.not_true,Int.reduceLE,Int.reduceEq,Int.reduceLT,Nat.zero_add] using wF fuel n76_1 s t8 b0_0 b1_0 b2_0 b5_0
theorem VM (fuel:Nat) (s:au.den):uK fuel s=(cQ fuel fuel s 0 (s.1) [] [] (s.1)):=by kernel_rfl
theorem VL:aV Tryz.prog C9→FiOk Tryz.prog 14 (Nb):=fun h=>⟨⟨Tryz.f14,Tryz.func14,rfl,by kernel_rfl,by kernel_rfl,by kernel_rfl⟩,da,ah h⟩
theorem Fa:aV Tryz.prog jQ→FiOk Tryz.prog 29 (wJ):=fun h=>⟨⟨Tryz.f29,Tryz.func29,rfl,by kernel_rfl,by kernel_rfl,by kernel_rfl⟩,da,ah h⟩
theorem E8:aV Tryz.prog jP→FiOk Tryz.prog 76 (wI):=fun h=>⟨⟨Tryz.f76,Tryz.func76,rfl,by kernel_rfl,by kernel_rfl,by kernel_rfl⟩,da,ah h⟩
theorem Na (h0:aV Tryz.prog jQ) (h1:aV Tryz.prog jP) : ∀ f x,ia f=some x→FiOk Tryz.prog f x:=fun f x h=>by
 have hm:=fq h
 simp only [List.mem_cons,List.not_mem_nil,or_false,Prod.mk.injEq] at hm
 rcases hm with ⟨rfl,rfl⟩ | ⟨rfl,rfl⟩
 ·exact Fa h0
 ·exact E8 h1
def C8:Ent:=sp1 au (fun x0=>stG x0) (fun x0 => .val aM (bJ x0))
theorem Qw (hT:aV Tryz.prog C9) (h0:aV Tryz.prog jQ) (h1:aV Tryz.prog jP) (h : ∀ (x0:au.den),stG x0=true → ∃ fuel,uK fuel x0=some (.val aM (bJ x0))):ar Tryz.prog 14 C8:=eA fun x0 hg=>(let ⟨_,hf⟩:=h x0 hg; aO follows (Na h0 h1) bI (VL hT) (ds:=[⟨_,x0⟩]) hf)
def li:MS:=⟨3,[(0,[.dat (.slice ak)]),(1,[.own ac 86]),(2,[.own ac 86])],[(1,.keep),(2,.keep),(3,.keep),(4,.dat aa)]⟩
def C7:List (Nat×Ent):=[]
def lj:Par:=⟨gU.tab,(ay C7),(fun _=>ao [(4,li)]),(fun _=>ao [(3,li)])⟩
noncomputable def wE:Code:=(Tryz.f61.body).getD .skip
noncomputable def M8:Fi:=⟨lj,41,[.cell 2 48],wE⟩
noncomputable def Gt:Code:=sub wE [1,1,0,1,0,0]
noncomputable def yA:Code:=sub wE [1,1,1]
noncomputable def VK:Code:=sub wE [1,1,0,1,0,0,1,1]
noncomputable def sT (fuel:Nat) (n:Nat) (s:au.den) (i:Int) (b2_0:(List ac.den)):Option AV:=aB 0 li (fun σ k=>be (aD fi0 hs0 fuel 0) lj 0 fuel Gt σ k) (ai 0 (aw 0 none (fun σ k=>be (aD fi0 hs0 fuel 0) lj 0 fuel yA σ k) wM)) n ⟨mkE 41 [(1,.box 0 0),(2,.box 1 0),(3,.box 2 0),(4,.val aa i)],mkH 5 [(0,.box [.val (.slice ak) s.1]),(1,.box [.own 3 0 ac []]),(2,.box [.own 4 0 ac b2_0]),(3,.row ac 86 0),(4,.row ac 86 0)]⟩
noncomputable def yz (fuel n3:Nat) (i:Int) (s:au.den) (b2_0:(List ac.den)):Option AV:=be (aD fi0 hs0 fuel 0) lj 0 fuel VK ⟨mkE 41 [(1,.box 0 0),(2,.box 1 0),(3,.box 2 0),(4,.val aa i)],mkH 5 [(0,.box [.val (.slice ak) s.1]),(1,.box [.own 3 0 ac []]),(2,.box [.own 4 0 ac b2_0]),(3,.row ac 86 0),(4,.row ac 86 0)]⟩ (mR 0 li (aB 0 li (fun σ k=>be (aD fi0 hs0 fuel 0) lj 0 fuel Gt σ k) (ai 0 (aw 0 none (fun σ k=>be (aD fi0 hs0 fuel 0) lj 0 fuel yA σ k) wM)) n3) (ai 0 (aw 0 none (fun σ k=>be (aD fi0 hs0 fuel 0) lj 0 fuel yA σ k) wM)))
noncomputable def uJ (fuel:Nat) (s:au.den):Option AV:=dX fi0 hs0 0 M8 [aM] fuel [.val au s]
theorem wB (fuel n3:Nat) (s:au.den) (i:Int) (b2_0:(List ac.den)):sT fuel (n3+1) s i b2_0=(bif (decide (i<(s.1.length:Int))) then (bif (decide (0≤i)&&decide (i<(s.1.length:Int))) then (bif (decide (0≤(0:Int))&&decide (0<(((ix ak s.1 i).2.2.1).length:Int))) then (bif (!eqD ap (ix aK (ix ak s.1 i).2.2.1 0).2.1 (0,false,[],0,())) then (bif (decide (0≤(0:Int))&&decide (0<(((ix ak s.1 i).2.2.1).length:Int))) then (bif (decide (List.length b2_0+List.length ([((ix ak s.1 i).1,(ix ak s.1 i).2.1,(ix aK (ix ak s.1 i).2.2.1 0).2.1,())]:List ac.den)≤LIM)) then (yz fuel n3 i s (b2_0++[((ix ak s.1 i).1,(ix ak s.1 i).2.1,(ix aK (ix ak s.1 i).2.2.1 0).2.1,())])) else none) else none) else (yz fuel n3 i s b2_0)) else none) else none) else some (.val aM (b2_0,()))):=by kernel_rfl
theorem wC (fuel n3:Nat) (i:Int) (s:au.den) (b2_0:(List ac.den)):yz fuel n3 i s b2_0=(sT fuel n3 s (w64 (i+1)) b2_0):=by kernel_rfl
theorem VJ (fuel:Nat) (s:au.den):uJ fuel s=(sT fuel fuel s 0 []):=by kernel_rfl
theorem VI:aV Tryz.prog C7→FiOk Tryz.prog 61 (M8):=fun h=>⟨⟨Tryz.f61,Tryz.func61,rfl,by kernel_rfl,by kernel_rfl,by kernel_rfl⟩,da,ah h⟩
def wD:Ent:=sp1 au (fun x0=>stG x0) (fun x0 => .val aM (bJ x0))
theorem Qv (hT:aV Tryz.prog C7) (h : ∀ (x0:au.den),stG x0=true → ∃ fuel,uJ fuel x0=some (.val aM (bJ x0))):ar Tryz.prog 61 wD:=eA fun x0 hg=>(let ⟨_,hf⟩:=h x0 hg; aO follows (fun _ _ h=>by cases h) bI (VI hT) (ds:=[⟨_,x0⟩]) hf)
def CM:MS:=⟨1,[(0,[.dat (.slice ak)])],[(1,.dat aa),(2,.dat aa),(3,.keep),(7,.dat aa),(8,.dat aa)]⟩
def CO:List (Nat×Ent):=[(85,nb)]
def CP:Par:=⟨gU.tab,(ay CO),(fun _=>ao []),(fun _=>ao [(2,CM)])⟩
noncomputable def CN:Code:=(Tryz.f116.body).getD .skip
noncomputable def MO:Fi:=⟨CP,39,[.tmp 6],CN⟩
noncomputable def Vt:Code:=sub CN [1,1,0,0,0]
noncomputable def Vs:Code:=sub CN [1,1,1]
def Yx:KT:=bc gU.tab [.tmp 6] [aa]
noncomputable def fX (fuel:Nat) (n:Nat) (id:Int) (field:Int) (s:au.den) (lo:Int) (hi:Int):Option AV:=aB 0 CM (fun σ k=>be (aD fi0 hs0 fuel 0) CP 0 fuel Vt σ k) (ai 0 (aw 0 none (fun σ k=>be (aD fi0 hs0 fuel 0) CP 0 fuel Vs σ k) Yx)) n ⟨mkE 39 [(1,.val aa id),(2,.val aa field),(3,.box 0 0),(7,.val aa lo),(8,.val aa hi)],mkH 1 [(0,.box [.val (.slice ak) s.1])]⟩
noncomputable def uG (fuel:Nat) (s:au.den) (id:Int) (field:Int):Option AV:=dX fi0 hs0 0 MO [aa] fuel [.val au s,.val aa id,.val aa field]
theorem E2 (fuel n2:Nat) (id:Int) (field:Int) (s:au.den) (lo:Int) (hi:Int):fX fuel (n2+1) id field s lo hi=(bif (decide (lo<hi)) then (bif (!decide ((2:Int)=0)) then (bif (decide (0≤(w64 (Int.tdiv (w64 (lo+hi)) 2)))&&decide ((w64 (Int.tdiv (w64 (lo+hi)) 2))<(s.1.length:Int))) then (bif (decide (0≤(w64 (Int.tdiv (w64 (lo+hi)) 2)))&&decide ((w64 (Int.tdiv (w64 (lo+hi)) 2))<(s.1.length:Int))) then (bif (jC ((ix ak s.1 (w64 (Int.tdiv (w64 (lo+hi)) 2))).1) ((ix ak s.1 (w64 (Int.tdiv (w64 (lo+hi)) 2))).2.1) id field) then (fX fuel n2 id field s (w64 ((w64 (Int.tdiv (w64 (lo+hi)) 2))+1)) hi) else (fX fuel n2 id field s lo (w64 (Int.tdiv (w64 (lo+hi)) 2)))) else none) else none) else none) else some (.val aa lo)):=by kernel_rfl
theorem Iq (fuel n2:Nat) (id:Int) (field:Int) (s:au.den) (lo:Int) (hi:Int):fX fuel (n2+1) id field s lo hi=(bif (decide (lo<hi)) then (bif (decide (0≤(w64 (Int.tdiv (w64 (lo+hi)) 2)))&&decide ((w64 (Int.tdiv (w64 (lo+hi)) 2))<(s.1.length:Int))) then (bif (decide (0≤(w64 (Int.tdiv (w64 (lo+hi)) 2)))&&decide ((w64 (Int.tdiv (w64 (lo+hi)) 2))<(s.1.length:Int))) then (bif (jC ((ix ak s.1 (w64 (Int.tdiv (w64 (lo+hi)) 2))).1) ((ix ak s.1 (w64 (Int.tdiv (w64 (lo+hi)) 2))).2.1) id field) then (fX fuel n2 id field s (w64 ((w64 (Int.tdiv (w64 (lo+hi)) 2))+1)) hi) else (fX fuel n2 id field s lo (w64 (Int.tdiv (w64 (lo+hi)) 2)))) else none) else none) else some (.val aa lo)):=by simpa only [aS,bu,Bool.and_true,Bool.true_and,cond_true,cond_false,decide_true,decide_false,Bool.not_false,Bool.not_true,Int.reduceLE,Int.reduceEq,Int.reduceLT,Nat.zero_add] using E2 fuel n2 id field s lo hi
theorem Vr (fuel:Nat) (s:au.den) (id:Int) (field:Int):uG fuel s id field=(fX fuel fuel id field s 0 (s.1.length:Int)):=by kernel_rfl
theorem Vq:aV Tryz.prog CO→FiOk Tryz.prog 116 (MO):=fun h=>⟨⟨Tryz.f116,Tryz.func116,rfl,by kernel_rfl,by kernel_rfl,by kernel_rfl⟩,da,ah h⟩
def wn:Ent:=sp3 au aa aa (fun x0 x1 x2=>cK x0 x1 x2) (fun x0 x1 x2 => .val aa (aq x0 x1 x2))
theorem Qe (hT:aV Tryz.prog CO) (h : ∀ (x0:au.den) (x1:Int) (x2:Int),cK x0 x1 x2=true → ∃ fuel,uG fuel x0 x1 x2=some (.val aa (aq x0 x1 x2))):ar Tryz.prog 116 wn:=XV fun x0 x1 x2 hg=>(let ⟨_,hf⟩:=h x0 x1 x2 hg; aO follows (fun _ _ h=>by cases h) bI (Vq hT) (ds:=[⟨_,x0⟩,⟨_,x1⟩,⟨_,x2⟩]) hf)
def KZ:List (Nat×Ent):=[(116,wn)]
def af5:Par:=⟨gU.tab,(ay KZ),(fun _=>ao []),(fun _=>ao [])⟩
noncomputable def af4:Code:=(Tryz.f83.body).getD .skip
noncomputable def Uu:Fi:=⟨af5,43,[.tmp 6],af4⟩
noncomputable def tM (fuel:Nat) (s:au.den) (id:Int) (field:Int):Option AV:=dX fi0 hs0 0 Uu [(.slice aK)] fuel [.val au s,.val aa id,.val aa field]
theorem Xa (fuel:Nat) (s:au.den) (id:Int) (field:Int):tM fuel s id field=(bif (cK s id field) then (bif (((aC (decide ((aq s id field)<(s.1.length:Int))) (decide ((aq s id field)<(s.1.length:Int))))&&true)&&true) then (bif (((aC (decide ((aq s id field)<(s.1.length:Int))) (decide ((aq s id field)<(s.1.length:Int))))&&((aC (decide ((aq s id field)<(s.1.length:Int))) (decide ((aq s id field)<(s.1.length:Int))))&&true))&&(aC (decide ((aq s id field)<(s.1.length:Int))) (decide (0≤(aq s id field))&&decide ((aq s id field)<(s.1.length:Int))))) then (bif (((aC (decide ((aq s id field)<(s.1.length:Int))) (decide ((aq s id field)<(s.1.length:Int))))&&true)&&true) then (bif (((aC (decide ((aq s id field)<(s.1.length:Int))) (decide ((aq s id field)<(s.1.length:Int))))&&true)&&true) then (bif (((aC (decide ((aq s id field)<(s.1.length:Int))) (decide ((aq s id field)<(s.1.length:Int))))&&((aC (decide ((aq s id field)<(s.1.length:Int))) (decide ((aq s id field)<(s.1.length:Int))))&&true))&&true) then (bif ((aC (decide ((aq s id field)<(s.1.length:Int))) (decide ((aq s id field)<(s.1.length:Int))))&&true) then (bif (((aC (bif (decide ((aq s id field)<(s.1.length:Int))) then (decide ((ix ak s.1 (aq s id field)).1=id)) else false) (bif (decide ((aq s id field)<(s.1.length:Int))) then (decide ((ix ak s.1 (aq s id field)).1=id)) else false))&&true)&&true) then (bif (((aC (bif (decide ((aq s id field)<(s.1.length:Int))) then (decide ((ix ak s.1 (aq s id field)).1=id)) else false) (bif (decide ((aq s id field)<(s.1.length:Int))) then (decide ((ix ak s.1 (aq s id field)).1=id)) else false))&&((aC (bif (decide ((aq s id field)<(s.1.length:Int))) then (decide ((ix ak s.1 (aq s id field)).1=id)) else false) (bif (decide ((aq s id field)<(s.1.length:Int))) then (decide ((ix ak s.1 (aq s id field)).1=id)) else false))&&true))&&(aC (bif (decide ((aq s id field)<(s.1.length:Int))) then (decide ((ix ak s.1 (aq s id field)).1=id)) else false) (decide (0≤(aq s id field))&&decide ((aq s id field)<(s.1.length:Int))))) then (bif (((aC (bif (decide ((aq s id field)<(s.1.length:Int))) then (decide ((ix ak s.1 (aq s id field)).1=id)) else false) (bif (decide ((aq s id field)<(s.1.length:Int))) then (decide ((ix ak s.1 (aq s id field)).1=id)) else false))&&true)&&true) then (bif (((aC (bif (decide ((aq s id field)<(s.1.length:Int))) then (decide ((ix ak s.1 (aq s id field)).1=id)) else false) (bif (decide ((aq s id field)<(s.1.length:Int))) then (decide ((ix ak s.1 (aq s id field)).1=id)) else false))&&true)&&true) then (bif (((aC (bif (decide ((aq s id field)<(s.1.length:Int))) then (decide ((ix ak s.1 (aq s id field)).1=id)) else false) (bif (decide ((aq s id field)<(s.1.length:Int))) then (decide ((ix ak s.1 (aq s id field)).1=id)) else false))&&((aC (bif (decide ((aq s id field)<(s.1.length:Int))) then (decide ((ix ak s.1 (aq s id field)).1=id)) else false) (bif (decide ((aq s id field)<(s.1.length:Int))) then (decide ((ix ak s.1 (aq s id field)).1=id)) else false))&&true))&&true) then (bif ((aC (bif (decide ((aq s id field)<(s.1.length:Int))) then (decide ((ix ak s.1 (aq s id field)).1=id)) else false) (bif (decide ((aq s id field)<(s.1.length:Int))) then (decide ((ix ak s.1 (aq s id field)).1=id)) else false))&&true) then (bif (bif (bif (decide ((aq s id field)<(s.1.length:Int))) then (decide ((ix ak s.1 (aq s id field)).1=id)) else false) then (decide ((ix ak s.1 (aq s id field)).2.1=field)) else false) then (bif (decide (0≤(aq s id field))&&decide ((aq s id field)<(s.1.length:Int))) then some (.val (.slice aK) (ix ak s.1 (aq s id field)).2.2.1) else none) else some (.val (.slice aK) [])) else none) else none) else none) else none) else none) else none) else none) else none) else none) else none) else none) else none) else none):=by kernel_rfl
theorem acn (fuel:Nat) (s:au.den) (id:Int) (field:Int):tM fuel s id field=(bif (cK s id field) then (bif (aC (decide ((aq s id field)<(s.1.length:Int))) (decide (0≤(aq s id field))&&decide ((aq s id field)<(s.1.length:Int)))) then (bif (aC (bif (decide ((aq s id field)<(s.1.length:Int))) then (decide ((ix ak s.1 (aq s id field)).1=id)) else false) (decide (0≤(aq s id field))&&decide ((aq s id field)<(s.1.length:Int)))) then (bif (bif (bif (decide ((aq s id field)<(s.1.length:Int))) then (decide ((ix ak s.1 (aq s id field)).1=id)) else false) then (decide ((ix ak s.1 (aq s id field)).2.1=field)) else false) then (bif (decide (0≤(aq s id field))&&decide ((aq s id field)<(s.1.length:Int))) then some (.val (.slice aK) (ix ak s.1 (aq s id field)).2.2.1) else none) else some (.val (.slice aK) [])) else none) else none) else none):=by simpa only [aS,bu,Bool.and_true,Bool.true_and,cond_true,cond_false,decide_true,decide_false,Bool.not_false,Bool.not_true,Int.reduceLE,Int.reduceEq,Int.reduceLT,Nat.zero_add] using Xa fuel s id field
theorem acm:aV Tryz.prog KZ→FiOk Tryz.prog 83 (Uu):=fun h=>⟨⟨Tryz.f83,Tryz.func83,rfl,by kernel_rfl,by kernel_rfl,by kernel_rfl⟩,da,ah h⟩
def BE:Ent:=sp3 au aa aa (fun x0 x1 x2=>cK x0 x1 x2) (fun x0 x1 x2 => .val (.slice aK) (gQ x0 x1 x2))
theorem Xb (hT:aV Tryz.prog KZ) (h : ∀ (x0:au.den) (x1:Int) (x2:Int),cK x0 x1 x2=true → ∃ fuel,tM fuel x0 x1 x2=some (.val (.slice aK) (gQ x0 x1 x2))):ar Tryz.prog 83 BE:=XV fun x0 x1 x2 hg=>(let ⟨_,hf⟩:=h x0 x1 x2 hg; aO follows (fun _ _ h=>by cases h) bI (acm hT) (ds:=[⟨_,x0⟩,⟨_,x1⟩,⟨_,x2⟩]) hf)
def X1:MS:=⟨2,[(0,[.dat (.slice ak)]),(1,[.own ak 75])],[(1,.dat aa),(2,.dat aa),(4,.keep),(8,.keep),(9,.dat aa),(10,.own ak 75)]⟩
def X0:MS:=⟨2,[(0,[.dat (.slice ak)]),(1,[.own ak 75])],[(4,.keep),(8,.keep),(9,.dat aa),(10,.own ak 75)]⟩
def PO:List (Nat×Ent):=[(116,wn)]
def PP:Par:=⟨gU.tab,(ay PO),(fun _=>ao [(5,X1),(7,X0)]),(fun _=>ao [])⟩
noncomputable def PN:Code:=(Tryz.f84.body).getD .skip
noncomputable def X4:Fi:=⟨PP,65,[.cell 8 39],PN⟩
noncomputable def ac7:Code:=sub PN [1,1,1,1]
noncomputable def ac6:Code:=sub PN [1,1,1,1,1]
def X3:KT:=bc gU.tab [.cell 8 39] [au]
noncomputable def vQ (fuel:Nat) (id:Int) (field:Int) (s:au.den) (out:(List ak.den)):Option AV:=be (aD fi0 hs0 fuel 0) PP 0 fuel ac7 ⟨mkE 65 [(1,.val aa id),(2,.val aa field),(4,.box 0 0),(8,.box 1 0),(9,.val aa (aq s id field)),(10,.own 3 0 ak out)],mkH 4 [(0,.box [.val (.slice ak) s.1]),(1,.box [.own 2 0 ak []]),(2,.row ak 75 0),(3,.row ak 75 0)]⟩ X3
noncomputable def sC (fuel:Nat) (out:(List ak.den)) (s:au.den) (t9:Int):Option AV:=be (aD fi0 hs0 fuel 0) PP 0 fuel ac6 ⟨mkE 65 [(4,.box 0 0),(8,.box 1 0),(9,.val aa t9),(10,.own 3 0 ak out)],mkH 4 [(0,.box [.val (.slice ak) s.1]),(1,.box [.own 2 0 ak []]),(2,.row ak 75 0),(3,.row ak 75 0)]⟩ X3
noncomputable def Ci (fuel:Nat) (s:au.den) (id:Int) (field:Int) (l:(List aK.den)):Option AV:=dX fi0 hs0 0 X4 [au] fuel [.val au s,.val aa id,.val aa field,.val (.slice aK) l]
theorem Md (fuel:Nat) (id:Int) (field:Int) (s:au.den) (out:(List ak.den)):vQ fuel id field s out=(bif (((aC (decide ((aq s id field)<(s.1.length:Int))) (decide ((aq s id field)<(s.1.length:Int))))&&true)&&true) then (bif (((aC (decide ((aq s id field)<(s.1.length:Int))) (decide ((aq s id field)<(s.1.length:Int))))&&((aC (decide ((aq s id field)<(s.1.length:Int))) (decide ((aq s id field)<(s.1.length:Int))))&&true))&&(aC (decide ((aq s id field)<(s.1.length:Int))) (decide (0≤(aq s id field))&&decide ((aq s id field)<(s.1.length:Int))))) then (bif (((aC (decide ((aq s id field)<(s.1.length:Int))) (decide ((aq s id field)<(s.1.length:Int))))&&true)&&true) then (bif (((aC (decide ((aq s id field)<(s.1.length:Int))) (decide ((aq s id field)<(s.1.length:Int))))&&true)&&true) then (bif (((aC (decide ((aq s id field)<(s.1.length:Int))) (decide ((aq s id field)<(s.1.length:Int))))&&((aC (decide ((aq s id field)<(s.1.length:Int))) (decide ((aq s id field)<(s.1.length:Int))))&&true))&&true) then (bif ((aC (decide ((aq s id field)<(s.1.length:Int))) (decide ((aq s id field)<(s.1.length:Int))))&&true) then (bif (((aC (bif (decide ((aq s id field)<(s.1.length:Int))) then (decide ((ix ak s.1 (aq s id field)).1=id)) else false) (bif (decide ((aq s id field)<(s.1.length:Int))) then (decide ((ix ak s.1 (aq s id field)).1=id)) else false))&&true)&&true) then (bif (((aC (bif (decide ((aq s id field)<(s.1.length:Int))) then (decide ((ix ak s.1 (aq s id field)).1=id)) else false) (bif (decide ((aq s id field)<(s.1.length:Int))) then (decide ((ix ak s.1 (aq s id field)).1=id)) else false))&&((aC (bif (decide ((aq s id field)<(s.1.length:Int))) then (decide ((ix ak s.1 (aq s id field)).1=id)) else false) (bif (decide ((aq s id field)<(s.1.length:Int))) then (decide ((ix ak s.1 (aq s id field)).1=id)) else false))&&true))&&(aC (bif (decide ((aq s id field)<(s.1.length:Int))) then (decide ((ix ak s.1 (aq s id field)).1=id)) else false) (decide (0≤(aq s id field))&&decide ((aq s id field)<(s.1.length:Int))))) then (bif (((aC (bif (decide ((aq s id field)<(s.1.length:Int))) then (decide ((ix ak s.1 (aq s id field)).1=id)) else false) (bif (decide ((aq s id field)<(s.1.length:Int))) then (decide ((ix ak s.1 (aq s id field)).1=id)) else false))&&true)&&true) then (bif (((aC (bif (decide ((aq s id field)<(s.1.length:Int))) then (decide ((ix ak s.1 (aq s id field)).1=id)) else false) (bif (decide ((aq s id field)<(s.1.length:Int))) then (decide ((ix ak s.1 (aq s id field)).1=id)) else false))&&true)&&true) then (bif (((aC (bif (decide ((aq s id field)<(s.1.length:Int))) then (decide ((ix ak s.1 (aq s id field)).1=id)) else false) (bif (decide ((aq s id field)<(s.1.length:Int))) then (decide ((ix ak s.1 (aq s id field)).1=id)) else false))&&((aC (bif (decide ((aq s id field)<(s.1.length:Int))) then (decide ((ix ak s.1 (aq s id field)).1=id)) else false) (bif (decide ((aq s id field)<(s.1.length:Int))) then (decide ((ix ak s.1 (aq s id field)).1=id)) else false))&&true))&&true) then (bif ((aC (bif (decide ((aq s id field)<(s.1.length:Int))) then (decide ((ix ak s.1 (aq s id field)).1=id)) else false) (bif (decide ((aq s id field)<(s.1.length:Int))) then (decide ((ix ak s.1 (aq s id field)).1=id)) else false))&&true) then (bif (bif (bif (decide ((aq s id field)<(s.1.length:Int))) then (decide ((ix ak s.1 (aq s id field)).1=id)) else false) then (decide ((ix ak s.1 (aq s id field)).2.1=field)) else false) then (sC fuel out s (w64 ((aq s id field)+1))) else (sC fuel out s (aq s id field))) else none) else none) else none) else none) else none) else none) else none) else none) else none) else none) else none) else none):=by kernel_rfl
theorem PL (fuel:Nat) (id:Int) (field:Int) (s:au.den) (out:(List ak.den)):vQ fuel id field s out=(bif (aC (decide ((aq s id field)<(s.1.length:Int))) (decide (0≤(aq s id field))&&decide ((aq s id field)<(s.1.length:Int)))) then (bif (aC (bif (decide ((aq s id field)<(s.1.length:Int))) then (decide ((ix ak s.1 (aq s id field)).1=id)) else false) (decide (0≤(aq s id field))&&decide ((aq s id field)<(s.1.length:Int)))) then (bif (bif (bif (decide ((aq s id field)<(s.1.length:Int))) then (decide ((ix ak s.1 (aq s id field)).1=id)) else false) then (decide ((ix ak s.1 (aq s id field)).2.1=field)) else false) then (sC fuel out s (w64 ((aq s id field)+1))) else (sC fuel out s (aq s id field))) else none) else none):=by simpa only [aS,bu,Bool.and_true,Bool.true_and,cond_true,cond_false,decide_true,decide_false,Bool.not_false,Bool.not_true,Int.reduceLE,Int.reduceEq,Int.reduceLT,Nat.zero_add] using Md fuel id field s out
theorem PK (fuel:Nat) (out:(List ak.den)) (s:au.den) (t9:Int):sC fuel out s t9=(bif (decide (0≤t9)&&decide (t9≤(s.1.length:Int))) then (bif (decide (List.length out+List.length ((List.take (List.length s.1) s.1).drop (Int.toNat t9))≤LIM)) then some (.val au ((out++((List.take (List.length s.1) s.1).drop (Int.toNat t9))),())) else none) else none):=by kernel_rfl
theorem ac5 (fuel:Nat) (s:au.den) (id:Int) (field:Int) (l:(List aK.den)):Ci fuel s id field l=(bif (cK s id field) then (bif (decide (0≤(aq s id field))&&decide ((aq s id field)≤(s.1.length:Int))) then (bif (decide (List.length ([]:List ak.den)+List.length ((List.take (Int.toNat (aq s id field)) s.1).drop 0)≤LIM)) then (bif (decide ((l.length:Int)>0)) then (bif (decide (List.length ([]++((List.take (Int.toNat (aq s id field)) s.1).drop 0))+List.length ([(id,field,l,())]:List ak.den)≤LIM)) then (vQ fuel id field s (([]++((List.take (Int.toNat (aq s id field)) s.1).drop 0))++[(id,field,l,())])) else none) else (vQ fuel id field s ([]++((List.take (Int.toNat (aq s id field)) s.1).drop 0)))) else none) else none) else none):=by kernel_rfl
theorem ac4:aV Tryz.prog PO→FiOk Tryz.prog 84 (X4):=fun h=>⟨⟨Tryz.f84,Tryz.func84,rfl,by kernel_rfl,by kernel_rfl,by kernel_rfl⟩,da,ah h⟩
def PM:Ent:=sp4 au aa aa (.slice aK) (fun x0 x1 x2 x3=>ac8 x0 x1 x2 x3) (fun x0 x1 x2 x3 => .val au (nl x0 x1 x2 x3))
theorem X2 (hT:aV Tryz.prog PO) (h : ∀ (x0:au.den) (x1:Int) (x2:Int) (x3:(List aK.den)),ac8 x0 x1 x2 x3=true → ∃ fuel,Ci fuel x0 x1 x2 x3=some (.val au (nl x0 x1 x2 x3))):ar Tryz.prog 84 PM:=XU fun x0 x1 x2 x3 hg=>(let ⟨_,hf⟩:=h x0 x1 x2 x3 hg; aO follows (fun _ _ h=>by cases h) bI (ac4 hT) (ds:=[⟨_,x0⟩,⟨_,x1⟩,⟨_,x2⟩,⟨_,x3⟩]) hf)
def Au:MS:=⟨0,[],[(0,.dat (.slice aK)),(5,.dat (.slice aK)),(6,.dat aa),(7,.dat aa)]⟩
def y6:List (Nat×Ent):=[]
def y7:Par:=⟨gU.tab,(ay y6),(fun _=>ao []),(fun _=>ao [(2,Au)])⟩
noncomputable def y5:Code:=(Tryz.f30.body).getD .skip
noncomputable def G1:Fi:=⟨y7,19,[.tmp 2],y5⟩
noncomputable def Sy:Code:=sub y5 [1,0,1,0,0]
noncomputable def Sx:Code:=sub y5 [1,1]
noncomputable def p9 (fuel:Nat) (n:Nat) (l:(List aK.den)) (t7:Int):Option AV:=aB 0 Au (fun σ k=>be (aD fi0 hs0 fuel 0) y7 0 fuel Sy σ k) (ai 0 (aw 0 none (fun σ k=>be (aD fi0 hs0 fuel 0) y7 0 fuel Sx σ k) adW)) n ⟨mkE 19 [(0,.val (.slice aK) l),(5,.val (.slice aK) l),(6,.val aa (l.length:Int)),(7,.val aa t7)],mkH 0 []⟩
noncomputable def rF (fuel:Nat) (l:(List aK.den)):Option AV:=dX fi0 hs0 0 G1 [.bool] fuel [.val (.slice aK) l]
theorem nv (fuel n2:Nat) (l:(List aK.den)) (t7:Int):p9 fuel (n2+1) l t7=(bif (decide (t7<(l.length:Int))) then (bif (decide (0≤t7)&&decide (t7<(l.length:Int))) then (bif (decide (0≤(0:Int))&&decide (0<(l.length:Int))) then (bif (!eqD ap (ix aK l t7).2.1 (ix aK l 0).2.1) then some (.val .bool true) else (p9 fuel n2 l (w64 (t7+1)))) else none) else none) else some (.val .bool false)):=by kernel_rfl
theorem Sw (fuel:Nat) (l:(List aK.den)):rF fuel l=(p9 fuel fuel l 0):=by kernel_rfl
theorem Sv:aV Tryz.prog y6→FiOk Tryz.prog 30 (G1):=fun h=>⟨⟨Tryz.f30,Tryz.func30,rfl,by kernel_rfl,by kernel_rfl,by kernel_rfl⟩,da,ah h⟩
def yZ:Ent:=sp1 (.slice aK) (fun x0=>md x0) (fun x0 => .val .bool (eh x0))
theorem Om (hT:aV Tryz.prog y6) (h : ∀ (x0:(List aK.den)),md x0=true → ∃ fuel,rF fuel x0=some (.val .bool (eh x0))):ar Tryz.prog 30 yZ:=eA fun x0 hg=>(let ⟨_,hf⟩:=h x0 hg; aO follows (fun _ _ h=>by cases h) bI (Sv hT) (ds:=[⟨_,x0⟩]) hf)
def EC:List (Nat×Ent):=[]
def acd:Par:=⟨gU.tab,(ay EC),(fun _=>ao []),(fun _=>ao [])⟩
noncomputable def acb:Code:=(Tryz.f31.body).getD .skip
noncomputable def OI:Fi:=⟨acd,8,[.tmp 2],acb⟩
noncomputable def vc (fuel:Nat) (s:(List aK.den)):Option AV:=dX fi0 hs0 0 OI [(.slice aK)] fuel [.val (.slice aK) s]
theorem W1 (fuel:Nat) (s:(List aK.den)):vc fuel s=(bif (!List.isEmpty s) then (bif (decide (List.length ([]:List aK.den)+List.length s≤LIM)) then some (.val (.slice aK) ([]++s)) else none) else none):=by kernel_rfl
theorem W0:aV Tryz.prog EC→FiOk Tryz.prog 31 (OI):=fun h=>⟨⟨Tryz.f31,Tryz.func31,rfl,by kernel_rfl,by kernel_rfl,by kernel_rfl⟩,da,ah h⟩
def EB:Ent:=sp1 (.slice aK) (fun x0=>u9 x0) (fun x0 => .val (.slice aK) (idA x0))
theorem SF (hT:aV Tryz.prog EC) (h : ∀ (x0:(List aK.den)),u9 x0=true → ∃ fuel,vc fuel x0=some (.val (.slice aK) (idA x0))):ar Tryz.prog 31 EB:=eA fun x0 hg=>(let ⟨_,hf⟩:=h x0 hg; aO follows (fun _ _ h=>by cases h) bI (W0 hT) (ds:=[⟨_,x0⟩]) hf)
def KL:List (Nat×Ent):=[(35,zd),(34,MQ)]
def afG:Par:=⟨gU.tab,(ay KL),(fun _=>ao []),(fun _=>ao [])⟩
noncomputable def afF:Code:=(Tryz.f78.body).getD .skip
noncomputable def Up:Fi:=⟨afG,26,[.tmp 4],afF⟩
noncomputable def zb (fuel:Nat) (x:av.den) (y:av.den):Option AV:=dX fi0 hs0 0 Up [aa] fuel [.val av x,.val av y]
theorem abX (fuel:Nat) (x:av.den) (y:av.den):zb fuel x y=(bif (QC [(gf (x.1.1) (y.1.1)),(gf (x.1.2.1) (y.1.2.1)),(gf (x.2.1) (y.2.1))]) then some (.val aa (orF [(gf (x.1.1) (y.1.1)),(gf (x.1.2.1) (y.1.2.1)),(gf (x.2.1) (y.2.1))])) else none):=by kernel_rfl
theorem abW:aV Tryz.prog KL→FiOk Tryz.prog 78 (Up):=fun h=>⟨⟨Tryz.f78,Tryz.func78,rfl,by kernel_rfl,by kernel_rfl,by kernel_rfl⟩,da,ah h⟩
def BB:Ent:=sp2 av av (fun _ _=>true) (fun x0 x1 => .val aa (jB x0 x1))
theorem WW (hT:aV Tryz.prog KL) (h : ∀ (x0:av.den) (x1:av.den),∃ fuel,zb fuel x0 x1=some (.val aa (jB x0 x1))):ar Tryz.prog 78 BB:=qE fun x0 x1 _=>(let ⟨_,hf⟩:=h x0 x1; aO follows (fun _ _ h=>by cases h) bI (abW hT) (ds:=[⟨_,x0⟩,⟨_,x1⟩]) hf)
def Pv:K9:=Mb av 83 78 jB aco
def kP:MS:=⟨0,[],[(3,.mut av 83),(7,.dat (.slice ac)),(8,.dat aa),(9,.dat aa)]⟩
def Cc:List (Nat×Ent):=[]
def kQ:Par:=⟨gU.tab,(ay Cc),(fun _=>ao [(7,kP)]),(fun _=>ao [(3,kP)])⟩
noncomputable def vJ:Code:=(Tryz.f32.body).getD .skip
noncomputable def LY:Fi:=⟨kQ,51,[.tmp 2],vJ⟩
noncomputable def FX:Code:=sub vJ [1,1,0,1,0,0]
noncomputable def yf:Code:=sub vJ [1,1,1]
noncomputable def Va:Code:=sub vJ [1,1,0,1,0,0,1,1,1]
def Cd:KT:=bc gU.tab [.tmp 2] [(.slice av)]
def g7:Hs:=Zb [(77,Pv)]
noncomputable def nV (fuel:Nat) (n:Nat) (m:aM.den) (l_hi:Nat) (t9:Int) (l:(List av.den)):Option AV:=aB 0 kP (fun σ k=>be (aD fi0 g7 fuel 1) kQ 0 fuel FX σ k) (ai 0 (aw 0 none (fun σ k=>be (aD fi0 g7 fuel 1) kQ 0 fuel yf σ k) Cd)) n ⟨mkE 51 [(3,.msl 0 0 0 l_hi),(7,.val (.slice ac) m.1),(8,.val aa (m.1.length:Int)),(9,.val aa t9)],mkH 1 [(0,.mrow av 83 0 l)]⟩
noncomputable def nW (fuel n3:Nat) (m:aM.den) (t9:Int) (l_hi:Nat) (l:(List av.den)):Option AV:=be (aD fi0 g7 fuel 1) kQ 0 fuel Va ⟨mkE 51 [(3,.msl 0 0 0 l_hi),(7,.val (.slice ac) m.1),(8,.val aa (m.1.length:Int)),(9,.val aa t9)],mkH 1 [(0,.mrow av 83 0 l)]⟩ (mR 0 kP (aB 0 kP (fun σ k=>be (aD fi0 g7 fuel 1) kQ 0 fuel FX σ k) (ai 0 (aw 0 none (fun σ k=>be (aD fi0 g7 fuel 1) kQ 0 fuel yf σ k) Cd)) n3) (ai 0 (aw 0 none (fun σ k=>be (aD fi0 g7 fuel 1) kQ 0 fuel yf σ k) Cd)))
noncomputable def uy (fuel:Nat) (m:aM.den):Option AV:=dX fi0 g7 1 LY [(.slice av)] fuel [.val aM m]
theorem EX (fuel n3:Nat) (m:aM.den) (l_hi:Nat) (t9:Int) (l:(List av.den)):nV fuel (n3+1) m l_hi t9 l=(bif (decide (t9<(m.1.length:Int))) then (bif (decide (0≤t9)&&decide (t9<(m.1.length:Int))) then (bif (((aC (decide ((ix ac m.1 t9).2.1=2)) (decide ((ix ac m.1 t9).2.1=2)))&&true)&&true) then (bif (((aC (decide ((ix ac m.1 t9).2.1=2)) (decide ((ix ac m.1 t9).2.1=2)))&&true)&&true) then (bif (((aC (decide ((ix ac m.1 t9).2.1=2)) (decide ((ix ac m.1 t9).2.1=2)))&&true)&&true) then (bif ((aC (decide ((ix ac m.1 t9).2.1=2)) (decide ((ix ac m.1 t9).2.1=2)))&&true) then (bif (((aC (bif (decide ((ix ac m.1 t9).2.1=2)) then (!decide ((ix ac m.1 t9).2.2.1.2.2.2.1=0)) else false) (bif (decide ((ix ac m.1 t9).2.1=2)) then (!decide ((ix ac m.1 t9).2.2.1.2.2.2.1=0)) else false))&&true)&&true) then (bif (((aC (bif (decide ((ix ac m.1 t9).2.1=2)) then (!decide ((ix ac m.1 t9).2.2.1.2.2.2.1=0)) else false) (bif (decide ((ix ac m.1 t9).2.1=2)) then (!decide ((ix ac m.1 t9).2.2.1.2.2.2.1=0)) else false))&&true)&&true) then (bif (((aC (bif (decide ((ix ac m.1 t9).2.1=2)) then (!decide ((ix ac m.1 t9).2.2.1.2.2.2.1=0)) else false) (bif (decide ((ix ac m.1 t9).2.1=2)) then (!decide ((ix ac m.1 t9).2.2.1.2.2.2.1=0)) else false))&&true)&&true) then (bif ((aC (bif (decide ((ix ac m.1 t9).2.1=2)) then (!decide ((ix ac m.1 t9).2.2.1.2.2.2.1=0)) else false) (bif (decide ((ix ac m.1 t9).2.1=2)) then (!decide ((ix ac m.1 t9).2.2.1.2.2.2.1=0)) else false))&&true) then (bif (((aC (bif (bif (decide ((ix ac m.1 t9).2.1=2)) then (!decide ((ix ac m.1 t9).2.2.1.2.2.2.1=0)) else false) then (decide ((ix ac m.1 t9).2.2.1.1≥1)) else false) (bif (bif (decide ((ix ac m.1 t9).2.1=2)) then (!decide ((ix ac m.1 t9).2.2.1.2.2.2.1=0)) else false) then (decide ((ix ac m.1 t9).2.2.1.1≥1)) else false))&&true)&&true) then (bif (((aC (bif (bif (decide ((ix ac m.1 t9).2.1=2)) then (!decide ((ix ac m.1 t9).2.2.1.2.2.2.1=0)) else false) then (decide ((ix ac m.1 t9).2.2.1.1≥1)) else false) (bif (bif (decide ((ix ac m.1 t9).2.1=2)) then (!decide ((ix ac m.1 t9).2.2.1.2.2.2.1=0)) else false) then (decide ((ix ac m.1 t9).2.2.1.1≥1)) else false))&&true)&&true) then (bif (((aC (bif (bif (decide ((ix ac m.1 t9).2.1=2)) then (!decide ((ix ac m.1 t9).2.2.1.2.2.2.1=0)) else false) then (decide ((ix ac m.1 t9).2.2.1.1≥1)) else false) (bif (bif (decide ((ix ac m.1 t9).2.1=2)) then (!decide ((ix ac m.1 t9).2.2.1.2.2.2.1=0)) else false) then (decide ((ix ac m.1 t9).2.2.1.1≥1)) else false))&&true)&&true) then (bif ((aC (bif (bif (decide ((ix ac m.1 t9).2.1=2)) then (!decide ((ix ac m.1 t9).2.2.1.2.2.2.1=0)) else false) then (decide ((ix ac m.1 t9).2.2.1.1≥1)) else false) (bif (bif (decide ((ix ac m.1 t9).2.1=2)) then (!decide ((ix ac m.1 t9).2.2.1.2.2.2.1=0)) else false) then (decide ((ix ac m.1 t9).2.2.1.1≥1)) else false))&&true) then (bif (bif (bif (bif (decide ((ix ac m.1 t9).2.1=2)) then (!decide ((ix ac m.1 t9).2.2.1.2.2.2.1=0)) else false) then (decide ((ix ac m.1 t9).2.2.1.1≥1)) else false) then (decide ((ix ac m.1 t9).2.2.1.1≤3)) else false) then (bif (decide (l_hi+List.length ([(((ix ac m.1 t9).2.2.1.2.2.2.1,(ix ac m.1 t9).2.2.1.1,()),(ix ac m.1 t9).1,())]:List av.den)≤LIM)) then (nW fuel n3 m t9 (l_hi+List.length ([(((ix ac m.1 t9).2.2.1.2.2.2.1,(ix ac m.1 t9).2.2.1.1,()),(ix ac m.1 t9).1,())]:List av.den)) (List.take l_hi l++[(((ix ac m.1 t9).2.2.1.2.2.2.1,(ix ac m.1 t9).2.2.1.1,()),(ix ac m.1 t9).1,())])) else none) else (nW fuel n3 m t9 l_hi l)) else none) else none) else none) else none) else none) else none) else none) else none) else none) else none) else none) else none) else none) else (bif (decide (List.length l≤LIM)&&List.all l aco) then some (.val (.slice av) ((List.take l_hi (List.take 0 l++dv jB ((List.take l_hi l).drop 0)++List.drop l_hi l)).drop 0)) else none)):=by kernel_rfl
theorem vH (fuel n3:Nat) (m:aM.den) (l_hi:Nat) (t9:Int) (l:(List av.den)):nV fuel (n3+1) m l_hi t9 l=(bif (decide (t9<(m.1.length:Int))) then (bif (decide (0≤t9)&&decide (t9<(m.1.length:Int))) then (bif (bif (bif (bif (decide ((ix ac m.1 t9).2.1=2)) then (!decide ((ix ac m.1 t9).2.2.1.2.2.2.1=0)) else false) then (decide ((ix ac m.1 t9).2.2.1.1≥1)) else false) then (decide ((ix ac m.1 t9).2.2.1.1≤3)) else false) then (bif (decide (l_hi+List.length ([(((ix ac m.1 t9).2.2.1.2.2.2.1,(ix ac m.1 t9).2.2.1.1,()),(ix ac m.1 t9).1,())]:List av.den)≤LIM)) then (nW fuel n3 m t9 (l_hi+List.length ([(((ix ac m.1 t9).2.2.1.2.2.2.1,(ix ac m.1 t9).2.2.1.1,()),(ix ac m.1 t9).1,())]:List av.den)) (List.take l_hi l++[(((ix ac m.1 t9).2.2.1.2.2.2.1,(ix ac m.1 t9).2.2.1.1,()),(ix ac m.1 t9).1,())])) else none) else (nW fuel n3 m t9 l_hi l)) else none) else (bif (decide (List.length l≤LIM)&&List.all l aco) then some (.val (.slice av) ((List.take l_hi (List.take 0 l++dv jB ((List.take l_hi l).drop 0)++List.drop l_hi l)).drop 0)) else none)):=by simpa only [aS,bu,Bool.and_true,Bool.true_and,cond_true,cond_false,decide_true,decide_false,Bool.not_false,Bool.not_true,Int.reduceLE,Int.reduceEq,Int.reduceLT,Nat.zero_add] using EX fuel n3 m l_hi t9 l
theorem vI (fuel n3:Nat) (m:aM.den) (t9:Int) (l_hi:Nat) (l:(List av.den)):nW fuel n3 m t9 l_hi l=(nV fuel n3 m l_hi (w64 (t9+1)) l):=by kernel_rfl
theorem U9 (fuel:Nat) (m:aM.den):uy fuel m=(nV fuel fuel m 0 0 []):=by kernel_rfl
theorem U8:aV Tryz.prog Cc→FiOk Tryz.prog 32 (LY):=fun h=>⟨⟨Tryz.f32,Tryz.func32,rfl,by kernel_rfl,by kernel_rfl,by kernel_rfl⟩,da,ah h⟩
def Cb:Ent:=sp1 aM (fun x0=>Qx x0) (fun x0 => .val (.slice av) (g8 x0))
theorem Pt (hT:aV Tryz.prog Cc) (hH:acH Tryz.prog [(77,Pv)]) (h : ∀ (x0:aM.den),Qx x0=true → ∃ fuel,uy fuel x0=some (.val (.slice av) (g8 x0))):ar Tryz.prog 32 Cb:=eA fun x0 hg=>(let ⟨_,hf⟩:=h x0 hg; aO follows (fun _ _ h=>by cases h) (IX hH) (U8 hT) (ds:=[⟨_,x0⟩]) hf)
def iX:MS:=⟨3,[(0,[.drop]),(2,[.own aG 43])],[(3,.keep),(5,.dat (.slice av))]⟩
def vZ:MS:=⟨3,[(0,[.drop]),(2,[.own aG 43])],[(3,.keep),(5,.dat (.slice av)),(6,.dat aa)]⟩
def F8:MS:=⟨34,[(0,[.drop]),(2,[.own aG 43]),(33,[.dat aa,.dat aa,.dat aa,.own aK 53,.own aa 3])],[(3,.keep),(5,.dat (.slice av)),(6,.dat aa),(7,.keep),(66,.dat (.slice av)),(67,.dat aa),(68,.dat aa)]⟩
def P4:List (Nat×Ent):=[(30,yZ),(31,EB),(14,C8),(32,Cb)]
def du:Par:=⟨gU.tab,(ay P4),(fun _=>ao [(19,vZ)]),(fun _=>ao [(7,iX),(9,vZ),(14,F8)])⟩
noncomputable def lc:Code:=(Tryz.f10.body).getD .skip
noncomputable def Ye:Fi:=⟨du,88,[.tmp 2],lc⟩
noncomputable def adl:Code:=sub lc [1,1,0,1,0,1]
noncomputable def adk:Code:=sub lc [1,1,0,1,0,0]
noncomputable def adj:Code:=sub lc [1,1,1]
noncomputable def AU:Code:=sub lc [1,1,1,1,0,0,0]
noncomputable def px:Code:=sub lc [1,1,1,1,1]
noncomputable def adi:Code:=sub lc [1,1,1,1,0,0,0,1,0,1,0,0,0]
noncomputable def adh:Code:=sub lc [1,1,1,1,0,0,0,1,0,1,1]
noncomputable def adg:Code:=sub lc [1,1,1,1,0,0,0,1,0,1,1,0,1,0,1,0,1,0,0]
noncomputable def adf:Code:=sub lc [1,1,1,1,0,0,0,1,0,1,1,0,1,0,1,1]
noncomputable def Tj:Code:=sub lc [1,1,1,1,0,0,0,1,0,1,1,1]
def pw:List (Nat×Ent):=[]
def P2:Par:=⟨gU.tab,(ay pw),(fun _=>ao []),(fun _=>ao [])⟩
noncomputable def P1:Code:=(Tryz.f29.body).getD .skip
noncomputable def CD:Fi:=⟨P2,4,[.tmp 2],P1⟩
def v6:MS:=⟨10,[(0,[.dat (.slice ak)]),(2,[.own aG 43]),(5,[.dat (.slice ak)])],[(0,.keep),(6,.dat (.slice ak)),(7,.dat aa),(8,.dat aa)]⟩
def pv:List (Nat×Ent):=[]
def CB:Par:=⟨gU.tab,(ay pv),(fun _=>ao []),(fun _=>ao [(1,v6)])⟩
noncomputable def CA:Code:=(Tryz.f76.body).getD .skip
noncomputable def CC:Fi:=⟨CB,17,[],CA⟩
noncomputable def MB:Code:=sub CA [1,0,0]
def qN:KT:=bc gU.tab [.tmp 2] [(.slice aG)]
noncomputable def b7:FuncId→Option Fi:=ao [(29,CD),(76,CC)]
noncomputable def fV (fuel:Nat) (n:Nat) (s:au.den) (t8:Int) (b0_0:(List ak.den)) (b2_0:(List aG.den)) (b5_0:(List ak.den)):Option AV:=aB 10 v6 (fun σ k=>be (afQ (Gu b7 hs0 fuel 0) (Cq 9 (aD b7 hs0 fuel 1).call (mkE 88 [(0,.val au s),(1,.box 0 0),(2,.nil),(3,.box 2 0),(10,.val au s),(11,.fn 76 (br [.box 5 0]))]) [12] (fun lo σ k=>be (aD b7 hs0 fuel 1) du lo fuel adl σ (wU (fun σ k=>be (aD b7 hs0 fuel 1) du lo fuel adk σ k) k)))) CB 10 fuel MB σ k) (ai 0 (vV gU.tab [] (Y0 (mkE 88 [(0,.val au s),(1,.box 0 0),(2,.nil),(3,.box 2 0),(10,.val au s),(11,.fn 76 (br [.box 5 0]))]) (ai 0 (aw 0 none (fun σ k=>be (aD b7 hs0 fuel 1) du 0 fuel adj σ k) qN))))) n ⟨mkE 17 [(0,.yld 9),(6,.val (.slice ak) s.1),(7,.val aa (s.1.length:Int)),(8,.val aa t8)],mkH 11 [(0,.box [.val (.slice ak) b0_0]),(2,.box [.own 10 0 aG b2_0]),(5,.box [.val (.slice ak) b5_0]),(9,.dead),(10,.row aG 43 0)]⟩
noncomputable def pu (fuel:Nat) (n:Nat) (t5:(List av.den)) (b2_0:(List aG.den)):Option AV:=aB 0 iX (fun σ k=>be (aD b7 hs0 fuel 1) du 0 fuel AU σ k) (ai 2 (aw 0 none (fun σ k=>be (aD b7 hs0 fuel 1) du 0 fuel px σ k) qN)) n ⟨mkE 88 [(3,.box 2 0),(5,.val (.slice av) t5)],mkH 4 [(0,.box [.unk]),(2,.box [.own 3 0 aG b2_0]),(3,.row aG 43 0)]⟩
noncomputable def sH (fuel n7:Nat) (n:Nat) (t5:(List av.den)) (t6:Int) (b2_0:(List aG.den)):Option AV:=aB 0 vZ (fun σ k=>be (aD b7 hs0 fuel 1) du 0 fuel adi σ k) (ai 4 (aw 0 none (fun σ k=>be (aD b7 hs0 fuel 1) du 0 fuel adh σ k) (ai 3 (mR 0 iX (aB 0 iX (fun σ k=>be (aD b7 hs0 fuel 1) du 0 fuel AU σ k) (ai 2 (aw 0 none (fun σ k=>be (aD b7 hs0 fuel 1) du 0 fuel px σ k) qN)) n7) (ai 2 (aw 0 none (fun σ k=>be (aD b7 hs0 fuel 1) du 0 fuel px σ k) qN)))))) n ⟨mkE 88 [(3,.box 2 0),(5,.val (.slice av) t5),(6,.val aa t6)],mkH 4 [(0,.box [.unk]),(2,.box [.own 3 0 aG b2_0]),(3,.row aG 43 0)]⟩
noncomputable def k9 (fuel n7:Nat) (n:Nat) (t5:(List av.den)) (t6:Int) (t68:Int) (b2_0:(List aG.den)) (b33_0:Int) (b33_1:Int) (b33_2:Int) (b33_3:(List aK.den)) (b33_4:(List Int)):Option AV:=aB 0 F8 (fun σ k=>be (aD b7 hs0 fuel 1) du 0 fuel adg σ k) (ai 6 (aw 0 none (fun σ k=>be (aD b7 hs0 fuel 1) du 0 fuel adf σ k) (aw 0 (some vZ) (fun σ k=>be (aD b7 hs0 fuel 1) du 0 fuel Tj σ k) (ai 3 (mR 0 iX (aB 0 iX (fun σ k=>be (aD b7 hs0 fuel 1) du 0 fuel AU σ k) (ai 2 (aw 0 none (fun σ k=>be (aD b7 hs0 fuel 1) du 0 fuel px σ k) qN)) n7) (ai 2 (aw 0 none (fun σ k=>be (aD b7 hs0 fuel 1) du 0 fuel px σ k) qN))))))) n ⟨mkE 88 [(3,.box 2 0),(5,.val (.slice av) t5),(6,.val aa t6),(7,.box 33 0),(66,.val (.slice av) ((List.take (Int.toNat t6) t5).drop 0)),(67,.val aa (((List.take (Int.toNat t6) t5).drop 0).length:Int)),(68,.val aa t68)],mkH 37 [(0,.box [.unk]),(2,.box [.own 34 0 aG b2_0]),(3,.row aG 43 1),(33,.box [.val aa b33_0,.val aa b33_1,.val aa b33_2,.own 35 0 aK b33_3,.own 36 0 aa b33_4]),(34,.row aG 43 0),(35,.row aK 53 0),(36,.row aa 3 0)]⟩
noncomputable def la (fuel n7:Nat) (t5:(List av.den)) (t6:Int) (b2_0:(List aG.den)):Option AV:=be (aD b7 hs0 fuel 1) du 0 fuel Tj ⟨mkE 88 [(3,.box 2 0),(5,.val (.slice av) t5),(6,.val aa t6)],mkH 4 [(0,.box [.unk]),(2,.box [.own 3 0 aG b2_0]),(3,.row aG 43 0)]⟩ (ai 3 (mR 0 iX (aB 0 iX (fun σ k=>be (aD b7 hs0 fuel 1) du 0 fuel AU σ k) (ai 2 (aw 0 none (fun σ k=>be (aD b7 hs0 fuel 1) du 0 fuel px σ k) qN)) n7) (ai 2 (aw 0 none (fun σ k=>be (aD b7 hs0 fuel 1) du 0 fuel px σ k) qN))))
noncomputable def Cz (fuel:Nat) (s:au.den):Option AV:=dX b7 hs0 1 Ye [(.slice aG)] fuel [.val au s]
theorem qM (fuel n76_1:Nat) (s:au.den) (t8:Int) (b0_0:(List ak.den)) (b2_0:(List aG.den)) (b5_0:(List ak.den)):fV fuel (n76_1+1) s t8 b0_0 b2_0 b5_0=(bif (decide (t8<(s.1.length:Int))) then (bif (decide (0≤t8)&&decide (t8<(s.1.length:Int))) then (bif (md ((ix ak s.1 t8).2.2.1)) then (bif (eh ((ix ak s.1 t8).2.2.1)) then (bif (u9 ((ix ak s.1 t8).2.2.1)) then (bif (decide (List.length b2_0+List.length ([(1,(ix ak s.1 t8).1,(ix ak s.1 t8).2.1,(idA ((ix ak s.1 t8).2.2.1)),[],())]:List aG.den)≤LIM)) then (fV fuel n76_1 s (w64 (t8+1)) b0_0 (b2_0++[(1,(ix ak s.1 t8).1,(ix ak s.1 t8).2.1,(idA ((ix ak s.1 t8).2.2.1)),[],())]) b5_0) else none) else none) else (fV fuel n76_1 s (w64 (t8+1)) b0_0 b2_0 b5_0)) else none) else none) else (bif (stG (b0_0,())) then (bif (Qx (bJ (b0_0,()))) then (pu fuel fuel (g8 (bJ (b0_0,()))) b2_0) else none) else none)):=by kernel_rfl
theorem P0 (fuel n7:Nat) (t5:(List av.den)) (b2_0:(List aG.den)):pu fuel (n7+1) t5 b2_0=(bif (decide ((t5.length:Int)>0)) then (sH fuel n7 fuel t5 1 b2_0) else some (.val (.slice aG) b2_0)):=by kernel_rfl
theorem Mx (fuel n7 n9:Nat) (t5:(List av.den)) (t6:Int) (b2_0:(List aG.den)):sH fuel n7 (n9+1) t5 t6 b2_0=(bif (((aC (decide (t6<(t5.length:Int))) (decide (t6<(t5.length:Int))))&&((aC (decide (t6<(t5.length:Int))) (decide (t6<(t5.length:Int))))&&true))&&(aC (decide (t6<(t5.length:Int))) (decide (0≤t6)&&decide (t6<(t5.length:Int))))) then (bif (((aC (decide (t6<(t5.length:Int))) (decide (t6<(t5.length:Int))))&&true)&&true) then (bif (((aC (decide (t6<(t5.length:Int))) (decide (t6<(t5.length:Int))))&&true)&&true) then (bif (((aC (decide (t6<(t5.length:Int))) (decide (t6<(t5.length:Int))))&&true)&&(aC (decide (t6<(t5.length:Int))) (decide (0≤(0:Int))&&decide (0<(t5.length:Int))))) then (bif (((aC (decide (t6<(t5.length:Int))) (decide (t6<(t5.length:Int))))&&true)&&true) then (bif (((aC (decide (t6<(t5.length:Int))) (decide (t6<(t5.length:Int))))&&true)&&true) then (bif (((aC (decide (t6<(t5.length:Int))) (decide (t6<(t5.length:Int))))&&((aC (decide (t6<(t5.length:Int))) (decide (t6<(t5.length:Int))))&&true))&&true) then (bif ((aC (decide (t6<(t5.length:Int))) (decide (t6<(t5.length:Int))))&&true) then (bif (bif (decide (t6<(t5.length:Int))) then (eqD bm (ix av t5 t6).1 (ix av t5 0).1) else false) then (sH fuel n7 n9 t5 (w64 (t6+1)) b2_0) else (bif (decide (t6>1)) then (bif (decide (0≤(0:Int))&&decide (0<(t5.length:Int))) then (bif (decide (0≤(0:Int))&&decide (0<(t5.length:Int))) then (bif (decide (0≤t6)&&decide (t6≤(t5.length:Int))) then (k9 fuel n7 fuel t5 t6 0 b2_0 2 ((ix av t5 0).1.1) ((ix av t5 0).1.2.1) [] []) else none) else none) else none) else (la fuel n7 t5 t6 b2_0))) else none) else none) else none) else none) else none) else none) else none) else none):=by kernel_rfl
theorem PZ (fuel n7 n9:Nat) (t5:(List av.den)) (t6:Int) (b2_0:(List aG.den)):sH fuel n7 (n9+1) t5 t6 b2_0=(bif (aC (decide (t6<(t5.length:Int))) (decide (0≤t6)&&decide (t6<(t5.length:Int)))) then (bif (aC (decide (t6<(t5.length:Int))) (decide (0≤(0:Int))&&decide (0<(t5.length:Int)))) then (bif (bif (decide (t6<(t5.length:Int))) then (eqD bm (ix av t5 t6).1 (ix av t5 0).1) else false) then (sH fuel n7 n9 t5 (w64 (t6+1)) b2_0) else (bif (decide (t6>1)) then (bif (decide (0≤(0:Int))&&decide (0<(t5.length:Int))) then (bif (decide (0≤(0:Int))&&decide (0<(t5.length:Int))) then (bif (decide (0≤t6)&&decide (t6≤(t5.length:Int))) then (k9 fuel n7 fuel t5 t6 0 b2_0 2 ((ix av t5 0).1.1) ((ix av t5 0).1.2.1) [] []) else none) else none) else none) else (la fuel n7 t5 t6 b2_0))) else none) else none):=by simpa only [aS,bu,Bool.and_true,Bool.true_and,cond_true,cond_false,decide_true,decide_false,Bool.not_false,Bool.not_true,Int.reduceLE,Int.reduceEq,Int.reduceLT,Nat.zero_add] using Mx fuel n7 n9 t5 t6 b2_0
theorem My (fuel n7 n14:Nat) (t5:(List av.den)) (t6:Int) (t68:Int) (b2_0:(List aG.den)) (b33_0:Int) (b33_1:Int) (b33_2:Int) (b33_3:(List aK.den)) (b33_4:(List Int)):k9 fuel n7 (n14+1) t5 t6 t68 b2_0 b33_0 b33_1 b33_2 b33_3 b33_4=(bif (decide (t68<(((List.take (Int.toNat t6) t5).drop 0).length:Int))) then (bif (decide (0≤t68)&&decide (t68<(((List.take (Int.toNat t6) t5).drop 0).length:Int))) then (bif (decide (List.length b33_4+List.length ([(ix av ((List.take (Int.toNat t6) t5).drop 0) t68).2.1]:List Int)≤LIM)) then (k9 fuel n7 n14 t5 t6 (w64 (t68+1)) b2_0 b33_0 b33_1 b33_2 b33_3 (b33_4++[(ix av ((List.take (Int.toNat t6) t5).drop 0) t68).2.1])) else none) else none) else (bif (decide (List.length b2_0+List.length ([(b33_0,b33_1,b33_2,b33_3,b33_4,())]:List aG.den)≤LIM)) then (la fuel n7 t5 t6 (b2_0++[(b33_0,b33_1,b33_2,b33_3,b33_4,())])) else none)):=by kernel_rfl
theorem Mz (fuel n7:Nat) (t5:(List av.den)) (t6:Int) (b2_0:(List aG.den)):la fuel n7 t5 t6 b2_0=(bif (decide (0≤t6)&&decide (t6≤(t5.length:Int))) then (pu fuel n7 ((List.take (List.length t5) t5).drop (Int.toNat t6)) b2_0) else none):=by kernel_rfl
theorem ade (fuel:Nat) (s:au.den):Cz fuel s=(fV fuel fuel s 0 (s.1) [] (s.1)):=by kernel_rfl
theorem adc:aV Tryz.prog P4→FiOk Tryz.prog 10 (Ye):=fun h=>⟨⟨Tryz.f10,Tryz.func10,rfl,by kernel_rfl,by kernel_rfl,by kernel_rfl⟩,da,ah h⟩
theorem MC:aV Tryz.prog pw→FiOk Tryz.prog 29 (CD):=fun h=>⟨⟨Tryz.f29,Tryz.func29,rfl,by kernel_rfl,by kernel_rfl,by kernel_rfl⟩,da,ah h⟩
theorem MA:aV Tryz.prog pv→FiOk Tryz.prog 76 (CC):=fun h=>⟨⟨Tryz.f76,Tryz.func76,rfl,by kernel_rfl,by kernel_rfl,by kernel_rfl⟩,da,ah h⟩
theorem Vl (h0:aV Tryz.prog pw) (h1:aV Tryz.prog pv) : ∀ f x,b7 f=some x→FiOk Tryz.prog f x:=fun f x h=>by
 have hm:=fq h
 simp only [List.mem_cons,List.not_mem_nil,or_false,Prod.mk.injEq] at hm
 rcases hm with ⟨rfl,rfl⟩ | ⟨rfl,rfl⟩
 ·exact MC h0
 ·exact MA h1
def P3:Ent:=sp1 au (fun x0=>Tk x0) (fun x0 => .val (.slice aG) (E0 x0))
theorem Yd (hT:aV Tryz.prog P4) (h0:aV Tryz.prog pw) (h1:aV Tryz.prog pv) (h : ∀ (x0:au.den),Tk x0=true → ∃ fuel,Cz fuel x0=some (.val (.slice aG) (E0 x0))):ar Tryz.prog 10 P3:=eA fun x0 hg=>(let ⟨_,hf⟩:=h x0 hg; aO follows (Vl h0 h1) bI (adc hT) (ds:=[⟨_,x0⟩]) hf)
end Go.Proofs.YtboikinjlmjgjaaGreat.Abs
