/- PartialWhole. -/
import Derived.Test.YtfgpipfjalmooaaGreatTotK
import Derived.Test.YtfgpipfjalmooaaGreatGenJ
open Bool renaming true→ä,false→ö
set_option linter.all false
noncomputable section
namespace Go.Proofs.YtfgpipfjalmooaaGreat
namespace Abs
open Go
def WfI (x:Int):Prop:=(Lit.int .i64 x).wf=ä
def TT {x:Int}(l:0≤x)(j:x<9223372036854775807):WfI x:=by have g:IntKind.min .i64 = -9223372036854775808:=rfl;have f:IntKind.max .i64=9223372036854775807:=rfl;show(decide (IntKind.min .i64≤x)&&decide (x≤IntKind.max .i64))=ä;rw[g,f,θ,υ,υ];omega
def fa.wf {x:Int}(h:fa x):WfI x:=TT (by have:=h.1;omega) (by have:=h.2.1;omega)
def RfI.wf {x:Int}(h:RfI x):WfI x:=h.elim (λe=>by rw[e];exact TT Ϛ Ϛ) (·.wf)
variable{l h L:List Com}{s:Sta}{g:List Int}{w:List Cel}{x:Com}
def adR (C:H0 l)(h:AtP l s):∀x∈s.1,WfI x.1:=λx g=>by
 obtain⟨T,P,J,_,h⟩:=h;have f:=(h.alts x g).1;cases j:x.2.2.1 with
 |nil=>exact absurd j f
 |cons a r =>obtain⟨c,hc,_,⟨y,p,e,_⟩,_⟩:=h.src x g a (by rw[j];simp);rw[←e];exact(C.ids c (J c hc) y p).1.wf
def mC {s:Sta}(h:St1 s)(f:Int):∀(n:Nat) (out:List Int) (i:Int),0≤i→i≤s.1.length→(∀y∈out,∃x∈s.1,x.1=y)→out.length≤i→s.1.length-i<n→Tot (dY n f s out i) λr=>∀y∈r,∃x∈s.1,x.1=y
 |0,out,i,l,P,p,J,C=>Ω
 |n+1,out,i,l,P,p,J,C=>by
  show Tot (dM ö some (dY n) f s out i) _;have R:=h.len;simp only[dM,fq,tt,il];refine⟨λg=>?_,λ_=>p⟩;have g:i<s.1.length:=by simpa using g
  rw[aq (n:=i+1) Ω Ω];exact⟨ay l g,ao λ_=>ay l g,ao λ_=>(pU s _ (h.place _ 1)).some,ao λ_=>by simp[aI],λ_=>⟨ay l g,eu Ξ,mC h f n _ _ Ω Ω (λy j=>by
   obtain j|j:=q'.1 j
   ·exact p y j
   ·rw[E'.1 j];exact⟨_,gj (t:=ah) l g,rfl⟩) Ξ Ω⟩,λ_=>mC h f n _ _ Ω Ω p Ω Ω⟩
def HI (h:St1 s)(f:Int):Tot (aB s f) λr=>r.length≤s.1.length∧∀y∈r,∃x∈s.1,x.1=y:=by refine(cY h f).and ?_;have g:=h.len;simp only[aB,jF];exact mC h f FU [] 0 Ω Ω Ψ Ψ (by rw[bh];omega)
def Sw (h:HisP 9 l)(x:Int):Tot (pP l x) WfI:=by
 have p:=h.h0;have hw:cM l≤108021:=ξ h.sum Ϛ;have ent:∀{s:Sta},AtP l s→∀k,Tot (aB s k) λr=>r.length≤108021∧∀y∈r,WfI y:=λg k=>(HI (g.st1 p) k).mono λr j=>⟨by
  obtain⟨_,_,_,_,h⟩:=id g;have:=h.len;have:=j.1;omega,λy f=>by
  obtain⟨z,J,e⟩:=j.2 y f;rw[←e];exact adR p g z J⟩
 have z:WfI 0:=TT Ϛ Ϛ;simp only[pP,zq,rT,vW,kK,nY,tt,il];refine(Vz l p).mono λs g=>(bx x 11 Ω Ω).mono λ_ _=>⟨λ_=>⟨by decide,(bx _ 23 Ω Ω).mono λ_ _=>⟨λ_=>TT Ϛ Ϛ,λ_=>(Vz l p).mono λU C=>(ent C 0).mono λr j=>⟨by decide,(gE r _ Ω).mono λy f=>f.elim (λe=>e ▸ z) (j.2 y)⟩⟩⟩,λ_=>?_⟩;refine(ent g 2).mono λr1 T=>⟨eu Ξ,(ent g 3).mono λr2 R=>⟨eu Ξ,(ent g 1).mono λr3 P=>⟨eu Ξ,(gE _ _ Ξ).mono λy f=>f.elim (λe=>e ▸ z) λf=>?_⟩⟩⟩;obtain f|f:=q'.1 f
 ·obtain f|f:=q'.1 f
  ·exact T.2 y (by simpa using f)
  ·exact R.2 y f
 ·exact P.2 y f
def BR {l:List Com}(h:HisP 9 l)(x:List Int):∀(n:Nat) (out:List Int) (i:Int),0≤i→i≤4→out.length≤i→(∀y∈out,WfI y)→4-i<n→Tot (qH n l x out i) λr=>r.length≤4∧∀y∈r,WfI y
 |0,out,i,p,R,P,j,J=>Ω
 |n+1,out,i,p,R,P,j,J=>by
  show Tot (oW ö some (qH n) l x out i) _;simp only[oW,tt,il];refine⟨λg=>?_,λ_=>⟨Ω,j⟩⟩;have g:i<x.length∧i<4:=by simpa using g
  rw[aq (n:=i+1) Ω Ω];refine⟨ay p g.1,(Sw h _).mono λr C=>⟨eu Ξ,BR h x n _ _ Ω Ω Ξ (λy f=>?_) Ω⟩⟩;obtain f|f:=q'.1 f
  ·exact j y f
  ·rw[E'.1 f];exact C
def QY (h:HisP 9 l)(x:List Int):Tot (oX l x) λr=>r.length≤4∧∀y∈r,WfI y:=by simp only[oX,ym];exact BR h x FU [] 0 Ω Ω Ψ Ψ (by rw[bh];omega)
def rS (keep:Cel→Bool):∀l:List Cel,(((l.filter keep).length:Nat):Int)+((l.countP λx=>!keep x:Nat):Int)=((l.length:Nat):Int)
 |[]=>rfl
 |x::l=>by have:=rS keep l;cases f:keep x <;> simp[f] <;> omega
def aau (keep:WK→Bool)(c:tCommit.den):(((jV keep c).1.2.2.2.2.1.length:Nat):Int)+(jV keep c).2.1=((c.2.2.2.2.1.length:Nat):Int):=rS (λx=>keep (dD x)) _
def QJ:∀l:List Com,(QK l).length=cM l
 |[]=>rfl
 |c::l=>by have:=QJ l;simp only[QK,c?,K_,J',cM,cU,G']at this⊢;rw[this]
def aa9 (h:HisP 9 l)(U:g.length≤8)(J:∀x∈g,WfI x):F8 l g=true:=by
 have T:to 9≤108021:=by decide
 have P:=h.sum;have R:=h.len;refine I2.2 ⟨⟨by simp;omega,λc f=>?_, ?_,λx j=>?_,Ω,J⟩,Ω,h.h0.asc,λc f=>?_⟩
 ·obtain⟨d,r,rfl⟩:=a_.1 f;obtain⟨e,p,rfl⟩:=a_.1 r;have:=sD p;simp only[cU,G'];show(ws e).length≤_;omega
 ·have:=QJ l;unfold QK at this;rw[this];omega
 ·obtain⟨c,f,j⟩:=akP.1 j;obtain⟨d,r,rfl⟩:=a_.1 f;obtain⟨e,p,rfl⟩:=a_.1 r;obtain⟨y,C,rfl⟩:=a_.1 j;have:=h.h0.ids e p y C;exact⟨this.1.wf,this.2.wf⟩
 ·have:=h.h0.par c f;have:=h.h0.pic c f;exact⟨Ω,Ω⟩
def H0.wl (h:H0 l):∀c∈l,(ws c).length<1000000:=λc f=>by have:=sD f;have:=h.sum;omega
def Z5 (l:List Int):(kn l).length≤l.length:=by unfold kn Lib.compact Lib.compactUpTo;rw[G'];exact ξ (H_ ..) (by simp[abs])
def ED (a:List Int)(j:a.length<1000000):∀(n:Nat) (i:Int),0≤i→i≤a.length→a.length-i<n→Tot (vd n a a i) λr=>r=ä
 |0,i,g,p,l=>Ω
 |n+1,i,g,p,l=>by show Tot (sZ ö some (vd n) a a i) _;simp only[sZ,tt,il];intro f;have f:i<a.length:=t_ f;rw[aq (n:=i+1) Ω Ω];exact⟨ay g f,ay g f,λh=>by simp at h,λ_=>ED a j n (i+1) Ω Ω Ω⟩
def pu (a:List Int)(f:a.length<1000000):Tot (lN a a) λr=>r=true:=by simp only[lN,C6,tt];exact⟨λh=>by simp at h,λ_=>ED a f FU 0 Ω Ω (by rw[bh];omega)⟩
def EF (a:Com)(l:(ws a).length<1000000):∀(n:Nat) (i:Int),0≤i→i≤(ws a).length→(ws a).length-i<n→Tot (vg n a a i) λr=>r=ä
 |0,i,j,C,p=>Ω
 |n+1,i,j,C,p=>by show Tot (ta ö some (vg n) a a i) _;simp only[ta,tt,il];intro f;have f:i<(ws a).length:=t_ f;rw[aq (n:=i+1) Ω Ω];have g:bd i (ws a).length=true:=ay j f;exact⟨g,g,λh=>(by rw[GK aa _ rfl]at h;cases h),λ_=>EF a l n (i+1) Ω Ω Ω⟩
def Iq (a:Com)(g:a.2.1.length<1000000)(f:a.2.2.1.length<1000000)(j:(ws a).length<1000000):Tot (lP a a) λr=>r=true:=by have J:KF a.2.1 a.2.1=true:=(pu _ g).some;have C:qZ a.2.1 a.2.1=true:=(pu _ g).getD _;have p:KF a.2.2.1 a.2.2.1=true:=(pu _ f).some;have l:qZ a.2.2.1 a.2.2.1=true:=(pu _ f).getD _;simp only[lP,C8,tt];rw[J,C,p,l];exact⟨ao λ_=>rfl,ao λ_=>rfl,λh=>by simp at h,λ_=>EF a j FU 0 Ω Ω (by rw[bh];omega)⟩
def Cb (a:aD.den)(J:a.2.1.length<1000000)(C:∀p∈a.2.1,p.1.2.1.length<1000000∧p.1.2.2.1.length<1000000∧(ws p.1).length<1000000):∀(n:Nat) (i:Int),0≤i→i≤a.2.1.length→a.2.1.length-i<n→Tot (rc n a a i) λr=>r=ä
 |0,i,j,T,R=>Ω
 |n+1,i,j,T,R=>by show Tot (pB ö some (rc n) a a i) _;simp only[pB,tt,il];intro f;have f:i<a.2.1.length:=t_ f;have P:bd i a.2.1.length=true:=ay j f;have g:=C _ (gj (t:=am) j f);have l:=Iq _ g.1 g.2.1 g.2.2;have e1:Z8 (ix am a.2.1 i).1 (ix am a.2.1 i).1=true:=l.some;have U:Z9 (ix am a.2.1 i).1 (ix am a.2.1 i).1=true:=l.getD _;rw[aq (n:=i+1) Ω Ω,e1,U,P];exact⟨rfl,rfl,ao λ_=>rfl,ao λ_=>rfl,ao λ_=>rfl,λh=>by simp at h,λ_=>Cb a J C n (i+1) Ω Ω Ω⟩
def RI (a:aD.den)(l:a.1.length<1000000)(g:a.2.1.length<1000000)(j:∀p∈a.2.1,p.1.2.1.length<1000000∧p.1.2.2.1.length<1000000∧(ws p.1).length<1000000):Tot (kR a a) λr=>r=true:=by simp only[kR,yM,tt];refine(pu _ l).mono λr f=>⟨λh=>by rw[f]at h;simp at h,λ_=>Cb a g j FU 0 Ω Ω (by rw[bh];omega)⟩
def Xx (h:HisP 9 l)(T:g.length≤8):(iC l g).1.length<1000000∧(iC l g).2.1.length<1000000∧∀p∈(iC l g).2.1,p.1.2.1.length<1000000∧p.1.2.2.1.length<1000000∧(ws p.1).length<1000000:=by
 have f:=h.h0;have e:(iC l g).2.1=l.map (jV (tS l g)):=rfl;refine⟨?_,by rw[e,G'];have:=f.few;omega,λp r=>?_⟩
 ·exact D? (Z5 g) Ω
 ·rw[e]at r;obtain⟨c,j,rfl⟩:=a_.1 r;have R:=f.par c j;have P:=f.pic c j;have J:=f.wl c j;have C:(ws (jV (tS l g) c).1).length≤(ws c).length:=H_ ..;exact⟨D? R Ω,D? P Ω,D? C J⟩
def agr (w:List Cel):Prop:=w.Pairwise λa b=>¬(a.1=b.1∧a.2.1=b.2.1)
def agr.nd (h:agr w):w.Nodup:=List.Pairwise.imp (λ{a b} h e=>h (by rw[e];exact⟨rfl,rfl⟩)) h
structure GoodC (x:Com):Prop where
 ps:x.2.1.length<1000000
 qs:x.2.2.1.length<1000000
 wl:(ws x).length<1000000
 key:agr (ws x)
structure GoodP (p:Prt):Prop where
 c:GoodC p.1
 left:0≤p.2.1
open Classical in
def agF (p:Prt)(x:Com):Bool:=decide (p.1.2.1=x.2.1)&&(decide (p.1.2.2.1=x.2.2.1)&&(decide (p.1.2.2.2.1=x.2.2.2.1)&&(decide (p.2.1=(ws x).length-(ws p.1).length)&&decide (∀w∈ws p.1,w∈ws x))))
def agX {a b:Cel}(h:dD a=dD b):a=b:=by
 obtain⟨a1,a2,⟨a3,a4,a5,a6,⟨⟩⟩,⟨⟩⟩:=a;obtain⟨b1,b2,⟨b3,b4,b5,b6,⟨⟩⟩,⟨⟩⟩:=b;simp only[dD,WK.mk.injEq,ByteArray.mk.injEq]at h;obtain⟨rfl,rfl,rfl,rfl,f,rfl⟩:=h;have:a5=b5:=by simpa using f
 subst this;rfl
def Du {l:List Cel}{x:Cel}:inW (l.map dD) (dD x)=ä↔x∈l:=by
 have g:inW (l.map dD) (dD x)=ä↔dD x∈l.map dD:=by unfold inW;simp only[υ]
 rw[g,a_];exact⟨λ⟨y,f,e⟩=>agX e ▸ f,λh=>⟨x,h,rfl⟩⟩
open Classical in
def Tx {P X:List Cel}(l:P.Nodup)(j:X.Nodup)(h:∀w∈P,w∈X):((X.countP λw=>!inW (P.map dD) (dD w):Nat):Int)=X.length-P.length:=by
 have f:=rS (λw=>inW (P.map dD) (dD w)) X;have e:(X.filter λw=>inW (P.map dD) (dD w)).length=P.length:=by
  apply alx
  ·refine vz (j.sublist (List.filter_sublist ..)) λx g=>?_;exact Du.1 (C_.1 g).2
  ·exact vz l λx g=>C_.2 ⟨h x g,Du.2 g⟩
 rw[e]at f;omega
def act (p:Prt)(x:Com)(l:GoodP p)(C:GoodC x):iQ (jO p) (cU x)=agF p x:=by
 unfold iQ agF;have e1:(jO p).c.ps=p.1.2.1:=rfl;have e2:(cU x).ps=x.2.1:=rfl;have e3:(jO p).c.qs=p.1.2.2.1:=rfl;have e4:(cU x).qs=x.2.2.1:=rfl;have U:((jO p).c.nt.toList == (cU x).nt.toList)=decide (p.1.2.2.2.1=x.2.2.2.1):=by show((⟨p.1.2.2.2.1.toArray⟩:ByteArray).toList == (⟨x.2.2.2.1.toArray⟩:ByteArray).toList)=_;rw[Clo.bytes_toList, Clo.bytes_toList,alB,M_,T?]
 rw[e1,e2,e3,e4,U];congr 3;have T:(jO p).c.wl=(ws p.1).map dD:=rfl;have R:(cU x).wl=(ws x).map dD:=rfl;rw[T,R,List.countP_map];have r:(((jO p).left:Nat):Int)=p.2.1:=aky l.left;have f:((ws p.1).map dD).all (inW ((ws x).map dD))=ä ↔ ∀w∈ws p.1,w∈ws x:=by rw[alT,P'];exact⟨λh w j=>Du.1 (h w j),λh w j=>Du.2 (h w j)⟩
 by_cases g:∀w∈ws p.1,w∈ws x
 ·rw[f.2 g,Q_ g,h?,v?];have J:=Tx l.c.key.nd C.key.nd g;rw[alB,T?,T?];show(ws x).countP (λw=>!inW ((ws p.1).map dD) (dD w))=(jO p).left↔_;refine⟨λh=>?_,λh=>?_⟩
  ·have P:(((jO p).left:Nat):Int)=(ws x).length-(ws p.1).length:=by rw[←h];exact J
   exact r.symm.trans P
  ·have h3:(((jO p).left:Nat):Int)=((ws x).length:Int)-(ws p.1).length:=r.trans h;omega
 ·have:((ws p.1).map dD).all (inW ((ws x).map dD))=false:=by
   cases h:((ws p.1).map dD).all (inW ((ws x).map dD))with
   |true=>exact(g (f.1 h)).elim
   |false=>rfl
  rw[this,I? g,Bool.false_and,Bool.and_false]
def LX (l:List Com)(k:Int):(l.find? λx=>x.1 == k)=ft l k:=by unfold ft;congr 1
def afj (l:List Com)(p:Prt)(g:∀x∈l,GoodC x)(f:GoodP p):jT (l.map cU) (jO p)=match ft l p.1.1 with
  |some x=>agF p x
  |none=>true:=by
 unfold jT;rw[Jo];have e:(jO p).c.st=p.1.1:=rfl;rw[e,LX];cases h:ft l p.1.1 with
 |none=>rfl
 |some x=>exact act p x f (g x (Bo h).1)
def GoodC.len (h:GoodC x):Lx x=true:=by have:=h.ps;have:=h.qs;have:=h.wl;unfold Lx;exact Q_ ⟨Ω,Ω,by show(ws x).length≤_;omega⟩
def zZ (c:aD.den)(l:List Com)(J:c.1.length<1000000)(C:c.2.1.length<1000000)(j:l.length<1000000)(f:∀p∈c.2.1,GoodP p)(r:∀x∈l,GoodC x):w9 c l=true :=
 Js.2 ⟨⟨Ω,Ω,Ω⟩,λx g=>(r x g).len,λp h=>⟨(f p h).left,(f p h).c.len⟩⟩
def GF (c:aD.den)(l:List Com)(J:c.1.length<1000000)(C:c.2.1.length<1000000)(g:∀p∈c.2.1,GoodP p)(j:∀x∈l,GoodC x):(er c l).1.1.length<1000000∧(er c l).1.2.1.length<1000000∧∀p∈(er c l).1.2.1,GoodP p:=by
 unfold er;split
 ·refine⟨J,by rw[G'];exact C,λq f=>?_⟩;obtain⟨p,h,rfl⟩:=a_.1 f;unfold ug;rw[LX];cases r:ft l p.1.1 with
  |none=>exact g p h
  |some x=>exact⟨j x (Bo r).1,akt 0⟩
 ·exact⟨Ψ,Ψ,λq f=>by cases f⟩
def Vs (c:aD.den):List Com:=c.2.1.map λp=>p.1
open Classical in
def AE (c:aD.den):oV:=if ∀p∈c.2.1,p.2.1=0 then(Vs c,ä,())else([],ö,())
def GX (c:aD.den)(C:c.2.1.length<1000000)(j:∀p∈c.2.1,GoodP p):∀(n:Nat) (R P:List Prt),c.2.1=P++R→R.length<n→Tot (qg n c (P.map λp=>p.1) P.length) λr=>r=Vs c
 |0,R,P,f,l=>Ω
 |n+1,R,P,f,l=>by
  rw[show qg (n+1)=uo ö some (qg n) from rfl];have g:P.length+R.length=c.2.1.length:=by rw[f];simp
  simp only[uo,tt,il];rw[aq (n:=(P.length:Int)+1) Ω Ω];cases R with
  |nil=>
   have e:c.2.1=P:=by simpa using f
   exact⟨λh=>by simp at h g;omega,λ_=>by unfold Vs;rw[e]⟩
  |cons p R=>
   have J:ix am c.2.1 (P.length:Int)=p:=by rw[f];exact eX (t:=am) P p R
   have:=GX c C j n R (P++[p]) (by rw[f];simp) (by simp at l;omega);rw[T_,List.map_singleton]at this;rw[J];exact⟨λ_=>⟨ay Ω (by simp at g;omega),(j p (by rw[f];simp)).c.len,eu Ξ,by simpa[Ag]using this⟩,λh=>by simp at h g;omega⟩
def BQ (c:aD.den)(C:c.2.1.length<1000000)(l:∀p∈c.2.1,GoodP p):∀(n:Nat) (R P:List Prt),c.2.1=P++R→R.length<n→(∀p∈P,p.2.1=0)→Tot (qD n c P.length) λr=>r=AE c
 |0,R,P,f,J,_=>Ω
 |n+1,R,P,f,J,h3=>by
  show Tot (oT ö some (qD n) c P.length) _;have j:P.length+R.length=c.2.1.length:=by rw[f];simp
  simp only[oT,tt,il];rw[aq (n:=(P.length:Int)+1) Ω Ω];cases R with
  |nil=>
   have e:c.2.1=P:=by simpa using f
   refine⟨λh=>by simp at h j;omega,λ_=>?_⟩;simp only[Aj,DD];refine(GX c C l FU c.2.1 [] rfl (by rw[bh];omega)).mono λr T=>?_;unfold AE;rw[Θ (by rw[e];exact h3),T]
  |cons p R=>
   have ep:ix am c.2.1 (P.length:Int)=p:=by rw[f];exact eX (t:=am) P p R
   rw[ep];refine⟨λ_=>⟨ay Ω (by simp at j;omega),λh=>?_,λh=>?_⟩,λh=>by simp at h j;omega⟩
   ·unfold AE;rw[ω];intro U;have:=U p (by rw[f];simp);simp[this]at h
   ·have:=BQ c C l n R (P++[p]) (by rw[f];simp) (by simp at J;omega) λq g=>by
     obtain g|g:=q'.1 g
     ·exact h3 q g
     ·rw[E'.1 g];simpa using h
    simpa using this
def QT (c:aD.den)(g:c.2.1.length<1000000)(f:∀p∈c.2.1,GoodP p):Tot (oU c) λr=>r=AE c:=by simp only[oU,yl];exact BQ c g f FU c.2.1 [] rfl (by rw[bh];omega) Ψ
def Ca (a:List Com)(C:a.length<1000000)(l:∀x∈a,GoodC x):∀(n:Nat) (i:Int),0≤i→i≤a.length→a.length-i<n→Tot (ra n a a i) λr=>r=ä
 |0,i,g,P,J=>Ω
 |n+1,i,g,P,J=>by show Tot (px ö some (ra n) a a i) _;simp only[px,tt,il];intro f;have f:i<a.length:=t_ f;have j:=l _ (gj (t:=tCommit) g f);rw[aq (n:=i+1) Ω Ω];exact⟨ay g f,ay g f,(Iq _ j.ps j.qs j.wl).mono λr p=>⟨λh=>(by rw[p]at h;cases h),λ_=>Ca a C l n (i+1) Ω Ω Ω⟩⟩
def RE (a:List Com)(f:a.length<1000000)(g:∀x∈a,GoodC x):Tot (kQ a a) λr=>r=true:=by simp only[kQ,yL,tt];exact⟨λh=>by simp at h,λ_=>Ca a f g FU 0 Ω Ω (by rw[bh];omega)⟩
def aa7 (h:mU w):agr w:=List.Pairwise.imp (λ{a b} h e=>by
 rw[e.1,e.2]at h;simp[ahd]at h) h
def xR (h:H0 l){c:Com}(f:c∈l):GoodC c:=⟨by have:=h.par c f;omega,by have:=h.pic c f;omega,h.wl c f,aa7 (h.ord c f)⟩
def Jf (h:HisP 9 l)(r:g.length≤8):(iC l g).1.length<1000000∧(iC l g).2.1.length<1000000∧∀p∈(iC l g).2.1,GoodP p:=by
 obtain⟨P,J,j⟩:=Xx h r;refine⟨P,J,λp f=>⟨⟨(j p f).1,(j p f).2.1,(j p f).2.2, ?_⟩, ?_⟩⟩;all_goals
  have e:(iC l g).2.1=l.map (jV (tS l g)):=rfl;rw[e]at f;obtain⟨c,C,rfl⟩:=a_.1 f
 ·exact List.Pairwise.sublist (List.filter_sublist ..) (xR h.h0 C).key
 ·exact Int.natCast_nonneg _
structure GoodK (c:aD.den):Prop where
 want:c.1.length<1000000
 len:c.2.1.length<1000000
 parts:∀p∈c.2.1,GoodP p
def ZD (f:H0 h){y:Com}(r:x∈h)(p:y∈h)(e:x.1=y.1):x=y:=by
 obtain⟨i,l,rfl⟩:=M?.1 r;obtain⟨j,g,rfl⟩:=M?.1 p;obtain h1|rfl|h1:=z? i j
 ·exact absurd e (ali (W_.1 f.asc i j l g h1))
 ·rfl
 ·exact absurd e.symm (ali (W_.1 f.asc j i g l h1))
open Classical in
def abS (l:H0 h)(p:∀x∈L,x∈h)(g:x∈h):ft L x.1=if x∈L then some x else none:=by
 cases e:ft L x.1 with
 |none =>rw[ω];intro j;have:=List.find?_eq_none.1 e x j;simp at this
 |some y =>obtain⟨f,r⟩:=Bo e;have:=ZD l (p y f) g r;subst this;rw[Θ f]
def ago (keep:WK→Bool)(x:Com):agF (jV keep x) x=true:=by have h:=aau keep x;unfold agF;simp only[θ,υ];exact⟨rfl,rfl,rfl,by show(jV keep x).2.1=((x.2.2.2.2.1.length:Nat):Int)-(((jV keep x).1.2.2.2.2.1.length:Nat):Int);rw[←h];exact(Int.add_comm _ _ ▸ (akc _ _)).symm,λw f=>(C_.1 f).1⟩
def agn (x:Com):agF (x,0,()) x=true:=by unfold agF;simp
open Classical in
def Jr (T:HisP 9 h)(hu:g.length≤8)(l:List Int){D:Com→Prt}(R:∀x∈h,D x=jV (tS h g) x∨D x=(x,0,()))(P:∀x∈L,x∈h):er (l,h.map D,()) L=((l,h.map (λx=>if x∈L then(x,0,())else D x),()),0,()):=by
 have r:=T.h0;have p:∀x∈h,(D x).1.1=x.1:=λx f=>by obtain e|e:=R x f <;> rw[e] <;> rfl
 have C:∀x∈h,GoodP (D x):=λx f=>by
  obtain e|e:=R x f <;> rw[e]
  ·exact(Jf T hu).2.2 _ (a_.2 ⟨x,f,rfl⟩)
  ·exact⟨xR r f,akt 0⟩
 have J:∀x∈h,agF (D x) x=true:=λx f=>by
  obtain e|e:=R x f <;> rw[e]
  ·exact ago _ x
  ·exact agn x
 unfold er;rw[Θ]
 ·congr 3;rw[V_];refine aj5 λx f=>?_;show ug L (D x)=_;unfold ug;rw[LX,p x f,abS r P f];by_cases j:x∈L
  ·rw[Θ j,Θ j]
  ·rw[ω j,ω j]
 ·rw[alT,alT,P'];intro x f;show jT (L.map cU) (jO (D x))=ä;rw[afj L (D x) (λy U=>xR r (P y U)) (C x f),p x f,abS r P f];by_cases j:x∈L
  ·rw[Θ j];exact J x f
  ·rw[ω j]
open Classical in
def PO (p:HisP 9 h)(l:g.length≤8){A B:List Com}(P:∀x∈A,x∈h)(J:∀x∈B,x∈h)(j:∀x∈h,x∈A∨x∈B):(er (iC h g) A).2.1=0∧er (er (iC h g) A).1 B=((kn g,h.map (λx=>(x,0,())),()),0,()):=by
 have e:=Jr p l (kn g) (D:=jV (tS h g)) (λx _=>.inl rfl) P;have R:iC h g=(kn g,h.map (jV (tS h g)),()):=rfl;rw[R,e];refine⟨rfl, ?_⟩;show er (kn g,h.map (λx=>if x∈A then(x,0,())else jV (tS h g) x),()) B=_;rw[Jr p l (kn g) (λx _=>by by_cases C:x∈A <;> simp[C]) J];congr 3;refine aj5 λx r=>?_;by_cases f:x∈B
 ·rw[Θ f]
 ·rw[ω f,Θ ((j x r).resolve_right f)]
def VS (f:List Int)(h:List Com):AE (f,h.map (λx=>(x,0,())),())=(h,ä,()):=by
 unfold AE;rw[Θ]
 ·unfold Vs;rw[V_];show(h.map (λx=>x),ä,())=_;rw[List.map_id']
 ·intro p g;obtain⟨x,_,rfl⟩:=a_.1 g;rfl
def adm (g:H0 h){f:List Int}(l:f.length<1000000):GoodK (f,h.map (λx=>(x,0,())),()) :=
 ⟨l,by show(h.map _).length<_;rw[G'];have:=g.few;omega,λp r=>by
  obtain⟨x,j,rfl⟩:=a_.1 r;exact⟨xR g j,akt 0⟩⟩
def Ly (first:Int)(l:List be.den)(x:List Int)(cut:Int):Tot (gH first l x cut) λr=>r=true:=by
 simp only[gH,rA,tt,il];refine(LK first l).mono λh J=>(QY J x).mono λg hu=>?_;have R:=J.h0;have hf:=R.few;have j:g.length≤8:=Ω
 refine⟨aa9 J j hu.2, ?_⟩;rw[aq (n:=(h.length:Int)+1) Ω Ω];refine(bx cut ((h.length:Int)+1) Ω Ω).mono λk hk=>?_;obtain⟨A,eA⟩:∃A,(List.take (Int.toNat k) h).drop 0=A:=⟨_,rfl⟩;obtain⟨B,eB⟩:∃B,(List.take (List.length h) h).drop (Int.toNat k)=B:=⟨_,rfl⟩;rw[eA,eB];have hA:∀y∈A,y∈h:=λy f=>by rw[←eA,y?]at f;exact L? f
 have hB:∀y∈B,y∈h:=λy f=>by rw[←eB,x_]at f;exact aj0 f
 have T:∀y∈h,y∈A∨y∈B:=λy f=>by rw[←eA,←eB,y?,x_];rw[←List.take_append_drop (Int.toNat k) h]at f;exact q'.1 f
 have lA:A.length<1000000:=by rw[←eA,y?,g_];omega
 have lB:B.length<1000000:=by rw[←eB,x_,akQ];omega
 have gA:∀y∈A,GoodC y:=λy f=>xR R (hA y f);have gB:∀y∈B,GoodC y:=λy f=>xR R (hB y f);obtain⟨a1,a2⟩:=PO J j hA hB T;obtain⟨b1,b2⟩:=PO J j hB hA λy f=>(T y f).symm;obtain⟨U,g2,g3⟩:=Jf J j;obtain⟨p1,p2,p3⟩:=GF _ A U g2 g3 gA;obtain⟨q1,q2,q3⟩:=GF _ B U g2 g3 gB;have hs0:(kn g).length<1000000:=U;obtain⟨k1,k2,k3⟩:=adm R hs0;have hc:=RE h Ω λy f=>xR R f;have hs:=RI _ k1 k2 λp hp=>⟨(k3 p hp).c.ps,(k3 p hp).c.qs,(k3 p hp).c.wl⟩;have c1:Ud h h=true:=hc.some;have c2:ve h h=true:=hc.getD (P:=λr=>r=ä) _;have c3:=hs.some;have c4:=hs.getD (P:=λr=>r=ä) (zero .bool);have C:(decide (0≤k)&&decide (k≤(h.length:Int)))=true:=by simp;omega
 refine⟨C,zZ _ A U g2 lA g3 gA,C,zZ _ B p1 p2 lB p3 gB,C,zZ _ B U g2 lB g3 gB,C,zZ _ A q1 q2 lA q3 gA, ?_⟩;rw[a2,b2,a1,b1];refine(QT _ k2 k3).mono λr hr=>?_;rw[hr,VS];have c3:Uh (kn g,h.map (λx=>(x,0,())),()) (kn g,h.map (λx=>(x,0,())),())=true:=c3;have c4:C9 (kn g,h.map (λx=>(x,0,())),()) (kn g,h.map (λx=>(x,0,())),())=true:=c4;have e1:(iC h g).1=kn g:=rfl;simp[aL,Mo,c1,c2,c3,c4,e1]
