/- Evaluators that always answer. -/
import Derived.Test.YtfgpipfjalmooaaGreatGenH
open Option renaming some→ä
open Bool renaming true→ö,false→ü
set_option linter.all false
namespace Go.Proofs.YtfgpipfjalmooaaGreat
namespace Abs
open Go
def Tot {J:Type}(o:Option J)(Q:J→Prop):Prop:=∃r,o=ä r∧Q r
section
variable {J U:Type}{P Q:J→Prop}
def Nk {r:J}:Tot (ä r) Q↔Q r:=⟨λ⟨_,e,h⟩=>by cases e;exact h,λh=>⟨r,rfl,h⟩⟩
def ag0 {b:Bool}{k:Option J}:Tot (ck b k) Q↔b=ö∧Tot k Q:=by
 cases b
 ·simp[Tot,ck]
 ·simp[ck]
def adE {c:Bool}{x y:Option J}:Tot (bif c then x else y) Q↔(c=ö→Tot x Q)∧(c=ü→Tot y Q):=by cases c <;> simp
variable{k:U→Option J}{o:Option J}
def ag1 {g:Bool}{v:U}:Tot (jJ g v k) Q↔g=ö∧Tot (k v) Q:=by
 cases g
 ·simp[Tot,jJ]
 ·simp[jJ]
def Zq {x:Option U}:Tot (xG x k) Q↔Tot x λr=>Tot (k r) Q:=by
 cases x
 ·simp[Tot,xG]
 ·simp[xG,Nk]
def Tot.mono (h:Tot o P)(k:∀r,P r→Q r):Tot o Q:=let ⟨r,e,h⟩:=h;⟨r,e,k r h⟩
def Tot.and (h:Tot o P)(k:Tot o Q):Tot o λr=>P r∧Q r:=by obtain⟨r,e,h⟩:=h;obtain⟨j,f,g⟩:=k;rw[e]at f;cases f;exact⟨r,e,h,g⟩
def Tot.some (h:Tot o P):o.isSome=true:=by obtain⟨r,e,_⟩:=h;rw[e];rfl
def Tot.getD {o:Option J}(h:Tot o P)(d:J):P (o.getD d):=by obtain⟨r,e,h⟩:=h;rw[e];exact h
def gw (h:o.isSome=ö):Tot o λ_=>True:=by
 cases o with
 |none=>cases h
 |some r=>exact⟨r,rfl,apa⟩
end
def tt:(∀{J:Type} {Q:J→Prop} {r:J},Tot (ä r) Q↔Q r)∧(∀{J:Type} {Q:J→Prop} {b:Bool} {k:Option J},Tot (ck b k) Q↔b=ö∧Tot k Q)∧(∀{J:Type} {Q:J→Prop} {c:Bool} {x y:Option J},Tot (bif c then x else y) Q↔(c=ö→Tot x Q)∧(c=ü→Tot y Q)) ∧
 (∀{J U:Type} {Q:J→Prop} {g:Bool} {v:U} {k:U→Option J},Tot (jJ g v k) Q↔g=ö∧Tot (k v) Q)∧(∀{J U:Type} {Q:J→Prop} {x:Option U} {k:U→Option J},Tot (xG x k) Q↔Tot x λr=>Tot (k r) Q) ∧
 (∀{U:Type} (m:Bool) (t:Ty) (e:Option t.den) (k:t.den→Option U),cl m t e k=xG e k)∧(∀{U:Type} (m:Bool) (t:Ty) (g:Bool) (v:t.den) (k:t.den→Option U),ce m t g v k=jJ g v k)∧(∀{U:Type} (m:Bool) (t:Ty) (x:t.den) (k:t.den→U),fz m t x k=k x)∧(∀{U:Type} (m:Bool) (x:Nat) (k:Nat→U),fm m x k=k x) ∧
 (∀{U:Type} (m c:Bool) (k:Option U) (l:List Nat),nq m l c k=k)∧(∀{U:Type} (m:Bool) (n:Nat) (c z:Bool) (k:Option U),nm m n c z k=ck (aL c z) k)∧(∀p:Prop,(True∧p)=p)∧(∀p:Prop,(p∧True)=p)∧(∀p:Prop,(p→True)=True) :=
 ⟨Nk,ag0,adE,ag1,Zq,s0,s1,s2,s3,FD,UE,λp=>true_and p,λp=>P_ p,λp=>implies_true p⟩
def ao {a b:Bool}(h:a=ö→b=ö):aL a b=true:=by cases a <;> cases b <;> simp_all[aL]
def bh:FU=1099511627776:=rfl
def aq {n:Int}(g : -9000000000000000000≤n)(f:n≤9000000000000000000):w64 n=n:=qI Ω Ω
variable{n:Nat}{i x:Int}{s:Sta}{C:List (List Int)}{J:Type}{w:List Cel}
def ay (g:0≤i)(f:i<n):bd i n=true:=by simp[bd,g,f]
def XY (c:Int):(iM c).isSome=true:=by simp[iM,vN,s1,FD];rfl
def ya (c:Int):(e9 c).isSome=true:=by simp[e9,sa,s1,FD];rfl
def nH (s:Str):Tot (cT s) λ_=>True:=by simp[cT,nG,gX,iW,gW,iV,tt]
def ae2 (s:Str):Tot (tU s) λ_=>True:=by simp[tU,Dq,vL,zG,vK,zF,tt]
def DW (s:Str)(g:Int)(J:0≤g)(l:s.length<1000000):∀(n:Nat) (f:Int),g≤f→f≤s.length→s.length-f<n→Tot (uI n s g f) λr=>0≤r∧g+r≤s.length
 |0,f,_,C,p=>Ω
 |n+1,f,h2,C,p=>by
  show Tot (sG ü ä (uI n) s g f) _;simp only[sG,tt,il];refine⟨ao λh=>ay Ω (by simpa using h),ao λ_=>XY _,λh=>?_,λ_=>?_⟩
  ·have:f<s.length:=by
    by_cases j:f<s.length
    ·exact j
    ·simp[j]at h
   rw[aq Ω Ω];exact DW s g J l n (f+1) Ω Ω Ω
  ·rw[aq Ω Ω];omega
def AD (s:Str)(f:Int)(g:0≤f)(l:s.length<1000000):Tot (i9 s f) λr=>0≤r∧(f≤s.length→f+r≤s.length):=by
 simp only[i9,CT,tt,il];refine⟨ao λh=>ay g (by simpa using h),ao λh=>ay g (by simp at h;exact h.1),ao λ_=>by simp[aI],λ_=>Ω,λh=>?_⟩;have:f<s.length:=by
  by_cases j:f<s.length
  ·exact j
  ·simp[Int.not_lt.1 j]at h
 exact(DW s f g l FU f Ω Ω (by rw[bh];omega)).mono λr h=>⟨h.1,λ_=>h.2⟩
def WC (s:Str)(f:Int)(j:0≤f)(g:f<s.length)(l:s.length<1000000):Tot (sW s f) λ_=>True:=by simp only[sW,C4,qX,u4,qW,u0,tt,il];rw[aq Ω Ω];exact⟨ay j g,λ_=>ao λh=>ay Ω (by simpa using h)⟩
abbrev ag3:Ty :=.cons tInt (.cons tInt .unit)
def Y3 (s:Str)(f:Int)(j:0≤f)(g:s.length<1000000):Y4 s f=true:=(AD s f j g).some
def QS (s:Str)(f:Int)(j:0≤f)(p:f<s.length)(l:s.length<1000000):Tot (oS s f) λ_=>True:=by
 simp only[oS,yj,qz,tt,il];refine(AD s f j l).mono λr1 P=>?_;have J:=P.2 Ω;have e1:w64 (f+r1)=f+r1:=aq Ω Ω;have e2:w64 (f+r1+1)=f+r1+1:=aq Ω Ω;rw[e1,e2];refine⟨by simp[j];omega,ay j p,ao λ_=>(nH _).some,ao λh=>ay Ω ?_,ao λ_=>Y3 s _ Ω l,λh=>?_,λ_ _=>(nH _).mono λ_ _=>λ_=>ay j p⟩
 ·simp at h;omega
 ·have C:0<Kk s (f+r1+1):=by
   simp at h;exact h.2
  have hl:f+r1+1<s.length:=by simp at h;exact h.1.1.2
  have R:=AD s (f+r1+1) Ω l;obtain⟨g,r,U⟩:=R;have e4:Kk s (f+r1+1)=g:=by unfold Kk;rw[r];rfl
  rw[e4]at C;have T:=U.2 Ω;have e5:w64 (f+r1+1+g)=f+r1+1+g:=aq Ω Ω;refine⟨g,r, ?_⟩;simp only[e5];refine⟨by simp;omega,ay Ω Ξ,λ_ _=>(nH _).mono λ_ _=>trivial,λ_ _=>(nH _).mono λ_ _=>trivial⟩
def Cj (s:Str)(j:Int)(l:s.length<1000000):∀(n:Nat) (f:Int),0≤f→f≤s.length→s.length-f<n→Tot (vC n s j f) λ_=>True
 |0,C,_,r,p=>Ω
 |n+1,f,g,r,p=>by
  show Tot (tC ü ä (vC n) s j f) _;simp only[tC,tt,il];intro h;have h:f<s.length:=by simpa using h
  refine⟨ay g h,λ_=>⟨ay g h,(gw (ya _)).mono λ_ _=>λ_=>⟨ay g h,ao λ_=>ay g h,λ_=>?_⟩⟩⟩;rw[aq Ω Ω];exact Cj s j l n (f+1) Ω Ω Ω
def zp (s:Str)(g:Int)(j:s.length<1000000):∀(n:Nat) (f:Int),0≤f→f≤s.length→s.length-f<n→Tot (ry n s g f) λ_=>True
 |0,C,_,p,l=>Ω
 |n+1,f,r,p,l=>by
  show Tot (pH ü ä (ry n) s g f) _;simp only[pH,tt,il];refine⟨ao λh=>ay r (by simpa using h),λh=>?_⟩;have h:f<s.length:=by simp at h;exact h.1
  rw[aq Ω Ω];exact zp s g j n (f+1) Ω Ω Ω
def Xk (s:Str)(f:Int)(l:0≤f)(j:f<s.length)(g:s.length<1000000):Tot (tD s f) λ_=>True:=by
 simp only[tD,Dj,tt];refine⟨ay l j,(gw (ya _)).mono λ_ _=>λ_=>⟨λ_=>?_,λ_=>⟨λ_=>?_,λ_=>⟨λ_=>?_,λ_=>?_⟩⟩⟩⟩
 ·rw[aq Ω Ω];exact Cj s f g FU (f+1) Ω Ω (by rw[bh];omega)
 ·exact zp s f g FU f Ω Ω (by rw[bh];omega)
 ·exact(QS s f l j g).mono λ_ _=>trivial
 ·exact(WC s f l j g).mono λ_ _=>trivial
def Co (s:Str)(j:Int)(J:s.length<1000000)(k:aF ag3.den)(g:Int)(l:∀f,g<f→f≤s.length→Tot (k s j f) λ_=>True)(p:ixs s g=35):∀(n:Nat) (f:Int),0≤f→g≤f→f≤s.length→g<s.length→s.length-f<n→Tot (pS k n s j f) λ_=>True
 |0,R,_,_,r,_,P=>Ω
 |n+1,f,C,ha,r,h5,P=>by
  show Tot (tP ü ä (pS k n) k s j f) _;simp only[tP,tt,il];refine⟨ao λh=>ay C (by simpa using h),λh=>?_,λh=>?_⟩
  ·have h:f<s.length:=by
    simp at h;exact h.1
   refine⟨ay C h,(gw (ya _)).mono λ_ _=>λ_=>?_⟩;rw[aq Ω Ω];exact Co s j J k g l p n (f+1) Ω Ω Ω h5 Ω
  ·refine l f ?_ r;by_cases e:g=f
   ·subst e;rw[p]at h;simp[h5]at h
   ·omega
def tO (s:Str)(g:Int)(l:s.length<1000000):∀(n:Nat) (f:Int),0≤f→f≤s.length→s.length-f<n→Tot (pT n s g f) λ_=>True
 |0,P,_,r,J=>Ω
 |n+1,f,p,r,J=>by
  show Tot (tQ ü ä (pT n) (pS (pT n) FU) s g f) _;simp only[tQ,tt,il];intro h;have h:f<s.length:=by simpa using h
  refine⟨ay p h,λ_=>?_,λ_=>⟨ay p h,λC=>?_⟩⟩
  ·rw[aq Ω Ω];exact tO s g l n (f+1) Ω Ω Ω
  ·exact Co s g l _ f (λu R j=>tO s g l n u Ω j Ω) (by simpa using C) FU f p Ω r h (by rw[bh];omega)
def XD (s:Str)(f:s.length<1000000):Tot (tR s 0) λ_=>True:=by simp[tR,Dm];exact tO s 0 f FU 0 Ω Ω (by rw[bh];omega)
def AQ {s:Str}(h:¬s=[]):(0:Int)<s.length:=by
 cases s with
 |nil=>exact absurd rfl h
 |cons a l=>simp
def G2 (s:Str)(f:s.length<1000000):Tot (ld s) λ_=>True:=by
 simp only[ld,Ak,tt];have g:∀{c:Bool},(!(bif decide (s=[])then ö else c))=ö→(0:Int)<s.length:=λh=>AQ λe=>by simp[e]at h
 refine⟨ao λh=>ay Ω (AQ (by simpa using h)),ao λh=>ay Ω (g h),λh=>(Xk s 0 Ω ?_ f).mono λ_ _=>trivial⟩;refine AQ λe=>?_;simp[e]at h
def yw (s:Str)(g:s.length<1000000):∀(n:Nat) (c:Bool) (i:Int),0≤i→i≤s.length→s.length-i<n→Tot (nz n s c i) λ_=>True
 |0,_,p,_,l,j=>Ω
 |n+1,c,i,f,l,j=>by
  show Tot (lD ü ä (nz n) s c i) _;simp only[lD,jc,lE,tt,il];intro h;have h:i<s.length:=by simpa using h
  rw[aq Ω Ω];have r:=λc=>yw s g n c (i+1) Ω Ω Ω;exact⟨ay f h,λ_=>⟨ay f h,λ_=>r _,λ_=>r _⟩,λ_=>⟨ay f h,λ_=>r _,λ_=>r _⟩⟩
def Ng (s:Str)(t:Bool)(f:s.length<1000000):Tot (iG s t) λ_=>True:=by simp only[iG,uP,tt];exact(XD s f).mono λ_ _=>λ_ _=>yw s f FU ü 0 Ω Ω (by rw[bh];omega)
def Ho (k:Int)(s:Str)(f:s.length<1000000):Tot (gT k s) λ_=>True:=by simp[gT,nA,kg,dU,oA,tt];refine(G2 s f).mono λr _=>?_;have:=ae2 s;simp[this]
def gt (id:Int):bW id=ä (decide (id>1048576)&&decide (id<34603008) && !decide (id.tmod 1048576=0)):=by simp only[bW,qM,FD,UE];rw[show(!decide ((1048576:Int)=0))=ö from rfl,cd];simp[ck,akX]
def sK (id:Int):oZ id=true:=by unfold oZ;rw[gt];rfl
def yq (s:Str)(g:s.length<1000000):∀(n:Nat) (i:Int),0≤i→i≤s.length→s.length-i<n→Tot (nv n s i) λ_=>True
 |0,p,_,l,j=>Ω
 |n+1,i,f,l,j=>by
  show Tot (lz ü ä (nv n) s i) _;simp only[lz,tt,il];intro h;have h:i<s.length:=by simpa using h
  refine⟨ay f h,ao λ_=>ay f h,λ_=>?_⟩;rw[aq Ω Ω];exact yq s g n (i+1) Ω Ω Ω
def M6 (s:Str)(f:s.length<1000000):Tot (lC s) λ_=>True:=by
 simp only[lC,uM,tt,il];refine⟨ao λh=>?_,λ_=>yq s f FU 0 Ω Ω (by rw[bh];omega)⟩;rw[aq Ω Ω];have:¬((s.length:Int)<1):=λe=>by simp[e]at h
 exact ay Ω Ω
def fa (id:Int):Prop:=1048576<id∧id<34603008∧¬id.tmod 1048576=0
def RfI (x:Int):Prop:=x=0∨fa x
def yt {id:Int}(h:gu id=ö):fa id:=by
 have e:gu id=(decide (id>1048576)&&decide (id<34603008) && !decide (id.tmod 1048576=0)):=by unfold gu;rw[gt];rfl
 rw[e]at h;simpa[fa,alJ]using h
def KB (v:aM.den)(p:v.2.2.1.length<1000000):Tot (ji v) λr=>r=ö→RfI v.2.2.2.1:=by
 simp only[ji,qY,tt];refine⟨ao λ_=>sK _,ao λ_=>by simp[aI],λ_ h=>(by cases h),λg=>?_⟩;have f:RfI v.2.2.2.1:=by
  by_cases j:v.2.2.2.1=0
  ·exact .inl j
  ·refine .inr (yt ?_);cases l:gu v.2.2.2.1 with
   |true=>rfl
   |false=>rw[l]at g;simp[j]at g
 exact⟨λ_ _=>f,λ_=>⟨ao λ_=>by simp[aI],ao λ_=>by simp[aI],λ_ _=>f,λ_=>⟨λ_ _=>f,λ_=>(Ho _ _ p).mono λ_ _ _=>f⟩⟩⟩
def Cx (k f:Int)(v:aM.den)(g:v.2.2.1.length<1000000):Tot (iN k f v) λr=>r=ö→RfI v.2.2.2.1:=by
 simp only[iN,vU,tt];have z:∀{a:Int} {s:Str},eqD aM v (a,ü,s,0,())=ö→RfI v.2.2.2.1:=λh=>.inl (by rw[L0 aM _ _ h]);refine⟨λh _=>z h,λ_=>⟨λ_ h=>(by cases h),λ_=>⟨λ_ h=>z h,λ_=>⟨λ_ h=>z h,λ_=>⟨λ_=>⟨ao λ_=>sK _,λ_ h=>(by cases h),λC=>?_⟩,λ_=>⟨λ_=>(G2 _ g).mono λ_ _=>⟨λ_ h=>(by cases h),λj=>?_⟩,λ_=>⟨λ_=>KB v g,λ_=>⟨λ_=>⟨ao λ_=>by simp[aI],ao λ_=>(Ng _ _ g).some,λh=>?_⟩,λ_ h=>(by cases h)⟩⟩⟩⟩⟩⟩⟩⟩
 ·have p:RfI v.2.2.2.1 :=.inr (yt (by
   cases l:gu v.2.2.2.1 with
   |true=>rfl
   |false=>rw[l]at C;simp at C))
  exact⟨λ_=>(M6 _ g).mono λ_ _ _=>p,λ_ _=>p⟩
 ·have j:=z (by simpa using j);exact⟨λ_ _=>j,λ_ _=>j⟩
 ·refine z (a:=0) (s:=v.2.2.1) ?_;cases l:eqD aM v (0,ü,v.2.2.1,0,())with
  |true=>rfl
  |false=>rw[l]at h;cases h
def Ra (k f:Int)(v:aM.den)(g:v.2.2.1.length<1000000):Tot (ph k f v) λr=>r=ö→RfI v.2.2.2.1:=by simp[ph,yB,tt];exact(Cx k f v g).mono λ_ j=>⟨ao λ_=>by simp[aI],ao λ_=>by simp[aI],λh _=>j h⟩
def TxV (v:Val):Prop:=v.2.2.1.length<1000
def TxC (c:Cel):Prop:=TxV c.2.2.1
def gj {t:Ty}{l:List t.den}(g:0≤i)(f:i<l.length):ix t l i∈l:=by
 have h:i.toNat<l.length:=Ω
 unfold ix;rw[O',ζ h];exact j_ h
def Of (a b:Cel):fk a b=ä (decide (a.1=b.1)&&decide (a.2.1=b.2.1)):=by simp[fk,nK,FD]
def QN (a b:Cel):(iR a b).isSome=true:=by simp[iR,Ay];cases decide (a.1=b.1) <;> rfl
def Je (l:List Int)(x:Int)(g:l.length<1000000):∀(n:Nat) (r p:List Int),l=p++r→r.length<n→zQ n l x (p.length:Int)=ä (decide (x∈r))
 |0,r,p,_,h=>Ω
 |n+1,r,p,e,h=>by
  subst e;show zR ü ä (zQ n) (p++r) x p.length=_;simp only[zR,s2,il];cases r with
  |nil=>rw[SF (t:=tInt)];simp
  |cons c r=>
   have next:=Je (p++c::r) x g n r (p++[c]) Ψ (by simp at h;omega)
   rw[←Sq (t:=tInt) p c (by simp at g;omega)]at next
   rw[Lv (t:=tInt),eX (t:=tInt),ay Ω Ξ,next];simp[ck];by_cases f:c=x
   ·simp[f]
   ·have:¬x=c:=λe=>f e.symm;simp[f,this]
def LP (l:List Int)(x:Int)(f:l.length<1000000):rM l x=ä (decide (x∈l)):=by simp[rM,LO];exact Je l x f FU l [] rfl (by rw[bh];omega)
def vR (l:List Int)(x:Int)(f:l.length<1000000):Cu l x=true:=by unfold Cu;rw[LP l x f];rfl
def Pv (l:List Int)(x:Int)(f:l.length<1000000):p9 l x=decide (x∈l):=by unfold p9;rw[LP l x f];rfl
def ID (l:List Int)(x:Int)(P:l.length<1000000):∀(n:Nat) (t:Int),0≤t→t≤l.length→t<n→Tot (yU n l x t) λr=>r.length≤l.length+1∧∀y,y∈r↔y∈l∨y=x
 |0,t,C,_,h=>Ω
 |n+1,t,C,h1,h=>by
  show Tot (yV ü ä (yU n) l x t) _;have p:t>0→bd (w64 (t-1)) l.length=true:=λh=>by rw[aq Ω Ω];exact ay Ω Ω
  simp only[yV,tt,y?,s_,x_];refine⟨ao λh=>p (by simpa using h),λh=>?_,λ_=>?_⟩
  ·have J:t>0:=by simp at h;exact h.1
   refine⟨p J,λg=>⟨Ω,λy=>⟨.inl,λf=>?_⟩⟩,λ_=>?_⟩
   ·obtain f|rfl:=f
    ·exact f
    ·have g:ix tInt l (w64 (t-1))=y:=by simpa using g
     rw[←g];have T:=aq (n:=t-1) Ω Ω;exact gj (t:=tInt) Ω Ω
   ·rw[aq Ω Ω];exact ID l x P n (t-1) Ω Ω Ω
  ·have R:(List.take t.toNat l).length=t.toNat:=by simp;omega
   have j:(decide (0≤t)&&decide (t≤(l.length:Int)))=true:=by simp[C,h1]
   refine⟨j,by simp[lm,LIM];omega,by simp[lm,LIM];omega,j,by simp[lm,LIM];omega,by simp;omega,λy=>?_⟩;have:=G? t.toNat l;simp only[q',E'];constructor
   ·rintro((f|f)|f)
    ·exact .inl (L? f)
    ·exact .inr f
    ·exact .inl (aj0 f)
   ·rintro(f|f)
    ·rw[←this,q']at f;obtain f|f:=f
     ·exact .inl (.inl f)
     ·exact .inr f
    ·exact .inl (.inr f)
def Oj (l:List Int)(x:Int)(f:l.length<1000000):Tot (vo l x) λr=>r.length≤l.length+1∧∀y,y∈r↔y∈l∨y=x:=by simp[vo,K0,tt];exact ID l x f FU l.length Ω Ω (by rw[bh];omega)
def Fw (l:List Cel)(id:Int)(C:l.length<1000000):∀(n:Nat) (out:List Cel) (i:Int),0≤i→i≤l.length→out.length≤i→(∀c∈out,c∈l)→l.length-i<n→Tot (Di n l id out i) λr=>r.length≤l.length∧∀c∈r,c∈l
 |0,out,i,p,P,J,j,h=>Ω
 |n+1,out,i,p,P,J,j,h=>by
  show Tot (Fx ü ä (Di n) l id out i) _;simp only[Fx,Fy,tt,il];refine⟨λf=>?_,λ_=>⟨Ω,j⟩⟩;have f:i<l.length:=by simpa using f
  rw[aq Ω Ω];refine⟨ay p f,λ_=>⟨ay p f,by simp[lm,LIM];omega,Fw l id C n _ _ Ω Ω Ξ (λc g=>?_) Ω⟩,λ_=>Fw l id C n _ _ Ω Ω Ω j Ω⟩;obtain g|g:=q'.1 g
  ·exact j c g
  ·rw[E'.1 g];exact gj p f
def aeE (l:List Cel)(id:Int)(f:l.length<1000000):Tot (FA l id) λr=>r.length≤l.length∧∀c∈r,c∈l:=by simp only[FA,Ux];exact Fw l id f FU [] 0 Ω Ω Ψ (λc g=>by cases g) (by rw[bh];omega)
def yg (l:List Cel)(j:l.length<1000000):∀(n:Nat) (i:Int),0≤i→i≤l.length→l.length-i<n→Tot (mX n l i) λ_=>True
 |0,i,g,C,h=>Ω
 |n+1,i,g,C,h=>by
  show Tot (lk ü ä (mX n) l i) _;simp only[lk,tt,il];intro f;have f:i<l.length:=by simpa using f
  have p:∀{c:Bool},(c&&decide (i>0))=ö→bd (w64 (i-1)) l.length=true:=λh=>by simp at h;rw[aq Ω Ω];exact ay Ω Ω
  refine⟨ay g f,(gw (by rw[gt];rfl)).mono λr _=>⟨ao λ_=>ay g f,ao λ_=>ay g f,ao p,ao λ_=>ay g f,ao λ_=>QN _ _,ao λ_=>by simp[aI],λ_=>?_⟩⟩;rw[aq Ω Ω];exact yg l j n (i+1) Ω Ω Ω
def MF (l:List Cel)(f:l.length<1000000):Tot (ll l) λ_=>True:=by simp[ll,uE];exact yg l f FU 0 Ω Ω (by rw[bh];omega)
def yp (l:List Cel)(g:l.length<1000000):∀(n:Nat) (i:Int),0≤i→i≤l.length→l.length-i<n→Tot (nr n l i) λ_=>True
 |0,i,j,p,h=>Ω
 |n+1,i,j,p,h=>by
  show Tot (lx ü ä (nr n) l i) _;simp only[lx,tt,il];refine⟨λf=>?_,λ_=>(MF l g).mono λ_ _=>trivial⟩;have f:i<l.length:=by simpa using f
  rw[aq Ω Ω];exact⟨ay j f,λ_=>yp l g n (i+1) Ω Ω Ω⟩
def M3 (l:List Cel)(f:l.length<1000000):Tot (ly l) λ_=>True:=by simp[ly,uL];exact yp l f FU 0 Ω Ω (by rw[bh];omega)
def sJ (t:Mdl)(id f:Int)(p:t.1.length<1000000):∀(n:Nat) (g j:Int),0≤g→g≤j→j≤t.1.length→j-g<n→Tot (qL n t id f g j) λ_=>True
 |0,g,j,l,J,C,h=>Ω
 |n+1,g,j,l,J,C,h=>by
  show Tot (oY ü ä (qL n) t id f g j) _;simp only[oY,tt,il];refine⟨λr=>?_,λ_=>⟨ao λh=>ay l (by simpa using h),ao λ_=>by unfold EX;rw[Of];rfl,λh=>ay l ?_⟩⟩
  ·have r:g<j:=by simpa using r
   have U:w64 (g+j)=g+j:=aq Ω Ω;have T:Int.tdiv (g+j) 2=(g+j)/2:=Int.tdiv_eq_ediv_of_nonneg Ω;have R:w64 ((g+j)/2)=(g+j)/2:=aq Ω Ω;have P:w64 ((g+j)/2+1)=(g+j)/2+1:=aq Ω Ω;rw[U,T,R,P];exact⟨by decide,ay Ω Ω,(gw (QN _ _)).mono λ_ _=>⟨λ_=>sJ t id f p n _ _ Ω Ω Ω Ω,λ_=>sJ t id f p n _ _ Ω Ω Ω Ω⟩⟩
  ·simp at h;exact h.1
def abD (t:Mdl)(id f:Int)(g:t.1.length<1000000):Tot (zU t id f) λ_=>True:=by simp[zU,LS,uK,yn,tt];exact(sJ t id f g FU 0 t.1.length Ω Ω Ω (by rw[bh];omega)).mono λ_ _=>trivial
def xQ (t:Mdl)(j:t.1.length<1000000):∀(n:Nat) (l:List Int) (i:Int),0≤i→i≤t.1.length→l.length≤i→t.1.length-i<n→Tot (vP n t l i) λr=>r.length≤t.1.length
 |0,l,i,g,C,p,h=>Ω
 |n+1,l,i,g,C,p,h=>by
  show Tot (tW ü ä (vP n) t l i) _;simp only[tW,tX,tt,il];refine⟨λf=>?_,λ_=>Ω⟩;have f:i<t.1.length:=by simpa using f
  rw[aq (n:=i+1) Ω Ω];refine⟨ao λ_=>ay g f,ao λh=>?_,λ_=>⟨ay g f,by simp[lm,LIM];omega,xQ t j n _ _ Ω Ω Ξ Ω⟩,λ_=>xQ t j n _ _ Ω Ω Ω Ω⟩;have h:¬i=0:=by simpa using h
  rw[aq Ω Ω];exact ay Ω Ω
def X0 (t:Mdl)(f:t.1.length<1000000):Tot (tY t) λr=>r.length≤t.1.length:=by simp[tY,Dv];exact xQ t f FU [] 0 Ω Ω Ψ (by rw[bh];omega)
def B6 (t:Mdl)(C:t.1.length<1000000)(p:∀c∈t.1,TxC c):∀(n:Nat) (f:Int) (a b:Bool) (i:Int),0≤i→i≤t.1.length→t.1.length-i<n→Tot (lH n t f a b i) λ_=>True
 |0,f,a,b,i,j,P,h=>Ω
 |n+1,f,a,b,i,j,P,h=>by
  show Tot (pm ü ä (lH n) t f a b i) _;have l:i<t.1.length→∀f a b,Tot (iI ü ä (lH n) t i f a b) λ_=>True:=λg f a b=>by
   have J:=p _ (gj (t:=aa) j g);simp only[iI,pn,tt,il];rw[aq (n:=i+1) Ω Ω,aq (n:=(t.1.length:Int)-1) Ω Ω];have r:=λa b=>B6 t C p n f a b (i+1) Ω Ω Ω;refine⟨ay j g,ay j g,(Cx _ _ _ (alM J Ω)).mono λ_ _=>λ_=>⟨ao λ_=>ay j g,ao λ_=>ay j g,ao λh=>ay Ω ?_,ao λ_=>ay j g,λ_=>⟨ao λ_=>by simp[aI],λ_=>r _ _⟩,λ_=>r _ _⟩⟩;have h:¬i=(t.1.length:Int)-1:=by simpa using h
   omega
  simp only[pm,tt,il];intro g;have g:i<t.1.length:=by simpa using g
  refine⟨ao λ_=>ay j g,ao λh=>?_,λ_=>⟨ay j g,λ_=>⟨ay j g,l g _ _ _⟩⟩,λ_=>l g _ _ _⟩;have h:¬i=0:=by simpa using h
  rw[aq Ω Ω];exact ay Ω Ω
def Rf (t:Mdl)(f:t.1.length<1000000)(g:∀c∈t.1,TxC c):Tot (pp t) λ_=>True:=by simp[pp,yE,tt];exact(M3 _ f).mono λ_ _ _=>B6 t f g FU 0 ü ü 0 Ω Ω (by rw[bh];omega)
def wS (t:Mdl)(j:t.1.length<1000000)(g f:Int)(p:f≤1000001):∀(n:Nat) (id i:Int),0≤i→i≤1000001→1000001-i<n→Tot (kB n g f t id i) λ_=>True
 |0,id,i,C,r,h=>Ω
 |n+1,id,i,C,r,h=>by
  show Tot (jq ü ä (kB n) g f t id i) _;simp[jq,tt];intro l;have l:i<f:=by simpa using l
  rw[aq Ω Ω];exact(abD t id 2 j).mono λ_ _ _ _=>wS t j g f p n _ (i+1) Ω Ω Ω
def KX (t:Mdl)(j:t.1.length<1000000)(id g f:Int)(l:f≤1000001):Tot (gz t id g f) λ_=>True:=by simp[gz,rj];exact wS t j g f l FU id 0 Ω Ω (by rw[bh];omega)
def rZ (t:Mdl)(l:t.1.length<1000000)(id:Int)(f:List Int)(p:f.length≤t.1.length):∀(n:Nat) (out:List Int) (i:Int),0≤i→i≤f.length→out.length≤i→f.length-i<n→Tot (oe n id f t out i) λr=>r.length≤t.1.length
 |0,out,i,j,P,J,h=>Ω
 |n+1,out,i,j,P,J,h=>by
  show Tot (mJ ü ä (oe n) id f t out i) _;simp only[mJ,mK,tt,il];refine⟨λg=>?_,λ_=>Ω⟩;have g:i<f.length:=by simpa using g
  have C:IB t (ix tInt f i) id (w64 ((f.length:Int)+1))=true:=(KX t l _ _ _ (by rw[aq Ω Ω];omega)).some;rw[C,aq (n:=i+1) Ω Ω];exact⟨ay j g,ao λ_=>ay j g,by simp[aI,cd],λ_=>⟨ay j g,by simp[lm,LIM];omega,rZ t l id f p n _ _ Ω Ω Ξ Ω⟩,λ_=>rZ t l id f p n _ _ Ω Ω Ω Ω⟩
def QA (t:Mdl)(f:t.1.length<1000000)(j:∀c∈t.1,TxC c)(id:Int):Tot (mM t id) λr=>r.length≤t.1.length:=by simp only[mM,wa,tt];exact(Rf t f j).mono λ_ _=>⟨ao λ_=>sK _,λ_=>by simp,λ_=>(X0 t f).mono λg l=>rZ t f id g l FU [] 0 Ω Ω Ψ (by rw[bh];omega)⟩
abbrev Com:=tCommit.den
abbrev ws (c:Com):List Cel:=c.2.2.2.2.1
def mU (w:List Cel):Prop:=w.Pairwise λa b=>ahd a.1 a.2.1 b.1 b.2.1=ö
def Wr (w:List Cel)(id f:Int):Prop:=∃c∈w,c.1=id∧c.2.1=f
def Chn:Cel→List Cel→Prop
 |_,[]=>True
 |a,b::r=>ahd a.1 a.2.1 b.1 b.2.1=ö∧Chn b r
def Mi:∀{r:List Cel} {a:Cel},Chn a r→(a::r).Pairwise λa b=>ahd a.1 a.2.1 b.1 b.2.1=ö
 |[],a,_=>B_.2 ⟨λ_ h=>by(cases h),List.Pairwise.nil⟩
 |b::r,a,⟨j,l⟩=>by
  have g:=Mi l;refine B_.2 ⟨λx f=>?_,g⟩;obtain rfl|f:=c_.1 f
  ·exact j
  ·exact lg j ((B_.1 g).1 x f)
def wV (l:List Cel)(f:l.length<1000000):∀(n:Nat) (r p:List Cel) (a:Cel),l=p++a::r→r.length<n→Tot (io n l ((p.length:Int)+1)) λb=>b=ö→Chn a r
 |0,r,p,a,e,h=>Ω
 |n+1,r,p,a,e,h=>by
  subst e;show Tot (eS ü ä (io n) (p++a::r) ((p.length:Int)+1)) _;simp only[eS,tt,il];simp only[J',v_]at f⊢;have P:w64 ((p.length:Int)+1-1)=p.length:=by rw[aq Ω Ω];omega
  cases r with
  |nil=>exact⟨λh=>by simp at h,λ_ _=>trivial⟩
  |cons b r=>
   rw[P];have J:ix aa (p++a::b::r) (p.length:Int)=a:=eX (t:=aa) p a (b::r);have C:ix aa (p++a::b::r) ((p.length:Int)+1)=b:=by have:=eX (t:=aa) (p++[a]) b r;rw[show p++a::b::r=(p++[a])++b::r by simp,show((p.length:Int)+1)=((p++[a]).length:Int)by simp];exact this
   have j:w64 ((p.length:Int)+1+1)=((p++[a]).length:Int)+1:=by rw[aq Ω Ω];simp
   rw[J,C,j];refine⟨λ_=>?_,λh=>?_⟩
   ·refine⟨ay Ω Ξ,ay Ω Ξ,ay Ω Ξ,ay Ω Ξ,λ_ h=>(by cases h),λh=>?_⟩;refine(wV (p++a::b::r) (by simp at f⊢;omega) n r (p++[a]) b Ψ (by simp at h;simp at *;omega)).mono λx g e=>⟨?_,g e⟩;rw[←wt];simpa using h
   ·simp at h;omega
def K9 (l:List Cel)(f:l.length<1000000):Tot (jt l) λb=>b=ö→mU l:=by
 simp[jt,rn];cases l with
 |nil =>show Tot (eS ü ä (io 1099511627775) [] 1) _;simp only[eS,tt,il];exact⟨λh=>by simp at h,λ_ _=>List.Pairwise.nil⟩
 |cons a r=>exact(wV (a::r) f FU r [] a rfl (by rw[bh];simp at f;omega)).mono λb g e=>Mi (g e)
def wE (w:List Cel)(id f:Int)(P:w.length<1000000):∀(n:Nat) (i:Int), -1≤i→i<w.length→i+1<n→(∀k:Nat,i<k→k<w.length→¬((w.getD k (zero aa)).1=id∧(w.getD k (zero aa)).2.1=f))→Tot (j6 n w id f i) λr=>r.2.1=ö↔Wr w id f
 |0,i,T,p,h,_=>Ω
 |n+1,i,T,p,h,hk=>by
  show Tot (i6 ü ä (j6 n) w id f i) _;simp only[i6,tt];refine⟨λg=>?_,λg=>?_⟩
  ·have g:0≤i:=by simpa using g
   refine⟨ay g p,ao λ_=>ay g p,λj=>⟨ay g p,λ_=>?_,λ_=>trivial⟩,λj=>?_⟩
   ·simp at j;exact⟨_,gj (t:=aa) g p,j.1,j.2⟩
   ·rw[aq Ω Ω];refine wE w id f P n (i-1) Ω Ω Ω λk R C=>?_;by_cases e:i=k
    ·subst e;simp at j;intro J;exact j J.1 J.2
    ·exact hk k Ω C
  ·have g:¬0≤i:=by simpa using g
   refine⟨λh=>(by cases h),λ⟨c,j,e1,U⟩=>?_⟩;obtain⟨k,l,rfl⟩:=M?.1 j;have:=hk k Ω l;rw[O',ζ l]at this;exact absurd ⟨e1,U⟩ this
def jZ (w:List Cel)(id f:Int)(g:w.length<1000000):Tot (eC w id f) λr=>r.2.1=ö↔Wr w id f:=by
 simp[eC,qp,tt,il];rw[aq Ω Ω];exact wE w id f g FU _ Ω Ω (by rw[bh];omega) λk l j=>Ω
def Hn (c:Com)(id f:Int)(g:(ws c).length<1000000):Tot (fb c id f) λr=>r=ö↔Wr (ws c) id f:=by simp[fb,mY,tt];exact(jZ _ id f g).mono λ_ h=>h
def Ct (l:List Int)(j:l.length<1000000):∀(n:Nat) (i:Int),0≤i→i≤l.length→l.length-i<n→Tot (rG n l i) λ_=>True
 |0,i,g,p,h=>Ω
 |n+1,i,g,p,h=>by
  show Tot (pX ü ä (rG n) l i) _;simp only[pX,tt,il];intro f;have f:i<l.length:=by simpa using f
  rw[aq (n:=i+1) Ω Ω];refine⟨ay g f,(gw (by rw[gt];rfl)).mono λr _=>⟨ao λ_=>ay g f,ao λh=>?_,ao λ_=>by simp[aI],λ_=>Ct l j n (i+1) Ω Ω Ω⟩⟩;simp at h;rw[aq Ω Ω];exact ay Ω Ω
def Gi (l:List Int)(f:l.length<1000000):Tot (kZ l) λ_=>True:=by simp[kZ,zK];exact Ct l f FU 0 Ω Ω (by rw[bh];omega)
def yX (c:Com)(l:c.2.2.2.1.length<1000000)(P:Prop)(g:P):∀(n:Nat) (i:Int),0≤i→i≤c.2.2.2.1.length→c.2.2.2.1.length-i<n→Tot (nM n c i) λ_=>P
 |0,i,j,p,h=>Ω
 |n+1,i,j,p,h=>by
  show Tot (lW ü ä (nM n) c i) _;simp only[lW,tt,il];refine⟨λf=>?_,λ_=>g⟩;have f:i<c.2.2.2.1.length:=by simpa using f
  rw[aq (n:=i+1) Ω Ω];exact⟨ay j f,ao λ_=>ay j f,λ_=>g,λ_=>yX c l P g n (i+1) Ω Ω Ω⟩
def Om (c:Com)(j:c.2.1.length<1000000)(g:c.2.2.1.length<1000000)(p:c.2.2.2.1.length<1000000):Tot (lX c) λr=>r=ö→fa c.1:=by
 simp only[lX,vq,tt];have e:bW c.1=ä _:=gt c.1;refine⟨_,e,ao λ_=>(Gi _ j).some,ao λ_=>(Gi _ g).some,ao λ_=>vR _ _ j,ao λ_=>vR _ _ g,λ_ h=>(by cases h),λh=>?_⟩;have l:fa c.1:=by
  cases f:(decide (c.1>1048576)&&decide (c.1<34603008) && !decide (c.1.tmod 1048576=0))with
  |false=>rw[f]at h;simp at h
  |true=>simpa[fa,alJ]using f
 exact(yX c p (fa c.1) l FU 0 Ω Ω (by rw[bh];omega)).mono λ_ h _=>h
def pU (s:Sta)(id:Int)(f:cj s id 1=ö):Tot (fK s id) λ_=>True:=by
 simp only[fK,Do,tt,il];refine⟨f,λh=>ay Ω ?_⟩;have h:¬((iw s id 1).length:Int)=0:=by simpa using h
 omega
def Pa (s:Sta)(w:List Cel)(id:Int)(g:cj s id 1=ö)(f:w.length<1000000):Tot (ma s w id) λ_=>True:=by simp[ma,vJ,tt];exact(pU s id g).mono λ_ _ _=>(jZ w id 1 f).mono λ_ _=>trivial
def SR (f:Int):(gI f).isSome=true:=by simp[gI,rD,FD,UE];rw[ao λ_=>by simp[aI]];rfl
def IdC (x:Cel):Prop:=fa x.1∧RfI x.2.2.1.2.2.2.1
def LV (s:Sta)(c:Com)(x:Cel)(p:cj s x.1 1=ö)(j:(ws c).length<1000000)(P:TxC x):Tot (jA s c x) λr=>r=0→IdC x:=by
 simp only[jA,rO,i4,kH,fO,kG,tt];refine⟨_,gt x.1,ao λ_=>SR _,λ_ h=>absurd h Ϛ,λC=>?_⟩;have l:fa x.1:=by
  cases g:(decide (x.1>1048576)&&decide (x.1<34603008) && !decide (x.1.tmod 1048576=0))with
  |false=>rw[g]at C;simp at C
  |true=>simpa[fa,alJ]using g
 refine(pU s x.1 p).mono λ_ _=>⟨λ_=>⟨ao λ_=>by simp[aI],λ_ h=>absurd h Ϛ,λJ=>?_⟩,λ_=>(Pa s _ x.1 p j).mono λ_ _=>⟨λ_ h=>absurd h Ϛ,λ_=>(Ra _ _ _ (alM P Ω)).mono λr R=>⟨λ_ h=>absurd h Ϛ,λh _=>⟨l,R (by simpa using h)⟩⟩⟩⟩;have f:IdC x:=by
  refine⟨l,.inl ?_⟩;cases g:eqD aM x.2.2.1 (x.2.2.1.1,ü,[],0,())with
  |true=>rw[L0 aM _ _ g]
  |false=>rw[g]at J;simp at J
 exact⟨λ_=>⟨λ_=>(jZ _ _ _ j).mono λ_ _=>⟨λ_ _=>f,λ_ _=>f⟩,λ_=>(jZ _ _ _ j).mono λ_ _=>⟨λ_ _=>f,λ_ _=>f⟩⟩,λ_ _=>f⟩
def zV (s:Sta)(c:Com)(P:∀id,cj s id 1=ö)(J:(ws c).length<1000000)(C:∀x∈ws c,TxC x):∀(n:Nat) (i:Int),0≤i→i≤(ws c).length→(ws c).length-i<n→(∀j:Nat,j<i→∀x,(ws c)[j]? = ä x→IdC x)→Tot (nX n s c i) λr=>r=0→∀x∈ws c,IdC x
 |0,i,p,h1,h,_=>Ω
 |n+1,i,p,h1,h,hd=>by
  show Tot (mv ü ä (nX n) s c i) _;simp only[mv,tt,il];refine⟨λf=>?_,λf _ x hm=>?_⟩
  ·have f:i<(ws c).length:=by simpa using f
   rw[aq (n:=i+1) Ω Ω];refine⟨ay p f,(LV s c _ (P _) J (C _ (gj (t:=aa) p f))).mono λr T=>⟨λl e=>absurd e (by simpa using l),λl=>zV s c P J C n (i+1) Ω Ω Ω λj R x g=>?_⟩⟩;by_cases e:(j:Int)=i
   ·have U:ix aa (ws c) i=x:=by
     show(ws c).getD i.toNat (zero aa)=x;rw[←e,O',Int.toNat_natCast,g];rfl
    have:=T (by simpa using l);rw[←U];exact this
   ·exact hd j Ω x g
  ·obtain⟨j,R,rfl⟩:=M?.1 hm;have f:¬i<(ws c).length:=by simpa using f
   exact hd j Ω _ (ζ R)
def PD (s:Sta)(c:Com)(C:∀id,cj s id 1=ö)(R:c.2.1.length<1000000)(P:c.2.2.1.length<1000000)(J:c.2.2.2.1.length<1000000)(l:(ws c).length<1000000)(p:∀x∈ws c,TxC x):Tot (mw s c) λr=>r=0→fa c.1∧mU (ws c)∧∀x∈ws c,IdC x:=by simp only[mw,vT,tt];refine(Om c R P J).mono λr1 g=>⟨λ_ h=>absurd h Ϛ,λU=>(K9 (ws c) l).mono λr2 f=>⟨λ_ h=>absurd h Ϛ,λT=>?_⟩⟩;exact(zV s c C l p FU 0 Ω Ω (by rw[bh];omega) λj hj=>Ω).mono λ_ h e=>⟨g (by simpa using U),f (by simpa using T),h e⟩
def ft (l:List Com)(x:Int):Option Com:=l.find? λc=>decide (c.1=x)
def Cz (l:List Com)(x:Int)(f:l.length<1000000):∀(n:Nat) (r p:List Com),l=p++r→r.length<n→rR n l x (p.length:Int)=ä (match ft r x with|some c=>(c,ö,())|none=>((0,[],[],[],[],()),ü,()))
 |0,r,p,_,h=>Ω
 |n+1,r,p,e,h=>by
  subst e;show qd ü ä (rR n) (p++r) x p.length=_;simp only[qd,s2,il];cases r with
  |nil=>rw[SF (t:=tCommit)];rfl
  |cons c r=>
   have next:=Cz (p++c::r) x f n r (p++[c]) Ψ (by simp at h;omega)
   rw[←Sq (t:=tCommit) p c (by simp at f;omega)]at next
   rw[Lv (t:=tCommit),eX (t:=tCommit),ay Ω Ξ,next];simp[ck,ft];by_cases g:c.1=x
   ·simp[g]
   ·simp[g]
def Jq (l:List Com)(x:Int)(f:l.length<1000000):k7 l x=ä (match ft l x with|some c=>(c,ö,())|none=>((0,[],[],[],[],()),ü,())):=by simp[k7,zY];exact Cz l x f FU l [] rfl (by rw[bh];omega)
def eu (h:n≤4000000000):lm n=true:=by unfold lm LIM;exact Q_ Ω
def InH (l:List Com)(x:Int):Prop:=∃c∈l,c.1=x
variable{l T:List Com}{c:Com}
def Bo (h:ft l x=ä c):c∈l∧c.1=x:=by unfold ft at h;exact⟨alE h,by simpa using List.find?_some h⟩
def GB (h:ft l x=none):¬InH l x:=by rintro⟨c,f,e⟩;unfold ft at h;have:=List.find?_eq_none.1 h c f;simp[e]at this
def aR (l:List Com)(r:List Int):Prop:=∀x∈r,∀c,ft l x=ä c→∀p∈c.2.1,InH l p→p∈r
def rest:List Com→List Int→Nat
 |[],_=>0
 |c::l,out=>(if c.1∈out then 0 else c.2.1.length)+rest l out
def Ix {out f:List Int}(h:∀y∈out,y∈f):∀l,rest l f≤rest l out
 |[]=>ε _
 |c::l=>by
  have:=Ix h l;simp[rest];by_cases g:c.1∈out
  ·simp[g,h _ g];omega
  ·by_cases j:c.1∈f <;> simp[g,j] <;> omega
def Iw {out f:List Int}{x:Int}(g:x∈f)(j:¬x∈out)(h:∀y∈out,y∈f):∀{l:List Com} {c:Com},ft l x=ä c→rest l f+c.2.1.length≤rest l out
 |[],c,hc=>by simp[ft]at hc
 |d::l,c,hc=>by
  by_cases e:d.1=x
  ·have:d=c:=by simpa[ft,e]using hc
   subst this;have:=Ix h l;rw[←e]at g j;simp[rest,g,j];omega
  ·have p:ft l x=ä c:=by simpa[ft,e]using hc
   have:=Iw g j h p;simp[rest];by_cases r:d.1∈out
   ·simp[r,h _ r];omega
   ·by_cases C:d.1∈f <;> simp[r,C] <;> omega
def ady (l:List Com)(f r:List Int):Prop:=(∀x∈f,InH l x→x∈r)∧aR l r
def wi (l:List Com)(T:List Int)(B:Nat)(hB:B<100000)(hs:l.length<1000000):∀(n:Nat) (out:List Int) (g:Nat) (f:List Int),g≤f.length→g+rest l out<n→out.length+g+rest l out≤B →
  (∀x∈T,InH l x→x∈out∨x∈f.take g)→(∀x∈out,∀c,ft l x=ä c→∀p∈c.2.1,InH l p→p∈out∨p∈f.take g)→Tot (As n l out g f) λr=>r.length≤B∧ady l T r
 |0,out,g,f,h1,h2,h3,h4,h5=>Ω
 |n+1,out,g,f,h1,h2,h3,h4,h5=>by
  show Tot (At ü ä (As n) l out g f) _;simp only[At,tt,ni];refine⟨λJ=>?_,λJ=>?_⟩
  ·have J:0<g:=by simpa using J
   have e0:w64 ((g:Int)-1)=(g:Int)-1:=aq Ω Ω;have e1:((g:Int)-1).toNat=g-1:=Ω
   rw[e0,e1,Z'];obtain⟨k,rfl⟩:∃k,g=k+1:=⟨g-1,Ω⟩;rw[show k+1-1=k from rfl];have hk:k<f.length:=Ω
   have e2:f.getD k (zero tInt)=f[k]:=by rw[O',ζ hk];rfl
   rw[e2];have j:∀y,y∈f.take (k+1)↔y∈f.take k∨y=f[k]:=λy=>by rw[N' hk,q',E']
   generalize hx:f[k]=x at *;refine⟨by simp;omega,by simp;omega,_,Jq l x hs,ao λ_=>vR _ _ Ω, ?_⟩;rw[Pv _ _ Ω];cases hf:ft l x with
   |none=>
    refine⟨λ_=>wi l T B hB hs n out k f Ω Ω Ω (λy C g=>?_) (λy C c hc p J g=>?_),λh=>by simp at h⟩
    ·obtain h|h:=h4 y C g
     ·exact .inl h
     ·rcases(j y).1 h with h|rfl
      ·exact .inr h
      ·exact absurd g (GB hf)
    ·obtain h|h:=h5 y C c hc p J g
     ·exact .inl h
     ·rcases(j p).1 h with h|rfl
      ·exact .inr h
      ·exact absurd g (GB hf)
   |some c=>
    dsimp only;refine⟨λh=>?_,λh=>?_⟩
    ·have hin:x∈out:=by simpa using h
     refine wi l T B hB hs n out k f Ω Ω Ω (λy C g=>?_) (λy C c hc p J g=>?_)
     ·obtain h|h:=h4 y C g
      ·exact .inl h
      ·rcases(j y).1 h with h|rfl
       ·exact .inr h
       ·exact .inl hin
     ·obtain h|h:=h5 y C c hc p J g
      ·exact .inl h
      ·rcases(j p).1 h with h|rfl
       ·exact .inr h
       ·exact .inl hin
    ·have hni:¬x∈out:=by simpa using h
     refine(Oj out x Ω).mono λr2 R=>?_;have P:∀y∈out,y∈r2:=λy C=>(R.2 y).2 (.inl C);have hrest:=Iw ((R.2 x).2 (.inr rfl)) hni P hf;have U:(f.take k++c.2.1).take (k+c.2.1.length)=f.take k++c.2.1:=by apply k?;simp;omega
     refine⟨eu Ω,wi l T B hB hs n r2 _ _ Ξ Ω Ω (λy C g=>?_) (λy C d hd p J g=>?_)⟩
     ·rw[U,q'];obtain h|h:=h4 y C g
      ·exact .inl (P y h)
      ·rcases(j y).1 h with h|rfl
       ·exact .inr (.inl h)
       ·exact .inl ((R.2 _).2 (.inr rfl))
     ·rw[U,q'];rcases(R.2 y).1 C with C|rfl
      ·obtain h|h:=h5 y C d hd p J g
       ·exact .inl (P p h)
       ·rcases(j p).1 h with h|rfl
        ·exact .inr (.inl h)
        ·exact .inl ((R.2 _).2 (.inr rfl))
      ·rw[hf]at hd;cases hd;exact .inr (.inr J)
  ·have J:g=0:=by simpa using J
   subst J;refine⟨Ω,λx hx g=>?_,λx hx c hc p J g=>?_⟩
   ·obtain h|h:=h4 x hx g
    ·exact h
    ·simp at h
   ·obtain h|h:=h5 x hx c hc p J g
    ·exact h
    ·simp at h
def Few (l:List Com):Prop:=l.length≤20∧∀c∈l,c.2.1.length≤4
def Uk:∀(l:List Com),(∀c∈l,c.2.1.length≤4)→∀out,rest l out≤4*l.length
 |[],_,_=>ε _
 |c::l,h,out=>by have:=Uk l (λd f=>h d (e_ _ f)) out;have:=h c (m_ ..);simp[rest];split <;> omega
def Hc (l:List Com)(f:List Int)(j:Few l)(p:f.length≤1000):Tot (ol l f) λr=>r.length≤2000∧ady l f r:=by simp only[ol,Mt,tt,List.take_nil,s_,Z'];have J:=Uk l j.2 [];have C:=j.1;refine⟨eu Ω,wi l f 2000 Ω Ω FU [] f.length f Ω (by rw[bh];omega) Ξ (λx g _=>.inr (by simpa using g)) (λx g=>by cases g)⟩
def QE (l:List Com)(a b:Int)(f:Few l):Tot (mO l a b) λ_=>True:=by simp[mO,wg,tt];have h:=Hc l [b] f Ψ;exact⟨ao λ_=>h.some,ao λ_=>vR _ _ (D? (h.getD []).1 Ω)⟩
def BV (l:List Com)(f:List Int)(R:Few l)(p:f.length≤1000)(k:b7 (List Int))(out:List Int)(i:Int)(P:0≤i)(J:i<f.length)(U:out.length≤i)(C:∀out:List Int,out.length≤i+1→Tot (k l f out (i+1)) λr=>r.length≤f.length):∀(n:Nat) (ok:Bool) (j:Int),0≤j→j≤f.length→f.length-j<n→Tot (pd k n l f out i ok j) λr=>r.length≤f.length
 |0,ok,j,T,h3,h=>Ω
 |n+1,ok,j,T,h3,h=>by
  show Tot (sO ü ä (pd k n) k l f out i ok j) _;simp only[sO,pf,pg,tt,il];rw[aq (n:=i+1) Ω Ω];refine⟨λg=>?_,λ_=>⟨λ_=>⟨ay P J,(Oj out _ Ω).mono λr hr=>C r Ω⟩,λ_=>C out Ω⟩⟩;have g:j<f.length:=by simp at g;exact g.2
  rw[aq (n:=j+1) Ω Ω];have r:=λok=>BV l f R p k out i P J U C n ok (j+1) Ω Ω Ω;exact⟨ay P J,ay T g,(QE l _ _ R).mono λ_ _=>⟨λ_=>r _,λ_=>r _⟩⟩
def BW (l:List Com)(f:List Int)(p:Few l)(g:f.length≤1000):∀(n:Nat) (out:List Int) (i:Int),0≤i→i≤f.length→out.length≤i→f.length-i<n→Tot (uS n l f out i) λr=>r.length≤f.length
 |0,out,i,C,P,J,h=>Ω
 |n+1,out,i,C,P,J,h=>by
  show Tot (sQ ü ä (pd (uS n) FU) l f out i) _;simp only[sQ,tt,il];refine⟨λj=>?_,λ_=>Ω⟩;have j:i<f.length:=by simpa using j
  refine⟨ay C j,_,Jq l _ (by have:=p.1;omega), ?_⟩;exact BV l f p g _ out i C j J (λout R=>BW l f p g n out (i+1) Ω Ω Ω Ω) FU _ 0 Ω Ω (by rw[bh];omega)
def V8 (l:List Com)(f:List Int)(j:Few l)(g:f.length≤1000):Tot (sR l f) λr=>r.length≤f.length:=by simp[sR,CX];exact BW l f j g FU [] 0 Ω Ω Ψ (by rw[bh];omega)
def zM (l:List Com)(p:Few l)(k:dL (List Int))(out:List Int)(i:Int)(P:0≤i)(J:i<l.length)(R:out.length≤i)(g:∀out:List Int,out.length≤i+1→Tot (k l out (i+1)) λr=>r.length≤l.length):∀(n:Nat) (head:Bool) (j:Int),0≤j→j≤l.length→l.length-j<n→Tot (ml k n l out i head j) λr=>r.length≤l.length
 |0,ok,j,C,T,h=>Ω
 |n+1,ok,j,C,T,h=>by
  show Tot (pZ ü ä (ml k n) k l out i ok j) _;have:=p.1;simp only[pZ,k6,tt,il];rw[aq (n:=i+1) Ω Ω,aq (n:=j+1) Ω Ω];refine⟨λf=>?_,λ_=>⟨λ_=>⟨ay P J,by simp[lm,LIM];omega,g _ Ξ⟩,λ_=>g out Ω⟩⟩;have f:j<l.length:=by simpa using f
  refine⟨ao λ_=>ay C f,ao λ_=>ay P J,ao λ_=>vR _ _ ?_,zM l p k out i P J R g n _ (j+1) Ω Ω Ω⟩;have:=p.2 _ (gj (t:=tCommit) C f);omega
def zN (l:List Com)(g:Few l):∀(n:Nat) (out:List Int) (i:Int),0≤i→i≤l.length→out.length≤i→l.length-i<n→Tot (rL n l out i) λr=>r.length≤l.length
 |0,out,i,p,C,j,h=>Ω
 |n+1,out,i,p,C,j,h=>by
  show Tot (p7 ü ä (ml (rL n) FU) l out i) _;have:=g.1;simp[p7,tt,il];refine⟨λf=>?_,λ_=>Ω⟩;have f:i<l.length:=by simpa using f
  exact zM l g _ out i p f j (λout J=>zN l g n out (i+1) Ω Ω Ω Ω) FU _ 0 Ω Ω (by rw[bh];omega)
def S5 (l:List Com)(f:Few l):Tot (p8 l) λr=>r.length≤l.length:=by have:=f.1;simp[p8,zL];exact zN l f FU [] 0 Ω Ω Ψ (by rw[bh];omega)
def uw (s:Sta)(id f:Int):iw s id f=[]∨∃x∈s.1,x.1=id∧x.2.1=f∧x.2.2.1=iw s id f:=by
 unfold iw;cases g:mN s id f with
 |nil=>exact .inl rfl
 |cons x r=>
  simp only;split
  next h=>refine .inr ⟨x, ?_,h.1,h.2,rfl⟩;rw[C0 s id f,g];simp
  ·exact .inl rfl
def adV (T:s.1.Pairwise jM)(id f:Int){l:List Alt}(hne:l≠[]):(oD s id f l).1.Pairwise jM∧(oD s id f l).1.length≤s.1.length+1∧∀x∈(oD s id f l).1,(x∈s.1∧¬(x.1=id∧x.2.1=f))∨x=(id,f,l,()):=by
 have hs:=C0 s id f;have hp:∀x∈before s id f,ahd x.1 x.2.1 id f=true:=wL _ _;have hh:∀x r,mN s id f=x::r→ahd x.1 x.2.1 id f=false:=uk _ _;have he:l.isEmpty=false:=by cases l with|nil=>exact absurd rfl hne|cons _ _=>rfl
 have C:=T;rw[hs,E_]at C;have R:∀P,P.Pairwise jM→(∀y∈P,y∈s.1∧ahd id f y.1 y.2.1=ö)→(before s id f).length+P.length≤s.1.length→(before s id f++[(id,f,l,())]++P).Pairwise jM∧(before s id f++[(id,f,l,())]++P).length≤s.1.length+1∧∀x∈before s id f++[(id,f,l,())]++P,(x∈s.1∧¬(x.1=id∧x.2.1=f))∨x=(id,f,l,()):=by
  intro P k2 U k5;refine⟨?_,by simp;omega,λx j=>?_⟩
  ·rw[G_,E_];refine⟨C.1, ?_,λx j y g=>?_⟩
   ·rw[List.singleton_append,B_];exact⟨λy g=>(U y g).2,k2⟩
   ·obtain g|g:=q'.1 g
    ·rw[E'.1 g];exact hp x j
    ·exact lg (hp x j) (U y g).2
  ·simp only[q',E']at j;rcases j with(j|j)|j
   ·refine .inl ⟨by rw[hs];exact S_ _ j,λe=>?_⟩;have:=hp x j;rw[e.1,e.2,sd]at this;omega
   ·exact .inr j
   ·refine .inl ⟨(U x j).1,λe=>?_⟩;have:=(U x j).2;rw[e.1,e.2,sd]at this;omega
 have p:(before s id f).length+(mN s id f).length=s.1.length:=by rw[←List.length_append,←hs]
 unfold oD;simp only[he,akG,akZ];cases hq:mN s id f with
 |nil=>exact R [] List.Pairwise.nil (λy g=>by cases g) (by rw[hq]at p;simpa using alQ p)
 |cons x r=>
  rw[hq]at C p;have j:=hh x r hq;have J:∀y∈x::r,y∈s.1:=λy g=>by rw[hs,hq];exact akn _ g
  have hr:=B_.1 C.2.1;by_cases e:x.1=id∧x.2.1=f
  ·simp only[Yn,Θ e];refine R r hr.2 (λy g=>⟨J y (e_ _ g), ?_⟩) (by simp at p;omega);have:=hr.1 y g;unfold jM at this;rwa[e.1,e.2]at this
  ·simp only[Yn,ω e];have h1:ahd id f x.1 x.2.1=true:=VI j e;refine R (x::r) C.2.1 (λy g=>⟨J y g, ?_⟩) Ω;obtain rfl|g:=c_.1 g
   ·exact h1
   ·exact lg h1 (hr.1 y g)
def Alv (T:List Com)(C:List (List Int))(g:Int)(id f:Int):Prop:=∀j<T.length,¬(T.getD j (zero tCommit)).1=g→Wr (ws (T.getD j (zero tCommit))) id f→¬g∈C.getD j []
structure StI (T:List Com)(C:List (List Int))(N:Nat)(s:List Slt):Prop where
 asc:s.Pairwise jM
 len:s.length≤N
 alts:∀x∈s,x.2.2.1≠[]∧x.2.2.1.length≤N
 srt:∀x∈s,x.2.2.1.Pairwise λa b=>a.1<b.1
 txt:∀x∈s,∀a∈x.2.2.1,TxV a.2.1
 src:∀x∈s,∀a∈x.2.2.1,∃c∈T,c.1=a.1∧Wr (ws c) x.1 x.2.1∧Alv T C c.1 x.1 x.2.1
def StI.mono {N j:Nat}{s:List Slt}(h:StI T C N s)(g:N≤j):StI T C j s :=
 ⟨h.asc,ξ h.len g,λx f=>⟨(h.alts x f).1,ξ (h.alts x f).2 g⟩,h.srt,h.txt,h.src⟩
def StI.place {N:Nat}{s:List Slt}(h:StI T C N s)(g:N≤1000000)(id f:Int):cj (s,()) id f=true:=by unfold cj agd;rw[θ];have:=h.len;exact⟨Q_ (show s.length≤1048576 by omega),Q_ h.asc⟩
structure Rep0 (T:List Com)(C:List (List Int)):Prop where
 few:T.length≤20
 asc:T.Pairwise λa b=>a.1<b.1
 ord:∀c∈T,mU (ws c)
 txt:∀c∈T,∀x∈ws c,TxC x
 wl:∀c∈T,(ws c).length<1000000
 ab:C.length=T.length
 al:∀r∈C,r.length<1000000
def aeh {f wr:List Cel}{w:Cel}(h:mU (f++w::wr)):¬Wr f w.1 w.2.1:=by rintro⟨c,g,l,j⟩;have:=(E_.1 h).2.2 c g w (m_ ..);rw[l,j,sd]at this;omega
def Oa {T:List Com}{C:List (List Int)}(h0:Rep0 T C){P R:List Com}{c:Com}(hT:T=P++c::R){wp wr:List Cel}{w:Cel}(hw:ws c=wp++w::wr)(k0:bF Sta)(k:bT Sta)(Q:Sta→Prop)(N:Nat)(hN:N≤500000)(b:List Slt)(p:StI T C N b)
  (r:∀x∈b,∀a∈x.2.2.1,a.1≤c.1∧(a.1=c.1→Wr wp x.1 x.2.1))
  (hk:∀b',StI T C (N+1) b'→(∀x∈b',∀a∈x.2.2.1,a.1≤c.1∧(a.1=c.1→Wr (wp++[w]) x.1 x.2.1))→Tot (k T C P.length ((wp.length:Int)+1) b') Q) :
  ∀(n:Nat) (al:Bool) (j:Nat),j≤T.length→T.length-j<n→(al=ö→∀j'<j,¬(T.getD j' (zero tCommit)).1=c.1→Wr (ws (T.getD j' (zero tCommit))) w.1 w.2.1→¬c.1∈C.getD j' [])→Tot (g8 k0 k n T C P.length wp.length b al j) Q
 |0,al,j,h1,h2,h3=>Ω
 |n+1,al,j,h1,h2,h3=>by
  show Tot (jn ü ä (g8 k0 k n) k T C P.length wp.length b al j) _;have hPi:(P.length:Int)<T.length:=by rw[hT];simp;omega
  have ec:ix tCommit T (P.length:Int)=c:=by rw[hT];exact eX (t:=tCommit) P c R
  have ew:ix aa c.2.2.2.2.1 (wp.length:Int)=w:=by show ix aa (ws c) _=w;rw[hw];exact eX (t:=aa) wp w wr
  have hwl:(ws c).length<1000000:=h0.wl c (by rw[hT];simp);have hwp:wp.length<1000000:=by rw[hw]at hwl;simp at hwl;omega
  have hfew:=h0.few;simp only[jn,dw,tt,il,s_];rw[ec,ew,aq (n:=(wp.length:Int)+1) Ω Ω,aq (n:=(j:Int)+1) Ω Ω];refine⟨λhj=>?_,λhj=>⟨λf=>?_,λ_=>?_⟩⟩
  ·have hja:j<T.length∧al=true:=by
    simp at hj;exact⟨Ω,hj.2⟩
   have hjt:(j:Int)<T.length:=Ω
   have hjn:=hja.1;have etj:ix tCommit T (j:Int)=T.getD j (zero tCommit):=rfl;have eaj:ix (.slice tInt) C (j:Int)=C.getD j []:=rfl;have hmem:T.getD j (zero tCommit)∈T:=gj (t:=tCommit) Ω hjt;have hwr:=Hn (T.getD j (zero tCommit)) w.1 w.2.1 (h0.wl _ hmem);have hal:(C.getD j []).length<1000000:=h0.al _ (by rw[O',ζ (by rw[h0.ab];exact hjn)];exact j_ _);rw[etj,eaj,Pv _ _ hal];have hG:DQ (T.getD j (zero tCommit)) w.1 w.2.1=true:=hwr.some;have hF:eD (T.getD j (zero tCommit)) w.1 w.2.1=ö↔Wr (ws (T.getD j (zero tCommit))) w.1 w.2.1:=hwr.getD (zero .bool);refine⟨ao λ_=>ay Ω hjt,ao λ_=>hG,ao λ_=>ay Ω (by rw[h0.ab];omega),ao λ_=>ay Ω hPi,ao λ_=>vR _ _ hal, ?_⟩;refine Oa h0 hT hw k0 k Q N hN b p r hk n _ (j+1) Ω Ω λf j' hj' hne hW=>?_;by_cases e:j'=j
   ·subst e;have hji:¬(j':Int)=P.length:=λe=>hne (by rw[←etj,e,ec]);rw[hF.2 hW]at f;simpa[hji]using f
   ·exact h3 hja.2 j' Ω hne hW
  ·subst f;have hjl:T.length≤j:=by
    by_cases e:j<T.length
    ·simp[show(j:Int)<T.length by omega]at hj
    ·omega
   have halv:Alv T C c.1 w.1 w.2.1:=λj' hj'=>h3 rfl j' Ω;have hpl:=p.place Ω w.1 w.2.1;have hlenA:(iw (b,()) w.1 w.2.1).length≤N:=by
    rcases uw (b,()) w.1 w.2.1 with e|⟨x,g,_,_,e⟩
    ·rw[e];simp
    ·rw[←e];exact(p.alts x g).2
   have hlt:∀a∈iw (b,()) w.1 w.2.1,a.1<c.1:=λa f=>by
    rcases uw (b,()) w.1 w.2.1 with e|⟨x,g,e1,e2,e⟩
    ·rw[e]at f;cases f
    ·rw[←e]at f;have h1:=r x g a f;by_cases h2:a.1=c.1
     ·have:=h1.2 h2;rw[e1,e2]at this;exact absurd this (aeh (hw ▸ h0.ord c (by rw[hT];simp)))
     ·exact Int.lt_iff_le_and_ne.2 ⟨h1.1,h2⟩
   have J:=adV p.asc w.1 w.2.1 (s:=(b,())) (l:=iw (b,()) w.1 w.2.1++[(c.1,w.2.2.1,())]) Ψ;have U:∀x∈(oD (b,()) w.1 w.2.1 (iw (b,()) w.1 w.2.1++[(c.1,w.2.2.1,())])).1,x∈b∨x=(w.1,w.2.1,iw (b,()) w.1 w.2.1++[(c.1,w.2.2.1,())],()):=λx g=>(J.2.2 x g).imp (·.1) λf=>f;have hold:∀a∈iw (b,()) w.1 w.2.1,∃x∈b,x.1=w.1∧x.2.1=w.2.1∧a∈x.2.2.1:=λa f=>by
    rcases uw (b,()) w.1 w.2.1 with e|⟨x,g,e1,e2,e⟩
    ·rw[e]at f;cases f
    ·exact⟨x,g,e1,e2,e ▸ f⟩
   refine⟨hpl,eu Ξ,ay Ω hPi,eu Ξ,hpl,hk _ ⟨J.1,ξ J.2.1 (by have:=p.len;simp;omega),λx g=>?_,λx g=>?_,λx g a f=>?_,λx g a f=>?_⟩ λx g a f=>?_⟩
   ·obtain g|rfl:=U x g
    ·exact⟨(p.alts x g).1,Nat.le_succ_of_le (p.alts x g).2⟩
    ·exact⟨Ψ,by simp;omega⟩
   ·obtain g|rfl:=U x g
    ·exact p.srt x g
    ·show(iw (b,()) w.1 w.2.1++[(c.1,w.2.2.1,())]).Pairwise _;rw[E_];refine⟨?_,Ψ,λa f d hd=>?_⟩
     ·rcases uw (b,()) w.1 w.2.1 with e|⟨x,g,e1,e2,e⟩
      ·rw[e];exact List.Pairwise.nil
      ·rw[←e];exact p.srt x g
     ·rw[E'.1 hd];exact hlt a f
   ·obtain g|rfl:=U x g
    ·exact p.txt x g a f
    ·obtain f|f:=q'.1 f
     ·obtain⟨y,hy,_,_,h⟩:=hold a f;exact p.txt y hy a h
     ·rw[E'.1 f];exact h0.txt c (by rw[hT];simp) w (by rw[hw];simp)
   ·obtain g|rfl:=U x g
    ·exact p.src x g a f
    ·obtain f|f:=q'.1 f
     ·obtain⟨y,hy,e1,e2,h⟩:=hold a f;have:=p.src y hy a h;rwa[e1,e2]at this
     ·rw[E'.1 f];exact⟨c,by rw[hT];simp,rfl,⟨w,by rw[hw];simp,rfl,rfl⟩,halv⟩
   ·obtain g|rfl:=U x g
    ·have:=r x g a f;refine⟨this.1,λe=>?_⟩;obtain⟨d,hd,h⟩:=this.2 e;exact⟨d,S_ _ hd,h⟩
    ·obtain f|f:=q'.1 f
     ·have:=hlt a f;exact⟨alU this,λe=>absurd e (ali this)⟩
     ·rw[E'.1 f];exact⟨akt _,λ_=>⟨w,Ψ,rfl,rfl⟩⟩
  ·exact hk b (p.mono Ω) λx g a f=>⟨(r x g a f).1,λe=>by
    obtain⟨d,hd,h⟩:=(r x g a f).2 e;exact⟨d,S_ _ hd,h⟩⟩
def cM:List Com→Nat
 |[]=>0
 |c::l=>(ws c).length+cM l
def du (a b:List Com):cM (a++b)=cM a+cM b:=by
 induction a with
 |nil=>simp[cM]
 |cons c a f=>simp[cM,f];omega
def Ob {T:List Com}{C:List (List Int)}(J:Rep0 T C){P R:List Com}{c:Com}(j:T=P++c::R)(g:bF Sta)(Q:Sta→Prop)(M:Nat)(hM:M≤500000)(hk:∀p,StI T C M p→(∀x∈p,∀a∈x.2.2.1,a.1≤c.1)→Tot (g T C ((P.length:Int)+1) p) Q) :
  ∀(n:Nat) (wr f:List Cel) (N:Nat) (b:List Slt),ws c=f++wr→wr.length<n→N+wr.length≤M→StI T C N b→(∀x∈b,∀a∈x.2.2.1,a.1≤c.1∧(a.1=c.1→Wr f x.1 x.2.1))→Tot (hO g n T C P.length f.length b) Q
 |0,wr,f,N,b,r,h2,h3,h4,h5=>Ω
 |n+1,wr,f,N,b,r,h2,h3,h4,h5=>by
  show Tot (jo ü ä (g8 g (hO g n) FU) g T C P.length f.length b) _;have hfew:=J.few;have l:(P.length:Int)<T.length:=by rw[j];simp;omega
  have ec:ix tCommit T (P.length:Int)=c:=by rw[j];exact eX (t:=tCommit) P c R
  have hwl:(ws c).length<1000000:=J.wl c (by rw[j];simp);simp only[jo,tt,il];rw[ec,aq (n:=(P.length:Int)+1) Ω Ω];show bd _ _=ö∧(decide ((f.length:Int)<((ws c).length:Int))=ö→bd _ _=ö∧bd (f.length:Int) (ws c).length=ö∧_)∧(decide ((f.length:Int)<((ws c).length:Int))=ü→_);refine⟨ay Ω l,λh=>⟨ay Ω l,ay Ω (by simpa using h), ?_⟩,λ_=>hk b (h4.mono Ω) λx hx a ha=>(h5 x hx a ha).1⟩;cases wr with
  |nil=>rw[r]at h;simp at h
  |cons w wr =>refine Oa J j r g _ Q N Ω b h4 h5 (λp hb' U=>?_) FU ö 0 Ω (by rw[bh];omega) (λ_ j' hj'=>Ω);have:=Ob J j g Q M hM hk n wr (f++[w]) (N+1) p (by rw[r];simp) (by simp at h2;omega) (by simp at h3;omega) hb' U;simpa using this
def Oc {T:List Com}{C:List (List Int)}(j:Rep0 T C)(hM:cM T≤500000):∀(n:Nat) (R P:List Com) (b:List Slt),T=P++R→R.length<n→StI T C (cM P) b→(∀x∈b,∀a∈x.2.2.1,∀d∈R,a.1<d.1)→Tot (hZ n T C P.length b) λs=>StI T C (cM T) s.1
 |0,R,P,b,g,h2,h3,h4=>Ω
 |n+1,R,P,b,g,h2,h3,h4=>by
  show Tot (jp ü ä (hO (hZ n) FU) T C P.length b) _;have p:cM P+cM R=cM T:=by rw[g,du]
  simp[jp,tt,il];refine⟨λh=>?_,λ_=>h3.mono Ω⟩;cases R with
  |nil=>rw[g]at h;simp at h
  |cons c R=>
   simp[cM]at p;have hwl:(ws c).length<1000000:=j.wl c (by rw[g];simp);have f:=j.asc;rw[g,E_]at f;have J:=(B_.1 f.2.1).1;refine Ob j g _ _ (cM P+(ws c).length) Ω (λb' U r=>?_) FU (ws c) [] (cM P) b rfl (by rw[bh];omega) Ω h3 λx l a ha=>?_
   ·have:=Oc j hM n R (P++[c]) b' (by rw[g];simp) (by simp at h2;omega) (by rw[du];simpa[cM]using U) λx l a ha d hd=>Int.lt_of_le_of_lt (r x l a ha) (J d hd);simpa using this
   ·have:=h4 x l a ha c (m_ ..);exact⟨alU this,λe=>absurd e (ali this)⟩
def Jh (a b:List J)(d:J){j:Nat}(h:j<a.length):(a++b).getD j d=a.getD j d:=by simp[O',I' h]
def Ji (a:List J)(x d:J):(a++[x]).getD a.length d=x:=by simp[O']
structure H0 (l:List Com):Prop where
 few:l.length≤20
 asc:l.Pairwise λa b=>a.1<b.1
 par:∀c∈l,c.2.1.length≤4
 ord:∀c∈l,mU (ws c)
 txt:∀c∈l,∀x∈ws c,TxC x
 sum:cM l≤500000
 ids:∀c∈l,∀x∈ws c,IdC x
 pic:∀c∈l,c.2.2.1.length≤4
def H0.isFew (h:H0 l):Few l:=⟨h.few,h.par⟩
def sD (h:c∈l):(ws c).length≤cM l:=by
 induction l with
 |nil=>cases h
 |cons d l f=>
  simp[cM];obtain rfl|h:=c_.1 h
  ·omega
  ·have:=f h;omega
def AtP (l:List Com)(s:Sta):Prop:=∃T C,(∀c∈T,c∈l)∧(∀j<T.length,ady l [(T.getD j (zero tCommit)).1] (C.getD j []))∧StI T C (cM l) s.1
def Ul (l:List Com)(hl:H0 l)(only:List Int)(ho:only.length<1000000):∀(n:Nat) (R P T:List Com) (C:List (List Int)),l=P++R→R.length<n→(∀c∈T,c∈P)→(T.Pairwise λa b=>a.1<b.1)→T.length≤P.length→cM T≤cM P→C.length=T.length→(∀j<T.length,ady l [(T.getD j (zero tCommit)).1] (C.getD j []))→(∀r∈C,r.length<1000000)→Tot (jm n l only T C P.length) (AtP l)
 |0,R,P,T,C,p,h2,_,_,_,_,_,_,_=>Ω
 |n+1,R,P,T,C,p,h2,h3,h4,h5,h6,h7,h8,h9=>by
  show Tot (lU ü ä (jm n) (hZ FU) l only T C P.length) _;have J:=hl.few;have hws:cM P+cM R=cM l:=by rw[p,du]
  have hsum:=hl.sum;have hP:P.length≤20:=by rw[p]at J;simp at J;omega
  simp only[lU,eQ,tt,il];rw[aq (n:=(P.length:Int)+1) Ω Ω];refine⟨λh=>?_,λ_=>?_⟩
  ·cases R with
   |nil=>rw[p]at h;simp at h
   |cons c R=>
    have hPl:(P.length:Int)<l.length:=by simpa using h
    have ec:ix tCommit l (P.length:Int)=c:=by rw[p];exact eX (t:=tCommit) P c R
    have hcl:c∈l:=by rw[p];simp
    have U:=hl.asc;rw[p,E_]at U;have next:∀(T:List Com) (C:List (List Int)),(∀c'∈T,c'∈P++[c])→(T.Pairwise λa b=>a.1<b.1)→T.length≤P.length+1→cM T≤cM (P++[c])→C.length=T.length→(∀j<T.length,ady l [(T.getD j (zero tCommit)).1] (C.getD j []))→(∀r∈C,r.length<1000000)→Tot (jm n l only T C ((P.length:Int)+1)) (AtP l):=λT C a1 a2 a3 a4 a5 a6 a7=>by have:=Ul l hl only ho n R (P++[c]) T C (by rw[p];simp) (by simp at h2;omega) a1 a2 (by simpa using a3) a4 a5 a6 a7;simpa using this
    rw[ec];refine⟨ay Ω hPl,_,LP only _ ho,λ_=>⟨ay Ω hPl,eu Ξ,ay Ω hPl,(Hc l [c.1] hl.isFew Ψ).mono λr hr=>⟨eu Ξ,next _ _ (λd hd=>?_) ?_ Ξ (by rw[du,du];simp[cM];omega) Ξ (λj hj=>?_) (λr' hr'=>?_)⟩⟩,λ_=>next T C (λd hd=>S_ _ (h3 d hd)) h4 Ω (by rw[du];omega) h7 h8 h9⟩
    ·obtain hd|hd:=q'.1 hd
     ·exact S_ _ (h3 d hd)
     ·exact akn _ hd
    ·rw[E_];exact⟨h4,Ψ,λa ha b hb=>U.2.2 a (h3 a ha) b (by rw[E'.1 hb];simp)⟩
    ·by_cases e:j<T.length
     ·rw[Jh _ _ _ e,Jh _ _ _ Ω];exact h8 j e
     ·have e:j=T.length:=by simp at hj;omega
      subst e;rw[Ji,←h7,Ji];exact hr.2
    ·obtain h|h:=q'.1 hr'
     ·exact h9 r' h
     ·rw[E'.1 h];have:=hr.1;omega
  ·have g:∀c∈T,c∈l:=λc hc=>by rw[p];exact S_ _ (h3 c hc)
   have h0:Rep0 T C:=⟨Ω,h4,λc hc=>hl.ord c (g c hc),λc hc=>hl.txt c (g c hc),λc hc=>by have:=sD (g c hc);omega,h7,h9⟩;exact(Oc h0 Ω FU T [] [] rfl (by rw[bh];omega) ⟨List.Pairwise.nil,Ψ,λx f=>(by cases f),λx f=>(by cases f),λx f=>(by cases f),λx f=>(by cases f)⟩ λx f=>by cases f).mono λs hs=>⟨T,C,g,h8,hs.mono Ω⟩
def N6 (l:List Com)(f:H0 l)(only:List Int)(p:only.length<1000000):Tot (lV l only) (AtP l):=by
 have:=f.few;simp[lV,vj];exact Ul l f only p FU l [] [] [] rfl (by rw[bh];omega) (λc J=>by cases J) List.Pairwise.nil Ψ (by simp[cM]) rfl (λj C=>by simp at C) λr g=>by cases g
def JW (l:List Com)(g:H0 l)(f:List Int)(p:f.length≤1000):Tot (qk l f) (AtP l):=by simp[qk,DG,tt];exact(Hc l f g.isFew p).mono λr j=>(N6 l g r (by have:=j.1;omega)).mono λ_ h=>h
def Vz (l:List Com)(f:H0 l):Tot (BF l) (AtP l):=by have:=f.few;simp[BF,VB,vQ,zO,tt];exact(S5 l f.isFew).mono λr g=>(JW l f r Ω).mono λ_ h=>h
def bx (x n:Int)(g:1≤n)(f:n≤4000000000):Tot (mod2_ev x n) λr=>0≤r∧r<n:=by
 simp only[mod2_ev,Lt,tt];have l:=akb x (show 0<n by omega);have j : -n<x.tmod n:=by have:=akb (-x) (show 0<n by omega);rw[Int.neg_tmod]at this;omega
 refine⟨λh=>by simp at h;omega,λ_=>⟨by simp;omega,by simp;omega, ?_⟩⟩;rw[aq Ω Ω];exact⟨Int.tmod_nonneg _ Ω,akb _ Ω⟩
def gE (l:List Int)(x:Int)(g:l.length<1000000):Tot (aZ l x) λr=>r=0∨r∈l:=by
 simp only[aZ,De,tt,il];refine⟨λ_=>.inl trivial,λh=>?_⟩;have h:¬(l.length:Int)=0:=by simpa using h
 exact(bx x l.length Ω Ω).mono λr f=>⟨ay f.1 f.2,.inr (gj (t:=tInt) f.1 f.2)⟩
def Sh (s:Str):Prop:=s.length<1000
def uJ (k x:Int):Tot (ja k x) Sh:=by simp[ja,CU,tt];refine(bx x 5 Ω Ω).mono λr _=>?_;simp[Sh]
def Nj (x:Int):Tot (lF x) Sh:=by simp[lF,uQ,tt];refine(bx x 5 Ω Ω).mono λr _=>?_;simp[Sh]
def F7 (x:Int):Tot (rB x) Sh:=by simp only[rB,LB,tt];exact(bx x 26 Ω Ω).mono λr _=>⟨by decide,(bx _ 25 Ω Ω).mono λr _=>by simp[Sh]⟩
structure St1 (s:Sta):Prop where
 asc:s.1.Pairwise jM
 len:s.1.length<1000000
 alts:∀x∈s.1,x.2.2.1≠[]∧x.2.2.1.length<1000000
 txt:∀x∈s.1,∀a∈x.2.2.1,TxV a.2.1
def AtP.st1 (h:AtP l s)(g:H0 l):St1 s:=by obtain⟨T,C,_,_,h⟩:=h;have:=g.sum;exact⟨h.asc,by have:=h.len;omega,λx f=>⟨(h.alts x f).1,by have:=(h.alts x f).2;omega⟩,h.txt⟩
def St1.place (h:St1 s)(id f:Int):cj s id f=true:=by unfold cj agd;rw[θ];have:=h.len;exact⟨Q_ Ω,Q_ h.asc⟩
def St1.stg (h:St1 s):stG s=true:=by unfold stG ahP;rw[θ];have:=h.len;refine⟨Q_ Ω,P'.2 λx f=>?_⟩;have:=h.alts x f;rw[θ];refine⟨by cases g:x.2.2.1 with|nil=>exact absurd g this.1|cons _ _=>rfl,Q_ Ω⟩
def YX:TxV (0,ü,[],0,()):=by simp[TxV]
def WV (h:St1 s)(id f:Int):Tot (fH s id f) TxV:=by
 simp only[fH,Dc,tt,il];refine⟨h.place id f,λ_=>YX,λg=>?_⟩;have g:¬((iw s id f).length:Int)=0:=by simpa using g
 refine⟨ay Ω Ω, ?_⟩;obtain e|⟨x,j,_,_,e⟩:=uw s id f
 ·rw[e]at g;simp at g
 ·exact h.txt x j _ (by rw[e];exact gj (t:=eG) Ω Ω)
def aaR (h:St1 s):(∀c∈(eU s).1,TxC c∧∃x∈s.1,x.1=c.1∧x.2.1=c.2.1)∧(eU s).1.length≤s.1.length:=by
 refine⟨λc g=>?_,Xr s⟩;simp only[eU,a_,C_]at g;obtain⟨x,⟨f,_⟩,rfl⟩:=g;refine⟨?_,x,f,rfl,rfl⟩;show TxV (ue x);unfold ue;cases j:x.2.2.1 with
 |nil=>exact YX
 |cons a r=>exact h.txt x f a (by rw[j];simp)
def mD {s:Sta}(h:St1 s)(f:Int):∀(n:Nat) (out:List Int) (i:Int),0≤i→i≤s.1.length→out.length≤i→s.1.length-i<n→Tot (dY n f s out i) λr=>r.length≤s.1.length
 |0,out,i,j,C,p,l=>Ω
 |n+1,out,i,j,C,p,l=>by
  show Tot (dM ü ä (dY n) f s out i) _;have J:=h.len;simp only[dM,fq,tt,il];refine⟨λg=>?_,λ_=>Ω⟩;have g:i<s.1.length:=by simpa using g
  rw[aq (n:=i+1) Ω Ω];exact⟨ay j g,ao λ_=>ay j g,ao λ_=>(pU s _ (h.place _ 1)).some,ao λ_=>by simp[aI],λ_=>⟨ay j g,eu Ξ,mD h f n _ _ Ω Ω Ξ Ω⟩,λ_=>mD h f n _ _ Ω Ω Ω Ω⟩
def cY (h:St1 s)(f:Int):Tot (aB s f) λr=>r.length≤s.1.length:=by have g:=h.len;simp[aB,jF];exact mD h f FU [] 0 Ω Ω Ψ (by rw[bh];omega)
def NN (v:Val)(h:St1 s)(x:Int):Tot (eJ v s x) TxV:=by
 have l:=h.len;have ent:=λk (Q:Int→Prop) (y:Int) (j:∀r,Q r)=>(cY h k).mono λr g=>(gE r y Ω).mono λr _=>j r;simp only[eJ,uZ,tt];refine⟨λ_=>(bx x 4 Ω Ω).mono λr _=>⟨λ_=>by simp[TxV],λ_=>⟨λ_=>by simp[TxV],λ_=>⟨λ_=>⟨by decide,(uJ _ _).mono λt f=>f⟩,λ_=>?_⟩⟩⟩,λ_=>⟨λ_=>(bx x 2 Ω Ω).mono λr _=>⟨λ_=>by simp[TxV],λ_=>by simp[TxV]⟩,λ_=>⟨λ_=>(uJ _ _).mono λt f=>f,λ_=>(bx x 6 Ω Ω).mono λr _=>⟨λ_=>by simp[TxV],λ_=>⟨λ_=>by simp[TxV],λ_=>⟨λ_=>?_,λ_=>⟨λ_=>?_,λ_=>⟨λ_=>by simp[TxV],λ_=>by simp[TxV]⟩⟩⟩⟩⟩⟩⟩⟩
 ·exact(cY h 3).mono λr g=>⟨by decide,(gE r _ Ω).mono λr _=>⟨λ_=>by simp[TxV],λ_=>by simp[TxV]⟩⟩
 ·exact(cY h 4).mono λr g=>⟨by decide,(gE r _ Ω).mono λr _=>⟨λ_=>by simp[TxV],λ_=>by simp[TxV]⟩⟩
 ·exact(cY h 2).mono λr g=>⟨by decide,(gE r _ Ω).mono λr _=>⟨λ_=>⟨by decide,(bx _ 3 Ω Ω).mono λ_ _=>by simp[TxV]⟩,λ_=>by simp[TxV]⟩⟩
def Uv {out:List Cel}{f t j:Nat}{c:Cel}(ho:f≤out.length)(R:mU (out.take f))(ht:t≤f)(p:0<t→ahd (out.getD (t-1) (zero aa)).1 (out.getD (t-1) (zero aa)).2.1 c.1 c.2.1=ö)
  (r:∀k,t≤k→k<f→ahd (out.getD k (zero aa)).1 (out.getD k (zero aa)).2.1 c.1 c.2.1=ü)
  (hj:(j=t∧¬(t<f∧(out.getD t (zero aa)).1=c.1∧(out.getD t (zero aa)).2.1=c.2.1))∨(j=t+1∧t<f∧(out.getD t (zero aa)).1=c.1∧(out.getD t (zero aa)).2.1=c.2.1)) :
  mU (out.take t++[c]++(out.take f).drop j):=by
 have gd:∀k,k<f→∀h:k<(out.take f).length,(out.take f)[k]=out.getD k (zero aa):=λk J h=>by rw[List.getElem_take,O',ζ Ω];rfl
 have lt:∀a b,a<b→b<f→ahd (out.getD a (zero aa)).1 (out.getD a (zero aa)).2.1 (out.getD b (zero aa)).1 (out.getD b (zero aa)).2.1=true:=λa b h1 T=>by
  have hl:(out.take f).length=f:=by simp;omega
  have:=W_.1 R a b Ω Ω h1;rwa[gd a Ω Ω,gd b T Ω]at this
 have e:out.take t=(out.take f).take t:=by rw[akE];congr 1;omega
 have hl:(out.take f).length=f:=by simp;omega
 rw[e];unfold mU;rw[E_,E_];have p1:∀x∈(out.take f).take t,ahd x.1 x.2.1 c.1 c.2.1=true:=λx l=>by
  obtain⟨k,J,rfl⟩:=M?.1 l;have g:k<t:=by simp at J;omega
  rw[List.getElem_take,gd k Ω Ω];by_cases P:k=t-1
  ·rw[P];exact p Ω
  ·exact lg (lt k (t-1) Ω Ω) (p Ω)
 have U:∀x∈(out.take f).drop j,ahd c.1 c.2.1 x.1 x.2.1=true:=λx l=>by
  obtain⟨k,J,rfl⟩:=M?.1 l;have g:j+k<f:=by simp at J;omega
  rw[List.getElem_drop,gd (j+k) g Ω];rcases hj with⟨rfl,hn⟩|⟨rfl,h1,T,h3⟩
  ·refine VI (r _ Ω g) λh=>?_;by_cases h0:k=0
   ·subst h0;exact hn ⟨g,h⟩
   ·have:=lt j (j+k) Ω g;rw[h.1,h.2,r j Ω Ω]at this;cases this
  ·have:=lt t (t+1+k) Ω g;rwa[T,h3]at this
 refine⟨⟨R.sublist (List.take_sublist ..),List.pairwise_singleton ..,λx l y C=>?_⟩,R.sublist (List.drop_sublist ..),λx l y C=>?_⟩
 ·rw[E'.1 C];exact p1 x l
 ·obtain l|l:=q'.1 l
  ·exact lg (p1 x l) (U y C)
  ·rw[E'.1 l];exact U y C
def Eu (l:List Cel)(hs:l.length<2000000)(k:cv (List Cel))(i:Int)(P:0≤i)(J:i<l.length)(g:Nat)(out:List Cel)(ho:g≤out.length)(hb:g<2000000)(hm:∀c∈out.take g,c∈l)(hA:mU (out.take g))(Q:List Cel→Prop)
  (hk:∀(C:Nat) (p:List Cel),C≤g+1→C≤p.length→(∀c∈p.take C,c∈l)→mU (p.take C)→Tot (k l C (i+1) p) Q):∀(n:Nat) (t:Int),0≤t→t≤g→t<n→(∀k:Nat,t.toNat≤k→k<g→ahd (out.getD k (zero aa)).1 (out.getD k (zero aa)).2.1 (ix aa l i).1 (ix aa l i).2.1=ü)→Tot (jg k n l i g t out) Q
 |0,t,h2,h3,h,_=>Ω
 |n+1,t,h2,h3,h,hge=>by
  show Tot (lI ü ä (jg k n) k l i g t out) _;have R:∀j:Int,t≤j→j≤g→mU (out.take t.toNat++[ix aa l i]++(out.take g).drop j.toNat)→Tot (eI ü ä k l i t g j out) Q:=λj hj1 hj2 T=>by
   simp only[eI,lK,tt,Z',s_];rw[aq (n:=i+1) Ω Ω];have e1:(out.take g).length=g:=by simp;omega
   have e2:(out.take t.toNat).length=t.toNat:=by simp;omega
   have e3:List.take (t.toNat+1) (out.take t.toNat++[ix aa l i])=out.take t.toNat++[ix aa l i]:=k? Ξ;simp only[akQ,e1,v_,J?,Z',e3,ni];refine⟨by simp;omega,eu Ω,by simp;omega,ay P J,eu Ω,eu Ω,hk _ _ Ω Ξ (λc f=>?_) (T.sublist (List.take_sublist ..))⟩;have f:=L? f;obtain f|f:=q'.1 f
   ·obtain f|f:=q'.1 f
    ·refine hm c ?_;have:out.take t.toNat=(out.take g).take t.toNat:=by rw[akE];congr 1;omega
     rw[this]at f;exact L? f
    ·rw[E'.1 f];exact gj P J
   ·exact hm c (aj0 f)
  have hp:t>0→(decide (0≤w64 (t-1))&&decide (w64 (t-1)<(g:Int)))=true:=λh=>by rw[aq Ω Ω];simp;omega
  simp only[lI,tt,ni,Z'];refine⟨ao λh=>hp (by simpa using h),ao λh=>hp (by simpa using h),ao λ_=>ay P J,ao λ_=>ay P J,by simp[aI],λf=>?_,λr=>⟨ao λh=>by simp at h;simp;omega,ao λ_=>ay P J,ao λh=>?_,ao λ_=>ay P J,λf=>?_,λU=>?_⟩⟩
  ·rw[wt]at f;have ht:t>0:=by simp at f;exact f.1
   rw[dt ht,U',aq (n:=t-1) Ω Ω,show(t-1).toNat=t.toNat-1 by omega]at f;rw[aq Ω Ω];refine Eu l hs k i P J g out ho hb hm hA Q hk n (t-1) Ω Ω Ω λk hk1 hk2=>?_;by_cases he:k=t.toNat-1
   ·subst he;simpa using f
   ·exact hge k Ω hk2
  ·simp at h;simp;omega
  all_goals
   have hlt:0<t.toNat→ahd (out.getD (t.toNat-1) (zero aa)).1 (out.getD (t.toNat-1) (zero aa)).2.1 (ix aa l i).1 (ix aa l i).2.1=true:=λht=>by rw[wt,dt Ω,U',aq (n:=t-1) Ω Ω,show(t-1).toNat=t.toNat-1 by omega]at r;simpa using r
  ·have f:(t<(g:Int)∧(out.getD t.toNat (zero aa)).1=(ix aa l i).1)∧(out.getD t.toNat (zero aa)).2.1=(ix aa l i).2.1:=by simpa only[akX,θ,υ]using f
   rw[aq Ω Ω];refine R (t+1) Ω Ω (Uv ho hA Ω hlt hge (.inr ⟨Ω,Ω,f.1.2,f.2⟩))
  ·refine R t Ω h3 (Uv ho hA Ω hlt hge (.inl ⟨rfl,λh=>?_⟩));rw[dt Ω,dt h.2.1,dt h.2.2]at U;cases U
def Ew (l:List Cel)(J:l.length<2000000):∀(n:Nat) (f:Nat) (i:Int) (out:List Cel),0≤i→i≤l.length→f≤i→f≤out.length→(∀c∈out.take f,c∈l)→mU (out.take f)→l.length-i<n→Tot (nE n l f i out) λr=>r.length≤l.length∧(∀c∈r,c∈l)∧mU r
 |0,f,i,out,T,h1,h2,R,C,_,h=>Ω
 |n+1,f,i,out,T,h1,h2,R,C,P,h=>by
  show Tot (lJ ü ä (jg (nE n) FU) l f i out) _;simp only[lJ,tt,il,ni,y?];refine⟨λg=>?_,λ_=>⟨by simp;omega,C,P⟩⟩;have g:i<l.length:=by simpa using g
  exact Eu l J _ i T g f out R Ω C P _ (λp j a1 a2 a3 a4=>Ew l J n p (i+1) j Ω Ω Ω a2 a3 a4 Ω) FU f Ω Ω (by rw[bh];omega) (λk hk1 U=>Ω)
def NG (l:List Cel)(f:l.length<2000000):Tot (lL l) λr=>r.length≤l.length∧(∀c∈r,c∈l)∧mU r:=by simp only[lL,uY];exact Ew l f FU 0 0 [] Ω Ω Ω Ψ (λc g=>by simp at g) (by simp[mU]) (by rw[bh];omega)
def My (m:Mdl)(J:m.1.length≤120000)(id:Int)(r1:List Int)(i:Int)(R:0≤i)(P:i<12)(f:List Cel)(C:f.length≤m.1.length)(r:∀c∈f,c∈m.1)(k:jL (List Cel))(Q:List Cel→Prop)(p:∀out:List Cel,out.length≤(i+1)*120000→(∀c∈out,c∈m.1)→Tot (k id r1 m out (i+1)) Q) :
  ∀(n:Nat) (out:List Cel) (t:Int),0≤t→t≤f.length→out.length≤i*120000+t→(∀c∈out,c∈m.1)→f.length-t<n→Tot (ux k n id r1 i f m out t) Q
 |0,out,t,l,a1,U,j,T=>Ω
 |n+1,out,t,l,a1,U,j,T=>by
  show Tot (Av ü ä (ux k n) k id r1 i f m out t) _;simp only[Av,wm,tt,il];rw[aq (n:=t+1) Ω Ω,aq (n:=i+1) Ω Ω];refine⟨λh=>?_,λ_=>p out Ω j⟩;have h:t<f.length:=by simpa using h
  refine⟨ay l h,λ_=>⟨ay l h,eu Ξ,My m J id r1 i R P f C r k Q p n _ (t+1) Ω Ω Ξ (λc g=>?_) Ω⟩,λ_=>My m J id r1 i R P f C r k Q p n _ (t+1) Ω Ω Ω j Ω⟩;obtain g|g:=q'.1 g
  ·exact j c g
  ·rw[E'.1 g];exact r _ (gj l h)
def VG (m:Mdl)(p:m.1.length≤120000)(id:Int)(r1:List Int):∀(n:Nat) (out:List Cel) (i:Int),0≤i→i≤12→out.length≤i*120000→(∀c∈out,c∈m.1)→12-i<n→Tot (Aw n id r1 m out i) λr=>r.length≤1440000∧∀c∈r,c∈m.1
 |0,out,i,j,T,R,g,h=>Ω
 |n+1,out,i,j,T,R,g,h=>by
  show Tot (Ax ü ä (ux (Aw n) FU) id r1 m out i) _;simp only[Ax,tt,il];refine⟨λf=>?_,λ_=>⟨Ω,g⟩⟩;have f:i<(([id]++r1).length:Int)∧i<12:=by simp at f;exact f
  refine⟨ay j f.1,(aeE m.1 _ Ω).mono λC l=>?_⟩;exact My m p id r1 i j f.2 C l.1 l.2 _ _ (λout J P=>VG m p id r1 n out (i+1) Ω Ω J P Ω) FU out 0 Ω Ω Ω g (by rw[bh];omega)
def ado (m:Mdl)(g:m.1.length≤120000)(f:∀c∈m.1,TxC c)(id:Int):Tot (oo m id) λr=>r.length≤1440000∧∀c∈r,c∈m.1:=by simp only[oo,Mx,tt];exact(QA m Ω f id).mono λr1 l=>⟨eu Ξ,VG m g id r1 FU [] 0 Ω Ω Ψ (λc j=>by cases j) (by rw[bh];omega)⟩
def tg (p:Int→Int→Prop)(f:Nat)(J:f<2000000):∀(n:Nat) (i:Int) (out:List Cel),0≤i→i≤f→out.length=f→(∀c∈out,TxC c∧p c.1 c.2.1)→f-i<n→Tot (kw n f i out) λr=>r.length≤f∧∀c∈r,TxC c∧p c.1 c.2.1
 |0,i,out,T,R,P,l,h=>Ω
 |n+1,i,out,T,R,P,l,h=>by
  show Tot (jj ü ä (kw n) f i out) _;simp only[jj,jl,tt,ni,Z',y?];rw[aq (n:=i+1) Ω Ω];refine⟨λg=>?_,λ_=>⟨by simp;omega,λc g=>l c (L? g)⟩⟩;have g:i<f:=by simpa using g
  have C:(decide (0≤i)&&decide (i<(f:Int)))=true:=by simp;omega
  refine⟨C,λ_=>⟨C,tg p f J n (i+1) _ Ω Ω Ξ (λc g=>?_) Ω⟩,λ_=>tg p f J n (i+1) _ Ω Ω P l Ω⟩;obtain g|rfl:=List.mem_or_eq_of_mem_set g
  ·exact l c g
  ·have j:out.getD i.toNat (zero aa)∈out:=by
    rw[O',ζ Ω];exact j_ _
   exact⟨YX,(l _ j).2⟩
def KL (f:Int→Int→Prop)(l:List Cel)(g:l.length<2000000)(h:∀c∈l,TxC c∧f c.1 c.2.1):Tot (eO l) λr=>r.length≤l.length∧∀c∈r,TxC c∧f c.1 c.2.1:=by simp only[eO,rg,tt,Z',List.take_nil,s_];exact⟨eu Ω,tg f l.length g FU 0 l Ω Ω rfl h (by rw[bh];omega)⟩
def bO (x:Int):Int:=x.fdiv 1048576
def yG {s:Int}:bO x=s↔s*1048576≤x∧x<(s+1)*1048576:=by unfold bO;rw[Int.fdiv_eq_ediv_of_nonneg _ Ω];omega
def SD (x y:Int):x≤tJ x y∧y≤tJ x y∧(tJ x y=x∨tJ x y=y):=by unfold tJ;split <;> omega
theorem shr_is (x:Int):ZT .i64 x 20=bO x:=rfl
def FK (l:List Com)(s:Int)(hl:l.length≤100)(P:List Com)(c:Com)(R:List Com)(p:l=P++c::R)(hw:(ws c).length<1000000)(g:Int)(k:dj Int)(Q:Int→Prop)(T:∀x,bO x=s→g≤x→Tot (k l s x ((P.length:Int)+1)) Q):∀(n:Nat) (x t:Int),bO x=s→g≤x→0≤t→t≤(ws c).length→(ws c).length-t<n→Tot (kV k n l s P.length x t) Q
 |0,x,t,C,r,U,a3,h=>Ω
 |n+1,x,t,C,r,U,a3,h=>by
  show Tot (tE ü ä (kV k n) k l s P.length x t) _;have f:(P.length:Int)<l.length:=by rw[p];simp;omega
  have ec:ix tCommit l (P.length:Int)=c:=by rw[p];exact eX (t:=tCommit) P c R
  simp only[tE,pK,tG,tt,il,shr_is];rw[ec,aq (n:=t+1) Ω Ω,aq (n:=(P.length:Int)+1) Ω Ω];show bd _ _=ö∧(decide (t<((ws c).length:Int))=ö→bd _ _=ö∧bd t (ws c).length=ö∧_∧(decide (bO (ix aa (ws c) t).1=s)=ö→bd _ _=ö∧bd t (ws c).length=ö∧_)∧_)∧_;refine⟨ay Ω f,λj=>?_,λ_=>T x C r⟩;have j:t<(ws c).length:=by simpa using j
  refine⟨ay Ω f,ay U j,by decide,λJ=>⟨ay Ω f,ay U j, ?_⟩,λ_=>FK l s hl P c R p hw g k Q T n x (t+1) C r Ω Ω Ω⟩;have J:bO (ix aa (ws c) t).1=s:=by simpa using J
  have hm:=SD x (ix aa (ws c) t).1;refine FK l s hl P c R p hw g k Q T n (tJ x (ix aa (ws c) t).1) (t+1) ?_ (alj r hm.1) Ω Ω Ω;obtain e|e:=hm.2.2
  ·rw[e];exact C
  ·rw[e];exact J
def OT (l:List Com)(s:Int)(hl:l.length≤100)(U:∀c∈l,(ws c).length<1000000):∀(n:Nat) (R P:List Com) (x:Int),l=P++R→R.length<n→bO x=s→(∀c∈P,bO c.1=s→c.1≤x)→Tot (pJ n l s x P.length) λr=>bO r=s∧∀c∈l,bO c.1=s→c.1≤r
 |0,R,P,x,f,h2,T,h4=>Ω
 |n+1,R,P,x,f,h2,T,h4=>by
  show Tot (tF ü ä (kV (pJ n) FU) l s x P.length) _;simp only[tF,pM,tt,il,shr_is];cases R with
  |nil=>
   have e:l=P:=by simpa using f
   subst e;exact⟨λh=>by simp at h,λ_=>⟨T,h4⟩⟩
  |cons c R=>
   have J:(P.length:Int)<l.length:=by rw[f];simp;omega
   have ec:ix tCommit l (P.length:Int)=c:=by rw[f];exact eX (t:=tCommit) P c R
   rw[ec];have go:∀g,bO g=s→x≤g→(bO c.1=s→c.1≤g)→Tot (kV (pJ n) FU l s P.length g 0) λr=>bO r=s∧∀c∈l,bO c.1=s→c.1≤r:=λg b1 b2 b3=>by
    refine FK l s hl P c R f (U c (by rw[f];simp)) g _ _ (λy hy j=>?_) FU g 0 b1 (akt _) Ω Ω (by rw[bh];have:=U c (by rw[f];simp);omega);have:=OT l s hl U n R (P++[c]) y (by rw[f];simp) (by simp at h2;omega) hy λd C hs=>?_
    ·simpa using this
    ·obtain C|C:=q'.1 C
     ·exact alj (h4 d C hs) (alj b2 j)
     ·rw[E'.1 C]at hs⊢;exact alj (b3 hs) j
   refine⟨λ_=>⟨ay Ω J,by decide,λp=>⟨ay Ω J, ?_⟩,λp=>go x T (akt _) λe=>by simp[e]at p⟩,λh=>by simp at h;omega⟩;have p:bO c.1=s:=t_ p;have hm:=SD x c.1;refine go (tJ x c.1) ?_ hm.1 λ_=>hm.2.1;obtain e|e:=hm.2.2
   ·rw[e];exact T
   ·rw[e];exact p
def IR (l:List Com)(s:Int)(C:1≤s)(p:s≤3)(g:l.length≤100)(f:∀c∈l,(ws c).length<1000000):Tot (pO l s) λr=>bO r=s∧∀c∈l,bO c.1=s→c.1≤r:=by
 simp only[pO,Dk,tt];have e:ZU .i64 s 20=s*1048576:=by show w64 (s*1048576)=_;exact aq Ω Ω
 rw[e];exact⟨by decide,OT l s g f FU l [] (s*1048576) rfl (by rw[bh];omega) (yG.2 Ω) λc j=>by cases j⟩
def zH (l:List Com)(c:Com)(hl:l.length≤100):∀(n:Nat) (R P:List Com),l=P++R→R.length<n→(∀d∈P,d.1<c.1)→Tot (nV n l c P.length) λr=>∃P R,l=P++R∧r=P++c::R∧(∀d∈P,d.1<c.1)∧∀d U,R=d::U→¬d.1<c.1
 |0,R,P,f,h2,J=>Ω
 |n+1,R,P,f,h2,J=>by
  show Tot (mf ü ä (nV n) l c P.length) _;have p:P.length+R.length=l.length:=by rw[f];simp
  simp only[mf,tt,il,y?,s_,x_];rw[aq (n:=(P.length:Int)+1) Ω Ω];refine⟨ao λh=>ay Ω (by simpa using h),λg=>?_,λg=>?_⟩
  ·simp only[akX,θ,υ]at g;cases R with
   |nil=>simp at p;omega
   |cons d R=>
    have T:ix tCommit l (P.length:Int)=d:=by rw[f];exact eX (t:=tCommit) P d R
    rw[T]at g;have:=zH l c hl n R (P++[d]) (by rw[f];simp) (by simp at h2;omega) λe j=>by
     obtain j|j:=q'.1 j
     ·exact J e j
     ·rw[E'.1 j];exact g.2
    simpa using this
  ·have e1:l.take P.length=P:=by rw[f];simp
   have e2:l.drop P.length=R:=by rw[f];simp
   have hq:(decide (0≤(P.length:Int))&&decide ((P.length:Int)≤(l.length:Int)))=true:=by simp;omega
   simp only[Int.toNat_natCast,e1,e2];refine⟨hq,eu Ξ,eu Ξ,hq,eu Ξ,P,R,f,Ψ,J,λd U e=>?_⟩;subst e;have T:ix tCommit l (P.length:Int)=d:=by rw[f];exact eX (t:=tCommit) P d U
   rw[T]at g;have C:(P.length:Int)<l.length:=by simp at p;omega
   simpa[C]using g
def Ph (l:List Com)(c:Com)(f:l.length≤100):Tot (mg l c) λr=>∃P R,l=P++R∧r=P++c::R∧(∀d∈P,d.1<c.1)∧∀d j,R=d::j→¬d.1<c.1:=by
 simp only[mg,vM];exact zH l c f FU l [] rfl (by rw[bh];omega) λd g=>by cases g
def ajm (s:Sta)(f:List (Int×Int))(c:Cel):Prop:=TxC c∧((∃x∈s.1,x.1=c.1∧x.2.1=c.2.1)∨(c.1,c.2.1)∈f)
def WP (s:Sta)(w:List Cel):Prop:=w.length<2000000∧∃f:List (Int×Int),f.length≤11∧∀c∈w,ajm s f c
def WQ (s:Sta)(w:List Cel):Prop:=WP s w∧mU w
def xl (w:List Cel)(h:w.length≤11)(g:∀c∈w,TxC c):WP s ([]++w) :=
 ⟨by simp;omega,w.map λc=>(c.1,c.2.1),by simp;omega,λc f=>by
  have f:c∈w:=by simpa using f
  exact⟨g c f,.inr (a_.2 ⟨c,f,rfl⟩)⟩⟩
def adA (r w:List Cel)(l:r.length≤1440000)(g:∀c∈r,TxC c∧∃x∈s.1,x.1=c.1∧x.2.1=c.2.1)(h:w.length≤11)(j:∀c∈w,TxC c):WP s (([]++r)++w) :=
 ⟨by simp;omega,w.map λc=>(c.1,c.2.1),by simp;omega,λc f=>by
  obtain f|f:=q'.1 f
  ·have f:c∈r:=by simpa using f
   exact⟨(g c f).1,.inl (g c f).2⟩
  ·exact⟨j c f,.inr (a_.2 ⟨c,f,rfl⟩)⟩⟩
def QR (r:List Cel)(j:r.length≤1440000)(f:∀c∈r,TxC c∧∃x∈s.1,x.1=c.1∧x.2.1=c.2.1):WP s r :=
 ⟨Ω,[],Ψ,λc g=>⟨(f c g).1,.inl (f c g).2⟩⟩
def cG (h:WP s w):Tot (dA w) (WQ s):=by simp[dA,na,tt];obtain⟨p,C,l,j⟩:=h;exact(NG w p).mono λr f=>⟨⟨Ω,C,l,λc g=>j c (f.2.1 c g)⟩,f.2.2⟩
def tx1 {id f:Int}{v:Val}(h:TxV v):∀c∈[(id,f,v,())],TxC c:=λc g=>by rw[E'.1 g];exact h
def DS (id t a b c d:Int):Tot (dC id t a b c d) (WQ s):=by simp only[dC,nh,tt];exact(uJ _ _).mono λr f=>⟨eu Ψ,cG (xl _ Ψ (tx1 f))⟩
def DR (id a:Int)(b:Bool)(t:Str)(f:Sh t)(c:Int):Tot (gR id a b t c) (WQ s):=by simp only[gR,nc,tt];exact⟨eu Ψ,cG (xl _ Ψ (tx1 f))⟩
def QQ (h:St1 s)(hs:s.1.length≤120000)(P:Int)(r2 r3 r4:List Int)(h2:r2.length≤120000)(h3:r3.length≤120000)(h4:r4.length≤120000)(r5:Int)(t:Bool)(a b c d:Int):Tot (gS P r2 r3 r4 r5 t s.1 a b c d (eU s).1) (WQ s):=by
 have hm:=aaR h;have J:∀id,Tot (oo ((eU s).1,()) id) λr=>r.length≤1440000∧∀c∈r,TxC c∧∃x∈s.1,x.1=c.1∧x.2.1=c.2.1:=λid=>(ado (eU s) Ω (λc C=>(hm.1 c C).1) id).mono λr hr=>⟨hr.1,λc C=>hm.1 c (hr.2 c C)⟩;have R:∀r:List Cel,r.length≤1440000→(∀c∈r,TxC c∧∃x∈s.1,x.1=c.1∧x.2.1=c.2.1)→Tot (eO r) λr=>r.length≤1440000∧∀c∈r,TxC c∧∃x∈s.1,x.1=c.1∧x.2.1=c.2.1:=λr h1 h2=>(KL (λa b=>∃x∈s.1,x.1=a∧x.2.1=b) r Ω h2).mono λq g=>⟨Ω,g.2⟩;have rd:∀id f,Tot (fH (s.1,()) id f) TxV:=λid f=>WV h id f;have T:∀k,Tot (aB (s.1,()) k) λr=>r.length≤120000:=λk=>(cY h k).mono λr hr=>Ω
 have U:∀v x,Tot (eJ v (s.1,()) x) TxV:=λv x=>NN v h x;have p:∀(l:List Int) x,l.length≤240000→Tot (aZ l x) λ_=>True:=λl x hl=>(gE l x Ω).mono λ_ _=>trivial;simp only[gS,ng,tt];refine⟨λ_=>?_,λ_=>⟨λ_=>?_,λ_=>⟨λ_=>?_,λ_=>⟨λ_=>?_,λ_=>⟨λ_=>?_,λ_=>⟨λ_=>?_,λ_=>⟨λ_=>?_,λ_=>⟨λ_=>?_,λ_=>⟨λ_=>?_,λ_=>?_⟩⟩⟩⟩⟩⟩⟩⟩⟩
 ·exact(p _ _ Ω).mono λr _=>(rd _ _).mono λv _=>(U _ _).mono λv j=>⟨eu Ψ,cG (xl _ Ψ (tx1 j))⟩
 ·exact(p _ _ Ω).mono λr _=>(bx _ 3 Ω Ω).mono λ_ _=>⟨by decide,(Nj _).mono λv j=>⟨eu Ψ,cG (xl _ Ψ (tx1 j))⟩⟩
 ·exact(p _ _ Ω).mono λr _=>(T _).mono λe he=>(p _ _ Ω).mono λ_ _=>⟨by decide,(F7 _).mono λv j=>⟨eu Ψ,cG (xl _ Ψ (tx1 j))⟩⟩
 ·exact(p _ _ Ω).mono λr _=>(p _ _ Ω).mono λ_ _=>(rd _ _).mono λv j=>⟨eu Ψ,cG (xl _ Ψ (tx1 j))⟩
 ·refine(p _ _ Ω).mono λr _=>(rd _ _).mono λv j=>(J _).mono λq g=>(R q g.1 g.2).mono λq g=>⟨eu Ξ,(rd _ _).mono λv2 _=>(U _ _).mono λv3 hv3=>⟨eu Ξ,cG (adA q _ g.1 g.2 Ψ ?_)⟩⟩;intro c C;simp at C;obtain rfl|rfl|rfl:=C
  ·simp[TxC,TxV]
  ·exact j
  ·exact hv3
 ·refine(T _).mono λe he=>(p _ _ Ω).mono λ_ _=>(F7 _).mono λk hk=>(uJ _ _).mono λwd hwd=>⟨by decide,(U _ _).mono λv j=>⟨eu Ψ,cG (xl _ Ψ ?_)⟩⟩;intro c C;simp at C;obtain rfl|rfl|rfl|rfl|rfl|rfl|rfl|rfl|rfl|rfl|rfl:=C;all_goals first|exact j|exact hk|exact hwd|simp[TxC,TxV]
 ·exact(T _).mono λe he=>⟨eu Ω,(p _ _ Ξ).mono λr _=>(J _).mono λq g=>(R q g.1 g.2).mono λq g=>cG (QR q g.1 g.2)⟩
 ·exact(T _).mono λe he=>(p _ _ Ω).mono λr _=>(rd _ _).mono λv j=>⟨λ_=>(F7 _).mono λk hk=>DR _ _ _ _ hk _,λ_=>DR _ _ _ _ j _⟩
 ·exact(p _ _ Ω).mono λr _=>(J _).mono λq g=>cG (QR q g.1 g.2)
 ·exact cG (QR [] Ψ λc C=>by cases C)
def ML (h:St1 s)(hs:s.1.length≤120000)(d:be.den)(j:Int):Tot (lr s d j) (WQ s):=by
 have C:∀k,Tot (aB s k) λr=>r.length≤120000:=λk=>(cY h k).mono λr hr=>Ω
 have R:∀(l:List Int) x,l.length≤120000→Tot (aZ l x) λ_=>True:=λl x hl=>(gE l x Ω).mono λ_ _=>trivial;simp only[lr,uF,mZ,qt,tt];refine⟨h.stg,(C _).mono λP U=>(C _).mono λr3 h3=>(C _).mono λJ T=>(bx _ 13 Ω Ω).mono λr5 _=>?_⟩;have p:∀t:Bool,(t=ö→Tot (aZ P d.2.2.1) λr=>Tot (fK (s.1,()) r) λf=>((bif (decide (f=5))then ö else(decide (f=0)))=ö→Tot (aZ J d.2.2.1) λr=>Tot (dC r 2 d.1 d.2.1 d.2.2.1 d.2.2.2.1) (WQ s))∧((bif (decide (f=5))then ö else(decide (f=0)))=ü→Tot (dC r f d.1 d.2.1 d.2.2.1 d.2.2.2.1) (WQ s))):=λ_ _=>(R _ _ U).mono λr _=>(pU s r (h.place r 1)).mono λk _=>⟨λ_=>(R _ _ T).mono λr _=>DS _ _ _ _ _ _,λ_=>DS _ _ _ _ _ _⟩;have g:=λt=>QQ h hs j P r3 J U h3 T r5 t d.1 d.2.1 d.2.2.1 d.2.2.2.1;exact⟨λ_=>⟨p _,λ_=>⟨λ_=>g _,λ_=>g _⟩⟩,λ_=>⟨p _,λ_=>⟨λ_=>g _,λ_=>g _⟩⟩⟩
def vz {J:Type}[DecidableEq J]:∀{a b:List J},a.Nodup→(∀x∈a,x∈b)→a.length≤b.length
 |[],b,_,_=>by simp
 |x::a,b,h,hs=>by
  have h:=aj7.1 h;have j:=hs x (m_ ..);have:=vz (a:=a) (b:=b.erase x) h.2 λy g=>by have f:=hs y (e_ _ g);exact(ak2 (λe:y=x=>h.1 (by rw[←e];exact g))).2 f
  rw[akJ j]at this;have:=akl j;simp;omega
def Uu (h:WP s w)(r:mU w):w.length≤s.1.length+11:=by
 obtain⟨_,R,T,P⟩:=h;have C:(w.map λc=>(c.1,c.2.1)).Nodup:=by unfold List.Nodup;rw[alf];refine r.imp λ{a b} f e=>?_;have j:a.1=b.1:=(C' .. ▸ e).1;have g:a.2.1=b.2.1:=(C' .. ▸ e).2;rw[j,g,sd]at f;omega
 have:=vz (b:=(s.1.map λx=>(x.1,x.2.1))++R) C λx p=>by
  obtain⟨c,J,rfl⟩:=a_.1 p;rcases(P c J).2 with⟨y,l,j,g⟩|h
  ·exact S_ _ (a_.2 ⟨y,l,by rw[j,g]⟩)
  ·exact akn _ h
 simp at this;omega
def Q3 (h:fa x):bO (x-1)=bO x:=by
 obtain⟨l,j,g⟩:=h;have e:bO x*1048576≤x∧x<(bO x+1)*1048576:=yG.1 rfl;refine yG.2 ⟨?_,Ω⟩;by_cases f:x=bO x*1048576
 ·exfalso;apply g;rw[f];exact Int.mul_tmod_left _ _
 ·omega
structure NewC (l:List Com)(c:Com):Prop where
 par:c.2.1.length≤4
 txt:∀x∈ws c,TxC x
 ord:mU (ws c)
 len:(ws c).length≤cM l+11
 new:∀d∈l,¬d.1=c.1
 ids:∀x∈ws c,IdC x
 pic:c.2.2.1.length≤4
def ai8 {a:Int}(h:a≤a-1):False:=Ω
def ahL {s:Int}(f:fa c.1)(g:bO (c.1-1)=s)(h:∀d∈l,bO d.1=s→d.1≤c.1-1):∀d∈l,¬d.1=c.1:=λd j e=>by have:=h d j (by rw[e,←Q3 f,g]);exact ai8 (e ▸ this)
def GY (hs:St1 s)(g:Int)(f j:List Int)(p:Str)(w:List Cel)(h1:f.length≤4)(h2:j.length≤4)(h3:p.length≤100)(U:w.length<1000000)(T:∀x∈w,TxC x)
  (R:mU w→w.length≤cM l+11) {site:Int} (C:bO (g-1)=site) (P:∀d∈l,bO d.1=site→d.1≤g-1) :
  Tot (jI ü ä s g f j p w) λr=>r.2.1=ö→NewC l r.1:=by
 simp[jI,tt];refine(PD s (g,f,j,p,w,()) (λid=>hs.place id 1) (by show f.length<_;omega) (by show j.length<_;omega) (by show p.length<_;omega) U T).mono λr J e=>?_;have J:=J (by simpa using e);exact⟨h1,T,J.2.1,R J.2.1,ahL J.1 C P,J.2.2,h2⟩
def T5 {s:Int}(h:bO x=s)(g:1≤s)(f:s≤3):0≤x∧x<4194304:=by have:=yG.1 h;omega
def JL (J:H0 l)(hn:l≠[])(hw:cM l≤60000)(r1:Int)(a1:0≤r1)(a2:r1<3)(d:be.den)(f:List Int)(hp:f.length≤4) :
  Tot (mG ü ä l r1 d f) λr=>r.2.1=ö→NewC l r.1:=by
 have hfew:=J.few;have hlen:0<l.length:=List.length_pos_iff.2 hn;have j:∀c∈l,(ws c).length<1000000:=λc p=>by have:=sD p;omega
 simp only[mG,tt,il];rw[aq (n:=1+r1) Ω Ω];refine(V8 l f J.isFew Ω).mono λU h5=>(JW l J U Ω).mono λs hs=>(IR l (1+r1) Ω Ω Ω j).mono λr7 h7=>(bx d.1 13 Ω Ω).mono λr8 _=>⟨λ_=>?_,λ_=>?_⟩
 ·refine(bx d.2.2.1 (l.length:Int) Ω Ω).mono λr9 h9=>⟨ay h9.1 h9.2, ?_⟩;have hm:=gj (t:=tCommit) (l:=l) h9.1 h9.2;have hb:=T5 h7.1 Ω Ω;have R:=sD hm;refine GY (hs.st1 J) _ U [_] _ _ Ω Ψ Ψ (j _ hm) (J.txt _ hm) (λ_=>ξ R Ω) (site:=1+r1) ?_ ?_
  ·rw[aq Ω Ω,akc];exact h7.1
  ·rw[aq Ω Ω,akc];exact h7.2
 ·have T:=hs.st1 J;have hsl:s.1.length≤cM l:=by
   obtain⟨_,_,_,_,h⟩:=hs;exact h.len
  refine(ML T Ω d r7).mono λw ⟨g,hwo⟩=>have P:w.length<1000000:=(by have:=Uu g hwo;omega);⟨eu Ξ,eu Ξ, ?_⟩
  rw[s_];refine(IR (l++[(0,U,[],[100,101,101,100],w,())]) (1+r1) Ω Ω Ξ (λc p=>?_)).mono λr11 C=>?_
  ·obtain p|p:=q'.1 p
   ·exact j c p
   ·rw[E'.1 p];exact P
  ·have hb:=T5 C.1 Ω Ω;refine GY T _ U [] _ w Ω Ψ Ψ P (λx hx=>?_) (λho=>by have:=Uu g ho;omega) (site:=1+r1) ?_ ?_
   ·obtain⟨_,ex,_,h⟩:=g;exact(h x hx).1
   ·rw[aq Ω Ω,akc];exact C.1
   ·rw[aq Ω Ω,akc];exact λd hd=>C.2 d (S_ _ hd)
def Ql (J:H0 l)(C:l≠[])(p:cM l≤60000)(f:List Int)(m1:0<f.length)(m2:f.length≤100)(d:be.den) :
  Tot (mH l f d) λr=>r.2.1=ö→NewC l r.1:=by
 have j:∀k:Int,0≤k→bd (tJ (w64 (w64 ((f.length:Int)-1)-k)) 0) f.length=ö∨10<k:=λk hk=>by
  by_cases h:10<k
  ·exact .inr h
  ·left;rw[aq (n:=(f.length:Int)-1) Ω Ω,aq Ω Ω];have:=SD ((f.length:Int)-1-k) 0;exact ay this.2.1 (by obtain e|e:=this.2.2 <;> rw[e] <;> omega)
 simp only[mH,v7,tt,il];refine(bx _ 3 Ω Ω).mono λr1 g=>⟨by decide,(bx _ 3 Ω Ω).mono λR T=>⟨(j R T.1).resolve_right Ω,by decide,(bx _ 3 Ω Ω).mono λr3 _=>⟨λ_=>⟨by decide,(bx _ (f.length:Int) Ω Ω).mono λU P=>⟨ay P.1 P.2,eu Ψ, ?_⟩⟩,λ_=>?_⟩⟩⟩
 ·exact JL J C p r1 g.1 g.2 d _ (L_ rfl)
 ·exact JL J C p r1 g.1 g.2 d _ (L_ rfl)
def ah3 {P R:List Com}(l:H0 (P++R))(p:NewC (P++R) c)(h1:∀d∈P,d.1<c.1)(h2:∀d R',R=d::R'→¬d.1<c.1)(hn:(P++R).length<20)(hs:2*cM (P++R)+11≤500000):H0 (P++c::R)∧cM (P++c::R)≤2*cM (P++R)+11:=by
 have T:cM (P++c::R)=cM (P++R)+(ws c).length:=by rw[du,du];show _+((ws c).length+cM R)=_;omega
 have U:=p.len;have g:∀d∈P++c::R,d=c∨d∈P++R:=λd f=>by
  simp at f⊢;obtain h|h|h:=f
  ·exact .inr (.inl h)
  ·exact .inl h
  ·exact .inr (.inr h)
 have hR:∀d∈R,c.1<d.1:=by
  have j:=(E_.1 l.asc).2.1;cases R with
  |nil=>intro d f;cases f
  |cons e R=>
   have he:=h2 e R rfl;have C:=p.new e Ψ;have r:c.1<e.1:=Int.lt_iff_le_and_ne.2 ⟨Int.not_lt.1 he,λh=>C h.symm⟩;intro d f;obtain rfl|f:=c_.1 f
   ·exact r
   ·exact Int.lt_trans r ((B_.1 j).1 d f)
 refine⟨⟨by simp at hn⊢;omega, ?_,λd f=>?_,λd f=>?_,λd f=>?_,Ω,λd f=>?_,λd f=>?_⟩,Ω⟩
 ·have j:=E_.1 l.asc;rw[E_];refine⟨j.1,B_.2 ⟨hR,j.2.1⟩,λa ha b J=>?_⟩;obtain rfl|J:=c_.1 J
  ·exact h1 a ha
  ·exact j.2.2 a ha b J
 ·obtain rfl|h:=g d f
  ·exact p.par
  ·exact l.par d h
 ·obtain rfl|h:=g d f
  ·exact p.ord
  ·exact l.ord d h
 ·obtain rfl|h:=g d f
  ·exact p.txt
  ·exact l.txt d h
 ·obtain rfl|h:=g d f
  ·exact p.ids
  ·exact l.ids d h
 ·obtain rfl|h:=g d f
  ·exact p.pic
  ·exact l.pic d h
structure First1 (c:Com):Prop where
 par:c.2.1.length≤4
 ord:mU (ws c)
 txt:∀x∈ws c,TxC x
 len:(ws c).length≤200
 ids:∀x∈ws c,IdC x
 pic:c.2.2.1.length≤4
def First1.h0 (h:First1 c):H0 [c]:=by
 refine⟨Ψ,Ψ,λd f=>?_,λd f=>?_,λd f=>?_,by have:=h.len;simp[cM];omega,λd f=>?_,λd f=>?_⟩;all_goals rw[E'.1 f]
 ·exact h.par
 ·exact h.ord
 ·exact h.txt
 ·exact h.ids
 ·exact h.pic
def to:Nat→Nat
 |0=>200
 |n+1=>2*to n+11
def TF:∀{a b:Nat},a≤b→to a≤to b
 |a,b,h=>by
  induction h with
  |refl=>exact ε _
  |step _ f=>exact ξ f (by simp[to];omega)
structure HisP (n:Nat)(l:List Com):Prop where
 h0:H0 l
 ne:l≠[]
 len:l.length≤n+1
 sum:cM l≤to n
def HisP.ins {P R:List Com}(h:HisP n (P++R))(g:NewC (P++R) c)(l:∀d∈P,d.1<c.1)(j:∀d p,R=d::p→¬d.1<c.1)(C:n<9):HisP (n+1) (P++c::R):=by have r:=h.sum;have J:to n≤54005:=TF (b:=8) Ω;have f:=h.len;have:=ah3 h.h0 g l j Ω Ω;exact⟨this.1,Ψ,by simp at f⊢;omega,by have:=this.2;simp[to];omega⟩
def HisP.mono (h:HisP n l):HisP (n+1) l :=
 ⟨h.h0,h.ne,by have:=h.len;omega,ξ h.sum (TF Ω)⟩
def HisP.upto {m:Nat}(h:HisP n l)(f:n≤m):HisP m l:=by
 induction f with
 |refl=>exact h
 |step _ g=>exact g.mono
def oH (l:List be.den):∀(n:Nat) (out:List Com) (f:List Int) (i:Nat),HisP i out→0<f.length→f.length≤i+1→i≤9→9-i<n→Tot (kF n l out f i) λr=>HisP 9 r
 |0,out,f,i,g,C,h3,J,h5=>Ω
 |n+1,out,f,i,g,C,h3,J,h5=>by
  show Tot (jx ü ä (kF n) l out f i) _;simp only[jx,jy,tt,il];have e1:w64 ((i:Int)+1)=((i+1:Nat):Int):=by rw[aq Ω Ω];omega
  rw[e1];refine⟨λj=>?_,λ_=>?_⟩
  ·have j:i<l.length∧i<9:=by
    simp at j;omega
   have hb:to i≤54005:=TF (b:=8) Ω;have hs:=g.sum;refine⟨ay Ω Ω,(Ql g.h0 g.ne Ω f C Ω _).mono λr T=>⟨λU=>?_,λ_=>?_⟩⟩
   ·refine(Ph out r.1 (by have:=g.len;omega)).mono λr3 p=>⟨eu Ξ, ?_⟩;obtain⟨P,R,rfl,rfl,a1,a2⟩:=p;exact oH l n _ _ (i+1) (g.ins (T U) a1 a2 j.2) Ψ Ξ Ω Ω
   ·exact oH l n _ _ (i+1) g.mono C Ω Ω Ω
  ·exact g.upto J
def aei:Cel→List Cel→Bool
 |_,[]=>ö
 |a,b::r=>ahd a.1 a.2.1 b.1 b.2.1&&aei b r
def ai3:List Cel→Bool
 |[]=>ö
 |a::r=>aei a r
def Oz:∀{r:List Cel} {a:Cel},aei a r=ö→Chn a r
 |[],_,_=>trivial
 |b::r,a,h=>by simp[aei]at h;exact⟨h.1,Oz h.2⟩
def aav {l:List Cel}(h:ai3 l=ö):mU l:=by
 cases l with
 |nil=>exact List.Pairwise.nil
 |cons a r=>exact Mi (Oz h)
def idB (x:Int):Bool:=1048576<x&&x<34603008&&!x.tmod 1048576=0
def abu (h:idB x=ö):fa x:=by simpa[idB,fa,alJ]using h
def LW (c:Com):Bool:=decide (c.2.2.1.length≤4)&&(decide (c.2.1.length≤4)&&ai3 (ws c)&&(ws c).all (λx=>decide (x.2.2.1.2.2.1.length<1000))&&decide ((ws c).length≤200)&&(ws c).all (λx=>idB x.1&&(decide (x.2.2.1.2.2.2.1=0)||idB x.2.2.1.2.2.2.1)))
def Tg (h:LW c=ö):First1 c:=by simp only[LW,θ,υ,P']at h;obtain⟨g,h⟩:=h;refine⟨h.1.1.1.1,aav h.1.1.1.2,h.1.1.2,h.1.2,λx f=>?_,g⟩;have:=h.2 x f;rw[aj8,υ]at this;exact⟨abu this.1,this.2.imp id abu⟩
def aje (n:Int):LW (fstL n)=true:=by unfold fstL;split <;> kernel_rfl
def abJ (x:Int):First1 (firstF x):=Tg (aje _)
def First1.his (h:First1 c):HisP 0 [c]:=⟨h.h0,Ψ,Ψ,by have:=h.len;simp[cM,to];omega⟩
def LK (first:Int)(l:List be.den):Tot (jz first l) (HisP 9):=by simp[jz,rH,tt];exact oH l FU [firstF first] [(firstF first).1] 0 (abJ first).his Ψ Ψ Ω (by rw[bh];omega)
