/- Evaluators that always answer. -/
import Derived.Test.YtfgpipfjalmooaaGreatGenH
set_option linter.all false
namespace Go.Proofs.YtfgpipfjalmooaaGreat
namespace Abs
open Go
def Tot {J:Type}(o:Option J)(Q:J→Prop):Prop:=∃r,o=some r∧Q r
section
variable {J U:Type}{P Q:J→Prop}
def Ml {r:J}:Tot (some r) Q↔Q r:=⟨λ⟨_,e,h⟩=>by cases e;exact h,λh=>⟨r,rfl,h⟩⟩
def afo {b:Bool}{k:Option J}:Tot (ck b k) Q↔b=true∧Tot k Q:=by
 cases b
 ·simp[Tot,ck]
 ·simp[ck]
def abX {c:Bool}{x y:Option J}:Tot (bif c then x else y) Q↔(c=true→Tot x Q)∧(c=false→Tot y Q):=by cases c <;> simp
variable{k:U→Option J}{o:Option J}
def afp {g:Bool}{v:U}:Tot (jK g v k) Q↔g=true∧Tot (k v) Q:=by
 cases g
 ·simp[Tot,jK]
 ·simp[jK]
def XL {x:Option U}:Tot (xd x k) Q↔Tot x λr=>Tot (k r) Q:=by
 cases x
 ·simp[Tot,xd]
 ·simp[xd,Ml]
def Tot.mono (h:Tot o P)(k:∀r,P r→Q r):Tot o Q:=let ⟨r,e,h⟩:=h;⟨r,e,k r h⟩
def Tot.and (h:Tot o P)(k:Tot o Q):Tot o λr=>P r∧Q r:=by obtain⟨r,e,h⟩:=h;obtain⟨j,f,g⟩:=k;rw[e]at f;cases f;exact⟨r,e,h,g⟩
def Tot.some (h:Tot o P):o.isSome=true:=by obtain⟨r,e,_⟩:=h;rw[e];rfl
def Tot.getD {o:Option J}(h:Tot o P)(d:J):P (o.getD d):=by obtain⟨r,e,h⟩:=h;rw[e];exact h
def gy (h:o.isSome=true):Tot o λ_=>True:=by
 cases o with
 |none=>cases h
 |some r=>exact⟨r,rfl,anO⟩
end
def tt:(∀{J:Type} {Q:J→Prop} {r:J},Tot (some r) Q↔Q r)∧(∀{J:Type} {Q:J→Prop} {b:Bool} {k:Option J},Tot (ck b k) Q↔b=true∧Tot k Q)∧(∀{J:Type} {Q:J→Prop} {c:Bool} {x y:Option J},Tot (bif c then x else y) Q↔(c=true→Tot x Q)∧(c=false→Tot y Q)) ∧
 (∀{J U:Type} {Q:J→Prop} {g:Bool} {v:U} {k:U→Option J},Tot (jK g v k) Q↔g=true∧Tot (k v) Q)∧(∀{J U:Type} {Q:J→Prop} {x:Option U} {k:U→Option J},Tot (xd x k) Q↔Tot x λr=>Tot (k r) Q) ∧
 (∀{U:Type} (m:Bool) (t:Ty) (e:Option t.den) (k:t.den→Option U),cl m t e k=xd e k)∧(∀{U:Type} (m:Bool) (t:Ty) (g:Bool) (v:t.den) (k:t.den→Option U),ce m t g v k=jK g v k)∧(∀{U:Type} (m:Bool) (t:Ty) (x:t.den) (k:t.den→U),fz m t x k=k x)∧(∀{U:Type} (m:Bool) (x:Nat) (k:Nat→U),fm m x k=k x) ∧
 (∀{U:Type} (m c:Bool) (k:Option U) (l:List Nat),nq m l c k=k)∧(∀{U:Type} (m:Bool) (n:Nat) (c z:Bool) (k:Option U),nm m n c z k=ck (aN c z) k)∧(∀p:Prop,(True∧p)=p)∧(∀p:Prop,(p∧True)=p)∧(∀p:Prop,(p→True)=True) :=
 ⟨Ml,afo,abX,afp,XL,s0,s1,s2,s3,ES,Tc,λp=>ajQ p,λp=>G_ p,λp=>implies_true p⟩
def ap {a b:Bool}(h:a=true→b=true):aN a b=true:=by cases a <;> cases b <;> simp_all[aN]
def bq:FU=1099511627776:=rfl
def ar {n:Int}(g : -9000000000000000000≤n)(f:n≤9000000000000000000):w64 n=n:=qp Ω Ω
variable{n N:Nat}{i x:Int}{s:Sta}{C:List (List Int)}{J:Type}{w:List Cel}
def aD (g:0≤i)(f:i<n):bd i n=true:=by simp[bd,g,f]
def Wj (c:Int):(iM c).isSome=true:=by simp[iM,vd,s1,ES];rfl
def xF (c:Int):(fa c).isSome=true:=by simp[fa,rF,s1,ES];rfl
def nv (s:Str):Tot (cT s) λ_=>True:=by simp[cT,nu,gV,iX,gU,iW,tt]
def adv (s:Str):Tot (tC s) λ_=>True:=by simp[tC,CO,u5,zi,u4,zh,tt]
def Df (s:Str)(g:Int)(J:0≤g)(l:s.length<1000000):∀(n:Nat) (f:Int),g≤f→f≤s.length→s.length-f<n→Tot (ui n s g f) λr=>0≤r∧g+r≤s.length
 |0,f,_,C,p=>Ω
 |n+1,f,h2,C,p=>by
  show Tot (sd false some (ui n) s g f) _;simp only[sd,tt,il];refine⟨ap λh=>aD Ω (by simpa using h),ap λ_=>Wj _,λh=>?_,λ_=>?_⟩
  ·have:f<s.length:=by
    by_cases j:f<s.length
    ·exact j
    ·simp[j]at h
   rw[ar Ω Ω];exact Df s g J l n (f+1) Ω Ω Ω
  ·rw[ar Ω Ω];omega
def Ah (s:Str)(f:Int)(g:0≤f)(l:s.length<1000000):Tot (jb s f) λr=>0≤r∧(f≤s.length→f+r≤s.length):=by
 simp only[jb,Cq,tt,il];refine⟨ap λh=>aD g (by simpa using h),ap λh=>aD g (by simp at h;exact h.1),ap λ_=>by simp[aK],λ_=>Ω,λh=>?_⟩;have:f<s.length:=by
  by_cases j:f<s.length
  ·exact j
  ·simp[akd.1 j]at h
 exact(Df s f g l FU f Ω Ω (by rw[bq];omega)).mono λr h=>⟨h.1,λ_=>h.2⟩
def U3 (s:Str)(f:Int)(j:0≤f)(g:f<s.length)(l:s.length<1000000):Tot (sE s f) λ_=>True:=by simp only[sE,Cw,qJ,uF,qI,uE,tt,il];rw[ar Ω Ω];exact⟨aD j g,λ_=>ap λh=>aD Ω (by simpa using h)⟩
abbrev afr:Ty :=.cons tInt (.cons tInt .unit)
def Xs (s:Str)(f:Int)(j:0≤f)(g:s.length<1000000):Xt s f=true:=(Ah s f j g).some
def PD (s:Str)(f:Int)(j:0≤f)(p:f<s.length)(l:s.length<1000000):Tot (oS s f) λ_=>True:=by
 simp only[oS,xN,qj,tt,il];refine(Ah s f j l).mono λr1 P=>?_;have J:=P.2 Ω;have e1:w64 (f+r1)=f+r1:=ar Ω Ω;have e2:w64 (f+r1+1)=f+r1+1:=ar Ω Ω;rw[e1,e2];refine⟨by simp[j];omega,aD j p,ap λ_=>(nv _).some,ap λh=>aD Ω ?_,ap λ_=>Xs s _ Ω l,λh=>?_,λ_ _=>(nv _).mono λ_ _=>λ_=>aD j p⟩
 ·simp at h;omega
 ·have C:0<Ju s (f+r1+1):=by
   simp at h;exact h.2
  have hl:f+r1+1<s.length:=by simp at h;exact h.1.1.2
  have R:=Ah s (f+r1+1) Ω l;obtain⟨g,r,U⟩:=R;have e4:Ju s (f+r1+1)=g:=by unfold Ju;rw[r];rfl
  rw[e4]at C;have T:=U.2 Ω;have e5:w64 (f+r1+1+g)=f+r1+1+g:=ar Ω Ω;refine⟨g,r, ?_⟩;simp only[e5];refine⟨by simp;omega,aD Ω Ξ,λ_ _=>(nv _).mono λ_ _=>trivial,λ_ _=>(nv _).mono λ_ _=>trivial⟩
def BN (s:Str)(j:Int)(l:s.length<1000000):∀(n:Nat) (f:Int),0≤f→f≤s.length→s.length-f<n→Tot (uT n s j f) λ_=>True
 |0,C,_,r,p=>Ω
 |n+1,f,g,r,p=>by
  show Tot (sX false some (uT n) s j f) _;simp only[sX,tt,il];intro h;have h:f<s.length:=by simpa using h
  refine⟨aD g h,λ_=>⟨aD g h,(gy (xF _)).mono λ_ _=>λ_=>⟨aD g h,ap λ_=>aD g h,λ_=>?_⟩⟩⟩;rw[ar Ω Ω];exact BN s j l n (f+1) Ω Ω Ω
def yO (s:Str)(g:Int)(j:s.length<1000000):∀(n:Nat) (f:Int),0≤f→f≤s.length→s.length-f<n→Tot (qX n s g f) λ_=>True
 |0,C,_,p,l=>Ω
 |n+1,f,r,p,l=>by
  show Tot (pq false some (qX n) s g f) _;simp only[pq,tt,il];refine⟨ap λh=>aD r (by simpa using h),λh=>?_⟩;have h:f<s.length:=by simp at h;exact h.1
  rw[ar Ω Ω];exact yO s g j n (f+1) Ω Ω Ω
def Vy (s:Str)(f:Int)(l:0≤f)(j:f<s.length)(g:s.length<1000000):Tot (sY s f) λ_=>True:=by
 simp only[sY,CI,tt];refine⟨aD l j,(gy (xF _)).mono λ_ _=>λ_=>⟨λ_=>?_,λ_=>⟨λ_=>?_,λ_=>⟨λ_=>?_,λ_=>?_⟩⟩⟩⟩
 ·rw[ar Ω Ω];exact BN s f g FU (f+1) Ω Ω (by rw[bq];omega)
 ·exact yO s f g FU f Ω Ω (by rw[bq];omega)
 ·exact(PD s f l j g).mono λ_ _=>trivial
 ·exact(U3 s f l j g).mono λ_ _=>trivial
def BT (s:Str)(j:Int)(J:s.length<1000000)(k:aH afr.den)(g:Int)(l:∀f,g<f→f≤s.length→Tot (k s j f) λ_=>True)(p:ixs s g=35):∀(n:Nat) (f:Int),0≤f→g≤f→f≤s.length→g<s.length→s.length-f<n→Tot (pF k n s j f) λ_=>True
 |0,R,_,_,r,_,P=>Ω
 |n+1,f,C,ha,r,h5,P=>by
  show Tot (tv false some (pF k n) k s j f) _;simp only[tv,tt,il];refine⟨ap λh=>aD C (by simpa using h),λh=>?_,λh=>?_⟩
  ·have h:f<s.length:=by
    simp at h;exact h.1
   refine⟨aD C h,(gy (xF _)).mono λ_ _=>λ_=>?_⟩;rw[ar Ω Ω];exact BT s j J k g l p n (f+1) Ω Ω Ω h5 Ω
  ·refine l f ?_ r;by_cases e:g=f
   ·subst e;rw[p]at h;simp[h5]at h
   ·omega
def tu (s:Str)(g:Int)(l:s.length<1000000):∀(n:Nat) (f:Int),0≤f→f≤s.length→s.length-f<n→Tot (pG n s g f) λ_=>True
 |0,P,_,r,J=>Ω
 |n+1,f,p,r,J=>by
  show Tot (tw false some (pG n) (pF (pG n) FU) s g f) _;simp only[tw,tt,il];intro h;have h:f<s.length:=by simpa using h
  refine⟨aD p h,λ_=>?_,λ_=>⟨aD p h,λC=>?_⟩⟩
  ·rw[ar Ω Ω];exact tu s g l n (f+1) Ω Ω Ω
  ·exact BT s g l _ f (λu R j=>tu s g l n u Ω j Ω) (by simpa using C) FU f p Ω r h (by rw[bq];omega)
def VS (s:Str)(f:s.length<1000000):Tot (tA s 0) λ_=>True:=by simp[tA,CL];exact tu s 0 f FU 0 Ω Ω (by rw[bq];omega)
def Av {s:Str}(h:¬s=[]):(0:Int)<s.length:=by
 cases s with
 |nil=>exact absurd rfl h
 |cons a l=>simp
def Gg (s:Str)(f:s.length<1000000):Tot (kV s) λ_=>True:=by
 simp only[kV,zQ,tt];have g:∀{c:Bool},(!(bif decide (s=[])then true else c))=true→(0:Int)<s.length:=λh=>Av λe=>by simp[e]at h
 refine⟨ap λh=>aD Ω (Av (by simpa using h)),ap λh=>aD Ω (g h),λh=>(Vy s 0 Ω ?_ f).mono λ_ _=>trivial⟩;refine Av λe=>?_;simp[e]at h
def xW (s:Str)(g:s.length<1000000):∀(n:Nat) (c:Bool) (i:Int),0≤i→i≤s.length→s.length-i<n→Tot (ng n s c i) λ_=>True
 |0,_,p,_,l,j=>Ω
 |n+1,c,i,f,l,j=>by
  show Tot (ll false some (ng n) s c i) _;simp only[ll,je,lu,tt,il];intro h;have h:i<s.length:=by simpa using h
  rw[ar Ω Ω];have r:=λc=>xW s g n c (i+1) Ω Ω Ω;exact⟨aD f h,λ_=>⟨aD f h,λ_=>r _,λ_=>r _⟩,λ_=>⟨aD f h,λ_=>r _,λ_=>r _⟩⟩
def Mh (s:Str)(t:Bool)(f:s.length<1000000):Tot (iE s t) λ_=>True:=by simp only[iE,ur,tt];exact(VS s f).mono λ_ _=>λ_ _=>xW s f FU false 0 Ω Ω (by rw[bq];omega)
def GL (k:Int)(s:Str)(f:s.length<1000000):Tot (gS k s) λ_=>True:=by simp[gS,nh,j6,dP,oh,tt];refine(Gg s f).mono λr _=>?_;have:=adv s;simp[this]
def gw (id:Int):bY id=some (decide (id>1048576)&&decide (id<34603008) && !decide (id.tmod 1048576=0)):=by simp only[bY,qw,ES,Tc];rw[show(!decide ((1048576:Int)=0))=true from rfl,cd];simp[ck,ajC]
def sg (id:Int):oV id=true:=by unfold oV;rw[gw];rfl
def xS (s:Str)(g:s.length<1000000):∀(n:Nat) (i:Int),0≤i→i≤s.length→s.length-i<n→Tot (m0 n s i) λ_=>True
 |0,p,_,l,j=>Ω
 |n+1,i,f,l,j=>by
  show Tot (lj false some (m0 n) s i) _;simp only[lj,tt,il];intro h;have h:i<s.length:=by simpa using h
  refine⟨aD f h,ap λ_=>aD f h,λ_=>?_⟩;rw[ar Ω Ω];exact xS s g n (i+1) Ω Ω Ω
def L8 (s:Str)(f:s.length<1000000):Tot (lk s) λ_=>True:=by
 simp only[lk,um,tt,il];refine⟨ap λh=>?_,λ_=>xS s f FU 0 Ω Ω (by rw[bq];omega)⟩;rw[ar Ω Ω];have:¬((s.length:Int)<1):=λe=>by simp[e]at h
 exact aD Ω Ω
def fb (id:Int):Prop:=1048576<id∧id<34603008∧¬id.tmod 1048576=0
def RfI (x:Int):Prop:=x=0∨fb x
def xT {id:Int}(h:gx id=true):fb id:=by
 have e:gx id=(decide (id>1048576)&&decide (id<34603008) && !decide (id.tmod 1048576=0)):=by unfold gx;rw[gw];rfl
 rw[e]at h;simpa[fb,aki]using h
def JI (v:aO.den)(p:v.2.2.1.length<1000000):Tot (jj v) λr=>r=true→RfI v.2.2.2.1:=by
 simp only[jj,qL,tt];refine⟨ap λ_=>sg _,ap λ_=>by simp[aK],λ_ h=>(by cases h),λg=>?_⟩;have f:RfI v.2.2.2.1:=by
  by_cases j:v.2.2.2.1=0
  ·exact .inl j
  ·refine .inr (xT ?_);cases l:gx v.2.2.2.1 with
   |true=>rfl
   |false=>rw[l]at g;simp[j]at g
 exact⟨λ_ _=>f,λ_=>⟨ap λ_=>by simp[aK],ap λ_=>by simp[aK],λ_ _=>f,λ_=>⟨λ_ _=>f,λ_=>(GL _ _ p).mono λ_ _ _=>f⟩⟩⟩
def B4 (k f:Int)(v:aO.den)(g:v.2.2.1.length<1000000):Tot (iN k f v) λr=>r=true→RfI v.2.2.2.1:=by
 simp only[iN,vq,tt];have z:∀{a:Int} {s:Str},eqD aO v (a,false,s,0,())=true→RfI v.2.2.2.1:=λh=>.inl (by rw[K7 aO _ _ h]);refine⟨λh _=>z h,λ_=>⟨λ_ h=>(by cases h),λ_=>⟨λ_ h=>z h,λ_=>⟨λ_ h=>z h,λ_=>⟨λ_=>⟨ap λ_=>sg _,λ_ h=>(by cases h),λC=>?_⟩,λ_=>⟨λ_=>(Gg _ g).mono λ_ _=>⟨λ_ h=>(by cases h),λj=>?_⟩,λ_=>⟨λ_=>JI v g,λ_=>⟨λ_=>⟨ap λ_=>by simp[aK],ap λ_=>(Mh _ _ g).some,λh=>?_⟩,λ_ h=>(by cases h)⟩⟩⟩⟩⟩⟩⟩⟩
 ·have p:RfI v.2.2.2.1 :=.inr (xT (by
   cases l:gx v.2.2.2.1 with
   |true=>rfl
   |false=>rw[l]at C;simp at C))
  exact⟨λ_=>(L8 _ g).mono λ_ _ _=>p,λ_ _=>p⟩
 ·have j:=z (by simpa using j);exact⟨λ_ _=>j,λ_ _=>j⟩
 ·refine z (a:=0) (s:=v.2.2.1) ?_;cases l:eqD aO v (0,false,v.2.2.1,0,())with
  |true=>rfl
  |false=>rw[l]at h;cases h
def PS (k f:Int)(v:aO.den)(g:v.2.2.1.length<1000000):Tot (pe k f v) λr=>r=true→RfI v.2.2.2.1:=by simp[pe,xZ,tt];exact(B4 k f v g).mono λ_ j=>⟨ap λ_=>by simp[aK],ap λ_=>by simp[aK],λh _=>j h⟩
def TxV (v:Val):Prop:=v.2.2.1.length<1000
def TxC (c:Cel):Prop:=TxV c.2.2.1
def gj {t:Ty}{l:List t.den}(g:0≤i)(f:i<l.length):ix t l i∈l:=by
 have h:i.toNat<l.length:=Ω
 unfold ix;rw[χ,ε h];exact c_ h
def M9 (a b:Cel):fq a b=some (decide (a.1=b.1)&&decide (a.2.1=b.2.1)):=by simp[fq,ny,ES]
def Pw (a b:Cel):(iT a b).isSome=true:=by simp[iT,Ae];cases decide (a.1=b.1) <;> rfl
def Ix (l:List Int)(x:Int)(g:l.length<1000000):∀(n:Nat) (r p:List Int),l=p++r→r.length<n→zu n l x (p.length:Int)=some (decide (x∈r))
 |0,r,p,_,h=>Ω
 |n+1,r,p,e,h=>by
  subst e;show zw false some (zu n) (p++r) x p.length=_;simp only[zw,s2,il];cases r with
  |nil=>rw[Q9 (t:=tInt)];simp
  |cons c r=>
   have next:=Ix (p++c::r) x g n r (p++[c]) Ψ (by simp at h;omega)
   rw[←QX (t:=tInt) p c (by simp at g;omega)]at next
   rw[KD (t:=tInt),gi (t:=tInt),aD Ω Ξ,next];simp[ck];by_cases f:c=x
   ·simp[f]
   ·have:¬x=c:=λe=>f e.symm;simp[f,this]
def CS (l:List Int)(x:Int)(f:l.length<1000000):nP l x=some (decide (x∈l)):=by simp[nP,KX];exact Ix l x f FU l [] rfl (by rw[bq];omega)
def vi (l:List Int)(x:Int)(f:l.length<1000000):BY l x=true:=by unfold BY;rw[CS l x f];rfl
def Oj (l:List Int)(x:Int)(f:l.length<1000000):pR l x=decide (x∈l):=by unfold pR;rw[CS l x f];rfl
def HY (l:List Int)(x:Int)(P:l.length<1000000):∀(n:Nat) (t:Int),0≤t→t≤l.length→t<n→Tot (yt n l x t) λr=>r.length≤l.length+1∧∀y,y∈r↔y∈l∨y=x
 |0,t,C,_,h=>Ω
 |n+1,t,C,h1,h=>by
  show Tot (yu false some (yt n) l x t) _;have p:t>0→bd (w64 (t-1)) l.length=true:=λh=>by rw[ar Ω Ω];exact aD Ω Ω
  simp only[yu,tt,aiM,s_,V_];refine⟨ap λh=>p (by simpa using h),λh=>?_,λ_=>?_⟩
  ·have J:t>0:=by simp at h;exact h.1
   refine⟨p J,λg=>⟨Ω,λy=>⟨.inl,λf=>?_⟩⟩,λ_=>?_⟩
   ·obtain f|rfl:=f
    ·exact f
    ·have g:ix tInt l (w64 (t-1))=y:=by simpa using g
     rw[←g];have T:=ar (n:=t-1) Ω Ω;exact gj (t:=tInt) Ω Ω
   ·rw[ar Ω Ω];exact HY l x P n (t-1) Ω Ω Ω
  ·have R:(List.take t.toNat l).length=t.toNat:=by simp;omega
   have j:(decide (0≤t)&&decide (t≤(l.length:Int)))=true:=by simp[C,h1]
   refine⟨j,by simp[lm,LIM];omega,by simp[lm,LIM];omega,j,by simp[lm,LIM];omega,by simp;omega,λy=>?_⟩;have:=l? t.toNat l;simp only[I',J'];constructor
   ·rintro((f|f)|f)
    ·exact .inl (I? f)
    ·exact .inr f
    ·exact .inl (J? f)
   ·rintro(f|f)
    ·rw[←this,I']at f;obtain f|f:=f
     ·exact .inl (.inl f)
     ·exact .inr f
    ·exact .inl (.inr f)
def Nc (l:List Int)(x:Int)(f:l.length<1000000):Tot (uM l x) λr=>r.length≤l.length+1∧∀y,y∈r↔y∈l∨y=x:=by simp[uM,J7,tt];exact HY l x f FU l.length Ω Ω (by rw[bq];omega)
def EL (l:List Cel)(id:Int)(C:l.length<1000000):∀(n:Nat) (out:List Cel) (i:Int),0≤i→i≤l.length→out.length≤i→(∀c∈out,c∈l)→l.length-i<n→Tot (CH n l id out i) λr=>r.length≤l.length∧∀c∈r,c∈l
 |0,out,i,p,P,J,j,h=>Ω
 |n+1,out,i,p,P,J,j,h=>by
  show Tot (EM false some (CH n) l id out i) _;simp only[EM,EN,tt,il];refine⟨λf=>?_,λ_=>⟨Ω,j⟩⟩;have f:i<l.length:=by simpa using f
  rw[ar Ω Ω];refine⟨aD p f,λ_=>⟨aD p f,by simp[lm,LIM];omega,EL l id C n _ _ Ω Ω Ξ (λc g=>?_) Ω⟩,λ_=>EL l id C n _ _ Ω Ω Ω j Ω⟩;obtain g|g:=I'.1 g
  ·exact j c g
  ·rw[J'.1 g];exact gj p f
def ac5 (l:List Cel)(id:Int)(f:l.length<1000000):Tot (EP l id) λr=>r.length≤l.length∧∀c∈r,c∈l:=by simp only[EP,S5];exact EL l id f FU [] 0 Ω Ω Ψ (λc g=>by cases g) (by rw[bq];omega)
def xL (l:List Cel)(j:l.length<1000000):∀(n:Nat) (i:Int),0≤i→i≤l.length→l.length-i<n→Tot (mP n l i) λ_=>True
 |0,i,g,C,h=>Ω
 |n+1,i,g,C,h=>by
  show Tot (kZ false some (mP n) l i) _;simp only[kZ,tt,il];intro f;have f:i<l.length:=by simpa using f
  have p:∀{c:Bool},(c&&decide (i>0))=true→bd (w64 (i-1)) l.length=true:=λh=>by simp at h;rw[ar Ω Ω];exact aD Ω Ω
  refine⟨aD g f,(gy (by rw[gw];rfl)).mono λr _=>⟨ap λ_=>aD g f,ap λ_=>aD g f,ap p,ap λ_=>aD g f,ap λ_=>Pw _ _,ap λ_=>by simp[aK],λ_=>?_⟩⟩;rw[ar Ω Ω];exact xL l j n (i+1) Ω Ω Ω
def LJ (l:List Cel)(f:l.length<1000000):Tot (k6 l) λ_=>True:=by simp[k6,uf];exact xL l f FU 0 Ω Ω (by rw[bq];omega)
def xR (l:List Cel)(g:l.length<1000000):∀(n:Nat) (i:Int),0≤i→i≤l.length→l.length-i<n→Tot (mY n l i) λ_=>True
 |0,i,j,p,h=>Ω
 |n+1,i,j,p,h=>by
  show Tot (lg false some (mY n) l i) _;simp only[lg,tt,il];refine⟨λf=>?_,λ_=>(LJ l g).mono λ_ _=>trivial⟩;have f:i<l.length:=by simpa using f
  rw[ar Ω Ω];exact⟨aD j f,λ_=>xR l g n (i+1) Ω Ω Ω⟩
def L5 (l:List Cel)(f:l.length<1000000):Tot (lh l) λ_=>True:=by simp[lh,ul];exact xR l f FU 0 Ω Ω (by rw[bq];omega)
def sf (t:Mdl)(id f:Int)(p:t.1.length<1000000):∀(n:Nat) (g j:Int),0≤g→g≤j→j≤t.1.length→j-g<n→Tot (qu n t id f g j) λ_=>True
 |0,g,j,l,J,C,h=>Ω
 |n+1,g,j,l,J,C,h=>by
  show Tot (oU false some (qu n) t id f g j) _;simp only[oU,tt,il];refine⟨λr=>?_,λ_=>⟨ap λh=>aD l (by simpa using h),ap λ_=>by unfold Ec;rw[M9];rfl,λh=>aD l ?_⟩⟩
  ·have r:g<j:=by simpa using r
   have U:w64 (g+j)=g+j:=ar Ω Ω;have T:Int.tdiv (g+j) 2=(g+j)/2:=Int.tdiv_eq_ediv_of_nonneg Ω;have R:w64 ((g+j)/2)=(g+j)/2:=ar Ω Ω;have P:w64 ((g+j)/2+1)=(g+j)/2+1:=ar Ω Ω;rw[U,T,R,P];exact⟨by decide,aD Ω Ω,(gy (Pw _ _)).mono λ_ _=>⟨λ_=>sf t id f p n _ _ Ω Ω Ω Ω,λ_=>sf t id f p n _ _ Ω Ω Ω Ω⟩⟩
  ·simp at h;exact h.1
def ZR (t:Mdl)(id f:Int)(g:t.1.length<1000000):Tot (zA t id f) λ_=>True:=by simp[zA,K0,uk,xP,tt];exact(sf t id f g FU 0 t.1.length Ω Ω Ω (by rw[bq];omega)).mono λ_ _=>trivial
def xp (t:Mdl)(j:t.1.length<1000000):∀(n:Nat) (l:List Int) (i:Int),0≤i→i≤t.1.length→l.length≤i→t.1.length-i<n→Tot (vf n t l i) λr=>r.length≤t.1.length
 |0,l,i,g,C,p,h=>Ω
 |n+1,l,i,g,C,p,h=>by
  show Tot (tE false some (vf n) t l i) _;simp only[tE,tF,tt,il];refine⟨λf=>?_,λ_=>Ω⟩;have f:i<t.1.length:=by simpa using f
  rw[ar (n:=i+1) Ω Ω];refine⟨ap λ_=>aD g f,ap λh=>?_,λ_=>⟨aD g f,by simp[lm,LIM];omega,xp t j n _ _ Ω Ω Ξ Ω⟩,λ_=>xp t j n _ _ Ω Ω Ω Ω⟩;have h:¬i=0:=by simpa using h
  rw[ar Ω Ω];exact aD Ω Ω
def Wl (t:Mdl)(f:t.1.length<1000000):Tot (tG t) λr=>r.length≤t.1.length:=by simp[tG,CR];exact xp t f FU [] 0 Ω Ω Ψ (by rw[bq];omega)
def BA (t:Mdl)(C:t.1.length<1000000)(p:∀c∈t.1,TxC c):∀(n:Nat) (f:Int) (a b:Bool) (i:Int),0≤i→i≤t.1.length→t.1.length-i<n→Tot (lA n t f a b i) λ_=>True
 |0,f,a,b,i,j,P,h=>Ω
 |n+1,f,a,b,i,j,P,h=>by
  show Tot (ph false some (lA n) t f a b i) _;have l:i<t.1.length→∀f a b,Tot (iG false some (lA n) t i f a b) λ_=>True:=λg f a b=>by
   have J:=p _ (gj (t:=aa) j g);simp only[iG,pj,tt,il];rw[ar (n:=i+1) Ω Ω,ar (n:=(t.1.length:Int)-1) Ω Ω];have r:=λa b=>BA t C p n f a b (i+1) Ω Ω Ω;refine⟨aD j g,aD j g,(B4 _ _ _ (akl J Ω)).mono λ_ _=>λ_=>⟨ap λ_=>aD j g,ap λ_=>aD j g,ap λh=>aD Ω ?_,ap λ_=>aD j g,λ_=>⟨ap λ_=>by simp[aK],λ_=>r _ _⟩,λ_=>r _ _⟩⟩;have h:¬i=(t.1.length:Int)-1:=by simpa using h
   omega
  simp only[ph,tt,il];intro g;have g:i<t.1.length:=by simpa using g
  refine⟨ap λ_=>aD j g,ap λh=>?_,λ_=>⟨aD j g,λ_=>⟨aD j g,l g _ _ _⟩⟩,λ_=>l g _ _ _⟩;have h:¬i=0:=by simpa using h
  rw[ar Ω Ω];exact aD Ω Ω
def PZ (t:Mdl)(f:t.1.length<1000000)(g:∀c∈t.1,TxC c):Tot (pl t) λ_=>True:=by simp[pl,x9,tt];exact(L5 _ f).mono λ_ _ _=>BA t f g FU 0 false false 0 Ω Ω (by rw[bq];omega)
def wg (t:Mdl)(j:t.1.length<1000000)(g f:Int)(p:f≤1000001):∀(n:Nat) (id i:Int),0≤i→i≤1000001→1000001-i<n→Tot (ku n g f t id i) λ_=>True
 |0,id,i,C,r,h=>Ω
 |n+1,id,i,C,r,h=>by
  show Tot (jr false some (ku n) g f t id i) _;simp[jr,tt];intro l;have l:i<f:=by simpa using l
  rw[ar Ω Ω];exact(ZR t id 2 j).mono λ_ _ _ _=>wg t j g f p n _ (i+1) Ω Ω Ω
def J0 (t:Mdl)(j:t.1.length<1000000)(id g f:Int)(l:f≤1000001):Tot (gA t id g f) λ_=>True:=by simp[gA,qQ];exact wg t j g f l FU id 0 Ω Ω (by rw[bq];omega)
def rE (t:Mdl)(l:t.1.length<1000000)(id:Int)(f:List Int)(p:f.length≤t.1.length):∀(n:Nat) (out:List Int) (i:Int),0≤i→i≤f.length→out.length≤i→f.length-i<n→Tot (nW n id f t out i) λr=>r.length≤t.1.length
 |0,out,i,j,P,J,h=>Ω
 |n+1,out,i,j,P,J,h=>by
  show Tot (mD false some (nW n) id f t out i) _;simp only[mD,mE,tt,il];refine⟨λg=>?_,λ_=>Ω⟩;have g:i<f.length:=by simpa using g
  have C:HW t (ix tInt f i) id (w64 ((f.length:Int)+1))=true:=(J0 t l _ _ _ (by rw[ar Ω Ω];omega)).some;rw[C,ar (n:=i+1) Ω Ω];exact⟨aD j g,ap λ_=>aD j g,by simp[aK,cd],λ_=>⟨aD j g,by simp[lm,LIM];omega,rE t l id f p n _ _ Ω Ω Ξ Ω⟩,λ_=>rE t l id f p n _ _ Ω Ω Ω Ω⟩
def Pk (t:Mdl)(f:t.1.length<1000000)(j:∀c∈t.1,TxC c)(id:Int):Tot (mF t id) λr=>r.length≤t.1.length:=by simp only[mF,vE,tt];exact(PZ t f j).mono λ_ _=>⟨ap λ_=>sg _,λ_=>by simp,λ_=>(Wl t f).mono λg l=>rE t f id g l FU [] 0 Ω Ω Ψ (by rw[bq];omega)⟩
abbrev Com:=tCommit.den
abbrev ws (c:Com):List Cel:=c.2.2.2.2.1
def oP (w:List Cel):Prop:=w.Pairwise λa b=>ahd a.1 a.2.1 b.1 b.2.1=true
def Wr (w:List Cel)(id f:Int):Prop:=∃c∈w,c.1=id∧c.2.1=f
def Chn:Cel→List Cel→Prop
 |_,[]=>True
 |a,b::r=>ahd a.1 a.2.1 b.1 b.2.1=true∧Chn b r
def Lp:∀{r:List Cel} {a:Cel},Chn a r→(a::r).Pairwise λa b=>ahd a.1 a.2.1 b.1 b.2.1=true
 |[],a,_=>n_.2 ⟨λ_ h=>by(cases h),List.Pairwise.nil⟩
 |b::r,a,⟨j,l⟩=>by
  have g:=Lp l;refine n_.2 ⟨λx f=>?_,g⟩;obtain rfl|f:=K'.1 f
  ·exact j
  ·exact kW j ((n_.1 g).1 x f)
def wj (l:List Cel)(f:l.length<1000000):∀(n:Nat) (r p:List Cel) (a:Cel),l=p++a::r→r.length<n→Tot (ib n l ((p.length:Int)+1)) λb=>b=true→Chn a r
 |0,r,p,a,e,h=>Ω
 |n+1,r,p,a,e,h=>by
  subst e;show Tot (eW false some (ib n) (p++a::r) ((p.length:Int)+1)) _;simp only[eW,tt,il];simp only[Q',x_]at f⊢;have P:w64 ((p.length:Int)+1-1)=p.length:=by rw[ar Ω Ω];omega
  cases r with
  |nil=>exact⟨λh=>by simp at h,λ_ _=>trivial⟩
  |cons b r=>
   rw[P];have J:ix aa (p++a::b::r) (p.length:Int)=a:=gi (t:=aa) p a (b::r);have C:ix aa (p++a::b::r) ((p.length:Int)+1)=b:=by have:=gi (t:=aa) (p++[a]) b r;rw[show p++a::b::r=(p++[a])++b::r by simp,show((p.length:Int)+1)=((p++[a]).length:Int)by simp];exact this
   have j:w64 ((p.length:Int)+1+1)=((p++[a]).length:Int)+1:=by rw[ar Ω Ω];simp
   rw[J,C,j];refine⟨λ_=>?_,λh=>?_⟩
   ·refine⟨aD Ω Ξ,aD Ω Ξ,aD Ω Ξ,aD Ω Ξ,λ_ h=>(by cases h),λh=>?_⟩;refine(wj (p++a::b::r) (by simp at f⊢;omega) n r (p++[a]) b Ψ (by simp at h;simp at *;omega)).mono λx g e=>⟨?_,g e⟩;rw[←vL];simpa using h
   ·simp at h;omega
def Kg (l:List Cel)(f:l.length<1000000):Tot (ju l) λb=>b=true→oP l:=by
 simp[ju,qU];cases l with
 |nil =>show Tot (eW false some (ib 1099511627775) [] 1) _;simp only[eW,tt,il];exact⟨λh=>by simp at h,λ_ _=>List.Pairwise.nil⟩
 |cons a r=>exact(wj (a::r) f FU r [] a rfl (by rw[bq];simp at f;omega)).mono λb g e=>Lp (g e)
def vS (w:List Cel)(id f:Int)(P:w.length<1000000):∀(n:Nat) (i:Int), -1≤i→i<w.length→i+1<n→(∀k:Nat,i<k→k<w.length→¬((w.getD k (zero aa)).1=id∧(w.getD k (zero aa)).2.1=f))→Tot (jX n w id f i) λr=>r.2.1=true↔Wr w id f
 |0,i,T,p,h,_=>Ω
 |n+1,i,T,p,h,hk=>by
  show Tot (i9 false some (jX n) w id f i) _;simp only[i9,tt];refine⟨λg=>?_,λg=>?_⟩
  ·have g:0≤i:=by simpa using g
   refine⟨aD g p,ap λ_=>aD g p,λj=>⟨aD g p,λ_=>?_,λ_=>trivial⟩,λj=>?_⟩
   ·simp at j;exact⟨_,gj (t:=aa) g p,j.1,j.2⟩
   ·rw[ar Ω Ω];refine vS w id f P n (i-1) Ω Ω Ω λk R C=>?_;by_cases e:i=k
    ·subst e;simp at j;intro J;exact j J.1 J.2
    ·exact hk k Ω C
  ·have g:¬0≤i:=by simpa using g
   refine⟨λh=>(by cases h),λ⟨c,j,e1,U⟩=>?_⟩;obtain⟨k,l,rfl⟩:=aiL.1 j;have:=hk k Ω l;rw[χ,ε l]at this;exact absurd ⟨e1,U⟩ this
def jV (w:List Cel)(id f:Int)(g:w.length<1000000):Tot (eG w id f) λr=>r.2.1=true↔Wr w id f:=by
 simp[eG,p8,tt,il];rw[ar Ω Ω];exact vS w id f g FU _ Ω Ω (by rw[bq];omega) λk l j=>Ω
def GJ (c:Com)(id f:Int)(g:(ws c).length<1000000):Tot (ff c id f) λr=>r=true↔Wr (ws c) id f:=by simp[ff,mQ,tt];exact(jV _ id f g).mono λ_ h=>h
def BX (l:List Int)(j:l.length<1000000):∀(n:Nat) (i:Int),0≤i→i≤l.length→l.length-i<n→Tot (ri n l i) λ_=>True
 |0,i,g,p,h=>Ω
 |n+1,i,g,p,h=>by
  show Tot (pK false some (ri n) l i) _;simp only[pK,tt,il];intro f;have f:i<l.length:=by simpa using f
  rw[ar (n:=i+1) Ω Ω];refine⟨aD g f,(gy (by rw[gw];rfl)).mono λr _=>⟨ap λ_=>aD g f,ap λh=>?_,ap λ_=>by simp[aK],λ_=>BX l j n (i+1) Ω Ω Ω⟩⟩;simp at h;rw[ar Ω Ω];exact aD Ω Ω
def Fv (l:List Int)(f:l.length<1000000):Tot (kQ l) λ_=>True:=by simp[kQ,zn];exact BX l f FU 0 Ω Ω (by rw[bq];omega)
def yw (c:Com)(l:c.2.2.2.1.length<1000000)(P:Prop)(g:P):∀(n:Nat) (i:Int),0≤i→i≤c.2.2.2.1.length→c.2.2.2.1.length-i<n→Tot (nA n c i) λ_=>P
 |0,i,j,p,h=>Ω
 |n+1,i,j,p,h=>by
  show Tot (lN false some (nA n) c i) _;simp only[lN,tt,il];refine⟨λf=>?_,λ_=>g⟩;have f:i<c.2.2.2.1.length:=by simpa using f
  rw[ar (n:=i+1) Ω Ω];exact⟨aD j f,ap λ_=>aD j f,λ_=>g,λ_=>yw c l P g n (i+1) Ω Ω Ω⟩
def Nf (c:Com)(j:c.2.1.length<1000000)(g:c.2.2.1.length<1000000)(p:c.2.2.2.1.length<1000000):Tot (lO c) λr=>r=true→fb c.1:=by
 simp only[lO,uN,tt];have e:bY c.1=some _:=gw c.1;refine⟨_,e,ap λ_=>(Fv _ j).some,ap λ_=>(Fv _ g).some,ap λ_=>vi _ _ j,ap λ_=>vi _ _ g,λ_ h=>(by cases h),λh=>?_⟩;have l:fb c.1:=by
  cases f:(decide (c.1>1048576)&&decide (c.1<34603008) && !decide (c.1.tmod 1048576=0))with
  |false=>rw[f]at h;simp at h
  |true=>simpa[fb,aki]using f
 exact(yw c p (fb c.1) l FU 0 Ω Ω (by rw[bq];omega)).mono λ_ h _=>h
def pH (s:Sta)(id:Int)(f:cj s id 1=true):Tot (fQ s id) λ_=>True:=by
 simp only[fQ,CN,tt,il];refine⟨f,λh=>aD Ω ?_⟩;have h:¬((iy s id 1).length:Int)=0:=by simpa using h
 omega
def NY (s:Sta)(w:List Cel)(id:Int)(g:cj s id 1=true)(f:w.length<1000000):Tot (lW s w id) λ_=>True:=by simp[lW,u0,tt];exact(pH s id g).mono λ_ _ _=>(jV w id 1 f).mono λ_ _=>trivial
def Rm (f:Int):(gI f).isSome=true:=by simp[gI,re,ES,Tc];rw[ap λ_=>by simp[aK]];rfl
def IdC (x:Cel):Prop:=fb x.1∧RfI x.2.2.1.2.2.2.1
def K3 (s:Sta)(c:Com)(x:Cel)(p:cj s x.1 1=true)(j:(ws c).length<1000000)(P:TxC x):Tot (jC s c x) λr=>r=0→IdC x:=by
 simp only[jC,rn,i6,kC,fT,kB,tt];refine⟨_,gw x.1,ap λ_=>Rm _,λ_ h=>absurd h Ϛ,λC=>?_⟩;have l:fb x.1:=by
  cases g:(decide (x.1>1048576)&&decide (x.1<34603008) && !decide (x.1.tmod 1048576=0))with
  |false=>rw[g]at C;simp at C
  |true=>simpa[fb,aki]using g
 refine(pH s x.1 p).mono λ_ _=>⟨λ_=>⟨ap λ_=>by simp[aK],λ_ h=>absurd h Ϛ,λJ=>?_⟩,λ_=>(NY s _ x.1 p j).mono λ_ _=>⟨λ_ h=>absurd h Ϛ,λ_=>(PS _ _ _ (akl P Ω)).mono λr R=>⟨λ_ h=>absurd h Ϛ,λh _=>⟨l,R (by simpa using h)⟩⟩⟩⟩;have f:IdC x:=by
  refine⟨l,.inl ?_⟩;cases g:eqD aO x.2.2.1 (x.2.2.1.1,false,[],0,())with
  |true=>rw[K7 aO _ _ g]
  |false=>rw[g]at J;simp at J
 exact⟨λ_=>⟨λ_=>(jV _ _ _ j).mono λ_ _=>⟨λ_ _=>f,λ_ _=>f⟩,λ_=>(jV _ _ _ j).mono λ_ _=>⟨λ_ _=>f,λ_ _=>f⟩⟩,λ_ _=>f⟩
def zB (s:Sta)(c:Com)(P:∀id,cj s id 1=true)(J:(ws c).length<1000000)(C:∀x∈ws c,TxC x):∀(n:Nat) (i:Int),0≤i→i≤(ws c).length→(ws c).length-i<n→(∀j:Nat,j<i→∀x,(ws c)[j]? = some x→IdC x)→Tot (nR n s c i) λr=>r=0→∀x∈ws c,IdC x
 |0,i,p,h1,h,_=>Ω
 |n+1,i,p,h1,h,hd=>by
  show Tot (ml false some (nR n) s c i) _;simp only[ml,tt,il];refine⟨λf=>?_,λf _ x hm=>?_⟩
  ·have f:i<(ws c).length:=by simpa using f
   rw[ar (n:=i+1) Ω Ω];refine⟨aD p f,(K3 s c _ (P _) J (C _ (gj (t:=aa) p f))).mono λr T=>⟨λl e=>absurd e (by simpa using l),λl=>zB s c P J C n (i+1) Ω Ω Ω λj R x g=>?_⟩⟩;by_cases e:(j:Int)=i
   ·have U:ix aa (ws c) i=x:=by
     show(ws c).getD i.toNat (zero aa)=x;rw[←e,χ,Int.toNat_natCast,g];rfl
    have:=T (by simpa using l);rw[←U];exact this
   ·exact hd j Ω x g
  ·obtain⟨j,R,rfl⟩:=aiL.1 hm;have f:¬i<(ws c).length:=by simpa using f
   exact hd j Ω _ (ε R)
def Ou (s:Sta)(c:Com)(C:∀id,cj s id 1=true)(R:c.2.1.length<1000000)(P:c.2.2.1.length<1000000)(J:c.2.2.2.1.length<1000000)(l:(ws c).length<1000000)(p:∀x∈ws c,TxC x):Tot (mn s c) λr=>r=0→fb c.1∧oP (ws c)∧∀x∈ws c,IdC x:=by simp only[mn,vn,tt];refine(Nf c R P J).mono λr1 g=>⟨λ_ h=>absurd h Ϛ,λU=>(Kg (ws c) l).mono λr2 f=>⟨λ_ h=>absurd h Ϛ,λT=>?_⟩⟩;exact(zB s c C l p FU 0 Ω Ω (by rw[bq];omega) λj hj=>Ω).mono λ_ h e=>⟨g (by simpa using U),f (by simpa using T),h e⟩
def pU (l:List Com)(x:Int):Option Com:=l.find? λc=>decide (c.1=x)
def B7 (l:List Com)(x:Int)(f:l.length<1000000):∀(n:Nat) (r p:List Com),l=p++r→r.length<n→ry n l x (p.length:Int)=some (match pU r x with|some c=>(c,true,())|none=>((0,[],[],[],[],()),false,()))
 |0,r,p,_,h=>Ω
 |n+1,r,p,e,h=>by
  subst e;show pW false some (ry n) (p++r) x p.length=_;simp only[pW,s2,il];cases r with
  |nil=>rw[Q9 (t:=tCommit)];rfl
  |cons c r=>
   have next:=B7 (p++c::r) x f n r (p++[c]) Ψ (by simp at h;omega)
   rw[←QX (t:=tCommit) p c (by simp at f;omega)]at next
   rw[KD (t:=tCommit),gi (t:=tCommit),aD Ω Ξ,next];simp[ck,pU];by_cases g:c.1=x
   ·simp[g]
   ·simp[g]
def IG (l:List Com)(x:Int)(f:l.length<1000000):kS l x=some (match pU l x with|some c=>(c,true,())|none=>((0,[],[],[],[],()),false,())):=by simp[kS,zE];exact B7 l x f FU l [] rfl (by rw[bq];omega)
def eo (h:n≤4000000000):lm n=true:=by unfold lm LIM;exact e? Ω
def InH (l:List Com)(x:Int):Prop:=∃c∈l,c.1=x
variable{l T:List Com}{c:Com}
def FM (h:pU l x=none):¬InH l x:=by rintro⟨c,f,e⟩;unfold pU at h;have:=List.find?_eq_none.1 h c f;simp[e]at this
def aR (l:List Com)(r:List Int):Prop:=∀x∈r,∀c,pU l x=some c→∀p∈c.2.1,InH l p→p∈r
def aC:List Com→List Int→Nat
 |[],_=>0
 |c::l,out=>(if c.1∈out then 0 else c.2.1.length)+aC l out
def HR {out f:List Int}(h:∀y∈out,y∈f):∀l,aC l f≤aC l out
 |[]=>ζ _
 |c::l=>by
  have:=HR h l;simp[aC];by_cases g:c.1∈out
  ·simp[g,h _ g];omega
  ·by_cases j:c.1∈f <;> simp[g,j] <;> omega
def HQ {out f:List Int}{x:Int}(g:x∈f)(j:¬x∈out)(h:∀y∈out,y∈f):∀{l:List Com} {c:Com},pU l x=some c→aC l f+c.2.1.length≤aC l out
 |[],c,hc=>by simp[pU]at hc
 |d::l,c,hc=>by
  by_cases e:d.1=x
  ·have:d=c:=by simpa[pU,e]using hc
   subst this;have:=HR h l;rw[←e]at g j;simp[aC,g,j];omega
  ·have p:pU l x=some c:=by simpa[pU,e]using hc
   have:=HQ g j h p;simp[aC];by_cases r:d.1∈out
   ·simp[r,h _ r];omega
   ·by_cases C:d.1∈f <;> simp[r,C] <;> omega
def abQ (l:List Com)(f r:List Int):Prop:=(∀x∈f,InH l x→x∈r)∧aR l r
def vH (l:List Com)(T:List Int)(B:Nat)(hB:B<100000)(hs:l.length<1000000):∀(n:Nat) (out:List Int) (g:Nat) (f:List Int),g≤f.length→g+aC l out<n→out.length+g+aC l out≤B →
  (∀x∈T,InH l x→x∈out∨x∈f.take g)→(∀x∈out,∀c,pU l x=some c→∀p∈c.2.1,InH l p→p∈out∨p∈f.take g)→Tot (zY n l out g f) λr=>r.length≤B∧abQ l T r
 |0,out,g,f,h1,h2,h3,h4,h5=>Ω
 |n+1,out,g,f,h1,h2,h3,h4,h5=>by
  show Tot (zZ false some (zY n) l out g f) _;simp only[zZ,tt,ni];refine⟨λJ=>?_,λJ=>?_⟩
  ·have J:0<g:=by simpa using J
   have e0:w64 ((g:Int)-1)=(g:Int)-1:=ar Ω Ω;have e1:((g:Int)-1).toNat=g-1:=Ω
   rw[e0,e1,b_];obtain⟨k,rfl⟩:∃k,g=k+1:=⟨g-1,Ω⟩;rw[show k+1-1=k from rfl];have hk:k<f.length:=Ω
   have e2:f.getD k (zero tInt)=f[k]:=by rw[χ,ε hk];rfl
   rw[e2];have j:∀y,y∈f.take (k+1)↔y∈f.take k∨y=f[k]:=λy=>by rw[q_ hk,I',J']
   generalize hx:f[k]=x at *;refine⟨by simp;omega,by simp;omega,_,IG l x hs,ap λ_=>vi _ _ Ω, ?_⟩;rw[Oj _ _ Ω];cases hf:pU l x with
   |none=>
    refine⟨λ_=>vH l T B hB hs n out k f Ω Ω Ω (λy C g=>?_) (λy C c hc p J g=>?_),λh=>by simp at h⟩
    ·obtain h|h:=h4 y C g
     ·exact .inl h
     ·rcases(j y).1 h with h|rfl
      ·exact .inr h
      ·exact absurd g (FM hf)
    ·obtain h|h:=h5 y C c hc p J g
     ·exact .inl h
     ·rcases(j p).1 h with h|rfl
      ·exact .inr h
      ·exact absurd g (FM hf)
   |some c=>
    dsimp only;refine⟨λh=>?_,λh=>?_⟩
    ·have hin:x∈out:=by simpa using h
     refine vH l T B hB hs n out k f Ω Ω Ω (λy C g=>?_) (λy C c hc p J g=>?_)
     ·obtain h|h:=h4 y C g
      ·exact .inl h
      ·rcases(j y).1 h with h|rfl
       ·exact .inr h
       ·exact .inl hin
     ·obtain h|h:=h5 y C c hc p J g
      ·exact .inl h
      ·rcases(j p).1 h with h|rfl
       ·exact .inr h
       ·exact .inl hin
    ·have hni:¬x∈out:=by simpa using h
     refine(Nc out x Ω).mono λr2 R=>?_;have P:∀y∈out,y∈r2:=λy C=>(R.2 y).2 (.inl C);have hrest:=HQ ((R.2 x).2 (.inr rfl)) hni P hf;have U:(f.take k++c.2.1).take (k+c.2.1.length)=f.take k++c.2.1:=by apply f?;simp;omega
     refine⟨eo Ω,vH l T B hB hs n r2 _ _ Ξ Ω Ω (λy C g=>?_) (λy C d hd p J g=>?_)⟩
     ·rw[U,I'];obtain h|h:=h4 y C g
      ·exact .inl (P y h)
      ·rcases(j y).1 h with h|rfl
       ·exact .inr (.inl h)
       ·exact .inl ((R.2 _).2 (.inr rfl))
     ·rw[U,I'];rcases(R.2 y).1 C with C|rfl
      ·obtain h|h:=h5 y C d hd p J g
       ·exact .inl (P p h)
       ·rcases(j p).1 h with h|rfl
        ·exact .inr (.inl h)
        ·exact .inl ((R.2 _).2 (.inr rfl))
      ·rw[hf]at hd;cases hd;exact .inr (.inr J)
  ·have J:g=0:=by simpa using J
   subst J;refine⟨Ω,λx hx g=>?_,λx hx c hc p J g=>?_⟩
   ·obtain h|h:=h4 x hx g
    ·exact h
    ·simp at h
   ·obtain h|h:=h5 x hx c hc p J g
    ·exact h
    ·simp at h
def Few (l:List Com):Prop:=l.length≤20∧∀c∈l,c.2.1.length≤4
def SQ:∀(l:List Com),(∀c∈l,c.2.1.length≤4)→∀out,aC l out≤4*l.length
 |[],_,_=>ζ _
 |c::l,h,out=>by have:=SQ l (λd f=>h d (X' _ f)) out;have:=h c (e_ ..);simp[aC];split <;> omega
def Gy (l:List Com)(f:List Int)(j:Few l)(p:f.length≤1000):Tot (oa l f) λr=>r.length≤2000∧abQ l f r:=by simp only[oa,Ly,tt,List.take_nil,s_,b_];have J:=SQ l j.2 [];have C:=j.1;refine⟨eo Ω,vH l f 2000 Ω Ω FU [] f.length f Ω (by rw[bq];omega) Ξ (λx g _=>.inr (by simpa using g)) (λx g=>by cases g)⟩
def Po (l:List Com)(a b:Int)(f:Few l):Tot (mH l a b) λ_=>True:=by simp[mH,vG,tt];have h:=Gy l [b] f Ψ;exact⟨ap λ_=>h.some,ap λ_=>vi _ _ (ajO (h.getD []).1 Ω)⟩
def Br (l:List Com)(f:List Int)(R:Few l)(p:f.length≤1000)(k:b7 (List Int))(out:List Int)(i:Int)(P:0≤i)(J:i<f.length)(U:out.length≤i)(C:∀out:List Int,out.length≤i+1→Tot (k l f out (i+1)) λr=>r.length≤f.length):∀(n:Nat) (ok:Bool) (j:Int),0≤j→j≤f.length→f.length-j<n→Tot (oY k n l f out i ok j) λr=>r.length≤f.length
 |0,ok,j,T,h3,h=>Ω
 |n+1,ok,j,T,h3,h=>by
  show Tot (sq false some (oY k n) k l f out i ok j) _;simp only[sq,o7,pa,tt,il];rw[ar (n:=i+1) Ω Ω];refine⟨λg=>?_,λ_=>⟨λ_=>⟨aD P J,(Nc out _ Ω).mono λr hr=>C r Ω⟩,λ_=>C out Ω⟩⟩;have g:j<f.length:=by simp at g;exact g.2
  rw[ar (n:=j+1) Ω Ω];have r:=λok=>Br l f R p k out i P J U C n ok (j+1) Ω Ω Ω;exact⟨aD P J,aD T g,(Po l _ _ R).mono λ_ _=>⟨λ_=>r _,λ_=>r _⟩⟩
def Bu (l:List Com)(f:List Int)(p:Few l)(g:f.length≤1000):∀(n:Nat) (out:List Int) (i:Int),0≤i→i≤f.length→out.length≤i→f.length-i<n→Tot (uv n l f out i) λr=>r.length≤f.length
 |0,out,i,C,P,J,h=>Ω
 |n+1,out,i,C,P,J,h=>by
  show Tot (sr false some (oY (uv n) FU) l f out i) _;simp only[sr,tt,il];refine⟨λj=>?_,λ_=>Ω⟩;have j:i<f.length:=by simpa using j
  refine⟨aD C j,_,IG l _ (by have:=p.1;omega), ?_⟩;exact Br l f p g _ out i C j J (λout R=>Bu l f p g n out (i+1) Ω Ω Ω Ω) FU _ 0 Ω Ω (by rw[bq];omega)
def UF (l:List Com)(f:List Int)(j:Few l)(g:f.length≤1000):Tot (su l f) λr=>r.length≤f.length:=by simp[su,Ct];exact Bu l f j g FU [] 0 Ω Ω Ψ (by rw[bq];omega)
def zp (l:List Com)(p:Few l)(k:dF (List Int))(out:List Int)(i:Int)(P:0≤i)(J:i<l.length)(R:out.length≤i)(g:∀out:List Int,out.length≤i+1→Tot (k l out (i+1)) λr=>r.length≤l.length):∀(n:Nat) (head:Bool) (j:Int),0≤j→j≤l.length→l.length-j<n→Tot (mc k n l out i head j) λr=>r.length≤l.length
 |0,ok,j,C,T,h=>Ω
 |n+1,ok,j,C,T,h=>by
  show Tot (pO false some (mc k n) k l out i ok j) _;have:=p.1;simp only[pO,kR,tt,il];rw[ar (n:=i+1) Ω Ω,ar (n:=j+1) Ω Ω];refine⟨λf=>?_,λ_=>⟨λ_=>⟨aD P J,by simp[lm,LIM];omega,g _ Ξ⟩,λ_=>g out Ω⟩⟩;have f:j<l.length:=by simpa using f
  refine⟨ap λ_=>aD C f,ap λ_=>aD P J,ap λ_=>vi _ _ ?_,zp l p k out i P J R g n _ (j+1) Ω Ω Ω⟩;have:=p.2 _ (gj (t:=tCommit) C f);omega
def zq (l:List Com)(g:Few l):∀(n:Nat) (out:List Int) (i:Int),0≤i→i≤l.length→out.length≤i→l.length-i<n→Tot (rm n l out i) λr=>r.length≤l.length
 |0,out,i,p,C,j,h=>Ω
 |n+1,out,i,p,C,j,h=>by
  show Tot (pP false some (mc (rm n) FU) l out i) _;have:=g.1;simp[pP,tt,il];refine⟨λf=>?_,λ_=>Ω⟩;have f:i<l.length:=by simpa using f
  exact zp l g _ out i p f j (λout J=>zq l g n out (i+1) Ω Ω Ω Ω) FU _ 0 Ω Ω (by rw[bq];omega)
def Rz (l:List Com)(f:Few l):Tot (pQ l) λr=>r.length≤l.length:=by have:=f.1;simp[pQ,zo];exact zq l f FU [] 0 Ω Ω Ψ (by rw[bq];omega)
def tY (s:Sta)(id f:Int):iy s id f=[]∨∃x∈s.1,x.1=id∧x.2.1=f∧x.2.2.1=iy s id f:=by
 unfold iy;cases g:mG s id f with
 |nil=>exact .inl rfl
 |cons x r=>
  simp only;split
  next h=>refine .inr ⟨x, ?_,h.1,h.2,rfl⟩;rw[Cv s id f,g];simp
  ·exact .inl rfl
def ace (T:s.1.Pairwise jO)(id f:Int){l:List Alt}(hne:l≠[]):(ot s id f l).1.Pairwise jO∧(ot s id f l).1.length≤s.1.length+1∧∀x∈(ot s id f l).1,(x∈s.1∧¬(x.1=id∧x.2.1=f))∨x=(id,f,l,()):=by
 have hs:=Cv s id f;have hp:∀x∈before s id f,ahd x.1 x.2.1 id f=true:=vY _ _;have hh:∀x r,mG s id f=x::r→ahd x.1 x.2.1 id f=false:=tR _ _;have he:l.isEmpty=false:=by cases l with|nil=>exact absurd rfl hne|cons _ _=>rfl
 have C:=T;rw[hs,y_]at C;have R:∀P,P.Pairwise jO→(∀y∈P,y∈s.1∧ahd id f y.1 y.2.1=true)→(before s id f).length+P.length≤s.1.length→(before s id f++[(id,f,l,())]++P).Pairwise jO∧(before s id f++[(id,f,l,())]++P).length≤s.1.length+1∧∀x∈before s id f++[(id,f,l,())]++P,(x∈s.1∧¬(x.1=id∧x.2.1=f))∨x=(id,f,l,()):=by
  intro P k2 U k5;refine⟨?_,by simp;omega,λx j=>?_⟩
  ·rw[D_,y_];refine⟨C.1, ?_,λx j y g=>?_⟩
   ·rw[List.singleton_append,n_];exact⟨λy g=>(U y g).2,k2⟩
   ·obtain g|g:=I'.1 g
    ·rw[J'.1 g];exact hp x j
    ·exact kW (hp x j) (U y g).2
  ·simp only[I',J']at j;rcases j with(j|j)|j
   ·refine .inl ⟨by rw[hs];exact J_ _ j,λe=>?_⟩;have:=hp x j;rw[e.1,e.2,rG]at this;omega
   ·exact .inr j
   ·refine .inl ⟨(U x j).1,λe=>?_⟩;have:=(U x j).2;rw[e.1,e.2,rG]at this;omega
 have p:(before s id f).length+(mG s id f).length=s.1.length:=by rw[←List.length_append,←hs]
 unfold ot;simp only[he,ajo,ajF];cases hq:mG s id f with
 |nil=>exact R [] List.Pairwise.nil (λy g=>by cases g) (by rw[hq]at p;simpa using Nat.le_of_eq p)
 |cons x r=>
  rw[hq]at C p;have j:=hh x r hq;have J:∀y∈x::r,y∈s.1:=λy g=>by rw[hs,hq];exact Z? _ g
  have hr:=n_.1 C.2.1;by_cases e:x.1=id∧x.2.1=f
  ·simp only[WF,E' e];refine R r hr.2 (λy g=>⟨J y (X' _ g), ?_⟩) (by simp at p;omega);have:=hr.1 y g;unfold jO at this;rwa[e.1,e.2]at this
  ·simp only[WF,Θ e];have h1:ahd id f x.1 x.2.1=true:=Ug j e;refine R (x::r) C.2.1 (λy g=>⟨J y g, ?_⟩) Ω;obtain rfl|g:=K'.1 g
   ·exact h1
   ·exact kW h1 (hr.1 y g)
def Alv (T:List Com)(C:List (List Int))(g:Int)(id f:Int):Prop:=∀j<T.length,¬(T.getD j (zero tCommit)).1=g→Wr (ws (T.getD j (zero tCommit))) id f→¬g∈C.getD j []
structure StI (T:List Com)(C:List (List Int))(N:Nat)(s:List Slt):Prop where
 asc:s.Pairwise jO
 len:s.length≤N
 alts:∀x∈s,x.2.2.1≠[]∧x.2.2.1.length≤N
 srt:∀x∈s,x.2.2.1.Pairwise λa b=>a.1<b.1
 txt:∀x∈s,∀a∈x.2.2.1,TxV a.2.1
 src:∀x∈s,∀a∈x.2.2.1,∃c∈T,c.1=a.1∧Wr (ws c) x.1 x.2.1∧Alv T C c.1 x.1 x.2.1
def StI.mono {j :Nat}{s:List Slt}(h:StI T C N s)(g:N≤j):StI T C j s :=
 ⟨h.asc,ν h.len g,λx f=>⟨(h.alts x f).1,ν (h.alts x f).2 g⟩,h.srt,h.txt,h.src⟩
def StI.place {s:List Slt}(h:StI T C N s)(g:N≤1000000)(id f:Int):cj (s,()) id f=true:=by unfold cj aeG;rw[ι];have:=h.len;exact⟨e? (show s.length≤1048576 by omega),e? h.asc⟩
def StI.stg {s:List Slt}(h:StI T C N s)(j:N≤1000000):stG (s,())=true:=by unfold stG adl;rw[ι];have:=h.len;refine⟨e? (show s.length≤1048576 by omega),Z'.2 λx f=>?_⟩;have:=h.alts x f;rw[ι];refine⟨by cases g:x.2.2.1 with|nil=>exact absurd g this.1|cons _ _=>rfl,e? Ω⟩
structure Rep0 (T:List Com)(C:List (List Int)):Prop where
 few:T.length≤20
 asc:T.Pairwise λa b=>a.1<b.1
 ord:∀c∈T,oP (ws c)
 txt:∀c∈T,∀x∈ws c,TxC x
 wl:∀c∈T,(ws c).length<1000000
 ab:C.length=T.length
 al:∀r∈C,r.length<1000000
def acB {f wr:List Cel}{w:Cel}(h:oP (f++w::wr)):¬Wr f w.1 w.2.1:=by rintro⟨c,g,l,j⟩;have:=(y_.1 h).2.2 c g w (e_ ..);rw[l,j,rG]at this;omega
def M4 {T:List Com}{C:List (List Int)}(h0:Rep0 T C){P R:List Com}{c:Com}(hT:T=P++c::R){wp wr:List Cel}{w:Cel}(hw:ws c=wp++w::wr)(k0:bF Sta)(k:bU Sta)(Q:Sta→Prop)(N:Nat)(hN:N≤500000)(b:List Slt)(p:StI T C N b)
  (r:∀x∈b,∀a∈x.2.2.1,a.1≤c.1∧(a.1=c.1→Wr wp x.1 x.2.1))
  (hk:∀b',StI T C (N+1) b'→(∀x∈b',∀a∈x.2.2.1,a.1≤c.1∧(a.1=c.1→Wr (wp++[w]) x.1 x.2.1))→Tot (k T C P.length ((wp.length:Int)+1) b') Q) :
  ∀(n:Nat) (al:Bool) (j:Nat),j≤T.length→T.length-j<n→(al=true→∀j'<j,¬(T.getD j' (zero tCommit)).1=c.1→Wr (ws (T.getD j' (zero tCommit))) w.1 w.2.1→¬c.1∈C.getD j' [])→Tot (gZ k0 k n T C P.length wp.length b al j) Q
 |0,al,j,h1,h2,h3=>Ω
 |n+1,al,j,h1,h2,h3=>by
  show Tot (jo false some (gZ k0 k n) k T C P.length wp.length b al j) _;have hPi:(P.length:Int)<T.length:=by rw[hT];simp;omega
  have ec:ix tCommit T (P.length:Int)=c:=by rw[hT];exact gi (t:=tCommit) P c R
  have ew:ix aa c.2.2.2.2.1 (wp.length:Int)=w:=by show ix aa (ws c) _=w;rw[hw];exact gi (t:=aa) wp w wr
  have hwl:(ws c).length<1000000:=h0.wl c (by rw[hT];simp);have hwp:wp.length<1000000:=by rw[hw]at hwl;simp at hwl;omega
  have hfew:=h0.few;simp only[jo,du,tt,il,s_];rw[ec,ew,ar (n:=(wp.length:Int)+1) Ω Ω,ar (n:=(j:Int)+1) Ω Ω];refine⟨λhj=>?_,λhj=>⟨λf=>?_,λ_=>?_⟩⟩
  ·have hja:j<T.length∧al=true:=by
    simp at hj;exact⟨Ω,hj.2⟩
   have hjt:(j:Int)<T.length:=Ω
   have hjn:=hja.1;have etj:ix tCommit T (j:Int)=T.getD j (zero tCommit):=rfl;have eaj:ix (.slice tInt) C (j:Int)=C.getD j []:=rfl;have hmem:T.getD j (zero tCommit)∈T:=gj (t:=tCommit) Ω hjt;have hwr:=GJ (T.getD j (zero tCommit)) w.1 w.2.1 (h0.wl _ hmem);have hal:(C.getD j []).length<1000000:=h0.al _ (by rw[χ,ε (by rw[h0.ab];exact hjn)];exact c_ _);rw[etj,eaj,Oj _ _ hal];have hG:Da (T.getD j (zero tCommit)) w.1 w.2.1=true:=hwr.some;have hF:eI (T.getD j (zero tCommit)) w.1 w.2.1=true↔Wr (ws (T.getD j (zero tCommit))) w.1 w.2.1:=hwr.getD (zero .bool);refine⟨ap λ_=>aD Ω hjt,ap λ_=>hG,ap λ_=>aD Ω (by rw[h0.ab];omega),ap λ_=>aD Ω hPi,ap λ_=>vi _ _ hal, ?_⟩;refine M4 h0 hT hw k0 k Q N hN b p r hk n _ (j+1) Ω Ω λf j' hj' hne hW=>?_;by_cases e:j'=j
   ·subst e;have hji:¬(j':Int)=P.length:=λe=>hne (by rw[←etj,e,ec]);rw[hF.2 hW]at f;simpa[hji]using f
   ·exact h3 hja.2 j' Ω hne hW
  ·subst f;have hjl:T.length≤j:=by
    by_cases e:j<T.length
    ·simp[show(j:Int)<T.length by omega]at hj
    ·omega
   have halv:Alv T C c.1 w.1 w.2.1:=λj' hj'=>h3 rfl j' Ω;have hpl:=p.place Ω w.1 w.2.1;have hlenA:(iy (b,()) w.1 w.2.1).length≤N:=by
    rcases tY (b,()) w.1 w.2.1 with e|⟨x,g,_,_,e⟩
    ·rw[e];simp
    ·rw[←e];exact(p.alts x g).2
   have hlt:∀a∈iy (b,()) w.1 w.2.1,a.1<c.1:=λa f=>by
    rcases tY (b,()) w.1 w.2.1 with e|⟨x,g,e1,e2,e⟩
    ·rw[e]at f;cases f
    ·rw[←e]at f;have h1:=r x g a f;by_cases h2:a.1=c.1
     ·have:=h1.2 h2;rw[e1,e2]at this;exact absurd this (acB (hw ▸ h0.ord c (by rw[hT];simp)))
     ·exact Int.lt_iff_le_and_ne.2 ⟨h1.1,h2⟩
   have J:=ace p.asc w.1 w.2.1 (s:=(b,())) (l:=iy (b,()) w.1 w.2.1++[(c.1,w.2.2.1,())]) Ψ;have U:∀x∈(ot (b,()) w.1 w.2.1 (iy (b,()) w.1 w.2.1++[(c.1,w.2.2.1,())])).1,x∈b∨x=(w.1,w.2.1,iy (b,()) w.1 w.2.1++[(c.1,w.2.2.1,())],()):=λx g=>(J.2.2 x g).imp (·.1) id;have hold:∀a∈iy (b,()) w.1 w.2.1,∃x∈b,x.1=w.1∧x.2.1=w.2.1∧a∈x.2.2.1:=λa f=>by
    rcases tY (b,()) w.1 w.2.1 with e|⟨x,g,e1,e2,e⟩
    ·rw[e]at f;cases f
    ·exact⟨x,g,e1,e2,e ▸ f⟩
   refine⟨hpl,eo Ξ,aD Ω hPi,eo Ξ,hpl,hk _ ⟨J.1,ν J.2.1 (by have:=p.len;simp;omega),λx g=>?_,λx g=>?_,λx g a f=>?_,λx g a f=>?_⟩ λx g a f=>?_⟩
   ·obtain g|rfl:=U x g
    ·exact⟨(p.alts x g).1,Nat.le_succ_of_le (p.alts x g).2⟩
    ·exact⟨Ψ,by simp;omega⟩
   ·obtain g|rfl:=U x g
    ·exact p.srt x g
    ·show(iy (b,()) w.1 w.2.1++[(c.1,w.2.2.1,())]).Pairwise _;rw[y_];refine⟨?_,Ψ,λa f d hd=>?_⟩
     ·rcases tY (b,()) w.1 w.2.1 with e|⟨x,g,e1,e2,e⟩
      ·rw[e];exact List.Pairwise.nil
      ·rw[←e];exact p.srt x g
     ·rw[J'.1 hd];exact hlt a f
   ·obtain g|rfl:=U x g
    ·exact p.txt x g a f
    ·obtain f|f:=I'.1 f
     ·obtain⟨y,hy,_,_,h⟩:=hold a f;exact p.txt y hy a h
     ·rw[J'.1 f];exact h0.txt c (by rw[hT];simp) w (by rw[hw];simp)
   ·obtain g|rfl:=U x g
    ·exact p.src x g a f
    ·obtain f|f:=I'.1 f
     ·obtain⟨y,hy,e1,e2,h⟩:=hold a f;have:=p.src y hy a h;rwa[e1,e2]at this
     ·rw[J'.1 f];exact⟨c,by rw[hT];simp,rfl,⟨w,by rw[hw];simp,rfl,rfl⟩,halv⟩
   ·obtain g|rfl:=U x g
    ·have:=r x g a f;refine⟨this.1,λe=>?_⟩;obtain⟨d,hd,h⟩:=this.2 e;exact⟨d,J_ _ hd,h⟩
    ·obtain f|f:=I'.1 f
     ·have:=hlt a f;exact⟨akp this,λe=>absurd e (Int.ne_of_lt this)⟩
     ·rw[J'.1 f];exact⟨Int.le_refl _,λ_=>⟨w,Ψ,rfl,rfl⟩⟩
  ·exact hk b (p.mono Ω) λx g a f=>⟨(r x g a f).1,λe=>by
    obtain⟨d,hd,h⟩:=(r x g a f).2 e;exact⟨d,J_ _ hd,h⟩⟩
def cr:List Com→Nat
 |[]=>0
 |c::l=>(ws c).length+cr l
def dn (a b:List Com):cr (a++b)=cr a+cr b:=by
 induction a with
 |nil=>simp[cr]
 |cons c a f=>simp[cr,f];omega
def M5 {T:List Com}{C:List (List Int)}(J:Rep0 T C){P R:List Com}{c:Com}(j:T=P++c::R)(g:bF Sta)(Q:Sta→Prop)(M:Nat)(hM:M≤500000)(hk:∀p,StI T C M p→(∀x∈p,∀a∈x.2.2.1,a.1≤c.1)→Tot (g T C ((P.length:Int)+1) p) Q) :
  ∀(n:Nat) (wr f:List Cel) (N:Nat) (b:List Slt),ws c=f++wr→wr.length<n→N+wr.length≤M→StI T C N b→(∀x∈b,∀a∈x.2.2.1,a.1≤c.1∧(a.1=c.1→Wr f x.1 x.2.1))→Tot (g8 g n T C P.length f.length b) Q
 |0,wr,f,N,b,r,h2,h3,h4,h5=>Ω
 |n+1,wr,f,N,b,r,h2,h3,h4,h5=>by
  show Tot (jp false some (gZ g (g8 g n) FU) g T C P.length f.length b) _;have hfew:=J.few;have l:(P.length:Int)<T.length:=by rw[j];simp;omega
  have ec:ix tCommit T (P.length:Int)=c:=by rw[j];exact gi (t:=tCommit) P c R
  have hwl:(ws c).length<1000000:=J.wl c (by rw[j];simp);simp only[jp,tt,il];rw[ec,ar (n:=(P.length:Int)+1) Ω Ω];show bd _ _=true∧(decide ((f.length:Int)<((ws c).length:Int))=true→bd _ _=true∧bd (f.length:Int) (ws c).length=true∧_)∧(decide ((f.length:Int)<((ws c).length:Int))=false→_);refine⟨aD Ω l,λh=>⟨aD Ω l,aD Ω (by simpa using h), ?_⟩,λ_=>hk b (h4.mono Ω) λx hx a ha=>(h5 x hx a ha).1⟩;cases wr with
  |nil=>rw[r]at h;simp at h
  |cons w wr =>refine M4 J j r g _ Q N Ω b h4 h5 (λp hb' U=>?_) FU true 0 Ω (by rw[bq];omega) (λ_ j' hj'=>Ω);have:=M5 J j g Q M hM hk n wr (f++[w]) (N+1) p (by rw[r];simp) (by simp at h2;omega) (by simp at h3;omega) hb' U;simpa using this
def M6 {T:List Com}{C:List (List Int)}(j:Rep0 T C)(hM:cr T≤500000):∀(n:Nat) (R P:List Com) (b:List Slt),T=P++R→R.length<n→StI T C (cr P) b→(∀x∈b,∀a∈x.2.2.1,∀d∈R,a.1<d.1)→Tot (g9 n T C P.length b) λs=>StI T C (cr T) s.1
 |0,R,P,b,g,h2,h3,h4=>Ω
 |n+1,R,P,b,g,h2,h3,h4=>by
  show Tot (jq false some (g8 (g9 n) FU) T C P.length b) _;have p:cr P+cr R=cr T:=by rw[g,dn]
  simp[jq,tt,il];refine⟨λh=>?_,λ_=>h3.mono Ω⟩;cases R with
  |nil=>rw[g]at h;simp at h
  |cons c R=>
   simp[cr]at p;have hwl:(ws c).length<1000000:=j.wl c (by rw[g];simp);have f:=j.asc;rw[g,y_]at f;have J:=(n_.1 f.2.1).1;refine M5 j g _ _ (cr P+(ws c).length) Ω (λb' U r=>?_) FU (ws c) [] (cr P) b rfl (by rw[bq];omega) Ω h3 λx l a ha=>?_
   ·have:=M6 j hM n R (P++[c]) b' (by rw[g];simp) (by simp at h2;omega) (by rw[dn];simpa[cr]using U) λx l a ha d hd=>Int.lt_of_le_of_lt (r x l a ha) (J d hd);simpa using this
   ·have:=h4 x l a ha c (e_ ..);exact⟨akp this,λe=>absurd e (Int.ne_of_lt this)⟩
def Iz (a b:List J)(d:J){j:Nat}(h:j<a.length):(a++b).getD j d=a.getD j d:=by simp[χ,G' h]
def IA (a:List J)(x d:J):(a++[x]).getD a.length d=x:=by simp[χ]
structure H0 (l:List Com):Prop where
 few:l.length≤20
 asc:l.Pairwise λa b=>a.1<b.1
 par:∀c∈l,c.2.1.length≤4
 ord:∀c∈l,oP (ws c)
 txt:∀c∈l,∀x∈ws c,TxC x
 sum:cr l≤500000
 ids:∀c∈l,∀x∈ws c,IdC x
 pic:∀c∈l,c.2.2.1.length≤4
def H0.isFew (h:H0 l):Few l:=⟨h.few,h.par⟩
def rZ (h:c∈l):(ws c).length≤cr l:=by
 induction l with
 |nil=>cases h
 |cons d l f=>
  simp[cr];obtain rfl|h:=K'.1 h
  ·omega
  ·have:=f h;omega
def AtP (l:List Com)(s:Sta):Prop:=∃T C,(∀c∈T,c∈l)∧(∀j<T.length,abQ l [(T.getD j (zero tCommit)).1] (C.getD j []))∧StI T C (cr l) s.1
def SR (l:List Com)(hl:H0 l)(only:List Int)(ho:only.length<1000000):∀(n:Nat) (R P T:List Com) (C:List (List Int)),l=P++R→R.length<n→(∀c∈T,c∈P)→(T.Pairwise λa b=>a.1<b.1)→T.length≤P.length→cr T≤cr P→C.length=T.length→(∀j<T.length,abQ l [(T.getD j (zero tCommit)).1] (C.getD j []))→(∀r∈C,r.length<1000000)→Tot (jn n l only T C P.length) (AtP l)
 |0,R,P,T,C,p,h2,_,_,_,_,_,_,_=>Ω
 |n+1,R,P,T,C,p,h2,h3,h4,h5,h6,h7,h8,h9=>by
  show Tot (lL false some (jn n) (g9 FU) l only T C P.length) _;have J:=hl.few;have hws:cr P+cr R=cr l:=by rw[p,dn]
  have hsum:=hl.sum;have hP:P.length≤20:=by rw[p]at J;simp at J;omega
  simp only[lL,eV,tt,il];rw[ar (n:=(P.length:Int)+1) Ω Ω];refine⟨λh=>?_,λ_=>?_⟩
  ·cases R with
   |nil=>rw[p]at h;simp at h
   |cons c R=>
    have hPl:(P.length:Int)<l.length:=by simpa using h
    have ec:ix tCommit l (P.length:Int)=c:=by rw[p];exact gi (t:=tCommit) P c R
    have hcl:c∈l:=by rw[p];simp
    have U:=hl.asc;rw[p,y_]at U;have next:∀(T:List Com) (C:List (List Int)),(∀c'∈T,c'∈P++[c])→(T.Pairwise λa b=>a.1<b.1)→T.length≤P.length+1→cr T≤cr (P++[c])→C.length=T.length→(∀j<T.length,abQ l [(T.getD j (zero tCommit)).1] (C.getD j []))→(∀r∈C,r.length<1000000)→Tot (jn n l only T C ((P.length:Int)+1)) (AtP l):=λT C a1 a2 a3 a4 a5 a6 a7=>by have:=SR l hl only ho n R (P++[c]) T C (by rw[p];simp) (by simp at h2;omega) a1 a2 (by simpa using a3) a4 a5 a6 a7;simpa using this
    rw[ec];refine⟨aD Ω hPl,_,CS only _ ho,λ_=>⟨aD Ω hPl,eo Ξ,aD Ω hPl,(Gy l [c.1] hl.isFew Ψ).mono λr hr=>⟨eo Ξ,next _ _ (λd hd=>?_) ?_ Ξ (by rw[dn,dn];simp[cr];omega) Ξ (λj hj=>?_) (λr' hr'=>?_)⟩⟩,λ_=>next T C (λd hd=>J_ _ (h3 d hd)) h4 Ω (by rw[dn];omega) h7 h8 h9⟩
    ·obtain hd|hd:=I'.1 hd
     ·exact J_ _ (h3 d hd)
     ·exact Z? _ hd
    ·rw[y_];exact⟨h4,Ψ,λa ha b hb=>U.2.2 a (h3 a ha) b (by rw[J'.1 hb];simp)⟩
    ·by_cases e:j<T.length
     ·rw[Iz _ _ _ e,Iz _ _ _ Ω];exact h8 j e
     ·have e:j=T.length:=by simp at hj;omega
      subst e;rw[IA,←h7,IA];exact hr.2
    ·obtain h|h:=I'.1 hr'
     ·exact h9 r' h
     ·rw[J'.1 h];have:=hr.1;omega
  ·have g:∀c∈T,c∈l:=λc hc=>by rw[p];exact J_ _ (h3 c hc)
   have h0:Rep0 T C:=⟨Ω,h4,λc hc=>hl.ord c (g c hc),λc hc=>hl.txt c (g c hc),λc hc=>by have:=rZ (g c hc);omega,h7,h9⟩;exact(M6 h0 Ω FU T [] [] rfl (by rw[bq];omega) ⟨List.Pairwise.nil,Ψ,λx f=>(by cases f),λx f=>(by cases f),λx f=>(by cases f),λx f=>(by cases f)⟩ λx f=>by cases f).mono λs hs=>⟨T,C,g,h8,hs.mono Ω⟩
def M0 (l:List Com)(f:H0 l)(only:List Int)(p:only.length<1000000):Tot (lM l only) (AtP l):=by
 have:=f.few;simp[lM,uJ];exact SR l f only p FU l [] [] [] rfl (by rw[bq];omega) (λc J=>by cases J) List.Pairwise.nil Ψ (by simp[cr]) rfl (λj C=>by simp at C) λr g=>by cases g
def Jb (l:List Com)(g:H0 l)(f:List Int)(p:f.length≤1000):Tot (pZ l f) (AtP l):=by simp[pZ,C1,tt];exact(Gy l f g.isFew p).mono λr j=>(M0 l g r (by have:=j.1;omega)).mono λ_ h=>h
def T7 (l:List Com)(f:H0 l):Tot (Bg l) (AtP l):=by have:=f.few;simp[Bg,T8,vg,zr,tt];exact(Rz l f.isFew).mono λr g=>(Jb l f r Ω).mono λ_ h=>h
def bH (x n:Int)(g:1≤n)(f:n≤4000000000):Tot (mod2_ev x n) λr=>0≤r∧r<n:=by
 simp only[mod2_ev,KC,tt];have l:=aiX x (show 0<n by omega);have j : -n<x.tmod n:=by have:=aiX (-x) (show 0<n by omega);rw[Int.neg_tmod]at this;omega
 refine⟨λh=>by simp at h;omega,λ_=>⟨by simp;omega,by simp;omega, ?_⟩⟩;rw[ar Ω Ω];exact⟨Int.tmod_nonneg _ Ω,aiX _ Ω⟩
def gE (l:List Int)(x:Int)(g:l.length<1000000):Tot (ba l x) λr=>r=0∨r∈l:=by
 simp only[ba,CC,tt,il];refine⟨λ_=>.inl trivial,λh=>?_⟩;have h:¬(l.length:Int)=0:=by simpa using h
 exact(bH x l.length Ω Ω).mono λr f=>⟨aD f.1 f.2,.inr (gj (t:=tInt) f.1 f.2)⟩
def Sh (s:Str):Prop:=s.length<1000
def uj (k x:Int):Tot (jc k x) Sh:=by simp[jc,Cr,tt];refine(bH x 5 Ω Ω).mono λr _=>?_;simp[Sh]
def Mk (x:Int):Tot (ly x) Sh:=by simp[ly,ut,tt];refine(bH x 5 Ω Ω).mono λr _=>?_;simp[Sh]
def Fh (x:Int):Tot (ra x) Sh:=by simp only[ra,KK,tt];exact(bH x 26 Ω Ω).mono λr _=>⟨by decide,(bH _ 25 Ω Ω).mono λr _=>by simp[Sh]⟩
structure St1 (s:Sta):Prop where
 asc:s.1.Pairwise jO
 len:s.1.length<1000000
 alts:∀x∈s.1,x.2.2.1≠[]∧x.2.2.1.length<1000000
 txt:∀x∈s.1,∀a∈x.2.2.1,TxV a.2.1
def AtP.st1 (h:AtP l s)(g:H0 l):St1 s:=by obtain⟨T,C,_,_,h⟩:=h;have:=g.sum;exact⟨h.asc,by have:=h.len;omega,λx f=>⟨(h.alts x f).1,by have:=(h.alts x f).2;omega⟩,h.txt⟩
def St1.place (h:St1 s)(id f:Int):cj s id f=true:=by unfold cj aeG;rw[ι];have:=h.len;exact⟨e? Ω,e? h.asc⟩
def St1.stg (h:St1 s):stG s=true:=by unfold stG adl;rw[ι];have:=h.len;refine⟨e? Ω,Z'.2 λx f=>?_⟩;have:=h.alts x f;rw[ι];refine⟨by cases g:x.2.2.1 with|nil=>exact absurd g this.1|cons _ _=>rfl,e? Ω⟩
def Xn:TxV (0,false,[],0,()):=by simp[TxV]
def Vg (h:St1 s)(id f:Int):Tot (fM s id f) TxV:=by
 simp only[fM,CA,tt,il];refine⟨h.place id f,λ_=>Xn,λg=>?_⟩;have g:¬((iy s id f).length:Int)=0:=by simpa using g
 refine⟨aD Ω Ω, ?_⟩;obtain e|⟨x,j,_,_,e⟩:=tY s id f
 ·rw[e]at g;simp at g
 ·exact h.txt x j _ (by rw[e];exact gj (t:=eL) Ω Ω)
def Y9 (h:St1 s):(∀c∈(eX s).1,TxC c∧∃x∈s.1,x.1=c.1∧x.2.1=c.2.1)∧(eX s).1.length≤s.1.length:=by
 refine⟨λc g=>?_,VG s⟩;simp only[eX,r_,z_]at g;obtain⟨x,⟨f,_⟩,rfl⟩:=g;refine⟨?_,x,f,rfl,rfl⟩;show TxV (tM x);unfold tM;cases j:x.2.2.1 with
 |nil=>exact Xn
 |cons a r=>exact h.txt x f a (by rw[j];simp)
def mw {s:Sta}(h:St1 s)(f:Int):∀(n:Nat) (out:List Int) (i:Int),0≤i→i≤s.1.length→out.length≤i→s.1.length-i<n→Tot (dZ n f s out i) λr=>r.length≤s.1.length
 |0,out,i,j,C,p,l=>Ω
 |n+1,out,i,j,C,p,l=>by
  show Tot (dH false some (dZ n) f s out i) _;have J:=h.len;simp only[dH,fx,tt,il];refine⟨λg=>?_,λ_=>Ω⟩;have g:i<s.1.length:=by simpa using g
  rw[ar (n:=i+1) Ω Ω];exact⟨aD j g,ap λ_=>aD j g,ap λ_=>(pH s _ (h.place _ 1)).some,ap λ_=>by simp[aK],λ_=>⟨aD j g,eo Ξ,mw h f n _ _ Ω Ω Ξ Ω⟩,λ_=>mw h f n _ _ Ω Ω Ω Ω⟩
def cX (h:St1 s)(f:Int):Tot (aE s f) λr=>r.length≤s.1.length:=by have g:=h.len;simp[aE,jG];exact mw h f FU [] 0 Ω Ω Ψ (by rw[bq];omega)
def ML (v:Val)(h:St1 s)(x:Int):Tot (eQ v s x) TxV:=by
 have l:=h.len;have ent:=λk (Q:Int→Prop) (y:Int) (j:∀r,Q r)=>(cX h k).mono λr g=>(gE r y Ω).mono λr _=>j r;simp only[eQ,uD,tt];refine⟨λ_=>(bH x 4 Ω Ω).mono λr _=>⟨λ_=>by simp[TxV],λ_=>⟨λ_=>by simp[TxV],λ_=>⟨λ_=>⟨by decide,(uj _ _).mono λt f=>f⟩,λ_=>?_⟩⟩⟩,λ_=>⟨λ_=>(bH x 2 Ω Ω).mono λr _=>⟨λ_=>by simp[TxV],λ_=>by simp[TxV]⟩,λ_=>⟨λ_=>(uj _ _).mono λt f=>f,λ_=>(bH x 6 Ω Ω).mono λr _=>⟨λ_=>by simp[TxV],λ_=>⟨λ_=>by simp[TxV],λ_=>⟨λ_=>?_,λ_=>⟨λ_=>?_,λ_=>⟨λ_=>by simp[TxV],λ_=>by simp[TxV]⟩⟩⟩⟩⟩⟩⟩⟩
 ·exact(cX h 3).mono λr g=>⟨by decide,(gE r _ Ω).mono λr _=>⟨λ_=>by simp[TxV],λ_=>by simp[TxV]⟩⟩
 ·exact(cX h 4).mono λr g=>⟨by decide,(gE r _ Ω).mono λr _=>⟨λ_=>by simp[TxV],λ_=>by simp[TxV]⟩⟩
 ·exact(cX h 2).mono λr g=>⟨by decide,(gE r _ Ω).mono λr _=>⟨λ_=>⟨by decide,(bH _ 3 Ω Ω).mono λ_ _=>by simp[TxV]⟩,λ_=>by simp[TxV]⟩⟩
def S3 {out:List Cel}{f t j:Nat}{c:Cel}(ho:f≤out.length)(R:oP (out.take f))(ht:t≤f)(p:0<t→ahd (out.getD (t-1) (zero aa)).1 (out.getD (t-1) (zero aa)).2.1 c.1 c.2.1=true)
  (r:∀k,t≤k→k<f→ahd (out.getD k (zero aa)).1 (out.getD k (zero aa)).2.1 c.1 c.2.1=false)
  (hj:(j=t∧¬(t<f∧(out.getD t (zero aa)).1=c.1∧(out.getD t (zero aa)).2.1=c.2.1))∨(j=t+1∧t<f∧(out.getD t (zero aa)).1=c.1∧(out.getD t (zero aa)).2.1=c.2.1)) :
  oP (out.take t++[c]++(out.take f).drop j):=by
 have gd:∀k,k<f→∀h:k<(out.take f).length,(out.take f)[k]=out.getD k (zero aa):=λk J h=>by rw[List.getElem_take,χ,ε Ω];rfl
 have lt:∀a b,a<b→b<f→ahd (out.getD a (zero aa)).1 (out.getD a (zero aa)).2.1 (out.getD b (zero aa)).1 (out.getD b (zero aa)).2.1=true:=λa b h1 T=>by
  have hl:(out.take f).length=f:=by simp;omega
  have:=W_.1 R a b Ω Ω h1;rwa[gd a Ω Ω,gd b T Ω]at this
 have e:out.take t=(out.take f).take t:=by rw[ajl];congr 1;omega
 have hl:(out.take f).length=f:=by simp;omega
 rw[e];unfold oP;rw[y_,y_];have p1:∀x∈(out.take f).take t,ahd x.1 x.2.1 c.1 c.2.1=true:=λx l=>by
  obtain⟨k,J,rfl⟩:=aiL.1 l;have g:k<t:=by simp at J;omega
  rw[List.getElem_take,gd k Ω Ω];by_cases P:k=t-1
  ·rw[P];exact p Ω
  ·exact kW (lt k (t-1) Ω Ω) (p Ω)
 have U:∀x∈(out.take f).drop j,ahd c.1 c.2.1 x.1 x.2.1=true:=λx l=>by
  obtain⟨k,J,rfl⟩:=aiL.1 l;have g:j+k<f:=by simp at J;omega
  rw[List.getElem_drop,gd (j+k) g Ω];rcases hj with⟨rfl,hn⟩|⟨rfl,h1,T,h3⟩
  ·refine Ug (r _ Ω g) λh=>?_;by_cases h0:k=0
   ·subst h0;exact hn ⟨g,h⟩
   ·have:=lt j (j+k) Ω g;rw[h.1,h.2,r j Ω Ω]at this;cases this
  ·have:=lt t (t+1+k) Ω g;rwa[T,h3]at this
 refine⟨⟨R.sublist (ajU ..),List.pairwise_singleton ..,λx l y C=>?_⟩,R.sublist (List.drop_sublist ..),λx l y C=>?_⟩
 ·rw[J'.1 C];exact p1 x l
 ·obtain l|l:=I'.1 l
  ·exact kW (p1 x l) (U y C)
  ·rw[J'.1 l];exact U y C
def DN (l:List Cel)(hs:l.length<2000000)(k:ct (List Cel))(i:Int)(P:0≤i)(J:i<l.length)(g:Nat)(out:List Cel)(ho:g≤out.length)(hb:g<2000000)(hm:∀c∈out.take g,c∈l)(hA:oP (out.take g))(Q:List Cel→Prop)
  (hk:∀(C:Nat) (p:List Cel),C≤g+1→C≤p.length→(∀c∈p.take C,c∈l)→oP (p.take C)→Tot (k l C (i+1) p) Q):∀(n:Nat) (t:Int),0≤t→t≤g→t<n→(∀k:Nat,t.toNat≤k→k<g→ahd (out.getD k (zero aa)).1 (out.getD k (zero aa)).2.1 (ix aa l i).1 (ix aa l i).2.1=false)→Tot (jh k n l i g t out) Q
 |0,t,h2,h3,h,_=>Ω
 |n+1,t,h2,h3,h,hge=>by
  show Tot (lB false some (jh k n) k l i g t out) _;have R:∀j:Int,t≤j→j≤g→oP (out.take t.toNat++[ix aa l i]++(out.take g).drop j.toNat)→Tot (eO false some k l i t g j out) Q:=λj hj1 hj2 T=>by
   simp only[eO,lD,tt,b_,s_];rw[ar (n:=i+1) Ω Ω];have e1:(out.take g).length=g:=by simp;omega
   have e2:(out.take t.toNat).length=t.toNat:=by simp;omega
   have e3:List.take (t.toNat+1) (out.take t.toNat++[ix aa l i])=out.take t.toNat++[ix aa l i]:=f? Ξ;simp only[aj2,e1,x_,E?,b_,e3,ni];refine⟨by simp;omega,eo Ω,by simp;omega,aD P J,eo Ω,eo Ω,hk _ _ Ω Ξ (λc f=>?_) (T.sublist (ajU ..))⟩;have f:=I? f;obtain f|f:=I'.1 f
   ·obtain f|f:=I'.1 f
    ·refine hm c ?_;have:out.take t.toNat=(out.take g).take t.toNat:=by rw[ajl];congr 1;omega
     rw[this]at f;exact I? f
    ·rw[J'.1 f];exact gj P J
   ·exact hm c (J? f)
  have hp:t>0→(decide (0≤w64 (t-1))&&decide (w64 (t-1)<(g:Int)))=true:=λh=>by rw[ar Ω Ω];simp;omega
  simp only[lB,tt,ni,b_];refine⟨ap λh=>hp (by simpa using h),ap λh=>hp (by simpa using h),ap λ_=>aD P J,ap λ_=>aD P J,by simp[aK],λf=>?_,λr=>⟨ap λh=>by simp at h;simp;omega,ap λ_=>aD P J,ap λh=>?_,ap λ_=>aD P J,λf=>?_,λU=>?_⟩⟩
  ·rw[vL]at f;have ht:t>0:=by simp at f;exact f.1
   rw[dt ht,O',ar (n:=t-1) Ω Ω,show(t-1).toNat=t.toNat-1 by omega]at f;rw[ar Ω Ω];refine DN l hs k i P J g out ho hb hm hA Q hk n (t-1) Ω Ω Ω λk hk1 hk2=>?_;by_cases he:k=t.toNat-1
   ·subst he;simpa using f
   ·exact hge k Ω hk2
  ·simp at h;simp;omega
  all_goals
   have hlt:0<t.toNat→ahd (out.getD (t.toNat-1) (zero aa)).1 (out.getD (t.toNat-1) (zero aa)).2.1 (ix aa l i).1 (ix aa l i).2.1=true:=λht=>by rw[vL,dt Ω,O',ar (n:=t-1) Ω Ω,show(t-1).toNat=t.toNat-1 by omega]at r;simpa using r
  ·have f:(t<(g:Int)∧(out.getD t.toNat (zero aa)).1=(ix aa l i).1)∧(out.getD t.toNat (zero aa)).2.1=(ix aa l i).2.1:=by simpa only[ajC,ι,ο]using f
   rw[ar Ω Ω];refine R (t+1) Ω Ω (S3 ho hA Ω hlt hge (.inr ⟨Ω,Ω,f.1.2,f.2⟩))
  ·refine R t Ω h3 (S3 ho hA Ω hlt hge (.inl ⟨rfl,λh=>?_⟩));rw[dt Ω,dt h.2.1,dt h.2.2]at U;cases U
def DO (l:List Cel)(J:l.length<2000000):∀(n:Nat) (f:Nat) (i:Int) (out:List Cel),0≤i→i≤l.length→f≤i→f≤out.length→(∀c∈out.take f,c∈l)→oP (out.take f)→l.length-i<n→Tot (np n l f i out) λr=>r.length≤l.length∧(∀c∈r,c∈l)∧oP r
 |0,f,i,out,T,h1,h2,R,C,_,h=>Ω
 |n+1,f,i,out,T,h1,h2,R,C,P,h=>by
  show Tot (lC false some (jh (np n) FU) l f i out) _;simp only[lC,tt,il,ni,aiM];refine⟨λg=>?_,λ_=>⟨by simp;omega,C,P⟩⟩;have g:i<l.length:=by simpa using g
  exact DN l J _ i T g f out R Ω C P _ (λp j a1 a2 a3 a4=>DO l J n p (i+1) j Ω Ω Ω a2 a3 a4 Ω) FU f Ω Ω (by rw[bq];omega) (λk hk1 U=>Ω)
def MD (l:List Cel)(f:l.length<2000000):Tot (lE l) λr=>r.length≤l.length∧(∀c∈r,c∈l)∧oP r:=by simp only[lE,uB];exact DO l f FU 0 0 [] Ω Ω Ω Ψ (λc g=>by simp at g) (by simp[oP]) (by rw[bq];omega)
def LD (m:Mdl)(J:m.1.length≤120000)(id:Int)(r1:List Int)(i:Int)(R:0≤i)(P:i<12)(f:List Cel)(C:f.length≤m.1.length)(r:∀c∈f,c∈m.1)(k:jN (List Cel))(Q:List Cel→Prop)(p:∀out:List Cel,out.length≤(i+1)*120000→(∀c∈out,c∈m.1)→Tot (k id r1 m out (i+1)) Q) :
  ∀(n:Nat) (out:List Cel) (t:Int),0≤t→t≤f.length→out.length≤i*120000+t→(∀c∈out,c∈m.1)→f.length-t<n→Tot (tZ k n id r1 i f m out t) Q
 |0,out,t,l,a1,U,j,T=>Ω
 |n+1,out,t,l,a1,U,j,T=>by
  show Tot (Aa false some (tZ k n) k id r1 i f m out t) _;simp only[Aa,vJ,tt,il];rw[ar (n:=t+1) Ω Ω,ar (n:=i+1) Ω Ω];refine⟨λh=>?_,λ_=>p out Ω j⟩;have h:t<f.length:=by simpa using h
  refine⟨aD l h,λ_=>⟨aD l h,eo Ξ,LD m J id r1 i R P f C r k Q p n _ (t+1) Ω Ω Ξ (λc g=>?_) Ω⟩,λ_=>LD m J id r1 i R P f C r k Q p n _ (t+1) Ω Ω Ω j Ω⟩;obtain g|g:=I'.1 g
  ·exact j c g
  ·rw[J'.1 g];exact r _ (gj l h)
def Ue (m:Mdl)(p:m.1.length≤120000)(id:Int)(r1:List Int):∀(n:Nat) (out:List Cel) (i:Int),0≤i→i≤12→out.length≤i*120000→(∀c∈out,c∈m.1)→12-i<n→Tot (Ac n id r1 m out i) λr=>r.length≤1440000∧∀c∈r,c∈m.1
 |0,out,i,j,T,R,g,h=>Ω
 |n+1,out,i,j,T,R,g,h=>by
  show Tot (Ad false some (tZ (Ac n) FU) id r1 m out i) _;simp only[Ad,tt,il];refine⟨λf=>?_,λ_=>⟨Ω,g⟩⟩;have f:i<(([id]++r1).length:Int)∧i<12:=by simp at f;exact f
  refine⟨aD j f.1,(ac5 m.1 _ Ω).mono λC l=>?_⟩;exact LD m p id r1 i j f.2 C l.1 l.2 _ _ (λout J P=>Ue m p id r1 n out (i+1) Ω Ω J P Ω) FU out 0 Ω Ω Ω g (by rw[bq];omega)
def abG (m:Mdl)(g:m.1.length≤120000)(f:∀c∈m.1,TxC c)(id:Int):Tot (od m id) λr=>r.length≤1440000∧∀c∈r,c∈m.1:=by simp only[od,LC,tt];exact(Pk m Ω f id).mono λr1 l=>⟨eo Ξ,Ue m g id r1 FU [] 0 Ω Ω Ψ (λc j=>by cases j) (by rw[bq];omega)⟩
def sJ (p:Int→Int→Prop)(f:Nat)(J:f<2000000):∀(n:Nat) (i:Int) (out:List Cel),0≤i→i≤f→out.length=f→(∀c∈out,TxC c∧p c.1 c.2.1)→f-i<n→Tot (kh n f i out) λr=>r.length≤f∧∀c∈r,TxC c∧p c.1 c.2.1
 |0,i,out,T,R,P,l,h=>Ω
 |n+1,i,out,T,R,P,l,h=>by
  show Tot (jl false some (kh n) f i out) _;simp only[jl,jm,tt,ni,b_,aiM];rw[ar (n:=i+1) Ω Ω];refine⟨λg=>?_,λ_=>⟨by simp;omega,λc g=>l c (I? g)⟩⟩;have g:i<f:=by simpa using g
  have C:(decide (0≤i)&&decide (i<(f:Int)))=true:=by simp;omega
  refine⟨C,λ_=>⟨C,sJ p f J n (i+1) _ Ω Ω Ξ (λc g=>?_) Ω⟩,λ_=>sJ p f J n (i+1) _ Ω Ω P l Ω⟩;obtain g|rfl:=List.mem_or_eq_of_mem_set g
  ·exact l c g
  ·have j:out.getD i.toNat (zero aa)∈out:=by
    rw[χ,ε Ω];exact c_ _
   exact⟨Xn,(l _ j).2⟩
def JP (f:Int→Int→Prop)(l:List Cel)(g:l.length<2000000)(h:∀c∈l,TxC c∧f c.1 c.2.1):Tot (eU l) λr=>r.length≤l.length∧∀c∈r,TxC c∧f c.1 c.2.1:=by simp only[eU,qN,tt,b_,List.take_nil,s_];exact⟨eo Ω,sJ f l.length g FU 0 l Ω Ω rfl h (by rw[bq];omega)⟩
def bN (x:Int):Int:=x.fdiv 1048576
def Yc (x:Int):U4 .i64 x 20=bN x:=rfl
def ya {s:Int}:bN x=s↔s*1048576≤x∧x<(s+1)*1048576:=by unfold bN;rw[Int.fdiv_eq_ediv_of_nonneg _ Ω];omega
def Q7 (x y:Int):x≤th x y∧y≤th x y∧(th x y=x∨th x y=y):=by unfold th;split <;> omega
def EZ (l:List Com)(s:Int)(hl:l.length≤100)(P:List Com)(c:Com)(R:List Com)(p:l=P++c::R)(hw:(ws c).length<1000000)(g:Int)(k:dh Int)(Q:Int→Prop)(T:∀x,bN x=s→g≤x→Tot (k l s x ((P.length:Int)+1)) Q):∀(n:Nat) (x t:Int),bN x=s→g≤x→0≤t→t≤(ws c).length→(ws c).length-t<n→Tot (kM k n l s P.length x t) Q
 |0,x,t,C,r,U,a3,h=>Ω
 |n+1,x,t,C,r,U,a3,h=>by
  show Tot (sZ false some (kM k n) k l s P.length x t) _;have f:(P.length:Int)<l.length:=by rw[p];simp;omega
  have ec:ix tCommit l (P.length:Int)=c:=by rw[p];exact gi (t:=tCommit) P c R
  simp only[sZ,px,tc,tt,il,Yc];rw[ec,ar (n:=t+1) Ω Ω,ar (n:=(P.length:Int)+1) Ω Ω];show bd _ _=true∧(decide (t<((ws c).length:Int))=true→bd _ _=true∧bd t (ws c).length=true∧_∧(decide (bN (ix aa (ws c) t).1=s)=true→bd _ _=true∧bd t (ws c).length=true∧_)∧_)∧_;refine⟨aD Ω f,λj=>?_,λ_=>T x C r⟩;have j:t<(ws c).length:=by simpa using j
  refine⟨aD Ω f,aD U j,by decide,λJ=>⟨aD Ω f,aD U j, ?_⟩,λ_=>EZ l s hl P c R p hw g k Q T n x (t+1) C r Ω Ω Ω⟩;have J:bN (ix aa (ws c) t).1=s:=by simpa using J
  have hm:=Q7 x (ix aa (ws c) t).1;refine EZ l s hl P c R p hw g k Q T n (th x (ix aa (ws c) t).1) (t+1) ?_ (ajX r hm.1) Ω Ω Ω;obtain e|e:=hm.2.2
  ·rw[e];exact C
  ·rw[e];exact J
def NL (l:List Com)(s:Int)(hl:l.length≤100)(U:∀c∈l,(ws c).length<1000000):∀(n:Nat) (R P:List Com) (x:Int),l=P++R→R.length<n→bN x=s→(∀c∈P,bN c.1=s→c.1≤x)→Tot (pw n l s x P.length) λr=>bN r=s∧∀c∈l,bN c.1=s→c.1≤r
 |0,R,P,x,f,h2,T,h4=>Ω
 |n+1,R,P,x,f,h2,T,h4=>by
  show Tot (ta false some (kM (pw n) FU) l s x P.length) _;simp only[ta,pz,tt,il,Yc];cases R with
  |nil=>
   have e:l=P:=by simpa using f
   subst e;exact⟨λh=>by simp at h,λ_=>⟨T,h4⟩⟩
  |cons c R=>
   have J:(P.length:Int)<l.length:=by rw[f];simp;omega
   have ec:ix tCommit l (P.length:Int)=c:=by rw[f];exact gi (t:=tCommit) P c R
   rw[ec];have go:∀g,bN g=s→x≤g→(bN c.1=s→c.1≤g)→Tot (kM (pw n) FU l s P.length g 0) λr=>bN r=s∧∀c∈l,bN c.1=s→c.1≤r:=λg b1 b2 b3=>by
    refine EZ l s hl P c R f (U c (by rw[f];simp)) g _ _ (λy hy j=>?_) FU g 0 b1 (Int.le_refl _) Ω Ω (by rw[bq];have:=U c (by rw[f];simp);omega);have:=NL l s hl U n R (P++[c]) y (by rw[f];simp) (by simp at h2;omega) hy λd C hs=>?_
    ·simpa using this
    ·obtain C|C:=I'.1 C
     ·exact ajX (h4 d C hs) (ajX b2 j)
     ·rw[J'.1 C]at hs⊢;exact ajX (b3 hs) j
   refine⟨λ_=>⟨aD Ω J,by decide,λp=>⟨aD Ω J, ?_⟩,λp=>go x T (Int.le_refl _) λe=>by simp[e]at p⟩,λh=>by simp at h;omega⟩;have p:bN c.1=s:=w_ p;have hm:=Q7 x c.1;refine go (th x c.1) ?_ hm.1 λ_=>hm.2.1;obtain e|e:=hm.2.2
   ·rw[e];exact T
   ·rw[e];exact p
def Ie (l:List Com)(s:Int)(C:1≤s)(p:s≤3)(g:l.length≤100)(f:∀c∈l,(ws c).length<1000000):Tot (pB l s) λr=>bN r=s∧∀c∈l,bN c.1=s→c.1≤r:=by
 simp only[pB,CJ,tt];have e:Yd .i64 s 20=s*1048576:=by show w64 (s*1048576)=_;exact ar Ω Ω
 rw[e];exact⟨by decide,NL l s g f FU l [] (s*1048576) rfl (by rw[bq];omega) (ya.2 Ω) λc j=>by cases j⟩
def zj (l:List Com)(c:Com)(hl:l.length≤100):∀(n:Nat) (R P:List Com),l=P++R→R.length<n→(∀d∈P,d.1<c.1)→Tot (nO n l c P.length) λr=>∃P R,l=P++R∧r=P++c::R∧(∀d∈P,d.1<c.1)∧∀d U,R=d::U→¬d.1<c.1
 |0,R,P,f,h2,J=>Ω
 |n+1,R,P,f,h2,J=>by
  show Tot (lY false some (nO n) l c P.length) _;have p:P.length+R.length=l.length:=by rw[f];simp
  simp only[lY,tt,il,aiM,s_,V_];rw[ar (n:=(P.length:Int)+1) Ω Ω];refine⟨ap λh=>aD Ω (by simpa using h),λg=>?_,λg=>?_⟩
  ·simp only[ajC,ι,ο]at g;cases R with
   |nil=>simp at p;omega
   |cons d R=>
    have T:ix tCommit l (P.length:Int)=d:=by rw[f];exact gi (t:=tCommit) P d R
    rw[T]at g;have:=zj l c hl n R (P++[d]) (by rw[f];simp) (by simp at h2;omega) λe j=>by
     obtain j|j:=I'.1 j
     ·exact J e j
     ·rw[J'.1 j];exact g.2
    simpa using this
  ·have e1:l.take P.length=P:=by rw[f];simp
   have e2:l.drop P.length=R:=by rw[f];simp
   have hq:(decide (0≤(P.length:Int))&&decide ((P.length:Int)≤(l.length:Int)))=true:=by simp;omega
   simp only[Int.toNat_natCast,e1,e2];refine⟨hq,eo Ξ,eo Ξ,hq,eo Ξ,P,R,f,Ψ,J,λd U e=>?_⟩;subst e;have T:ix tCommit l (P.length:Int)=d:=by rw[f];exact gi (t:=tCommit) P d U
   rw[T]at g;have C:(P.length:Int)<l.length:=by simp at p;omega
   simpa[C]using g
def N5 (l:List Com)(c:Com)(f:l.length≤100):Tot (lZ l c) λr=>∃P R,l=P++R∧r=P++c::R∧(∀d∈P,d.1<c.1)∧∀d j,R=d::j→¬d.1<c.1:=by
 simp only[lZ,u6];exact zj l c f FU l [] rfl (by rw[bq];omega) λd g=>by cases g
def ah6 (s:Sta)(f:List (Int×Int))(c:Cel):Prop:=TxC c∧((∃x∈s.1,x.1=c.1∧x.2.1=c.2.1)∨(c.1,c.2.1)∈f)
def WP (s:Sta)(w:List Cel):Prop:=w.length<2000000∧∃f:List (Int×Int),f.length≤11∧∀c∈w,ah6 s f c
def WQ (s:Sta)(w:List Cel):Prop:=WP s w∧oP w
def wM (w:List Cel)(h:w.length≤11)(g:∀c∈w,TxC c):WP s ([]++w) :=
 ⟨by simp;omega,w.map λc=>(c.1,c.2.1),by simp;omega,λc f=>by
  have f:c∈w:=by simpa using f
  exact⟨g c f,.inr (r_.2 ⟨c,f,rfl⟩)⟩⟩
def abT (r w:List Cel)(l:r.length≤1440000)(g:∀c∈r,TxC c∧∃x∈s.1,x.1=c.1∧x.2.1=c.2.1)(h:w.length≤11)(j:∀c∈w,TxC c):WP s (([]++r)++w) :=
 ⟨by simp;omega,w.map λc=>(c.1,c.2.1),by simp;omega,λc f=>by
  obtain f|f:=I'.1 f
  ·have f:c∈r:=by simpa using f
   exact⟨(g c f).1,.inl (g c f).2⟩
  ·exact⟨j c f,.inr (r_.2 ⟨c,f,rfl⟩)⟩⟩
def PC (r:List Cel)(j:r.length≤1440000)(f:∀c∈r,TxC c∧∃x∈s.1,x.1=c.1∧x.2.1=c.2.1):WP s r :=
 ⟨Ω,[],Ψ,λc g=>⟨(f c g).1,.inl (f c g).2⟩⟩
def cE (h:WP s w):Tot (dy w) (WQ s):=by simp[dy,mS,tt];obtain⟨p,C,l,j⟩:=h;exact(MD w p).mono λr f=>⟨⟨Ω,C,l,λc g=>j c (f.2.1 c g)⟩,f.2.2⟩
def tx1 {id f:Int}{v:Val}(h:TxV v):∀c∈[(id,f,v,())],TxC c:=λc g=>by rw[J'.1 g];exact h
def Dc (id t a b c d:Int):Tot (dA id t a b c d) (WQ s):=by simp only[dA,mV,tt];exact(uj _ _).mono λr f=>⟨eo Ψ,cE (wM _ Ψ (tx1 f))⟩
def Db (id a:Int)(b:Bool)(t:Str)(f:Sh t)(c:Int):Tot (gQ id a b t c) (WQ s):=by simp only[gQ,mT,tt];exact⟨eo Ψ,cE (wM _ Ψ (tx1 f))⟩
def PB (h:St1 s)(hs:s.1.length≤120000)(P:Int)(r2 r3 r4:List Int)(h2:r2.length≤120000)(h3:r3.length≤120000)(h4:r4.length≤120000)(r5:Int)(t:Bool)(a b c d:Int):Tot (gR P r2 r3 r4 r5 t s.1 a b c d (eX s).1) (WQ s):=by
 have hm:=Y9 h;have J:∀id,Tot (od ((eX s).1,()) id) λr=>r.length≤1440000∧∀c∈r,TxC c∧∃x∈s.1,x.1=c.1∧x.2.1=c.2.1:=λid=>(abG (eX s) Ω (λc C=>(hm.1 c C).1) id).mono λr hr=>⟨hr.1,λc C=>hm.1 c (hr.2 c C)⟩;have R:∀r:List Cel,r.length≤1440000→(∀c∈r,TxC c∧∃x∈s.1,x.1=c.1∧x.2.1=c.2.1)→Tot (eU r) λr=>r.length≤1440000∧∀c∈r,TxC c∧∃x∈s.1,x.1=c.1∧x.2.1=c.2.1:=λr h1 h2=>(JP (λa b=>∃x∈s.1,x.1=a∧x.2.1=b) r Ω h2).mono λq g=>⟨Ω,g.2⟩;have rd:∀id f,Tot (fM (s.1,()) id f) TxV:=λid f=>Vg h id f;have T:∀k,Tot (aE (s.1,()) k) λr=>r.length≤120000:=λk=>(cX h k).mono λr hr=>Ω
 have U:∀v x,Tot (eQ v (s.1,()) x) TxV:=λv x=>ML v h x;have p:∀(l:List Int) x,l.length≤240000→Tot (ba l x) λ_=>True:=λl x hl=>(gE l x Ω).mono λ_ _=>trivial;simp only[gR,mU,tt];refine⟨λ_=>?_,λ_=>⟨λ_=>?_,λ_=>⟨λ_=>?_,λ_=>⟨λ_=>?_,λ_=>⟨λ_=>?_,λ_=>⟨λ_=>?_,λ_=>⟨λ_=>?_,λ_=>⟨λ_=>?_,λ_=>⟨λ_=>?_,λ_=>?_⟩⟩⟩⟩⟩⟩⟩⟩⟩
 ·exact(p _ _ Ω).mono λr _=>(rd _ _).mono λv _=>(U _ _).mono λv j=>⟨eo Ψ,cE (wM _ Ψ (tx1 j))⟩
 ·exact(p _ _ Ω).mono λr _=>(bH _ 3 Ω Ω).mono λ_ _=>⟨by decide,(Mk _).mono λv j=>⟨eo Ψ,cE (wM _ Ψ (tx1 j))⟩⟩
 ·exact(p _ _ Ω).mono λr _=>(T _).mono λe he=>(p _ _ Ω).mono λ_ _=>⟨by decide,(Fh _).mono λv j=>⟨eo Ψ,cE (wM _ Ψ (tx1 j))⟩⟩
 ·exact(p _ _ Ω).mono λr _=>(p _ _ Ω).mono λ_ _=>(rd _ _).mono λv j=>⟨eo Ψ,cE (wM _ Ψ (tx1 j))⟩
 ·refine(p _ _ Ω).mono λr _=>(rd _ _).mono λv j=>(J _).mono λq g=>(R q g.1 g.2).mono λq g=>⟨eo Ξ,(rd _ _).mono λv2 _=>(U _ _).mono λv3 hv3=>⟨eo Ξ,cE (abT q _ g.1 g.2 Ψ ?_)⟩⟩;intro c C;simp at C;obtain rfl|rfl|rfl:=C
  ·simp[TxC,TxV]
  ·exact j
  ·exact hv3
 ·refine(T _).mono λe he=>(p _ _ Ω).mono λ_ _=>(Fh _).mono λk hk=>(uj _ _).mono λwd hwd=>⟨by decide,(U _ _).mono λv j=>⟨eo Ψ,cE (wM _ Ψ ?_)⟩⟩;intro c C;simp at C;obtain rfl|rfl|rfl|rfl|rfl|rfl|rfl|rfl|rfl|rfl|rfl:=C;all_goals first|exact j|exact hk|exact hwd|simp[TxC,TxV]
 ·exact(T _).mono λe he=>⟨eo Ω,(p _ _ Ξ).mono λr _=>(J _).mono λq g=>(R q g.1 g.2).mono λq g=>cE (PC q g.1 g.2)⟩
 ·exact(T _).mono λe he=>(p _ _ Ω).mono λr _=>(rd _ _).mono λv j=>⟨λ_=>(Fh _).mono λk hk=>Db _ _ _ _ hk _,λ_=>Db _ _ _ _ j _⟩
 ·exact(p _ _ Ω).mono λr _=>(J _).mono λq g=>cE (PC q g.1 g.2)
 ·exact cE (PC [] Ψ λc C=>by cases C)
def LO (h:St1 s)(hs:s.1.length≤120000)(d:bc.den)(j:Int):Tot (k7 s d j) (WQ s):=by
 have C:∀k,Tot (aE s k) λr=>r.length≤120000:=λk=>(cX h k).mono λr hr=>Ω
 have R:∀(l:List Int) x,l.length≤120000→Tot (ba l x) λ_=>True:=λl x hl=>(gE l x Ω).mono λ_ _=>trivial;simp only[k7,ug,mR,qb,tt];refine⟨h.stg,(C _).mono λP U=>(C _).mono λr3 h3=>(C _).mono λJ T=>(bH _ 13 Ω Ω).mono λr5 _=>?_⟩;have p:∀t:Bool,(t=true→Tot (ba P d.2.2.1) λr=>Tot (fQ (s.1,()) r) λf=>((bif (decide (f=5))then true else(decide (f=0)))=true→Tot (ba J d.2.2.1) λr=>Tot (dA r 2 d.1 d.2.1 d.2.2.1 d.2.2.2.1) (WQ s))∧((bif (decide (f=5))then true else(decide (f=0)))=false→Tot (dA r f d.1 d.2.1 d.2.2.1 d.2.2.2.1) (WQ s))):=λ_ _=>(R _ _ U).mono λr _=>(pH s r (h.place r 1)).mono λk _=>⟨λ_=>(R _ _ T).mono λr _=>Dc _ _ _ _ _ _,λ_=>Dc _ _ _ _ _ _⟩;have g:=λt=>PB h hs j P r3 J U h3 T r5 t d.1 d.2.1 d.2.2.1 d.2.2.2.1;exact⟨λ_=>⟨p _,λ_=>⟨λ_=>g _,λ_=>g _⟩⟩,λ_=>⟨p _,λ_=>⟨λ_=>g _,λ_=>g _⟩⟩⟩
def Ib {J:Type}[DecidableEq J]:∀{a b:List J},a.Nodup→(∀x∈a,x∈b)→a.length≤b.length
 |[],b,_,_=>by simp
 |x::a,b,h,hs=>by
  have h:=aiV.1 h;have j:=hs x (e_ ..);have:=Ib (a:=a) (b:=b.erase x) h.2 λy g=>by have f:=hs y (X' _ g);exact(ajI (λe:y=x=>h.1 (by rw[←e];exact g))).2 f
  rw[ajr j]at this;have:=ai6 j;simp;omega
def SZ (h:WP s w)(r:oP w):w.length≤s.1.length+11:=by
 obtain⟨_,R,T,P⟩:=h;have C:(w.map λc=>(c.1,c.2.1)).Nodup:=by unfold List.Nodup;rw[ajq];refine r.imp λ{a b} f e=>?_;have j:a.1=b.1:=(ω .. ▸ e).1;have g:a.2.1=b.2.1:=(ω .. ▸ e).2;rw[j,g,rG]at f;omega
 have:=Ib (b:=(s.1.map λx=>(x.1,x.2.1))++R) C λx p=>by
  obtain⟨c,J,rfl⟩:=r_.1 p;rcases(P c J).2 with⟨y,l,j,g⟩|h
  ·exact J_ _ (r_.2 ⟨y,l,by rw[j,g]⟩)
  ·exact Z? _ h
 simp at this;omega
def PL (h:fb x):bN (x-1)=bN x:=by
 obtain⟨l,j,g⟩:=h;have e:bN x*1048576≤x∧x<(bN x+1)*1048576:=ya.1 rfl;refine ya.2 ⟨?_,Ω⟩;by_cases f:x=bN x*1048576
 ·exfalso;apply g;rw[f];exact Int.mul_tmod_left _ _
 ·omega
structure NewC (l:List Com)(c:Com):Prop where
 par:c.2.1.length≤4
 txt:∀x∈ws c,TxC x
 ord:oP (ws c)
 len:(ws c).length≤cr l+11
 new:∀d∈l,¬d.1=c.1
 ids:∀x∈ws c,IdC x
 pic:c.2.2.1.length≤4
def ahM {a:Int}(h:a≤a-1):False:=Ω
def age {s:Int}(f:fb c.1)(g:bN (c.1-1)=s)(h:∀d∈l,bN d.1=s→d.1≤c.1-1):∀d∈l,¬d.1=c.1:=λd j e=>by have:=h d j (by rw[e,←PL f,g]);exact ahM (e ▸ this)
def Gb (hs:St1 s)(g:Int)(f j:List Int)(p:Str)(w:List Cel)(h1:f.length≤4)(h2:j.length≤4)(h3:p.length≤100)(U:w.length<1000000)(T:∀x∈w,TxC x)
  (R:oP w→w.length≤cr l+11) {site:Int} (C:bN (g-1)=site) (P:∀d∈l,bN d.1=site→d.1≤g-1) :
  Tot (jJ false some s g f j p w) λr=>r.2.1=true→NewC l r.1:=by
 simp[jJ,tt];refine(Ou s (g,f,j,p,w,()) (λid=>hs.place id 1) (by show f.length<_;omega) (by show j.length<_;omega) (by show p.length<_;omega) U T).mono λr J e=>?_;have J:=J (by simpa using e);exact⟨h1,T,J.2.1,R J.2.1,age J.1 C P,J.2.2,h2⟩
def SH {s:Int}(h:bN x=s)(g:1≤s)(f:s≤3):0≤x∧x<4194304:=by have:=ya.1 h;omega
def IZ (J:H0 l)(hn:l≠[])(hw:cr l≤60000)(r1:Int)(a1:0≤r1)(a2:r1<3)(d:bc.den)(f:List Int)(hp:f.length≤4) :
  Tot (mA false some l r1 d f) λr=>r.2.1=true→NewC l r.1:=by
 have hfew:=J.few;have hlen:0<l.length:=List.length_pos_iff.2 hn;have j:∀c∈l,(ws c).length<1000000:=λc p=>by have:=rZ p;omega
 simp only[mA,tt,il];rw[ar (n:=1+r1) Ω Ω];refine(UF l f J.isFew Ω).mono λU h5=>(Jb l J U Ω).mono λs hs=>(Ie l (1+r1) Ω Ω Ω j).mono λr7 h7=>(bH d.1 13 Ω Ω).mono λr8 _=>⟨λ_=>?_,λ_=>?_⟩
 ·refine(bH d.2.2.1 (l.length:Int) Ω Ω).mono λr9 h9=>⟨aD h9.1 h9.2, ?_⟩;have hm:=gj (t:=tCommit) (l:=l) h9.1 h9.2;have hb:=SH h7.1 Ω Ω;have R:=rZ hm;refine Gb (hs.st1 J) _ U [_] _ _ Ω Ψ Ψ (j _ hm) (J.txt _ hm) (λ_=>ν R Ω) (site:=1+r1) ?_ ?_
  ·rw[ar Ω Ω,ajn];exact h7.1
  ·rw[ar Ω Ω,ajn];exact h7.2
 ·have T:=hs.st1 J;have hsl:s.1.length≤cr l:=by
   obtain⟨_,_,_,_,h⟩:=hs;exact h.len
  refine(LO T Ω d r7).mono λw ⟨g,hwo⟩=>have P:w.length<1000000:=(by have:=SZ g hwo;omega);⟨eo Ξ,eo Ξ, ?_⟩
  rw[s_];refine(Ie (l++[(0,U,[],[100,101,101,100],w,())]) (1+r1) Ω Ω Ξ (λc p=>?_)).mono λr11 C=>?_
  ·obtain p|p:=I'.1 p
   ·exact j c p
   ·rw[J'.1 p];exact P
  ·have hb:=SH C.1 Ω Ω;refine Gb T _ U [] _ w Ω Ψ Ψ P (λx hx=>?_) (λho=>by have:=SZ g ho;omega) (site:=1+r1) ?_ ?_
   ·obtain⟨_,ex,_,h⟩:=g;exact(h x hx).1
   ·rw[ar Ω Ω,ajn];exact C.1
   ·rw[ar Ω Ω,ajn];exact λd hd=>C.2 d (J_ _ hd)
def O6 (J:H0 l)(C:l≠[])(p:cr l≤60000)(f:List Int)(m1:0<f.length)(m2:f.length≤100)(d:bc.den) :
  Tot (mB l f d) λr=>r.2.1=true→NewC l r.1:=by
 have j:∀k:Int,0≤k→bd (th (w64 (w64 ((f.length:Int)-1)-k)) 0) f.length=true∨10<k:=λk hk=>by
  by_cases h:10<k
  ·exact .inr h
  ·left;rw[ar (n:=(f.length:Int)-1) Ω Ω,ar Ω Ω];have:=Q7 ((f.length:Int)-1-k) 0;exact aD this.2.1 (by obtain e|e:=this.2.2 <;> rw[e] <;> omega)
 simp only[mB,vC,tt,il];refine(bH _ 3 Ω Ω).mono λr1 g=>⟨by decide,(bH _ 3 Ω Ω).mono λR T=>⟨(j R T.1).resolve_right Ω,by decide,(bH _ 3 Ω Ω).mono λr3 _=>⟨λ_=>⟨by decide,(bH _ (f.length:Int) Ω Ω).mono λU P=>⟨aD P.1 P.2,eo Ψ, ?_⟩⟩,λ_=>?_⟩⟩⟩
 ·exact IZ J C p r1 g.1 g.2 d _ (L_ rfl)
 ·exact IZ J C p r1 g.1 g.2 d _ (L_ rfl)
def agy {P R:List Com}(l:H0 (P++R))(p:NewC (P++R) c)(h1:∀d∈P,d.1<c.1)(h2:∀d R',R=d::R'→¬d.1<c.1)(hn:(P++R).length<20)(hs:2*cr (P++R)+11≤500000):H0 (P++c::R)∧cr (P++c::R)≤2*cr (P++R)+11:=by
 have T:cr (P++c::R)=cr (P++R)+(ws c).length:=by rw[dn,dn];show _+((ws c).length+cr R)=_;omega
 have U:=p.len;have g:∀d∈P++c::R,d=c∨d∈P++R:=λd f=>by
  simp at f⊢;obtain h|h|h:=f
  ·exact .inr (.inl h)
  ·exact .inl h
  ·exact .inr (.inr h)
 have hR:∀d∈R,c.1<d.1:=by
  have j:=(y_.1 l.asc).2.1;cases R with
  |nil=>intro d f;cases f
  |cons e R=>
   have he:=h2 e R rfl;have C:=p.new e Ψ;have r:c.1<e.1:=Int.lt_iff_le_and_ne.2 ⟨akd.1 he,λh=>C h.symm⟩;intro d f;obtain rfl|f:=K'.1 f
   ·exact r
   ·exact Int.lt_trans r ((n_.1 j).1 d f)
 refine⟨⟨by simp at hn⊢;omega, ?_,λd f=>?_,λd f=>?_,λd f=>?_,Ω,λd f=>?_,λd f=>?_⟩,Ω⟩
 ·have j:=y_.1 l.asc;rw[y_];refine⟨j.1,n_.2 ⟨hR,j.2.1⟩,λa ha b J=>?_⟩;obtain rfl|J:=K'.1 J
  ·exact h1 a ha
  ·exact j.2.2 a ha b J
 ·obtain rfl|h:=g d f
  ·exact p.par
  ·exact l.par d h
 ·obtain rfl|h:=g d f
  ·exact p.ord
  ·exact l.ord d h
 ·obtain rfl|h:=g d f
  ·exact p.txt
  ·exact l.txt d h
 ·obtain rfl|h:=g d f
  ·exact p.ids
  ·exact l.ids d h
 ·obtain rfl|h:=g d f
  ·exact p.pic
  ·exact l.pic d h
structure First1 (c:Com):Prop where
 par:c.2.1.length≤4
 ord:oP (ws c)
 txt:∀x∈ws c,TxC x
 len:(ws c).length≤200
 ids:∀x∈ws c,IdC x
 pic:c.2.2.1.length≤4
def First1.h0 (h:First1 c):H0 [c]:=by
 refine⟨Ψ,Ψ,λd f=>?_,λd f=>?_,λd f=>?_,by have:=h.len;simp[cr];omega,λd f=>?_,λd f=>?_⟩;all_goals rw[J'.1 f]
 ·exact h.par
 ·exact h.ord
 ·exact h.txt
 ·exact h.ids
 ·exact h.pic
def bnd:Nat→Nat
 |0=>200
 |n+1=>2*bnd n+11
def Sa:∀{a b:Nat},a≤b→bnd a≤bnd b
 |a,b,h=>by
  induction h with
  |refl=>exact ζ _
  |step _ f=>exact ν f (by simp[bnd];omega)
structure HisP (n:Nat)(l:List Com):Prop where
 h0:H0 l
 ne:l≠[]
 len:l.length≤n+1
 sum:cr l≤bnd n
def HisP.ins {P R:List Com}(h:HisP n (P++R))(g:NewC (P++R) c)(l:∀d∈P,d.1<c.1)(j:∀d p,R=d::p→¬d.1<c.1)(C:n<9):HisP (n+1) (P++c::R):=by have r:=h.sum;have J:bnd n≤54005:=Sa (b:=8) Ω;have f:=h.len;have:=agy h.h0 g l j Ω Ω;exact⟨this.1,Ψ,by simp at f⊢;omega,by have:=this.2;simp[bnd];omega⟩
def HisP.mono (h:HisP n l):HisP (n+1) l :=
 ⟨h.h0,h.ne,by have:=h.len;omega,ν h.sum (Sa Ω)⟩
def HisP.upto {m:Nat}(h:HisP n l)(f:n≤m):HisP m l:=by
 induction f with
 |refl=>exact h
 |step _ g=>exact g.mono
def oD (l:List bc.den):∀(n:Nat) (out:List Com) (f:List Int) (i:Nat),HisP i out→0<f.length→f.length≤i+1→i≤9→9-i<n→Tot (kA n l out f i) λr=>HisP 9 r
 |0,out,f,i,g,C,h3,J,h5=>Ω
 |n+1,out,f,i,g,C,h3,J,h5=>by
  show Tot (jz false some (kA n) l out f i) _;simp only[jz,jA,tt,il];have e1:w64 ((i:Int)+1)=((i+1:Nat):Int):=by rw[ar Ω Ω];omega
  rw[e1];refine⟨λj=>?_,λ_=>?_⟩
  ·have j:i<l.length∧i<9:=by
    simp at j;omega
   have hb:bnd i≤54005:=Sa (b:=8) Ω;have hs:=g.sum;refine⟨aD Ω Ω,(O6 g.h0 g.ne Ω f C Ω _).mono λr T=>⟨λU=>?_,λ_=>?_⟩⟩
   ·refine(N5 out r.1 (by have:=g.len;omega)).mono λr3 p=>⟨eo Ξ, ?_⟩;obtain⟨P,R,rfl,rfl,a1,a2⟩:=p;exact oD l n _ _ (i+1) (g.ins (T U) a1 a2 j.2) Ψ Ξ Ω Ω
   ·exact oD l n _ _ (i+1) g.mono C Ω Ω Ω
  ·exact g.upto J
def acC:Cel→List Cel→Bool
 |_,[]=>true
 |a,b::r=>ahd a.1 a.2.1 b.1 b.2.1&&acC b r
def ahH:List Cel→Bool
 |[]=>true
 |a::r=>acC a r
def Nr:∀{r:List Cel} {a:Cel},acC a r=true→Chn a r
 |[],_,_=>trivial
 |b::r,a,h=>by simp[acC]at h;exact⟨h.1,Nr h.2⟩
def YL {l:List Cel}(h:ahH l=true):oP l:=by
 cases l with
 |nil=>exact List.Pairwise.nil
 |cons a r=>exact Lp (Nr h)
def idB (x:Int):Bool:=1048576<x&&x<34603008&&!x.tmod 1048576=0
def ZI (h:idB x=true):fb x:=by simpa[idB,fb,aki]using h
def K4 (c:Com):Bool:=decide (c.2.2.1.length≤4)&&(decide (c.2.1.length≤4)&&ahH (ws c)&&(ws c).all (λx=>decide (x.2.2.1.2.2.1.length<1000))&&decide ((ws c).length≤200)&&(ws c).all (λx=>idB x.1&&(decide (x.2.2.1.2.2.2.1=0)||idB x.2.2.1.2.2.2.1)))
def RM (h:K4 c=true):First1 c:=by simp only[K4,ι,ο,Z']at h;obtain⟨g,h⟩:=h;refine⟨h.1.1.1.1,YL h.1.1.1.2,h.1.1.2,h.1.2,λx f=>?_,g⟩;have:=h.2 x f;rw[X?,ο]at this;exact⟨ZI this.1,this.2.imp id ZI⟩
def ahS (n:Int):K4 (fstL n)=true:=by unfold fstL;split <;> kernel_rfl
def ZY (x:Int):First1 (firstF x):=RM (ahS _)
def First1.his (h:First1 c):HisP 0 [c]:=⟨h.h0,Ψ,Ψ,by have:=h.len;simp[cr,bnd];omega⟩
def KS (first:Int)(l:List bc.den):Tot (jB first l) (HisP 9):=by simp[jB,rj,tt];exact oD l FU [firstF first] [(firstF first).1] 0 (ZY first).his Ψ Ψ Ω (by rw[bq];omega)
