/- Evaluators that always answer. -/
import Derived.Test.YteiopcmalidhaaaGreatGenH
set_option linter.all false
namespace Go.Proofs.YteiopcmalidhaaaGreat
namespace Abs
open Go
def Tot {J:Type}(o:Option J)(Q:J→Prop):Prop:=∃r,o=some r∧Q r
section
variable {J U:Type}{P Q:J→Prop}
def LM {r:J}:Tot (some r) Q↔Q r:=⟨λ⟨_,e,h⟩=>by cases e;exact h,λh=>⟨r,rfl,h⟩⟩
def aer {b:Bool}{k:Option J}:Tot (ck b k) Q↔b=true∧Tot k Q:=by
 cases b
 ·simp[Tot,ck]
 ·simp[ck]
def abh {c:Bool}{x y:Option J}:Tot (bif c then x else y) Q↔(c=true→Tot x Q)∧(c=false→Tot y Q):=by cases c <;> simp
variable{k:U→Option J}{o:Option J}
def aes {g:Bool}{v:U}:Tot (jO g v k) Q↔g=true∧Tot (k v) Q:=by
 cases g
 ·simp[Tot,jO]
 ·simp[jO]
def W7 {x:Option U}:Tot (wI x k) Q↔Tot x λr=>Tot (k r) Q:=by
 cases x
 ·simp[Tot,wI]
 ·simp[wI,LM]
def Tot.mono (h:Tot o P)(k:∀r,P r→Q r):Tot o Q:=let ⟨r,e,h⟩:=h;⟨r,e,k r h⟩
def Tot.and (h:Tot o P)(k:Tot o Q):Tot o λr=>P r∧Q r:=by obtain⟨r,e,h⟩:=h;obtain⟨j,f,g⟩:=k;rw[e]at f;cases f;exact⟨r,e,h,g⟩
def Tot.some (h:Tot o P):o.isSome=true:=by obtain⟨r,e,_⟩:=h;rw[e];rfl
def Tot.getD {o:Option J}(h:Tot o P)(d:J):P (o.getD d):=by obtain⟨r,e,h⟩:=h;rw[e];exact h
def jh (h:o.isSome=true):Tot o λ_=>True:=by
 cases o with
 |none=>cases h
 |some r=>exact⟨r,rfl,ans⟩
end
def tt:(∀{J:Type} {Q:J→Prop} {r:J},Tot (some r) Q↔Q r)∧(∀{J:Type} {Q:J→Prop} {b:Bool} {k:Option J},Tot (ck b k) Q↔b=true∧Tot k Q)∧(∀{J:Type} {Q:J→Prop} {c:Bool} {x y:Option J},Tot (bif c then x else y) Q↔(c=true→Tot x Q)∧(c=false→Tot y Q)) ∧
 (∀{J U:Type} {Q:J→Prop} {g:Bool} {v:U} {k:U→Option J},Tot (jO g v k) Q↔g=true∧Tot (k v) Q)∧(∀{J U:Type} {Q:J→Prop} {x:Option U} {k:U→Option J},Tot (wI x k) Q↔Tot x λr=>Tot (k r) Q) ∧
 (∀{U:Type} (m:Bool) (t:Ty) (e:Option t.den) (k:t.den→Option U),cl m t e k=wI e k)∧(∀{U:Type} (m:Bool) (t:Ty) (g:Bool) (v:t.den) (k:t.den→Option U),ce m t g v k=jO g v k)∧(∀{U:Type} (m:Bool) (t:Ty) (x:t.den) (k:t.den→U),fz m t x k=k x)∧(∀{U:Type} (m:Bool) (x:Nat) (k:Nat→U),fm m x k=k x) ∧
 (∀{U:Type} (m c:Bool) (k:Option U) (l:List Nat),nq m l c k=k)∧(∀{U:Type} (m:Bool) (n:Nat) (c z:Bool) (k:Option U),nm m n c z k=ck (be c z) k)∧(∀p:Prop,(True∧p)=p)∧(∀p:Prop,(p∧True)=p)∧(∀p:Prop,(p→True)=True) :=
 ⟨LM,aer,abh,aes,W7,s0,s1,s2,s3,D6,SN,λp=>ajF p,λp=>I_ p,λp=>implies_true p⟩
def aj {a b:Bool}(h:a=true→b=true):be a b=true:=by cases a <;> cases b <;> simp_all[be]
def bm:FU=1099511627776:=rfl
def ap {n:Int}(g : -9000000000000000000≤n)(f:n≤9000000000000000000):w64 n=n:=zF Ω Ω
variable{n N:Nat}{i x:Int}{s:Sta}{C:List (List Int)}{J:Type}{w:List Cel}
def aC (g:0≤i)(f:i<n):bd i n=true:=by simp[bd,g,f]
def VS (c:Int):(iQ c).isSome=true:=by simp[iQ,uP,s1,D6];rfl
def xf (c:Int):(fe c).isSome=true:=by simp[fe,rx,s1,D6];rfl
def nu (s:Str):Tot (cZ s) λ_=>True:=by simp[cZ,nr,gW,i5,gV,i4,tt]
def acD (s:Str):Tot (sZ s) λ_=>True:=by simp[sZ,Ci,uN,yG,uM,yF,tt]
def CG (s:Str)(g:Int)(J:0≤g)(l:s.length<1000000):∀(n:Nat) (f:Int),g≤f→f≤s.length→s.length-f<n→Tot (tW n s g f) λr=>0≤r∧g+r≤s.length
 |0,f,_,C,p=>Ω
 |n+1,f,h2,C,p=>by
  show Tot (rN false some (tW n) s g f) _;simp only[rN,tt,il];refine⟨aj λh=>aC Ω (by simpa using h),aj λ_=>VS _,λh=>?_,λ_=>?_⟩
  ·have:f<s.length:=by
    by_cases j:f<s.length
    ·exact j
    ·simp[j]at h
   rw[ap Ω Ω];exact CG s g J l n (f+1) Ω Ω Ω
  ·rw[ap Ω Ω];omega
def zE (s:Str)(f:Int)(g:0≤f)(l:s.length<1000000):Tot (jd s f) λr=>0≤r∧(f≤s.length→f+r≤s.length):=by
 simp only[jd,BW,tt,il];refine⟨aj λh=>aC g (by simpa using h),aj λh=>aC g (by simp at h;exact h.1),aj λ_=>by simp[aL],λ_=>Ω,λh=>?_⟩;have:f<s.length:=by
  by_cases j:f<s.length
  ·exact j
  ·simp[Int.not_lt.1 j]at h
 exact(CG s f g l FU f Ω Ω (by rw[bm];omega)).mono λr h=>⟨h.1,λ_=>h.2⟩
def UG (s:Str)(f:Int)(j:0≤f)(g:f<s.length)(l:s.length<1000000):Tot (rY s f) λ_=>True:=by simp only[rY,B1,qw,uk,qv,uj,tt,il];rw[ap Ω Ω];exact⟨aC j g,λ_=>aj λh=>aC Ω (by simpa using h)⟩
abbrev aeu:Ty :=.cons tInt (.cons tInt .unit)
def WR (s:Str)(f:Int)(j:0≤f)(g:s.length<1000000):WS s f=true:=(zE s f j g).some
def Pi (s:Str)(f:Int)(g:0≤f)(l:f<s.length)(j:s.length<1000000):Tot (oL s f) λ_=>True:=by
 simp only[oL,xo,qg,tt,il];refine(zE s f g j).mono λr1 J=>?_;have C:=J.2 Ω;have e1:w64 (f+r1)=f+r1:=ap Ω Ω;have e2:w64 (f+r1+1)=f+r1+1:=ap Ω Ω;rw[e1,e2];refine⟨by simp[g];omega,aC g l,aj λ_=>(nu _).some,aj λh=>aC Ω ?_,aj λ_=>WR s _ Ω j,λh=>?_,λ_ _=>(nu _).mono λ_ _=>λ_=>aC g l⟩
 ·simp at h;omega
 ·have r:0<I2 s (f+r1+1):=by
   simp at h;exact h.2
  have hl:f+r1+1<s.length:=by simp at h;exact h.1.1.2
  have P:=zE s (f+r1+1) Ω j;obtain⟨r3,p,T⟩:=P;have e4:I2 s (f+r1+1)=r3:=by unfold I2;rw[p];rfl
  rw[e4]at r;have R:=T.2 Ω;have U:w64 (f+r1+1+r3)=f+r1+1+r3:=ap Ω Ω;refine⟨r3,p, ?_⟩;simp only[U];refine⟨by simp;omega,aC Ω Ξ,λ_ _=>(nu _).mono λ_ _=>trivial,λ_ _=>(nu _).mono λ_ _=>trivial⟩
def Bf (s:Str)(j:Int)(l:s.length<1000000):∀(n:Nat) (f:Int),0≤f→f≤s.length→s.length-f<n→Tot (uA n s j f) λ_=>True
 |0,C,_,r,p=>Ω
 |n+1,f,g,r,p=>by
  show Tot (sG false some (uA n) s j f) _;simp only[sG,tt,il];intro h;have h:f<s.length:=by simpa using h
  refine⟨aC g h,λ_=>⟨aC g h,(jh (xf _)).mono λ_ _=>λ_=>⟨aC g h,aj λ_=>aC g h,λ_=>?_⟩⟩⟩;rw[ap Ω Ω];exact Bf s j l n (f+1) Ω Ω Ω
def yl (s:Str)(g:Int)(j:s.length<1000000):∀(n:Nat) (f:Int),0≤f→f≤s.length→s.length-f<n→Tot (qO n s g f) λ_=>True
 |0,C,_,p,l=>Ω
 |n+1,f,r,p,l=>by
  show Tot (pj false some (qO n) s g f) _;simp only[pj,tt,il];refine⟨aj λh=>aC r (by simpa using h),λh=>?_⟩;have h:f<s.length:=by simp at h;exact h.1
  rw[ap Ω Ω];exact yl s g j n (f+1) Ω Ω Ω
def Vh (s:Str)(f:Int)(l:0≤f)(j:f<s.length)(g:s.length<1000000):Tot (sH s f) λ_=>True:=by
 simp only[sH,Cc,tt];refine⟨aC l j,(jh (xf _)).mono λ_ _=>λ_=>⟨λ_=>?_,λ_=>⟨λ_=>?_,λ_=>⟨λ_=>?_,λ_=>?_⟩⟩⟩⟩
 ·rw[ap Ω Ω];exact Bf s f g FU (f+1) Ω Ω (by rw[bm];omega)
 ·exact yl s f g FU f Ω Ω (by rw[bm];omega)
 ·exact(Pi s f l j g).mono λ_ _=>trivial
 ·exact(UG s f l j g).mono λ_ _=>trivial
def Bk (s:Str)(j:Int)(J:s.length<1000000)(k:aH aeu.den)(g:Int)(l:∀f,g<f→f≤s.length→Tot (k s j f) λ_=>True)(p:ixs s g=35):∀(n:Nat) (f:Int),0≤f→g≤f→f≤s.length→g<s.length→s.length-f<n→Tot (pG k n s j f) λ_=>True
 |0,R,_,_,r,_,P=>Ω
 |n+1,f,C,ha,r,h5,P=>by
  show Tot (sV false some (pG k n) k s j f) _;simp only[sV,tt,il];refine⟨aj λh=>aC C (by simpa using h),λh=>?_,λh=>?_⟩
  ·have h:f<s.length:=by
    simp at h;exact h.1
   refine⟨aC C h,(jh (xf _)).mono λ_ _=>λ_=>?_⟩;rw[ap Ω Ω];exact Bk s j J k g l p n (f+1) Ω Ω Ω h5 Ω
  ·refine l f ?_ r;by_cases e:g=f
   ·subst e;rw[p]at h;simp[h5]at h
   ·omega
def sU (s:Str)(g:Int)(l:s.length<1000000):∀(n:Nat) (f:Int),0≤f→f≤s.length→s.length-f<n→Tot (pH n s g f) λ_=>True
 |0,P,_,r,J=>Ω
 |n+1,f,p,r,J=>by
  show Tot (sW false some (pH n) (pG (pH n) FU) s g f) _;simp only[sW,tt,il];intro h;have h:f<s.length:=by simpa using h
  refine⟨aC p h,λ_=>?_,λ_=>⟨aC p h,λC=>?_⟩⟩
  ·rw[ap Ω Ω];exact sU s g l n (f+1) Ω Ω Ω
  ·exact Bk s g l _ f (λu R j=>sU s g l n u Ω j Ω) (by simpa using C) FU f p Ω r h (by rw[bm];omega)
def Vy (s:Str)(f:s.length<1000000):Tot (sX s 0) λ_=>True:=by simp[sX,Ce];exact sU s 0 f FU 0 Ω Ω (by rw[bm];omega)
def zU {s:Str}(h:¬s=[]):(0:Int)<s.length:=by
 cases s with
 |nil=>exact absurd rfl h
 |cons a l=>simp
def Fq (s:Str)(f:s.length<1000000):Tot (kZ s) λ_=>True:=by
 simp only[kZ,zk,tt];have g:∀{c:Bool},(!(bif decide (s=[])then true else c))=true→(0:Int)<s.length:=λh=>zU λe=>by simp[e]at h
 refine⟨aj λh=>aC Ω (zU (by simpa using h)),aj λh=>aC Ω (g h),λh=>(Vh s 0 Ω ?_ f).mono λ_ _=>trivial⟩;refine zU λe=>?_;simp[e]at h
def xz (s:Str)(g:s.length<1000000):∀(n:Nat) (c:Bool) (i:Int),0≤i→i≤s.length→s.length-i<n→Tot (na n s c i) λ_=>True
 |0,_,p,_,l,j=>Ω
 |n+1,c,i,f,l,j=>by
  show Tot (lB false some (na n) s c i) _;simp only[lB,jg,lC,tt,il];intro h;have h:i<s.length:=by simpa using h
  rw[ap Ω Ω];have r:=λc=>xz s g n c (i+1) Ω Ω Ω;exact⟨aC f h,λ_=>⟨aC f h,λ_=>r _,λ_=>r _⟩,λ_=>⟨aC f h,λ_=>r _,λ_=>r _⟩⟩
def LI (s:Str)(t:Bool)(f:s.length<1000000):Tot (iC s t) λ_=>True:=by simp only[iC,ub,tt];exact(Vy s f).mono λ_ _=>λ_ _=>xz s f FU false 0 Ω Ω (by rw[bm];omega)
def FV (k:Int)(s:Str)(f:s.length<1000000):Tot (gR k s) λ_=>True:=by simp[gR,nb,kg,d7,od,tt];refine(Fq s f).mono λr _=>?_;have:=acD s;simp[this]
def gt (id:Int):b8 id=some (decide (id>1048576)&&decide (id<34603008) && !decide (id.tmod 1048576=0)):=by simp only[b8,qk,D6,SN];rw[show(!decide ((1048576:Int)=0))=true from rfl,cE];simp[ck,x?]
def rQ (id:Int):oN id=true:=by unfold oN;rw[gt];rfl
def xt (s:Str)(g:s.length<1000000):∀(n:Nat) (i:Int),0≤i→i≤s.length→s.length-i<n→Tot (mZ n s i) λ_=>True
 |0,p,_,l,j=>Ω
 |n+1,i,f,l,j=>by
  show Tot (lz false some (mZ n) s i) _;simp only[lz,tt,il];intro h;have h:i<s.length:=by simpa using h
  refine⟨aC f h,aj λ_=>aC f h,λ_=>?_⟩;rw[ap Ω Ω];exact xt s g n (i+1) Ω Ω Ω
def Lz (s:Str)(f:s.length<1000000):Tot (lA s) λ_=>True:=by
 simp only[lA,t8,tt,il];refine⟨aj λh=>?_,λ_=>xt s f FU 0 Ω Ω (by rw[bm];omega)⟩;rw[ap Ω Ω];have:¬((s.length:Int)<1):=λe=>by simp[e]at h
 exact aC Ω Ω
def dW (id:Int):Prop:=1048576<id∧id<34603008∧¬id.tmod 1048576=0
def RfI (x:Int):Prop:=x=0∨dW x
def xu {id:Int}(h:gw id=true):dW id:=by
 have e:gw id=(decide (id>1048576)&&decide (id<34603008) && !decide (id.tmod 1048576=0)):=by unfold gw;rw[gt];rfl
 rw[e]at h;simpa[dW,ajU]using h
def Je (v:aM.den)(p:v.2.2.1.length<1000000):Tot (jo v) λr=>r=true→RfI v.2.2.2.1:=by
 simp only[jo,qx,tt];refine⟨aj λ_=>rQ _,aj λ_=>by simp[aL],λ_ h=>(by cases h),λg=>?_⟩;have f:RfI v.2.2.2.1:=by
  by_cases j:v.2.2.2.1=0
  ·exact .inl j
  ·refine .inr (xu ?_);cases l:gw v.2.2.2.1 with
   |true=>rfl
   |false=>rw[l]at g;simp[j]at g
 exact⟨λ_ _=>f,λ_=>⟨aj λ_=>by simp[aL],aj λ_=>by simp[aL],λ_ _=>f,λ_=>⟨λ_ _=>f,λ_=>(FV _ _ p).mono λ_ _ _=>f⟩⟩⟩
def Bp (k f:Int)(v:aM.den)(g:v.2.2.1.length<1000000):Tot (iR k f v) λr=>r=true→RfI v.2.2.2.1:=by
 simp only[iR,uV,tt];have z:∀{a:Int} {s:Str},eqD aM v (a,false,s,0,())=true→RfI v.2.2.2.1:=λh=>.inl (by rw[KI aM _ _ h]);refine⟨λh _=>z h,λ_=>⟨λ_ h=>(by cases h),λ_=>⟨λ_ h=>z h,λ_=>⟨λ_ h=>z h,λ_=>⟨λ_=>⟨aj λ_=>rQ _,λ_ h=>(by cases h),λC=>?_⟩,λ_=>⟨λ_=>(Fq _ g).mono λ_ _=>⟨λ_ h=>(by cases h),λj=>?_⟩,λ_=>⟨λ_=>Je v g,λ_=>⟨λ_=>⟨aj λ_=>by simp[aL],aj λ_=>(LI _ _ g).some,λh=>?_⟩,λ_ h=>(by cases h)⟩⟩⟩⟩⟩⟩⟩⟩
 ·have p:RfI v.2.2.2.1 :=.inr (xu (by
   cases l:gw v.2.2.2.1 with
   |true=>rfl
   |false=>rw[l]at C;simp at C))
  exact⟨λ_=>(Lz _ g).mono λ_ _ _=>p,λ_ _=>p⟩
 ·have j:=z (by simpa using j);exact⟨λ_ _=>j,λ_ _=>j⟩
 ·refine z (a:=0) (s:=v.2.2.1) ?_;cases l:eqD aM v (0,false,v.2.2.1,0,())with
  |true=>rfl
  |false=>rw[l]at h;cases h
def Pt (k f:Int)(v:aM.den)(g:v.2.2.1.length<1000000):Tot (oV k f v) λr=>r=true→RfI v.2.2.2.1:=by simp[oV,xC,tt];exact(Bp k f v g).mono λ_ j=>⟨aj λ_=>by simp[aL],aj λ_=>by simp[aL],λh _=>j h⟩
def TxV (v:Val):Prop:=v.2.2.1.length<1000
def TxC (c:Cel):Prop:=TxV c.2.2.1
def iO {t:Ty}{l:List t.den}(g:0≤i)(f:i<l.length):ix t l i∈l:=by
 have h:i.toNat<l.length:=Ω
 unfold ix;rw[υ,δ h];exact e_ h
def Mw (a b:Cel):fy a b=some (decide (a.1=b.1)&&decide (a.2.1=b.2.1)):=by simp[fy,nx,D6]
def Pc (a b:Cel):(iX a b).isSome=true:=by simp[iX,zC];cases decide (a.1=b.1) <;> rfl
def H9 (l:List Int)(x:Int)(g:l.length<1000000):∀(n:Nat) (r p:List Int),l=p++r→r.length<n→yO n l x (p.length:Int)=some (decide (x∈r))
 |0,r,p,_,h=>Ω
 |n+1,r,p,e,h=>by
  subst e;show yP false some (yO n) (p++r) x p.length=_;simp only[yP,s2,il];cases r with
  |nil=>rw[QR (t:=tInt)];simp
  |cons c r=>
   have next:=H9 (p++c::r) x g n r (p++[c]) Ψ (by simp at h;omega)
   rw[←QA (t:=tInt) p c (by simp at g;omega)]at next
   rw[Kg (t:=tInt),dh (t:=tInt),aC Ω Ξ,next];simp[ck];by_cases f:c=x
   ·simp[f]
   ·have:¬x=c:=λe=>f e.symm;simp[f,this]
def Cl (l:List Int)(x:Int)(f:l.length<1000000):nK l x=some (decide (x∈l)):=by simp[nK,Ky];exact H9 l x f FU l [] rfl (by rw[bm];omega)
def re (l:List Int)(x:Int)(f:l.length<1000000):yQ l x=true:=by unfold yQ;rw[Cl l x f];rfl
def EJ (l:List Int)(x:Int)(f:l.length<1000000):gG l x=decide (x∈l):=by unfold gG;rw[Cl l x f];rfl
def Hy (l:List Int)(x:Int)(P:l.length<1000000):∀(n:Nat) (t:Int),0≤t→t≤l.length→t<n→Tot (xV n l x t) λr=>r.length≤l.length+1∧∀y,y∈r↔y∈l∨y=x
 |0,t,C,_,h=>Ω
 |n+1,t,C,h1,h=>by
  show Tot (xW false some (xV n) l x t) _;have p:t>0→bd (w64 (t-1)) l.length=true:=λh=>by rw[ap Ω Ω];exact aC Ω Ω
  simp only[xW,tt,ait,t_,J_];refine⟨aj λh=>p (by simpa using h),λh=>?_,λ_=>?_⟩
  ·have J:t>0:=by simp at h;exact h.1
   refine⟨p J,λg=>⟨Ω,λy=>⟨.inl,λf=>?_⟩⟩,λ_=>?_⟩
   ·obtain f|rfl:=f
    ·exact f
    ·have g:ix tInt l (w64 (t-1))=y:=by simpa using g
     rw[←g];have T:=ap (n:=t-1) Ω Ω;exact iO (t:=tInt) Ω Ω
   ·rw[ap Ω Ω];exact Hy l x P n (t-1) Ω Ω Ω
  ·have R:(List.take t.toNat l).length=t.toNat:=by simp;omega
   have j:(decide (0≤t)&&decide (t≤(l.length:Int)))=true:=by simp[C,h1]
   refine⟨j,by simp[lm,LIM];omega,by simp[lm,LIM];omega,j,by simp[lm,LIM];omega,by simp;omega,λy=>?_⟩;have:=g? t.toNat l;simp only[O',E'];constructor
   ·rintro((f|f)|f)
    ·exact .inl (J? f)
    ·exact .inr f
    ·exact .inl (K? f)
   ·rintro(f|f)
    ·rw[←this,O']at f;obtain f|f:=f
     ·exact .inl (.inl f)
     ·exact .inr f
    ·exact .inl (.inr f)
def MF (l:List Int)(x:Int)(f:l.length<1000000):Tot (uu l x) λr=>r.length≤l.length+1∧∀y,y∈r↔y∈l∨y=x:=by simp[uu,JF,tt];exact Hy l x f FU l.length Ω Ω (by rw[bm];omega)
def DZ (l:List Cel)(id:Int)(C:l.length<1000000):∀(n:Nat) (out:List Cel) (i:Int),0≤i→i≤l.length→out.length≤i→(∀c∈out,c∈l)→l.length-i<n→Tot (Ca n l id out i) λr=>r.length≤l.length∧∀c∈r,c∈l
 |0,out,i,p,P,J,j,h=>Ω
 |n+1,out,i,p,P,J,j,h=>by
  show Tot (D0 false some (Ca n) l id out i) _;simp only[D0,D3,tt,il];refine⟨λf=>?_,λ_=>⟨Ω,j⟩⟩;have f:i<l.length:=by simpa using f
  rw[ap Ω Ω];refine⟨aC p f,λ_=>⟨aC p f,by simp[lm,LIM];omega,DZ l id C n _ _ Ω Ω Ξ (λc g=>?_) Ω⟩,λ_=>DZ l id C n _ _ Ω Ω Ω j Ω⟩;obtain g|g:=O'.1 g
  ·exact j c g
  ·rw[E'.1 g];exact iO p f
def ack (l:List Cel)(id:Int)(f:l.length<1000000):Tot (D4 l id) λr=>r.length≤l.length∧∀c∈r,c∈l:=by simp only[D4,SI];exact DZ l id f FU [] 0 Ω Ω Ψ (λc g=>by cases g) (by rw[bm];omega)
def xl (l:List Cel)(j:l.length<1000000):∀(n:Nat) (i:Int),0≤i→i≤l.length→l.length-i<n→Tot (mO n l i) λ_=>True
 |0,i,g,C,h=>Ω
 |n+1,i,g,C,h=>by
  show Tot (lh false some (mO n) l i) _;simp only[lh,tt,il];intro f;have f:i<l.length:=by simpa using f
  have p:∀{c:Bool},(c&&decide (i>0))=true→bd (w64 (i-1)) l.length=true:=λh=>by simp at h;rw[ap Ω Ω];exact aC Ω Ω
  refine⟨aC g f,(jh (by rw[gt];rfl)).mono λr _=>⟨aj λ_=>aC g f,aj λ_=>aC g f,aj p,aj λ_=>aC g f,aj λ_=>Pc _ _,aj λ_=>by simp[aL],λ_=>?_⟩⟩;rw[ap Ω Ω];exact xl l j n (i+1) Ω Ω Ω
def Ld (l:List Cel)(f:l.length<1000000):Tot (lj l) λ_=>True:=by simp[lj,tT];exact xl l f FU 0 Ω Ω (by rw[bm];omega)
def xr (l:List Cel)(g:l.length<1000000):∀(n:Nat) (i:Int),0≤i→i≤l.length→l.length-i<n→Tot (mX n l i) λ_=>True
 |0,i,j,p,h=>Ω
 |n+1,i,j,p,h=>by
  show Tot (lu false some (mX n) l i) _;simp only[lu,tt,il];refine⟨λf=>?_,λ_=>(Ld l g).mono λ_ _=>trivial⟩;have f:i<l.length:=by simpa using f
  rw[ap Ω Ω];exact⟨aC j f,λ_=>xr l g n (i+1) Ω Ω Ω⟩
def Lw (l:List Cel)(f:l.length<1000000):Tot (ly l) λ_=>True:=by simp[ly,tZ];exact xr l f FU 0 Ω Ω (by rw[bm];omega)
def rP (t:Mdl)(id f:Int)(p:t.1.length<1000000):∀(n:Nat) (g j:Int),0≤g→g≤j→j≤t.1.length→j-g<n→Tot (qj n t id f g j) λ_=>True
 |0,g,j,l,J,C,h=>Ω
 |n+1,g,j,l,J,C,h=>by
  show Tot (oM false some (qj n) t id f g j) _;simp only[oM,tt,il];refine⟨λr=>?_,λ_=>⟨aj λh=>aC l (by simpa using h),aj λ_=>by unfold Dn;rw[Mw];rfl,λh=>aC l ?_⟩⟩
  ·have r:g<j:=by simpa using r
   have U:w64 (g+j)=g+j:=ap Ω Ω;have T:Int.tdiv (g+j) 2=(g+j)/2:=Int.tdiv_eq_ediv_of_nonneg Ω;have R:w64 ((g+j)/2)=(g+j)/2:=ap Ω Ω;have P:w64 ((g+j)/2+1)=(g+j)/2+1:=ap Ω Ω;rw[U,T,R,P];exact⟨by decide,aC Ω Ω,(jh (Pc _ _)).mono λ_ _=>⟨λ_=>rP t id f p n _ _ Ω Ω Ω Ω,λ_=>rP t id f p n _ _ Ω Ω Ω Ω⟩⟩
  ·simp at h;exact h.1
def Y9 (t:Mdl)(id f:Int)(g:t.1.length<1000000):Tot (yS t id f) λ_=>True:=by simp[yS,KB,tY,xp,tt];exact(rP t id f g FU 0 t.1.length Ω Ω Ω (by rw[bm];omega)).mono λ_ _=>trivial
def wQ (t:Mdl)(j:t.1.length<1000000):∀(n:Nat) (l:List Int) (i:Int),0≤i→i≤t.1.length→l.length≤i→t.1.length-i<n→Tot (uR n t l i) λr=>r.length≤t.1.length
 |0,l,i,g,C,p,h=>Ω
 |n+1,l,i,g,C,p,h=>by
  show Tot (ta false some (uR n) t l i) _;simp only[ta,tc,tt,il];refine⟨λf=>?_,λ_=>Ω⟩;have f:i<t.1.length:=by simpa using f
  rw[ap (n:=i+1) Ω Ω];refine⟨aj λ_=>aC g f,aj λh=>?_,λ_=>⟨aC g f,by simp[lm,LIM];omega,wQ t j n _ _ Ω Ω Ξ Ω⟩,λ_=>wQ t j n _ _ Ω Ω Ω Ω⟩;have h:¬i=0:=by simpa using h
  rw[ap Ω Ω];exact aC Ω Ω
def VU (t:Mdl)(f:t.1.length<1000000):Tot (td t) λr=>r.length≤t.1.length:=by simp[td,Cj];exact wQ t f FU [] 0 Ω Ω Ψ (by rw[bm];omega)
def AT (t:Mdl)(C:t.1.length<1000000)(p:∀c∈t.1,TxC c):∀(n:Nat) (f:Int) (a b:Bool) (i:Int),0≤i→i≤t.1.length→t.1.length-i<n→Tot (lH n t f a b i) λ_=>True
 |0,f,a,b,i,j,P,h=>Ω
 |n+1,f,a,b,i,j,P,h=>by
  show Tot (o7 false some (lH n) t f a b i) _;have l:i<t.1.length→∀f a b,Tot (iE false some (lH n) t i f a b) λ_=>True:=λg f a b=>by
   have J:=p _ (iO (t:=tCell) j g);simp only[iE,o8,tt,il];rw[ap (n:=i+1) Ω Ω,ap (n:=(t.1.length:Int)-1) Ω Ω];have r:=λa b=>AT t C p n f a b (i+1) Ω Ω Ω;refine⟨aC j g,aC j g,(Bp _ _ _ (ake J Ω)).mono λ_ _=>λ_=>⟨aj λ_=>aC j g,aj λ_=>aC j g,aj λh=>aC Ω ?_,aj λ_=>aC j g,λ_=>⟨aj λ_=>by simp[aL],λ_=>r _ _⟩,λ_=>r _ _⟩⟩;have h:¬i=(t.1.length:Int)-1:=by simpa using h
   omega
  simp only[o7,tt,il];intro g;have g:i<t.1.length:=by simpa using g
  refine⟨aj λ_=>aC j g,aj λh=>?_,λ_=>⟨aC j g,λ_=>⟨aC j g,l g _ _ _⟩⟩,λ_=>l g _ _ _⟩;have h:¬i=0:=by simpa using h
  rw[ap Ω Ω];exact aC Ω Ω
def Px (t:Mdl)(f:t.1.length<1000000)(g:∀c∈t.1,TxC c):Tot (o9 t) λ_=>True:=by simp[o9,xG,tt];exact(Lw _ f).mono λ_ _ _=>AT t f g FU 0 false false 0 Ω Ω (by rw[bm];omega)
def vP (t:Mdl)(j:t.1.length<1000000)(g f:Int)(p:f≤1000001):∀(n:Nat) (id i:Int),0≤i→i≤1000001→1000001-i<n→Tot (kz n g f t id i) λ_=>True
 |0,id,i,C,r,h=>Ω
 |n+1,id,i,C,r,h=>by
  show Tot (jy false some (kz n) g f t id i) _;simp[jy,tt];intro l;have l:i<f:=by simpa using l
  rw[ap Ω Ω];exact(Y9 t id 2 j).mono λ_ _ _ _=>vP t j g f p n _ (i+1) Ω Ω Ω
def JB (t:Mdl)(j:t.1.length<1000000)(id g f:Int)(l:f≤1000001):Tot (gy t id g f) λ_=>True:=by simp[gy,qD];exact vP t j g f l FU id 0 Ω Ω (by rw[bm];omega)
def rr (t:Mdl)(j:t.1.length<1000000)(id:Int)(r2:List Int)(l:r2.length≤t.1.length):∀(n:Nat) (out:List Int) (i:Int),0≤i→i≤r2.length→out.length≤i→r2.length-i<n→Tot (nV n id r2 t out i) λr=>r.length≤t.1.length
 |0,out,i,g,J,C,h=>Ω
 |n+1,out,i,g,J,C,h=>by
  show Tot (mB false some (nV n) id r2 t out i) _;simp only[mB,mC,tt,il];refine⟨λf=>?_,λ_=>Ω⟩;have f:i<r2.length:=by simpa using f
  have p:Hw t (ix tInt r2 i) id (w64 ((r2.length:Int)+1))=true:=(JB t j _ _ _ (by rw[ap Ω Ω];omega)).some;rw[p,ap (n:=i+1) Ω Ω];exact⟨aC g f,aj λ_=>aC g f,by simp[aL,cE],λ_=>⟨aC g f,by simp[lm,LIM];omega,rr t j id r2 l n _ _ Ω Ω Ξ Ω⟩,λ_=>rr t j id r2 l n _ _ Ω Ω Ω Ω⟩
def O2 (t:Mdl)(f:t.1.length<1000000)(g:∀c∈t.1,TxC c)(id:Int):Tot (mD t id) λr=>r.length≤t.1.length:=by simp only[mD,vf,tt];exact(Px t f g).mono λ_ _=>⟨aj λ_=>rQ _,λ_=>by simp,λ_=>(VU t f).mono λr2 j=>rr t f id r2 j FU [] 0 Ω Ω Ψ (by rw[bm];omega)⟩
abbrev Com:=tCommit.den
abbrev ws (c:Com):List Cel:=c.2.2.2.2.1
def kM (w:List Cel):Prop:=w.Pairwise λa b=>ahd a.1 a.2.1 b.1 b.2.1=true
def Wr (w:List Cel)(id f:Int):Prop:=∃c∈w,c.1=id∧c.2.1=f
def Chn:Cel→List Cel→Prop
 |_,[]=>True
 |a,b::r=>ahd a.1 a.2.1 b.1 b.2.1=true∧Chn b r
def KY:∀{r:List Cel} {a:Cel},Chn a r→(a::r).Pairwise λa b=>ahd a.1 a.2.1 b.1 b.2.1=true
 |[],a,_=>j_.2 ⟨λ_ h=>by(cases h),List.Pairwise.nil⟩
 |b::r,a,⟨j,l⟩=>by
  have g:=KY l;refine j_.2 ⟨λx f=>?_,g⟩;obtain rfl|f:=C'.1 f
  ·exact j
  ·exact k6 j ((j_.1 g).1 x f)
def vS (l:List Cel)(f:l.length<1000000):∀(n:Nat) (r p:List Cel) (a:Cel),l=p++a::r→r.length<n→Tot (ib n l ((p.length:Int)+1)) λb=>b=true→Chn a r
 |0,r,p,a,e,h=>Ω
 |n+1,r,p,a,e,h=>by
  subst e;show Tot (eW false some (ib n) (p++a::r) ((p.length:Int)+1)) _;simp only[eW,tt,il];simp only[P',r_]at f⊢;have P:w64 ((p.length:Int)+1-1)=p.length:=by rw[ap Ω Ω];omega
  cases r with
  |nil=>exact⟨λh=>by simp at h,λ_ _=>trivial⟩
  |cons b r=>
   rw[P];have J:ix tCell (p++a::b::r) (p.length:Int)=a:=dh (t:=tCell) p a (b::r);have C:ix tCell (p++a::b::r) ((p.length:Int)+1)=b:=by have:=dh (t:=tCell) (p++[a]) b r;rw[show p++a::b::r=(p++[a])++b::r by simp,show((p.length:Int)+1)=((p++[a]).length:Int)by simp];exact this
   have j:w64 ((p.length:Int)+1+1)=((p++[a]).length:Int)+1:=by rw[ap Ω Ω];simp
   rw[J,C,j];refine⟨λ_=>?_,λh=>?_⟩
   ·refine⟨aC Ω Ξ,aC Ω Ξ,aC Ω Ξ,aC Ω Ξ,λ_ h=>(by cases h),λh=>?_⟩;refine(vS (p++a::b::r) (by simp at f⊢;omega) n r (p++[a]) b Ψ (by simp at h;simp at *;omega)).mono λx g e=>⟨?_,g e⟩;rw[←vq];simpa using h
   ·simp at h;omega
def JQ (l:List Cel)(f:l.length<1000000):Tot (jB l) λb=>b=true→kM l:=by
 simp[jB,qJ];cases l with
 |nil =>show Tot (eW false some (ib 1099511627775) [] 1) _;simp only[eW,tt,il];exact⟨λh=>by simp at h,λ_ _=>List.Pairwise.nil⟩
 |cons a r=>exact(vS (a::r) f FU r [] a rfl (by rw[bm];simp at f;omega)).mono λb g e=>KY (g e)
def vD (w:List Cel)(id f:Int)(P:w.length<1000000):∀(n:Nat) (i:Int), -1≤i→i<w.length→i+1<n→(∀k:Nat,i<k→k<w.length→¬((w.getD k (zero tCell)).1=id∧(w.getD k (zero tCell)).2.1=f))→Tot (fh n w id f i) λr=>r.2.1=true↔Wr w id f
 |0,i,T,p,h,_=>Ω
 |n+1,i,T,p,h,hk=>by
  show Tot (eG false some (fh n) w id f i) _;simp only[eG,tt];refine⟨λg=>?_,λg=>?_⟩
  ·have g:0≤i:=by simpa using g
   refine⟨aC g p,aj λ_=>aC g p,λj=>⟨aC g p,λ_=>?_,λ_=>trivial⟩,λj=>?_⟩
   ·simp at j;exact⟨_,iO (t:=tCell) g p,j.1,j.2⟩
   ·rw[ap Ω Ω];refine vD w id f P n (i-1) Ω Ω Ω λk R C=>?_;by_cases e:i=k
    ·subst e;simp at j;intro J;exact j J.1 J.2
    ·exact hk k Ω C
  ·have g:¬0≤i:=by simpa using g
   refine⟨λh=>(by cases h),λ⟨c,j,e1,U⟩=>?_⟩;obtain⟨k,l,rfl⟩:=L?.1 j;have:=hk k Ω l;rw[υ,δ l]at this;exact absurd ⟨e1,U⟩ this
def gL (w:List Cel)(id f:Int)(g:w.length<1000000):Tot (b7 w id f) λr=>r.2.1=true↔Wr w id f:=by
 simp[b7,k8,tt,il];rw[ap Ω Ω];exact vD w id f g FU _ Ω Ω (by rw[bm];omega) λk l j=>Ω
def FQ (c:Com)(id f:Int)(g:(ws c).length<1000000):Tot (fk c id f) λr=>r=true↔Wr (ws c) id f:=by simp[fk,mP,tt];exact(gL _ id f g).mono λ_ h=>h
def Bn (l:List Int)(R:l.length<1000000):∀(n:Nat) (i:Int),0≤i→i≤l.length→l.length-i<n→(∀j:Nat,j<i→∀x,l[j]? = some x→dW x)→Tot (qY n l i) λr=>r=true→∀x∈l,dW x
 |0,i,C,h1,h,_=>Ω
 |n+1,i,C,h1,h,hd=>by
  show Tot (pJ false some (qY n) l i) _;simp only[pJ,tt,il];refine⟨λf=>?_,λf _ x U=>?_⟩
  ·have f:i<l.length:=by simpa using f
   rw[ap (n:=i+1) Ω Ω];refine⟨aC C f,_,gt _,aj λ_=>aC C f,aj λh=>?_,aj λ_=>by simp[aL],λ_ h=>(by cases h),λp=>Bn l R n (i+1) Ω Ω Ω λj P x g=>?_⟩
   ·simp at h;rw[ap Ω Ω];exact aC Ω Ω
   ·by_cases e:(j:Int)=i
    ·have T:ix tInt l i=x:=by
      show l.getD i.toNat (zero tInt)=x;rw[←e,υ,ajN,g];rfl
     rw[T]at p;cases J:(decide (x>1048576)&&decide (x<34603008) && !decide (x.tmod 1048576=0))with
     |false=>rw[J]at p;simp at p
     |true=>simpa[dW,ajU]using J
    ·exact hd j Ω x g
  ·obtain⟨j,P,rfl⟩:=L?.1 U;have f:¬i<l.length:=by simpa using f
   exact hd j Ω _ (δ P)
def wR (l:List Int)(f:l.length<1000000):Tot (kW l) λr=>r=true→∀x∈l,dW x:=by
 simp only[kW,yI];exact Bn l f FU 0 Ω Ω (by rw[bm];omega) λj g=>Ω
def xY (c:Com)(l:c.2.2.2.1.length<1000000)(P:Prop)(g:P):∀(n:Nat) (i:Int),0≤i→i≤c.2.2.2.1.length→c.2.2.2.1.length-i<n→Tot (nz n c i) λ_=>P
 |0,i,j,p,h=>Ω
 |n+1,i,j,p,h=>by
  show Tot (lT false some (nz n) c i) _;simp only[lT,tt,il];refine⟨λf=>?_,λ_=>g⟩;have f:i<c.2.2.2.1.length:=by simpa using f
  rw[ap (n:=i+1) Ω Ω];exact⟨aC j f,aj λ_=>aC j f,λ_=>g,λ_=>xY c l P g n (i+1) Ω Ω Ω⟩
def IdK (c:Com):Prop:=dW c.1∧∀p∈c.2.1,dW p
def MH (c:Com)(g:c.2.1.length<1000000)(l:c.2.2.1.length<1000000)(J:c.2.2.2.1.length<1000000):Tot (lU c) λr=>r=true→IdK c:=by
 simp only[lU,uv,tt];have e:b8 c.1=some _:=gt c.1;obtain⟨j,P,C⟩:=wR _ g;have R:bz c.2.1=j:=by unfold bz;rw[P];rfl
 refine⟨_,e,aj λ_=>(wR _ g).some,aj λ_=>(wR _ l).some,aj λ_=>re _ _ g,aj λ_=>re _ _ l,λ_ h=>(by cases h),λh=>?_⟩;have p:IdK c:=by
  cases f:(decide (c.1>1048576)&&decide (c.1<34603008) && !decide (c.1.tmod 1048576=0))with
  |false=>rw[f]at h;simp at h
  |true=>
   refine⟨by simpa[dW,ajU]using f, ?_⟩;cases j with
   |false=>rw[f,R]at h;simp at h
   |true=>exact C rfl
 exact(xY c J (IdK c) p FU 0 Ω Ω (by rw[bm];omega)).mono λ_ h _=>h
def uJ (s:Sta)(id:Int)(f:cg s id 1=true):Tot (fQ s id) λ_=>True:=by
 simp only[fQ,Cg,tt,il];refine⟨f,λh=>aC Ω ?_⟩;have h:¬((iw s id 1).length:Int)=0:=by simpa using h
 omega
def NF (s:Sta)(w:List Cel)(id:Int)(g:cg s id 1=true)(f:w.length<1000000):Tot (l7 s w id) λ_=>True:=by simp[l7,uK,tt];exact(uJ s id g).mono λ_ _ _=>(gL w id 1 f).mono λ_ _=>trivial
def Q1 (f:Int):(gF f).isSome=true:=by simp[gF,qV,D6,SN];rw[aj λ_=>by simp[aL]];rfl
def IdC (x:Cel):Prop:=dW x.1∧RfI x.2.2.1.2.2.2.1
def KE (s:Sta)(c:Com)(x:Cel)(p:cg s x.1 1=true)(j:(ws c).length<1000000)(P:TxC x):Tot (jJ s c x) λr=>r=0→IdC x:=by
 simp only[jJ,rg,i9,kG,fT,kF,tt];refine⟨_,gt x.1,aj λ_=>Q1 _,λ_ h=>absurd h Ϛ,λC=>?_⟩;have l:dW x.1:=by
  cases g:(decide (x.1>1048576)&&decide (x.1<34603008) && !decide (x.1.tmod 1048576=0))with
  |false=>rw[g]at C;simp at C
  |true=>simpa[dW,ajU]using g
 refine(uJ s x.1 p).mono λ_ _=>⟨λ_=>⟨aj λ_=>by simp[aL],λ_ h=>absurd h Ϛ,λJ=>?_⟩,λ_=>(NF s _ x.1 p j).mono λ_ _=>⟨λ_ h=>absurd h Ϛ,λ_=>(Pt _ _ _ (ake P Ω)).mono λr R=>⟨λ_ h=>absurd h Ϛ,λh _=>⟨l,R (by simpa using h)⟩⟩⟩⟩;have f:IdC x:=by
  refine⟨l,.inl ?_⟩;cases g:eqD aM x.2.2.1 (x.2.2.1.1,false,[],0,())with
  |true=>rw[KI aM _ _ g]
  |false=>rw[g]at J;simp at J
 exact⟨λ_=>⟨λ_=>(gL _ _ _ j).mono λ_ _=>⟨λ_ _=>f,λ_ _=>f⟩,λ_=>(gL _ _ _ j).mono λ_ _=>⟨λ_ _=>f,λ_ _=>f⟩⟩,λ_ _=>f⟩
def yT (s:Sta)(c:Com)(P:∀id,cg s id 1=true)(J:(ws c).length<1000000)(C:∀x∈ws c,TxC x):∀(n:Nat) (i:Int),0≤i→i≤(ws c).length→(ws c).length-i<n→(∀j:Nat,j<i→∀x,(ws c)[j]? = some x→IdC x)→Tot (nM n s c i) λr=>r=0→∀x∈ws c,IdC x
 |0,i,p,h1,h,_=>Ω
 |n+1,i,p,h1,h,hd=>by
  show Tot (ml false some (nM n) s c i) _;simp only[ml,tt,il];refine⟨λf=>?_,λf _ x hm=>?_⟩
  ·have f:i<(ws c).length:=by simpa using f
   rw[ap (n:=i+1) Ω Ω];refine⟨aC p f,(KE s c _ (P _) J (C _ (iO (t:=tCell) p f))).mono λr T=>⟨λl e=>absurd e (by simpa using l),λl=>yT s c P J C n (i+1) Ω Ω Ω λj R x g=>?_⟩⟩;by_cases e:(j:Int)=i
   ·have U:ix tCell (ws c) i=x:=by
     show(ws c).getD i.toNat (zero tCell)=x;rw[←e,υ,ajN,g];rfl
    have:=T (by simpa using l);rw[←U];exact this
   ·exact hd j Ω x g
  ·obtain⟨j,R,rfl⟩:=L?.1 hm;have f:¬i<(ws c).length:=by simpa using f
   exact hd j Ω _ (δ R)
def NZ (s:Sta)(c:Com)(C:∀id,cg s id 1=true)(R:c.2.1.length<1000000)(P:c.2.2.1.length<1000000)(J:c.2.2.2.1.length<1000000)(l:(ws c).length<1000000)(p:∀x∈ws c,TxC x):Tot (mn s c) λr=>r=0→IdK c∧kM (ws c)∧∀x∈ws c,IdC x:=by simp only[mn,uU,tt];refine(MH c R P J).mono λr1 g=>⟨λ_ h=>absurd h Ϛ,λU=>(JQ (ws c) l).mono λr2 f=>⟨λ_ h=>absurd h Ϛ,λT=>?_⟩⟩;exact(yT s c C l p FU 0 Ω Ω (by rw[bm];omega) λj hj=>Ω).mono λ_ h e=>⟨g (by simpa using U),f (by simpa using T),h e⟩
def eC (l:List Com)(x:Int):Option Com:=l.find? λc=>decide (c.1=x)
def Br (l:List Com)(x:Int)(f:l.length<1000000):∀(n:Nat) (r p:List Com),l=p++r→r.length<n→rj n l x (p.length:Int)=some (match eC r x with|some c=>(c,true,())|none=>((0,[],[],[],[],()),false,()))
 |0,r,p,_,h=>Ω
 |n+1,r,p,e,h=>by
  subst e;show pS false some (rj n) (p++r) x p.length=_;simp only[pS,s2,il];cases r with
  |nil=>rw[QR (t:=tCommit)];rfl
  |cons c r=>
   have next:=Br (p++c::r) x f n r (p++[c]) Ψ (by simp at h;omega)
   rw[←QA (t:=tCommit) p c (by simp at f;omega)]at next
   rw[Kg (t:=tCommit),dh (t:=tCommit),aC Ω Ξ,next];simp[ck,eC];by_cases g:c.1=x
   ·simp[g]
   ·simp[g]
def Am (l:List Com)(x:Int)(f:l.length<1000000):iS l x=some (match eC l x with|some c=>(c,true,())|none=>((0,[],[],[],[],()),false,())):=by simp[iS,yW];exact Br l x f FU l [] rfl (by rw[bm];omega)
def fG (h:n≤4000000000):lm n=true:=by unfold lm LIM;exact H_ Ω
def InH (l:List Com)(x:Int):Prop:=∃c∈l,c.1=x
variable{l T:List Com}{c:Com}
def ET (h:eC l x=none):¬InH l x:=by rintro⟨c,f,e⟩;unfold eC at h;have:=List.find?_eq_none.1 h c f;simp[e]at this
def aD (l:List Com)(r:List Int):Prop:=∀x∈r,∀c,eC l x=some c→∀p∈c.2.1,InH l p→p∈r
def au:List Com→List Int→Nat
 |[],_=>0
 |c::l,out=>(if c.1∈out then 0 else c.2.1.length)+au l out
def Hp {out f:List Int}(h:∀y∈out,y∈f):∀l,au l f≤au l out
 |[]=>ζ _
 |c::l=>by
  have:=Hp h l;simp[au];by_cases g:c.1∈out
  ·simp[g,h _ g];omega
  ·by_cases j:c.1∈f <;> simp[g,j] <;> omega
def Ho {out f:List Int}{x:Int}(g:x∈f)(j:¬x∈out)(h:∀y∈out,y∈f):∀{l:List Com} {c:Com},eC l x=some c→au l f+c.2.1.length≤au l out
 |[],c,hc=>by simp[eC]at hc
 |d::l,c,hc=>by
  by_cases e:d.1=x
  ·have:d=c:=by simpa[eC,e]using hc
   subst this;have:=Hp h l;rw[←e]at g j;simp[au,g,j];omega
  ·have p:eC l x=some c:=by simpa[eC,e]using hc
   have:=Ho g j h p;simp[au];by_cases r:d.1∈out
   ·simp[r,h _ r];omega
   ·by_cases C:d.1∈f <;> simp[r,C] <;> omega
def aa7 (l:List Com)(f r:List Int):Prop:=(∀x∈f,InH l x→x∈r)∧aD l r
def vj (l:List Com)(T:List Int)(B:Nat)(hB:B<100000)(hs:l.length<1000000):∀(n:Nat) (out:List Int) (g:Nat) (f:List Int),g≤f.length→g+au l out<n→out.length+g+au l out≤B →
  (∀x∈T,InH l x→x∈out∨x∈f.take g)→(∀x∈out,∀c,eC l x=some c→∀p∈c.2.1,InH l p→p∈out∨p∈f.take g)→Tot (zr n l out g f) λr=>r.length≤B∧aa7 l T r
 |0,out,g,f,h1,h2,h3,h4,h5=>Ω
 |n+1,out,g,f,h1,h2,h3,h4,h5=>by
  show Tot (zt false some (zr n) l out g f) _;simp only[zt,tt,ni];refine⟨λJ=>?_,λJ=>?_⟩
  ·have J:0<g:=by simpa using J
   have e0:w64 ((g:Int)-1)=(g:Int)-1:=ap Ω Ω;have e1:((g:Int)-1).toNat=g-1:=Ω
   rw[e0,e1,Z'];obtain⟨k,rfl⟩:∃k,g=k+1:=⟨g-1,Ω⟩;rw[show k+1-1=k from rfl];have hk:k<f.length:=Ω
   have e2:f.getD k (zero tInt)=f[k]:=by rw[υ,δ hk];rfl
   rw[e2];have j:∀y,y∈f.take (k+1)↔y∈f.take k∨y=f[k]:=λy=>by rw[v_ hk,O',E']
   generalize hx:f[k]=x at *;refine⟨by simp;omega,by simp;omega,_,Am l x hs,aj λ_=>re _ _ Ω, ?_⟩;rw[EJ _ _ Ω];cases hf:eC l x with
   |none=>
    refine⟨λ_=>vj l T B hB hs n out k f Ω Ω Ω (λy C g=>?_) (λy C c hc p J g=>?_),λh=>by simp at h⟩
    ·obtain h|h:=h4 y C g
     ·exact .inl h
     ·rcases(j y).1 h with h|rfl
      ·exact .inr h
      ·exact absurd g (ET hf)
    ·obtain h|h:=h5 y C c hc p J g
     ·exact .inl h
     ·rcases(j p).1 h with h|rfl
      ·exact .inr h
      ·exact absurd g (ET hf)
   |some c=>
    dsimp only;refine⟨λh=>?_,λh=>?_⟩
    ·have hin:x∈out:=by simpa using h
     refine vj l T B hB hs n out k f Ω Ω Ω (λy C g=>?_) (λy C c hc p J g=>?_)
     ·obtain h|h:=h4 y C g
      ·exact .inl h
      ·rcases(j y).1 h with h|rfl
       ·exact .inr h
       ·exact .inl hin
     ·obtain h|h:=h5 y C c hc p J g
      ·exact .inl h
      ·rcases(j p).1 h with h|rfl
       ·exact .inr h
       ·exact .inl hin
    ·have hni:¬x∈out:=by simpa using h
     refine(MF out x Ω).mono λr2 R=>?_;have P:∀y∈out,y∈r2:=λy C=>(R.2 y).2 (.inl C);have hrest:=Ho ((R.2 x).2 (.inr rfl)) hni P hf;have U:(f.take k++c.2.1).take (k+c.2.1.length)=f.take k++c.2.1:=by apply V?;simp;omega
     refine⟨fG Ω,vj l T B hB hs n r2 _ _ Ξ Ω Ω (λy C g=>?_) (λy C d hd p J g=>?_)⟩
     ·rw[U,O'];obtain h|h:=h4 y C g
      ·exact .inl (P y h)
      ·rcases(j y).1 h with h|rfl
       ·exact .inr (.inl h)
       ·exact .inl ((R.2 _).2 (.inr rfl))
     ·rw[U,O'];rcases(R.2 y).1 C with C|rfl
      ·obtain h|h:=h5 y C d hd p J g
       ·exact .inl (P p h)
       ·rcases(j p).1 h with h|rfl
        ·exact .inr (.inl h)
        ·exact .inl ((R.2 _).2 (.inr rfl))
      ·rw[hf]at hd;cases hd;exact .inr (.inr J)
  ·have J:g=0:=by simpa using J
   subst J;refine⟨Ω,λx hx g=>?_,λx hx c hc p J g=>?_⟩
   ·obtain h|h:=h4 x hx g
    ·exact h
    ·simp at h
   ·obtain h|h:=h5 x hx c hc p J g
    ·exact h
    ·simp at h
def Few (l:List Com):Prop:=l.length≤20∧∀c∈l,c.2.1.length≤4
def Ss:∀(l:List Com),(∀c∈l,c.2.1.length≤4)→∀out,au l out≤4*l.length
 |[],_,_=>ζ _
 |c::l,h,out=>by have:=Ss l (λd f=>h d (J' _ f)) out;have:=h c (S' ..);simp[au];split <;> omega
def FF (l:List Com)(f:List Int)(j:Few l)(p:f.length≤1000):Tot (nY l f) λr=>r.length≤2000∧aa7 l f r:=by simp only[nY,K4,tt,List.take_nil,t_,Z'];have J:=Ss l j.2 [];have C:=j.1;refine⟨fG Ω,vj l f 2000 Ω Ω FU [] f.length f Ω (by rw[bm];omega) Ξ (λx g _=>.inr (by simpa using g)) (λx g=>by cases g)⟩
def O6 (l:List Com)(a b:Int)(f:Few l):Tot (mF l a b) λ_=>True:=by simp[mF,vi,tt];have h:=FF l [b] f Ψ;exact⟨aj λ_=>h.some,aj λ_=>re _ _ (U? (h.getD []).1 Ω)⟩
def AM (l:List Com)(f:List Int)(R:Few l)(p:f.length≤1000)(k:ft (List Int))(out:List Int)(i:Int)(P:0≤i)(J:i<f.length)(U:out.length≤i)(C:∀out:List Int,out.length≤i+1→Tot (k l f out (i+1)) λr=>r.length≤f.length):∀(n:Nat) (ok:Bool) (j:Int),0≤j→j≤f.length→f.length-j<n→Tot (oR k n l f out i ok j) λr=>r.length≤f.length
 |0,ok,j,T,h3,h=>Ω
 |n+1,ok,j,T,h3,h=>by
  show Tot (rU false some (oR k n) k l f out i ok j) _;simp only[rU,oT,oU,tt,il];rw[ap (n:=i+1) Ω Ω];refine⟨λg=>?_,λ_=>⟨λ_=>⟨aC P J,(MF out _ Ω).mono λr hr=>C r Ω⟩,λ_=>C out Ω⟩⟩;have g:j<f.length:=by simp at g;exact g.2
  rw[ap (n:=j+1) Ω Ω];have r:=λok=>AM l f R p k out i P J U C n ok (j+1) Ω Ω Ω;exact⟨aC P J,aC T g,(O6 l _ _ R).mono λ_ _=>⟨λ_=>r _,λ_=>r _⟩⟩
def AN (l:List Com)(f:List Int)(p:Few l)(g:f.length≤1000):∀(n:Nat) (out:List Int) (i:Int),0≤i→i≤f.length→out.length≤i→f.length-i<n→Tot (uf n l f out i) λr=>r.length≤f.length
 |0,out,i,C,P,J,h=>Ω
 |n+1,out,i,C,P,J,h=>by
  show Tot (rV false some (oR (uf n) FU) l f out i) _;simp only[rV,tt,il];refine⟨λj=>?_,λ_=>Ω⟩;have j:i<f.length:=by simpa using j
  refine⟨aC C j,_,Am l _ (by have:=p.1;omega), ?_⟩;exact AM l f p g _ out i C j J (λout R=>AN l f p g n out (i+1) Ω Ω Ω Ω) FU _ 0 Ω Ω (by rw[bm];omega)
def Un (l:List Com)(f:List Int)(j:Few l)(g:f.length≤1000):Tot (rW l f) λr=>r.length≤f.length:=by simp[rW,BZ];exact AN l f j g FU [] 0 Ω Ω Ψ (by rw[bm];omega)
def yK (l:List Com)(p:Few l)(k:bK (List Int))(out:List Int)(i:Int)(P:0≤i)(J:i<l.length)(R:out.length≤i)(g:∀out:List Int,out.length≤i+1→Tot (k l out (i+1)) λr=>r.length≤l.length):∀(n:Nat) (head:Bool) (j:Int),0≤j→j≤l.length→l.length-j<n→Tot (mf k n l out i head j) λr=>r.length≤l.length
 |0,ok,j,C,T,h=>Ω
 |n+1,ok,j,C,T,h=>by
  show Tot (pK false some (mf k n) k l out i ok j) _;have:=p.1;simp only[pK,kX,tt,il];rw[ap (n:=i+1) Ω Ω,ap (n:=j+1) Ω Ω];refine⟨λf=>?_,λ_=>⟨λ_=>⟨aC P J,by simp[lm,LIM];omega,g _ Ξ⟩,λ_=>g out Ω⟩⟩;have f:j<l.length:=by simpa using f
  refine⟨aj λ_=>aC C f,aj λ_=>aC P J,aj λ_=>re _ _ ?_,yK l p k out i P J R g n _ (j+1) Ω Ω Ω⟩;have:=p.2 _ (iO (t:=tCommit) C f);omega
def yL (l:List Com)(g:Few l):∀(n:Nat) (out:List Int) (i:Int),0≤i→i≤l.length→out.length≤i→l.length-i<n→Tot (rc n l out i) λr=>r.length≤l.length
 |0,out,i,p,C,j,h=>Ω
 |n+1,out,i,p,C,j,h=>by
  show Tot (pM false some (mf (rc n) FU) l out i) _;have:=g.1;simp[pM,tt,il];refine⟨λf=>?_,λ_=>Ω⟩;have f:i<l.length:=by simpa using f
  exact yK l g _ out i p f j (λout J=>yL l g n out (i+1) Ω Ω Ω Ω) FU _ 0 Ω Ω (by rw[bm];omega)
def Q8 (l:List Com)(f:Few l):Tot (pO l) λr=>r.length≤l.length:=by have:=f.1;simp[pO,yJ];exact yL l f FU [] 0 Ω Ω Ψ (by rw[bm];omega)
def tM (s:Sta)(id f:Int):iw s id f=[]∨∃x∈s.1,x.1=id∧x.2.1=f∧x.2.2.1=iw s id f:=by
 unfold iw;cases g:mE s id f with
 |nil=>exact .inl rfl
 |cons x r=>
  simp only;split
  next h=>refine .inr ⟨x, ?_,h.1,h.2,rfl⟩;rw[B0 s id f,g];simp
  ·exact .inl rfl
def abo (T:s.1.Pairwise jS)(id f:Int){l:List Alt}(hne:l≠[]):(oh s id f l).1.Pairwise jS∧(oh s id f l).1.length≤s.1.length+1∧∀x∈(oh s id f l).1,(x∈s.1∧¬(x.1=id∧x.2.1=f))∨x=(id,f,l,()):=by
 have hs:=B0 s id f;have hp:∀x∈before s id f,ahd x.1 x.2.1 id f=true:=vH _ _;have hh:∀x r,mE s id f=x::r→ahd x.1 x.2.1 id f=false:=tE _ _;have he:l.isEmpty=false:=by cases l with|nil=>exact absurd rfl hne|cons _ _=>rfl
 have C:=T;rw[hs,y_]at C;have R:∀P,P.Pairwise jS→(∀y∈P,y∈s.1∧ahd id f y.1 y.2.1=true)→(before s id f).length+P.length≤s.1.length→(before s id f++[(id,f,l,())]++P).Pairwise jS∧(before s id f++[(id,f,l,())]++P).length≤s.1.length+1∧∀x∈before s id f++[(id,f,l,())]++P,(x∈s.1∧¬(x.1=id∧x.2.1=f))∨x=(id,f,l,()):=by
  intro P k2 U k5;refine⟨?_,by simp;omega,λx j=>?_⟩
  ·rw[w_,y_];refine⟨C.1, ?_,λx j y g=>?_⟩
   ·rw[List.singleton_append,j_];exact⟨λy g=>(U y g).2,k2⟩
   ·obtain g|g:=O'.1 g
    ·rw[E'.1 g];exact hp x j
    ·exact k6 (hp x j) (U y g).2
  ·simp only[O',E']at j;rcases j with(j|j)|j
   ·refine .inl ⟨by rw[hs];exact S_ _ j,λe=>?_⟩;have:=hp x j;rw[e.1,e.2,kL]at this;omega
   ·exact .inr j
   ·refine .inl ⟨(U x j).1,λe=>?_⟩;have:=(U x j).2;rw[e.1,e.2,kL]at this;omega
 have p:(before s id f).length+(mE s id f).length=s.1.length:=by rw[←List.length_append,←hs]
 unfold oh;simp only[he,ai5,ajp];cases hq:mE s id f with
 |nil=>exact R [] List.Pairwise.nil (λy g=>by cases g) (by rw[hq]at p;simpa using Nat.le_of_eq p)
 |cons x r=>
  rw[hq]at C p;have j:=hh x r hq;have J:∀y∈x::r,y∈s.1:=λy g=>by rw[hs,hq];exact aiN _ g
  have hr:=j_.1 C.2.1;by_cases e:x.1=id∧x.2.1=f
  ·simp only[Wf,β e];refine R r hr.2 (λy g=>⟨J y (J' _ g), ?_⟩) (by simp at p;omega);have:=hr.1 y g;unfold jS at this;rwa[e.1,e.2]at this
  ·simp only[Wf,B' e];have h1:ahd id f x.1 x.2.1=true:=T0 j e;refine R (x::r) C.2.1 (λy g=>⟨J y g, ?_⟩) Ω;obtain rfl|g:=C'.1 g
   ·exact h1
   ·exact k6 h1 (hr.1 y g)
def Alv (T:List Com)(C:List (List Int))(g:Int)(id f:Int):Prop:=∀j<T.length,¬(T.getD j (zero tCommit)).1=g→Wr (ws (T.getD j (zero tCommit))) id f→¬g∈C.getD j []
structure StI (T:List Com)(C:List (List Int))(N:Nat)(s:List Slt):Prop where
 asc:s.Pairwise jS
 len:s.length≤N
 alts:∀x∈s,x.2.2.1≠[]∧x.2.2.1.length≤N
 srt:∀x∈s,x.2.2.1.Pairwise λa b=>a.1<b.1
 txt:∀x∈s,∀a∈x.2.2.1,TxV a.2.1
 src:∀x∈s,∀a∈x.2.2.1,∃c∈T,c.1=a.1∧Wr (ws c) x.1 x.2.1∧Alv T C c.1 x.1 x.2.1
def StI.mono {j :Nat}{s:List Slt}(h:StI T C N s)(g:N≤j):StI T C j s :=
 ⟨h.asc,Θ h.len g,λx f=>⟨(h.alts x f).1,Θ (h.alts x f).2 g⟩,h.srt,h.txt,h.src⟩
def StI.place {s:List Slt}(h:StI T C N s)(g:N≤1000000)(id f:Int):cg (s,()) id f=true:=by unfold cg adG;rw[κ];have:=h.len;exact⟨H_ (show s.length≤1048576 by omega),H_ h.asc⟩
def StI.stg {s:List Slt}(h:StI T C N s)(j:N≤1000000):stG (s,())=true:=by unfold stG acz;rw[κ];have:=h.len;refine⟨H_ (show s.length≤1048576 by omega),T'.2 λx f=>?_⟩;have:=h.alts x f;rw[κ];refine⟨by cases g:x.2.2.1 with|nil=>exact absurd g this.1|cons _ _=>rfl,H_ Ω⟩
structure Rep0 (T:List Com)(C:List (List Int)):Prop where
 few:T.length≤20
 asc:T.Pairwise λa b=>a.1<b.1
 ord:∀c∈T,kM (ws c)
 txt:∀c∈T,∀x∈ws c,TxC x
 wl:∀c∈T,(ws c).length<1000000
 ab:C.length=T.length
 al:∀r∈C,r.length<1000000
def abN {f wr:List Cel}{w:Cel}(h:kM (f++w::wr)):¬Wr f w.1 w.2.1:=by rintro⟨c,g,l,j⟩;have:=(y_.1 h).2.2 c g w (S' ..);rw[l,j,kL]at this;omega
def Mr {T:List Com}{C:List (List Int)}(h0:Rep0 T C){P R:List Com}{c:Com}(hT:T=P++c::R){wp wr:List Cel}{w:Cel}(hw:ws c=wp++w::wr)(k0:bG Sta)(k:bY Sta)(Q:Sta→Prop)(N:Nat)(hN:N≤500000)(b:List Slt)(p:StI T C N b)
  (r:∀x∈b,∀a∈x.2.2.1,a.1≤c.1∧(a.1=c.1→Wr wp x.1 x.2.1))
  (hk:∀b',StI T C (N+1) b'→(∀x∈b',∀a∈x.2.2.1,a.1≤c.1∧(a.1=c.1→Wr (wp++[w]) x.1 x.2.1))→Tot (k T C P.length ((wp.length:Int)+1) b') Q) :
  ∀(n:Nat) (al:Bool) (j:Nat),j≤T.length→T.length-j<n→(al=true→∀j'<j,¬(T.getD j' (zero tCommit)).1=c.1→Wr (ws (T.getD j' (zero tCommit))) w.1 w.2.1→¬c.1∈C.getD j' [])→Tot (g7 k0 k n T C P.length wp.length b al j) Q
 |0,al,j,h1,h2,h3=>Ω
 |n+1,al,j,h1,h2,h3=>by
  show Tot (jt false some (g7 k0 k n) k T C P.length wp.length b al j) _;have hPi:(P.length:Int)<T.length:=by rw[hT];simp;omega
  have ec:ix tCommit T (P.length:Int)=c:=by rw[hT];exact dh (t:=tCommit) P c R
  have ew:ix tCell c.2.2.2.2.1 (wp.length:Int)=w:=by show ix tCell (ws c) _=w;rw[hw];exact dh (t:=tCell) wp w wr
  have hwl:(ws c).length<1000000:=h0.wl c (by rw[hT];simp);have hwp:wp.length<1000000:=by rw[hw]at hwl;simp at hwl;omega
  have hfew:=h0.few;simp only[jt,dJ,tt,il,t_];rw[ec,ew,ap (n:=(wp.length:Int)+1) Ω Ω,ap (n:=(j:Int)+1) Ω Ω];refine⟨λhj=>?_,λhj=>⟨λf=>?_,λ_=>?_⟩⟩
  ·have hja:j<T.length∧al=true:=by
    simp at hj;exact⟨Ω,hj.2⟩
   have hjt:(j:Int)<T.length:=Ω
   have hjn:=hja.1;have etj:ix tCommit T (j:Int)=T.getD j (zero tCommit):=rfl;have eaj:ix (.slice tInt) C (j:Int)=C.getD j []:=rfl;have hmem:T.getD j (zero tCommit)∈T:=iO (t:=tCommit) Ω hjt;have hwr:=FQ (T.getD j (zero tCommit)) w.1 w.2.1 (h0.wl _ hmem);have hal:(C.getD j []).length<1000000:=h0.al _ (by rw[υ,δ (by rw[h0.ab];exact hjn)];exact e_ _);rw[etj,eaj,EJ _ _ hal];have hG:CC (T.getD j (zero tCommit)) w.1 w.2.1=true:=hwr.some;have hF:eI (T.getD j (zero tCommit)) w.1 w.2.1=true↔Wr (ws (T.getD j (zero tCommit))) w.1 w.2.1:=hwr.getD (zero .bool);refine⟨aj λ_=>aC Ω hjt,aj λ_=>hG,aj λ_=>aC Ω (by rw[h0.ab];omega),aj λ_=>aC Ω hPi,aj λ_=>re _ _ hal, ?_⟩;refine Mr h0 hT hw k0 k Q N hN b p r hk n _ (j+1) Ω Ω λf j' hj' hne hW=>?_;by_cases e:j'=j
   ·subst e;have hji:¬(j':Int)=P.length:=λe=>hne (by rw[←etj,e,ec]);rw[hF.2 hW]at f;simpa[hji]using f
   ·exact h3 hja.2 j' Ω hne hW
  ·subst f;have hjl:T.length≤j:=by
    by_cases e:j<T.length
    ·simp[show(j:Int)<T.length by omega]at hj
    ·omega
   have halv:Alv T C c.1 w.1 w.2.1:=λj' hj'=>h3 rfl j' Ω;have hpl:=p.place Ω w.1 w.2.1;have hlenA:(iw (b,()) w.1 w.2.1).length≤N:=by
    rcases tM (b,()) w.1 w.2.1 with e|⟨x,g,_,_,e⟩
    ·rw[e];simp
    ·rw[←e];exact(p.alts x g).2
   have hlt:∀a∈iw (b,()) w.1 w.2.1,a.1<c.1:=λa f=>by
    rcases tM (b,()) w.1 w.2.1 with e|⟨x,g,e1,e2,e⟩
    ·rw[e]at f;cases f
    ·rw[←e]at f;have h1:=r x g a f;by_cases h2:a.1=c.1
     ·have:=h1.2 h2;rw[e1,e2]at this;exact absurd this (abN (hw ▸ h0.ord c (by rw[hT];simp)))
     ·exact Int.lt_iff_le_and_ne.2 ⟨h1.1,h2⟩
   have J:=abo p.asc w.1 w.2.1 (s:=(b,())) (l:=iw (b,()) w.1 w.2.1++[(c.1,w.2.2.1,())]) Ψ;have U:∀x∈(oh (b,()) w.1 w.2.1 (iw (b,()) w.1 w.2.1++[(c.1,w.2.2.1,())])).1,x∈b∨x=(w.1,w.2.1,iw (b,()) w.1 w.2.1++[(c.1,w.2.2.1,())],()):=λx g=>(J.2.2 x g).imp (·.1) λf=>f;have hold:∀a∈iw (b,()) w.1 w.2.1,∃x∈b,x.1=w.1∧x.2.1=w.2.1∧a∈x.2.2.1:=λa f=>by
    rcases tM (b,()) w.1 w.2.1 with e|⟨x,g,e1,e2,e⟩
    ·rw[e]at f;cases f
    ·exact⟨x,g,e1,e2,e ▸ f⟩
   refine⟨hpl,fG Ξ,aC Ω hPi,fG Ξ,hpl,hk _ ⟨J.1,Θ J.2.1 (by have:=p.len;simp;omega),λx g=>?_,λx g=>?_,λx g a f=>?_,λx g a f=>?_⟩ λx g a f=>?_⟩
   ·obtain g|rfl:=U x g
    ·exact⟨(p.alts x g).1,Nat.le_succ_of_le (p.alts x g).2⟩
    ·exact⟨Ψ,by simp;omega⟩
   ·obtain g|rfl:=U x g
    ·exact p.srt x g
    ·show(iw (b,()) w.1 w.2.1++[(c.1,w.2.2.1,())]).Pairwise _;rw[y_];refine⟨?_,Ψ,λa f d hd=>?_⟩
     ·rcases tM (b,()) w.1 w.2.1 with e|⟨x,g,e1,e2,e⟩
      ·rw[e];exact List.Pairwise.nil
      ·rw[←e];exact p.srt x g
     ·rw[E'.1 hd];exact hlt a f
   ·obtain g|rfl:=U x g
    ·exact p.txt x g a f
    ·obtain f|f:=O'.1 f
     ·obtain⟨y,hy,_,_,h⟩:=hold a f;exact p.txt y hy a h
     ·rw[E'.1 f];exact h0.txt c (by rw[hT];simp) w (by rw[hw];simp)
   ·obtain g|rfl:=U x g
    ·exact p.src x g a f
    ·obtain f|f:=O'.1 f
     ·obtain⟨y,hy,e1,e2,h⟩:=hold a f;have:=p.src y hy a h;rwa[e1,e2]at this
     ·rw[E'.1 f];exact⟨c,by rw[hT];simp,rfl,⟨w,by rw[hw];simp,rfl,rfl⟩,halv⟩
   ·obtain g|rfl:=U x g
    ·have:=r x g a f;refine⟨this.1,λe=>?_⟩;obtain⟨d,hd,h⟩:=this.2 e;exact⟨d,S_ _ hd,h⟩
    ·obtain f|f:=O'.1 f
     ·have:=hlt a f;exact⟨ajQ this,λe=>absurd e (ajO this)⟩
     ·rw[E'.1 f];exact⟨Int.le_refl _,λ_=>⟨w,Ψ,rfl,rfl⟩⟩
  ·exact hk b (p.mono Ω) λx g a f=>⟨(r x g a f).1,λe=>by
    obtain⟨d,hd,h⟩:=(r x g a f).2 e;exact⟨d,S_ _ hd,h⟩⟩
def cW:List Com→Nat
 |[]=>0
 |c::l=>(ws c).length+cW l
def dH (a b:List Com):cW (a++b)=cW a+cW b:=by
 induction a with
 |nil=>simp[cW]
 |cons c a f=>simp[cW,f];omega
def Ms {T:List Com}{C:List (List Int)}(J:Rep0 T C){P R:List Com}{c:Com}(j:T=P++c::R)(g:bG Sta)(Q:Sta→Prop)(M:Nat)(hM:M≤500000)(hk:∀p,StI T C M p→(∀x∈p,∀a∈x.2.2.1,a.1≤c.1)→Tot (g T C ((P.length:Int)+1) p) Q) :
  ∀(n:Nat) (wr f:List Cel) (N:Nat) (b:List Slt),ws c=f++wr→wr.length<n→N+wr.length≤M→StI T C N b→(∀x∈b,∀a∈x.2.2.1,a.1≤c.1∧(a.1=c.1→Wr f x.1 x.2.1))→Tot (g9 g n T C P.length f.length b) Q
 |0,wr,f,N,b,r,h2,h3,h4,h5=>Ω
 |n+1,wr,f,N,b,r,h2,h3,h4,h5=>by
  show Tot (ju false some (g7 g (g9 g n) FU) g T C P.length f.length b) _;have hfew:=J.few;have l:(P.length:Int)<T.length:=by rw[j];simp;omega
  have ec:ix tCommit T (P.length:Int)=c:=by rw[j];exact dh (t:=tCommit) P c R
  have hwl:(ws c).length<1000000:=J.wl c (by rw[j];simp);simp only[ju,tt,il];rw[ec,ap (n:=(P.length:Int)+1) Ω Ω];show bd _ _=true∧(decide ((f.length:Int)<((ws c).length:Int))=true→bd _ _=true∧bd (f.length:Int) (ws c).length=true∧_)∧(decide ((f.length:Int)<((ws c).length:Int))=false→_);refine⟨aC Ω l,λh=>⟨aC Ω l,aC Ω (by simpa using h), ?_⟩,λ_=>hk b (h4.mono Ω) λx hx a ha=>(h5 x hx a ha).1⟩;cases wr with
  |nil=>rw[r]at h;simp at h
  |cons w wr =>refine Mr J j r g _ Q N Ω b h4 h5 (λp hb' U=>?_) FU true 0 Ω (by rw[bm];omega) (λ_ j' hj'=>Ω);have:=Ms J j g Q M hM hk n wr (f++[w]) (N+1) p (by rw[r];simp) (by simp at h2;omega) (by simp at h3;omega) hb' U;simpa using this
def Mt {T:List Com}{C:List (List Int)}(j:Rep0 T C)(hM:cW T≤500000):∀(n:Nat) (R P:List Com) (b:List Slt),T=P++R→R.length<n→StI T C (cW P) b→(∀x∈b,∀a∈x.2.2.1,∀d∈R,a.1<d.1)→Tot (hO n T C P.length b) λs=>StI T C (cW T) s.1
 |0,R,P,b,g,h2,h3,h4=>Ω
 |n+1,R,P,b,g,h2,h3,h4=>by
  show Tot (jv false some (g9 (hO n) FU) T C P.length b) _;have p:cW P+cW R=cW T:=by rw[g,dH]
  simp[jv,tt,il];refine⟨λh=>?_,λ_=>h3.mono Ω⟩;cases R with
  |nil=>rw[g]at h;simp at h
  |cons c R=>
   simp[cW]at p;have hwl:(ws c).length<1000000:=j.wl c (by rw[g];simp);have f:=j.asc;rw[g,y_]at f;have J:=(j_.1 f.2.1).1;refine Ms j g _ _ (cW P+(ws c).length) Ω (λb' U r=>?_) FU (ws c) [] (cW P) b rfl (by rw[bm];omega) Ω h3 λx l a ha=>?_
   ·have:=Mt j hM n R (P++[c]) b' (by rw[g];simp) (by simp at h2;omega) (by rw[dH];simpa[cW]using U) λx l a ha d hd=>Int.lt_of_le_of_lt (r x l a ha) (J d hd);simpa using this
   ·have:=h4 x l a ha c (S' ..);exact⟨ajQ this,λe=>absurd e (ajO this)⟩
def Ib (a b:List J)(d:J){j:Nat}(h:j<a.length):(a++b).getD j d=a.getD j d:=by simp[υ,ο h]
def Ic (a:List J)(x d:J):(a++[x]).getD a.length d=x:=by simp[υ]
structure H0 (l:List Com):Prop where
 few:l.length≤20
 asc:l.Pairwise λa b=>a.1<b.1
 par:∀c∈l,c.2.1.length≤4
 ord:∀c∈l,kM (ws c)
 txt:∀c∈l,∀x∈ws c,TxC x
 sum:cW l≤500000
 ids:∀c∈l,∀x∈ws c,IdC x
 pic:∀c∈l,c.2.2.1.length≤4
 val:∀c∈l,IdK c
def H0.isFew (h:H0 l):Few l:=⟨h.few,h.par⟩
def k7 (h:c∈l):(ws c).length≤cW l:=by
 induction l with
 |nil=>cases h
 |cons d l f=>
  simp[cW];obtain rfl|h:=C'.1 h
  ·omega
  ·have:=f h;omega
def AtP (l:List Com)(s:Sta):Prop:=∃T C,(∀c∈T,c∈l)∧(∀j<T.length,aa7 l [(T.getD j (zero tCommit)).1] (C.getD j []))∧StI T C (cW l) s.1
def Su (l:List Com)(hl:H0 l)(only:List Int)(ho:only.length<1000000):∀(n:Nat) (R P T:List Com) (C:List (List Int)),l=P++R→R.length<n→(∀c∈T,c∈P)→(T.Pairwise λa b=>a.1<b.1)→T.length≤P.length→cW T≤cW P→C.length=T.length→(∀j<T.length,aa7 l [(T.getD j (zero tCommit)).1] (C.getD j []))→(∀r∈C,r.length<1000000)→Tot (jr n l only T C P.length) (AtP l)
 |0,R,P,T,C,p,h2,_,_,_,_,_,_,_=>Ω
 |n+1,R,P,T,C,p,h2,h3,h4,h5,h6,h7,h8,h9=>by
  show Tot (lQ false some (jr n) (hO FU) l only T C P.length) _;have J:=hl.few;have hws:cW P+cW R=cW l:=by rw[p,dH]
  have hsum:=hl.sum;have hP:P.length≤20:=by rw[p]at J;simp at J;omega
  simp only[lQ,eV,tt,il];rw[ap (n:=(P.length:Int)+1) Ω Ω];refine⟨λh=>?_,λ_=>?_⟩
  ·cases R with
   |nil=>rw[p]at h;simp at h
   |cons c R=>
    have hPl:(P.length:Int)<l.length:=by simpa using h
    have ec:ix tCommit l (P.length:Int)=c:=by rw[p];exact dh (t:=tCommit) P c R
    have hcl:c∈l:=by rw[p];simp
    have U:=hl.asc;rw[p,y_]at U;have next:∀(T:List Com) (C:List (List Int)),(∀c'∈T,c'∈P++[c])→(T.Pairwise λa b=>a.1<b.1)→T.length≤P.length+1→cW T≤cW (P++[c])→C.length=T.length→(∀j<T.length,aa7 l [(T.getD j (zero tCommit)).1] (C.getD j []))→(∀r∈C,r.length<1000000)→Tot (jr n l only T C ((P.length:Int)+1)) (AtP l):=λT C a1 a2 a3 a4 a5 a6 a7=>by have:=Su l hl only ho n R (P++[c]) T C (by rw[p];simp) (by simp at h2;omega) a1 a2 (by simpa using a3) a4 a5 a6 a7;simpa using this
    rw[ec];refine⟨aC Ω hPl,_,Cl only _ ho,λ_=>⟨aC Ω hPl,fG Ξ,aC Ω hPl,(FF l [c.1] hl.isFew Ψ).mono λr hr=>⟨fG Ξ,next _ _ (λd hd=>?_) ?_ Ξ (by rw[dH,dH];simp[cW];omega) Ξ (λj hj=>?_) (λr' hr'=>?_)⟩⟩,λ_=>next T C (λd hd=>S_ _ (h3 d hd)) h4 Ω (by rw[dH];omega) h7 h8 h9⟩
    ·obtain hd|hd:=O'.1 hd
     ·exact S_ _ (h3 d hd)
     ·exact aiN _ hd
    ·rw[y_];exact⟨h4,Ψ,λa ha b hb=>U.2.2 a (h3 a ha) b (by rw[E'.1 hb];simp)⟩
    ·by_cases e:j<T.length
     ·rw[Ib _ _ _ e,Ib _ _ _ Ω];exact h8 j e
     ·have e:j=T.length:=by simp at hj;omega
      subst e;rw[Ic,←h7,Ic];exact hr.2
    ·obtain h|h:=O'.1 hr'
     ·exact h9 r' h
     ·rw[E'.1 h];have:=hr.1;omega
  ·have g:∀c∈T,c∈l:=λc hc=>by rw[p];exact S_ _ (h3 c hc)
   have h0:Rep0 T C:=⟨Ω,h4,λc hc=>hl.ord c (g c hc),λc hc=>hl.txt c (g c hc),λc hc=>by have:=k7 (g c hc);omega,h7,h9⟩;exact(Mt h0 Ω FU T [] [] rfl (by rw[bm];omega) ⟨List.Pairwise.nil,Ψ,λx f=>(by cases f),λx f=>(by cases f),λx f=>(by cases f),λx f=>(by cases f)⟩ λx f=>by cases f).mono λs hs=>⟨T,C,g,h8,hs.mono Ω⟩
def Mn (l:List Com)(f:H0 l)(only:List Int)(p:only.length<1000000):Tot (lR l only) (AtP l):=by
 have:=f.few;simp[lR,uq];exact Su l f only p FU l [] [] [] rfl (by rw[bm];omega) (λc J=>by cases J) List.Pairwise.nil Ψ (by simp[cW]) rfl (λj C=>by simp at C) λr g=>by cases g
def IJ (l:List Com)(g:H0 l)(f:List Int)(p:f.length≤1000):Tot (pY l f) (AtP l):=by simp[pY,Ct,tt];exact(FF l f g.isFew p).mono λr j=>(Mn l g r (by have:=j.1;omega)).mono λ_ h=>h
def adF (l:List Com)(f:H0 l):Tot (FE l) (AtP l):=by have:=f.few;simp[FE,TR,uS,yM,tt];exact(Q8 l f.isFew).mono λr g=>(IJ l f r Ω).mono λ_ h=>h
def bU (x n:Int)(g:1≤n)(f:n≤4000000000):Tot (mod2_ev x n) λr=>0≤r∧r<n:=by
 simp only[mod2_ev,Ke,tt];have l:=aiF x (show 0<n by omega);have j : -n<x.tmod n:=by have:=aiF (-x) (show 0<n by omega);rw[Int.neg_tmod]at this;omega
 refine⟨λh=>by simp at h;omega,λ_=>⟨by simp;omega,by simp;omega, ?_⟩⟩;rw[ap Ω Ω];exact⟨Int.tmod_nonneg _ Ω,aiF _ Ω⟩
def iI (l:List Int)(x:Int)(g:l.length<1000000):Tot (bk l x) λr=>r=0∨r∈l:=by
 simp only[bk,B6,tt,il];refine⟨λ_=>.inl trivial,λh=>?_⟩;have h:¬(l.length:Int)=0:=by simpa using h
 exact(bU x l.length Ω Ω).mono λr f=>⟨aC f.1 f.2,.inr (iO (t:=tInt) f.1 f.2)⟩
def Sh (s:Str):Prop:=s.length<1000
def tX (k x:Int):Tot (je k x) Sh:=by simp[je,BX,tt];refine(bU x 5 Ω Ω).mono λr _=>?_;simp[Sh]
def LL (x:Int):Tot (lD x) Sh:=by simp[lD,ud,tt];refine(bU x 5 Ω Ω).mono λr _=>?_;simp[Sh]
def Ey (x:Int):Tot (qT x) Sh:=by simp only[qT,Kl,tt];exact(bU x 26 Ω Ω).mono λr _=>⟨by decide,(bU _ 25 Ω Ω).mono λr _=>by simp[Sh]⟩
structure St1 (s:Sta):Prop where
 asc:s.1.Pairwise jS
 len:s.1.length<1000000
 alts:∀x∈s.1,x.2.2.1≠[]∧x.2.2.1.length<1000000
 txt:∀x∈s.1,∀a∈x.2.2.1,TxV a.2.1
def AtP.st1 (h:AtP l s)(g:H0 l):St1 s:=by obtain⟨T,C,_,_,h⟩:=h;have:=g.sum;exact⟨h.asc,by have:=h.len;omega,λx f=>⟨(h.alts x f).1,by have:=(h.alts x f).2;omega⟩,h.txt⟩
def St1.place (h:St1 s)(id f:Int):cg s id f=true:=by unfold cg adG;rw[κ];have:=h.len;exact⟨H_ Ω,H_ h.asc⟩
def St1.stg (h:St1 s):stG s=true:=by unfold stG acz;rw[κ];have:=h.len;refine⟨H_ Ω,T'.2 λx f=>?_⟩;have:=h.alts x f;rw[κ];refine⟨by cases g:x.2.2.1 with|nil=>exact absurd g this.1|cons _ _=>rfl,H_ Ω⟩
def WJ:TxV (0,false,[],0,()):=by simp[TxV]
def UT (h:St1 s)(id f:Int):Tot (fP s id f) TxV:=by
 simp only[fP,B5,tt,il];refine⟨h.place id f,λ_=>WJ,λg=>?_⟩;have g:¬((iw s id f).length:Int)=0:=by simpa using g
 refine⟨aC Ω Ω, ?_⟩;obtain e|⟨x,j,_,_,e⟩:=tM s id f
 ·rw[e]at g;simp at g
 ·exact h.txt x j _ (by rw[e];exact iO (t:=eM) Ω Ω)
def YH (h:St1 s):(∀c∈(eY s).1,TxC c∧∃x∈s.1,x.1=c.1∧x.2.1=c.2.1)∧(eY s).1.length≤s.1.length:=by
 refine⟨λc g=>?_,Vq s⟩;simp only[eY,s_,C?]at g;obtain⟨x,⟨f,_⟩,rfl⟩:=g;refine⟨?_,x,f,rfl,rfl⟩;show TxV (tu x);unfold tu;cases j:x.2.2.1 with
 |nil=>exact WJ
 |cons a r=>exact h.txt x f a (by rw[j];simp)
def mv {s:Sta}(h:St1 s)(f:Int):∀(n:Nat) (out:List Int) (i:Int),0≤i→i≤s.1.length→out.length≤i→s.1.length-i<n→Tot (jb n f s out i) λr=>r.length≤s.1.length
 |0,out,i,j,C,p,l=>Ω
 |n+1,out,i,j,C,p,l=>by
  show Tot (ip false some (jb n) f s out i) _;have J:=h.len;simp only[ip,iq,tt,il];refine⟨λg=>?_,λ_=>Ω⟩;have g:i<s.1.length:=by simpa using g
  rw[ap (n:=i+1) Ω Ω];exact⟨aC j g,aj λ_=>aC j g,aj λ_=>(uJ s _ (h.place _ 1)).some,aj λ_=>by simp[aL],λ_=>⟨aC j g,fG Ξ,mv h f n _ _ Ω Ω Ξ Ω⟩,λ_=>mv h f n _ _ Ω Ω Ω Ω⟩
def di (h:St1 s)(f:Int):Tot (aS s f) λr=>r.length≤s.1.length:=by have g:=h.len;simp[aS,nP];exact mv h f FU [] 0 Ω Ω Ψ (by rw[bm];omega)
def L9 (v:Val)(h:St1 s)(x:Int):Tot (eQ v s x) TxV:=by
 have l:=h.len;have ent:=λk (Q:Int→Prop) (y:Int) (j:∀r,Q r)=>(di h k).mono λr g=>(iI r y Ω).mono λr _=>j r;simp only[eQ,ui,tt];refine⟨λ_=>(bU x 4 Ω Ω).mono λr _=>⟨λ_=>by simp[TxV],λ_=>⟨λ_=>by simp[TxV],λ_=>⟨λ_=>⟨by decide,(tX _ _).mono λt f=>f⟩,λ_=>?_⟩⟩⟩,λ_=>⟨λ_=>(bU x 2 Ω Ω).mono λr _=>⟨λ_=>by simp[TxV],λ_=>by simp[TxV]⟩,λ_=>⟨λ_=>(tX _ _).mono λt f=>f,λ_=>(bU x 6 Ω Ω).mono λr _=>⟨λ_=>by simp[TxV],λ_=>⟨λ_=>by simp[TxV],λ_=>⟨λ_=>?_,λ_=>⟨λ_=>?_,λ_=>⟨λ_=>by simp[TxV],λ_=>by simp[TxV]⟩⟩⟩⟩⟩⟩⟩⟩
 ·exact(di h 3).mono λr g=>⟨by decide,(iI r _ Ω).mono λr _=>⟨λ_=>by simp[TxV],λ_=>by simp[TxV]⟩⟩
 ·exact(di h 4).mono λr g=>⟨by decide,(iI r _ Ω).mono λr _=>⟨λ_=>by simp[TxV],λ_=>by simp[TxV]⟩⟩
 ·exact(di h 2).mono λr g=>⟨by decide,(iI r _ Ω).mono λr _=>⟨λ_=>⟨by decide,(bU _ 3 Ω Ω).mono λ_ _=>by simp[TxV]⟩,λ_=>by simp[TxV]⟩⟩
def SF {out:List Cel}{f t j:Nat}{c:Cel}(ho:f≤out.length)(R:kM (out.take f))(ht:t≤f)(p:0<t→ahd (out.getD (t-1) (zero tCell)).1 (out.getD (t-1) (zero tCell)).2.1 c.1 c.2.1=true)
  (r:∀k,t≤k→k<f→ahd (out.getD k (zero tCell)).1 (out.getD k (zero tCell)).2.1 c.1 c.2.1=false)
  (hj:(j=t∧¬(t<f∧(out.getD t (zero tCell)).1=c.1∧(out.getD t (zero tCell)).2.1=c.2.1))∨(j=t+1∧t<f∧(out.getD t (zero tCell)).1=c.1∧(out.getD t (zero tCell)).2.1=c.2.1)) :
  kM (out.take t++[c]++(out.take f).drop j):=by
 have gd:∀k,k<f→∀h:k<(out.take f).length,(out.take f)[k]=out.getD k (zero tCell):=λk J h=>by rw[List.getElem_take,υ,δ Ω];rfl
 have lt:∀a b,a<b→b<f→ahd (out.getD a (zero tCell)).1 (out.getD a (zero tCell)).2.1 (out.getD b (zero tCell)).1 (out.getD b (zero tCell)).2.1=true:=λa b h1 T=>by
  have hl:(out.take f).length=f:=by simp;omega
  have:=f?.1 R a b Ω Ω h1;rwa[gd a Ω Ω,gd b T Ω]at this
 have e:out.take t=(out.take f).take t:=by rw[aj6];congr 1;omega
 have hl:(out.take f).length=f:=by simp;omega
 rw[e];unfold kM;rw[y_,y_];have p1:∀x∈(out.take f).take t,ahd x.1 x.2.1 c.1 c.2.1=true:=λx l=>by
  obtain⟨k,J,rfl⟩:=L?.1 l;have g:k<t:=by simp at J;omega
  rw[List.getElem_take,gd k Ω Ω];by_cases P:k=t-1
  ·rw[P];exact p Ω
  ·exact k6 (lt k (t-1) Ω Ω) (p Ω)
 have U:∀x∈(out.take f).drop j,ahd c.1 c.2.1 x.1 x.2.1=true:=λx l=>by
  obtain⟨k,J,rfl⟩:=L?.1 l;have g:j+k<f:=by simp at J;omega
  rw[List.getElem_drop,gd (j+k) g Ω];rcases hj with⟨rfl,hn⟩|⟨rfl,h1,T,h3⟩
  ·refine T0 (r _ Ω g) λh=>?_;by_cases h0:k=0
   ·subst h0;exact hn ⟨g,h⟩
   ·have:=lt j (j+k) Ω g;rw[h.1,h.2,r j Ω Ω]at this;cases this
  ·have:=lt t (t+1+k) Ω g;rwa[T,h3]at this
 refine⟨⟨R.sublist (ajJ ..),List.pairwise_singleton ..,λx l y C=>?_⟩,R.sublist (List.drop_sublist ..),λx l y C=>?_⟩
 ·rw[E'.1 C];exact p1 x l
 ·obtain l|l:=O'.1 l
  ·exact k6 (p1 x l) (U y C)
  ·rw[E'.1 l];exact U y C
def C2 (l:List Cel)(hs:l.length<2000000)(k:cr (List Cel))(i:Int)(P:0≤i)(J:i<l.length)(g:Nat)(out:List Cel)(ho:g≤out.length)(hb:g<2000000)(hm:∀c∈out.take g,c∈l)(hA:kM (out.take g))(Q:List Cel→Prop)
  (hk:∀(C:Nat) (p:List Cel),C≤g+1→C≤p.length→(∀c∈p.take C,c∈l)→kM (p.take C)→Tot (k l C (i+1) p) Q):∀(n:Nat) (t:Int),0≤t→t≤g→t<n→(∀k:Nat,t.toNat≤k→k<g→ahd (out.getD k (zero tCell)).1 (out.getD k (zero tCell)).2.1 (ix tCell l i).1 (ix tCell l i).2.1=false)→Tot (jm k n l i g t out) Q
 |0,t,h2,h3,h,_=>Ω
 |n+1,t,h2,h3,h,hge=>by
  show Tot (lI false some (jm k n) k l i g t out) _;have R:∀j:Int,t≤j→j≤g→kM (out.take t.toNat++[ix tCell l i]++(out.take g).drop j.toNat)→Tot (eO false some k l i t g j out) Q:=λj hj1 hj2 T=>by
   simp only[eO,lK,tt,Z',t_];rw[ap (n:=i+1) Ω Ω];have e1:(out.take g).length=g:=by simp;omega
   have e2:(out.take t.toNat).length=t.toNat:=by simp;omega
   have e3:List.take (t.toNat+1) (out.take t.toNat++[ix tCell l i])=out.take t.toNat++[ix tCell l i]:=V? Ξ;simp only[ajV,e1,r_,ajk,Z',e3,ni];refine⟨by simp;omega,fG Ω,by simp;omega,aC P J,fG Ω,fG Ω,hk _ _ Ω Ξ (λc f=>?_) (T.sublist (ajJ ..))⟩;have f:=J? f;obtain f|f:=O'.1 f
   ·obtain f|f:=O'.1 f
    ·refine hm c ?_;have:out.take t.toNat=(out.take g).take t.toNat:=by rw[aj6];congr 1;omega
     rw[this]at f;exact J? f
    ·rw[E'.1 f];exact iO P J
   ·exact hm c (K? f)
  have hp:t>0→(decide (0≤w64 (t-1))&&decide (w64 (t-1)<(g:Int)))=true:=λh=>by rw[ap Ω Ω];simp;omega
  simp only[lI,tt,ni,Z'];refine⟨aj λh=>hp (by simpa using h),aj λh=>hp (by simpa using h),aj λ_=>aC P J,aj λ_=>aC P J,by simp[aL],λf=>?_,λr=>⟨aj λh=>by simp at h;simp;omega,aj λ_=>aC P J,aj λh=>?_,aj λ_=>aC P J,λf=>?_,λU=>?_⟩⟩
  ·rw[vq]at f;have ht:t>0:=by simp at f;exact f.1
   rw[dt ht,G',ap (n:=t-1) Ω Ω,show(t-1).toNat=t.toNat-1 by omega]at f;rw[ap Ω Ω];refine C2 l hs k i P J g out ho hb hm hA Q hk n (t-1) Ω Ω Ω λk hk1 hk2=>?_;by_cases he:k=t.toNat-1
   ·subst he;simpa using f
   ·exact hge k Ω hk2
  ·simp at h;simp;omega
  all_goals
   have hlt:0<t.toNat→ahd (out.getD (t.toNat-1) (zero tCell)).1 (out.getD (t.toNat-1) (zero tCell)).2.1 (ix tCell l i).1 (ix tCell l i).2.1=true:=λht=>by rw[vq,dt Ω,G',ap (n:=t-1) Ω Ω,show(t-1).toNat=t.toNat-1 by omega]at r;simpa using r
  ·have f:(t<(g:Int)∧(out.getD t.toNat (zero tCell)).1=(ix tCell l i).1)∧(out.getD t.toNat (zero tCell)).2.1=(ix tCell l i).2.1:=by simpa only[x?,κ,ρ]using f
   rw[ap Ω Ω];refine R (t+1) Ω Ω (SF ho hA Ω hlt hge (.inr ⟨Ω,Ω,f.1.2,f.2⟩))
  ·refine R t Ω h3 (SF ho hA Ω hlt hge (.inl ⟨rfl,λh=>?_⟩));rw[dt Ω,dt h.2.1,dt h.2.2]at U;cases U
def C3 (l:List Cel)(J:l.length<2000000):∀(n:Nat) (f:Nat) (i:Int) (out:List Cel),0≤i→i≤l.length→f≤i→f≤out.length→(∀c∈out.take f,c∈l)→kM (out.take f)→l.length-i<n→Tot (nk n l f i out) λr=>r.length≤l.length∧(∀c∈r,c∈l)∧kM r
 |0,f,i,out,T,h1,h2,R,C,_,h=>Ω
 |n+1,f,i,out,T,h1,h2,R,C,P,h=>by
  show Tot (lJ false some (jm (nk n) FU) l f i out) _;simp only[lJ,tt,il,ni,ait];refine⟨λg=>?_,λ_=>⟨by simp;omega,C,P⟩⟩;have g:i<l.length:=by simpa using g
  exact C2 l J _ i T g f out R Ω C P _ (λp j a1 a2 a3 a4=>C3 l J n p (i+1) j Ω Ω Ω a2 a3 a4 Ω) FU f Ω Ω (by rw[bm];omega) (λk hk1 U=>Ω)
def LZ (l:List Cel)(f:l.length<2000000):Tot (lL l) λr=>r.length≤l.length∧(∀c∈r,c∈l)∧kM r:=by simp only[lL,uh];exact C3 l f FU 0 0 [] Ω Ω Ω Ψ (λc g=>by simp at g) (by simp[kM]) (by rw[bm];omega)
def K9 (m:Mdl)(C:m.1.length≤120000)(id:Int)(r1:List Int)(i:Int)(P:0≤i)(J:i<12)(r2:List Cel)(r:r2.length≤m.1.length)(p:∀c∈r2,c∈m.1)(k:jQ (List Cel))(Q:List Cel→Prop)(l:∀out:List Cel,out.length≤(i+1)*120000→(∀c∈out,c∈m.1)→Tot (k id r1 m out (i+1)) Q) :
  ∀(n:Nat) (out:List Cel) (t:Int),0≤t→t≤r2.length→out.length≤i*120000+t→(∀c∈out,c∈m.1)→r2.length-t<n→Tot (tN k n id r1 i r2 m out t) Q
 |0,out,t,j,U,T,g,R=>Ω
 |n+1,out,t,j,U,T,g,R=>by
  show Tot (zy false some (tN k n) k id r1 i r2 m out t) _;simp only[zy,vn,tt,il];rw[ap (n:=t+1) Ω Ω,ap (n:=i+1) Ω Ω];refine⟨λh=>?_,λ_=>l out Ω g⟩;have h:t<r2.length:=by simpa using h
  refine⟨aC j h,λ_=>⟨aC j h,fG Ξ,K9 m C id r1 i P J r2 r p k Q l n _ (t+1) Ω Ω Ξ (λc f=>?_) Ω⟩,λ_=>K9 m C id r1 i P J r2 r p k Q l n _ (t+1) Ω Ω Ω g Ω⟩;obtain f|f:=O'.1 f
  ·exact g c f
  ·rw[E'.1 f];exact p _ (iO j h)
def TY (m:Mdl)(p:m.1.length≤120000)(id:Int)(r1:List Int):∀(n:Nat) (out:List Cel) (i:Int),0≤i→i≤12→out.length≤i*120000→(∀c∈out,c∈m.1)→12-i<n→Tot (zA n id r1 m out i) λr=>r.length≤1440000∧∀c∈r,c∈m.1
 |0,out,i,j,R,P,g,h=>Ω
 |n+1,out,i,j,R,P,g,h=>by
  show Tot (zB false some (tN (zA n) FU) id r1 m out i) _;simp only[zB,tt,il];refine⟨λf=>?_,λ_=>⟨Ω,g⟩⟩;have f:i<(([id]++r1).length:Int)∧i<12:=by simp at f;exact f
  refine⟨aC j f.1,(ack m.1 _ Ω).mono λr2 l=>?_⟩;exact K9 m p id r1 i j f.2 r2 l.1 l.2 _ _ (λout C J=>TY m p id r1 n out (i+1) Ω Ω C J Ω) FU out 0 Ω Ω Ω g (by rw[bm];omega)
def aaW (m:Mdl)(g:m.1.length≤120000)(f:∀c∈m.1,TxC c)(id:Int):Tot (nZ m id) λr=>r.length≤1440000∧∀c∈r,c∈m.1:=by simp only[nZ,K8,tt];exact(O2 m Ω f id).mono λr1 l=>⟨fG Ξ,TY m g id r1 FU [] 0 Ω Ω Ψ (λc j=>by cases j) (by rw[bm];omega)⟩
def sj (p:Int→Int→Prop)(f:Nat)(J:f<2000000):∀(n:Nat) (i:Int) (out:List Cel),0≤i→i≤f→out.length=f→(∀c∈out,TxC c∧p c.1 c.2.1)→f-i<n→Tot (ku n f i out) λr=>r.length≤f∧∀c∈r,TxC c∧p c.1 c.2.1
 |0,i,out,T,R,P,l,h=>Ω
 |n+1,i,out,T,R,P,l,h=>by
  show Tot (jp false some (ku n) f i out) _;simp only[jp,jq,tt,ni,Z',ait];rw[ap (n:=i+1) Ω Ω];refine⟨λg=>?_,λ_=>⟨by simp;omega,λc g=>l c (J? g)⟩⟩;have g:i<f:=by simpa using g
  have C:(decide (0≤i)&&decide (i<(f:Int)))=true:=by simp;omega
  refine⟨C,λ_=>⟨C,sj p f J n (i+1) _ Ω Ω Ξ (λc g=>?_) Ω⟩,λ_=>sj p f J n (i+1) _ Ω Ω P l Ω⟩;obtain g|rfl:=List.mem_or_eq_of_mem_set g
  ·exact l c g
  ·have j:out.getD i.toNat (zero tCell)∈out:=by
    rw[υ,δ Ω];exact e_ _
   exact⟨WJ,(l _ j).2⟩
def Jm (f:Int→Int→Prop)(l:List Cel)(g:l.length<2000000)(h:∀c∈l,TxC c∧f c.1 c.2.1):Tot (eU l) λr=>r.length≤l.length∧∀c∈r,TxC c∧f c.1 c.2.1:=by simp only[eU,qy,tt,Z',List.take_nil,t_];exact⟨fG Ω,sj f l.length g FU 0 l Ω Ω rfl h (by rw[bm];omega)⟩
def bQ (x:Int):Int:=x.fdiv 1048576
def Xq (x:Int):UH .i64 x 20=bQ x:=rfl
def xH {s:Int}:bQ x=s↔s*1048576≤x∧x<(s+1)*1048576:=by unfold bQ;rw[Int.fdiv_eq_ediv_of_nonneg _ Ω];omega
def QP (x y:Int):x≤sQ x y∧y≤sQ x y∧(sQ x y=x∨sQ x y=y):=by unfold sQ;split <;> omega
def Ef (l:List Com)(s:Int)(hl:l.length≤100)(P:List Com)(c:Com)(R:List Com)(p:l=P++c::R)(hw:(ws c).length<1000000)(g:Int)(k:dy Int)(Q:Int→Prop)(T:∀x,bQ x=s→g≤x→Tot (k l s x ((P.length:Int)+1)) Q):∀(n:Nat) (x t:Int),bQ x=s→g≤x→0≤t→t≤(ws c).length→(ws c).length-t<n→Tot (kT k n l s P.length x t) Q
 |0,x,t,C,r,U,a3,h=>Ω
 |n+1,x,t,C,r,U,a3,h=>by
  show Tot (sI false some (kT k n) k l s P.length x t) _;have f:(P.length:Int)<l.length:=by rw[p];simp;omega
  have ec:ix tCommit l (P.length:Int)=c:=by rw[p];exact dh (t:=tCommit) P c R
  simp only[sI,pn,sK,tt,il,Xq];rw[ec,ap (n:=t+1) Ω Ω,ap (n:=(P.length:Int)+1) Ω Ω];show bd _ _=true∧(decide (t<((ws c).length:Int))=true→bd _ _=true∧bd t (ws c).length=true∧_∧(decide (bQ (ix tCell (ws c) t).1=s)=true→bd _ _=true∧bd t (ws c).length=true∧_)∧_)∧_;refine⟨aC Ω f,λj=>?_,λ_=>T x C r⟩;have j:t<(ws c).length:=by simpa using j
  refine⟨aC Ω f,aC U j,by decide,λJ=>⟨aC Ω f,aC U j, ?_⟩,λ_=>Ef l s hl P c R p hw g k Q T n x (t+1) C r Ω Ω Ω⟩;have J:bQ (ix tCell (ws c) t).1=s:=by simpa using J
  have hm:=QP x (ix tCell (ws c) t).1;refine Ef l s hl P c R p hw g k Q T n (sQ x (ix tCell (ws c) t).1) (t+1) ?_ (ajP r hm.1) Ω Ω Ω;obtain e|e:=hm.2.2
  ·rw[e];exact C
  ·rw[e];exact J
def Nh (l:List Com)(s:Int)(hl:l.length≤100)(U:∀c∈l,(ws c).length<1000000):∀(n:Nat) (R P:List Com) (x:Int),l=P++R→R.length<n→bQ x=s→(∀c∈P,bQ c.1=s→c.1≤x)→Tot (pm n l s x P.length) λr=>bQ r=s∧∀c∈l,bQ c.1=s→c.1≤r
 |0,R,P,x,f,h2,T,h4=>Ω
 |n+1,R,P,x,f,h2,T,h4=>by
  show Tot (sJ false some (kT (pm n) FU) l s x P.length) _;simp only[sJ,pp,tt,il,Xq];cases R with
  |nil=>
   have e:l=P:=by simpa using f
   subst e;exact⟨λh=>by simp at h,λ_=>⟨T,h4⟩⟩
  |cons c R=>
   have J:(P.length:Int)<l.length:=by rw[f];simp;omega
   have ec:ix tCommit l (P.length:Int)=c:=by rw[f];exact dh (t:=tCommit) P c R
   rw[ec];have go:∀g,bQ g=s→x≤g→(bQ c.1=s→c.1≤g)→Tot (kT (pm n) FU l s P.length g 0) λr=>bQ r=s∧∀c∈l,bQ c.1=s→c.1≤r:=λg b1 b2 b3=>by
    refine Ef l s hl P c R f (U c (by rw[f];simp)) g _ _ (λy hy j=>?_) FU g 0 b1 (Int.le_refl _) Ω Ω (by rw[bm];have:=U c (by rw[f];simp);omega);have:=Nh l s hl U n R (P++[c]) y (by rw[f];simp) (by simp at h2;omega) hy λd C hs=>?_
    ·simpa using this
    ·obtain C|C:=O'.1 C
     ·exact ajP (h4 d C hs) (ajP b2 j)
     ·rw[E'.1 C]at hs⊢;exact ajP (b3 hs) j
   refine⟨λ_=>⟨aC Ω J,by decide,λp=>⟨aC Ω J, ?_⟩,λp=>go x T (Int.le_refl _) λe=>by simp[e]at p⟩,λh=>by simp at h;omega⟩;have p:bQ c.1=s:=p_ p;have hm:=QP x c.1;refine go (sQ x c.1) ?_ hm.1 λ_=>hm.2.1;obtain e|e:=hm.2.2
   ·rw[e];exact T
   ·rw[e];exact p
def HN (l:List Com)(s:Int)(C:1≤s)(p:s≤3)(g:l.length≤100)(f:∀c∈l,(ws c).length<1000000):Tot (pq l s) λr=>bQ r=s∧∀c∈l,bQ c.1=s→c.1≤r:=by
 simp only[pq,Cd,tt];have e:Xr .i64 s 20=s*1048576:=by show w64 (s*1048576)=_;exact ap Ω Ω
 rw[e];exact⟨by decide,Nh l s g f FU l [] (s*1048576) rfl (by rw[bm];omega) (xH.2 Ω) λc j=>by cases j⟩
def yH (l:List Com)(c:Com)(hl:l.length≤100):∀(n:Nat) (R P:List Com),l=P++R→R.length<n→(∀d∈P,d.1<c.1)→Tot (nJ n l c P.length) λr=>∃P R,l=P++R∧r=P++c::R∧(∀d∈P,d.1<c.1)∧∀d U,R=d::U→¬d.1<c.1
 |0,R,P,f,h2,J=>Ω
 |n+1,R,P,f,h2,J=>by
  show Tot (l9 false some (nJ n) l c P.length) _;have p:P.length+R.length=l.length:=by rw[f];simp
  simp only[l9,tt,il,ait,t_,J_];rw[ap (n:=(P.length:Int)+1) Ω Ω];refine⟨aj λh=>aC Ω (by simpa using h),λg=>?_,λg=>?_⟩
  ·simp only[x?,κ,ρ]at g;cases R with
   |nil=>simp at p;omega
   |cons d R=>
    have T:ix tCommit l (P.length:Int)=d:=by rw[f];exact dh (t:=tCommit) P d R
    rw[T]at g;have:=yH l c hl n R (P++[d]) (by rw[f];simp) (by simp at h2;omega) λe j=>by
     obtain j|j:=O'.1 j
     ·exact J e j
     ·rw[E'.1 j];exact g.2
    simpa using this
  ·have e1:l.take P.length=P:=by rw[f];simp
   have e2:l.drop P.length=R:=by rw[f];simp
   have hq:(decide (0≤(P.length:Int))&&decide ((P.length:Int)≤(l.length:Int)))=true:=by simp;omega
   simp only[ajN,e1,e2];refine⟨hq,fG Ξ,fG Ξ,hq,fG Ξ,P,R,f,Ψ,J,λd U e=>?_⟩;subst e;have T:ix tCommit l (P.length:Int)=d:=by rw[f];exact dh (t:=tCommit) P d U
   rw[T]at g;have C:(P.length:Int)<l.length:=by simp at p;omega
   simpa[C]using g
def NK (l:List Com)(c:Com)(f:l.length≤100):Tot (ma l c) λr=>∃P R,l=P++R∧r=P++c::R∧(∀d∈P,d.1<c.1)∧∀d j,R=d::j→¬d.1<c.1:=by
 simp only[ma,uO];exact yH l c f FU l [] rfl (by rw[bm];omega) λd g=>by cases g
def ahm (s:Sta)(f:List (Int×Int))(c:Cel):Prop:=TxC c∧((∃x∈s.1,x.1=c.1∧x.2.1=c.2.1)∨(c.1,c.2.1)∈f)
def WP (s:Sta)(w:List Cel):Prop:=w.length<2000000∧∃f:List (Int×Int),f.length≤11∧∀c∈w,ahm s f c
def WQ (s:Sta)(w:List Cel):Prop:=WP s w∧kM w
def wg (w:List Cel)(h:w.length≤11)(g:∀c∈w,TxC c):WP s ([]++w) :=
 ⟨by simp;omega,w.map λc=>(c.1,c.2.1),by simp;omega,λc f=>by
  have f:c∈w:=by simpa using f
  exact⟨g c f,.inr (s_.2 ⟨c,f,rfl⟩)⟩⟩
def abc (r w:List Cel)(l:r.length≤1440000)(g:∀c∈r,TxC c∧∃x∈s.1,x.1=c.1∧x.2.1=c.2.1)(h:w.length≤11)(j:∀c∈w,TxC c):WP s (([]++r)++w) :=
 ⟨by simp;omega,w.map λc=>(c.1,c.2.1),by simp;omega,λc f=>by
  obtain f|f:=O'.1 f
  ·have f:c∈r:=by simpa using f
   exact⟨(g c f).1,.inl (g c f).2⟩
  ·exact⟨j c f,.inr (s_.2 ⟨c,f,rfl⟩)⟩⟩
def Ph (r:List Cel)(j:r.length≤1440000)(f:∀c∈r,TxC c∧∃x∈s.1,x.1=c.1∧x.2.1=c.2.1):WP s r :=
 ⟨Ω,[],Ψ,λc g=>⟨(f c g).1,.inl (f c g).2⟩⟩
def cG (h:WP s w):Tot (dN w) (WQ s):=by simp[dN,mR,tt];obtain⟨p,C,l,j⟩:=h;exact(LZ w p).mono λr f=>⟨⟨Ω,C,l,λc g=>j c (f.2.1 c g)⟩,f.2.2⟩
def tx1 {id f:Int}{v:Val}(h:TxV v):∀c∈[(id,f,v,())],TxC c:=λc g=>by rw[E'.1 g];exact h
def CE (id t a b c d:Int):Tot (dO id t a b c d) (WQ s):=by simp only[dO,mU,tt];exact(tX _ _).mono λr f=>⟨fG Ψ,cG (wg _ Ψ (tx1 f))⟩
def CD (id a:Int)(b:Bool)(t:Str)(f:Sh t)(c:Int):Tot (gP id a b t c) (WQ s):=by simp only[gP,mS,tt];exact⟨fG Ψ,cG (wg _ Ψ (tx1 f))⟩
def Pg (h:St1 s)(hs:s.1.length≤120000)(P:Int)(r2 r3 r4:List Int)(h2:r2.length≤120000)(h3:r3.length≤120000)(h4:r4.length≤120000)(r5:Int)(t:Bool)(a b c d:Int):Tot (gQ P r2 r3 r4 r5 t s.1 a b c d (eY s).1) (WQ s):=by
 have hm:=YH h;have J:∀id,Tot (nZ ((eY s).1,()) id) λr=>r.length≤1440000∧∀c∈r,TxC c∧∃x∈s.1,x.1=c.1∧x.2.1=c.2.1:=λid=>(aaW (eY s) Ω (λc C=>(hm.1 c C).1) id).mono λr hr=>⟨hr.1,λc C=>hm.1 c (hr.2 c C)⟩;have R:∀r:List Cel,r.length≤1440000→(∀c∈r,TxC c∧∃x∈s.1,x.1=c.1∧x.2.1=c.2.1)→Tot (eU r) λr=>r.length≤1440000∧∀c∈r,TxC c∧∃x∈s.1,x.1=c.1∧x.2.1=c.2.1:=λr h1 h2=>(Jm (λa b=>∃x∈s.1,x.1=a∧x.2.1=b) r Ω h2).mono λq g=>⟨Ω,g.2⟩;have rd:∀id f,Tot (fP (s.1,()) id f) TxV:=λid f=>UT h id f;have T:∀k,Tot (aS (s.1,()) k) λr=>r.length≤120000:=λk=>(di h k).mono λr hr=>Ω
 have U:∀v x,Tot (eQ v (s.1,()) x) TxV:=λv x=>L9 v h x;have p:∀(l:List Int) x,l.length≤240000→Tot (bk l x) λ_=>True:=λl x hl=>(iI l x Ω).mono λ_ _=>trivial;simp only[gQ,mT,tt];refine⟨λ_=>?_,λ_=>⟨λ_=>?_,λ_=>⟨λ_=>?_,λ_=>⟨λ_=>?_,λ_=>⟨λ_=>?_,λ_=>⟨λ_=>?_,λ_=>⟨λ_=>?_,λ_=>⟨λ_=>?_,λ_=>⟨λ_=>?_,λ_=>?_⟩⟩⟩⟩⟩⟩⟩⟩⟩
 ·exact(p _ _ Ω).mono λr _=>(rd _ _).mono λv _=>(U _ _).mono λv j=>⟨fG Ψ,cG (wg _ Ψ (tx1 j))⟩
 ·exact(p _ _ Ω).mono λr _=>(bU _ 3 Ω Ω).mono λ_ _=>⟨by decide,(LL _).mono λv j=>⟨fG Ψ,cG (wg _ Ψ (tx1 j))⟩⟩
 ·exact(p _ _ Ω).mono λr _=>(T _).mono λe he=>(p _ _ Ω).mono λ_ _=>⟨by decide,(Ey _).mono λv j=>⟨fG Ψ,cG (wg _ Ψ (tx1 j))⟩⟩
 ·exact(p _ _ Ω).mono λr _=>(p _ _ Ω).mono λ_ _=>(rd _ _).mono λv j=>⟨fG Ψ,cG (wg _ Ψ (tx1 j))⟩
 ·refine(p _ _ Ω).mono λr _=>(rd _ _).mono λv j=>(J _).mono λq g=>(R q g.1 g.2).mono λq g=>⟨fG Ξ,(rd _ _).mono λv2 _=>(U _ _).mono λv3 hv3=>⟨fG Ξ,cG (abc q _ g.1 g.2 Ψ ?_)⟩⟩;intro c C;simp at C;obtain rfl|rfl|rfl:=C
  ·simp[TxC,TxV]
  ·exact j
  ·exact hv3
 ·refine(T _).mono λe he=>(p _ _ Ω).mono λ_ _=>(Ey _).mono λk hk=>(tX _ _).mono λwd hwd=>⟨by decide,(U _ _).mono λv j=>⟨fG Ψ,cG (wg _ Ψ ?_)⟩⟩;intro c C;simp at C;obtain rfl|rfl|rfl|rfl|rfl|rfl|rfl|rfl|rfl|rfl|rfl:=C;all_goals first|exact j|exact hk|exact hwd|simp[TxC,TxV]
 ·exact(T _).mono λe he=>⟨fG Ω,(p _ _ Ξ).mono λr _=>(J _).mono λq g=>(R q g.1 g.2).mono λq g=>cG (Ph q g.1 g.2)⟩
 ·exact(T _).mono λe he=>(p _ _ Ω).mono λr _=>(rd _ _).mono λv j=>⟨λ_=>(Ey _).mono λk hk=>CD _ _ _ _ hk _,λ_=>CD _ _ _ _ j _⟩
 ·exact(p _ _ Ω).mono λr _=>(J _).mono λq g=>cG (Ph q g.1 g.2)
 ·exact cG (Ph [] Ψ λc C=>by cases C)
def Lj (h:St1 s)(R:s.1.length≤120000)(d:bi.den)(g:Int):Tot (lk s d g) (WQ s):=by
 have p:∀k,Tot (aS s k) λr=>r.length≤120000:=λk=>(di h k).mono λr U=>Ω
 have C:∀(l:List Int) x,l.length≤120000→Tot (bk l x) λ_=>True:=λl x hl=>(iI l x Ω).mono λ_ _=>trivial;simp only[lk,tU,mQ,p9,tt];refine⟨h.stg,(p _).mono λr2 P=>(p _).mono λr3 T=>(p _).mono λr4 J=>(bU _ 13 Ω Ω).mono λr5 _=>?_⟩;have j:∀t:Bool,(t=true→Tot (bk r2 d.2.2.1) λr=>Tot (fQ (s.1,()) r) λf=>((bif (decide (f=5))then true else(decide (f=0)))=true→Tot (bk r4 d.2.2.1) λr=>Tot (dO r 2 d.1 d.2.1 d.2.2.1 d.2.2.2.1) (WQ s))∧((bif (decide (f=5))then true else(decide (f=0)))=false→Tot (dO r f d.1 d.2.1 d.2.2.1 d.2.2.2.1) (WQ s))):=λ_ _=>(C _ _ P).mono λr _=>(uJ s r (h.place r 1)).mono λk _=>⟨λ_=>(C _ _ J).mono λr _=>CE _ _ _ _ _ _,λ_=>CE _ _ _ _ _ _⟩;have r17:=λt=>Pg h R g r2 r3 r4 P T J r5 t d.1 d.2.1 d.2.2.1 d.2.2.2.1;exact⟨λ_=>⟨j _,λ_=>⟨λ_=>r17 _,λ_=>r17 _⟩⟩,λ_=>⟨j _,λ_=>⟨λ_=>r17 _,λ_=>r17 _⟩⟩⟩
def HK {J:Type}[DecidableEq J]:∀{a b:List J},a.Nodup→(∀x∈a,x∈b)→a.length≤b.length
 |[],b,_,_=>by simp
 |x::a,b,h,hs=>by
  have h:=aiB.1 h;have j:=hs x (S' ..);have:=HK (a:=a) (b:=b.erase x) h.2 λy g=>by have f:=hs y (J' _ g);exact(ajr (λe:y=x=>h.1 (by rw[←e];exact g))).2 f
  rw[ajb j]at this;have:=aiK j;simp;omega
def SE (h:WP s w)(r:kM w):w.length≤s.1.length+11:=by
 obtain⟨_,R,T,P⟩:=h;have C:(w.map λc=>(c.1,c.2.1)).Nodup:=by unfold List.Nodup;rw[ajK];refine r.imp λ{a b} f e=>?_;have j:a.1=b.1:=(χ .. ▸ e).1;have g:a.2.1=b.2.1:=(χ .. ▸ e).2;rw[j,g,kL]at f;omega
 have:=HK (b:=(s.1.map λx=>(x.1,x.2.1))++R) C λx p=>by
  obtain⟨c,J,rfl⟩:=s_.1 p;rcases(P c J).2 with⟨y,l,j,g⟩|h
  ·exact S_ _ (s_.2 ⟨y,l,by rw[j,g]⟩)
  ·exact aiN _ h
 simp at this;omega
def Pn (h:dW x):bQ (x-1)=bQ x:=by
 obtain⟨l,j,g⟩:=h;have e:bQ x*1048576≤x∧x<(bQ x+1)*1048576:=xH.1 rfl;refine xH.2 ⟨?_,Ω⟩;by_cases f:x=bQ x*1048576
 ·exfalso;apply g;rw[f];exact Int.mul_tmod_left _ _
 ·omega
structure NewC (l:List Com)(c:Com):Prop where
 par:c.2.1.length≤4
 txt:∀x∈ws c,TxC x
 ord:kM (ws c)
 len:(ws c).length≤cW l+11
 new:∀d∈l,¬d.1=c.1
 ids:∀x∈ws c,IdC x
 pic:c.2.2.1.length≤4
 val:IdK c
def ag3 {a:Int}(h:a≤a-1):False:=Ω
def afi {s:Int}(f:dW c.1)(g:bQ (c.1-1)=s)(h:∀d∈l,bQ d.1=s→d.1≤c.1-1):∀d∈l,¬d.1=c.1:=λd j e=>by have:=h d j (by rw[e,←Pn f,g]);exact ag3 (e ▸ this)
def Fl (hs:St1 s)(g:Int)(f j:List Int)(p:Str)(w:List Cel)(h1:f.length≤4)(h2:j.length≤4)(h3:p.length≤100)(U:w.length<1000000)(T:∀x∈w,TxC x)
  (R:kM w→w.length≤cW l+11) {site:Int} (C:bQ (g-1)=site) (P:∀d∈l,bQ d.1=site→d.1≤g-1) :
  Tot (jN false some s g f j p w) λr=>r.2.1=true→NewC l r.1:=by
 simp[jN,tt];refine(NZ s (g,f,j,p,w,()) (λid=>hs.place id 1) (by show f.length<_;omega) (by show j.length<_;omega) (by show p.length<_;omega) U T).mono λr J e=>?_;have J:=J (by simpa using e);exact⟨h1,T,J.2.1,R J.2.1,afi J.1.1 C P,J.2.2,h2,J.1⟩
def Sj {s:Int}(h:bQ x=s)(g:1≤s)(f:s≤3):0≤x∧x<4194304:=by have:=xH.1 h;omega
def Iy (J:H0 l)(hn:l≠[])(hw:cW l≤60000)(r1:Int)(a1:0≤r1)(a2:r1<3)(d:bi.den)(f:List Int)(hp:f.length≤4) :
  Tot (mz false some l r1 d f) λr=>r.2.1=true→NewC l r.1:=by
 have hfew:=J.few;have hlen:0<l.length:=List.length_pos_iff.2 hn;have j:∀c∈l,(ws c).length<1000000:=λc p=>by have:=k7 p;omega
 simp only[mz,tt,il];rw[ap (n:=1+r1) Ω Ω];refine(Un l f J.isFew Ω).mono λr5 h5=>(IJ l J r5 Ω).mono λs hs=>(HN l (1+r1) Ω Ω Ω j).mono λr7 h7=>(bU d.1 13 Ω Ω).mono λr8 _=>⟨λ_=>?_,λ_=>?_⟩
 ·refine(bU d.2.2.1 (l.length:Int) Ω Ω).mono λr9 U=>⟨aC U.1 U.2, ?_⟩;have hm:=iO (t:=tCommit) (l:=l) U.1 U.2;have hb:=Sj h7.1 Ω Ω;have R:=k7 hm;refine Fl (hs.st1 J) _ r5 [_] _ _ Ω Ψ Ψ (j _ hm) (J.txt _ hm) (λ_=>Θ R Ω) (site:=1+r1) ?_ ?_
  ·rw[ap Ω Ω,ai4];exact h7.1
  ·rw[ap Ω Ω,ai4];exact h7.2
 ·have T:=hs.st1 J;have hsl:s.1.length≤cW l:=by
   obtain⟨_,_,_,_,h⟩:=hs;exact h.len
  refine(Lj T Ω d r7).mono λw ⟨g,hwo⟩=>have P:w.length<1000000:=(by have:=SE g hwo;omega);⟨fG Ξ,fG Ξ, ?_⟩
  rw[t_];refine(HN (l++[(0,r5,[],[100,101,101,100],w,())]) (1+r1) Ω Ω Ξ (λc p=>?_)).mono λr11 C=>?_
  ·obtain p|p:=O'.1 p
   ·exact j c p
   ·rw[E'.1 p];exact P
  ·have hb:=Sj C.1 Ω Ω;refine Fl T _ r5 [] _ w Ω Ψ Ψ P (λx hx=>?_) (λho=>by have:=SE g ho;omega) (site:=1+r1) ?_ ?_
   ·obtain⟨_,ex,_,h⟩:=g;exact(h x hx).1
   ·rw[ap Ω Ω,ai4];exact C.1
   ·rw[ap Ω Ω,ai4];exact λd hd=>C.2 d (S_ _ hd)
def OR (J:H0 l)(C:l≠[])(p:cW l≤60000)(f:List Int)(m1:0<f.length)(m2:f.length≤100)(d:bi.den) :
  Tot (mA l f d) λr=>r.2.1=true→NewC l r.1:=by
 have j:∀k:Int,0≤k→bd (sQ (w64 (w64 ((f.length:Int)-1)-k)) 0) f.length=true∨10<k:=λk T=>by
  by_cases h:10<k
  ·exact .inr h
  ·left;rw[ap (n:=(f.length:Int)-1) Ω Ω,ap Ω Ω];have:=QP ((f.length:Int)-1-k) 0;exact aC this.2.1 (by obtain e|e:=this.2.2 <;> rw[e] <;> omega)
 simp only[mA,vd,tt,il];refine(bU _ 3 Ω Ω).mono λr1 g=>⟨by decide,(bU _ 3 Ω Ω).mono λr2 R=>⟨(j r2 R.1).resolve_right Ω,by decide,(bU _ 3 Ω Ω).mono λr3 _=>⟨λ_=>⟨by decide,(bU _ (f.length:Int) Ω Ω).mono λr4 P=>⟨aC P.1 P.2,fG Ψ, ?_⟩⟩,λ_=>?_⟩⟩⟩
 ·exact Iy J C p r1 g.1 g.2 d _ (v? rfl)
 ·exact Iy J C p r1 g.1 g.2 d _ (v? rfl)
def afx {P R:List Com}(l:H0 (P++R))(p:NewC (P++R) c)(h1:∀d∈P,d.1<c.1)(h2:∀d R',R=d::R'→¬d.1<c.1)(hn:(P++R).length<20)(hs:2*cW (P++R)+11≤500000):H0 (P++c::R)∧cW (P++c::R)≤2*cW (P++R)+11:=by
 have T:cW (P++c::R)=cW (P++R)+(ws c).length:=by rw[dH,dH];show _+((ws c).length+cW R)=_;omega
 have U:=p.len;have f:∀d∈P++c::R,d=c∨d∈P++R:=λd g=>by
  simp at g⊢;obtain h|h|h:=g
  ·exact .inr (.inl h)
  ·exact .inl h
  ·exact .inr (.inr h)
 have hR:∀d∈R,c.1<d.1:=by
  have j:=(y_.1 l.asc).2.1;cases R with
  |nil=>intro d g;cases g
  |cons e R=>
   have he:=h2 e R rfl;have C:=p.new e Ψ;have r:c.1<e.1:=Int.lt_iff_le_and_ne.2 ⟨Int.not_lt.1 he,λh=>C h.symm⟩;intro d g;obtain rfl|g:=C'.1 g
   ·exact r
   ·exact Int.lt_trans r ((j_.1 j).1 d g)
 refine⟨⟨by simp at hn⊢;omega, ?_,λd g=>?_,λd g=>?_,λd g=>?_,Ω,λd g=>?_,λd g=>?_,λd g=>?_⟩,Ω⟩
 ·have j:=y_.1 l.asc;rw[y_];refine⟨j.1,j_.2 ⟨hR,j.2.1⟩,λa ha b J=>?_⟩;obtain rfl|J:=C'.1 J
  ·exact h1 a ha
  ·exact j.2.2 a ha b J
 ·obtain rfl|h:=f d g
  ·exact p.par
  ·exact l.par d h
 ·obtain rfl|h:=f d g
  ·exact p.ord
  ·exact l.ord d h
 ·obtain rfl|h:=f d g
  ·exact p.txt
  ·exact l.txt d h
 ·obtain rfl|h:=f d g
  ·exact p.ids
  ·exact l.ids d h
 ·obtain rfl|h:=f d g
  ·exact p.pic
  ·exact l.pic d h
 ·obtain rfl|h:=f d g
  ·exact p.val
  ·exact l.val d h
structure First1 (c:Com):Prop where
 par:c.2.1.length≤4
 ord:kM (ws c)
 txt:∀x∈ws c,TxC x
 len:(ws c).length≤200
 ids:∀x∈ws c,IdC x
 pic:c.2.2.1.length≤4
 val:IdK c
def First1.h0 (h:First1 c):H0 [c]:=by
 refine⟨Ψ,Ψ,λd f=>?_,λd f=>?_,λd f=>?_,by have:=h.len;simp[cW];omega,λd f=>?_,λd f=>?_,λd f=>?_⟩;all_goals rw[E'.1 f]
 ·exact h.par
 ·exact h.ord
 ·exact h.txt
 ·exact h.ids
 ·exact h.pic
 ·exact h.val
def bnd:Nat→Nat
 |0=>200
 |n+1=>2*bnd n+11
def RN:∀{a b:Nat},a≤b→bnd a≤bnd b
 |a,b,h=>by
  induction h with
  |refl=>exact ζ _
  |step _ f=>exact Θ f (by simp[bnd];omega)
structure HisP (n:Nat)(l:List Com):Prop where
 h0:H0 l
 ne:l≠[]
 len:l.length≤n+1
 sum:cW l≤bnd n
def HisP.ins {P R:List Com}(h:HisP n (P++R))(g:NewC (P++R) c)(l:∀d∈P,d.1<c.1)(j:∀d p,R=d::p→¬d.1<c.1)(C:n<9):HisP (n+1) (P++c::R):=by have r:=h.sum;have J:bnd n≤54005:=RN (b:=8) Ω;have f:=h.len;have:=afx h.h0 g l j Ω Ω;exact⟨this.1,Ψ,by simp at f⊢;omega,by have:=this.2;simp[bnd];omega⟩
def HisP.mono (h:HisP n l):HisP (n+1) l :=
 ⟨h.h0,h.ne,by have:=h.len;omega,Θ h.sum (RN Ω)⟩
def HisP.upto {m:Nat}(h:HisP n l)(f:n≤m):HisP m l:=by
 induction f with
 |refl=>exact h
 |step _ g=>exact g.mono
def ot (l:List bi.den):∀(n:Nat) (out:List Com) (f:List Int) (i:Nat),HisP i out→0<f.length→f.length≤i+1→i≤9→9-i<n→Tot (kE n l out f i) λr=>HisP 9 r
 |0,out,f,i,g,C,h3,J,h5=>Ω
 |n+1,out,f,i,g,C,h3,J,h5=>by
  show Tot (jG false some (kE n) l out f i) _;simp only[jG,jH,tt,il];have e1:w64 ((i:Int)+1)=((i+1:Nat):Int):=by rw[ap Ω Ω];omega
  rw[e1];refine⟨λj=>?_,λ_=>?_⟩
  ·have j:i<l.length∧i<9:=by
    simp at j;omega
   have hb:bnd i≤54005:=RN (b:=8) Ω;have hs:=g.sum;refine⟨aC Ω Ω,(OR g.h0 g.ne Ω f C Ω _).mono λr T=>⟨λU=>?_,λ_=>?_⟩⟩
   ·refine(NK out r.1 (by have:=g.len;omega)).mono λr3 p=>⟨fG Ξ, ?_⟩;obtain⟨P,R,rfl,rfl,a1,a2⟩:=p;exact ot l n _ _ (i+1) (g.ins (T U) a1 a2 j.2) Ψ Ξ Ω Ω
   ·exact ot l n _ _ (i+1) g.mono C Ω Ω Ω
  ·exact g.upto J
def abQ:Cel→List Cel→Bool
 |_,[]=>true
 |a,b::r=>ahd a.1 a.2.1 b.1 b.2.1&&abQ b r
def agY:List Cel→Bool
 |[]=>true
 |a::r=>abQ a r
def MY:∀{r:List Cel} {a:Cel},abQ a r=true→Chn a r
 |[],_,_=>trivial
 |b::r,a,h=>by simp[abQ]at h;exact⟨h.1,MY h.2⟩
def Yg {l:List Cel}(h:agY l=true):kM l:=by
 cases l with
 |nil=>exact List.Pairwise.nil
 |cons a r=>exact KY (MY h)
def idB (x:Int):Bool:=1048576<x&&x<34603008&&!x.tmod 1048576=0
def Ks (h:idB x=true):dW x:=by simpa[idB,dW,ajU]using h
def KF (c:Com):Bool:=idB c.1&&c.2.1.all idB&&decide (c.2.2.1.length≤4)&&(decide (c.2.1.length≤4)&&agY (ws c)&&(ws c).all (λx=>decide (x.2.2.1.2.2.1.length<1000))&&decide ((ws c).length≤200)&&(ws c).all (λx=>idB x.1&&(decide (x.2.2.1.2.2.2.1=0)||idB x.2.2.1.2.2.2.1)))
def Ri (h:KF c=true):First1 c:=by simp only[KF,κ,ρ,T']at h;obtain⟨⟨f,j⟩,h⟩:=h;refine⟨h.1.1.1.1,Yg h.1.1.1.2,h.1.1.2,h.1.2,λx g=>?_,j,Ks f.1,λp l=>Ks (f.2 p l)⟩;have:=h.2 x g;rw[aiC,ρ]at this;exact⟨Ks this.1,this.2.imp id Ks⟩
def ag8 (n:Int):KF (fstL n)=true:=by unfold fstL;split <;> kernel_rfl
def Zf (x:Int):First1 (firstF x):=Ri (ag8 _)
def First1.his (h:First1 c):HisP 0 [c]:=⟨h.h0,Ψ,Ψ,by have:=h.len;simp[cW,bnd];omega⟩
def Kt (first:Int)(l:List bi.den):Tot (jI first l) (HisP 9):=by simp[jI,qZ,tt];exact ot l FU [firstF first] [(firstF first).1] 0 (Zf first).his Ψ Ψ Ω (by rw[bm];omega)
