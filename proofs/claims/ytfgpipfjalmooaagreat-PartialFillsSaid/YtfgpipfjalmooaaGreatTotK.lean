/- Evaluators that always answer. -/
import Derived.Test.YtfgpipfjalmooaaGreatGenH
set_option linter.all false
namespace Go.Proofs.YtfgpipfjalmooaaGreat
namespace Abs
open Go
def Tot {U:Type}(o:Option U)(Q:U→Prop):Prop:=∃r,o=some r∧Q r
section
variable {U β:Type}{P Q:U→Prop}
def t8 {r:U}:Tot (some r) Q↔Q r:=⟨λ⟨_,e,h⟩=>by cases e;exact h,λh=>⟨r,rfl,h⟩⟩
def agU {b:Bool}{k:Option U}:Tot (ck b k) Q↔b=true∧Tot k Q:=by
 cases b
 ·simp[Tot,ck]
 ·simp[ck]
def ad1 {c:Bool}{x y:Option U}:Tot (bif c then x else y) Q↔(c=true→Tot x Q)∧(c=false→Tot y Q):=by cases c <;> simp
variable{k:β→Option U}{o:Option U}
def agV {g:Bool}{v:β}:Tot (kI g v k) Q↔g=true∧Tot (k v) Q:=by
 cases g
 ·simp[Tot,kI]
 ·simp[kI]
def aah {x:Option β}:Tot (yF x k) Q↔Tot x λr=>Tot (k r) Q:=by
 cases x
 ·simp[Tot,yF]
 ·simp[yF,t8]
def Tot.mono (h:Tot o P)(k:∀r,P r→Q r):Tot o Q:=let ⟨r,e,h⟩:=h;⟨r,e,k r h⟩
def Tot.and (h:Tot o P)(k:Tot o Q):Tot o λr=>P r∧Q r:=by obtain⟨r,e,h⟩:=h;obtain⟨j,f,g⟩:=k;rw[e]at f;cases f;exact⟨r,e,h,g⟩
def Tot.some (h:Tot o P):o.isSome=true:=by obtain⟨r,e,_⟩:=h;rw[e];rfl
def Tot.getD {o:Option U}(h:Tot o P)(d:U):P (o.getD d):=by obtain⟨r,e,h⟩:=h;rw[e];exact h
def gQ (h:o.isSome=true):Tot o λ_=>True:=by
 cases o with
 |none=>cases h
 |some r=>exact⟨r,rfl,aoG⟩
end
def tt:(∀{U:Type} {Q:U→Prop} {r:U},Tot (some r) Q↔Q r)∧(∀{U:Type} {Q:U→Prop} {b:Bool} {k:Option U},Tot (ck b k) Q↔b=true∧Tot k Q)∧(∀{U:Type} {Q:U→Prop} {c:Bool} {x y:Option U},Tot (bif c then x else y) Q↔(c=true→Tot x Q)∧(c=false→Tot y Q)) ∧
 (∀{U f:Type} {Q:U→Prop} {g:Bool} {v:f} {k:f→Option U},Tot (kI g v k) Q↔g=true∧Tot (k v) Q)∧(∀{U f:Type} {Q:U→Prop} {x:Option f} {k:f→Option U},Tot (yF x k) Q↔Tot x λr=>Tot (k r) Q) ∧
 (∀{f:Type} (m:Bool) (t:Ty) (e:Option t.den) (k:t.den→Option f),cl m t e k=yF e k)∧(∀{f:Type} (m:Bool) (t:Ty) (g:Bool) (v:t.den) (k:t.den→Option f),ce m t g v k=kI g v k)∧(∀{f:Type} (m:Bool) (t:Ty) (x:t.den) (k:t.den→f),fz m t x k=k x)∧(∀{f:Type} (m:Bool) (x:Nat) (k:Nat→f),fm m x k=k x) ∧
 (∀{f:Type} (m c:Bool) (k:Option f) (l:List Nat),nq m l c k=k)∧(∀{f:Type} (m:Bool) (n:Nat) (c z:Bool) (k:Option f),nm m n c z k=ck (aS c z) k)∧(∀p:Prop,(True∧p)=p)∧(∀p:Prop,(p∧True)=p)∧(∀p:Prop,(p→True)=True) :=
 ⟨t8,agU,ad1,agV,aah,s0,s1,s2,s3,DF,PJ,λp=>true_and p,λp=>N_ p,λp=>implies_true p⟩
def ap {a b:Bool}(h:a=true→b=true):aS a b=true:=by cases a <;> cases b <;> simp_all[aS]
def aI:FU=1099511627776:=rfl
def ak {n:Int}(g : -9000000000000000000≤n)(f:n≤9000000000000000000):w64 n=n:=Cc Ω Ω
variable{n:Nat}{i id x f C:Int}{s:Sta}{J:List (List Int)}{U:Type}{out w:List Cel}{v:Val}
def aw (g:0≤i)(f:i<n):bd i n=true:=by simp[bd,g,f]
def YT (c:Int):(jn c).isSome=true:=by simp[jn,wU,s1,DF];rfl
def za (c:Int):(fh c).isSome=true:=by simp[fh,tC,s1,DF];rfl
def oS (s:Str):Tot (cT s) λ_=>True:=by simp[cT,oR,iD,jD,iC,jC,tt]
def afd (s:Str):Tot (u4 s) λ_=>True:=by simp[u4,EG,wR,AU,wQ,AT,tt]
def E6 (s:Str)(g:Int)(J:0≤g)(l:s.length<1000000):∀(n:Nat) (f:Int),g≤f→f≤s.length→s.length-f<n→Tot (vO n s g f) λr=>0≤r∧g+r≤s.length
 |0,f,_,C,p=>Ω
 |n+1,f,h2,C,p=>by
  show Tot (tT false some (vO n) s g f) _;simp only[tT,tt,il];refine⟨ap λh=>aw Ω (by simpa using h),ap λ_=>YT _,λh=>?_,λ_=>?_⟩
  ·have:f<s.length:=by
    by_cases j:f<s.length
    ·exact j
    ·simp[j]at h
   rw[ak Ω Ω];exact E6 s g J l n (f+1) Ω Ω Ω
  ·rw[ak Ω Ω];omega
def Cb (s:Str)(f:Int)(g:0≤f)(l:s.length<1000000):Tot (jN s f) λr=>0≤r∧(f≤s.length→f+r≤s.length):=by
 simp only[jN,Eg,tt,il];refine⟨ap λh=>aw g (by simpa using h),ap λh=>aw g (by simp at h;exact h.1),ap λ_=>by simp[aF],λ_=>Ω,λh=>?_⟩;have:f<s.length:=by
  by_cases j:f<s.length
  ·exact j
  ·simp[Int.not_lt.1 j]at h
 exact(E6 s f g l FU f Ω Ω (by rw[aI];omega)).mono λr h=>⟨h.1,λ_=>h.2⟩
def XI (s:Str)(f:Int)(j:0≤f)(g:f<s.length)(l:s.length<1000000):Tot (uk s f) λ_=>True:=by simp only[uk,En,rY,wh,rX,wg,tt,il];rw[ak Ω Ω];exact⟨aw j g,λ_=>ap λh=>aw Ω (by simpa using h)⟩
abbrev agX:Ty :=.cons tInt (.cons tInt .unit)
def ZR (s:Str)(f:Int)(j:0≤f)(g:s.length<1000000):ZS s f=true:=(Cb s f j g).some
def RZ (s:Str)(f:Int)(j:0≤f)(p:f<s.length)(l:s.length<1000000):Tot (pZ s f) λ_=>True:=by
 simp only[pZ,zj,rH,tt,il];refine(Cb s f j l).mono λr1 P=>?_;have J:=P.2 Ω;have e1:w64 (f+r1)=f+r1:=ak Ω Ω;have e2:w64 (f+r1+1)=f+r1+1:=ak Ω Ω;rw[e1,e2];refine⟨by simp[j];omega,aw j p,ap λ_=>(oS _).some,ap λh=>aw Ω ?_,ap λ_=>ZR s _ Ω l,λh=>?_,λ_ _=>(oS _).mono λ_ _=>λ_=>aw j p⟩
 ·simp at h;omega
 ·have C:0<Lw s (f+r1+1):=by
   simp at h;exact h.2
  have hl:f+r1+1<s.length:=by simp at h;exact h.1.1.2
  have R:=Cb s (f+r1+1) Ω l;obtain⟨g,r,U⟩:=R;have e4:Lw s (f+r1+1)=g:=by unfold Lw;rw[r];rfl
  rw[e4]at C;have T:=U.2 Ω;have e5:w64 (f+r1+1+g)=f+r1+1+g:=ak Ω Ω;refine⟨g,r, ?_⟩;simp only[e5];refine⟨by simp;omega,aw Ω Ξ,λ_ _=>(oS _).mono λ_ _=>trivial,λ_ _=>(oS _).mono λ_ _=>trivial⟩
def DG (s:Str)(j:Int)(l:s.length<1000000):∀(n:Nat) (f:Int),0≤f→f≤s.length→s.length-f<n→Tot (wF n s j f) λ_=>True
 |0,C,_,r,p=>Ω
 |n+1,f,g,r,p=>by
  show Tot (uJ false some (wF n) s j f) _;simp only[uJ,tt,il];intro h;have h:f<s.length:=by simpa using h
  refine⟨aw g h,λ_=>⟨aw g h,(gQ (za _)).mono λ_ _=>λ_=>⟨aw g h,ap λ_=>aw g h,λ_=>?_⟩⟩⟩;rw[ak Ω Ω];exact DG s j l n (f+1) Ω Ω Ω
def Aw (s:Str)(g:Int)(j:s.length<1000000):∀(n:Nat) (f:Int),0≤f→f≤s.length→s.length-f<n→Tot (sD n s g f) λ_=>True
 |0,C,_,p,l=>Ω
 |n+1,f,r,p,l=>by
  show Tot (qM false some (sD n) s g f) _;simp only[qM,tt,il];refine⟨ap λh=>aw r (by simpa using h),λh=>?_⟩;have h:f<s.length:=by simp at h;exact h.1
  rw[ak Ω Ω];exact Aw s g j n (f+1) Ω Ω Ω
def Yi (s:Str)(f:Int)(l:0≤f)(j:f<s.length)(g:s.length<1000000):Tot (uK s f) λ_=>True:=by
 simp only[uK,EB,tt];refine⟨aw l j,(gQ (za _)).mono λ_ _=>λ_=>⟨λ_=>?_,λ_=>⟨λ_=>?_,λ_=>⟨λ_=>?_,λ_=>?_⟩⟩⟩⟩
 ·rw[ak Ω Ω];exact DG s f g FU (f+1) Ω Ω (by rw[aI];omega)
 ·exact Aw s f g FU f Ω Ω (by rw[aI];omega)
 ·exact(RZ s f l j g).mono λ_ _=>trivial
 ·exact(XI s f l j g).mono λ_ _=>trivial
def DJ (s:Str)(j:Int)(J:s.length<1000000)(k:aH agX.den)(g:Int)(l:∀f,g<f→f≤s.length→Tot (k s j f) λ_=>True)(p:ixs s g=35):∀(n:Nat) (f:Int),0≤f→g≤f→f≤s.length→g<s.length→s.length-f<n→Tot (qY k n s j f) λ_=>True
 |0,R,_,_,r,_,P=>Ω
 |n+1,f,C,ha,r,h5,P=>by
  show Tot (uW false some (qY k n) k s j f) _;simp only[uW,tt,il];refine⟨ap λh=>aw C (by simpa using h),λh=>?_,λh=>?_⟩
  ·have h:f<s.length:=by
    simp at h;exact h.1
   refine⟨aw C h,(gQ (za _)).mono λ_ _=>λ_=>?_⟩;rw[ak Ω Ω];exact DJ s j J k g l p n (f+1) Ω Ω Ω h5 Ω
  ·refine l f ?_ r;by_cases e:g=f
   ·subst e;rw[p]at h;simp[h5]at h
   ·omega
def uV (s:Str)(g:Int)(l:s.length<1000000):∀(n:Nat) (f:Int),0≤f→f≤s.length→s.length-f<n→Tot (qZ n s g f) λ_=>True
 |0,P,_,r,J=>Ω
 |n+1,f,p,r,J=>by
  show Tot (uX false some (qZ n) (qY (qZ n) FU) s g f) _;simp only[uX,tt,il];intro h;have h:f<s.length:=by simpa using h
  refine⟨aw p h,λ_=>?_,λ_=>⟨aw p h,λC=>?_⟩⟩
  ·rw[ak Ω Ω];exact uV s g l n (f+1) Ω Ω Ω
  ·exact DJ s g l _ f (λu R j=>uV s g l n u Ω j Ω) (by simpa using C) FU f p Ω r h (by rw[aI];omega)
def YA (s:Str)(f:s.length<1000000):Tot (uY s 0) λ_=>True:=by simp[uY,ED];exact uV s 0 f FU 0 Ω Ω (by rw[aI];omega)
def Cs {s:Str}(h:¬s=[]):(0:Int)<s.length:=by
 cases s with
 |nil=>exact absurd rfl h
 |cons a l=>simp
def H8 (s:Str)(f:s.length<1000000):Tot (lY s) λ_=>True:=by
 simp only[lY,BP,tt];have g:∀{c:Bool},(!(bif decide (s=[])then true else c))=true→(0:Int)<s.length:=λh=>Cs λe=>by simp[e]at h
 refine⟨ap λh=>aw Ω (Cs (by simpa using h)),ap λh=>aw Ω (g h),λh=>(Yi s 0 Ω ?_ f).mono λ_ _=>trivial⟩;refine Cs λe=>?_;simp[e]at h
def zx (s:Str)(g:s.length<1000000):∀(n:Nat) (c:Bool) (i:Int),0≤i→i≤s.length→s.length-i<n→Tot (oL n s c i) λ_=>True
 |0,_,p,_,l,j=>Ω
 |n+1,c,i,f,l,j=>by
  show Tot (mq false some (oL n) s c i) _;simp only[mq,jQ,mt,tt,il];intro h;have h:i<s.length:=by simpa using h
  rw[ak Ω Ω];have r:=λc=>zx s g n c (i+1) Ω Ω Ω;exact⟨aw f h,λ_=>⟨aw f h,λ_=>r _,λ_=>r _⟩,λ_=>⟨aw f h,λ_=>r _,λ_=>r _⟩⟩
def Oj (s:Str)(t:Bool)(f:s.length<1000000):Tot (ja s t) λ_=>True:=by simp only[ja,vW,tt];exact(YA s f).mono λ_ _=>λ_ _=>zx s f FU false 0 Ω Ω (by rw[aI];omega)
def Iw (k:Int)(s:Str)(f:s.length<1000000):Tot (iy k s) λ_=>True:=by simp[iy,oM,kX,d8,pE,tt];refine(H8 s f).mono λr _=>?_;have:=afd s;simp[this]
def gO (id:Int):bW id=some (decide (id>1048576)&&decide (id<34603008) && !decide (id.tmod 1048576=0)):=by simp only[bW,rQ,DF,PJ];rw[show(!decide ((1048576:Int)=0))=true from rfl,cD];simp[ck,akC]
def tW (id:Int):qd id=true:=by unfold qd;rw[gO];rfl
def zr (s:Str)(g:s.length<1000000):∀(n:Nat) (i:Int),0≤i→i≤s.length→s.length-i<n→Tot (oH n s i) λ_=>True
 |0,p,_,l,j=>Ω
 |n+1,i,f,l,j=>by
  show Tot (mn false some (oH n) s i) _;simp only[mn,tt,il];intro h;have h:i<s.length:=by simpa using h
  refine⟨aw f h,ap λ_=>aw f h,λ_=>?_⟩;rw[ak Ω Ω];exact zr s g n (i+1) Ω Ω Ω
def Oa (s:Str)(f:s.length<1000000):Tot (mo s) λ_=>True:=by
 simp only[mo,vT,tt,il];refine⟨ap λh=>?_,λ_=>zr s f FU 0 Ω Ω (by rw[aI];omega)⟩;rw[ak Ω Ω];have:¬((s.length:Int)<1):=λe=>by simp[e]at h
 exact aw Ω Ω
def dT (id:Int):Prop:=1048576<id∧id<34603008∧¬id.tmod 1048576=0
def RfI (x:Int):Prop:=x=0∨dT x
def zt (h:gP id=true):dT id:=by
 have e:gP id=(decide (id>1048576)&&decide (id<34603008) && !decide (id.tmod 1048576=0)):=by unfold gP;rw[gO];rfl
 rw[e]at h;simpa[dT,alk]using h
def LJ (v:aJ.den)(p:v.2.2.1.length<1000000):Tot (jV v) λr=>r=true→RfI v.2.2.2.1:=by
 simp only[jV,rZ,tt];refine⟨ap λ_=>tW _,ap λ_=>by simp[aF],λ_ h=>(by cases h),λg=>?_⟩;have f:RfI v.2.2.2.1:=by
  by_cases j:v.2.2.2.1=0
  ·exact .inl j
  ·refine .inr (zt ?_);cases l:gP v.2.2.2.1 with
   |true=>rfl
   |false=>rw[l]at g;simp[j]at g
 exact⟨λ_ _=>f,λ_=>⟨ap λ_=>by simp[aF],ap λ_=>by simp[aF],λ_ _=>f,λ_=>⟨λ_ _=>f,λ_=>(Iw _ _ p).mono λ_ _ _=>f⟩⟩⟩
def DQ (k f:Int)(v:aJ.den)(g:v.2.2.1.length<1000000):Tot (jo k f v) λr=>r=true→RfI v.2.2.2.1:=by
 simp only[jo,w5,tt];have z:∀{a:Int} {s:Str},eqD aJ v (a,false,s,0,())=true→RfI v.2.2.2.1:=λh=>.inl (by rw[HJ aJ _ _ h]);refine⟨λh _=>z h,λ_=>⟨λ_ h=>(by cases h),λ_=>⟨λ_ h=>z h,λ_=>⟨λ_ h=>z h,λ_=>⟨λ_=>⟨ap λ_=>tW _,λ_ h=>(by cases h),λC=>?_⟩,λ_=>⟨λ_=>(H8 _ g).mono λ_ _=>⟨λ_ h=>(by cases h),λj=>?_⟩,λ_=>⟨λ_=>LJ v g,λ_=>⟨λ_=>⟨ap λ_=>by simp[aF],ap λ_=>(Oj _ _ g).some,λh=>?_⟩,λ_ h=>(by cases h)⟩⟩⟩⟩⟩⟩⟩⟩
 ·have p:RfI v.2.2.2.1 :=.inr (zt (by
   cases l:gP v.2.2.2.1 with
   |true=>rfl
   |false=>rw[l]at C;simp at C))
  exact⟨λ_=>(Oa _ g).mono λ_ _ _=>p,λ_ _=>p⟩
 ·have j:=z (by simpa using j);exact⟨λ_ _=>j,λ_ _=>j⟩
 ·refine z (a:=0) (s:=v.2.2.1) ?_;cases l:eqD aJ v (0,false,v.2.2.1,0,())with
  |true=>rfl
  |false=>rw[l]at h;cases h
def Sj (k f:Int)(v:aJ.den)(g:v.2.2.1.length<1000000):Tot (qj k f v) λr=>r=true→RfI v.2.2.2.1:=by simp[qj,zD,tt];exact(DQ k f v g).mono λ_ j=>⟨ap λ_=>by simp[aF],ap λ_=>by simp[aF],λh _=>j h⟩
def TxV (v:Val):Prop:=v.2.2.1.length<1000
def TxC (c:Cel):Prop:=TxV c.2.2.1
def fO {t:Ty}{l:List t.den}(g:0≤i)(f:i<l.length):ix t l i∈l:=by
 have h:i.toNat<l.length:=Ω
 unfold ix;rw[E',ε h];exact w_ h
def Pb (a b:Cel):fA a b=some (decide (a.1=b.1)&&decide (a.2.1=b.2.1)):=by simp[fA,oU,DF]
def RR (a b:Cel):(jz a b).isSome=true:=by simp[jz,B7];cases decide (a.1=b.1) <;> rfl
def Ku (l:List Int)(x:Int)(g:l.length<1000000):∀(n:Nat) (r p:List Int),l=p++r→r.length<n→Be n l x (p.length:Int)=some (decide (x∈r))
 |0,r,p,_,h=>Ω
 |n+1,r,p,e,h=>by
  subst e;show Bf false some (Be n) (p++r) x p.length=_;simp only[Bf,s2,il];cases r with
  |nil=>rw[TN (t:=tInt)];simp
  |cons c r=>
   have next:=Ku (p++c::r) x g n r (p++[c]) Ψ (by simp at h;omega)
   rw[←Tv (t:=tInt) p c (by simp at g;omega)]at next
   rw[MD (t:=tInt),bt (t:=tInt),aw Ω Ξ,next];simp[ck];by_cases f:c=x
   ·simp[f]
   ·have:¬x=c:=λe=>f e.symm;simp[f,this]
def Bg (l:List Int)(x:Int)(f:l.length<1000000):lw l x=some (decide (x∈l)):=by simp[lw,MV];exact Ku l x f FU l [] rfl (by rw[aI];omega)
def jH (l:List Int)(x:Int)(f:l.length<1000000):tM l x=true:=by unfold tM;rw[Bg l x f];rfl
def iR (l:List Int)(x:Int)(f:l.length<1000000):hO l x=decide (x∈l):=by unfold hO;rw[Bg l x f];rfl
abbrev Asc (l:List Int):Prop:=l.Pairwise λa b=>a<b
def aep {l:List Int}{t:Nat}(h:Asc l)(T:t≤l.length)(C:∀q:0<t,l[t-1]'Ω<x)(r:∀y∈l.drop t,x<y):Asc (l.take t++[x]++l.drop t):=by
 have g:∀y∈l.take t,y<x:=λy J=>by
  obtain⟨j,R,rfl⟩:=t_.1 J;have P:j<t:=by simp at R;omega
  rw[ajW];by_cases e:j=t-1
  ·subst e;exact C Ω
  ·exact alx (u_.1 h j (t-1) Ω Ω Ω) (C Ω)
 rw[D_];refine o_.2 ⟨h.sublist (akp ..),q_.2 ⟨r,h.sublist (List.drop_sublist ..)⟩,λa p b f=>?_⟩;obtain rfl|f:=P'.1 f
 ·exact g a p
 ·exact alx (g a p) (r b f)
def JT (l:List Int)(x:Int)(hs:l.length<1000000):∀(n:Nat) (t:Int),0≤t→t≤l.length→t<n→(∀y∈l.drop t.toNat,x<y)→Tot (Ad n l x t) λr=>r.length≤l.length+1∧(∀y,y∈r↔y∈l∨y=x)∧(Asc l→Asc r)
 |0,t,U,_,h,_=>Ω
 |n+1,t,U,C,h,R=>by
  show Tot (Ae false some (Ad n) l x t) _;have T:t>0→bd (w64 (t-1)) l.length=true:=λh=>by rw[ak Ω Ω];exact aw Ω Ω
  simp only[Ae,tt,U_,n_,z_];refine⟨ap λh=>T (by simpa using h),λh=>?_,λ_=>?_⟩
  ·have J:t>0:=by simp at h;exact h.1
   refine⟨T J,λp=>⟨Ω,λy=>⟨.inl,λf=>?_⟩,λf=>f⟩,λg=>?_⟩
   ·obtain f|rfl:=f
    ·exact f
    ·have p:ix tInt l (w64 (t-1))=y:=by simpa using p
     rw[←p];have hi:=ak (n:=t-1) Ω Ω;exact fO (t:=tInt) Ω Ω
   ·have ew:w64 (t-1)=t-1:=ak Ω Ω;have eq:∀q:(t-1).toNat<l.length,ix tInt l (t-1)=l[(t-1).toNat]:=λq=>by unfold ix;rw[E',ε q];rfl
    rw[ew]at g h⊢;refine JT l x hs n (t-1) Ω Ω Ω λy f=>?_;have j:(t-1).toNat<l.length:=Ω
    rw[akm j,show(t-1).toNat+1=t.toNat by omega]at f;obtain rfl|f:=P'.1 f
    ·rw[eq j]at g h;have C:x≤l[(t-1).toNat]:=by
      rw[dt J,I']at h;exact N' h
     have h2:¬l[(t-1).toNat]=x:=j? g;exact akI.2 ⟨C,λe=>h2 e.symm⟩
    ·exact R y f
  next hstop=>
   have hl:(List.take t.toNat l).length=t.toNat:=by simp;omega
   have P:(decide (0≤t)&&decide (t≤(l.length:Int)))=true:=by simp[U,C]
   refine⟨P,by simp[lm,LIM];omega,by simp[lm,LIM];omega,P,by simp[lm,LIM];omega,by simp;omega,λy=>?_,λha=>aep ha Ω (λq=>?_) R⟩
   rotate_left
   ·have e:w64 (t-1)=((t.toNat-1:Nat):Int):=by rw[ak Ω Ω];omega
    have eq:ix tInt l ((t.toNat-1:Nat):Int)=l[t.toNat-1]'Ω:=by unfold ix;rw[akY,E',ε Ω];rfl
    rw[dt Ω,I',e,eq]at hstop;exact Int.not_le.1 (j? hstop)
   have:=P? t.toNat l;simp only[π,ξ];constructor
   ·rintro((f|f)|f)
    ·exact .inl (W? f)
    ·exact .inr f
    ·exact .inl (aj2 f)
   ·rintro(f|f)
    ·rw[←this,π]at f;obtain f|f:=f
     ·exact .inl (.inl f)
     ·exact .inr f
    ·exact .inl (.inr f)
def uC (l:List Int)(x:Int)(g:l.length<1000000):Tot (gq l x) λr=>r.length≤l.length+1∧(∀y,y∈r↔y∈l∨y=x)∧(Asc l→Asc r):=by
 simp only[gq,Ma,tt];exact JT l x g FU l.length Ω Ω (by rw[aI];omega) λy f=>by simp at f
def Gd (l:List Int)(x:Int)(f:l.length<1000000):Tot (gq l x) λr=>r.length≤l.length+1∧∀y,y∈r↔y∈l∨y=x :=
 (uC l x f).mono λ_ h=>⟨h.1,h.2.1⟩
def GG (l:List Cel)(id:Int)(C:l.length<1000000):∀(n:Nat) (out:List Cel) (i:Int),0≤i→i≤l.length→out.length≤i→(∀c∈out,c∈l)→l.length-i<n→Tot (EA n l id out i) λr=>r.length≤l.length∧∀c∈r,c∈l
 |0,out,i,p,P,J,j,h=>Ω
 |n+1,out,i,p,P,J,j,h=>by
  show Tot (GH false some (EA n) l id out i) _;simp only[GH,GI,tt,il];refine⟨λf=>?_,λ_=>⟨Ω,j⟩⟩;have f:i<l.length:=by simpa using f
  rw[ak Ω Ω];refine⟨aw p f,λ_=>⟨aw p f,by simp[lm,LIM];omega,GG l id C n _ _ Ω Ω Ξ (λc g=>?_) Ω⟩,λ_=>GG l id C n _ _ Ω Ω Ω j Ω⟩;obtain g|g:=π.1 g
  ·exact j c g
  ·rw[ξ.1 g];exact fO p f
def aeR (l:List Cel)(id:Int)(f:l.length<1000000):Tot (GJ l id) λr=>r.length≤l.length∧∀c∈r,c∈l:=by simp only[GJ,VF];exact GG l id f FU [] 0 Ω Ω Ψ (λc g=>by cases g) (by rw[aI];omega)
def zh (l:List Cel)(j:l.length<1000000):∀(n:Nat) (i:Int),0≤i→i≤l.length→l.length-i<n→Tot (oh n l i) λ_=>True
 |0,i,g,C,h=>Ω
 |n+1,i,g,C,h=>by
  show Tot (ma false some (oh n) l i) _;simp only[ma,tt,il];intro f;have f:i<l.length:=by simpa using f
  have p:∀{c:Bool},(c&&decide (i>0))=true→bd (w64 (i-1)) l.length=true:=λh=>by simp at h;rw[ak Ω Ω];exact aw Ω Ω
  refine⟨aw g f,(gQ (by rw[gO];rfl)).mono λr _=>⟨ap λ_=>aw g f,ap λ_=>aw g f,ap p,ap λ_=>aw g f,ap λ_=>RR _ _,ap λ_=>by simp[aF],λ_=>?_⟩⟩;rw[ak Ω Ω];exact zh l j n (i+1) Ω Ω Ω
def NG (l:List Cel)(f:l.length<1000000):Tot (mb l) λ_=>True:=by simp[mb,vL];exact zh l f FU 0 Ω Ω (by rw[aI];omega)
def zq (l:List Cel)(g:l.length<1000000):∀(n:Nat) (i:Int),0≤i→i≤l.length→l.length-i<n→Tot (oF n l i) λ_=>True
 |0,i,j,p,h=>Ω
 |n+1,i,j,p,h=>by
  show Tot (mj false some (oF n) l i) _;simp only[mj,tt,il];refine⟨λf=>?_,λ_=>(NG l g).mono λ_ _=>trivial⟩;have f:i<l.length:=by simpa using f
  rw[ak Ω Ω];exact⟨aw j f,λ_=>zq l g n (i+1) Ω Ω Ω⟩
def N7 (l:List Cel)(f:l.length<1000000):Tot (ml l) λ_=>True:=by simp[ml,vS];exact zq l f FU 0 Ω Ω (by rw[aI];omega)
def tV (t:Mdl)(id f:Int)(p:t.1.length<1000000):∀(n:Nat) (g j:Int),0≤g→g≤j→j≤t.1.length→j-g<n→Tot (rP n t id f g j) λ_=>True
 |0,g,j,l,J,C,h=>Ω
 |n+1,g,j,l,J,C,h=>by
  show Tot (qb false some (rP n) t id f g j) _;simp only[qb,tt,il];refine⟨λr=>?_,λ_=>⟨ap λh=>aw l (by simpa using h),ap λ_=>by unfold F4;rw[Pb];rfl,λh=>aw l ?_⟩⟩
  ·have r:g<j:=by simpa using r
   have U:w64 (g+j)=g+j:=ak Ω Ω;have T:Int.tdiv (g+j) 2=(g+j)/2:=ald Ω;have R:w64 ((g+j)/2)=(g+j)/2:=ak Ω Ω;have P:w64 ((g+j)/2+1)=(g+j)/2+1:=ak Ω Ω;rw[U,T,R,P];exact⟨by decide,aw Ω Ω,(gQ (RR _ _)).mono λ_ _=>⟨λ_=>tV t id f p n _ _ Ω Ω Ω Ω,λ_=>tV t id f p n _ _ Ω Ω Ω Ω⟩⟩
  ·simp at h;exact h.1
def ab1 (t:Mdl)(id f:Int)(g:t.1.length<1000000):Tot (Bj t id f) λ_=>True:=by simp[Bj,MY,vR,zo,tt];exact(tV t id f g FU 0 t.1.length Ω Ω Ω (by rw[aI];omega)).mono λ_ _=>trivial
def yN (t:Mdl)(j:t.1.length<1000000):∀(n:Nat) (l:List Int) (i:Int),0≤i→i≤t.1.length→l.length≤i→t.1.length-i<n→Tot (wW n t l i) λr=>r.length≤t.1.length
 |0,l,i,g,C,p,h=>Ω
 |n+1,l,i,g,C,p,h=>by
  show Tot (u5 false some (wW n) t l i) _;simp only[u5,u6,tt,il];refine⟨λf=>?_,λ_=>Ω⟩;have f:i<t.1.length:=by simpa using f
  rw[ak (n:=i+1) Ω Ω];refine⟨ap λ_=>aw g f,ap λh=>?_,λ_=>⟨aw g f,by simp[lm,LIM];omega,yN t j n _ _ Ω Ω Ξ Ω⟩,λ_=>yN t j n _ _ Ω Ω Ω Ω⟩;have h:¬i=0:=by simpa using h
  rw[ak Ω Ω];exact aw Ω Ω
def YV (t:Mdl)(f:t.1.length<1000000):Tot (u7 t) λr=>r.length≤t.1.length:=by simp[u7,EI];exact yN t f FU [] 0 Ω Ω Ψ (by rw[aI];omega)
def Ds (t:Mdl)(C:t.1.length<1000000)(p:∀c∈t.1,TxC c):∀(n:Nat) (f:Int) (a b:Bool) (i:Int),0≤i→i≤t.1.length→t.1.length-i<n→Tot (my n t f a b i) λ_=>True
 |0,f,a,b,i,j,P,h=>Ω
 |n+1,f,a,b,i,j,P,h=>by
  show Tot (ql false some (my n) t f a b i) _;have l:i<t.1.length→∀f a b,Tot (jc false some (my n) t i f a b) λ_=>True:=λg f a b=>by
   have J:=p _ (fO (t:=aa) j g);simp only[jc,qm,tt,il];rw[ak (n:=i+1) Ω Ω,ak (n:=(t.1.length:Int)-1) Ω Ω];have r:=λa b=>Ds t C p n f a b (i+1) Ω Ω Ω;refine⟨aw j g,aw j g,(DQ _ _ _ (alr J Ω)).mono λ_ _=>λ_=>⟨ap λ_=>aw j g,ap λ_=>aw j g,ap λh=>aw Ω ?_,ap λ_=>aw j g,λ_=>⟨ap λ_=>by simp[aF],λ_=>r _ _⟩,λ_=>r _ _⟩⟩;have h:¬i=(t.1.length:Int)-1:=by simpa using h
   omega
  simp only[ql,tt,il];intro g;have g:i<t.1.length:=by simpa using g
  refine⟨ap λ_=>aw j g,ap λh=>?_,λ_=>⟨aw j g,λ_=>⟨aw j g,l g _ _ _⟩⟩,λ_=>l g _ _ _⟩;have h:¬i=0:=by simpa using h
  rw[ak Ω Ω];exact aw Ω Ω
def Sm (t:Mdl)(f:t.1.length<1000000)(g:∀c∈t.1,TxC c):Tot (qp t) λ_=>True:=by simp[qp,zG,tt];exact(N7 _ f).mono λ_ _ _=>Ds t f g FU 0 false false 0 Ω Ω (by rw[aI];omega)
def xN (t:Mdl)(j:t.1.length<1000000)(g f:Int)(p:f≤1000001):∀(n:Nat) (id i:Int),0≤i→i≤1000001→1000001-i<n→Tot (lh n g f t id i) λ_=>True
 |0,id,i,C,r,h=>Ω
 |n+1,id,i,C,r,h=>by
  show Tot (j8 false some (lh n) g f t id i) _;simp[j8,tt];intro l;have l:i<f:=by simpa using l
  rw[ak Ω Ω];exact(ab1 t id 2 j).mono λ_ _ _ _=>xN t j g f p n _ (i+1) Ω Ω Ω
def L7 (t:Mdl)(j:t.1.length<1000000)(id g f:Int)(l:f≤1000001):Tot (gS t id g f) λ_=>True:=by simp[gS,sr];exact xN t j g f l FU id 0 Ω Ω (by rw[aI];omega)
def tB (t:Mdl)(l:t.1.length<1000000)(id:Int)(f:List Int)(p:f.length≤t.1.length):∀(n:Nat) (out:List Int) (i:Int),0≤i→i≤f.length→out.length≤i→f.length-i<n→Tot (pp n id f t out i) λr=>r.length≤t.1.length
 |0,out,i,j,P,J,h=>Ω
 |n+1,out,i,j,P,J,h=>by
  show Tot (nT false some (pp n) id f t out i) _;simp only[nT,nU,tt,il];refine⟨λg=>?_,λ_=>Ω⟩;have g:i<f.length:=by simpa using g
  have C:JR t (ix tInt f i) id (w64 ((f.length:Int)+1))=true:=(L7 t l _ _ _ (by rw[ak Ω Ω];omega)).some;rw[C,ak (n:=i+1) Ω Ω];exact⟨aw j g,ap λ_=>aw j g,by simp[aF,cD],λ_=>⟨aw j g,by simp[lm,LIM];omega,tB t l id f p n _ _ Ω Ω Ξ Ω⟩,λ_=>tB t l id f p n _ _ Ω Ω Ω Ω⟩
def RH (t:Mdl)(f:t.1.length<1000000)(j:∀c∈t.1,TxC c)(id:Int):Tot (nV t id) λr=>r.length≤t.1.length:=by simp only[nV,xl,tt];exact(Sm t f j).mono λ_ _=>⟨ap λ_=>tW _,λ_=>by simp,λ_=>(YV t f).mono λg l=>tB t f id g l FU [] 0 Ω Ω Ψ (by rw[aI];omega)⟩
abbrev Com:=tCommit.den
abbrev ws (c:Com):List Cel:=c.2.2.2.2.1
def oa (w:List Cel):Prop:=w.Pairwise λa b=>ahd a.1 a.2.1 b.1 b.2.1=true
def Wr (w:List Cel)(id f:Int):Prop:=∃c∈w,c.1=id∧c.2.1=f
def Chn:Cel→List Cel→Prop
 |_,[]=>True
 |a,b::r=>ahd a.1 a.2.1 b.1 b.2.1=true∧Chn b r
def Nh:∀{r:List Cel} {a:Cel},Chn a r→(a::r).Pairwise λa b=>ahd a.1 a.2.1 b.1 b.2.1=true
 |[],a,_=>q_.2 ⟨λ_ h=>by(cases h),List.Pairwise.nil⟩
 |b::r,a,⟨j,l⟩=>by
  have g:=Nh l;refine q_.2 ⟨λx f=>?_,g⟩;obtain rfl|f:=P'.1 f
  ·exact j
  ·exact lZ j ((q_.1 g).1 x f)
def xR (l:List Cel)(f:l.length<1000000):∀(n:Nat) (r p:List Cel) (a:Cel),l=p++a::r→r.length<n→Tot (iN n l ((p.length:Int)+1)) λb=>b=true→Chn a r
 |0,r,p,a,e,h=>Ω
 |n+1,r,p,a,e,h=>by
  subst e;show Tot (eV false some (iN n) (p++a::r) ((p.length:Int)+1)) _;simp only[eV,tt,il];simp only[Y',s_]at f⊢;have P:w64 ((p.length:Int)+1-1)=p.length:=by rw[ak Ω Ω];omega
  cases r with
  |nil=>exact⟨λh=>by simp at h,λ_ _=>trivial⟩
  |cons b r=>
   rw[P];have J:ix aa (p++a::b::r) (p.length:Int)=a:=bt (t:=aa) p a (b::r);have C:ix aa (p++a::b::r) ((p.length:Int)+1)=b:=by have:=bt (t:=aa) (p++[a]) b r;rw[show p++a::b::r=(p++[a])++b::r by simp,show((p.length:Int)+1)=((p++[a]).length:Int)by simp];exact this
   have j:w64 ((p.length:Int)+1+1)=((p++[a]).length:Int)+1:=by rw[ak Ω Ω];simp
   rw[J,C,j];refine⟨λ_=>?_,λh=>?_⟩
   ·refine⟨aw Ω Ξ,aw Ω Ξ,aw Ω Ξ,aw Ω Ξ,λ_ h=>(by cases h),λh=>?_⟩;refine(xR (p++a::b::r) (by simp at f⊢;omega) n r (p++[a]) b Ψ (by simp at h;simp at *;omega)).mono λx g e=>⟨?_,g e⟩;rw[←xu];simpa using h
   ·simp at h;omega
def Mj (l:List Cel)(f:l.length<1000000):Tot (kg l) λb=>b=true→oa l:=by
 simp[kg,sy];cases l with
 |nil =>show Tot (eV false some (iN 1099511627775) [] 1) _;simp only[eV,tt,il];exact⟨λh=>by simp at h,λ_ _=>List.Pairwise.nil⟩
 |cons a r=>exact(xR (a::r) f FU r [] a rfl (by rw[aI];simp at f;omega)).mono λb g e=>Nh (g e)
def xA (w:List Cel)(id f:Int)(P:w.length<1000000):∀(n:Nat) (i:Int), -1≤i→i<w.length→i+1<n→(∀k:Nat,i<k→k<w.length→¬((w.getD k (zero aa)).1=id∧(w.getD k (zero aa)).2.1=f))→Tot (fp n w id f i) λr=>r.2.1=true↔Wr w id f
 |0,i,T,p,h,_=>Ω
 |n+1,i,T,p,h,hk=>by
  show Tot (eI false some (fp n) w id f i) _;simp only[eI,tt];refine⟨λg=>?_,λg=>?_⟩
  ·have g:0≤i:=by simpa using g
   refine⟨aw g p,ap λ_=>aw g p,λj=>⟨aw g p,λ_=>?_,λ_=>trivial⟩,λj=>?_⟩
   ·simp at j;exact⟨_,fO (t:=aa) g p,j.1,j.2⟩
   ·rw[ak Ω Ω];refine xA w id f P n (i-1) Ω Ω Ω λk R C=>?_;by_cases e:i=k
    ·subst e;simp at j;intro J;exact j J.1 J.2
    ·exact hk k Ω C
  ·have g:¬0≤i:=by simpa using g
   refine⟨λh=>(by cases h),λ⟨c,j,e1,U⟩=>?_⟩;obtain⟨k,l,rfl⟩:=t_.1 j;have:=hk k Ω l;rw[E',ε l]at this;exact absurd ⟨e1,U⟩ this
def fk (w:List Cel)(id f:Int)(g:w.length<1000000):Tot (bL w id f) λr=>r.2.1=true↔Wr w id f:=by
 simp[bL,l7,tt,il];rw[ak Ω Ω];exact xA w id f g FU _ Ω Ω (by rw[aI];omega) λk l j=>Ω
def zf (w:List Cel)(id f:Int)(p:w.length<1000000):∀(n:Nat) (i:Int), -1≤i→i<w.length→i+1<n→Tot (fp n w id f i) λr=>r.2.1=true→∃c∈w,c.1=id∧c.2.1=f∧c.2.2.1=r.1
 |0,i,C,j,h=>Ω
 |n+1,i,C,j,h=>by
  show Tot (eI false some (fp n) w id f i) _;simp only[eI,tt];refine⟨λg=>?_,λg h=>(by cases h)⟩;have g:0≤i:=by simpa using g
  refine⟨aw g j,ap λ_=>aw g j,λl=>⟨aw g j,λ_=>?_⟩,λl=>?_⟩
  ·simp at l;exact⟨_,fO (t:=aa) g j,l.1,l.2,rfl⟩
  ·rw[ak Ω Ω];exact zf w id f p n (i-1) Ω Ω Ω
def Iv (c:Com)(id f:Int)(g:(ws c).length<1000000):Tot (fq c id f) λr=>r=true↔Wr (ws c) id f:=by simp[fq,ol,tt];exact(fk _ id f g).mono λ_ h=>h
def DO (l:List Int)(j:l.length<1000000):∀(n:Nat) (i:Int),0≤i→i≤l.length→l.length-i<n→Tot (sT n l i) λ_=>True
 |0,i,g,p,h=>Ω
 |n+1,i,g,p,h=>by
  show Tot (rh false some (sT n) l i) _;simp only[rh,tt,il];intro f;have f:i<l.length:=by simpa using f
  rw[ak (n:=i+1) Ω Ω];refine⟨aw g f,(gQ (by rw[gO];rfl)).mono λr _=>⟨ap λ_=>aw g f,ap λh=>?_,ap λ_=>by simp[aF],λ_=>DO l j n (i+1) Ω Ω Ω⟩⟩;simp at h;rw[ak Ω Ω];exact aw Ω Ω
def Hn (l:List Int)(f:l.length<1000000):Tot (lU l) λ_=>True:=by simp[lU,AX];exact DO l f FU 0 Ω Ω (by rw[aI];omega)
def Ag (c:Com)(l:c.2.2.2.1.length<1000000)(P:Prop)(g:P):∀(n:Nat) (i:Int),0≤i→i≤c.2.2.2.1.length→c.2.2.2.1.length-i<n→Tot (oW n c i) λ_=>P
 |0,i,j,p,h=>Ω
 |n+1,i,j,p,h=>by
  show Tot (mO false some (oW n) c i) _;simp only[mO,tt,il];refine⟨λf=>?_,λ_=>g⟩;have f:i<c.2.2.2.1.length:=by simpa using f
  rw[ak (n:=i+1) Ω Ω];exact⟨aw j f,ap λ_=>aw j f,λ_=>g,λ_=>Ag c l P g n (i+1) Ω Ω Ω⟩
def Ph (c:Com)(j:c.2.1.length<1000000)(g:c.2.2.1.length<1000000)(p:c.2.2.2.1.length<1000000):Tot (mP c) λr=>r=true→dT c.1:=by
 simp only[mP,wy,tt];have e:bW c.1=some _:=gO c.1;refine⟨_,e,ap λ_=>(Hn _ j).some,ap λ_=>(Hn _ g).some,ap λ_=>jH _ _ j,ap λ_=>jH _ _ g,λ_ h=>(by cases h),λh=>?_⟩;have l:dT c.1:=by
  cases f:(decide (c.1>1048576)&&decide (c.1<34603008) && !decide (c.1.tmod 1048576=0))with
  |false=>rw[f]at h;simp at h
  |true=>simpa[dT,alk]using f
 exact(Ag c p (dT c.1) l FU 0 Ω Ω (by rw[aI];omega)).mono λ_ h _=>h
def q9 (s:Sta)(id:Int)(f:b9 s id 1=true):Tot (gc s id) λ_=>True:=by
 simp only[gc,EF,tt,il];refine⟨f,λh=>aw Ω ?_⟩;have h:¬((iV s id 1).length:Int)=0:=by simpa using h
 omega
def Qa (s:Sta)(w:List Cel)(id:Int)(g:b9 s id 1=true)(f:w.length<1000000):Tot (mZ s w id) λ_=>True:=by simp[mZ,wN,tt];exact(q9 s id g).mono λ_ _ _=>(fk w id 1 f).mono λ_ _=>trivial
def Qq (h:wS f=true):1≤f:=by
 unfold wS at h;simp only[fa,nh,DF,PJ]at h;rw[ap λ_=>by simp[aF]]at h;have h:(bif (bif decide (f≥1)then decide (f≤4)else false)then true else(bif decide (f≥8)then decide (f<48)else false))=true:=h;by_cases e:1≤f
 ·exact e
 ·rw[df (p:=f≥1) e,df (p:=f≥8) Ω]at h;cases h
def T6 (f:Int):(fa f).isSome=true:=by simp[fa,nh,DF,PJ];rw[ap λ_=>by simp[aF]];rfl
def IdC (x:Cel):Prop:=dT x.1∧RfI x.2.2.1.2.2.2.1∧1≤x.2.1
def M1 (s:Sta)(c:Com)(x:Cel)(C:b9 s x.1 1=true)(l:(ws c).length<1000000)(R:TxC x):Tot (kA s c x) λr=>r=0→IdC x:=by
 simp only[kA,tc,jK,ly,gh,lx,tt];refine⟨_,gO x.1,ap λ_=>T6 _,λ_ h=>absurd h Ϛ,λj=>?_⟩;have p:dT x.1:=by
  cases f:(decide (x.1>1048576)&&decide (x.1<34603008) && !decide (x.1.tmod 1048576=0))with
  |false=>rw[f]at j;simp at j
  |true=>simpa[dT,alk]using f
 have J:1≤x.2.1:=Qq (by
  cases f:wS x.2.1 with
  |false=>rw[f]at j;simp at j
  |true=>rfl)
 refine(q9 s x.1 C).mono λ_ _=>⟨λ_=>⟨ap λ_=>by simp[aF],λ_ h=>absurd h Ϛ,λP=>?_⟩,λ_=>(Qa s _ x.1 C l).mono λ_ _=>⟨λ_ h=>absurd h Ϛ,λ_=>(Sj _ _ _ (alr R Ω)).mono λr T=>⟨λ_ h=>absurd h Ϛ,λh _=>⟨p,T (by simpa using h),J⟩⟩⟩⟩;have g:IdC x:=by
  refine⟨p,.inl ?_,J⟩;cases f:eqD aJ x.2.2.1 (x.2.2.1.1,false,[],0,())with
  |true=>rw[HJ aJ _ _ f]
  |false=>rw[f]at P;simp at P
 exact⟨λ_=>⟨λ_=>(fk _ _ _ l).mono λ_ _=>⟨λ_ _=>g,λ_ _=>g⟩,λ_=>(fk _ _ _ l).mono λ_ _=>⟨λ_ _=>g,λ_ _=>g⟩⟩,λ_ _=>g⟩
def Bk (s:Sta)(c:Com)(P:∀id,b9 s id 1=true)(J:(ws c).length<1000000)(C:∀x∈ws c,TxC x):∀(n:Nat) (i:Int),0≤i→i≤(ws c).length→(ws c).length-i<n→(∀j:Nat,j<i→∀x,(ws c)[j]? = some x→IdC x)→Tot (pj n s c i) λr=>r=0→∀x∈ws c,IdC x
 |0,i,p,h1,h,_=>Ω
 |n+1,i,p,h1,h,hd=>by
  show Tot (nC false some (pj n) s c i) _;simp only[nC,tt,il];refine⟨λf=>?_,λf _ x hm=>?_⟩
  ·have f:i<(ws c).length:=by simpa using f
   rw[ak (n:=i+1) Ω Ω];refine⟨aw p f,(M1 s c _ (P _) J (C _ (fO (t:=aa) p f))).mono λr T=>⟨λl e=>absurd e (by simpa using l),λl=>Bk s c P J C n (i+1) Ω Ω Ω λj R x g=>?_⟩⟩;by_cases e:(j:Int)=i
   ·have U:ix aa (ws c) i=x:=by
     show(ws c).getD i.toNat (zero aa)=x;rw[←e,E',akY,g];rfl
    have:=T (by simpa using l);rw[←U];exact this
   ·exact hd j Ω x g
  ·obtain⟨j,R,rfl⟩:=t_.1 hm;have f:¬i<(ws c).length:=by simpa using f
   exact hd j Ω _ (ε R)
def QG (s:Sta)(c:Com)(C:∀id,b9 s id 1=true)(R:c.2.1.length<1000000)(P:c.2.2.1.length<1000000)(J:c.2.2.2.1.length<1000000)(l:(ws c).length<1000000)(p:∀x∈ws c,TxC x):Tot (nD s c) λr=>r=0→dT c.1∧oa (ws c)∧∀x∈ws c,IdC x:=by simp only[nD,wZ,tt];refine(Ph c R P J).mono λr1 g=>⟨λ_ h=>absurd h Ϛ,λU=>(Mj (ws c) l).mono λr2 f=>⟨λ_ h=>absurd h Ϛ,λT=>?_⟩⟩;exact(Bk s c C l p FU 0 Ω Ω (by rw[aI];omega) λj hj=>Ω).mono λ_ h e=>⟨g (by simpa using U),f (by simpa using T),h e⟩
def fb (l:List Com)(x:Int):Option Com:=l.find? λc=>decide (c.1=x)
def DS (l:List Com)(x:Int)(f:l.length<1000000):∀(n:Nat) (r p:List Com),l=p++r→r.length<n→tg n l x (p.length:Int)=some (match fb r x with|some c=>(c,true,())|none=>((0,[],[],[],[],()),false,()))
 |0,r,p,_,h=>Ω
 |n+1,r,p,e,h=>by
  subst e;show rm false some (tg n) (p++r) x p.length=_;simp only[rm,s2,il];cases r with
  |nil=>rw[TN (t:=tCommit)];rfl
  |cons c r=>
   have next:=DS (p++c::r) x f n r (p++[c]) Ψ (by simp at h;omega)
   rw[←Tv (t:=tCommit) p c (by simp at f;omega)]at next
   rw[MD (t:=tCommit),bt (t:=tCommit),aw Ω Ξ,next];simp[ck,fb];by_cases g:c.1=x
   ·simp[g]
   ·simp[g]
def CP (l:List Com)(x:Int)(f:l.length<1000000):jp l x=some (match fb l x with|some c=>(c,true,())|none=>((0,[],[],[],[],()),false,())):=by simp[jp,Bo];exact DS l x f FU l [] rfl (by rw[aI];omega)
def cM (h:n≤4000000000):lm n=true:=by unfold lm LIM;exact L_ Ω
def InH (l:List Com)(x:Int):Prop:=∃c∈l,c.1=x
variable{l T:List Com}{c:Com}
def CO (h:fb l x=some c):c∈l∧c.1=x:=by unfold fb at h;exact⟨alf h,by simpa using List.find?_some h⟩
def HB (h:fb l x=none):¬InH l x:=by rintro⟨c,f,e⟩;unfold fb at h;have:=List.find?_eq_none.1 h c f;simp[e]at this
def aQ (l:List Com)(r:List Int):Prop:=∀x∈r,∀c,fb l x=some c→∀p∈c.2.1,InH l p→p∈r
def rest:List Com→List Int→Nat
 |[],_=>0
 |c::l,out=>(if c.1∈out then 0 else c.2.1.length)+rest l out
def JN {out f:List Int}(h:∀y∈out,y∈f):∀l,rest l f≤rest l out
 |[]=>ζ _
 |c::l=>by
  have:=JN h l;simp[rest];by_cases g:c.1∈out
  ·simp[g,h _ g];omega
  ·by_cases j:c.1∈f <;> simp[g,j] <;> omega
def JM {out f:List Int}{x:Int}(g:x∈f)(j:¬x∈out)(h:∀y∈out,y∈f):∀{l:List Com} {c:Com},fb l x=some c→rest l f+c.2.1.length≤rest l out
 |[],c,hc=>by simp[fb]at hc
 |d::l,c,hc=>by
  by_cases e:d.1=x
  ·have:d=c:=by simpa[fb,e]using hc
   subst this;have:=JN h l;rw[←e]at g j;simp[rest,g,j];omega
  ·have p:fb l x=some c:=by simpa[fb,e]using hc
   have:=JM g j h p;simp[rest];by_cases r:d.1∈out
   ·simp[r,h _ r];omega
   ·by_cases C:d.1∈f <;> simp[r,C] <;> omega
def adV (l:List Com)(f r:List Int):Prop:=(∀x∈f,InH l x→x∈r)∧aQ l r
def xp (l:List Com)(T:List Int)(B:Nat)(hB:B<100000)(hs:l.length<1000000):∀(n:Nat) (out:List Int) (g:Nat) (f:List Int),g≤f.length→g+rest l out<n→out.length+g+rest l out≤B →
  (∀x∈T,InH l x→x∈out∨x∈f.take g)→(∀x∈out,∀c,fb l x=some c→∀p∈c.2.1,InH l p→p∈out∨p∈f.take g)→Tot (BX n l out g f) λr=>r.length≤B∧adV l T r
 |0,out,g,f,h1,h2,h3,h4,h5=>Ω
 |n+1,out,g,f,h1,h2,h3,h4,h5=>by
  show Tot (BY false some (BX n) l out g f) _;simp only[BY,tt,ni];refine⟨λJ=>?_,λJ=>?_⟩
  ·have J:0<g:=by simpa using J
   have e0:w64 ((g:Int)-1)=(g:Int)-1:=ak Ω Ω;have e1:((g:Int)-1).toNat=g-1:=Ω
   rw[e0,e1,Q'];obtain⟨k,rfl⟩:∃k,g=k+1:=⟨g-1,Ω⟩;rw[show k+1-1=k from rfl];have hk:k<f.length:=Ω
   have e2:f.getD k (zero tInt)=f[k]:=by rw[E',ε hk];rfl
   rw[e2];have j:∀y,y∈f.take (k+1)↔y∈f.take k∨y=f[k]:=λy=>by rw[J' hk,π,ξ]
   generalize hx:f[k]=x at *;refine⟨by simp;omega,by simp;omega,_,CP l x hs,ap λ_=>jH _ _ Ω, ?_⟩;rw[iR _ _ Ω];cases hf:fb l x with
   |none=>
    refine⟨λ_=>xp l T B hB hs n out k f Ω Ω Ω (λy C g=>?_) (λy C c hc p J g=>?_),λh=>by simp at h⟩
    ·obtain h|h:=h4 y C g
     ·exact .inl h
     ·rcases(j y).1 h with h|rfl
      ·exact .inr h
      ·exact absurd g (HB hf)
    ·obtain h|h:=h5 y C c hc p J g
     ·exact .inl h
     ·rcases(j p).1 h with h|rfl
      ·exact .inr h
      ·exact absurd g (HB hf)
   |some c=>
    dsimp only;refine⟨λh=>?_,λh=>?_⟩
    ·have hin:x∈out:=by simpa using h
     refine xp l T B hB hs n out k f Ω Ω Ω (λy C g=>?_) (λy C c hc p J g=>?_)
     ·obtain h|h:=h4 y C g
      ·exact .inl h
      ·rcases(j y).1 h with h|rfl
       ·exact .inr h
       ·exact .inl hin
     ·obtain h|h:=h5 y C c hc p J g
      ·exact .inl h
      ·rcases(j p).1 h with h|rfl
       ·exact .inr h
       ·exact .inl hin
    ·have hni:¬x∈out:=by simpa using h
     refine(Gd out x Ω).mono λr2 R=>?_;have P:∀y∈out,y∈r2:=λy C=>(R.2 y).2 (.inl C);have hrest:=JM ((R.2 x).2 (.inr rfl)) hni P hf;have U:(f.take k++c.2.1).take (k+c.2.1.length)=f.take k++c.2.1:=by apply K_;simp;omega
     refine⟨cM Ω,xp l T B hB hs n r2 _ _ Ξ Ω Ω (λy C g=>?_) (λy C d hd p J g=>?_)⟩
     ·rw[U,π];obtain h|h:=h4 y C g
      ·exact .inl (P y h)
      ·rcases(j y).1 h with h|rfl
       ·exact .inr (.inl h)
       ·exact .inl ((R.2 _).2 (.inr rfl))
     ·rw[U,π];rcases(R.2 y).1 C with C|rfl
      ·obtain h|h:=h5 y C d hd p J g
       ·exact .inl (P p h)
       ·rcases(j p).1 h with h|rfl
        ·exact .inr (.inl h)
        ·exact .inl ((R.2 _).2 (.inr rfl))
      ·rw[hf]at hd;cases hd;exact .inr (.inr J)
  ·have J:g=0:=by simpa using J
   subst J;refine⟨Ω,λx hx g=>?_,λx hx c hc p J g=>?_⟩
   ·obtain h|h:=h4 x hx g
    ·exact h
    ·simp at h
   ·obtain h|h:=h5 x hx c hc p J g
    ·exact h
    ·simp at h
def Few (l:List Com):Prop:=l.length≤20∧∀c∈l,c.2.1.length≤4
def Vs:∀(l:List Com),(∀c∈l,c.2.1.length≤4)→∀out,rest l out≤4*l.length
 |[],_,_=>ζ _
 |c::l,h,out=>by have:=Vs l (λd f=>h d (F' _ f)) out;have:=h c (X' ..);simp[rest];split <;> omega
def Ih (l:List Com)(f:List Int)(j:Few l)(p:f.length≤1000):Tot (px l f) λr=>r.length≤2000∧adV l f r:=by simp only[px,Nr,tt,List.take_nil,n_,Q'];have J:=Vs l j.2 [];have C:=j.1;refine⟨cM Ω,xp l f 2000 Ω Ω FU [] f.length f Ω (by rw[aI];omega) Ξ (λx g _=>.inr (by simpa using g)) (λx g=>by cases g)⟩
def RL (l:List Com)(a b:Int)(f:Few l):Tot (nX l a b) λ_=>True:=by simp[nX,xo,tt];have h:=Ih l [b] f Ψ;exact⟨ap λ_=>h.some,ap λ_=>jH _ _ (J? (h.getD []).1 Ω)⟩
def Di (l:List Com)(f:List Int)(R:Few l)(p:f.length≤1000)(k:aB (List Int))(out:List Int)(i:Int)(P:0≤i)(J:i<f.length)(U:out.length≤i)(C:∀out:List Int,out.length≤i+1→Tot (k l f out (i+1)) λr=>r.length≤f.length):∀(n:Nat) (ok:Bool) (j:Int),0≤j→j≤f.length→f.length-j<n→Tot (qf k n l f out i ok j) λr=>r.length≤f.length
 |0,ok,j,T,h3,h=>Ω
 |n+1,ok,j,T,h3,h=>by
  show Tot (ua false some (qf k n) k l f out i ok j) _;simp only[ua,qh,qi,tt,il];rw[ak (n:=i+1) Ω Ω];refine⟨λg=>?_,λ_=>⟨λ_=>⟨aw P J,(Gd out _ Ω).mono λr hr=>C r Ω⟩,λ_=>C out Ω⟩⟩;have g:j<f.length:=by simp at g;exact g.2
  rw[ak (n:=j+1) Ω Ω];have r:=λok=>Di l f R p k out i P J U C n ok (j+1) Ω Ω Ω;exact⟨aw P J,aw T g,(RL l _ _ R).mono λ_ _=>⟨λ_=>r _,λ_=>r _⟩⟩
def Dj (l:List Com)(f:List Int)(p:Few l)(g:f.length≤1000):∀(n:Nat) (out:List Int) (i:Int),0≤i→i≤f.length→out.length≤i→f.length-i<n→Tot (vZ n l f out i) λr=>r.length≤f.length
 |0,out,i,C,P,J,h=>Ω
 |n+1,out,i,C,P,J,h=>by
  show Tot (ub false some (qf (vZ n) FU) l f out i) _;simp only[ub,tt,il];refine⟨λj=>?_,λ_=>Ω⟩;have j:i<f.length:=by simpa using j
  refine⟨aw C j,_,CP l _ (by have:=p.1;omega), ?_⟩;exact Di l f p g _ out i C j J (λout R=>Dj l f p g n out (i+1) Ω Ω Ω Ω) FU _ 0 Ω Ω (by rw[aI];omega)
def Xp (l:List Com)(f:List Int)(j:Few l)(g:f.length≤1000):Tot (uc l f) λr=>r.length≤f.length:=by simp[uc,Ej];exact Dj l f j g FU [] 0 Ω Ω Ψ (by rw[aI];omega)
def AZ (l:List Com)(p:Few l)(k:dQ (List Int))(out:List Int)(i:Int)(P:0≤i)(J:i<l.length)(R:out.length≤i)(g:∀out:List Int,out.length≤i+1→Tot (k l out (i+1)) λr=>r.length≤l.length):∀(n:Nat) (head:Bool) (j:Int),0≤j→j≤l.length→l.length-j<n→Tot (nx k n l out i head j) λr=>r.length≤l.length
 |0,ok,j,C,T,h=>Ω
 |n+1,ok,j,C,T,h=>by
  show Tot (ri false some (nx k n) k l out i ok j) _;have:=p.1;simp only[ri,lV,tt,il];rw[ak (n:=i+1) Ω Ω,ak (n:=j+1) Ω Ω];refine⟨λf=>?_,λ_=>⟨λ_=>⟨aw P J,by simp[lm,LIM];omega,g _ Ξ⟩,λ_=>g out Ω⟩⟩;have f:j<l.length:=by simpa using f
  refine⟨ap λ_=>aw C f,ap λ_=>aw P J,ap λ_=>jH _ _ ?_,AZ l p k out i P J R g n _ (j+1) Ω Ω Ω⟩;have:=p.2 _ (fO (t:=tCommit) C f);omega
def Ba (l:List Com)(g:Few l):∀(n:Nat) (out:List Int) (i:Int),0≤i→i≤l.length→out.length≤i→l.length-i<n→Tot (sX n l out i) λr=>r.length≤l.length
 |0,out,i,p,C,j,h=>Ω
 |n+1,out,i,p,C,j,h=>by
  show Tot (rj false some (nx (sX n) FU) l out i) _;have:=g.1;simp[rj,tt,il];refine⟨λf=>?_,λ_=>Ω⟩;have f:i<l.length:=by simpa using f
  exact AZ l g _ out i p f j (λout J=>Ba l g n out (i+1) Ω Ω Ω Ω) FU _ 0 Ω Ω (by rw[aI];omega)
def Uc (l:List Com)(f:Few l):Tot (rk l) λr=>r.length≤l.length:=by have:=f.1;simp[rk,AY];exact Ba l f FU [] 0 Ω Ω Ψ (by rw[aI];omega)
def vF (s:Sta)(id f:Int):iV s id f=[]∨∃x∈s.1,x.1=id∧x.2.1=f∧x.2.2.1=iV s id f:=by
 unfold iV;cases g:nW s id f with
 |nil=>exact .inl rfl
 |cons x r=>
  simp only;split
  next h=>refine .inr ⟨x, ?_,h.1,h.2,rfl⟩;rw[El s id f,g];simp
  ·exact .inl rfl
def aec (T:s.1.Pairwise kM)(id f:Int){l:List Alt}(hne:l≠[]):(pG s id f l).1.Pairwise kM∧(pG s id f l).1.length≤s.1.length+1∧∀x∈(pG s id f l).1,(x∈s.1∧¬(x.1=id∧x.2.1=f))∨x=(id,f,l,()):=by
 have hs:=El s id f;have hp:∀x∈before s id f,ahd x.1 x.2.1 id f=true:=xG _ _;have hh:∀x r,nW s id f=x::r→ahd x.1 x.2.1 id f=false:=vr _ _;have he:l.isEmpty=false:=by cases l with|nil=>exact absurd rfl hne|cons _ _=>rfl
 have C:=T;rw[hs,o_]at C;have R:∀P,P.Pairwise kM→(∀y∈P,y∈s.1∧ahd id f y.1 y.2.1=true)→(before s id f).length+P.length≤s.1.length→(before s id f++[(id,f,l,())]++P).Pairwise kM∧(before s id f++[(id,f,l,())]++P).length≤s.1.length+1∧∀x∈before s id f++[(id,f,l,())]++P,(x∈s.1∧¬(x.1=id∧x.2.1=f))∨x=(id,f,l,()):=by
  intro P k2 U k5;refine⟨?_,by simp;omega,λx j=>?_⟩
  ·rw[D_,o_];refine⟨C.1, ?_,λx j y g=>?_⟩
   ·rw[List.singleton_append,q_];exact⟨λy g=>(U y g).2,k2⟩
   ·obtain g|g:=π.1 g
    ·rw[ξ.1 g];exact hp x j
    ·exact lZ (hp x j) (U y g).2
  ·simp only[π,ξ]at j;rcases j with(j|j)|j
   ·refine .inl ⟨by rw[hs];exact x_ _ j,λe=>?_⟩;have:=hp x j;rw[e.1,e.2,lE]at this;omega
   ·exact .inr j
   ·refine .inl ⟨(U x j).1,λe=>?_⟩;have:=(U x j).2;rw[e.1,e.2,lE]at this;omega
 have p:(before s id f).length+(nW s id f).length=s.1.length:=by rw[←List.length_append,←hs]
 unfold pG;simp only[he,akl,akE];cases hq:nW s id f with
 |nil=>exact R [] List.Pairwise.nil (λy g=>by cases g) (by rw[hq]at p;simpa using alt p)
 |cons x r=>
  rw[hq]at C p;have j:=hh x r hq;have J:∀y∈x::r,y∈s.1:=λy g=>by rw[hs,hq];exact y? _ g
  have hr:=q_.1 C.2.1;by_cases e:x.1=id∧x.2.1=f
  ·simp only[Zj,q' e];refine R r hr.2 (λy g=>⟨J y (F' _ g), ?_⟩) (by simp at p;omega);have:=hr.1 y g;unfold kM at this;rwa[e.1,e.2]at this
  ·simp only[Zj,B' e];have h1:ahd id f x.1 x.2.1=true:=WY j e;refine R (x::r) C.2.1 (λy g=>⟨J y g, ?_⟩) Ω;obtain rfl|g:=P'.1 g
   ·exact h1
   ·exact lZ h1 (hr.1 y g)
def Alv (T:List Com)(J:List (List Int))(g:Int)(id f:Int):Prop:=∀j<T.length,¬(T.getD j (zero tCommit)).1=g→Wr (ws (T.getD j (zero tCommit))) id f→¬g∈J.getD j []
structure StI (T:List Com)(J:List (List Int))(N:Nat)(s:List Slt):Prop where
 asc:s.Pairwise kM
 len:s.length≤N
 alts:∀x∈s,x.2.2.1≠[]∧x.2.2.1.length≤N
 srt:∀x∈s,x.2.2.1.Pairwise λa b=>a.1<b.1
 txt:∀x∈s,∀a∈x.2.2.1,TxV a.2.1
 src:∀x∈s,∀a∈x.2.2.1,∃c∈T,c.1=a.1∧Wr (ws c) x.1 x.2.1∧Alv T J c.1 x.1 x.2.1
def StI.mono {N j:Nat}{s:List Slt}(h:StI T J N s)(g:N≤j):StI T J j s :=
 ⟨h.asc,Δ h.len g,λx f=>⟨(h.alts x f).1,Δ (h.alts x f).2 g⟩,h.srt,h.txt,h.src⟩
def StI.place {N:Nat}{s:List Slt}(h:StI T J N s)(g:N≤1000000)(id f:Int):b9 (s,()) id f=true:=by unfold b9 af8;rw[ι];have:=h.len;exact⟨L_ (show s.length≤1048576 by omega),L_ h.asc⟩
structure Rep0 (T:List Com)(J:List (List Int)):Prop where
 few:T.length≤20
 asc:T.Pairwise λa b=>a.1<b.1
 ord:∀c∈T,oa (ws c)
 txt:∀c∈T,∀x∈ws c,TxC x
 wl:∀c∈T,(ws c).length<1000000
 ab:J.length=T.length
 al:∀r∈J,r.length<1000000
def aeu {f wr:List Cel}{w:Cel}(h:oa (f++w::wr)):¬Wr f w.1 w.2.1:=by rintro⟨c,g,l,j⟩;have:=(o_.1 h).2.2 c g w (X' ..);rw[l,j,lE]at this;omega
def O6 {T:List Com}{J:List (List Int)}(h0:Rep0 T J){P R:List Com}{c:Com}(hT:T=P++c::R){wp wr:List Cel}{w:Cel}(hw:ws c=wp++w::wr)(k0:bD Sta)(k:bS Sta)(Q:Sta→Prop)(N:Nat)(hN:N≤500000)(b:List Slt)(p:StI T J N b)
  (r:∀x∈b,∀a∈x.2.2.1,a.1≤c.1∧(a.1=c.1→Wr wp x.1 x.2.1))
  (hk:∀b',StI T J (N+1) b'→(∀x∈b',∀a∈x.2.2.1,a.1≤c.1∧(a.1=c.1→Wr (wp++[w]) x.1 x.2.1))→Tot (k T J P.length ((wp.length:Int)+1) b') Q) :
  ∀(n:Nat) (al:Bool) (j:Nat),j≤T.length→T.length-j<n→(al=true→∀j'<j,¬(T.getD j' (zero tCommit)).1=c.1→Wr (ws (T.getD j' (zero tCommit))) w.1 w.2.1→¬c.1∈J.getD j' [])→Tot (iH k0 k n T J P.length wp.length b al j) Q
 |0,al,j,h1,h2,h3=>Ω
 |n+1,al,j,h1,h2,h3=>by
  show Tot (jZ false some (iH k0 k n) k T J P.length wp.length b al j) _;have hPi:(P.length:Int)<T.length:=by rw[hT];simp;omega
  have ec:ix tCommit T (P.length:Int)=c:=by rw[hT];exact bt (t:=tCommit) P c R
  have ew:ix aa c.2.2.2.2.1 (wp.length:Int)=w:=by show ix aa (ws c) _=w;rw[hw];exact bt (t:=aa) wp w wr
  have hwl:(ws c).length<1000000:=h0.wl c (by rw[hT];simp);have hwp:wp.length<1000000:=by rw[hw]at hwl;simp at hwl;omega
  have hfew:=h0.few;simp only[jZ,dC,tt,il,n_];rw[ec,ew,ak (n:=(wp.length:Int)+1) Ω Ω,ak (n:=(j:Int)+1) Ω Ω];refine⟨λhj=>?_,λhj=>⟨λf=>?_,λ_=>?_⟩⟩
  ·have hja:j<T.length∧al=true:=by
    simp at hj;exact⟨Ω,hj.2⟩
   have hjt:(j:Int)<T.length:=Ω
   have hjn:=hja.1;have etj:ix tCommit T (j:Int)=T.getD j (zero tCommit):=rfl;have eaj:ix (.slice tInt) J (j:Int)=J.getD j []:=rfl;have hmem:T.getD j (zero tCommit)∈T:=fO (t:=tCommit) Ω hjt;have hwr:=Iv (T.getD j (zero tCommit)) w.1 w.2.1 (h0.wl _ hmem);have hal:(J.getD j []).length<1000000:=h0.al _ (by rw[E',ε (by rw[h0.ab];exact hjn)];exact w_ _);rw[etj,eaj,iR _ _ hal];have hG:E1 (T.getD j (zero tCommit)) w.1 w.2.1=true:=hwr.some;have hF:eJ (T.getD j (zero tCommit)) w.1 w.2.1=true↔Wr (ws (T.getD j (zero tCommit))) w.1 w.2.1:=hwr.getD (zero .bool);refine⟨ap λ_=>aw Ω hjt,ap λ_=>hG,ap λ_=>aw Ω (by rw[h0.ab];omega),ap λ_=>aw Ω hPi,ap λ_=>jH _ _ hal, ?_⟩;refine O6 h0 hT hw k0 k Q N hN b p r hk n _ (j+1) Ω Ω λf j' hj' hne hW=>?_;by_cases e:j'=j
   ·subst e;have hji:¬(j':Int)=P.length:=λe=>hne (by rw[←etj,e,ec]);rw[hF.2 hW]at f;simpa[hji]using f
   ·exact h3 hja.2 j' Ω hne hW
  ·subst f;have hjl:T.length≤j:=by
    by_cases e:j<T.length
    ·simp[show(j:Int)<T.length by omega]at hj
    ·omega
   have halv:Alv T J c.1 w.1 w.2.1:=λj' hj'=>h3 rfl j' Ω;have hpl:=p.place Ω w.1 w.2.1;have hlenA:(iV (b,()) w.1 w.2.1).length≤N:=by
    rcases vF (b,()) w.1 w.2.1 with e|⟨x,g,_,_,e⟩
    ·rw[e];simp
    ·rw[←e];exact(p.alts x g).2
   have hlt:∀a∈iV (b,()) w.1 w.2.1,a.1<c.1:=λa f=>by
    rcases vF (b,()) w.1 w.2.1 with e|⟨x,g,e1,e2,e⟩
    ·rw[e]at f;cases f
    ·rw[←e]at f;have h1:=r x g a f;by_cases h2:a.1=c.1
     ·have:=h1.2 h2;rw[e1,e2]at this;exact absurd this (aeu (hw ▸ h0.ord c (by rw[hT];simp)))
     ·exact akI.2 ⟨h1.1,h2⟩
   have C:=aec p.asc w.1 w.2.1 (s:=(b,())) (l:=iV (b,()) w.1 w.2.1++[(c.1,w.2.2.1,())]) Ψ;have U:∀x∈(pG (b,()) w.1 w.2.1 (iV (b,()) w.1 w.2.1++[(c.1,w.2.2.1,())])).1,x∈b∨x=(w.1,w.2.1,iV (b,()) w.1 w.2.1++[(c.1,w.2.2.1,())],()):=λx g=>(C.2.2 x g).imp (·.1) λf=>f;have hold:∀a∈iV (b,()) w.1 w.2.1,∃x∈b,x.1=w.1∧x.2.1=w.2.1∧a∈x.2.2.1:=λa f=>by
    rcases vF (b,()) w.1 w.2.1 with e|⟨x,g,e1,e2,e⟩
    ·rw[e]at f;cases f
    ·exact⟨x,g,e1,e2,e ▸ f⟩
   refine⟨hpl,cM Ξ,aw Ω hPi,cM Ξ,hpl,hk _ ⟨C.1,Δ C.2.1 (by have:=p.len;simp;omega),λx g=>?_,λx g=>?_,λx g a f=>?_,λx g a f=>?_⟩ λx g a f=>?_⟩
   ·obtain g|rfl:=U x g
    ·exact⟨(p.alts x g).1,Nat.le_succ_of_le (p.alts x g).2⟩
    ·exact⟨Ψ,by simp;omega⟩
   ·obtain g|rfl:=U x g
    ·exact p.srt x g
    ·show(iV (b,()) w.1 w.2.1++[(c.1,w.2.2.1,())]).Pairwise _;rw[o_];refine⟨?_,Ψ,λa f d hd=>?_⟩
     ·rcases vF (b,()) w.1 w.2.1 with e|⟨x,g,e1,e2,e⟩
      ·rw[e];exact List.Pairwise.nil
      ·rw[←e];exact p.srt x g
     ·rw[ξ.1 hd];exact hlt a f
   ·obtain g|rfl:=U x g
    ·exact p.txt x g a f
    ·obtain f|f:=π.1 f
     ·obtain⟨y,hy,_,_,h⟩:=hold a f;exact p.txt y hy a h
     ·rw[ξ.1 f];exact h0.txt c (by rw[hT];simp) w (by rw[hw];simp)
   ·obtain g|rfl:=U x g
    ·exact p.src x g a f
    ·obtain f|f:=π.1 f
     ·obtain⟨y,hy,e1,e2,h⟩:=hold a f;have:=p.src y hy a h;rwa[e1,e2]at this
     ·rw[ξ.1 f];exact⟨c,by rw[hT];simp,rfl,⟨w,by rw[hw];simp,rfl,rfl⟩,halv⟩
   ·obtain g|rfl:=U x g
    ·have:=r x g a f;refine⟨this.1,λe=>?_⟩;obtain⟨d,hd,h⟩:=this.2 e;exact⟨d,x_ _ hd,h⟩
    ·obtain f|f:=π.1 f
     ·have:=hlt a f;exact⟨Int.le_of_lt this,λe=>absurd e (Int.ne_of_lt this)⟩
     ·rw[ξ.1 f];exact⟨aj4 _,λ_=>⟨w,Ψ,rfl,rfl⟩⟩
  ·exact hk b (p.mono Ω) λx g a f=>⟨(r x g a f).1,λe=>by
    obtain⟨d,hd,h⟩:=(r x g a f).2 e;exact⟨d,x_ _ hd,h⟩⟩
def bV:List Com→Nat
 |[]=>0
 |c::l=>(ws c).length+bV l
def co (a b:List Com):bV (a++b)=bV a+bV b:=by
 induction a with
 |nil=>simp[bV]
 |cons c a f=>simp[bV,f];omega
def O7 {T:List Com}{J:List (List Int)}(C:Rep0 T J){P R:List Com}{c:Com}(j:T=P++c::R)(g:bD Sta)(Q:Sta→Prop)(M:Nat)(hM:M≤500000)(hk:∀p,StI T J M p→(∀x∈p,∀a∈x.2.2.1,a.1≤c.1)→Tot (g T J ((P.length:Int)+1) p) Q) :
  ∀(n:Nat) (wr f:List Cel) (N:Nat) (b:List Slt),ws c=f++wr→wr.length<n→N+wr.length≤M→StI T J N b→(∀x∈b,∀a∈x.2.2.1,a.1≤c.1∧(a.1=c.1→Wr f x.1 x.2.1))→Tot (iJ g n T J P.length f.length b) Q
 |0,wr,f,N,b,r,h2,h3,h4,h5=>Ω
 |n+1,wr,f,N,b,r,h2,h3,h4,h5=>by
  show Tot (j4 false some (iH g (iJ g n) FU) g T J P.length f.length b) _;have hfew:=C.few;have l:(P.length:Int)<T.length:=by rw[j];simp;omega
  have ec:ix tCommit T (P.length:Int)=c:=by rw[j];exact bt (t:=tCommit) P c R
  have hwl:(ws c).length<1000000:=C.wl c (by rw[j];simp);simp only[j4,tt,il];rw[ec,ak (n:=(P.length:Int)+1) Ω Ω];show bd _ _=true∧(decide ((f.length:Int)<((ws c).length:Int))=true→bd _ _=true∧bd (f.length:Int) (ws c).length=true∧_)∧(decide ((f.length:Int)<((ws c).length:Int))=false→_);refine⟨aw Ω l,λh=>⟨aw Ω l,aw Ω (by simpa using h), ?_⟩,λ_=>hk b (h4.mono Ω) λx hx a ha=>(h5 x hx a ha).1⟩;cases wr with
  |nil=>rw[r]at h;simp at h
  |cons w wr =>refine O6 C j r g _ Q N Ω b h4 h5 (λp hb' U=>?_) FU true 0 Ω (by rw[aI];omega) (λ_ j' hj'=>Ω);have:=O7 C j g Q M hM hk n wr (f++[w]) (N+1) p (by rw[r];simp) (by simp at h2;omega) (by simp at h3;omega) hb' U;simpa using this
def O8 {T:List Com}{J:List (List Int)}(j:Rep0 T J)(hM:bV T≤500000):∀(n:Nat) (R P:List Com) (b:List Slt),T=P++R→R.length<n→StI T J (bV P) b→(∀x∈b,∀a∈x.2.2.1,∀d∈R,a.1<d.1)→Tot (iK n T J P.length b) λs=>StI T J (bV T) s.1
 |0,R,P,b,g,h2,h3,h4=>Ω
 |n+1,R,P,b,g,h2,h3,h4=>by
  show Tot (j6 false some (iJ (iK n) FU) T J P.length b) _;have p:bV P+bV R=bV T:=by rw[g,co]
  simp[j6,tt,il];refine⟨λh=>?_,λ_=>h3.mono Ω⟩;cases R with
  |nil=>rw[g]at h;simp at h
  |cons c R=>
   simp[bV]at p;have hwl:(ws c).length<1000000:=j.wl c (by rw[g];simp);have f:=j.asc;rw[g,o_]at f;have C:=(q_.1 f.2.1).1;refine O7 j g _ _ (bV P+(ws c).length) Ω (λb' U r=>?_) FU (ws c) [] (bV P) b rfl (by rw[aI];omega) Ω h3 λx l a ha=>?_
   ·have:=O8 j hM n R (P++[c]) b' (by rw[g];simp) (by simp at h2;omega) (by rw[co];simpa[bV]using U) λx l a ha d hd=>Int.lt_of_le_of_lt (r x l a ha) (C d hd);simpa using this
   ·have:=h4 x l a ha c (X' ..);exact⟨Int.le_of_lt this,λe=>absurd e (Int.ne_of_lt this)⟩
def Kw (a b:List U)(d:U){j:Nat}(h:j<a.length):(a++b).getD j d=a.getD j d:=by simp[E',Θ h]
def Ky (a:List U)(x d:U):(a++[x]).getD a.length d=x:=by simp[E']
def agP (l:List Com):Prop:=∀c∈l,∀d∈l,∀x∈ws c,∀y∈ws d,x.2.1=1→y.2.1=1→x.1=y.1→x.2.2.1.1=y.2.2.1.1
structure H0 (l:List Com):Prop where
 few:l.length≤20
 asc:l.Pairwise λa b=>a.1<b.1
 par:∀c∈l,c.2.1.length≤4
 ord:∀c∈l,oa (ws c)
 txt:∀c∈l,∀x∈ws c,TxC x
 sum:bV l≤500000
 ids:∀c∈l,∀x∈ws c,IdC x
 pic:∀c∈l,c.2.2.1.length≤4
 kc:agP l
def H0.isFew (h:H0 l):Few l:=⟨h.few,h.par⟩
def l5 (h:c∈l):(ws c).length≤bV l:=by
 induction l with
 |nil=>cases h
 |cons d l f=>
  simp[bV];obtain rfl|h:=P'.1 h
  ·omega
  ·have:=f h;omega
def AtP (l:List Com)(s:Sta):Prop:=∃T J,(∀c∈T,c∈l)∧(∀j<T.length,adV l [(T.getD j (zero tCommit)).1] (J.getD j []))∧StI T J (bV l) s.1
def Vt (l:List Com)(hl:H0 l)(only:List Int)(ho:only.length<1000000):∀(n:Nat) (R P T:List Com) (J:List (List Int)),l=P++R→R.length<n→(∀c∈T,c∈P)→(T.Pairwise λa b=>a.1<b.1)→T.length≤P.length→bV T≤bV P→J.length=T.length→(∀j<T.length,adV l [(T.getD j (zero tCommit)).1] (J.getD j []))→(∀r∈J,r.length<1000000)→Tot (jY n l only T J P.length) (AtP l)
 |0,R,P,T,J,p,h2,_,_,_,_,_,_,_=>Ω
 |n+1,R,P,T,J,p,h2,h3,h4,h5,h6,h7,h8,h9=>by
  show Tot (mK false some (jY n) (iK FU) l only T J P.length) _;have C:=hl.few;have hws:bV P+bV R=bV l:=by rw[p,co]
  have hsum:=hl.sum;have hP:P.length≤20:=by rw[p]at C;simp at C;omega
  simp only[mK,eU,tt,il];rw[ak (n:=(P.length:Int)+1) Ω Ω];refine⟨λh=>?_,λ_=>?_⟩
  ·cases R with
   |nil=>rw[p]at h;simp at h
   |cons c R=>
    have hPl:(P.length:Int)<l.length:=by simpa using h
    have ec:ix tCommit l (P.length:Int)=c:=by rw[p];exact bt (t:=tCommit) P c R
    have hcl:c∈l:=by rw[p];simp
    have U:=hl.asc;rw[p,o_]at U;have next:∀(T:List Com) (J:List (List Int)),(∀c'∈T,c'∈P++[c])→(T.Pairwise λa b=>a.1<b.1)→T.length≤P.length+1→bV T≤bV (P++[c])→J.length=T.length→(∀j<T.length,adV l [(T.getD j (zero tCommit)).1] (J.getD j []))→(∀r∈J,r.length<1000000)→Tot (jY n l only T J ((P.length:Int)+1)) (AtP l):=λT J a1 a2 a3 a4 a5 a6 a7=>by have:=Vt l hl only ho n R (P++[c]) T J (by rw[p];simp) (by simp at h2;omega) a1 a2 (by simpa using a3) a4 a5 a6 a7;simpa using this
    rw[ec];refine⟨aw Ω hPl,_,Bg only _ ho,λ_=>⟨aw Ω hPl,cM Ξ,aw Ω hPl,(Ih l [c.1] hl.isFew Ψ).mono λr hr=>⟨cM Ξ,next _ _ (λd hd=>?_) ?_ Ξ (by rw[co,co];simp[bV];omega) Ξ (λj hj=>?_) (λr' hr'=>?_)⟩⟩,λ_=>next T J (λd hd=>x_ _ (h3 d hd)) h4 Ω (by rw[co];omega) h7 h8 h9⟩
    ·obtain hd|hd:=π.1 hd
     ·exact x_ _ (h3 d hd)
     ·exact y? _ hd
    ·rw[o_];exact⟨h4,Ψ,λa ha b hb=>U.2.2 a (h3 a ha) b (by rw[ξ.1 hb];simp)⟩
    ·by_cases e:j<T.length
     ·rw[Kw _ _ _ e,Kw _ _ _ Ω];exact h8 j e
     ·have e:j=T.length:=by simp at hj;omega
      subst e;rw[Ky,←h7,Ky];exact hr.2
    ·obtain h|h:=π.1 hr'
     ·exact h9 r' h
     ·rw[ξ.1 h];have:=hr.1;omega
  ·have g:∀c∈T,c∈l:=λc hc=>by rw[p];exact x_ _ (h3 c hc)
   have h0:Rep0 T J:=⟨Ω,h4,λc hc=>hl.ord c (g c hc),λc hc=>hl.txt c (g c hc),λc hc=>by have:=l5 (g c hc);omega,h7,h9⟩;exact(O8 h0 Ω FU T [] [] rfl (by rw[aI];omega) ⟨List.Pairwise.nil,Ψ,λx f=>(by cases f),λx f=>(by cases f),λx f=>(by cases f),λx f=>(by cases f)⟩ λx f=>by cases f).mono λs hs=>⟨T,J,g,h8,hs.mono Ω⟩
def O2 (l:List Com)(f:H0 l)(only:List Int)(p:only.length<1000000):Tot (mM l only) (AtP l):=by
 have:=f.few;simp[mM,wq];exact Vt l f only p FU l [] [] [] rfl (by rw[aI];omega) (λc J=>by cases J) List.Pairwise.nil Ψ (by simp[bV]) rfl (λj C=>by simp at C) λr g=>by cases g
def La (l:List Com)(g:H0 l)(f:List Int)(p:f.length≤1000):Tot (rz l f) (AtP l):=by simp[rz,ES,tt];exact(Ih l f g.isFew p).mono λr j=>(O2 l g r (by have:=j.1;omega)).mono λ_ h=>h
def WR (l:List Com)(f:H0 l):Tot (C4 l) (AtP l):=by have:=f.few;simp[C4,WS,wX,Bb,tt];exact(Uc l f.isFew).mono λr g=>(La l f r Ω).mono λ_ h=>h
def bm (x n:Int)(g:1≤n)(f:n≤4000000000):Tot (mod2_ev x n) λr=>0≤r∧r<n:=by
 simp only[mod2_ev,MB,tt];have l:=ajL x (show 0<n by omega);have j : -n<x.tmod n:=by have:=ajL (-x) (show 0<n by omega);rw[Int.neg_tmod]at this;omega
 refine⟨λh=>by simp at h;omega,λ_=>⟨by simp;omega,by simp;omega, ?_⟩⟩;rw[ak Ω Ω];exact⟨Int.tmod_nonneg _ Ω,ajL _ Ω⟩
def gU (l:List Int)(x:Int)(g:l.length<1000000):Tot (ba l x) λr=>r=0∨r∈l:=by
 simp only[ba,Ew,tt,il];refine⟨λ_=>.inl trivial,λh=>?_⟩;have h:¬(l.length:Int)=0:=by simpa using h
 exact(bm x l.length Ω Ω).mono λr f=>⟨aw f.1 f.2,.inr (fO (t:=tInt) f.1 f.2)⟩
def Sh (s:Str):Prop:=s.length<1000
def vP (k x:Int):Tot (jO k x) Sh:=by simp[jO,Eh,tt];refine(bm x 5 Ω Ω).mono λr _=>?_;simp[Sh]
def On (x:Int):Tot (mv x) Sh:=by simp[mv,vX,tt];refine(bm x 5 Ω Ω).mono λr _=>?_;simp[Sh]
def Hh (x:Int):Tot (sM x) Sh:=by simp only[sM,MM,tt];exact(bm x 26 Ω Ω).mono λr _=>⟨by decide,(bm _ 25 Ω Ω).mono λr _=>by simp[Sh]⟩
structure St1 (s:Sta):Prop where
 asc:s.1.Pairwise kM
 len:s.1.length<1000000
 alts:∀x∈s.1,x.2.2.1≠[]∧x.2.2.1.length<1000000
 txt:∀x∈s.1,∀a∈x.2.2.1,TxV a.2.1
def AtP.st1 (h:AtP l s)(g:H0 l):St1 s:=by obtain⟨T,J,_,_,h⟩:=h;have:=g.sum;exact⟨h.asc,by have:=h.len;omega,λx f=>⟨(h.alts x f).1,by have:=(h.alts x f).2;omega⟩,h.txt⟩
def St1.place (h:St1 s)(id f:Int):b9 s id f=true:=by unfold b9 af8;rw[ι];have:=h.len;exact⟨L_ Ω,L_ h.asc⟩
def St1.stg (h:St1 s):stG s=true:=by unfold stG ahB;rw[ι];have:=h.len;refine⟨L_ Ω,G'.2 λx f=>?_⟩;have:=h.alts x f;rw[ι];refine⟨by cases g:x.2.2.1 with|nil=>exact absurd g this.1|cons _ _=>rfl,L_ Ω⟩
def ZN:TxV (0,false,[],0,()):=by simp[TxV]
def XZ (h:St1 s)(id f:Int):Tot (fX s id f) TxV:=by
 simp only[fX,Et,tt,il];refine⟨h.place id f,λ_=>ZN,λg=>?_⟩;have g:¬((iV s id f).length:Int)=0:=by simpa using g
 refine⟨aw Ω Ω, ?_⟩;obtain e|⟨x,j,_,_,e⟩:=vF s id f
 ·rw[e]at g;simp at g
 ·exact h.txt x j _ (by rw[e];exact fO (t:=eO) Ω Ω)
def abq (h:St1 s):(∀c∈(eX s).1,TxC c∧∃x∈s.1,x.1=c.1∧x.2.1=c.2.1)∧(eX s).1.length≤s.1.length:=by
 refine⟨λc g=>?_,Yq s⟩;simp only[eX,a_,C_]at g;obtain⟨x,⟨f,_⟩,rfl⟩:=g;refine⟨?_,x,f,rfl,rfl⟩;show TxV (vg x);unfold vg;cases j:x.2.2.1 with
 |nil=>exact ZN
 |cons a r=>exact h.txt x f a (by rw[j];simp)
def nM {s:Sta}(h:St1 s)(f:Int):∀(n:Nat) (out:List Int) (i:Int),0≤i→i≤s.1.length→out.length≤i→s.1.length-i<n→Tot (eA n f s out i) λr=>r.length≤s.1.length
 |0,out,i,j,C,p,l=>Ω
 |n+1,out,i,j,C,p,l=>by
  show Tot (dR false some (eA n) f s out i) _;have J:=h.len;simp only[dR,fF,tt,il];refine⟨λg=>?_,λ_=>Ω⟩;have g:i<s.1.length:=by simpa using g
  rw[ak (n:=i+1) Ω Ω];exact⟨aw j g,ap λ_=>aw j g,ap λ_=>(q9 s _ (h.place _ 1)).some,ap λ_=>by simp[aF],λ_=>⟨aw j g,cM Ξ,nM h f n _ _ Ω Ω Ξ Ω⟩,λ_=>nM h f n _ _ Ω Ω Ω Ω⟩
def cZ (h:St1 s)(f:Int):Tot (aD s f) λr=>r.length≤s.1.length:=by have g:=h.len;simp[aD,kF];exact nM h f FU [] 0 Ω Ω Ψ (by rw[aI];omega)
def OJ (v:Val)(h:St1 s)(x:Int):Tot (eQ v s x) TxV:=by
 have l:=h.len;have ent:=λk (Q:Int→Prop) (y:Int) (j:∀r,Q r)=>(cZ h k).mono λr g=>(gU r y Ω).mono λr _=>j r;simp only[eQ,we,tt];refine⟨λ_=>(bm x 4 Ω Ω).mono λr _=>⟨λ_=>by simp[TxV],λ_=>⟨λ_=>by simp[TxV],λ_=>⟨λ_=>⟨by decide,(vP _ _).mono λt f=>f⟩,λ_=>?_⟩⟩⟩,λ_=>⟨λ_=>(bm x 2 Ω Ω).mono λr _=>⟨λ_=>by simp[TxV],λ_=>by simp[TxV]⟩,λ_=>⟨λ_=>(vP _ _).mono λt f=>f,λ_=>(bm x 6 Ω Ω).mono λr _=>⟨λ_=>by simp[TxV],λ_=>⟨λ_=>by simp[TxV],λ_=>⟨λ_=>?_,λ_=>⟨λ_=>?_,λ_=>⟨λ_=>by simp[TxV],λ_=>by simp[TxV]⟩⟩⟩⟩⟩⟩⟩⟩
 ·exact(cZ h 3).mono λr g=>⟨by decide,(gU r _ Ω).mono λr _=>⟨λ_=>by simp[TxV],λ_=>by simp[TxV]⟩⟩
 ·exact(cZ h 4).mono λr g=>⟨by decide,(gU r _ Ω).mono λr _=>⟨λ_=>by simp[TxV],λ_=>by simp[TxV]⟩⟩
 ·exact(cZ h 2).mono λr g=>⟨by decide,(gU r _ Ω).mono λr _=>⟨λ_=>⟨by decide,(bm _ 3 Ω Ω).mono λ_ _=>by simp[TxV]⟩,λ_=>by simp[TxV]⟩⟩
def VD {f t j:Nat}{c:Cel}(ho:f≤out.length)(R:oa (out.take f))(ht:t≤f)(p:0<t→ahd (out.getD (t-1) (zero aa)).1 (out.getD (t-1) (zero aa)).2.1 c.1 c.2.1=true)
  (r:∀k,t≤k→k<f→ahd (out.getD k (zero aa)).1 (out.getD k (zero aa)).2.1 c.1 c.2.1=false)
  (hj:(j=t∧¬(t<f∧(out.getD t (zero aa)).1=c.1∧(out.getD t (zero aa)).2.1=c.2.1))∨(j=t+1∧t<f∧(out.getD t (zero aa)).1=c.1∧(out.getD t (zero aa)).2.1=c.2.1)) :
  oa (out.take t++[c]++(out.take f).drop j):=by
 have gd:∀k,k<f→∀h:k<(out.take f).length,(out.take f)[k]=out.getD k (zero aa):=λk J h=>by rw[ajW,E',ε Ω];rfl
 have lt:∀a b,a<b→b<f→ahd (out.getD a (zero aa)).1 (out.getD a (zero aa)).2.1 (out.getD b (zero aa)).1 (out.getD b (zero aa)).2.1=true:=λa b h1 T=>by
  have hl:(out.take f).length=f:=by simp;omega
  have:=u_.1 R a b Ω Ω h1;rwa[gd a Ω Ω,gd b T Ω]at this
 have e:out.take t=(out.take f).take t:=by rw[alc];congr 1;omega
 have hl:(out.take f).length=f:=by simp;omega
 rw[e];unfold oa;rw[o_,o_];have p1:∀x∈(out.take f).take t,ahd x.1 x.2.1 c.1 c.2.1=true:=λx l=>by
  obtain⟨k,J,rfl⟩:=t_.1 l;have g:k<t:=by simp at J;omega
  rw[ajW,gd k Ω Ω];by_cases P:k=t-1
  ·rw[P];exact p Ω
  ·exact lZ (lt k (t-1) Ω Ω) (p Ω)
 have U:∀x∈(out.take f).drop j,ahd c.1 c.2.1 x.1 x.2.1=true:=λx l=>by
  obtain⟨k,J,rfl⟩:=t_.1 l;have g:j+k<f:=by simp at J;omega
  rw[List.getElem_drop,gd (j+k) g Ω];rcases hj with⟨rfl,hn⟩|⟨rfl,h1,T,h3⟩
  ·refine WY (r _ Ω g) λh=>?_;by_cases h0:k=0
   ·subst h0;exact hn ⟨g,h⟩
   ·have:=lt j (j+k) Ω g;rw[h.1,h.2,r j Ω Ω]at this;cases this
  ·have:=lt t (t+1+k) Ω g;rwa[T,h3]at this
 refine⟨⟨R.sublist (akp ..),alm ..,λx l y C=>?_⟩,R.sublist (List.drop_sublist ..),λx l y C=>?_⟩
 ·rw[ξ.1 C];exact p1 x l
 ·obtain l|l:=π.1 l
  ·exact lZ (p1 x l) (U y C)
  ·rw[ξ.1 l];exact U y C
def InW (w:List Cel)(x:Int):Prop:=∃d∈w,d.1=x
def abO {f t j:Nat}{c:Cel}(R:f≤out.length)(P:t≤f)(C:j=t∨(j=t+1∧t<f∧(out.getD t (zero aa)).1=c.1))(x:Int)(h:InW (out.take f) x∨c.1=x):InW (out.take t++[c]++(out.take f).drop j) x:=by
 have l:InW (out.take t++[c]++(out.take f).drop j) c.1:=⟨c,Ψ,rfl⟩;rcases h with⟨d,J,rfl⟩|rfl
 ·obtain⟨k,r,rfl⟩:=t_.1 J;have p:k<f:=by simp at r;omega
  by_cases U:k<t
  ·exact⟨_,x_ _ (x_ _ (t_.2 ⟨k,by simp;omega,Ψ⟩)),rfl⟩
  ·by_cases T:j≤k
   ·refine⟨_,y? _ (t_.2 ⟨k-j,by simp;omega, ?_⟩),rfl⟩;rw[List.getElem_drop];congr 1;omega
   ·obtain e|⟨e,_,g⟩:=C
    ·omega
    ·obtain rfl:k=t:=Ω
     rw[E',ε Ω]at g;rw[ajW];have g:(out[k]'Ω).1=c.1:=g;rw[g];exact l
 ·exact l
def Fw (l:List Cel)(hs:l.length<2000000)(k:cr (List Cel))(i:Int)(P:0≤i)(J:i<l.length)(g:Nat)(out:List Cel)(U:g≤out.length)(hb:g<2000000)(hm:∀c∈out.take g,c∈l)(hA:oa (out.take g))(Q:List Cel→Prop)
  (hk:∀(r:Nat) (p:List Cel),r≤g+1→r≤p.length→(∀c∈p.take r,c∈l)→oa (p.take r)→(∀x,InW (out.take g) x∨(ix aa l i).1=x→InW (p.take r) x)→Tot (k l r (i+1) p) Q):∀(n:Nat) (t:Int),0≤t→t≤g→t<n→(∀k:Nat,t.toNat≤k→k<g→ahd (out.getD k (zero aa)).1 (out.getD k (zero aa)).2.1 (ix aa l i).1 (ix aa l i).2.1=false)→Tot (jT k n l i g t out) Q
 |0,t,h2,h3,h,_=>Ω
 |n+1,t,h2,h3,h,hge=>by
  show Tot (mz false some (jT k n) k l i g t out) _;have R:∀j:Int,t≤j→j≤g→oa (out.take t.toNat++[ix aa l i]++(out.take g).drop j.toNat)→(∀x,InW (out.take g) x∨(ix aa l i).1=x→InW (out.take t.toNat++[ix aa l i]++(out.take g).drop j.toNat) x)→Tot (eP false some k l i t g j out) Q:=λj hj1 hj2 T hin=>by
   simp only[eP,mB,tt,Q',n_];rw[ak (n:=i+1) Ω Ω];have e1:(out.take g).length=g:=by simp;omega
   have e2:(out.take t.toNat).length=t.toNat:=by simp;omega
   have e3:List.take (t.toNat+1) (out.take t.toNat++[ix aa l i])=out.take t.toNat++[ix aa l i]:=K_ Ξ;simp only[ak4,e1,s_,ajH,Q',e3,ni];refine⟨by simp;omega,cM Ω,by simp;omega,aw P J,cM Ω,cM Ω,hk _ _ Ω Ξ (λc f=>?_) (T.sublist (akp ..)) λx hx=>by rw[K_ Ξ];exact hin x hx⟩;have f:=W? f;obtain f|f:=π.1 f
   ·obtain f|f:=π.1 f
    ·refine hm c ?_;have:out.take t.toNat=(out.take g).take t.toNat:=by rw[alc];congr 1;omega
     rw[this]at f;exact W? f
    ·rw[ξ.1 f];exact fO P J
   ·exact hm c (aj2 f)
  have hp:t>0→(decide (0≤w64 (t-1))&&decide (w64 (t-1)<(g:Int)))=true:=λh=>by rw[ak Ω Ω];simp;omega
  simp only[mz,tt,ni,Q'];refine⟨ap λh=>hp (by simpa using h),ap λh=>hp (by simpa using h),ap λ_=>aw P J,ap λ_=>aw P J,by simp[aF],λf=>?_,λC=>⟨ap λh=>by simp at h;simp;omega,ap λ_=>aw P J,ap λh=>?_,ap λ_=>aw P J,λf=>?_,λhne=>?_⟩⟩
  ·rw[xu]at f;have ht:t>0:=by simp at f;exact f.1
   rw[dt ht,I',ak (n:=t-1) Ω Ω,show(t-1).toNat=t.toNat-1 by omega]at f;rw[ak Ω Ω];refine Fw l hs k i P J g out U hb hm hA Q hk n (t-1) Ω Ω Ω λk hk1 hk2=>?_;by_cases he:k=t.toNat-1
   ·subst he;simpa using f
   ·exact hge k Ω hk2
  ·simp at h;simp;omega
  all_goals
   have hlt:0<t.toNat→ahd (out.getD (t.toNat-1) (zero aa)).1 (out.getD (t.toNat-1) (zero aa)).2.1 (ix aa l i).1 (ix aa l i).2.1=true:=λht=>by rw[xu,dt Ω,I',ak (n:=t-1) Ω Ω,show(t-1).toNat=t.toNat-1 by omega]at C;simpa using C
  ·have f:(t<(g:Int)∧(out.getD t.toNat (zero aa)).1=(ix aa l i).1)∧(out.getD t.toNat (zero aa)).2.1=(ix aa l i).2.1:=by simpa only[akC,ι,ρ]using f
   rw[ak Ω Ω];refine R (t+1) Ω Ω (VD U hA Ω hlt hge (.inr ⟨Ω,Ω,f.1.2,f.2⟩)) (abO U Ω (.inr ⟨Ω,Ω,f.1.2⟩))
  ·refine R t Ω h3 (VD U hA Ω hlt hge (.inl ⟨rfl,λh=>?_⟩)) (abO U Ω (.inl rfl));rw[dt Ω,dt h.2.1,dt h.2.2]at hne;cases hne
def Fx (l:List Cel)(P:l.length<2000000):∀(n:Nat) (g:Nat) (i:Int) (out:List Cel),0≤i→i≤l.length→g≤i→g≤out.length→(∀c∈out.take g,c∈l)→oa (out.take g)→(∀c∈l.take i.toNat,InW (out.take g) c.1)→l.length-i<n→Tot (oP n l g i out) λr=>r.length≤l.length∧(∀c∈r,c∈l)∧oa r∧∀c∈l,InW r c.1
 |0,g,i,out,h0,h1,h2,U,J,_,_,h=>Ω
 |n+1,g,i,out,h0,h1,h2,U,J,T,R,h=>by
  show Tot (mA false some (jT (oP n) FU) l g i out) _;simp only[mA,tt,il,ni,U_];refine⟨λf=>?_,λf=>⟨by simp;omega,J,T,λc j=>R c (by rw[K_ (by simp at f;omega)];exact j)⟩⟩;have f:i<l.length:=by simpa using f
  exact Fw l P _ i h0 f g out U Ω J T _ (λC p a1 a2 a3 a4 a5=>Fx l P n C (i+1) p Ω Ω Ω a2 a3 a4 (λc j=>by
   rw[show(i+1).toNat=i.toNat+1 by omega,J' Ω,π,ξ]at j;obtain j|rfl:=j
   ·exact a5 _ (.inl (R c j))
   ·exact a5 _ (.inr (by unfold ix;rw[E',ε Ω];rfl))) Ω) FU g Ω Ω (by rw[aI];omega) (λk hk1 hk2=>Ω)
def OD (l:List Cel)(g:l.length<2000000):Tot (mC l) λr=>r.length≤l.length∧(∀c∈r,c∈l)∧oa r∧∀c∈l,InW r c.1:=by simp only[mC,wa];exact Fx l g FU 0 0 [] Ω Ω Ω Ψ (λc f=>by simp at f) (by simp[oa]) (λc f=>by simp at f) (by rw[aI];omega)
def Ny (m:Mdl)(J:m.1.length≤120000)(id:Int)(r1:List Int)(i:Int)(R:0≤i)(P:i<12)(f:List Cel)(C:f.length≤m.1.length)(r:∀c∈f,c∈m.1)(k:kJ (List Cel))(Q:List Cel→Prop)(p:∀out:List Cel,out.length≤(i+1)*120000→(∀c∈out,c∈m.1∧¬c.2.1=1)→Tot (k id r1 m out (i+1)) Q) :
  ∀(n:Nat) (out:List Cel) (t:Int),0≤t→t≤f.length→out.length≤i*120000+t→(∀c∈out,c∈m.1∧¬c.2.1=1)→f.length-t<n→Tot (vG k n id r1 i f m out t) Q
 |0,out,t,l,a1,a2,j,U=>Ω
 |n+1,out,t,l,a1,a2,j,U=>by
  show Tot (B4 false some (vG k n) k id r1 i f m out t) _;simp only[B4,xr,tt,il];rw[ak (n:=t+1) Ω Ω,ak (n:=i+1) Ω Ω];refine⟨λh=>?_,λ_=>p out Ω j⟩;have h:t<f.length:=by simpa using h
  refine⟨aw l h,λT=>⟨aw l h,cM Ξ,Ny m J id r1 i R P f C r k Q p n _ (t+1) Ω Ω Ξ (λc g=>?_) Ω⟩,λ_=>Ny m J id r1 i R P f C r k Q p n _ (t+1) Ω Ω Ω j Ω⟩;obtain g|g:=π.1 g
  ·exact j c g
  ·rw[ξ.1 g];exact⟨r _ (fO l h),by simpa using T⟩
def WW (m:Mdl)(p:m.1.length≤120000)(id:Int)(r1:List Int):∀(n:Nat) (out:List Cel) (i:Int),0≤i→i≤12→out.length≤i*120000→(∀c∈out,c∈m.1∧¬c.2.1=1)→12-i<n→Tot (B5 n id r1 m out i) λr=>r.length≤1440000∧∀c∈r,c∈m.1∧¬c.2.1=1
 |0,out,i,j,T,R,g,h=>Ω
 |n+1,out,i,j,T,R,g,h=>by
  show Tot (B6 false some (vG (B5 n) FU) id r1 m out i) _;simp only[B6,tt,il];refine⟨λf=>?_,λ_=>⟨Ω,g⟩⟩;have f:i<(([id]++r1).length:Int)∧i<12:=by simp at f;exact f
  refine⟨aw j f.1,(aeR m.1 _ Ω).mono λC l=>?_⟩;exact Ny m p id r1 i j f.2 C l.1 l.2 _ _ (λout J P=>WW m p id r1 n out (i+1) Ω Ω J P Ω) FU out 0 Ω Ω Ω g (by rw[aI];omega)
def adL (m:Mdl)(g:m.1.length≤120000)(f:∀c∈m.1,TxC c)(id:Int):Tot (pz m id) λr=>r.length≤1440000∧∀c∈r,c∈m.1∧¬c.2.1=1:=by simp only[pz,Nv,tt];exact(RH m Ω f id).mono λr1 l=>⟨cM Ξ,WW m g id r1 FU [] 0 Ω Ω Ψ (λc j=>by cases j) (by rw[aI];omega)⟩
def uw (p:Int→Int→Prop)(f:Nat)(J:f<2000000):∀(n:Nat) (i:Int) (out:List Cel),0≤i→i≤f→out.length=f→(∀c∈out,TxC c∧p c.1 c.2.1)→f-i<n→Tot (k8 n f i out) λr=>r.length≤f∧∀c∈r,TxC c∧p c.1 c.2.1
 |0,i,out,T,R,P,l,h=>Ω
 |n+1,i,out,T,R,P,l,h=>by
  show Tot (jW false some (k8 n) f i out) _;simp only[jW,jX,tt,ni,Q',U_];rw[ak (n:=i+1) Ω Ω];refine⟨λg=>?_,λ_=>⟨by simp;omega,λc g=>l c (W? g)⟩⟩;have g:i<f:=by simpa using g
  have C:(decide (0≤i)&&decide (i<(f:Int)))=true:=by simp;omega
  refine⟨C,λ_=>⟨C,uw p f J n (i+1) _ Ω Ω Ξ (λc g=>?_) Ω⟩,λ_=>uw p f J n (i+1) _ Ω Ω P l Ω⟩;obtain g|rfl:=ale g
  ·exact l c g
  ·have j:out.getD i.toNat (zero aa)∈out:=by
    rw[E',ε Ω];exact w_ _
   exact⟨ZN,(l _ j).2⟩
def LU (f:Int→Int→Prop)(l:List Cel)(g:l.length<2000000)(h:∀c∈l,TxC c∧f c.1 c.2.1):Tot (eT l) λr=>r.length≤l.length∧∀c∈r,TxC c∧f c.1 c.2.1:=by simp only[eT,sh,tt,Q',List.take_nil,n_];exact⟨cM Ω,uw f l.length g FU 0 l Ω Ω rfl h (by rw[aI];omega)⟩
def aV (x:Int):Int:=x.fdiv 1048576
def zI {s:Int}:aV x=s↔s*1048576≤x∧x<(s+1)*1048576:=by unfold aV;rw[Int.fdiv_eq_ediv_of_nonneg _ Ω];omega
def TG (x y:Int):x≤uQ x y∧y≤uQ x y∧(uQ x y=x∨uQ x y=y):=by unfold uQ;split <;> omega
theorem shr_is (x:Int):aay .i64 x 20=aV x:=rfl
def GR (l:List Com)(s:Int)(hl:l.length≤100)(P:List Com)(c:Com)(R:List Com)(T:l=P++c::R)(hw:(ws c).length<1000000)(r:Int)(k:du Int)(Q:Int→Prop)(hk:∀x,aV x=s→r≤x→(∀y∈ws c,aV y.1=s→y.1≤x)→Tot (k l s x ((P.length:Int)+1)) Q):∀(n:Nat) (x t:Int),aV x=s→r≤x→0≤t→t≤(ws c).length→(∀y∈(ws c).take t.toNat,aV y.1=s→y.1≤x)→(ws c).length-t<n→Tot (lQ k n l s P.length x t) Q
 |0,x,t,a0,U,a2,a3,_,h=>Ω
 |n+1,x,t,a0,U,a2,a3,a4,h=>by
  show Tot (uL false some (lQ k n) k l s P.length x t) _;have j:(P.length:Int)<l.length:=by rw[T];simp;omega
  have ec:ix tCommit l (P.length:Int)=c:=by rw[T];exact bt (t:=tCommit) P c R
  simp only[uL,qP,uN,tt,il,shr_is];rw[ec,ak (n:=t+1) Ω Ω,ak (n:=(P.length:Int)+1) Ω Ω];show bd _ _=true∧(decide (t<((ws c).length:Int))=true→bd _ _=true∧bd t (ws c).length=true∧_∧(decide (aV (ix aa (ws c) t).1=s)=true→bd _ _=true∧bd t (ws c).length=true∧_)∧_)∧_;refine⟨aw Ω j,λg=>?_,λg=>hk x a0 U λy f=>a4 y (by have g:(((ws c).length:Nat):Int)≤t:=Int.not_lt.1 (j? g);rw[K_ Ω];exact f)⟩;have g:t<(ws c).length:=by simpa using g
  have tk:∀C,x≤C→(aV (ix aa (ws c) t).1=s→(ix aa (ws c) t).1≤C)→∀y∈(ws c).take (t+1).toNat,aV y.1=s→y.1≤C:=λC b1 b2 y f hs=>by
   rw[show(t+1).toNat=t.toNat+1 by omega,J' Ω,π,ξ]at f;obtain f|f:=f
   ·exact ajX (a4 y f hs) b1
   ·have e:(ws c)[t.toNat]'Ω=ix aa (ws c) t:=by unfold ix;rw[E',ε Ω];rfl
    rw[f,e]at hs⊢;exact b2 hs
  refine⟨aw Ω j,aw a2 g,by decide,λp=>⟨aw Ω j,aw a2 g, ?_⟩,λp=>GR l s hl P c R T hw r k Q hk n x (t+1) a0 U Ω Ω (tk x (aj4 _) λe=>absurd e (j? p)) Ω⟩;have p:aV (ix aa (ws c) t).1=s:=by simpa using p
  have J:=TG x (ix aa (ws c) t).1;refine GR l s hl P c R T hw r k Q hk n (uQ x (ix aa (ws c) t).1) (t+1) ?_ (ajX U J.1) Ω Ω (tk _ J.1 λ_=>J.2.1) Ω;obtain e|e:=J.2.2
  ·rw[e];exact a0
  ·rw[e];exact p
def PL (l:List Com)(s:Int)(hl:l.length≤100)(hw:∀c∈l,(ws c).length<1000000):∀(n:Nat) (R P:List Com) (x:Int),l=P++R→R.length<n→aV x=s→(∀c∈P,(aV c.1=s→c.1≤x)∧∀y∈ws c,aV y.1=s→y.1≤x)→Tot (qO n l s x P.length) λr=>aV r=s∧∀c∈l,(aV c.1=s→c.1≤r)∧∀y∈ws c,aV y.1=s→y.1≤r
 |0,R,P,x,f,h2,h3,U=>Ω
 |n+1,R,P,x,f,h2,h3,U=>by
  show Tot (uM false some (lQ (qO n) FU) l s x P.length) _;simp only[uM,qQ,tt,il,shr_is];cases R with
  |nil=>
   have e:l=P:=by simpa using f
   subst e;exact⟨λh=>by simp at h,λ_=>⟨h3,U⟩⟩
  |cons c R=>
   have T:(P.length:Int)<l.length:=by rw[f];simp;omega
   have ec:ix tCommit l (P.length:Int)=c:=by rw[f];exact bt (t:=tCommit) P c R
   rw[ec];have go:∀g,aV g=s→x≤g→(aV c.1=s→c.1≤g)→Tot (lQ (qO n) FU l s P.length g 0) λr=>aV r=s∧∀c∈l,(aV c.1=s→c.1≤r)∧∀y∈ws c,aV y.1=s→y.1≤r:=λg b1 b2 b3=>by
    refine GR l s hl P c R f (hw c (by rw[f];simp)) g _ _ (λy hy j hy3=>?_) FU g 0 b1 (aj4 _) Ω Ω (λy hy=>by simp at hy) (by rw[aI];have:=hw c (by rw[f];simp);omega);have:=PL l s hl hw n R (P++[c]) y (by rw[f];simp) (by simp at h2;omega) hy λd p=>?_
    ·simpa using this
    ·obtain p|p:=π.1 p
     ·exact⟨λC=>ajX ((U d p).1 C) (ajX b2 j),λz hz C=>ajX ((U d p).2 z hz C) (ajX b2 j)⟩
     ·rw[ξ.1 p];exact⟨λC=>ajX (b3 C) j,hy3⟩
   refine⟨λ_=>⟨aw Ω T,by decide,λJ=>⟨aw Ω T, ?_⟩,λJ=>go x h3 (aj4 _) λe=>by simp[e]at J⟩,λh=>by simp at h;omega⟩;have J:aV c.1=s:=N' J;have hm:=TG x c.1;refine go (uQ x c.1) ?_ hm.1 λ_=>hm.2.1;obtain e|e:=hm.2.2
   ·rw[e];exact h3
   ·rw[e];exact J
def J8 (l:List Com)(s:Int)(C:1≤s)(p:s≤3)(g:l.length≤100)(f:∀c∈l,(ws c).length<1000000):Tot (qR l s) λr=>aV r=s∧∀c∈l,(aV c.1=s→c.1≤r)∧∀y∈ws c,aV y.1=s→y.1≤r:=by
 simp only[qR,EC,tt];have e:aaz .i64 s 20=s*1048576:=by show w64 (s*1048576)=_;exact ak Ω Ω
 rw[e];exact⟨by decide,PL l s g f FU l [] (s*1048576) rfl (by rw[aI];omega) (zI.2 Ω) λc j=>by cases j⟩
def AW (l:List Com)(c:Com)(hl:l.length≤100):∀(n:Nat) (R P:List Com),l=P++R→R.length<n→(∀d∈P,d.1<c.1)→Tot (pg n l c P.length) λr=>∃P R,l=P++R∧r=P++c::R∧(∀d∈P,d.1<c.1)∧∀d U,R=d::U→¬d.1<c.1
 |0,R,P,f,h2,J=>Ω
 |n+1,R,P,f,h2,J=>by
  show Tot (nl false some (pg n) l c P.length) _;have p:P.length+R.length=l.length:=by rw[f];simp
  simp only[nl,tt,il,U_,n_,z_];rw[ak (n:=(P.length:Int)+1) Ω Ω];refine⟨ap λh=>aw Ω (by simpa using h),λg=>?_,λg=>?_⟩
  ·simp only[akC,ι,ρ]at g;cases R with
   |nil=>simp at p;omega
   |cons d R=>
    have T:ix tCommit l (P.length:Int)=d:=by rw[f];exact bt (t:=tCommit) P d R
    rw[T]at g;have:=AW l c hl n R (P++[d]) (by rw[f];simp) (by simp at h2;omega) λe j=>by
     obtain j|j:=π.1 j
     ·exact J e j
     ·rw[ξ.1 j];exact g.2
    simpa using this
  ·have e1:l.take P.length=P:=by rw[f];simp
   have e2:l.drop P.length=R:=by rw[f];simp
   have hq:(decide (0≤(P.length:Int))&&decide ((P.length:Int)≤(l.length:Int)))=true:=by simp;omega
   simp only[akY,e1,e2];refine⟨hq,cM Ξ,cM Ξ,hq,cM Ξ,P,R,f,Ψ,J,λd U e=>?_⟩;subst e;have T:ix tCommit l (P.length:Int)=d:=by rw[f];exact bt (t:=tCommit) P d U
   rw[T]at g;have C:(P.length:Int)<l.length:=by simp at p;omega
   simpa[C]using g
def Qr (l:List Com)(c:Com)(f:l.length≤100):Tot (np l c) λr=>∃P R,l=P++R∧r=P++c::R∧(∀d∈P,d.1<c.1)∧∀d j,R=d::j→¬d.1<c.1:=by
 simp only[np,wT];exact AW l c f FU l [] rfl (by rw[aI];omega) λd g=>by cases g
def ai5 (s:Sta)(f:List (Int×Int))(c:Cel):Prop:=TxC c∧((∃x∈s.1,x.1=c.1∧x.2.1=c.2.1)∨(c.1,c.2.1)∈f)
def WP (s:Sta)(w:List Cel):Prop:=w.length<2000000∧∃f:List (Int×Int),f.length≤11∧∀c∈w,ai5 s f c
def Frs (C:Int)(w:List Cel):Prop:=∀c∈w,c.2.1=1→c.1=w64 (C+1)∨(c.1=w64 (C+2)∧InW w (w64 (C+1)))∨(c.1=w64 (C+3)∧InW w (w64 (C+2))∧InW w (w64 (C+1)))
def WQ (s:Sta)(C:Int)(w:List Cel):Prop:=WP s w∧oa w∧Frs C w
def ta (h:∀c∈w,¬c.2.1=1):Frs C w:=λc f e=>absurd e (h c f)
def n1 (h:¬f=1):∀c∈[]++[((id,f,v,()):Cel)],¬c.2.1=1:=λc g=>by have g:c∈[((id,f,v,()):Cel)]:=g;rw[ξ.1 g];exact h
def ym (w:List Cel)(h:w.length≤11)(g:∀c∈w,TxC c):WP s ([]++w) :=
 ⟨by simp;omega,w.map λc=>(c.1,c.2.1),by simp;omega,λc f=>by
  have f:c∈w:=by simpa using f
  exact⟨g c f,.inr (a_.2 ⟨c,f,rfl⟩)⟩⟩
def adX (r w:List Cel)(l:r.length≤1440000)(g:∀c∈r,TxC c∧∃x∈s.1,x.1=c.1∧x.2.1=c.2.1)(h:w.length≤11)(j:∀c∈w,TxC c):WP s (([]++r)++w) :=
 ⟨by simp;omega,w.map λc=>(c.1,c.2.1),by simp;omega,λc f=>by
  obtain f|f:=π.1 f
  ·have f:c∈r:=by simpa using f
   exact⟨(g c f).1,.inl (g c f).2⟩
  ·exact⟨j c f,.inr (a_.2 ⟨c,f,rfl⟩)⟩⟩
def RY (r:List Cel)(j:r.length≤1440000)(f:∀c∈r,TxC c∧∃x∈s.1,x.1=c.1∧x.2.1=c.2.1):WP s r :=
 ⟨Ω,[],Ψ,λc g=>⟨(f c g).1,.inl (f c g).2⟩⟩
def cE (h:WP s w)(J:Frs C w):Tot (dJ w) (WQ s C):=by
 simp[dJ,oq,tt];obtain⟨U,ex,T,R⟩:=h;refine(OD w U).mono λr g=>⟨⟨Ω,ex,T,λc j=>R c (g.2.1 c j)⟩,g.2.2.1,λc j e=>?_⟩;have f:∀x,InW w x→InW r x:=λx ⟨d,P,e⟩=>by rw[←e];exact g.2.2.2 d P
 obtain h|⟨h,p⟩|⟨h,p,l⟩:=J c (g.2.1 c j) e
 ·exact .inl h
 ·exact .inr (.inl ⟨h,f _ p⟩)
 ·exact .inr (.inr ⟨h,f _ p,f _ l⟩)
def tx1 (h:TxV v):∀c∈[(id,f,v,())],TxC c:=λc g=>by rw[ξ.1 g];exact h
def E3 (id t a b c d:Int):Tot (dK id t a b c d) (WQ s C):=by simp only[dK,ow,tt];exact(vP _ _).mono λr f=>⟨cM Ψ,cE (ym _ Ψ (tx1 f)) (ta (n1 Ϛ))⟩
def E2 (id a:Int)(b:Bool)(t:Str)(f:Sh t)(c:Int):Tot (iu id a b t c) (WQ s C):=by simp only[iu,ot,tt];exact⟨cM Ψ,cE (ym _ Ψ (tx1 f)) (ta (n1 Ϛ))⟩
def RW (h:St1 s)(hs:s.1.length≤120000)(C:Int)(r2 r3 r4:List Int)(h2:r2.length≤120000)(h3:r3.length≤120000)(h4:r4.length≤120000)(r5:Int)(t:Bool)(a b c d:Int):Tot (iv C r2 r3 r4 r5 t s.1 a b c d (eX s).1) (WQ s C):=by
 have hm:=abq h;have P:∀id,Tot (pz ((eX s).1,()) id) λr=>r.length≤1440000∧∀c∈r,TxC c∧(∃x∈s.1,x.1=c.1∧x.2.1=c.2.1)∧¬c.2.1=1:=λid=>(adL (eX s) Ω (λc g=>(hm.1 c g).1) id).mono λr hr=>⟨hr.1,λc g=>have h:=hr.2 c g;⟨(hm.1 c h.1).1,(hm.1 c h.1).2,h.2⟩⟩;have R:∀r:List Cel,r.length≤1440000→(∀c∈r,TxC c∧(∃x∈s.1,x.1=c.1∧x.2.1=c.2.1)∧¬c.2.1=1)→Tot (eT r) λr=>r.length≤1440000∧∀c∈r,TxC c∧(∃x∈s.1,x.1=c.1∧x.2.1=c.2.1)∧¬c.2.1=1:=λr h1 h2=>(LU (λa b=>(∃x∈s.1,x.1=a∧x.2.1=b)∧¬b=1) r Ω h2).mono λq j=>⟨Ω,j.2⟩;have rd:∀id f,Tot (fX (s.1,()) id f) TxV:=λid f=>XZ h id f;have T:∀k,Tot (aD (s.1,()) k) λr=>r.length≤120000:=λk=>(cZ h k).mono λr hr=>Ω
 have U:∀v x,Tot (eQ v (s.1,()) x) TxV:=λv x=>OJ v h x;have J:∀(l:List Int) x,l.length≤240000→Tot (ba l x) λ_=>True:=λl x hl=>(gU l x Ω).mono λ_ _=>trivial;simp only[iv,ou,tt];refine⟨λ_=>?_,λ_=>⟨λ_=>?_,λ_=>⟨λ_=>?_,λ_=>⟨λ_=>?_,λ_=>⟨λ_=>?_,λ_=>⟨λ_=>?_,λ_=>⟨λ_=>?_,λ_=>⟨λ_=>?_,λ_=>⟨λ_=>?_,λ_=>?_⟩⟩⟩⟩⟩⟩⟩⟩⟩
 ·exact(J _ _ Ω).mono λr _=>(rd _ _).mono λv _=>(U _ _).mono λv p=>⟨cM Ψ,cE (ym _ Ψ (tx1 p)) (ta (n1 Ϛ))⟩
 ·exact(J _ _ Ω).mono λr _=>(bm _ 3 Ω Ω).mono λq j=>⟨by decide,(On _).mono λv p=>⟨cM Ψ,cE (ym _ Ψ (tx1 p)) (ta (n1 (by rw[ak Ω Ω];omega)))⟩⟩
 ·exact(J _ _ Ω).mono λr _=>(T _).mono λe he=>(J _ _ Ω).mono λ_ _=>⟨by decide,(Hh _).mono λv p=>⟨cM Ψ,cE (ym _ Ψ (tx1 p)) (ta (n1 Ϛ))⟩⟩
 ·exact(J _ _ Ω).mono λr _=>(J _ _ Ω).mono λ_ _=>(rd _ _).mono λv p=>⟨cM Ψ,cE (ym _ Ψ (tx1 p)) (ta (n1 Ϛ))⟩
 ·refine(J _ _ Ω).mono λr _=>(rd _ _).mono λv p=>(P _).mono λq j=>(R q j.1 j.2).mono λq j=>⟨cM Ξ,(rd _ _).mono λv2 _=>(U _ _).mono λv3 hv3=>⟨cM Ξ,cE (adX q _ j.1 (λc g=>⟨(j.2 c g).1,(j.2 c g).2.1⟩) Ψ ?_) ?_⟩⟩
  ·intro c g;simp at g;obtain rfl|rfl|rfl:=g
   ·simp[TxC,TxV]
   ·exact p
   ·exact hv3
  ·intro c g e;obtain g|g:=π.1 g
   ·exact absurd e (j.2 c (by simpa using g)).2.2
   ·simp at g;obtain rfl|rfl|rfl:=g
    ·exact .inl rfl
    ·exact absurd e (by decide:¬(2:Int)=1)
    ·exact absurd e (by decide:¬(4:Int)=1)
 ·refine(T _).mono λe he=>(J _ _ Ω).mono λ_ _=>(Hh _).mono λk hk=>(vP _ _).mono λwd hwd=>⟨by decide,(U _ _).mono λv p=>⟨cM Ψ,cE (ym _ Ψ ?_) ?_⟩⟩
  ·intro c g;simp at g;obtain rfl|rfl|rfl|rfl|rfl|rfl|rfl|rfl|rfl|rfl|rfl:=g;all_goals first|exact p|exact hk|exact hwd|simp[TxC,TxV]
  ·intro c g e;have h1:∀{x:Cel} {a b:List Cel},InW ([]++(a++x::b)) x.1:=λ{x a b}=>⟨x,Ψ,rfl⟩
   simp at g;obtain rfl|rfl|rfl|rfl|rfl|rfl|rfl|rfl|rfl|rfl|rfl:=g;all_goals first|exact absurd e (by decide:¬(2:Int)=1)|exact absurd e (by decide:¬(3:Int)=1)|exact absurd e (by decide:¬(4:Int)=1)|exact absurd e (by decide:¬(8:Int)=1)|exact absurd e (by decide:¬(9:Int)=1)|exact .inl rfl|exact .inr (.inl ⟨rfl,⟨_,X' ..,rfl⟩⟩)|exact .inr (.inr ⟨rfl,⟨_,F' _ (F' _ (F' _ (F' _ (F' _ (X' ..))))),rfl⟩,⟨_,X' ..,rfl⟩⟩)
 ·exact(T _).mono λe he=>⟨cM Ω,(J _ _ Ξ).mono λr _=>(P _).mono λq j=>(R q j.1 j.2).mono λq j=>cE (RY q j.1 λc g=>⟨(j.2 c g).1,(j.2 c g).2.1⟩) (ta λc g=>(j.2 c g).2.2)⟩
 ·exact(T _).mono λe he=>(J _ _ Ω).mono λr _=>(rd _ _).mono λv p=>⟨λ_=>(Hh _).mono λk hk=>E2 _ _ _ _ hk _,λ_=>E2 _ _ _ _ p _⟩
 ·exact(J _ _ Ω).mono λr _=>(P _).mono λq j=>cE (RY q j.1 λc g=>⟨(j.2 c g).1,(j.2 c g).2.1⟩) (ta λc g=>(j.2 c g).2.2)
 ·exact cE (RY [] Ψ λc g=>by cases g) (ta λc g=>by cases g)
def NM (h:St1 s)(hs:s.1.length≤120000)(d:aX.den)(C:Int):Tot (mc s d C) (WQ s C):=by
 have p:∀k,Tot (aD s k) λr=>r.length≤120000:=λk=>(cZ h k).mono λr hr=>Ω
 have R:∀(l:List Int) x,l.length≤120000→Tot (ba l x) λ_=>True:=λl x hl=>(gU l x Ω).mono λ_ _=>trivial;simp only[mc,vM,oo,rC,tt];refine⟨h.stg,(p _).mono λP U=>(p _).mono λr3 h3=>(p _).mono λJ T=>(bm _ 13 Ω Ω).mono λr5 _=>?_⟩;have j:∀t:Bool,(t=true→Tot (ba P d.2.2.1) λr=>Tot (gc (s.1,()) r) λf=>((bif (decide (f=5))then true else(decide (f=0)))=true→Tot (ba J d.2.2.1) λr=>Tot (dK r 2 d.1 d.2.1 d.2.2.1 d.2.2.2.1) (WQ s C))∧((bif (decide (f=5))then true else(decide (f=0)))=false→Tot (dK r f d.1 d.2.1 d.2.2.1 d.2.2.2.1) (WQ s C))):=λ_ _=>(R _ _ U).mono λr _=>(q9 s r (h.place r 1)).mono λk _=>⟨λ_=>(R _ _ T).mono λr _=>E3 _ _ _ _ _ _,λ_=>E3 _ _ _ _ _ _⟩;have g:=λt=>RW h hs C P r3 J U h3 T r5 t d.1 d.2.1 d.2.2.1 d.2.2.2.1;exact⟨λ_=>⟨j _,λ_=>⟨λ_=>g _,λ_=>g _⟩⟩,λ_=>⟨j _,λ_=>⟨λ_=>g _,λ_=>g _⟩⟩⟩
def wD {U:Type}[DecidableEq U]:∀{a b:List U},a.Nodup→(∀x∈a,x∈b)→a.length≤b.length
 |[],b,_,_=>by simp
 |x::a,b,h,hs=>by
  have h:=M?.1 h;have j:=hs x (X' ..);have:=wD (a:=a) (b:=b.erase x) h.2 λy g=>by have f:=hs y (F' _ g);exact(akH (λe:y=x=>h.1 (by rw[←e];exact g))).2 f
  rw[akq j]at this;have:=ajV j;simp;omega
def VC (h:WP s w)(r:oa w):w.length≤s.1.length+11:=by
 obtain⟨_,R,T,P⟩:=h;have C:(w.map λc=>(c.1,c.2.1)).Nodup:=by unfold List.Nodup;rw[akU];refine r.imp λ{a b} f e=>?_;have j:a.1=b.1:=(ο .. ▸ e).1;have g:a.2.1=b.2.1:=(ο .. ▸ e).2;rw[j,g,lE]at f;omega
 have:=wD (b:=(s.1.map λx=>(x.1,x.2.1))++R) C λx p=>by
  obtain⟨c,J,rfl⟩:=a_.1 p;rcases(P c J).2 with⟨y,l,j,g⟩|h
  ·exact x_ _ (a_.2 ⟨y,l,by rw[j,g]⟩)
  ·exact y? _ h
 simp at this;omega
def Fc (h:dT x):aV (x-1)=aV x:=by
 obtain⟨l,j,g⟩:=h;have e:aV x*1048576≤x∧x<(aV x+1)*1048576:=zI.1 rfl;refine zI.2 ⟨?_,Ω⟩;by_cases f:x=aV x*1048576
 ·exfalso;apply g;rw[f];exact Int.mul_tmod_left _ _
 ·omega
structure NewC (l:List Com)(c:Com):Prop where
 par:c.2.1.length≤4
 txt:∀x∈ws c,TxC x
 ord:oa (ws c)
 len:(ws c).length≤bV l+11
 new:∀d∈l,¬d.1=c.1
 ids:∀x∈ws c,IdC x
 pic:c.2.2.1.length≤4
 kc:∀d∈l,∀x∈ws c,∀y∈ws d,x.2.1=1→y.2.1=1→x.1=y.1→x.2.2.1.1=y.2.2.1.1
def Pq (h:oa w):∀{x y:Cel},x∈w→y∈w→x.1=y.1→x.2.1=y.2.1→x=y:=λ{x y} C r p l=>by
 obtain⟨i,g,rfl⟩:=t_.1 C;obtain⟨j,f,rfl⟩:=t_.1 r;obtain q|rfl|q:=e? i j
 ·have:=u_.1 h i j g f q;rw[p,l,lE]at this;omega
 ·rfl
 ·have:=u_.1 h j i f g q;rw[p,l,lE]at this;omega
def aiM {a b k:Int}(h:b≤a)(e:b=a+k)(f:1≤k):False:=Ω
def aiN {a:Int}(h:a≤a-1):False:=Ω
def ahy {s:Int}(f:dT c.1)(g:aV (c.1-1)=s)(h:∀d∈l,aV d.1=s→d.1≤c.1-1):∀d∈l,¬d.1=c.1:=λd j e=>by have:=h d j (by rw[e,←Fc f,g]);exact aiN (e ▸ this)
def H4 (hs:St1 s)(g:Int)(f j:List Int)(p:Str)(w:List Cel)(h1:f.length≤4)(h2:j.length≤4)(h3:p.length≤100)(hw:w.length<1000000)(U:∀x∈w,TxC x)
  (R:oa w→w.length≤bV l+11) {site:Int} (C:aV (g-1)=site) (P:∀d∈l,aV d.1=site→d.1≤g-1) (T:(∀x∈w,IdC x)→∀d∈l,∀x∈w,∀y∈ws d,x.2.1=1→y.2.1=1→x.1=y.1→x.2.2.1.1=y.2.2.1.1) :
  Tot (kH false some s g f j p w) λr=>r.2.1=true→NewC l r.1:=by
 simp[kH,tt];refine(QG s (g,f,j,p,w,()) (λid=>hs.place id 1) (by show f.length<_;omega) (by show j.length<_;omega) (by show p.length<_;omega) hw U).mono λr J e=>?_;have J:=J (by simpa using e);exact⟨h1,U,J.2.1,R J.2.1,ahy J.1 C P,J.2.2,h2,T J.2.2⟩
def LH {s:Int}(h:aV x=s)(g:1≤s)(f:s≤3):0≤x∧x<4194304:=by have:=zI.1 h;omega
def afi {s:Int}(hf:Frs C w)(P:∀x∈w,IdC x)(U:aV C=s)(hb:0≤C∧C<4194304)(hl:∀d∈l,∀y∈ws d,aV y.1=s→y.1≤C)(d:Com)(hd:d∈l)(x:Cel)(J:x∈w)(y:Cel)(T:y∈ws d)(e1:x.2.1=1)(e:x.1=y.1):False:=by
 have g:∀k:Int,dT (C+k)→aV (C+k-1)=s→aV (C+k)=s:=λk h e=>(Fc h).symm.trans e;have j:∀k:Int,0≤k→k≤3→InW w (w64 (C+k))→dT (C+k):=λk _ _ ⟨c,hc,e⟩=>by rw[ak (n:=C+k) Ω Ω]at e;rw[←e];exact(P c hc).1
 have v:=(P x J).1;have f:∀k:Int,1≤k→x.1=C+k→aV (C+k)=s→False:=λk hk R h=>by exact aiM (hl d hd y T (by rw[←e,R];exact h)) (e.symm.trans R) hk
 have p:aV (C+1-1)=s:=by rw[ajM];exact U
 obtain h|⟨h,r⟩|⟨h,h2,r⟩:=hf x J e1
 ·rw[ak (n:=C+1) Ω Ω]at h;rw[h]at v;exact f 1 Ω h (g 1 v p)
 ·rw[ak (n:=C+2) Ω Ω]at h;rw[h]at v;have s1:=g 1 (j 1 Ω Ω r) p;exact f 2 Ω h (g 2 v (by rw[show C+2-1=C+1 by omega];exact s1))
 ·rw[ak (n:=C+3) Ω Ω]at h;rw[h]at v;have s1:=g 1 (j 1 Ω Ω r) p;have s2:=g 2 (j 2 Ω Ω h2) (by rw[show C+2-1=C+1 by omega];exact s1);exact f 3 Ω h (g 3 v (by rw[show C+3-1=C+2 by omega];exact s2))
def KZ (C:H0 l)(hn:l≠[])(hw:bV l≤60000)(r1:Int)(a1:0≤r1)(a2:r1<3)(d:aX.den)(f:List Int)(hp:f.length≤4) :
  Tot (nQ false some l r1 d f) λr=>r.2.1=true→NewC l r.1:=by
 have hfew:=C.few;have hlen:0<l.length:=List.length_pos_iff.2 hn;have p:∀c∈l,(ws c).length<1000000:=λc J=>by have:=l5 J;omega
 simp only[nQ,tt,il];rw[ak (n:=1+r1) Ω Ω];refine(Xp l f C.isFew Ω).mono λr5 h5=>(La l C r5 Ω).mono λs hs=>(J8 l (1+r1) Ω Ω Ω p).mono λr7 R=>(bm d.1 13 Ω Ω).mono λr8 _=>⟨λ_=>?_,λ_=>?_⟩
 ·refine(bm d.2.2.1 (l.length:Int) Ω Ω).mono λr9 h9=>⟨aw h9.1 h9.2, ?_⟩;have hm:=fO (t:=tCommit) (l:=l) h9.1 h9.2;have hb:=LH R.1 Ω Ω;have hsum:=l5 hm;refine H4 (hs.st1 C) _ r5 [_] _ _ Ω Ψ Ψ (p _ hm) (C.txt _ hm) (λ_=>Δ hsum Ω) (site:=1+r1) ?_ ?_ λ_ d g x T y hy=>C.kc _ hm d g x T y hy
  ·rw[ak Ω Ω,ajM];exact R.1
  ·rw[ak Ω Ω,ajM];exact λd g=>(R.2 d g).1
 ·have hst:=hs.st1 C;have hsl:s.1.length≤bV l:=by
   obtain⟨_,_,_,_,h⟩:=hs;exact h.len
  refine(NM hst Ω d r7).mono λw ⟨j,hwo,hwf⟩=>have U:w.length<1000000:=(by have:=VC j hwo;omega);⟨cM Ξ,cM Ξ, ?_⟩
  rw[n_];refine(J8 (l++[(0,r5,[],[100,101,101,100],w,())]) (1+r1) Ω Ω Ξ (λc J=>?_)).mono λr11 P=>?_
  ·obtain J|J:=π.1 J
   ·exact p c J
   ·rw[ξ.1 J];exact U
  ·have hb:=LH P.1 Ω Ω;refine H4 hst _ r5 [] _ w Ω Ψ Ψ U (λx T=>?_) (λho=>by have:=VC j ho;omega) (site:=1+r1) ?_ ?_ ?_
   ·obtain⟨_,ex,_,h⟩:=j;exact(h x T).1
   ·rw[ak Ω Ω,ajM];exact P.1
   ·rw[ak Ω Ω,ajM];exact λd g=>(P.2 d (x_ _ g)).1
   ·exact λhv d g x T y hy e1 _ e=>(afi hwf hv R.1 (LH R.1 Ω Ω) (λd g=>(R.2 d g).2) d g x T y hy e1 e).elim
def Rr (J:H0 l)(C:l≠[])(p:bV l≤60000)(f:List Int)(m1:0<f.length)(m2:f.length≤100)(d:aX.den) :
  Tot (nR l f d) λr=>r.2.1=true→NewC l r.1:=by
 have j:∀k:Int,0≤k→bd (uQ (w64 (w64 ((f.length:Int)-1)-k)) 0) f.length=true∨10<k:=λk hk=>by
  by_cases h:10<k
  ·exact .inr h
  ·left;rw[ak (n:=(f.length:Int)-1) Ω Ω,ak Ω Ω];have:=TG ((f.length:Int)-1-k) 0;exact aw this.2.1 (by obtain e|e:=this.2.2 <;> rw[e] <;> omega)
 simp only[nR,xg,tt,il];refine(bm _ 3 Ω Ω).mono λr1 g=>⟨by decide,(bm _ 3 Ω Ω).mono λR T=>⟨(j R T.1).resolve_right Ω,by decide,(bm _ 3 Ω Ω).mono λr3 _=>⟨λ_=>⟨by decide,(bm _ (f.length:Int) Ω Ω).mono λU P=>⟨aw P.1 P.2,cM Ψ, ?_⟩⟩,λ_=>?_⟩⟩⟩
 ·exact KZ J C p r1 g.1 g.2 d _ (R_ rfl)
 ·exact KZ J C p r1 g.1 g.2 d _ (R_ rfl)
def ahM {P R:List Com}(r:H0 (P++R))(l:NewC (P++R) c)(h1:∀d∈P,d.1<c.1)(h2:∀d R',R=d::R'→¬d.1<c.1)(hn:(P++R).length<20)(hs:2*bV (P++R)+11≤500000):H0 (P++c::R)∧bV (P++c::R)≤2*bV (P++R)+11:=by
 have hsum:bV (P++c::R)=bV (P++R)+(ws c).length:=by rw[co,co];show _+((ws c).length+bV R)=_;omega
 have hlen:=l.len;have f:∀d∈P++c::R,d=c∨d∈P++R:=λd g=>by
  simp at g⊢;obtain h|h|h:=g
  ·exact .inr (.inl h)
  ·exact .inl h
  ·exact .inr (.inr h)
 have hR:∀d∈R,c.1<d.1:=by
  have j:=(o_.1 r.asc).2.1;cases R with
  |nil=>intro d g;cases g
  |cons e R=>
   have he:=h2 e R rfl;have hne:=l.new e Ψ;have C:c.1<e.1:=akI.2 ⟨Int.not_lt.1 he,λh=>hne h.symm⟩;intro d g;obtain rfl|g:=P'.1 g
   ·exact C
   ·exact alx C ((q_.1 j).1 d g)
 refine⟨⟨by simp at hn⊢;omega, ?_,λd g=>?_,λd g=>?_,λd g=>?_,Ω,λd g=>?_,λd g=>?_,λd g e he x T y J ex U p=>?_⟩,Ω⟩
 ·have j:=o_.1 r.asc;rw[o_];refine⟨j.1,q_.2 ⟨hR,j.2.1⟩,λa ha b hb=>?_⟩;obtain rfl|hb:=P'.1 hb
  ·exact h1 a ha
  ·exact j.2.2 a ha b hb
 ·obtain rfl|h:=f d g
  ·exact l.par
  ·exact r.par d h
 ·obtain rfl|h:=f d g
  ·exact l.ord
  ·exact r.ord d h
 ·obtain rfl|h:=f d g
  ·exact l.txt
  ·exact r.txt d h
 ·obtain rfl|h:=f d g
  ·exact l.ids
  ·exact r.ids d h
 ·obtain rfl|h:=f d g
  ·exact l.pic
  ·exact r.pic d h
 ·obtain rfl|hd':=f d g <;> obtain rfl|he':=f e he
  ·rw[Pq l.ord T J p (ex.trans U.symm)]
  ·exact l.kc e he' x T y J ex U p
  ·exact(l.kc d hd' y J x T U ex p.symm).symm
  ·exact r.kc d hd' e he' x T y J ex U p
structure First1 (c:Com):Prop where
 par:c.2.1.length≤4
 ord:oa (ws c)
 txt:∀x∈ws c,TxC x
 len:(ws c).length≤200
 ids:∀x∈ws c,IdC x
 pic:c.2.2.1.length≤4
def First1.h0 (h:First1 c):H0 [c]:=by
 refine⟨Ψ,Ψ,λd f=>?_,λd f=>?_,λd f=>?_,by have:=h.len;simp[bV];omega,λd f=>?_,λd f=>?_,λd f e p x l y j C r g=>?_⟩
 rotate_left 5
 ·rw[ξ.1 f]at l;rw[ξ.1 p]at j;rw[Pq h.ord l j g (C.trans r.symm)]
 all_goals rw[ξ.1 f]
 ·exact h.par
 ·exact h.ord
 ·exact h.txt
 ·exact h.ids
 ·exact h.pic
def bnd:Nat→Nat
 |0=>200
 |n+1=>2*bnd n+11
def UP:∀{a b:Nat},a≤b→bnd a≤bnd b
 |a,b,h=>by
  induction h with
  |refl=>exact ζ _
  |step _ f=>exact Δ f (by simp[bnd];omega)
structure HisP (n:Nat)(l:List Com):Prop where
 h0:H0 l
 ne:l≠[]
 len:l.length≤n+1
 sum:bV l≤bnd n
def HisP.ins {P R:List Com}(h:HisP n (P++R))(g:NewC (P++R) c)(l:∀d∈P,d.1<c.1)(j:∀d p,R=d::p→¬d.1<c.1)(C:n<9):HisP (n+1) (P++c::R):=by have r:=h.sum;have J:bnd n≤54005:=UP (b:=8) Ω;have f:=h.len;have:=ahM h.h0 g l j Ω Ω;exact⟨this.1,Ψ,by simp at f⊢;omega,by have:=this.2;simp[bnd];omega⟩
def HisP.mono (h:HisP n l):HisP (n+1) l :=
 ⟨h.h0,h.ne,by have:=h.len;omega,Δ h.sum (UP Ω)⟩
def HisP.upto {m:Nat}(h:HisP n l)(f:n≤m):HisP m l:=by
 induction f with
 |refl=>exact h
 |step _ g=>exact g.mono
def pM (l:List aX.den):∀(n:Nat) (out:List Com) (f:List Int) (i:Nat),HisP i out→0<f.length→f.length≤i+1→i≤9→9-i<n→Tot (lu n l out f i) λr=>HisP 9 r
 |0,out,f,i,g,C,h3,J,h5=>Ω
 |n+1,out,f,i,g,C,h3,J,h5=>by
  show Tot (kx false some (lu n) l out f i) _;simp only[kx,ky,tt,il];have e1:w64 ((i:Int)+1)=((i+1:Nat):Int):=by rw[ak Ω Ω];omega
  rw[e1];refine⟨λj=>?_,λ_=>?_⟩
  ·have j:i<l.length∧i<9:=by
    simp at j;omega
   have hb:bnd i≤54005:=UP (b:=8) Ω;have hs:=g.sum;refine⟨aw Ω Ω,(Rr g.h0 g.ne Ω f C Ω _).mono λr T=>⟨λU=>?_,λ_=>?_⟩⟩
   ·refine(Qr out r.1 (by have:=g.len;omega)).mono λr3 p=>⟨cM Ξ, ?_⟩;obtain⟨P,R,rfl,rfl,a1,a2⟩:=p;exact pM l n _ _ (i+1) (g.ins (T U) a1 a2 j.2) Ψ Ξ Ω Ω
   ·exact pM l n _ _ (i+1) g.mono C Ω Ω Ω
  ·exact g.upto J
def aev:Cel→List Cel→Bool
 |_,[]=>true
 |a,b::r=>ahd a.1 a.2.1 b.1 b.2.1&&aev b r
def aiH:List Cel→Bool
 |[]=>true
 |a::r=>aev a r
def Ps:∀{r:List Cel} {a:Cel},aev a r=true→Chn a r
 |[],_,_=>trivial
 |b::r,a,h=>by simp[aev]at h;exact⟨h.1,Ps h.2⟩
def aa3 {l:List Cel}(h:aiH l=true):oa l:=by
 cases l with
 |nil=>exact List.Pairwise.nil
 |cons a r=>exact Nh (Ps h)
def idB (x:Int):Bool:=1048576<x&&x<34603008&&!x.tmod 1048576=0
def abT (h:idB x=true):dT x:=by simpa[idB,dT,alk]using h
def M2 (c:Com):Bool:=decide (c.2.2.1.length≤4)&&(decide (c.2.1.length≤4)&&aiH (ws c)&&(ws c).all (λx=>decide (x.2.2.1.2.2.1.length<1000))&&decide ((ws c).length≤200)&&(ws c).all (λx=>idB x.1&&((decide (x.2.2.1.2.2.2.1=0)||idB x.2.2.1.2.2.2.1)&&decide (1≤x.2.1))))
def Um (h:M2 c=true):First1 c:=by simp only[M2,ι,ρ,G']at h;obtain⟨g,h⟩:=h;refine⟨h.1.1.1.1,aa3 h.1.1.1.2,h.1.1.2,h.1.2,λx f=>?_,g⟩;have:=h.2 x f;rw[ajI,ρ]at this;exact⟨abT this.1,this.2.1.imp (λf=>f) abT,this.2.2⟩
def aiX (n:Int):M2 (fstL n)=true:=by unfold fstL;split <;> kernel_rfl
def ab8 (x:Int):First1 (firstF x):=Um (aiX _)
def First1.his (h:First1 c):HisP 0 [c]:=⟨h.h0,Ψ,Ψ,by have:=h.len;simp[bV,bnd];omega⟩
def MQ (first:Int)(l:List aX.den):Tot (kz first l) (HisP 9):=by simp[kz,sU,tt];exact pM l FU [firstF first] [(firstF first).1] 0 (ab8 first).his Ψ Ψ Ω (by rw[aI];omega)
