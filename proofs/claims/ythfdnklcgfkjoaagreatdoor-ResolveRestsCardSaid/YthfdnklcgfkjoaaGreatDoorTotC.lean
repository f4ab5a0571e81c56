/- Evaluators that always answer. -/
import Derived.Test.YthfdnklcgfkjoaaGreatDoorGenH
set_option linter.all false
namespace Go.Proofs.YthfdnklcgfkjoaaGreatDoor.Abs
open Go
def Tot {j:Type}(o:Option j)(Q:j→Prop):Prop:=∃r,o=some r∧Q r
section
variable {j C:Type}{P Q:j→Prop}
def Ps {r:j}:Tot (some r) Q↔Q r:=⟨λ⟨_,e,h⟩=>by cases e;exact h,λh=>⟨r,rfl,h⟩⟩
def alH {b:Bool}{k:Option j}:Tot (ck b k) Q↔b=true∧Tot k Q:=by
 cases b
 ·simp[Tot,ck]
 ·simp[ck]
def agI {c:Bool}{x y:Option j}:Tot (bif c then x else y) Q↔(c=true→Tot x Q)∧(c=false→Tot y Q):=by cases c <;> simp
variable{k:C→Option j}{o:Option j}
def alI {g:Bool}{v:C}:Tot (kC g v k) Q↔g=true∧Tot (k v) Q:=by
 cases g
 ·simp[Tot,kC]
 ·simp[kC]
def ab2 {x:Option C}:Tot (yx x k) Q↔Tot x λr=>Tot (k r) Q:=by
 cases x
 ·simp[Tot,yx]
 ·simp[yx,Ps]
def Tot.mono (h:Tot o P)(k:∀r,P r→Q r):Tot o Q:=let ⟨r,e,h⟩:=h;⟨r,e,k r h⟩
def Tot.and (h:Tot o P)(k:Tot o Q):Tot o λr=>P r∧Q r:=by obtain⟨r,e,h⟩:=h;obtain⟨j,f,g⟩:=k;rw[e]at f;cases f;exact⟨r,e,h,g⟩
def Tot.some (h:Tot o P):o.isSome=true:=by obtain⟨r,e,_⟩:=h;rw[e];rfl
def Tot.getD {o:Option j}(h:Tot o P)(d:j):P (o.getD d):=by obtain⟨r,e,h⟩:=h;rw[e];exact h
def fg (h:o.isSome=true):Tot o λ_=>True:=by
 cases o with
 |none=>cases h
 |some r=>exact⟨r,rfl,awN⟩
end
def tt:(∀{j:Type} {Q:j→Prop} {r:j},Tot (some r) Q↔Q r)∧(∀{j:Type} {Q:j→Prop} {b:Bool} {k:Option j},Tot (ck b k) Q↔b=true∧Tot k Q)∧(∀{j:Type} {Q:j→Prop} {c:Bool} {x y:Option j},Tot (bif c then x else y) Q↔(c=true→Tot x Q)∧(c=false→Tot y Q)) ∧
 (∀{j C:Type} {Q:j→Prop} {g:Bool} {v:C} {k:C→Option j},Tot (kC g v k) Q↔g=true∧Tot (k v) Q)∧(∀{j C:Type} {Q:j→Prop} {x:Option C} {k:C→Option j},Tot (yx x k) Q↔Tot x λr=>Tot (k r) Q) ∧
 (∀{C:Type} (m:Bool) (t:Ty) (e:Option t.den) (k:t.den→Option C),cl m t e k=yx e k)∧(∀{C:Type} (m:Bool) (t:Ty) (g:Bool) (v:t.den) (k:t.den→Option C),ce m t g v k=kC g v k)∧(∀{C:Type} (m:Bool) (t:Ty) (x:t.den) (k:t.den→C),fz m t x k=k x)∧(∀{C:Type} (m:Bool) (x:Nat) (k:Nat→C),fm m x k=k x) ∧
 (∀{C:Type} (m c:Bool) (k:Option C) (l:List Nat),nq m l c k=k)∧(∀{C:Type} (m:Bool) (n:Nat) (c z:Bool) (k:Option C),nm m n c z k=ck (az c z) k)∧(∀p:Prop,(True∧p)=p)∧(∀p:Prop,(p∧True)=p)∧(∀p:Prop,(p→True)=True) :=
 ⟨Ps,alH,agI,alI,ab2,s0,s1,s2,s3,GX,Xu,λp=>as5 p,λp=>A_ p,λp=>implies_true p⟩
def au {a b:Bool}(h:a=true→b=true):az a b=true:=by cases a <;> cases b <;> simp_all[az]
def bt:FU=1099511627776:=rfl
def ar {n:Int}(g : -9000000000000000000≤n)(f:n≤9000000000000000000):w64 n=n:=bE Ω Ω
variable{i:Int}
def aE {n:Nat}(g:0≤i)(f:i<n):bd i n=true:=by simp[bd,g,f]
def aaF (c:Int):(jl c).isSome=true:=by simp[jl,wM,s1,GX];rfl
def yV (c:Int):(fM c).isSome=true:=by simp[fM,sO,s1,GX];rfl
def oM (s:Str):Tot (dq s) λ_=>True:=by simp[dq,oL,iE,jB,iD,jA,tt]
def ajI (s:Str):Tot (uH s) λ_=>True:=by simp[uH,EG,wK,AO,wJ,AN,tt]
def Fe (s:Str)(g:Int)(J:0≤g)(l:s.length<1000000):∀(n:Nat) (f:Int),g≤f→f≤s.length→s.length-f<n→Tot (vt n s g f) λr=>0≤r∧g+r≤s.length
 |0,f,_,C,p=>Ω
 |n+1,f,h2,C,p=>by
  show Tot (tg false some (vt n) s g f) _;simp only[tg,tt,il];refine⟨au λh=>aE Ω (by simpa using h),au λ_=>aaF _,λh=>?_,λ_=>?_⟩
  ·have:f<s.length:=by
    by_cases j:f<s.length
    ·exact j
    ·simp[j]at h
   rw[ar Ω Ω];exact Fe s g J l n (f+1) Ω Ω Ω
  ·rw[ar Ω Ω];omega
def BU (s:Str)(f:Int)(g:0≤f)(l:s.length<1000000):Tot (jK s f) λr=>0≤r∧(f≤s.length→f+r≤s.length):=by
 simp only[jK,Ee,tt,il];refine⟨au λh=>aE g (by simpa using h),au λh=>aE g (by simp at h;exact h.1),au λ_=>by simp[aD],λ_=>Ω,λh=>?_⟩;have:f<s.length:=by
  by_cases j:f<s.length
  ·exact j
  ·simp[Int.not_lt.1 j]at h
 exact(Fe s f g l FU f Ω Ω (by rw[bt];omega)).mono λr h=>⟨h.1,λ_=>h.2⟩
def Zg (s:Str)(f:Int)(j:0≤f)(g:f<s.length)(l:s.length<1000000):Tot (tI s f) λ_=>True:=by simp only[tI,Ej,rL,vT,rK,vS,tt,il];rw[ar Ω Ω];exact⟨aE j g,λ_=>au λh=>aE Ω (by simpa using h)⟩
open Go
def abM (s:Str)(f:Int)(j:0≤f)(g:s.length<1000000):abN s f=true:=(BU s f j g).some
def TB (s:Str)(f:Int)(g:0≤f)(l:f<s.length)(j:s.length<1000000):Tot (pU s f) λ_=>True:=by
 simp only[pU,y9,ru,tt,il];refine(BU s f g j).mono λr1 J=>?_;have C:=J.2 Ω;have e1:w64 (f+r1)=f+r1:=ar Ω Ω;have e2:w64 (f+r1+1)=f+r1+1:=ar Ω Ω;rw[e1,e2];refine⟨by simp[g];omega,aE g l,au λ_=>(oM _).some,au λh=>aE Ω ?_,au λ_=>abM s _ Ω j,λh=>?_,λ_ _=>(oM _).mono λ_ _=>λ_=>aE g l⟩
 ·simp at h;omega
 ·have r:0<Ml s (f+r1+1):=by
   simp at h;exact h.2
  have hl:f+r1+1<s.length:=by simp at h;exact h.1.1.2
  have P:=BU s (f+r1+1) Ω j;obtain⟨r3,p,T⟩:=P;have e4:Ml s (f+r1+1)=r3:=by unfold Ml;rw[p];rfl
  rw[e4]at r;have R:=T.2 Ω;have U:w64 (f+r1+1+r3)=f+r1+1+r3:=ar Ω Ω;refine⟨r3,p, ?_⟩;simp only[U];refine⟨by simp;omega,aE Ω Ξ,λ_ _=>(oM _).mono λ_ _=>trivial,λ_ _=>(oM _).mono λ_ _=>trivial⟩
def DD (s:Str)(j:Int)(l:s.length<1000000):∀(n:Nat) (f:Int),0≤f→f≤s.length→s.length-f<n→Tot (ww n s j f) λ_=>True
 |0,C,_,r,p=>Ω
 |n+1,f,g,r,p=>by
  show Tot (uk false some (ww n) s j f) _;simp only[uk,tt,il];intro h;have h:f<s.length:=by simpa using h
  refine⟨aE g h,λ_=>⟨aE g h,(fg (yV _)).mono λ_ _=>λ_=>⟨aE g h,au λ_=>aE g h,λ_=>?_⟩⟩⟩;rw[ar Ω Ω];exact DD s j l n (f+1) Ω Ω Ω
def Ap (s:Str)(g:Int)(j:s.length<1000000):∀(n:Nat) (f:Int),0≤f→f≤s.length→s.length-f<n→Tot (sg n s g f) λ_=>True
 |0,C,_,p,l=>Ω
 |n+1,f,r,p,l=>by
  show Tot (qv false some (sg n) s g f) _;simp only[qv,tt,il];refine⟨au λh=>aE r (by simpa using h),λh=>?_⟩;have h:f<s.length:=by simp at h;exact h.1
  rw[ar Ω Ω];exact Ap s g j n (f+1) Ω Ω Ω
def Z0 (s:Str)(f:Int)(l:0≤f)(j:f<s.length)(g:s.length<1000000):Tot (ul s f) λ_=>True:=by
 simp only[ul,EA,tt];refine⟨aE l j,(fg (yV _)).mono λ_ _=>λ_=>⟨λ_=>?_,λ_=>⟨λ_=>?_,λ_=>⟨λ_=>?_,λ_=>?_⟩⟩⟩⟩
 ·rw[ar Ω Ω];exact DD s f g FU (f+1) Ω Ω (by rw[bt];omega)
 ·exact Ap s f g FU f Ω Ω (by rw[bt];omega)
 ·exact(TB s f l j g).mono λ_ _=>trivial
 ·exact(Zg s f l j g).mono λ_ _=>trivial
def DG (s:Str)(j:Int)(J:s.length<1000000)(k:aU ao.den)(g:Int)(l:∀f,g<f→f≤s.length→Tot (k s j f) λ_=>True)(p:ixs s g=35):∀(n:Nat) (f:Int),0≤f→g≤f→f≤s.length→g<s.length→s.length-f<n→Tot (qJ k n s j f) λ_=>True
 |0,R,_,_,r,_,P=>Ω
 |n+1,f,C,ha,r,h5,P=>by
  show Tot (uz false some (qJ k n) k s j f) _;simp only[uz,tt,il];refine⟨au λh=>aE C (by simpa using h),λh=>?_,λh=>?_⟩
  ·have h:f<s.length:=by
    simp at h;exact h.1
   refine⟨aE C h,(fg (yV _)).mono λ_ _=>λ_=>?_⟩;rw[ar Ω Ω];exact DG s j J k g l p n (f+1) Ω Ω Ω h5 Ω
  ·refine l f ?_ r;by_cases e:g=f
   ·subst e;rw[p]at h;simp[h5]at h
   ·omega
def uy (s:Str)(g:Int)(l:s.length<1000000):∀(n:Nat) (f:Int),0≤f→f≤s.length→s.length-f<n→Tot (qL n s g f) λ_=>True
 |0,P,_,r,J=>Ω
 |n+1,f,p,r,J=>by
  show Tot (uA false some (qL n) (qJ (qL n) FU) s g f) _;simp only[uA,tt,il];intro h;have h:f<s.length:=by simpa using h
  refine⟨aE p h,λ_=>?_,λ_=>⟨aE p h,λC=>?_⟩⟩
  ·rw[ar Ω Ω];exact uy s g l n (f+1) Ω Ω Ω
  ·exact DG s g l _ f (λu R j=>uy s g l n u Ω j Ω) (by simpa using C) FU f p Ω r h (by rw[bt];omega)
def aak (s:Str)(f:s.length<1000000):Tot (uB s 0) λ_=>True:=by simp[uB,EC];exact uy s 0 f FU 0 Ω Ω (by rw[bt];omega)
def Cd {s:Str}(h:¬s=[]):(0:Int)<s.length:=by
 cases s with
 |nil=>exact absurd rfl h
 |cons a l=>simp
def IA (s:Str)(f:s.length<1000000):Tot (lT s) λ_=>True:=by
 simp only[lT,Bv,tt];have g:∀{c:Bool},(!(bif decide (s=[])then true else c))=true→(0:Int)<s.length:=λh=>Cd λe=>by simp[e]at h
 refine⟨au λh=>aE Ω (Cd (by simpa using h)),au λh=>aE Ω (g h),λh=>(Z0 s 0 Ω ?_ f).mono λ_ _=>trivial⟩;refine Cd λe=>?_;simp[e]at h
def zj (s:Str)(g:s.length<1000000):∀(n:Nat) (c:Bool) (i:Int),0≤i→i≤s.length→s.length-i<n→Tot (oE n s c i) λ_=>True
 |0,_,p,_,l,j=>Ω
 |n+1,c,i,f,l,j=>by
  show Tot (mc false some (oE n) s c i) _;simp only[mc,jP,md,tt,il];intro h;have h:i<s.length:=by simpa using h
  rw[ar Ω Ω];have r:=λc=>zj s g n c (i+1) Ω Ω Ω;exact⟨aE f h,λ_=>⟨aE f h,λ_=>r _,λ_=>r _⟩,λ_=>⟨aE f h,λ_=>r _,λ_=>r _⟩⟩
def Pn (s:Str)(t:Bool)(f:s.length<1000000):Tot (i7 s t) λ_=>True:=by simp only[i7,vH,tt];exact(aak s f).mono λ_ _=>λ_ _=>zj s f FU false 0 Ω Ω (by rw[bt];omega)
def I5 (k:Int)(s:Str)(f:s.length<1000000):Tot (iA k s) λ_=>True:=by simp[iA,oF,kU,eJ,pp,tt];refine(IA s f).mono λr _=>?_;have:=ajI s;simp[this]
def jN (id:Int):cv id=some (decide (id>1048576)&&decide (id<34603008) && !decide (id.tmod 1048576=0)):=by simp only[cv,rA,GX,Xu];rw[show(!decide ((1048576:Int)=0))=true from rfl,bf];simp[ck,asF]
def tm (id:Int):pX id=true:=by unfold pX;rw[jN];rfl
def zf (s:Str)(g:s.length<1000000):∀(n:Nat) (i:Int),0≤i→i≤s.length→s.length-i<n→Tot (ou n s i) λ_=>True
 |0,p,_,l,j=>Ω
 |n+1,i,f,l,j=>by
  show Tot (l8 false some (ou n) s i) _;simp only[l8,tt,il];intro h;have h:i<s.length:=by simpa using h
  refine⟨aE f h,au λ_=>aE f h,λ_=>?_⟩;rw[ar Ω Ω];exact zf s g n (i+1) Ω Ω Ω
def Pd (s:Str)(f:s.length<1000000):Tot (l9 s) λ_=>True:=by
 simp only[l9,vA,tt,il];refine⟨au λh=>?_,λ_=>zf s f FU 0 Ω Ω (by rw[bt];omega)⟩;rw[ar Ω Ω];have:¬((s.length:Int)<1):=λe=>by simp[e]at h
 exact aE Ω Ω
def MF (v:aW.den)(f:v.2.2.1.length<1000000):Tot (jV v) λ_=>True:=by simp only[jV,rM,tt];exact⟨au λ_=>tm _,au λ_=>by simp[aD],λ_ _=>⟨au λ_=>by simp[aD],au λ_=>by simp[aD],λ_ _=>(I5 _ _ f).mono λ_ _=>trivial⟩⟩
def DO (k f:Int)(v:aW.den)(g:v.2.2.1.length<1000000):Tot (jn k f v) λ_=>True:=by simp only[jn,wT,tt];refine λ_ _ _ _=>⟨λ_=>⟨au λ_=>tm _,λ_ _=>(Pd _ g).mono λ_ _=>trivial⟩,λ_=>⟨λ_=>(IA _ g).mono λ_ _=>trivial,λ_=>⟨λ_=>(MF v g).mono λ_ _=>trivial,λ_ _=>⟨au λ_=>by simp[aD],au λ_=>(Pn _ _ g).some⟩⟩⟩⟩
def TP (k f:Int)(v:aW.den)(g:v.2.2.1.length<1000000):Tot (p9 k f v) λ_=>True:=by simp[p9,zn,tt];exact(DO k f v g).mono λ_ _=>⟨au λ_=>by simp[aD],au λ_=>by simp[aD]⟩
open Go
def TxV (v:Val):Prop:=v.2.2.1.length<1000
def TxC (c:Cel):Prop:=TxV c.2.2.1
def ji {t:Ty}{l:List t.den}(g:0≤i)(f:i<l.length):ix t l i∈l:=by
 have h:i.toNat<l.length:=Ω
 unfold ix;rw[e_,ζ h];exact r_ h
def Qs (a b:Cel):fX a b=some (decide (a.1=b.1)&&decide (a.2.1=b.2.1)):=by simp[fX,oO,GX]
def Ts (a b:Cel):(jv a b).isSome=true:=by simp[jv,BR];cases decide (a.1=b.1) <;> rfl
def Lc (l:List Int)(x:Int)(g:l.length<1000000):∀(n:Nat) (r p:List Int),l=p++r→r.length<n→Ba n l x (p.length:Int)=some (decide (x∈r))
 |0,r,p,_,h=>Ω
 |n+1,r,p,e,h=>by
  subst e;show Bb false some (Ba n) (p++r) x p.length=_;simp only[Bb,s2,il];cases r with
  |nil=>rw[sj (t:=tInt)];simp
  |cons c r=>
   have next:=Lc (p++c::r) x g n r (p++[c]) Ψ (by simp at h;omega)
   rw[←se (t:=tInt) p c (by simp at g;omega)]at next
   rw[pA (t:=tInt),bN (t:=tInt),aE Ω Ξ,next];simp[ck];by_cases f:c=x
   ·simp[f]
   ·have:¬x=c:=λe=>f e.symm;simp[f,this]
def NW (l:List Int)(x:Int)(f:l.length<1000000):sD l x=some (decide (x∈l)):=by simp[sD,NV];exact Lc l x f FU l [] rfl (by rw[bt];omega)
def wQ (l:List Int)(x:Int)(f:l.length<1000000):DK l x=true:=by unfold DK;rw[NW l x f];rfl
def RQ (l:List Int)(x:Int)(f:l.length<1000000):qT l x=decide (x∈l):=by unfold qT;rw[NW l x f];rfl
def KB (l:List Int)(x:Int)(P:l.length<1000000):∀(n:Nat) (t:Int),0≤t→t≤l.length→t<n→Tot (zY n l x t) λr=>r.length≤l.length+1∧∀y,y∈r↔y∈l∨y=x
 |0,t,C,_,h=>Ω
 |n+1,t,C,h1,h=>by
  show Tot (zZ false some (zY n) l x t) _;have p:t>0→bd (w64 (t-1)) l.length=true:=λh=>by rw[ar Ω Ω];exact aE Ω Ω
  simp only[zZ,tt,A?,o_,X_];refine⟨au λh=>p (by simpa using h),λh=>?_,λ_=>?_⟩
  ·have J:t>0:=by simp at h;exact h.1
   refine⟨p J,λg=>⟨Ω,λy=>⟨.inl,λf=>?_⟩⟩,λ_=>?_⟩
   ·obtain f|rfl:=f
    ·exact f
    ·have g:ix tInt l (w64 (t-1))=y:=by simpa using g
     rw[←g];have T:=ar (n:=t-1) Ω Ω;exact ji (t:=tInt) Ω Ω
   ·rw[ar Ω Ω];exact KB l x P n (t-1) Ω Ω Ω
  ·have R:(List.take t.toNat l).length=t.toNat:=by simp;omega
   have j:(decide (0≤t)&&decide (t≤(l.length:Int)))=true:=by simp[C,h1]
   refine⟨j,by simp[lm,LIM];omega,by simp[lm,LIM];omega,j,by simp[lm,LIM];omega,by simp;omega,λy=>?_⟩;have:=W_ t.toNat l;simp only[Q',F'];constructor
   ·rintro((f|f)|f)
    ·exact .inl (Z_ f)
    ·exact .inr f
    ·exact .inl (k? f)
   ·rintro(f|f)
    ·rw[←this,Q']at f;obtain f|f:=f
     ·exact .inl (.inl f)
     ·exact .inr f
    ·exact .inl (.inr f)
def QA (l:List Int)(x:Int)(f:l.length<1000000):Tot (wg l x) λr=>r.length≤l.length+1∧∀y,y∈r↔y∈l∨y=x:=by simp[wg,M5,tt];exact KB l x f FU l.length Ω Ω (by rw[bt];omega)
def GR (l:List Cel)(id:Int)(C:l.length<1000000):∀(n:Nat) (out:List Cel) (i:Int),0≤i→i≤l.length→out.length≤i→(∀c∈out,c∈l)→l.length-i<n→Tot (Ez n l id out i) λr=>r.length≤l.length∧∀c∈r,c∈l
 |0,out,i,p,P,J,j,h=>Ω
 |n+1,out,i,p,P,J,j,h=>by
  show Tot (GS false some (Ez n) l id out i) _;simp only[GS,GT,tt,il];refine⟨λf=>?_,λ_=>⟨Ω,j⟩⟩;have f:i<l.length:=by simpa using f
  rw[ar Ω Ω];refine⟨aE p f,λ_=>⟨aE p f,by simp[lm,LIM];omega,GR l id C n _ _ Ω Ω Ξ (λc g=>?_) Ω⟩,λ_=>GR l id C n _ _ Ω Ω Ω j Ω⟩;obtain g|g:=Q'.1 g
  ·exact j c g
  ·rw[F'.1 g];exact ji p f
def ajl (l:List Cel)(id:Int)(f:l.length<1000000):Tot (GU l id) λr=>r.length≤l.length∧∀c∈r,c∈l:=by simp only[GU,Xn];exact GR l id f FU [] 0 Ω Ω Ψ (λc g=>by cases g) (by rw[bt];omega)
def yZ (l:List Cel)(j:l.length<1000000):∀(n:Nat) (i:Int),0≤i→i≤l.length→l.length-i<n→Tot (nY n l i) λ_=>True
 |0,i,g,C,h=>Ω
 |n+1,i,g,C,h=>by
  show Tot (lX false some (nY n) l i) _;simp only[lX,tt,il];intro f;have f:i<l.length:=by simpa using f
  have p:∀{c:Bool},(c&&decide (i>0))=true→bd (w64 (i-1)) l.length=true:=λh=>by simp at h;rw[ar Ω Ω];exact aE Ω Ω
  refine⟨aE g f,(fg (by rw[jN];rfl)).mono λr _=>⟨au λ_=>aE g f,au λ_=>aE g f,au p,au λ_=>aE g f,au λ_=>Ts _ _,au λ_=>by simp[aD],λ_=>?_⟩⟩;rw[ar Ω Ω];exact yZ l j n (i+1) Ω Ω Ω
def OU (l:List Cel)(f:l.length<1000000):Tot (lY l) λ_=>True:=by simp[lY,vp];exact yZ l f FU 0 Ω Ω (by rw[bt];omega)
def zd (l:List Cel)(g:l.length<1000000):∀(n:Nat) (i:Int),0≤i→i≤l.length→l.length-i<n→Tot (oq n l i) λ_=>True
 |0,i,j,p,h=>Ω
 |n+1,i,j,p,h=>by
  show Tot (l6 false some (oq n) l i) _;simp only[l6,tt,il];refine⟨λf=>?_,λ_=>(OU l g).mono λ_ _=>trivial⟩;have f:i<l.length:=by simpa using f
  rw[ar Ω Ω];exact⟨aE j f,λ_=>zd l g n (i+1) Ω Ω Ω⟩
def Pa (l:List Cel)(f:l.length<1000000):Tot (l7 l) λ_=>True:=by simp[l7,vz];exact zd l f FU 0 Ω Ω (by rw[bt];omega)
def tl (t:Mdl)(id f:Int)(p:t.1.length<1000000):∀(n:Nat) (g j:Int),0≤g→g≤j→j≤t.1.length→j-g<n→Tot (rz n t id f g j) λ_=>True
 |0,g,j,l,J,C,h=>Ω
 |n+1,g,j,l,J,C,h=>by
  show Tot (pW false some (rz n) t id f g j) _;simp only[pW,tt,il];refine⟨λr=>?_,λ_=>⟨au λh=>aE l (by simpa using h),au λ_=>by unfold Ga;rw[Qs];rfl,λh=>aE l ?_⟩⟩
  ·have r:g<j:=by simpa using r
   have U:w64 (g+j)=g+j:=ar Ω Ω;have T:Int.tdiv (g+j) 2=(g+j)/2:=Int.tdiv_eq_ediv_of_nonneg Ω;have R:w64 ((g+j)/2)=(g+j)/2:=ar Ω Ω;have P:w64 ((g+j)/2+1)=(g+j)/2+1:=ar Ω Ω;rw[U,T,R,P];exact⟨by decide,aE Ω Ω,(fg (Ts _ _)).mono λ_ _=>⟨λ_=>tl t id f p n _ _ Ω Ω Ω Ω,λ_=>tl t id f p n _ _ Ω Ω Ω Ω⟩⟩
  ·simp at h;exact h.1
def aei (t:Mdl)(id f:Int)(g:t.1.length<1000000):Tot (Be t id f) λ_=>True:=by simp[Be,NZ,vw,za,tt];exact(tl t id f g FU 0 t.1.length Ω Ω Ω (by rw[bt];omega)).mono λ_ _=>trivial
def yG (t:Mdl)(j:t.1.length<1000000):∀(n:Nat) (l:List Int) (i:Int),0≤i→i≤t.1.length→l.length≤i→t.1.length-i<n→Tot (wO n t l i) λr=>r.length≤t.1.length
 |0,l,i,g,C,p,h=>Ω
 |n+1,l,i,g,C,p,h=>by
  show Tot (uI false some (wO n) t l i) _;simp only[uI,uJ,tt,il];refine⟨λf=>?_,λ_=>Ω⟩;have f:i<t.1.length:=by simpa using f
  rw[ar (n:=i+1) Ω Ω];refine⟨au λ_=>aE g f,au λh=>?_,λ_=>⟨aE g f,by simp[lm,LIM];omega,yG t j n _ _ Ω Ω Ξ Ω⟩,λ_=>yG t j n _ _ Ω Ω Ω Ω⟩;have h:¬i=0:=by simpa using h
  rw[ar Ω Ω];exact aE Ω Ω
def aaH (t:Mdl)(f:t.1.length<1000000):Tot (uK t) λr=>r.length≤t.1.length:=by simp[uK,EK];exact yG t f FU [] 0 Ω Ω Ψ (by rw[bt];omega)
def Ds (t:Mdl)(C:t.1.length<1000000)(p:∀c∈t.1,TxC c):∀(n:Nat) (f:Int) (a b:Bool) (i:Int),0≤i→i≤t.1.length→t.1.length-i<n→Tot (mq n t f a b i) λ_=>True
 |0,f,a,b,i,j,P,h=>Ω
 |n+1,f,a,b,i,j,P,h=>by
  show Tot (qg false some (mq n) t f a b i) _;have l:i<t.1.length→∀f a b,Tot (jc false some (mq n) t i f a b) λ_=>True:=λg f a b=>by
   have J:=p _ (ji (t:=aa) j g);simp only[jc,qh,tt,il];rw[ar (n:=i+1) Ω Ω,ar (n:=(t.1.length:Int)-1) Ω Ω];have r:=λa b=>Ds t C p n f a b (i+1) Ω Ω Ω;refine⟨aE j g,aE j g,(DO _ _ _ (atz J Ω)).mono λ_ _=>λ_=>⟨au λ_=>aE j g,au λ_=>aE j g,au λh=>aE Ω ?_,au λ_=>aE j g,λ_=>⟨au λ_=>by simp[aD],λ_=>r _ _⟩,λ_=>r _ _⟩⟩;have h:¬i=(t.1.length:Int)-1:=by simpa using h
   omega
  simp only[qg,tt,il];intro g;have g:i<t.1.length:=by simpa using g
  refine⟨au λ_=>aE j g,au λh=>?_,λ_=>⟨aE j g,λ_=>⟨aE j g,l g _ _ _⟩⟩,λ_=>l g _ _ _⟩;have h:¬i=0:=by simpa using h
  rw[ar Ω Ω];exact aE Ω Ω
def TZ (t:Mdl)(f:t.1.length<1000000)(g:∀c∈t.1,TxC c):Tot (qi t) λ_=>True:=by simp[qi,zA,tt];exact(Pa _ f).mono λ_ _ _=>Ds t f g FU 0 false false 0 Ω Ω (by rw[bt];omega)
def xH (t:Mdl)(j:t.1.length<1000000)(g f:Int)(p:f≤1000001):∀(n:Nat) (id i:Int),0≤i→i≤1000001→1000001-i<n→Tot (ld n g f t id i) λ_=>True
 |0,id,i,C,r,h=>Ω
 |n+1,id,i,C,r,h=>by
  show Tot (kg false some (ld n) g f t id i) _;simp[kg,tt];intro l;have l:i<f:=by simpa using l
  rw[ar Ω Ω];exact(aei t id 2 j).mono λ_ _ _ _=>xH t j g f p n _ (i+1) Ω Ω Ω
def M2 (t:Mdl)(j:t.1.length<1000000)(id g f:Int)(l:f≤1000001):Tot (g7 t id g f) λ_=>True:=by simp[g7,rW];exact xH t j g f l FU id 0 Ω Ω (by rw[bt];omega)
def sM (t:Mdl)(j:t.1.length<1000000)(id:Int)(r2:List Int)(l:r2.length≤t.1.length):∀(n:Nat) (out:List Int) (i:Int),0≤i→i≤r2.length→out.length≤i→r2.length-i<n→Tot (pf n id r2 t out i) λr=>r.length≤t.1.length
 |0,out,i,g,J,C,h=>Ω
 |n+1,out,i,g,J,C,h=>by
  show Tot (nH false some (pf n) id r2 t out i) _;simp only[nH,nJ,tt,il];refine⟨λf=>?_,λ_=>Ω⟩;have f:i<r2.length:=by simpa using f
  have p:Kz t (ix tInt r2 i) id (w64 ((r2.length:Int)+1))=true:=(M2 t j _ _ _ (by rw[ar Ω Ω];omega)).some;rw[p,ar (n:=i+1) Ω Ω];exact⟨aE g f,au λ_=>aE g f,by simp[aD,bf],λ_=>⟨aE g f,by simp[lm,LIM];omega,sM t j id r2 l n _ _ Ω Ω Ξ Ω⟩,λ_=>sM t j id r2 l n _ _ Ω Ω Ω Ω⟩
def Td (t:Mdl)(f:t.1.length<1000000)(g:∀c∈t.1,TxC c)(id:Int):Tot (nK t id) λr=>r.length≤t.1.length:=by simp only[nK,xd,tt];exact(TZ t f g).mono λ_ _=>⟨au λ_=>tm _,λ_=>by simp,λ_=>(aaH t f).mono λr2 j=>sM t f id r2 j FU [] 0 Ω Ω Ψ (by rw[bt];omega)⟩
