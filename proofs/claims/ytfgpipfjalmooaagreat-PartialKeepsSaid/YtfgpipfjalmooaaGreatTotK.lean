/- Evaluators that always answer. -/
import Derived.Test.YtfgpipfjalmooaaGreatGenH
set_option linter.all false
namespace Go.Proofs.YtfgpipfjalmooaaGreat
namespace Abs
open Go
def Tot {U:Type}(o:Option U)(Q:U→Prop):Prop:=∃r,o=some r∧Q r
section
variable {U β:Type}{P Q:U→Prop}
def NS {r:U}:Tot (some r) Q↔Q r:=⟨λ⟨_,e,h⟩=>by cases e;exact h,λh=>⟨r,rfl,h⟩⟩
def ahh {b:Bool}{k:Option U}:Tot (ck b k) Q↔b=true∧Tot k Q:=by
 cases b
 ·simp[Tot,ck]
 ·simp[ck]
def ad1 {c:Bool}{x y:Option U}:Tot (bif c then x else y) Q↔(c=true→Tot x Q)∧(c=false→Tot y Q):=by cases c <;> simp
variable{k:β→Option U}{o:Option U}
def ahi {g:Bool}{v:β}:Tot (kz g v k) Q↔g=true∧Tot (k v) Q:=by
 cases g
 ·simp[Tot,kz]
 ·simp[kz]
def ZV {x:Option β}:Tot (yn x k) Q↔Tot x λr=>Tot (k r) Q:=by
 cases x
 ·simp[Tot,yn]
 ·simp[yn,NS]
def Tot.mono (h:Tot o P)(k:∀r,P r→Q r):Tot o Q:=let ⟨r,e,h⟩:=h;⟨r,e,k r h⟩
def Tot.and (h:Tot o P)(k:Tot o Q):Tot o λr=>P r∧Q r:=by obtain⟨r,e,h⟩:=h;obtain⟨j,f,g⟩:=k;rw[e]at f;cases f;exact⟨r,e,h,g⟩
def Tot.some (h:Tot o P):o.isSome=true:=by obtain⟨r,e,_⟩:=h;rw[e];rfl
def Tot.getD {o:Option U}(h:Tot o P)(d:U):P (o.getD d):=by obtain⟨r,e,h⟩:=h;rw[e];exact h
def gM (h:o.isSome=true):Tot o λ_=>True:=by
 cases o with
 |none=>cases h
 |some r=>exact⟨r,rfl,apj⟩
end
def tt:(∀{U:Type} {Q:U→Prop} {r:U},Tot (some r) Q↔Q r)∧(∀{U:Type} {Q:U→Prop} {b:Bool} {k:Option U},Tot (ck b k) Q↔b=true∧Tot k Q)∧(∀{U:Type} {Q:U→Prop} {c:Bool} {x y:Option U},Tot (bif c then x else y) Q↔(c=true→Tot x Q)∧(c=false→Tot y Q)) ∧
 (∀{U f:Type} {Q:U→Prop} {g:Bool} {v:f} {k:f→Option U},Tot (kz g v k) Q↔g=true∧Tot (k v) Q)∧(∀{U f:Type} {Q:U→Prop} {x:Option f} {k:f→Option U},Tot (yn x k) Q↔Tot x λr=>Tot (k r) Q) ∧
 (∀{f:Type} (m:Bool) (t:Ty) (e:Option t.den) (k:t.den→Option f),cl m t e k=yn e k)∧(∀{f:Type} (m:Bool) (t:Ty) (g:Bool) (v:t.den) (k:t.den→Option f),ce m t g v k=kz g v k)∧(∀{f:Type} (m:Bool) (t:Ty) (x:t.den) (k:t.den→f),fz m t x k=k x)∧(∀{f:Type} (m:Bool) (x:Nat) (k:Nat→f),fm m x k=k x) ∧
 (∀{f:Type} (m c:Bool) (k:Option f) (l:List Nat),nq m l c k=k)∧(∀{f:Type} (m:Bool) (n:Nat) (c z:Bool) (k:Option f),nm m n c z k=ck (aL c z) k)∧(∀p:Prop,(True∧p)=p)∧(∀p:Prop,(p∧True)=p)∧(∀p:Prop,(p→True)=True) :=
 ⟨NS,ahh,ad1,ahi,ZV,s0,s1,s2,s3,C4,Pl,λp=>true_and p,λp=>T_ p,λp=>implies_true p⟩
def am {a b:Bool}(h:a=true→b=true):aL a b=true:=by cases a <;> cases b <;> simp_all[aL]
def aT:FU=1099511627776:=rfl
def ao {n:Int}(g : -9000000000000000000≤n)(f:n≤9000000000000000000):w64 n=n:=rm Ω Ω
variable{n N:Nat}{i id x f C:Int}{s:Sta}{J:List (List Int)}{U:Type}{out w:List Cel}{v:Val}
def aw (g:0≤i)(f:i<n):bd i n=true:=by simp[bd,g,f]
def YG (c:Int):(ji c).isSome=true:=by simp[ji,wH,s1,C4];rfl
def yO (c:Int):(ff c).isSome=true:=by simp[ff,sV,s1,C4];rfl
def ou (s:Str):Tot (cP s) λ_=>True:=by simp[cP,ot,iz,ju,iy,jt,tt]
def afr (s:Str):Tot (uG s) λ_=>True:=by simp[uG,Ed,wE,AG,wD,AF,tt]
def EF (s:Str)(g:Int)(J:0≤g)(l:s.length<1000000):∀(n:Nat) (f:Int),g≤f→f≤s.length→s.length-f<n→Tot (vu n s g f) λr=>0≤r∧g+r≤s.length
 |0,f,_,C,p=>Ω
 |n+1,f,h2,C,p=>by
  show Tot (tC false some (vu n) s g f) _;simp only[tC,tt,il];refine⟨am λh=>aw Ω (by simpa using h),am λ_=>YG _,λh=>?_,λ_=>?_⟩
  ·have:f<s.length:=by
    by_cases j:f<s.length
    ·exact j
    ·simp[j]at h
   rw[ao Ω Ω];exact EF s g J l n (f+1) Ω Ω Ω
  ·rw[ao Ω Ω];omega
def BJ (s:Str)(f:Int)(g:0≤f)(l:s.length<1000000):Tot (jE s f) λr=>0≤r∧(f≤s.length→f+r≤s.length):=by
 simp only[jE,DG,tt,il];refine⟨am λh=>aw g (by simpa using h),am λh=>aw g (by simp at h;exact h.1),am λ_=>by simp[aC],λ_=>Ω,λh=>?_⟩;have:f<s.length:=by
  by_cases j:f<s.length
  ·exact j
  ·simp[alS.1 j]at h
 exact(EF s f g l FU f Ω Ω (by rw[aT];omega)).mono λr h=>⟨h.1,λ_=>h.2⟩
def Xp (s:Str)(f:Int)(j:0≤f)(g:f<s.length)(l:s.length<1000000):Tot (tR s f) λ_=>True:=by simp only[tR,DO,rJ,vS,rH,vR,tt,il];rw[ao Ω Ω];exact⟨aw j g,λ_=>am λh=>aw Ω (by simpa using h)⟩
abbrev ahk:Ty :=.cons tInt (.cons tInt .unit)
def ZB (s:Str)(f:Int)(j:0≤f)(g:s.length<1000000):ZC s f=true:=(BJ s f j g).some
def Rv (s:Str)(f:Int)(j:0≤f)(p:f<s.length)(l:s.length<1000000):Tot (pH s f) λ_=>True:=by
 simp only[pH,yY,ri,tt,il];refine(BJ s f j l).mono λr1 P=>?_;have J:=P.2 Ω;have e1:w64 (f+r1)=f+r1:=ao Ω Ω;have e2:w64 (f+r1+1)=f+r1+1:=ao Ω Ω;rw[e1,e2];refine⟨by simp[j];omega,aw j p,am λ_=>(ou _).some,am λh=>aw Ω ?_,am λ_=>ZB s _ Ω l,λh=>?_,λ_ _=>(ou _).mono λ_ _=>λ_=>aw j p⟩
 ·simp at h;omega
 ·have C:0<KW s (f+r1+1):=by
   simp at h;exact h.2
  have hl:f+r1+1<s.length:=by simp at h;exact h.1.1.2
  have R:=BJ s (f+r1+1) Ω l;obtain⟨g,r,U⟩:=R;have e4:KW s (f+r1+1)=g:=by unfold KW;rw[r];rfl
  rw[e4]at C;have T:=U.2 Ω;have e5:w64 (f+r1+1+g)=f+r1+1+g:=ao Ω Ω;refine⟨g,r, ?_⟩;simp only[e5];refine⟨by simp;omega,aw Ω Ξ,λ_ _=>(ou _).mono λ_ _=>trivial,λ_ _=>(ou _).mono λ_ _=>trivial⟩
def C5 (s:Str)(j:Int)(l:s.length<1000000):∀(n:Nat) (f:Int),0≤f→f≤s.length→s.length-f<n→Tot (wj n s j f) λ_=>True
 |0,C,_,r,p=>Ω
 |n+1,f,g,r,p=>by
  show Tot (uj false some (wj n) s j f) _;simp only[uj,tt,il];intro h;have h:f<s.length:=by simpa using h
  refine⟨aw g h,λ_=>⟨aw g h,(gM (yO _)).mono λ_ _=>λ_=>⟨aw g h,am λ_=>aw g h,λ_=>?_⟩⟩⟩;rw[ao Ω Ω];exact C5 s j l n (f+1) Ω Ω Ω
def Ah (s:Str)(g:Int)(j:s.length<1000000):∀(n:Nat) (f:Int),0≤f→f≤s.length→s.length-f<n→Tot (se n s g f) λ_=>True
 |0,C,_,p,l=>Ω
 |n+1,f,r,p,l=>by
  show Tot (qk false some (se n) s g f) _;simp only[qk,tt,il];refine⟨am λh=>aw r (by simpa using h),λh=>?_⟩;have h:f<s.length:=by simp at h;exact h.1
  rw[ao Ω Ω];exact Ah s g j n (f+1) Ω Ω Ω
def X0 (s:Str)(f:Int)(l:0≤f)(j:f<s.length)(g:s.length<1000000):Tot (uk s f) λ_=>True:=by
 simp only[uk,D4,tt];refine⟨aw l j,(gM (yO _)).mono λ_ _=>λ_=>⟨λ_=>?_,λ_=>⟨λ_=>?_,λ_=>⟨λ_=>?_,λ_=>?_⟩⟩⟩⟩
 ·rw[ao Ω Ω];exact C5 s f g FU (f+1) Ω Ω (by rw[aT];omega)
 ·exact Ah s f g FU f Ω Ω (by rw[aT];omega)
 ·exact(Rv s f l j g).mono λ_ _=>trivial
 ·exact(Xp s f l j g).mono λ_ _=>trivial
def C9 (s:Str)(j:Int)(J:s.length<1000000)(k:aF ahk.den)(g:Int)(l:∀f,g<f→f≤s.length→Tot (k s j f) λ_=>True)(p:ixs s g=35):∀(n:Nat) (f:Int),0≤f→g≤f→f≤s.length→g<s.length→s.length-f<n→Tot (qC k n s j f) λ_=>True
 |0,R,_,_,r,_,P=>Ω
 |n+1,f,C,ha,r,h5,P=>by
  show Tot (uA false some (qC k n) k s j f) _;simp only[uA,tt,il];refine⟨am λh=>aw C (by simpa using h),λh=>?_,λh=>?_⟩
  ·have h:f<s.length:=by
    simp at h;exact h.1
   refine⟨aw C h,(gM (yO _)).mono λ_ _=>λ_=>?_⟩;rw[ao Ω Ω];exact C9 s j J k g l p n (f+1) Ω Ω Ω h5 Ω
  ·refine l f ?_ r;by_cases e:g=f
   ·subst e;rw[p]at h;simp[h5]at h
   ·omega
def uz (s:Str)(g:Int)(l:s.length<1000000):∀(n:Nat) (f:Int),0≤f→f≤s.length→s.length-f<n→Tot (qD n s g f) λ_=>True
 |0,P,_,r,J=>Ω
 |n+1,f,p,r,J=>by
  show Tot (uB false some (qD n) (qC (qD n) FU) s g f) _;simp only[uB,tt,il];intro h;have h:f<s.length:=by simpa using h
  refine⟨aw p h,λ_=>?_,λ_=>⟨aw p h,λC=>?_⟩⟩
  ·rw[ao Ω Ω];exact uz s g l n (f+1) Ω Ω Ω
  ·exact C9 s g l _ f (λu R j=>uz s g l n u Ω j Ω) (by simpa using C) FU f p Ω r h (by rw[aT];omega)
def Yl (s:Str)(f:s.length<1000000):Tot (uC s 0) λ_=>True:=by simp[uC,Ea];exact uz s 0 f FU 0 Ω Ω (by rw[aT];omega)
def BZ {s:Str}(h:¬s=[]):(0:Int)<s.length:=by
 cases s with
 |nil=>exact absurd rfl h
 |cons a l=>simp
def HF (s:Str)(f:s.length<1000000):Tot (lK s) λ_=>True:=by
 simp only[lK,Bl,tt];have g:∀{c:Bool},(!(bif decide (s=[])then true else c))=true→(0:Int)<s.length:=λh=>BZ λe=>by simp[e]at h
 refine⟨am λh=>aw Ω (BZ (by simpa using h)),am λh=>aw Ω (g h),λh=>(X0 s 0 Ω ?_ f).mono λ_ _=>trivial⟩;refine BZ λe=>?_;simp[e]at h
def zi (s:Str)(g:s.length<1000000):∀(n:Nat) (c:Bool) (i:Int),0≤i→i≤s.length→s.length-i<n→Tot (oe n s c i) λ_=>True
 |0,_,p,_,l,j=>Ω
 |n+1,c,i,f,l,j=>by
  show Tot (lY false some (oe n) s c i) _;simp only[lY,jH,lZ,tt,il];intro h;have h:i<s.length:=by simpa using h
  rw[ao Ω Ω];have r:=λc=>zi s g n c (i+1) Ω Ω Ω;exact⟨aw f h,λ_=>⟨aw f h,λ_=>r _,λ_=>r _⟩,λ_=>⟨aw f h,λ_=>r _,λ_=>r _⟩⟩
def NO (s:Str)(t:Bool)(f:s.length<1000000):Tot (i6 s t) λ_=>True:=by simp only[i6,vF,tt];exact(Yl s f).mono λ_ _=>λ_ _=>zi s f FU false 0 Ω Ω (by rw[aT];omega)
def H9 (k:Int)(s:Str)(f:s.length<1000000):Tot (ir k s) λ_=>True:=by simp[ir,og,kM,dW,pg,tt];refine(HF s f).mono λr _=>?_;have:=afr s;simp[this]
def gK (id:Int):bV id=some (decide (id>1048576)&&decide (id<34603008) && !decide (id.tmod 1048576=0)):=by simp only[bV,rx,C4,Pl];rw[show(!decide ((1048576:Int)=0))=true from rfl,b7];simp[ck,ald]
def tF (id:Int):pM id=true:=by unfold pM;rw[gK];rfl
def zd (s:Str)(g:s.length<1000000):∀(n:Nat) (i:Int),0≤i→i≤s.length→s.length-i<n→Tot (nZ n s i) λ_=>True
 |0,p,_,l,j=>Ω
 |n+1,i,f,l,j=>by
  show Tot (lW false some (nZ n) s i) _;simp only[lW,tt,il];intro h;have h:i<s.length:=by simpa using h
  refine⟨aw f h,am λ_=>aw f h,λ_=>?_⟩;rw[ao Ω Ω];exact zd s g n (i+1) Ω Ω Ω
def NF (s:Str)(f:s.length<1000000):Tot (lX s) λ_=>True:=by
 simp only[lX,vC,tt,il];refine⟨am λh=>?_,λ_=>zd s f FU 0 Ω Ω (by rw[aT];omega)⟩;rw[ao Ω Ω];have:¬((s.length:Int)<1):=λe=>by simp[e]at h
 exact aw Ω Ω
def dO (id:Int):Prop:=1048576<id∧id<34603008∧¬id.tmod 1048576=0
def RfI (x:Int):Prop:=x=0∨dO x
def zf (h:gL id=true):dO id:=by
 have e:gL id=(decide (id>1048576)&&decide (id<34603008) && !decide (id.tmod 1048576=0)):=by unfold gL;rw[gK];rfl
 rw[e]at h;simpa[dO,alX]using h
def Lb (v:aN.den)(p:v.2.2.1.length<1000000):Tot (jM v) λr=>r=true→RfI v.2.2.2.1:=by
 simp only[jM,rK,tt];refine⟨am λ_=>tF _,am λ_=>by simp[aC],λ_ h=>(by cases h),λg=>?_⟩;have f:RfI v.2.2.2.1:=by
  by_cases j:v.2.2.2.1=0
  ·exact .inl j
  ·refine .inr (zf ?_);cases l:gL v.2.2.2.1 with
   |true=>rfl
   |false=>rw[l]at g;simp[j]at g
 exact⟨λ_ _=>f,λ_=>⟨am λ_=>by simp[aC],am λ_=>by simp[aC],λ_ _=>f,λ_=>⟨λ_ _=>f,λ_=>(H9 _ _ p).mono λ_ _ _=>f⟩⟩⟩
def Dj (k f:Int)(v:aN.den)(g:v.2.2.1.length<1000000):Tot (jj k f v) λr=>r=true→RfI v.2.2.2.1:=by
 simp only[jj,wO,tt];have z:∀{a:Int} {s:Str},eqD aN v (a,false,s,0,())=true→RfI v.2.2.2.1:=λh=>.inl (by rw[Mz aN _ _ h]);refine⟨λh _=>z h,λ_=>⟨λ_ h=>(by cases h),λ_=>⟨λ_ h=>z h,λ_=>⟨λ_ h=>z h,λ_=>⟨λ_=>⟨am λ_=>tF _,λ_ h=>(by cases h),λC=>?_⟩,λ_=>⟨λ_=>(HF _ g).mono λ_ _=>⟨λ_ h=>(by cases h),λj=>?_⟩,λ_=>⟨λ_=>Lb v g,λ_=>⟨λ_=>⟨am λ_=>by simp[aC],am λ_=>(NO _ _ g).some,λh=>?_⟩,λ_ h=>(by cases h)⟩⟩⟩⟩⟩⟩⟩⟩
 ·have p:RfI v.2.2.2.1 :=.inr (zf (by
   cases l:gL v.2.2.2.1 with
   |true=>rfl
   |false=>rw[l]at C;simp at C))
  exact⟨λ_=>(NF _ g).mono λ_ _ _=>p,λ_ _=>p⟩
 ·have j:=z (by simpa using j);exact⟨λ_ _=>j,λ_ _=>j⟩
 ·refine z (a:=0) (s:=v.2.2.1) ?_;cases l:eqD aN v (0,false,v.2.2.1,0,())with
  |true=>rfl
  |false=>rw[l]at h;cases h
def RL (k f:Int)(v:aN.den)(g:v.2.2.1.length<1000000):Tot (pT k f v) λr=>r=true→RfI v.2.2.2.1:=by simp[pT,zn,tt];exact(Dj k f v g).mono λ_ j=>⟨am λ_=>by simp[aC],am λ_=>by simp[aC],λh _=>j h⟩
def TxV (v:Val):Prop:=v.2.2.1.length<1000
def TxC (c:Cel):Prop:=TxV c.2.2.1
def gF {t:Ty}{l:List t.den}(g:0≤i)(f:i<l.length):ix t l i∈l:=by
 have h:i.toNat<l.length:=Ω
 unfold ix;rw[π,ε h];exact a_ h
def OL (a b:Cel):fy a b=some (decide (a.1=b.1)&&decide (a.2.1=b.2.1)):=by simp[fy,oA,C4]
def Ro (a b:Cel):(jp a b).isSome=true:=by simp[jp,BF];cases decide (a.1=b.1) <;> rfl
def JT (l:List Int)(x:Int)(g:l.length<1000000):∀(n:Nat) (r p:List Int),l=p++r→r.length<n→AQ n l x (p.length:Int)=some (decide (x∈r))
 |0,r,p,_,h=>Ω
 |n+1,r,p,e,h=>by
  subst e;show AR false some (AQ n) (p++r) x p.length=_;simp only[AR,s2,il];cases r with
  |nil=>rw[To (t:=tInt)];simp
  |cons c r=>
   have next:=JT (p++c::r) x g n r (p++[c]) Ψ (by simp at h;omega)
   rw[←S6 (t:=tInt) p c (by simp at g;omega)]at next
   rw[L8 (t:=tInt),cg (t:=tInt),aw Ω Ξ,next];simp[ck];by_cases f:c=x
   ·simp[f]
   ·have:¬x=c:=λe=>f e.symm;simp[f,this]
def Eh (l:List Int)(x:Int)(f:l.length<1000000):oR l x=some (decide (x∈l)):=by simp[oR,Mp];exact JT l x f FU l [] rfl (by rw[aT];omega)
def jx (l:List Int)(x:Int)(f:l.length<1000000):tp l x=true:=by unfold tp;rw[Eh l x f];rfl
def iN (l:List Int)(x:Int)(f:l.length<1000000):gZ l x=decide (x∈l):=by unfold gZ;rw[Eh l x f];rfl
abbrev Asc (l:List Int):Prop:=l.Pairwise λa b=>a<b
def aey {l:List Int}{t:Nat}(h:Asc l)(T:t≤l.length)(C:∀q:0<t,l[t-1]'Ω<x)(r:∀y∈l.drop t,x<y):Asc (l.take t++[x]++l.drop t):=by
 have g:∀y∈l.take t,y<x:=λy J=>by
  obtain⟨j,R,rfl⟩:=A_.1 J;have P:j<t:=by simp at R;omega
  rw[akE];by_cases e:j=t-1
  ·subst e;exact C Ω
  ·exact al6 (x_.1 h j (t-1) Ω Ω Ω) (C Ω)
 rw[D_];refine s_.2 ⟨h.sublist (ak1 ..),m_.2 ⟨r,h.sublist (List.drop_sublist ..)⟩,λa p b f=>?_⟩;obtain rfl|f:=J'.1 f
 ·exact g a p
 ·exact al6 (g a p) (r b f)
def Jm (l:List Int)(x:Int)(hs:l.length<1000000):∀(n:Nat) (t:Int),0≤t→t≤l.length→t<n→(∀y∈l.drop t.toNat,x<y)→Tot (zQ n l x t) λr=>r.length≤l.length+1∧(∀y,y∈r↔y∈l∨y=x)∧(Asc l→Asc r)
 |0,t,U,_,h,_=>Ω
 |n+1,t,U,C,h,R=>by
  show Tot (zR false some (zQ n) l x t) _;have T:t>0→bd (w64 (t-1)) l.length=true:=λh=>by rw[ao Ω Ω];exact aw Ω Ω
  simp only[zR,tt,akk,t_,S_];refine⟨am λh=>T (by simpa using h),λh=>?_,λ_=>?_⟩
  ·have J:t>0:=by simp at h;exact h.1
   refine⟨T J,λp=>⟨Ω,λy=>⟨.inl,λf=>?_⟩,λf=>f⟩,λg=>?_⟩
   ·obtain f|rfl:=f
    ·exact f
    ·have p:ix tInt l (w64 (t-1))=y:=by simpa using p
     rw[←p];have hi:=ao (n:=t-1) Ω Ω;exact gF (t:=tInt) Ω Ω
   ·have ew:w64 (t-1)=t-1:=ao Ω Ω;have eq:∀q:(t-1).toNat<l.length,ix tInt l (t-1)=l[(t-1).toNat]:=λq=>by unfold ix;rw[π,ε q];rfl
    rw[ew]at g h⊢;refine Jm l x hs n (t-1) Ω Ω Ω λy f=>?_;have j:(t-1).toNat<l.length:=Ω
    rw[akY j,show(t-1).toNat+1=t.toNat by omega]at f;obtain rfl|f:=J'.1 f
    ·rw[eq j]at g h;have C:x≤l[(t-1).toNat]:=by
      rw[dt J,O']at h;exact d_ h
     have h2:¬l[(t-1).toNat]=x:=C? g;exact alj.2 ⟨C,λe=>h2 e.symm⟩
    ·exact R y f
  next hstop=>
   have hl:(List.take t.toNat l).length=t.toNat:=by simp;omega
   have P:(decide (0≤t)&&decide (t≤(l.length:Int)))=true:=by simp[U,C]
   refine⟨P,by simp[lm,LIM];omega,by simp[lm,LIM];omega,P,by simp[lm,LIM];omega,by simp;omega,λy=>?_,λha=>aey ha Ω (λq=>?_) R⟩
   rotate_left
   ·have e:w64 (t-1)=((t.toNat-1:Nat):Int):=by rw[ao Ω Ω];omega
    have eq:ix tInt l ((t.toNat-1:Nat):Int)=l[t.toNat-1]'Ω:=by unfold ix;rw[aly,π,ε Ω];rfl
    rw[dt Ω,O',e,eq]at hstop;exact Int.not_le.1 (C? hstop)
   have:=l? t.toNat l;simp only[χ,ξ];constructor
   ·rintro((f|f)|f)
    ·exact .inl (J? f)
    ·exact .inr f
    ·exact .inl (K? f)
   ·rintro(f|f)
    ·rw[←this,χ]at f;obtain f|f:=f
     ·exact .inl (.inl f)
     ·exact .inr f
    ·exact .inl (.inr f)
def ud (l:List Int)(x:Int)(g:l.length<1000000):Tot (iI l x) λr=>r.length≤l.length+1∧(∀y,y∈r↔y∈l∨y=x)∧(Asc l→Asc r):=by
 simp only[iI,LD,tt];exact Jm l x g FU l.length Ω Ω (by rw[aT];omega) λy f=>by simp at f
def OR (l:List Int)(x:Int)(f:l.length<1000000):Tot (iI l x) λr=>r.length≤l.length+1∧∀y,y∈r↔y∈l∨y=x :=
 (ud l x f).mono λ_ h=>⟨h.1,h.2.1⟩
def Ge (l:List Cel)(id:Int)(C:l.length<1000000):∀(n:Nat) (out:List Cel) (i:Int),0≤i→i≤l.length→out.length≤i→(∀c∈out,c∈l)→l.length-i<n→Tot (D0 n l id out i) λr=>r.length≤l.length∧∀c∈r,c∈l
 |0,out,i,p,P,J,j,h=>Ω
 |n+1,out,i,p,P,J,j,h=>by
  show Tot (Gf false some (D0 n) l id out i) _;simp only[Gf,Gg,tt,il];refine⟨λf=>?_,λ_=>⟨Ω,j⟩⟩;have f:i<l.length:=by simpa using f
  rw[ao Ω Ω];refine⟨aw p f,λ_=>⟨aw p f,by simp[lm,LIM];omega,Ge l id C n _ _ Ω Ω Ξ (λc g=>?_) Ω⟩,λ_=>Ge l id C n _ _ Ω Ω Ω j Ω⟩;obtain g|g:=χ.1 g
  ·exact j c g
  ·rw[ξ.1 g];exact gF p f
def ae1 (l:List Cel)(id:Int)(f:l.length<1000000):Tot (Gi l id) λr=>r.length≤l.length∧∀c∈r,c∈l:=by simp only[Gi,Vd];exact Ge l id f FU [] 0 Ω Ω Ψ (λc g=>by cases g) (by rw[aT];omega)
def yV (l:List Cel)(j:l.length<1000000):∀(n:Nat) (i:Int),0≤i→i≤l.length→l.length-i<n→Tot (nO n l i) λ_=>True
 |0,i,g,C,h=>Ω
 |n+1,i,g,C,h=>by
  show Tot (lQ false some (nO n) l i) _;simp only[lQ,tt,il];intro f;have f:i<l.length:=by simpa using f
  have p:∀{c:Bool},(c&&decide (i>0))=true→bd (w64 (i-1)) l.length=true:=λh=>by simp at h;rw[ao Ω Ω];exact aw Ω Ω
  refine⟨aw g f,(gM (by rw[gK];rfl)).mono λr _=>⟨am λ_=>aw g f,am λ_=>aw g f,am p,am λ_=>aw g f,am λ_=>Ro _ _,am λ_=>by simp[aC],λ_=>?_⟩⟩;rw[ao Ω Ω];exact yV l j n (i+1) Ω Ω Ω
def Nd (l:List Cel)(f:l.length<1000000):Tot (lR l) λ_=>True:=by simp[lR,vn];exact yV l f FU 0 Ω Ω (by rw[aT];omega)
def zb (l:List Cel)(g:l.length<1000000):∀(n:Nat) (i:Int),0≤i→i≤l.length→l.length-i<n→Tot (nX n l i) λ_=>True
 |0,i,j,p,h=>Ω
 |n+1,i,j,p,h=>by
  show Tot (lU false some (nX n) l i) _;simp only[lU,tt,il];refine⟨λf=>?_,λ_=>(Nd l g).mono λ_ _=>trivial⟩;have f:i<l.length:=by simpa using f
  rw[ao Ω Ω];exact⟨aw j f,λ_=>zb l g n (i+1) Ω Ω Ω⟩
def NC (l:List Cel)(f:l.length<1000000):Tot (lV l) λ_=>True:=by simp[lV,vA];exact zb l f FU 0 Ω Ω (by rw[aT];omega)
def tE (t:Mdl)(id f:Int)(p:t.1.length<1000000):∀(n:Nat) (g j:Int),0≤g→g≤j→j≤t.1.length→j-g<n→Tot (ru n t id f g j) λ_=>True
 |0,g,j,l,J,C,h=>Ω
 |n+1,g,j,l,J,C,h=>by
  show Tot (pK false some (ru n) t id f g j) _;simp only[pK,tt,il];refine⟨λr=>?_,λ_=>⟨am λh=>aw l (by simpa using h),am λ_=>by unfold Fy;rw[OL];rfl,λh=>aw l ?_⟩⟩
  ·have r:g<j:=by simpa using r
   have U:w64 (g+j)=g+j:=ao Ω Ω;have T:Int.tdiv (g+j) 2=(g+j)/2:=Int.tdiv_eq_ediv_of_nonneg Ω;have R:w64 ((g+j)/2)=(g+j)/2:=ao Ω Ω;have P:w64 ((g+j)/2+1)=(g+j)/2+1:=ao Ω Ω;rw[U,T,R,P];exact⟨by decide,aw Ω Ω,(gM (Ro _ _)).mono λ_ _=>⟨λ_=>tE t id f p n _ _ Ω Ω Ω Ω,λ_=>tE t id f p n _ _ Ω Ω Ω Ω⟩⟩
  ·simp at h;exact h.1
def ab1 (t:Mdl)(id f:Int)(g:t.1.length<1000000):Tot (AU t id f) λ_=>True:=by simp[AU,Ms,vz,y9,tt];exact(tE t id f g FU 0 t.1.length Ω Ω Ω (by rw[aT];omega)).mono λ_ _=>trivial
def yC (t:Mdl)(j:t.1.length<1000000):∀(n:Nat) (l:List Int) (i:Int),0≤i→i≤t.1.length→l.length≤i→t.1.length-i<n→Tot (wJ n t l i) λr=>r.length≤t.1.length
 |0,l,i,g,C,p,h=>Ω
 |n+1,l,i,g,C,p,h=>by
  show Tot (uH false some (wJ n) t l i) _;simp only[uH,uI,tt,il];refine⟨λf=>?_,λ_=>Ω⟩;have f:i<t.1.length:=by simpa using f
  rw[ao (n:=i+1) Ω Ω];refine⟨am λ_=>aw g f,am λh=>?_,λ_=>⟨aw g f,by simp[lm,LIM];omega,yC t j n _ _ Ω Ω Ξ Ω⟩,λ_=>yC t j n _ _ Ω Ω Ω Ω⟩;have h:¬i=0:=by simpa using h
  rw[ao Ω Ω];exact aw Ω Ω
def YI (t:Mdl)(f:t.1.length<1000000):Tot (uJ t) λr=>r.length≤t.1.length:=by simp[uJ,Eg];exact yC t f FU [] 0 Ω Ω Ψ (by rw[aT];omega)
def CU (t:Mdl)(C:t.1.length<1000000)(p:∀c∈t.1,TxC c):∀(n:Nat) (f:Int) (a b:Bool) (i:Int),0≤i→i≤t.1.length→t.1.length-i<n→Tot (ma n t f a b i) λ_=>True
 |0,f,a,b,i,j,P,h=>Ω
 |n+1,f,a,b,i,j,P,h=>by
  show Tot (pX false some (ma n) t f a b i) _;have l:i<t.1.length→∀f a b,Tot (i9 false some (ma n) t i f a b) λ_=>True:=λg f a b=>by
   have J:=p _ (gF (t:=aa) j g);simp only[i9,pY,tt,il];rw[ao (n:=i+1) Ω Ω,ao (n:=(t.1.length:Int)-1) Ω Ω];have r:=λa b=>CU t C p n f a b (i+1) Ω Ω Ω;refine⟨aw j g,aw j g,(Dj _ _ _ (al2 J Ω)).mono λ_ _=>λ_=>⟨am λ_=>aw j g,am λ_=>aw j g,am λh=>aw Ω ?_,am λ_=>aw j g,λ_=>⟨am λ_=>by simp[aC],λ_=>r _ _⟩,λ_=>r _ _⟩⟩;have h:¬i=(t.1.length:Int)-1:=by simpa using h
   omega
  simp only[pX,tt,il];intro g;have g:i<t.1.length:=by simpa using g
  refine⟨am λ_=>aw j g,am λh=>?_,λ_=>⟨aw j g,λ_=>⟨aw j g,l g _ _ _⟩⟩,λ_=>l g _ _ _⟩;have h:¬i=0:=by simpa using h
  rw[ao Ω Ω];exact aw Ω Ω
def RQ (t:Mdl)(f:t.1.length<1000000)(g:∀c∈t.1,TxC c):Tot (pZ t) λ_=>True:=by simp[pZ,zq,tt];exact(NC _ f).mono λ_ _ _=>CU t f g FU 0 false false 0 Ω Ω (by rw[aT];omega)
def xD (t:Mdl)(j:t.1.length<1000000)(g f:Int)(p:f≤1000001):∀(n:Nat) (id i:Int),0≤i→i≤1000001→1000001-i<n→Tot (kV n g f t id i) λ_=>True
 |0,id,i,C,r,h=>Ω
 |n+1,id,i,C,r,h=>by
  show Tot (jU false some (kV n) g f t id i) _;simp[jU,tt];intro l;have l:i<f:=by simpa using l
  rw[ao Ω Ω];exact(ab1 t id 2 j).mono λ_ _ _ _=>xD t j g f p n _ (i+1) Ω Ω Ω
def LA (t:Mdl)(j:t.1.length<1000000)(id g f:Int)(l:f≤1000001):Tot (gO t id g f) λ_=>True:=by simp[gO,rU];exact xD t j g f l FU id 0 Ω Ω (by rw[aT];omega)
def sU (t:Mdl)(l:t.1.length<1000000)(id:Int)(f:List Int)(p:f.length≤t.1.length):∀(n:Nat) (out:List Int) (i:Int),0≤i→i≤f.length→out.length≤i→f.length-i<n→Tot (oY n id f t out i) λr=>r.length≤t.1.length
 |0,out,i,j,P,J,h=>Ω
 |n+1,out,i,j,P,J,h=>by
  show Tot (nz false some (oY n) id f t out i) _;simp only[nz,nA,tt,il];refine⟨λg=>?_,λ_=>Ω⟩;have g:i<f.length:=by simpa using g
  have C:Jj t (ix tInt f i) id (w64 ((f.length:Int)+1))=true:=(LA t l _ _ _ (by rw[ao Ω Ω];omega)).some;rw[C,ao (n:=i+1) Ω Ω];exact⟨aw j g,am λ_=>aw j g,by simp[aC,b7],λ_=>⟨aw j g,by simp[lm,LIM];omega,sU t l id f p n _ _ Ω Ω Ξ Ω⟩,λ_=>sU t l id f p n _ _ Ω Ω Ω Ω⟩
def Rc (t:Mdl)(f:t.1.length<1000000)(j:∀c∈t.1,TxC c)(id:Int):Tot (nB t id) λr=>r.length≤t.1.length:=by simp only[nB,wW,tt];exact(RQ t f j).mono λ_ _=>⟨am λ_=>tF _,λ_=>by simp,λ_=>(YI t f).mono λg l=>sU t f id g l FU [] 0 Ω Ω Ψ (by rw[aT];omega)⟩
abbrev Com:=tCommit.den
abbrev ws (c:Com):List Cel:=c.2.2.2.2.1
def nK (w:List Cel):Prop:=w.Pairwise λa b=>ahd a.1 a.2.1 b.1 b.2.1=true
def Wr (w:List Cel)(id f:Int):Prop:=∃c∈w,c.1=id∧c.2.1=f
def Chn:Cel→List Cel→Prop
 |_,[]=>True
 |a,b::r=>ahd a.1 a.2.1 b.1 b.2.1=true∧Chn b r
def MT:∀{r:List Cel} {a:Cel},Chn a r→(a::r).Pairwise λa b=>ahd a.1 a.2.1 b.1 b.2.1=true
 |[],a,_=>m_.2 ⟨λ_ h=>by(cases h),List.Pairwise.nil⟩
 |b::r,a,⟨j,l⟩=>by
  have g:=MT l;refine m_.2 ⟨λx f=>?_,g⟩;obtain rfl|f:=J'.1 f
  ·exact j
  ·exact lL j ((m_.1 g).1 x f)
def xG (l:List Cel)(f:l.length<1000000):∀(n:Nat) (r p:List Cel) (a:Cel),l=p++a::r→r.length<n→Tot (iK n l ((p.length:Int)+1)) λb=>b=true→Chn a r
 |0,r,p,a,e,h=>Ω
 |n+1,r,p,a,e,h=>by
  subst e;show Tot (eV false some (iK n) (p++a::r) ((p.length:Int)+1)) _;simp only[eV,tt,il];simp only[N',w_]at f⊢;have P:w64 ((p.length:Int)+1-1)=p.length:=by rw[ao Ω Ω];omega
  cases r with
  |nil=>exact⟨λh=>by simp at h,λ_ _=>trivial⟩
  |cons b r=>
   rw[P];have J:ix aa (p++a::b::r) (p.length:Int)=a:=cg (t:=aa) p a (b::r);have C:ix aa (p++a::b::r) ((p.length:Int)+1)=b:=by have:=cg (t:=aa) (p++[a]) b r;rw[show p++a::b::r=(p++[a])++b::r by simp,show((p.length:Int)+1)=((p++[a]).length:Int)by simp];exact this
   have j:w64 ((p.length:Int)+1+1)=((p++[a]).length:Int)+1:=by rw[ao Ω Ω];simp
   rw[J,C,j];refine⟨λ_=>?_,λh=>?_⟩
   ·refine⟨aw Ω Ξ,aw Ω Ξ,aw Ω Ξ,aw Ω Ξ,λ_ h=>(by cases h),λh=>?_⟩;refine(xG (p++a::b::r) (by simp at f⊢;omega) n r (p++[a]) b Ψ (by simp at h;simp at *;omega)).mono λx g e=>⟨?_,g e⟩;rw[←xd];simpa using h
   ·simp at h;omega
def LN (l:List Cel)(f:l.length<1000000):Tot (jW l) λb=>b=true→nK l:=by
 simp[jW,rZ];cases l with
 |nil =>show Tot (eV false some (iK 1099511627775) [] 1) _;simp only[eV,tt,il];exact⟨λh=>by simp at h,λ_ _=>List.Pairwise.nil⟩
 |cons a r=>exact(xG (a::r) f FU r [] a rfl (by rw[aT];simp at f;omega)).mono λb g e=>MT (g e)
def xn (w:List Cel)(id f:Int)(P:w.length<1000000):∀(n:Nat) (i:Int), -1≤i→i<w.length→i+1<n→(∀k:Nat,i<k→k<w.length→¬((w.getD k (zero aa)).1=id∧(w.getD k (zero aa)).2.1=f))→Tot (fh n w id f i) λr=>r.2.1=true↔Wr w id f
 |0,i,T,p,h,_=>Ω
 |n+1,i,T,p,h,hk=>by
  show Tot (eG false some (fh n) w id f i) _;simp only[eG,tt];refine⟨λg=>?_,λg=>?_⟩
  ·have g:0≤i:=by simpa using g
   refine⟨aw g p,am λ_=>aw g p,λj=>⟨aw g p,λ_=>?_,λ_=>trivial⟩,λj=>?_⟩
   ·simp at j;exact⟨_,gF (t:=aa) g p,j.1,j.2⟩
   ·rw[ao Ω Ω];refine xn w id f P n (i-1) Ω Ω Ω λk R C=>?_;by_cases e:i=k
    ·subst e;simp at j;intro J;exact j J.1 J.2
    ·exact hk k Ω C
  ·have g:¬0≤i:=by simpa using g
   refine⟨λh=>(by cases h),λ⟨c,j,e1,U⟩=>?_⟩;obtain⟨k,l,rfl⟩:=A_.1 j;have:=hk k Ω l;rw[π,ε l]at this;exact absurd ⟨e1,U⟩ this
def hZ (w:List Cel)(id f:Int)(g:w.length<1000000):Tot (cq w id f) λr=>r.2.1=true↔Wr w id f:=by
 simp[cq,lM,tt,il];rw[ao Ω Ω];exact xn w id f g FU _ Ω Ω (by rw[aT];omega) λk l j=>Ω
def yR (w:List Cel)(id f:Int)(p:w.length<1000000):∀(n:Nat) (i:Int), -1≤i→i<w.length→i+1<n→Tot (fh n w id f i) λr=>r.2.1=true→∃c∈w,c.1=id∧c.2.1=f∧c.2.2.1=r.1
 |0,i,C,j,h=>Ω
 |n+1,i,C,j,h=>by
  show Tot (eG false some (fh n) w id f i) _;simp only[eG,tt];refine⟨λg=>?_,λg h=>(by cases h)⟩;have g:0≤i:=by simpa using g
  refine⟨aw g j,am λ_=>aw g j,λl=>⟨aw g j,λ_=>?_⟩,λl=>?_⟩
  ·simp at l;exact⟨_,gF (t:=aa) g j,l.1,l.2,rfl⟩
  ·rw[ao Ω Ω];exact yR w id f p n (i-1) Ω Ω Ω
def H8 (c:Com)(id f:Int)(g:(ws c).length<1000000):Tot (fk c id f) λr=>r=true↔Wr (ws c) id f:=by simp[fk,nP,tt];exact(hZ _ id f g).mono λ_ h=>h
def Dg (l:List Int)(j:l.length<1000000):∀(n:Nat) (i:Int),0≤i→i≤l.length→l.length-i<n→Tot (sD n l i) λ_=>True
 |0,i,g,p,h=>Ω
 |n+1,i,g,p,h=>by
  show Tot (qN false some (sD n) l i) _;simp only[qN,tt,il];intro f;have f:i<l.length:=by simpa using f
  rw[ao (n:=i+1) Ω Ω];refine⟨aw g f,(gM (by rw[gK];rfl)).mono λr _=>⟨am λ_=>aw g f,am λh=>?_,am λ_=>by simp[aC],λ_=>Dg l j n (i+1) Ω Ω Ω⟩⟩;simp at h;rw[ao Ω Ω];exact aw Ω Ω
def G0 (l:List Int)(f:l.length<1000000):Tot (lF l) λ_=>True:=by simp[lF,AK];exact Dg l f FU 0 Ω Ω (by rw[aT];omega)
def zT (c:Com)(l:c.2.2.2.1.length<1000000)(P:Prop)(g:P):∀(n:Nat) (i:Int),0≤i→i≤c.2.2.2.1.length→c.2.2.2.1.length-i<n→Tot (oD n c i) λ_=>P
 |0,i,j,p,h=>Ω
 |n+1,i,j,p,h=>by
  show Tot (my false some (oD n) c i) _;simp only[my,tt,il];refine⟨λf=>?_,λ_=>g⟩;have f:i<c.2.2.2.1.length:=by simpa using f
  rw[ao (n:=i+1) Ω Ω];exact⟨aw j f,am λ_=>aw j f,λ_=>g,λ_=>zT c l P g n (i+1) Ω Ω Ω⟩
def OT (c:Com)(j:c.2.1.length<1000000)(g:c.2.2.1.length<1000000)(p:c.2.2.2.1.length<1000000):Tot (mz c) λr=>r=true→dO c.1:=by
 simp only[mz,v8,tt];have e:bV c.1=some _:=gK c.1;refine⟨_,e,am λ_=>(G0 _ j).some,am λ_=>(G0 _ g).some,am λ_=>jx _ _ j,am λ_=>jx _ _ g,λ_ h=>(by cases h),λh=>?_⟩;have l:dO c.1:=by
  cases f:(decide (c.1>1048576)&&decide (c.1<34603008) && !decide (c.1.tmod 1048576=0))with
  |false=>rw[f]at h;simp at h
  |true=>simpa[dO,alX]using f
 exact(zT c p (dO c.1) l FU 0 Ω Ω (by rw[aT];omega)).mono λ_ h _=>h
def qE (s:Sta)(id:Int)(f:ca s id 1=true):Tot (fZ s id) λ_=>True:=by
 simp only[fZ,Ec,tt,il];refine⟨f,λh=>aw Ω ?_⟩;have h:¬((iU s id 1).length:Int)=0:=by simpa using h
 omega
def PH (s:Sta)(w:List Cel)(id:Int)(g:ca s id 1=true)(f:w.length<1000000):Tot (mJ s w id) λ_=>True:=by simp[mJ,wC,tt];exact(qE s id g).mono λ_ _ _=>(hZ w id 1 f).mono λ_ _=>trivial
def P5 (h:wF f=true):1≤f:=by
 unfold wF at h;simp only[e8,mP,C4,Pl]at h;rw[am λ_=>by simp[aC]]at h;have h:(bif (bif decide (f≥1)then decide (f≤4)else false)then true else(bif decide (f≥8)then decide (f<48)else false))=true:=h;by_cases e:1≤f
 ·exact e
 ·rw[df (p:=f≥1) e,df (p:=f≥8) Ω]at h;cases h
def TH (f:Int):(e8 f).isSome=true:=by simp[e8,mP,C4,Pl];rw[am λ_=>by simp[aC]];rfl
def IdC (x:Cel):Prop:=dO x.1∧RfI x.2.2.1.2.2.2.1∧1≤x.2.1
def Mv (s:Sta)(c:Com)(x:Cel)(C:ca s x.1 1=true)(l:(ws c).length<1000000)(R:TxC x):Tot (km s c x) λr=>r=0→IdC x:=by
 simp only[km,sK,jA,k6,gc,kZ,tt];refine⟨_,gK x.1,am λ_=>TH _,λ_ h=>absurd h Ϛ,λj=>?_⟩;have p:dO x.1:=by
  cases f:(decide (x.1>1048576)&&decide (x.1<34603008) && !decide (x.1.tmod 1048576=0))with
  |false=>rw[f]at j;simp at j
  |true=>simpa[dO,alX]using f
 have J:1≤x.2.1:=P5 (by
  cases f:wF x.2.1 with
  |false=>rw[f]at j;simp at j
  |true=>rfl)
 refine(qE s x.1 C).mono λ_ _=>⟨λ_=>⟨am λ_=>by simp[aC],λ_ h=>absurd h Ϛ,λP=>?_⟩,λ_=>(PH s _ x.1 C l).mono λ_ _=>⟨λ_ h=>absurd h Ϛ,λ_=>(RL _ _ _ (al2 R Ω)).mono λr T=>⟨λ_ h=>absurd h Ϛ,λh _=>⟨p,T (by simpa using h),J⟩⟩⟩⟩;have g:IdC x:=by
  refine⟨p,.inl ?_,J⟩;cases f:eqD aN x.2.2.1 (x.2.2.1.1,false,[],0,())with
  |true=>rw[Mz aN _ _ f]
  |false=>rw[f]at P;simp at P
 exact⟨λ_=>⟨λ_=>(hZ _ _ _ l).mono λ_ _=>⟨λ_ _=>g,λ_ _=>g⟩,λ_=>(hZ _ _ _ l).mono λ_ _=>⟨λ_ _=>g,λ_ _=>g⟩⟩,λ_ _=>g⟩
def AW (s:Sta)(c:Com)(P:∀id,ca s id 1=true)(J:(ws c).length<1000000)(C:∀x∈ws c,TxC x):∀(n:Nat) (i:Int),0≤i→i≤(ws c).length→(ws c).length-i<n→(∀j:Nat,j<i→∀x,(ws c)[j]? = some x→IdC x)→Tot (oT n s c i) λr=>r=0→∀x∈ws c,IdC x
 |0,i,p,h1,h,_=>Ω
 |n+1,i,p,h1,h,hd=>by
  show Tot (nc false some (oT n) s c i) _;simp only[nc,tt,il];refine⟨λf=>?_,λf _ x hm=>?_⟩
  ·have f:i<(ws c).length:=by simpa using f
   rw[ao (n:=i+1) Ω Ω];refine⟨aw p f,(Mv s c _ (P _) J (C _ (gF (t:=aa) p f))).mono λr T=>⟨λl e=>absurd e (by simpa using l),λl=>AW s c P J C n (i+1) Ω Ω Ω λj R x g=>?_⟩⟩;by_cases e:(j:Int)=i
   ·have U:ix aa (ws c) i=x:=by
     show(ws c).getD i.toNat (zero aa)=x;rw[←e,π,aly,g];rfl
    have:=T (by simpa using l);rw[←U];exact this
   ·exact hd j Ω x g
  ·obtain⟨j,R,rfl⟩:=A_.1 hm;have f:¬i<(ws c).length:=by simpa using f
   exact hd j Ω _ (ε R)
def Qp (s:Sta)(c:Com)(C:∀id,ca s id 1=true)(R:c.2.1.length<1000000)(P:c.2.2.1.length<1000000)(J:c.2.2.2.1.length<1000000)(l:(ws c).length<1000000)(p:∀x∈ws c,TxC x):Tot (ng s c) λr=>r=0→dO c.1∧nK (ws c)∧∀x∈ws c,IdC x:=by simp only[ng,wN,tt];refine(OT c R P J).mono λr1 g=>⟨λ_ h=>absurd h Ϛ,λU=>(LN (ws c) l).mono λr2 f=>⟨λ_ h=>absurd h Ϛ,λT=>?_⟩⟩;exact(AW s c C l p FU 0 Ω Ω (by rw[aT];omega) λj hj=>Ω).mono λ_ h e=>⟨g (by simpa using U),f (by simpa using T),h e⟩
def qT (l:List Com)(x:Int):Option Com:=l.find? λc=>decide (c.1=x)
def Dm (l:List Com)(x:Int)(f:l.length<1000000):∀(n:Nat) (r p:List Com),l=p++r→r.length<n→sN n l x (p.length:Int)=some (match qT r x with|some c=>(c,true,())|none=>((0,[],[],[],[],()),false,()))
 |0,r,p,_,h=>Ω
 |n+1,r,p,e,h=>by
  subst e;show qU false some (sN n) (p++r) x p.length=_;simp only[qU,s2,il];cases r with
  |nil=>rw[To (t:=tCommit)];rfl
  |cons c r=>
   have next:=Dm (p++c::r) x f n r (p++[c]) Ψ (by simp at h;omega)
   rw[←S6 (t:=tCommit) p c (by simp at f;omega)]at next
   rw[L8 (t:=tCommit),cg (t:=tCommit),aw Ω Ξ,next];simp[ck,qT];by_cases g:c.1=x
   ·simp[g]
   ·simp[g]
def J6 (l:List Com)(x:Int)(f:l.length<1000000):lH l x=some (match qT l x with|some c=>(c,true,())|none=>((0,[],[],[],[],()),false,())):=by simp[lH,AZ];exact Dm l x f FU l [] rfl (by rw[aT];omega)
def ez (h:n≤4000000000):lm n=true:=by unfold lm LIM;exact b? Ω
def InH (l:List Com)(x:Int):Prop:=∃c∈l,c.1=x
variable{l T:List Com}{c:Com}
def He (h:qT l x=none):¬InH l x:=by rintro⟨c,f,e⟩;unfold qT at h;have:=List.find?_eq_none.1 h c f;simp[e]at this
def aR (l:List Com)(r:List Int):Prop:=∀x∈r,∀c,qT l x=some c→∀p∈c.2.1,InH l p→p∈r
def cJ:List Com→List Int→Nat
 |[],_=>0
 |c::l,out=>(if c.1∈out then 0 else c.2.1.length)+cJ l out
def Jf {out f:List Int}(h:∀y∈out,y∈f):∀l,cJ l f≤cJ l out
 |[]=>ζ _
 |c::l=>by
  have:=Jf h l;simp[cJ];by_cases g:c.1∈out
  ·simp[g,h _ g];omega
  ·by_cases j:c.1∈f <;> simp[g,j] <;> omega
def Je {out f:List Int}{x:Int}(g:x∈f)(j:¬x∈out)(h:∀y∈out,y∈f):∀{l:List Com} {c:Com},qT l x=some c→cJ l f+c.2.1.length≤cJ l out
 |[],c,hc=>by simp[qT]at hc
 |d::l,c,hc=>by
  by_cases e:d.1=x
  ·have:d=c:=by simpa[qT,e]using hc
   subst this;have:=Jf h l;rw[←e]at g j;simp[cJ,g,j];omega
  ·have p:qT l x=some c:=by simpa[qT,e]using hc
   have:=Je g j h p;simp[cJ];by_cases r:d.1∈out
   ·simp[r,h _ r];omega
   ·by_cases C:d.1∈f <;> simp[r,C] <;> omega
def adU (l:List Com)(f r:List Int):Prop:=(∀x∈f,InH l x→x∈r)∧aR l r
def w7 (l:List Com)(T:List Int)(B:Nat)(hB:B<100000)(hs:l.length<1000000):∀(n:Nat) (out:List Int) (g:Nat) (f:List Int),g≤f.length→g+cJ l out<n→out.length+g+cJ l out≤B →
  (∀x∈T,InH l x→x∈out∨x∈f.take g)→(∀x∈out,∀c,qT l x=some c→∀p∈c.2.1,InH l p→p∈out∨p∈f.take g)→Tot (Bw n l out g f) λr=>r.length≤B∧adU l T r
 |0,out,g,f,h1,h2,h3,h4,h5=>Ω
 |n+1,out,g,f,h1,h2,h3,h4,h5=>by
  show Tot (Bx false some (Bw n) l out g f) _;simp only[Bx,tt,ni];refine⟨λJ=>?_,λJ=>?_⟩
  ·have J:0<g:=by simpa using J
   have e0:w64 ((g:Int)-1)=(g:Int)-1:=ao Ω Ω;have e1:((g:Int)-1).toNat=g-1:=Ω
   rw[e0,e1,b_];obtain⟨k,rfl⟩:∃k,g=k+1:=⟨g-1,Ω⟩;rw[show k+1-1=k from rfl];have hk:k<f.length:=Ω
   have e2:f.getD k (zero tInt)=f[k]:=by rw[π,ε hk];rfl
   rw[e2];have j:∀y,y∈f.take (k+1)↔y∈f.take k∨y=f[k]:=λy=>by rw[Z' hk,χ,ξ]
   generalize hx:f[k]=x at *;refine⟨by simp;omega,by simp;omega,_,J6 l x hs,am λ_=>jx _ _ Ω, ?_⟩;rw[iN _ _ Ω];cases hf:qT l x with
   |none=>
    refine⟨λ_=>w7 l T B hB hs n out k f Ω Ω Ω (λy C g=>?_) (λy C c hc p J g=>?_),λh=>by simp at h⟩
    ·obtain h|h:=h4 y C g
     ·exact .inl h
     ·rcases(j y).1 h with h|rfl
      ·exact .inr h
      ·exact absurd g (He hf)
    ·obtain h|h:=h5 y C c hc p J g
     ·exact .inl h
     ·rcases(j p).1 h with h|rfl
      ·exact .inr h
      ·exact absurd g (He hf)
   |some c=>
    dsimp only;refine⟨λh=>?_,λh=>?_⟩
    ·have hin:x∈out:=by simpa using h
     refine w7 l T B hB hs n out k f Ω Ω Ω (λy C g=>?_) (λy C c hc p J g=>?_)
     ·obtain h|h:=h4 y C g
      ·exact .inl h
      ·rcases(j y).1 h with h|rfl
       ·exact .inr h
       ·exact .inl hin
     ·obtain h|h:=h5 y C c hc p J g
      ·exact .inl h
      ·rcases(j p).1 h with h|rfl
       ·exact .inr h
       ·exact .inl hin
    ·have hni:¬x∈out:=by simpa using h
     refine(OR out x Ω).mono λr2 R=>?_;have P:∀y∈out,y∈r2:=λy C=>(R.2 y).2 (.inl C);have hrest:=Je ((R.2 x).2 (.inr rfl)) hni P hf;have U:(f.take k++c.2.1).take (k+c.2.1.length)=f.take k++c.2.1:=by apply J_;simp;omega
     refine⟨ez Ω,w7 l T B hB hs n r2 _ _ Ξ Ω Ω (λy C g=>?_) (λy C d hd p J g=>?_)⟩
     ·rw[U,χ];obtain h|h:=h4 y C g
      ·exact .inl (P y h)
      ·rcases(j y).1 h with h|rfl
       ·exact .inr (.inl h)
       ·exact .inl ((R.2 _).2 (.inr rfl))
     ·rw[U,χ];rcases(R.2 y).1 C with C|rfl
      ·obtain h|h:=h5 y C d hd p J g
       ·exact .inl (P p h)
       ·rcases(j p).1 h with h|rfl
        ·exact .inr (.inl h)
        ·exact .inl ((R.2 _).2 (.inr rfl))
      ·rw[hf]at hd;cases hd;exact .inr (.inr J)
  ·have J:g=0:=by simpa using J
   subst J;refine⟨Ω,λx hx g=>?_,λx hx c hc p J g=>?_⟩
   ·obtain h|h:=h4 x hx g
    ·exact h
    ·simp at h
   ·obtain h|h:=h5 x hx c hc p J g
    ·exact h
    ·simp at h
def Few (l:List Com):Prop:=l.length≤20∧∀c∈l,c.2.1.length≤4
def U1:∀(l:List Com),(∀c∈l,c.2.1.length≤4)→∀out,cJ l out≤4*l.length
 |[],_,_=>ζ _
 |c::l,h,out=>by have:=U1 l (λd f=>h d (K' _ f)) out;have:=h c (S' ..);simp[cJ];split <;> omega
def HU (l:List Com)(f:List Int)(j:Few l)(p:f.length≤1000):Tot (pa l f) λr=>r.length≤2000∧adU l f r:=by simp only[pa,M2,tt,List.take_nil,t_,b_];have J:=U1 l j.2 [];have C:=j.1;refine⟨ez Ω,w7 l f 2000 Ω Ω FU [] f.length f Ω (by rw[aT];omega) Ξ (λx g _=>.inr (by simpa using g)) (λx g=>by cases g)⟩
def Rg (l:List Com)(a b:Int)(f:Few l):Tot (nD l a b) λ_=>True:=by simp[nD,wY,tt];have h:=HU l [b] f Ψ;exact⟨am λ_=>h.some,am λ_=>jx _ _ (D? (h.getD []).1 Ω)⟩
def CN (l:List Com)(f:List Int)(R:Few l)(p:f.length≤1000)(k:aI (List Int))(out:List Int)(i:Int)(P:0≤i)(J:i<f.length)(U:out.length≤i)(C:∀out:List Int,out.length≤i+1→Tot (k l f out (i+1)) λr=>r.length≤f.length):∀(n:Nat) (ok:Bool) (j:Int),0≤j→j≤f.length→f.length-j<n→Tot (pP k n l f out i ok j) λr=>r.length≤f.length
 |0,ok,j,T,h3,h=>Ω
 |n+1,ok,j,T,h3,h=>by
  show Tot (tJ false some (pP k n) k l f out i ok j) _;simp only[tJ,pR,pS,tt,il];rw[ao (n:=i+1) Ω Ω];refine⟨λg=>?_,λ_=>⟨λ_=>⟨aw P J,(OR out _ Ω).mono λr hr=>C r Ω⟩,λ_=>C out Ω⟩⟩;have g:j<f.length:=by simp at g;exact g.2
  rw[ao (n:=j+1) Ω Ω];have r:=λok=>CN l f R p k out i P J U C n ok (j+1) Ω Ω Ω;exact⟨aw P J,aw T g,(Rg l _ _ R).mono λ_ _=>⟨λ_=>r _,λ_=>r _⟩⟩
def CO (l:List Com)(f:List Int)(p:Few l)(g:f.length≤1000):∀(n:Nat) (out:List Int) (i:Int),0≤i→i≤f.length→out.length≤i→f.length-i<n→Tot (vI n l f out i) λr=>r.length≤f.length
 |0,out,i,C,P,J,h=>Ω
 |n+1,out,i,C,P,J,h=>by
  show Tot (tK false some (pP (vI n) FU) l f out i) _;simp only[tK,tt,il];refine⟨λj=>?_,λ_=>Ω⟩;have j:i<f.length:=by simpa using j
  refine⟨aw C j,_,J6 l _ (by have:=p.1;omega), ?_⟩;exact CN l f p g _ out i C j J (λout R=>CO l f p g n out (i+1) Ω Ω Ω Ω) FU _ 0 Ω Ω (by rw[aT];omega)
def WU (l:List Com)(f:List Int)(j:Few l)(g:f.length≤1000):Tot (tL l f) λr=>r.length≤f.length:=by simp[tL,DJ];exact CO l f j g FU [] 0 Ω Ω Ψ (by rw[aT];omega)
def AM (l:List Com)(p:Few l)(k:dL (List Int))(out:List Int)(i:Int)(P:0≤i)(J:i<l.length)(R:out.length≤i)(g:∀out:List Int,out.length≤i+1→Tot (k l out (i+1)) λr=>r.length≤l.length):∀(n:Nat) (head:Bool) (j:Int),0≤j→j≤l.length→l.length-j<n→Tot (mW k n l out i head j) λr=>r.length≤l.length
 |0,ok,j,C,T,h=>Ω
 |n+1,ok,j,C,T,h=>by
  show Tot (qP false some (mW k n) k l out i ok j) _;have:=p.1;simp only[qP,lG,tt,il];rw[ao (n:=i+1) Ω Ω,ao (n:=j+1) Ω Ω];refine⟨λf=>?_,λ_=>⟨λ_=>⟨aw P J,by simp[lm,LIM];omega,g _ Ξ⟩,λ_=>g out Ω⟩⟩;have f:j<l.length:=by simpa using f
  refine⟨am λ_=>aw C f,am λ_=>aw P J,am λ_=>jx _ _ ?_,AM l p k out i P J R g n _ (j+1) Ω Ω Ω⟩;have:=p.2 _ (gF (t:=tCommit) C f);omega
def AN (l:List Com)(g:Few l):∀(n:Nat) (out:List Int) (i:Int),0≤i→i≤l.length→out.length≤i→l.length-i<n→Tot (sH n l out i) λr=>r.length≤l.length
 |0,out,i,p,C,j,h=>Ω
 |n+1,out,i,p,C,j,h=>by
  show Tot (qQ false some (mW (sH n) FU) l out i) _;have:=g.1;simp[qQ,tt,il];refine⟨λf=>?_,λ_=>Ω⟩;have f:i<l.length:=by simpa using f
  exact AM l g _ out i p f j (λout J=>AN l g n out (i+1) Ω Ω Ω Ω) FU _ 0 Ω Ω (by rw[aT];omega)
def TS (l:List Com)(f:Few l):Tot (qR l) λr=>r.length≤l.length:=by have:=f.1;simp[qR,AL];exact AN l f FU [] 0 Ω Ω Ψ (by rw[aT];omega)
def u6 (s:Sta)(id f:Int):iU s id f=[]∨∃x∈s.1,x.1=id∧x.2.1=f∧x.2.2.1=iU s id f:=by
 unfold iU;cases g:nC s id f with
 |nil=>exact .inl rfl
 |cons x r=>
  simp only;split
  next h=>refine .inr ⟨x, ?_,h.1,h.2,rfl⟩;rw[DN s id f,g];simp
  ·exact .inl rfl
def aeh (T:s.1.Pairwise kC)(id f:Int){l:List Alt}(hne:l≠[]):(pj s id f l).1.Pairwise kC∧(pj s id f l).1.length≤s.1.length+1∧∀x∈(pj s id f l).1,(x∈s.1∧¬(x.1=id∧x.2.1=f))∨x=(id,f,l,()):=by
 have hs:=DN s id f;have hp:∀x∈before s id f,ahd x.1 x.2.1 id f=true:=xu _ _;have hh:∀x r,nC s id f=x::r→ahd x.1 x.2.1 id f=false:=uU _ _;have he:l.isEmpty=false:=by cases l with|nil=>exact absurd rfl hne|cons _ _=>rfl
 have C:=T;rw[hs,s_]at C;have R:∀P,P.Pairwise kC→(∀y∈P,y∈s.1∧ahd id f y.1 y.2.1=true)→(before s id f).length+P.length≤s.1.length→(before s id f++[(id,f,l,())]++P).Pairwise kC∧(before s id f++[(id,f,l,())]++P).length≤s.1.length+1∧∀x∈before s id f++[(id,f,l,())]++P,(x∈s.1∧¬(x.1=id∧x.2.1=f))∨x=(id,f,l,()):=by
  intro P k2 U k5;refine⟨?_,by simp;omega,λx j=>?_⟩
  ·rw[D_,s_];refine⟨C.1, ?_,λx j y g=>?_⟩
   ·rw[List.singleton_append,m_];exact⟨λy g=>(U y g).2,k2⟩
   ·obtain g|g:=χ.1 g
    ·rw[ξ.1 g];exact hp x j
    ·exact lL (hp x j) (U y g).2
  ·simp only[χ,ξ]at j;rcases j with(j|j)|j
   ·refine .inl ⟨by rw[hs];exact B_ _ j,λe=>?_⟩;have:=hp x j;rw[e.1,e.2,lj]at this;omega
   ·exact .inr j
   ·refine .inl ⟨(U x j).1,λe=>?_⟩;have:=(U x j).2;rw[e.1,e.2,lj]at this;omega
 have p:(before s id f).length+(nC s id f).length=s.1.length:=by rw[←List.length_append,←hs]
 unfold pj;simp only[he,akX,alf];cases hq:nC s id f with
 |nil=>exact R [] List.Pairwise.nil (λy g=>by cases g) (by rw[hq]at p;simpa using Nat.le_of_eq p)
 |cons x r=>
  rw[hq]at C p;have j:=hh x r hq;have J:∀y∈x::r,y∈s.1:=λy g=>by rw[hs,hq];exact F? _ g
  have hr:=m_.1 C.2.1;by_cases e:x.1=id∧x.2.1=f
  ·simp only[Y0,G' e];refine R r hr.2 (λy g=>⟨J y (K' _ g), ?_⟩) (by simp at p;omega);have:=hr.1 y g;unfold kC at this;rwa[e.1,e.2]at this
  ·simp only[Y0,Θ e];have h1:ahd id f x.1 x.2.1=true:=Wv j e;refine R (x::r) C.2.1 (λy g=>⟨J y g, ?_⟩) Ω;obtain rfl|g:=J'.1 g
   ·exact h1
   ·exact lL h1 (hr.1 y g)
def Alv (T:List Com)(J:List (List Int))(g:Int)(id f:Int):Prop:=∀j<T.length,¬(T.getD j (zero tCommit)).1=g→Wr (ws (T.getD j (zero tCommit))) id f→¬g∈J.getD j []
structure StI (T:List Com)(J:List (List Int))(N:Nat)(s:List Slt):Prop where
 asc:s.Pairwise kC
 len:s.length≤N
 alts:∀x∈s,x.2.2.1≠[]∧x.2.2.1.length≤N
 srt:∀x∈s,x.2.2.1.Pairwise λa b=>a.1<b.1
 txt:∀x∈s,∀a∈x.2.2.1,TxV a.2.1
 src:∀x∈s,∀a∈x.2.2.1,∃c∈T,c.1=a.1∧Wr (ws c) x.1 x.2.1∧Alv T J c.1 x.1 x.2.1
def StI.mono {j :Nat}{s:List Slt}(h:StI T J N s)(g:N≤j):StI T J j s :=
 ⟨h.asc,ν h.len g,λx f=>⟨(h.alts x f).1,ν (h.alts x f).2 g⟩,h.srt,h.txt,h.src⟩
def StI.place {s:List Slt}(h:StI T J N s)(g:N≤1000000)(id f:Int):ca (s,()) id f=true:=by unfold ca agB;rw[η];have:=h.len;exact⟨b? (show s.length≤1048576 by omega),b? h.asc⟩
def StI.stg {s:List Slt}(h:StI T J N s)(j:N≤1000000):stG (s,())=true:=by unfold stG afg;rw[η];have:=h.len;refine⟨b? (show s.length≤1048576 by omega),X'.2 λx f=>?_⟩;have:=h.alts x f;rw[η];refine⟨by cases g:x.2.2.1 with|nil=>exact absurd g this.1|cons _ _=>rfl,b? Ω⟩
structure Rep0 (T:List Com)(J:List (List Int)):Prop where
 few:T.length≤20
 asc:T.Pairwise λa b=>a.1<b.1
 ord:∀c∈T,nK (ws c)
 txt:∀c∈T,∀x∈ws c,TxC x
 wl:∀c∈T,(ws c).length<1000000
 ab:J.length=T.length
 al:∀r∈J,r.length<1000000
def aeF {f wr:List Cel}{w:Cel}(h:nK (f++w::wr)):¬Wr f w.1 w.2.1:=by rintro⟨c,g,l,j⟩;have:=(s_.1 h).2.2 c g w (S' ..);rw[l,j,lj]at this;omega
def OG {T:List Com}{J:List (List Int)}(h0:Rep0 T J){P R:List Com}{c:Com}(hT:T=P++c::R){wp wr:List Cel}{w:Cel}(hw:ws c=wp++w::wr)(k0:bD Sta)(k:bS Sta)(Q:Sta→Prop)(N:Nat)(hN:N≤500000)(b:List Slt)(p:StI T J N b)
  (r:∀x∈b,∀a∈x.2.2.1,a.1≤c.1∧(a.1=c.1→Wr wp x.1 x.2.1))
  (hk:∀b',StI T J (N+1) b'→(∀x∈b',∀a∈x.2.2.1,a.1≤c.1∧(a.1=c.1→Wr (wp++[w]) x.1 x.2.1))→Tot (k T J P.length ((wp.length:Int)+1) b') Q) :
  ∀(n:Nat) (al:Bool) (j:Nat),j≤T.length→T.length-j<n→(al=true→∀j'<j,¬(T.getD j' (zero tCommit)).1=c.1→Wr (ws (T.getD j' (zero tCommit))) w.1 w.2.1→¬c.1∈J.getD j' [])→Tot (iD k0 k n T J P.length wp.length b al j) Q
 |0,al,j,h1,h2,h3=>Ω
 |n+1,al,j,h1,h2,h3=>by
  show Tot (jR false some (iD k0 k n) k T J P.length wp.length b al j) _;have hPi:(P.length:Int)<T.length:=by rw[hT];simp;omega
  have ec:ix tCommit T (P.length:Int)=c:=by rw[hT];exact cg (t:=tCommit) P c R
  have ew:ix aa c.2.2.2.2.1 (wp.length:Int)=w:=by show ix aa (ws c) _=w;rw[hw];exact cg (t:=aa) wp w wr
  have hwl:(ws c).length<1000000:=h0.wl c (by rw[hT];simp);have hwp:wp.length<1000000:=by rw[hw]at hwl;simp at hwl;omega
  have hfew:=h0.few;simp only[jR,dw,tt,il,t_];rw[ec,ew,ao (n:=(wp.length:Int)+1) Ω Ω,ao (n:=(j:Int)+1) Ω Ω];refine⟨λhj=>?_,λhj=>⟨λf=>?_,λ_=>?_⟩⟩
  ·have hja:j<T.length∧al=true:=by
    simp at hj;exact⟨Ω,hj.2⟩
   have hjt:(j:Int)<T.length:=Ω
   have hjn:=hja.1;have etj:ix tCommit T (j:Int)=T.getD j (zero tCommit):=rfl;have eaj:ix (.slice tInt) J (j:Int)=J.getD j []:=rfl;have hmem:T.getD j (zero tCommit)∈T:=gF (t:=tCommit) Ω hjt;have hwr:=H8 (T.getD j (zero tCommit)) w.1 w.2.1 (h0.wl _ hmem);have hal:(J.getD j []).length<1000000:=h0.al _ (by rw[π,ε (by rw[h0.ab];exact hjn)];exact a_ _);rw[etj,eaj,iN _ _ hal];have hG:EA (T.getD j (zero tCommit)) w.1 w.2.1=true:=hwr.some;have hF:eI (T.getD j (zero tCommit)) w.1 w.2.1=true↔Wr (ws (T.getD j (zero tCommit))) w.1 w.2.1:=hwr.getD (zero .bool);refine⟨am λ_=>aw Ω hjt,am λ_=>hG,am λ_=>aw Ω (by rw[h0.ab];omega),am λ_=>aw Ω hPi,am λ_=>jx _ _ hal, ?_⟩;refine OG h0 hT hw k0 k Q N hN b p r hk n _ (j+1) Ω Ω λf j' hj' hne hW=>?_;by_cases e:j'=j
   ·subst e;have hji:¬(j':Int)=P.length:=λe=>hne (by rw[←etj,e,ec]);rw[hF.2 hW]at f;simpa[hji]using f
   ·exact h3 hja.2 j' Ω hne hW
  ·subst f;have hjl:T.length≤j:=by
    by_cases e:j<T.length
    ·simp[show(j:Int)<T.length by omega]at hj
    ·omega
   have halv:Alv T J c.1 w.1 w.2.1:=λj' hj'=>h3 rfl j' Ω;have hpl:=p.place Ω w.1 w.2.1;have hlenA:(iU (b,()) w.1 w.2.1).length≤N:=by
    rcases u6 (b,()) w.1 w.2.1 with e|⟨x,g,_,_,e⟩
    ·rw[e];simp
    ·rw[←e];exact(p.alts x g).2
   have hlt:∀a∈iU (b,()) w.1 w.2.1,a.1<c.1:=λa f=>by
    rcases u6 (b,()) w.1 w.2.1 with e|⟨x,g,e1,e2,e⟩
    ·rw[e]at f;cases f
    ·rw[←e]at f;have h1:=r x g a f;by_cases h2:a.1=c.1
     ·have:=h1.2 h2;rw[e1,e2]at this;exact absurd this (aeF (hw ▸ h0.ord c (by rw[hT];simp)))
     ·exact alj.2 ⟨h1.1,h2⟩
   have C:=aeh p.asc w.1 w.2.1 (s:=(b,())) (l:=iU (b,()) w.1 w.2.1++[(c.1,w.2.2.1,())]) Ψ;have U:∀x∈(pj (b,()) w.1 w.2.1 (iU (b,()) w.1 w.2.1++[(c.1,w.2.2.1,())])).1,x∈b∨x=(w.1,w.2.1,iU (b,()) w.1 w.2.1++[(c.1,w.2.2.1,())],()):=λx g=>(C.2.2 x g).imp (·.1) λf=>f;have hold:∀a∈iU (b,()) w.1 w.2.1,∃x∈b,x.1=w.1∧x.2.1=w.2.1∧a∈x.2.2.1:=λa f=>by
    rcases u6 (b,()) w.1 w.2.1 with e|⟨x,g,e1,e2,e⟩
    ·rw[e]at f;cases f
    ·exact⟨x,g,e1,e2,e ▸ f⟩
   refine⟨hpl,ez Ξ,aw Ω hPi,ez Ξ,hpl,hk _ ⟨C.1,ν C.2.1 (by have:=p.len;simp;omega),λx g=>?_,λx g=>?_,λx g a f=>?_,λx g a f=>?_⟩ λx g a f=>?_⟩
   ·obtain g|rfl:=U x g
    ·exact⟨(p.alts x g).1,Nat.le_succ_of_le (p.alts x g).2⟩
    ·exact⟨Ψ,by simp;omega⟩
   ·obtain g|rfl:=U x g
    ·exact p.srt x g
    ·show(iU (b,()) w.1 w.2.1++[(c.1,w.2.2.1,())]).Pairwise _;rw[s_];refine⟨?_,Ψ,λa f d hd=>?_⟩
     ·rcases u6 (b,()) w.1 w.2.1 with e|⟨x,g,e1,e2,e⟩
      ·rw[e];exact List.Pairwise.nil
      ·rw[←e];exact p.srt x g
     ·rw[ξ.1 hd];exact hlt a f
   ·obtain g|rfl:=U x g
    ·exact p.txt x g a f
    ·obtain f|f:=χ.1 f
     ·obtain⟨y,hy,_,_,h⟩:=hold a f;exact p.txt y hy a h
     ·rw[ξ.1 f];exact h0.txt c (by rw[hT];simp) w (by rw[hw];simp)
   ·obtain g|rfl:=U x g
    ·exact p.src x g a f
    ·obtain f|f:=χ.1 f
     ·obtain⟨y,hy,e1,e2,h⟩:=hold a f;have:=p.src y hy a h;rwa[e1,e2]at this
     ·rw[ξ.1 f];exact⟨c,by rw[hT];simp,rfl,⟨w,by rw[hw];simp,rfl,rfl⟩,halv⟩
   ·obtain g|rfl:=U x g
    ·have:=r x g a f;refine⟨this.1,λe=>?_⟩;obtain⟨d,hd,h⟩:=this.2 e;exact⟨d,B_ _ hd,h⟩
    ·obtain f|f:=χ.1 f
     ·have:=hlt a f;exact⟨al7 this,λe=>absurd e (Int.ne_of_lt this)⟩
     ·rw[ξ.1 f];exact⟨alk _,λ_=>⟨w,Ψ,rfl,rfl⟩⟩
  ·exact hk b (p.mono Ω) λx g a f=>⟨(r x g a f).1,λe=>by
    obtain⟨d,hd,h⟩:=(r x g a f).2 e;exact⟨d,B_ _ hd,h⟩⟩
def bU:List Com→Nat
 |[]=>0
 |c::l=>(ws c).length+bU l
def co (a b:List Com):bU (a++b)=bU a+bU b:=by
 induction a with
 |nil=>simp[bU]
 |cons c a f=>simp[bU,f];omega
def OH {T:List Com}{J:List (List Int)}(C:Rep0 T J){P R:List Com}{c:Com}(j:T=P++c::R)(g:bD Sta)(Q:Sta→Prop)(M:Nat)(hM:M≤500000)(hk:∀p,StI T J M p→(∀x∈p,∀a∈x.2.2.1,a.1≤c.1)→Tot (g T J ((P.length:Int)+1) p) Q) :
  ∀(n:Nat) (wr f:List Cel) (N:Nat) (b:List Slt),ws c=f++wr→wr.length<n→N+wr.length≤M→StI T J N b→(∀x∈b,∀a∈x.2.2.1,a.1≤c.1∧(a.1=c.1→Wr f x.1 x.2.1))→Tot (iF g n T J P.length f.length b) Q
 |0,wr,f,N,b,r,h2,h3,h4,h5=>Ω
 |n+1,wr,f,N,b,r,h2,h3,h4,h5=>by
  show Tot (jS false some (iD g (iF g n) FU) g T J P.length f.length b) _;have hfew:=C.few;have l:(P.length:Int)<T.length:=by rw[j];simp;omega
  have ec:ix tCommit T (P.length:Int)=c:=by rw[j];exact cg (t:=tCommit) P c R
  have hwl:(ws c).length<1000000:=C.wl c (by rw[j];simp);simp only[jS,tt,il];rw[ec,ao (n:=(P.length:Int)+1) Ω Ω];show bd _ _=true∧(decide ((f.length:Int)<((ws c).length:Int))=true→bd _ _=true∧bd (f.length:Int) (ws c).length=true∧_)∧(decide ((f.length:Int)<((ws c).length:Int))=false→_);refine⟨aw Ω l,λh=>⟨aw Ω l,aw Ω (by simpa using h), ?_⟩,λ_=>hk b (h4.mono Ω) λx hx a ha=>(h5 x hx a ha).1⟩;cases wr with
  |nil=>rw[r]at h;simp at h
  |cons w wr =>refine OG C j r g _ Q N Ω b h4 h5 (λp hb' U=>?_) FU true 0 Ω (by rw[aT];omega) (λ_ j' hj'=>Ω);have:=OH C j g Q M hM hk n wr (f++[w]) (N+1) p (by rw[r];simp) (by simp at h2;omega) (by simp at h3;omega) hb' U;simpa using this
def OI {T:List Com}{J:List (List Int)}(j:Rep0 T J)(hM:bU T≤500000):∀(n:Nat) (R P:List Com) (b:List Slt),T=P++R→R.length<n→StI T J (bU P) b→(∀x∈b,∀a∈x.2.2.1,∀d∈R,a.1<d.1)→Tot (iG n T J P.length b) λs=>StI T J (bU T) s.1
 |0,R,P,b,g,h2,h3,h4=>Ω
 |n+1,R,P,b,g,h2,h3,h4=>by
  show Tot (jT false some (iF (iG n) FU) T J P.length b) _;have p:bU P+bU R=bU T:=by rw[g,co]
  simp[jT,tt,il];refine⟨λh=>?_,λ_=>h3.mono Ω⟩;cases R with
  |nil=>rw[g]at h;simp at h
  |cons c R=>
   simp[bU]at p;have hwl:(ws c).length<1000000:=j.wl c (by rw[g];simp);have f:=j.asc;rw[g,s_]at f;have C:=(m_.1 f.2.1).1;refine OH j g _ _ (bU P+(ws c).length) Ω (λb' U r=>?_) FU (ws c) [] (bU P) b rfl (by rw[aT];omega) Ω h3 λx l a ha=>?_
   ·have:=OI j hM n R (P++[c]) b' (by rw[g];simp) (by simp at h2;omega) (by rw[co];simpa[bU]using U) λx l a ha d hd=>Int.lt_of_le_of_lt (r x l a ha) (C d hd);simpa using this
   ·have:=h4 x l a ha c (S' ..);exact⟨al7 this,λe=>absurd e (Int.ne_of_lt this)⟩
def JV (a b:List U)(d:U){j:Nat}(h:j<a.length):(a++b).getD j d=a.getD j d:=by simp[π,E' h]
def JW (a:List U)(x d:U):(a++[x]).getD a.length d=x:=by simp[π]
def ahb (l:List Com):Prop:=∀c∈l,∀d∈l,∀x∈ws c,∀y∈ws d,x.2.1=1→y.2.1=1→x.1=y.1→x.2.2.1.1=y.2.2.1.1
structure H0 (l:List Com):Prop where
 few:l.length≤20
 asc:l.Pairwise λa b=>a.1<b.1
 par:∀c∈l,c.2.1.length≤4
 ord:∀c∈l,nK (ws c)
 txt:∀c∈l,∀x∈ws c,TxC x
 sum:bU l≤500000
 ids:∀c∈l,∀x∈ws c,IdC x
 pic:∀c∈l,c.2.2.1.length≤4
 kc:ahb l
def H0.isFew (h:H0 l):Few l:=⟨h.few,h.par⟩
def jC (h:c∈l):(ws c).length≤bU l:=by
 induction l with
 |nil=>cases h
 |cons d l f=>
  simp[bU];obtain rfl|h:=J'.1 h
  ·omega
  ·have:=f h;omega
def AtP (l:List Com)(s:Sta):Prop:=∃T J,(∀c∈T,c∈l)∧(∀j<T.length,adU l [(T.getD j (zero tCommit)).1] (J.getD j []))∧StI T J (bU l) s.1
def U2 (l:List Com)(hl:H0 l)(only:List Int)(ho:only.length<1000000):∀(n:Nat) (R P T:List Com) (J:List (List Int)),l=P++R→R.length<n→(∀c∈T,c∈P)→(T.Pairwise λa b=>a.1<b.1)→T.length≤P.length→bU T≤bU P→J.length=T.length→(∀j<T.length,adU l [(T.getD j (zero tCommit)).1] (J.getD j []))→(∀r∈J,r.length<1000000)→Tot (jQ n l only T J P.length) (AtP l)
 |0,R,P,T,J,p,h2,_,_,_,_,_,_,_=>Ω
 |n+1,R,P,T,J,p,h2,h3,h4,h5,h6,h7,h8,h9=>by
  show Tot (mt false some (jQ n) (iG FU) l only T J P.length) _;have C:=hl.few;have hws:bU P+bU R=bU l:=by rw[p,co]
  have hsum:=hl.sum;have hP:P.length≤20:=by rw[p]at C;simp at C;omega
  simp only[mt,eU,tt,il];rw[ao (n:=(P.length:Int)+1) Ω Ω];refine⟨λh=>?_,λ_=>?_⟩
  ·cases R with
   |nil=>rw[p]at h;simp at h
   |cons c R=>
    have hPl:(P.length:Int)<l.length:=by simpa using h
    have ec:ix tCommit l (P.length:Int)=c:=by rw[p];exact cg (t:=tCommit) P c R
    have hcl:c∈l:=by rw[p];simp
    have U:=hl.asc;rw[p,s_]at U;have next:∀(T:List Com) (J:List (List Int)),(∀c'∈T,c'∈P++[c])→(T.Pairwise λa b=>a.1<b.1)→T.length≤P.length+1→bU T≤bU (P++[c])→J.length=T.length→(∀j<T.length,adU l [(T.getD j (zero tCommit)).1] (J.getD j []))→(∀r∈J,r.length<1000000)→Tot (jQ n l only T J ((P.length:Int)+1)) (AtP l):=λT J a1 a2 a3 a4 a5 a6 a7=>by have:=U2 l hl only ho n R (P++[c]) T J (by rw[p];simp) (by simp at h2;omega) a1 a2 (by simpa using a3) a4 a5 a6 a7;simpa using this
    rw[ec];refine⟨aw Ω hPl,_,Eh only _ ho,λ_=>⟨aw Ω hPl,ez Ξ,aw Ω hPl,(HU l [c.1] hl.isFew Ψ).mono λr hr=>⟨ez Ξ,next _ _ (λd hd=>?_) ?_ Ξ (by rw[co,co];simp[bU];omega) Ξ (λj hj=>?_) (λr' hr'=>?_)⟩⟩,λ_=>next T J (λd hd=>B_ _ (h3 d hd)) h4 Ω (by rw[co];omega) h7 h8 h9⟩
    ·obtain hd|hd:=χ.1 hd
     ·exact B_ _ (h3 d hd)
     ·exact F? _ hd
    ·rw[s_];exact⟨h4,Ψ,λa ha b hb=>U.2.2 a (h3 a ha) b (by rw[ξ.1 hb];simp)⟩
    ·by_cases e:j<T.length
     ·rw[JV _ _ _ e,JV _ _ _ Ω];exact h8 j e
     ·have e:j=T.length:=by simp at hj;omega
      subst e;rw[JW,←h7,JW];exact hr.2
    ·obtain h|h:=χ.1 hr'
     ·exact h9 r' h
     ·rw[ξ.1 h];have:=hr.1;omega
  ·have g:∀c∈T,c∈l:=λc hc=>by rw[p];exact B_ _ (h3 c hc)
   have h0:Rep0 T J:=⟨Ω,h4,λc hc=>hl.ord c (g c hc),λc hc=>hl.txt c (g c hc),λc hc=>by have:=jC (g c hc);omega,h7,h9⟩;exact(OI h0 Ω FU T [] [] rfl (by rw[aT];omega) ⟨List.Pairwise.nil,Ψ,λx f=>(by cases f),λx f=>(by cases f),λx f=>(by cases f),λx f=>(by cases f)⟩ λx f=>by cases f).mono λs hs=>⟨T,J,g,h8,hs.mono Ω⟩
def OC (l:List Com)(f:H0 l)(only:List Int)(p:only.length<1000000):Tot (mv l only) (AtP l):=by
 have:=f.few;simp[mv,vZ];exact U2 l f only p FU l [] [] [] rfl (by rw[aT];omega) (λc J=>by cases J) List.Pairwise.nil Ψ (by simp[bU]) rfl (λj C=>by simp at C) λr g=>by cases g
def KD (l:List Com)(g:H0 l)(f:List Int)(p:f.length≤1000):Tot (qX l f) (AtP l):=by simp[qX,Ep,tt];exact(HU l f g.isFew p).mono λr j=>(OC l g r (by have:=j.1;omega)).mono λ_ h=>h
def Wl (l:List Com)(f:H0 l):Tot (CB l) (AtP l):=by have:=f.few;simp[CB,Wm,wK,AO,tt];exact(TS l f.isFew).mono λr g=>(KD l f r Ω).mono λ_ h=>h
def bF (x n:Int)(g:1≤n)(f:n≤4000000000):Tot (mod2_ev x n) λr=>0≤r∧r<n:=by
 simp only[mod2_ev,L7,tt];have l:=akt x (show 0<n by omega);have j : -n<x.tmod n:=by have:=akt (-x) (show 0<n by omega);rw[Int.neg_tmod]at this;omega
 refine⟨λh=>by simp at h;omega,λ_=>⟨by simp;omega,by simp;omega, ?_⟩⟩;rw[ao Ω Ω];exact⟨Int.tmod_nonneg _ Ω,akt _ Ω⟩
def gQ (l:List Int)(x:Int)(g:l.length<1000000):Tot (be l x) λr=>r=0∨r∈l:=by
 simp only[be,DW,tt,il];refine⟨λ_=>.inl trivial,λh=>?_⟩;have h:¬(l.length:Int)=0:=by simpa using h
 exact(bF x l.length Ω Ω).mono λr f=>⟨aw f.1 f.2,.inr (gF (t:=tInt) f.1 f.2)⟩
def Sh (s:Str):Prop:=s.length<1000
def vw (k x:Int):Tot (jF k x) Sh:=by simp[jF,DH,tt];refine(bF x 5 Ω Ω).mono λr _=>?_;simp[Sh]
def NR (x:Int):Tot (l6 x) Sh:=by simp[l6,vG,tt];refine(bF x 5 Ω Ω).mono λr _=>?_;simp[Sh]
def GP (x:Int):Tot (sr x) Sh:=by simp only[sr,Md,tt];exact(bF x 26 Ω Ω).mono λr _=>⟨by decide,(bF _ 25 Ω Ω).mono λr _=>by simp[Sh]⟩
structure St1 (s:Sta):Prop where
 asc:s.1.Pairwise kC
 len:s.1.length<1000000
 alts:∀x∈s.1,x.2.2.1≠[]∧x.2.2.1.length<1000000
 txt:∀x∈s.1,∀a∈x.2.2.1,TxV a.2.1
def AtP.st1 (h:AtP l s)(g:H0 l):St1 s:=by obtain⟨T,J,_,_,h⟩:=h;have:=g.sum;exact⟨h.asc,by have:=h.len;omega,λx f=>⟨(h.alts x f).1,by have:=(h.alts x f).2;omega⟩,h.txt⟩
def St1.place (h:St1 s)(id f:Int):ca s id f=true:=by unfold ca agB;rw[η];have:=h.len;exact⟨b? Ω,b? h.asc⟩
def St1.stg (h:St1 s):stG s=true:=by unfold stG afg;rw[η];have:=h.len;refine⟨b? Ω,X'.2 λx f=>?_⟩;have:=h.alts x f;rw[η];refine⟨by cases g:x.2.2.1 with|nil=>exact absurd g this.1|cons _ _=>rfl,b? Ω⟩
def Zw:TxV (0,false,[],0,()):=by simp[TxV]
def XH (h:St1 s)(id f:Int):Tot (fW s id f) TxV:=by
 simp only[fW,DU,tt,il];refine⟨h.place id f,λ_=>Zw,λg=>?_⟩;have g:¬((iU s id f).length:Int)=0:=by simpa using g
 refine⟨aw Ω Ω, ?_⟩;obtain e|⟨x,j,_,_,e⟩:=u6 s id f
 ·rw[e]at g;simp at g
 ·exact h.txt x j _ (by rw[e];exact gF (t:=eL) Ω Ω)
def abf (h:St1 s):(∀c∈(eX s).1,TxC c∧∃x∈s.1,x.1=c.1∧x.2.1=c.2.1)∧(eX s).1.length≤s.1.length:=by
 refine⟨λc g=>?_,X7 s⟩;simp only[eX,l_,v_]at g;obtain⟨x,⟨f,_⟩,rfl⟩:=g;refine⟨?_,x,f,rfl,rfl⟩;show TxV (uQ x);unfold uQ;cases j:x.2.2.1 with
 |nil=>exact Zw
 |cons a r=>exact h.txt x f a (by rw[j];simp)
def np {s:Sta}(h:St1 s)(f:Int):∀(n:Nat) (out:List Int) (i:Int),0≤i→i≤s.1.length→out.length≤i→s.1.length-i<n→Tot (ep n f s out i) λr=>r.length≤s.1.length
 |0,out,i,j,C,p,l=>Ω
 |n+1,out,i,j,C,p,l=>by
  show Tot (dM false some (ep n) f s out i) _;have J:=h.len;simp only[dM,fC,tt,il];refine⟨λg=>?_,λ_=>Ω⟩;have g:i<s.1.length:=by simpa using g
  rw[ao (n:=i+1) Ω Ω];exact⟨aw j g,am λ_=>aw j g,am λ_=>(qE s _ (h.place _ 1)).some,am λ_=>by simp[aC],λ_=>⟨aw j g,ez Ξ,np h f n _ _ Ω Ω Ξ Ω⟩,λ_=>np h f n _ _ Ω Ω Ω Ω⟩
def cU (h:St1 s)(f:Int):Tot (aB s f) λr=>r.length≤s.1.length:=by have g:=h.len;simp[aB,kw];exact np h f FU [] 0 Ω Ω Ψ (by rw[aT];omega)
def Oi (v:Val)(h:St1 s)(x:Int):Tot (eP v s x) TxV:=by
 have l:=h.len;have ent:=λk (Q:Int→Prop) (y:Int) (j:∀r,Q r)=>(cU h k).mono λr g=>(gQ r y Ω).mono λr _=>j r;simp only[eP,vQ,tt];refine⟨λ_=>(bF x 4 Ω Ω).mono λr _=>⟨λ_=>by simp[TxV],λ_=>⟨λ_=>by simp[TxV],λ_=>⟨λ_=>⟨by decide,(vw _ _).mono λt f=>f⟩,λ_=>?_⟩⟩⟩,λ_=>⟨λ_=>(bF x 2 Ω Ω).mono λr _=>⟨λ_=>by simp[TxV],λ_=>by simp[TxV]⟩,λ_=>⟨λ_=>(vw _ _).mono λt f=>f,λ_=>(bF x 6 Ω Ω).mono λr _=>⟨λ_=>by simp[TxV],λ_=>⟨λ_=>by simp[TxV],λ_=>⟨λ_=>?_,λ_=>⟨λ_=>?_,λ_=>⟨λ_=>by simp[TxV],λ_=>by simp[TxV]⟩⟩⟩⟩⟩⟩⟩⟩
 ·exact(cU h 3).mono λr g=>⟨by decide,(gQ r _ Ω).mono λr _=>⟨λ_=>by simp[TxV],λ_=>by simp[TxV]⟩⟩
 ·exact(cU h 4).mono λr g=>⟨by decide,(gQ r _ Ω).mono λr _=>⟨λ_=>by simp[TxV],λ_=>by simp[TxV]⟩⟩
 ·exact(cU h 2).mono λr g=>⟨by decide,(gQ r _ Ω).mono λr _=>⟨λ_=>⟨by decide,(bF _ 3 Ω Ω).mono λ_ _=>by simp[TxV]⟩,λ_=>by simp[TxV]⟩⟩
def Vb {f t j:Nat}{c:Cel}(ho:f≤out.length)(R:nK (out.take f))(ht:t≤f)(p:0<t→ahd (out.getD (t-1) (zero aa)).1 (out.getD (t-1) (zero aa)).2.1 c.1 c.2.1=true)
  (r:∀k,t≤k→k<f→ahd (out.getD k (zero aa)).1 (out.getD k (zero aa)).2.1 c.1 c.2.1=false)
  (hj:(j=t∧¬(t<f∧(out.getD t (zero aa)).1=c.1∧(out.getD t (zero aa)).2.1=c.2.1))∨(j=t+1∧t<f∧(out.getD t (zero aa)).1=c.1∧(out.getD t (zero aa)).2.1=c.2.1)) :
  nK (out.take t++[c]++(out.take f).drop j):=by
 have gd:∀k,k<f→∀h:k<(out.take f).length,(out.take f)[k]=out.getD k (zero aa):=λk J h=>by rw[akE,π,ε Ω];rfl
 have lt:∀a b,a<b→b<f→ahd (out.getD a (zero aa)).1 (out.getD a (zero aa)).2.1 (out.getD b (zero aa)).1 (out.getD b (zero aa)).2.1=true:=λa b h1 T=>by
  have hl:(out.take f).length=f:=by simp;omega
  have:=x_.1 R a b Ω Ω h1;rwa[gd a Ω Ω,gd b T Ω]at this
 have e:out.take t=(out.take f).take t:=by rw[akV];congr 1;omega
 have hl:(out.take f).length=f:=by simp;omega
 rw[e];unfold nK;rw[s_,s_];have p1:∀x∈(out.take f).take t,ahd x.1 x.2.1 c.1 c.2.1=true:=λx l=>by
  obtain⟨k,J,rfl⟩:=A_.1 l;have g:k<t:=by simp at J;omega
  rw[akE,gd k Ω Ω];by_cases P:k=t-1
  ·rw[P];exact p Ω
  ·exact lL (lt k (t-1) Ω Ω) (p Ω)
 have U:∀x∈(out.take f).drop j,ahd c.1 c.2.1 x.1 x.2.1=true:=λx l=>by
  obtain⟨k,J,rfl⟩:=A_.1 l;have g:j+k<f:=by simp at J;omega
  rw[List.getElem_drop,gd (j+k) g Ω];rcases hj with⟨rfl,hn⟩|⟨rfl,h1,T,h3⟩
  ·refine Wv (r _ Ω g) λh=>?_;by_cases h0:k=0
   ·subst h0;exact hn ⟨g,h⟩
   ·have:=lt j (j+k) Ω g;rw[h.1,h.2,r j Ω Ω]at this;cases this
  ·have:=lt t (t+1+k) Ω g;rwa[T,h3]at this
 refine⟨⟨R.sublist (ak1 ..),alY ..,λx l y C=>?_⟩,R.sublist (List.drop_sublist ..),λx l y C=>?_⟩
 ·rw[ξ.1 C];exact p1 x l
 ·obtain l|l:=χ.1 l
  ·exact lL (p1 x l) (U y C)
  ·rw[ξ.1 l];exact U y C
def InW (w:List Cel)(x:Int):Prop:=∃d∈w,d.1=x
def abN {f t j:Nat}{c:Cel}(R:f≤out.length)(P:t≤f)(C:j=t∨(j=t+1∧t<f∧(out.getD t (zero aa)).1=c.1))(x:Int)(h:InW (out.take f) x∨c.1=x):InW (out.take t++[c]++(out.take f).drop j) x:=by
 have l:InW (out.take t++[c]++(out.take f).drop j) c.1:=⟨c,Ψ,rfl⟩;rcases h with⟨d,J,rfl⟩|rfl
 ·obtain⟨k,r,rfl⟩:=A_.1 J;have p:k<f:=by simp at r;omega
  by_cases U:k<t
  ·exact⟨_,B_ _ (B_ _ (A_.2 ⟨k,by simp;omega,Ψ⟩)),rfl⟩
  ·by_cases T:j≤k
   ·refine⟨_,F? _ (A_.2 ⟨k-j,by simp;omega, ?_⟩),rfl⟩;rw[List.getElem_drop];congr 1;omega
   ·obtain e|⟨e,_,g⟩:=C
    ·omega
    ·obtain rfl:k=t:=Ω
     rw[π,ε Ω]at g;rw[akE];have g:(out[k]'Ω).1=c.1:=g;rw[g];exact l
 ·exact l
def E9 (l:List Cel)(hs:l.length<2000000)(k:cr (List Cel))(i:Int)(P:0≤i)(J:i<l.length)(g:Nat)(out:List Cel)(U:g≤out.length)(hb:g<2000000)(hm:∀c∈out.take g,c∈l)(hA:nK (out.take g))(Q:List Cel→Prop)
  (hk:∀(r:Nat) (p:List Cel),r≤g+1→r≤p.length→(∀c∈p.take r,c∈l)→nK (p.take r)→(∀x,InW (out.take g) x∨(ix aa l i).1=x→InW (p.take r) x)→Tot (k l r (i+1) p) Q):∀(n:Nat) (t:Int),0≤t→t≤g→t<n→(∀k:Nat,t.toNat≤k→k<g→ahd (out.getD k (zero aa)).1 (out.getD k (zero aa)).2.1 (ix aa l i).1 (ix aa l i).2.1=false)→Tot (jK k n l i g t out) Q
 |0,t,h2,h3,h,_=>Ω
 |n+1,t,h2,h3,h,hge=>by
  show Tot (mc false some (jK k n) k l i g t out) _;have R:∀j:Int,t≤j→j≤g→nK (out.take t.toNat++[ix aa l i]++(out.take g).drop j.toNat)→(∀x,InW (out.take g) x∨(ix aa l i).1=x→InW (out.take t.toNat++[ix aa l i]++(out.take g).drop j.toNat) x)→Tot (eO false some k l i t g j out) Q:=λj hj1 hj2 T hin=>by
   simp only[eO,mg,tt,b_,t_];rw[ao (n:=i+1) Ω Ω];have e1:(out.take g).length=g:=by simp;omega
   have e2:(out.take t.toNat).length=t.toNat:=by simp;omega
   have e3:List.take (t.toNat+1) (out.take t.toNat++[ix aa l i])=out.take t.toNat++[ix aa l i]:=J_ Ξ;simp only[alD,e1,w_,y?,b_,e3,ni];refine⟨by simp;omega,ez Ω,by simp;omega,aw P J,ez Ω,ez Ω,hk _ _ Ω Ξ (λc f=>?_) (T.sublist (ak1 ..)) λx hx=>by rw[J_ Ξ];exact hin x hx⟩;have f:=J? f;obtain f|f:=χ.1 f
   ·obtain f|f:=χ.1 f
    ·refine hm c ?_;have:out.take t.toNat=(out.take g).take t.toNat:=by rw[akV];congr 1;omega
     rw[this]at f;exact J? f
    ·rw[ξ.1 f];exact gF P J
   ·exact hm c (K? f)
  have hp:t>0→(decide (0≤w64 (t-1))&&decide (w64 (t-1)<(g:Int)))=true:=λh=>by rw[ao Ω Ω];simp;omega
  simp only[mc,tt,ni,b_];refine⟨am λh=>hp (by simpa using h),am λh=>hp (by simpa using h),am λ_=>aw P J,am λ_=>aw P J,by simp[aC],λf=>?_,λC=>⟨am λh=>by simp at h;simp;omega,am λ_=>aw P J,am λh=>?_,am λ_=>aw P J,λf=>?_,λhne=>?_⟩⟩
  ·rw[xd]at f;have ht:t>0:=by simp at f;exact f.1
   rw[dt ht,O',ao (n:=t-1) Ω Ω,show(t-1).toNat=t.toNat-1 by omega]at f;rw[ao Ω Ω];refine E9 l hs k i P J g out U hb hm hA Q hk n (t-1) Ω Ω Ω λk hk1 hk2=>?_;by_cases he:k=t.toNat-1
   ·subst he;simpa using f
   ·exact hge k Ω hk2
  ·simp at h;simp;omega
  all_goals
   have hlt:0<t.toNat→ahd (out.getD (t.toNat-1) (zero aa)).1 (out.getD (t.toNat-1) (zero aa)).2.1 (ix aa l i).1 (ix aa l i).2.1=true:=λht=>by rw[xd,dt Ω,O',ao (n:=t-1) Ω Ω,show(t-1).toNat=t.toNat-1 by omega]at C;simpa using C
  ·have f:(t<(g:Int)∧(out.getD t.toNat (zero aa)).1=(ix aa l i).1)∧(out.getD t.toNat (zero aa)).2.1=(ix aa l i).2.1:=by simpa only[ald,η,Δ]using f
   rw[ao Ω Ω];refine R (t+1) Ω Ω (Vb U hA Ω hlt hge (.inr ⟨Ω,Ω,f.1.2,f.2⟩)) (abN U Ω (.inr ⟨Ω,Ω,f.1.2⟩))
  ·refine R t Ω h3 (Vb U hA Ω hlt hge (.inl ⟨rfl,λh=>?_⟩)) (abN U Ω (.inl rfl));rw[dt Ω,dt h.2.1,dt h.2.2]at hne;cases hne
def Fa (l:List Cel)(P:l.length<2000000):∀(n:Nat) (g:Nat) (i:Int) (out:List Cel),0≤i→i≤l.length→g≤i→g≤out.length→(∀c∈out.take g,c∈l)→nK (out.take g)→(∀c∈l.take i.toNat,InW (out.take g) c.1)→l.length-i<n→Tot (oo n l g i out) λr=>r.length≤l.length∧(∀c∈r,c∈l)∧nK r∧∀c∈l,InW r c.1
 |0,g,i,out,h0,h1,h2,U,J,_,_,h=>Ω
 |n+1,g,i,out,h0,h1,h2,U,J,T,R,h=>by
  show Tot (mf false some (jK (oo n) FU) l g i out) _;simp only[mf,tt,il,ni,akk];refine⟨λf=>?_,λf=>⟨by simp;omega,J,T,λc j=>R c (by rw[J_ (by simp at f;omega)];exact j)⟩⟩;have f:i<l.length:=by simpa using f
  exact E9 l P _ i h0 f g out U Ω J T _ (λC p a1 a2 a3 a4 a5=>Fa l P n C (i+1) p Ω Ω Ω a2 a3 a4 (λc j=>by
   rw[show(i+1).toNat=i.toNat+1 by omega,Z' Ω,χ,ξ]at j;obtain j|rfl:=j
   ·exact a5 _ (.inl (R c j))
   ·exact a5 _ (.inr (by unfold ix;rw[π,ε Ω];rfl))) Ω) FU g Ω Ω (by rw[aT];omega) (λk hk1 hk2=>Ω)
def Ob (l:List Cel)(g:l.length<2000000):Tot (mh l) λr=>r.length≤l.length∧(∀c∈r,c∈l)∧nK r∧∀c∈l,InW r c.1:=by simp only[mh,vO];exact Fa l g FU 0 0 [] Ω Ω Ω Ψ (λc f=>by simp at f) (by simp[nK]) (λc f=>by simp at f) (by rw[aT];omega)
def M7 (m:Mdl)(J:m.1.length≤120000)(id:Int)(r1:List Int)(i:Int)(R:0≤i)(P:i<12)(f:List Cel)(C:f.length≤m.1.length)(r:∀c∈f,c∈m.1)(k:kB (List Cel))(Q:List Cel→Prop)(p:∀out:List Cel,out.length≤(i+1)*120000→(∀c∈out,c∈m.1∧¬c.2.1=1)→Tot (k id r1 m out (i+1)) Q) :
  ∀(n:Nat) (out:List Cel) (t:Int),0≤t→t≤f.length→out.length≤i*120000+t→(∀c∈out,c∈m.1∧¬c.2.1=1)→f.length-t<n→Tot (vd k n id r1 i f m out t) Q
 |0,out,t,l,a1,a2,j,U=>Ω
 |n+1,out,t,l,a1,a2,j,U=>by
  show Tot (Bz false some (vd k n) k id r1 i f m out t) _;simp only[Bz,w9,tt,il];rw[ao (n:=t+1) Ω Ω,ao (n:=i+1) Ω Ω];refine⟨λh=>?_,λ_=>p out Ω j⟩;have h:t<f.length:=by simpa using h
  refine⟨aw l h,λT=>⟨aw l h,ez Ξ,M7 m J id r1 i R P f C r k Q p n _ (t+1) Ω Ω Ξ (λc g=>?_) Ω⟩,λ_=>M7 m J id r1 i R P f C r k Q p n _ (t+1) Ω Ω Ω j Ω⟩;obtain g|g:=χ.1 g
  ·exact j c g
  ·rw[ξ.1 g];exact⟨r _ (gF l h),by simpa using T⟩
def Wt (m:Mdl)(p:m.1.length≤120000)(id:Int)(r1:List Int):∀(n:Nat) (out:List Cel) (i:Int),0≤i→i≤12→out.length≤i*120000→(∀c∈out,c∈m.1∧¬c.2.1=1)→12-i<n→Tot (BA n id r1 m out i) λr=>r.length≤1440000∧∀c∈r,c∈m.1∧¬c.2.1=1
 |0,out,i,j,T,R,g,h=>Ω
 |n+1,out,i,j,T,R,g,h=>by
  show Tot (BB false some (vd (BA n) FU) id r1 m out i) _;simp only[BB,tt,il];refine⟨λf=>?_,λ_=>⟨Ω,g⟩⟩;have f:i<(([id]++r1).length:Int)∧i<12:=by simp at f;exact f
  refine⟨aw j f.1,(ae1 m.1 _ Ω).mono λC l=>?_⟩;exact M7 m p id r1 i j f.2 C l.1 l.2 _ _ (λout J P=>Wt m p id r1 n out (i+1) Ω Ω J P Ω) FU out 0 Ω Ω Ω g (by rw[aT];omega)
def adK (m:Mdl)(g:m.1.length≤120000)(f:∀c∈m.1,TxC c)(id:Int):Tot (pd m id) λr=>r.length≤1440000∧∀c∈r,c∈m.1∧¬c.2.1=1:=by simp only[pd,M6,tt];exact(Rc m Ω f id).mono λr1 l=>⟨ez Ξ,Wt m g id r1 FU [] 0 Ω Ω Ψ (λc j=>by cases j) (by rw[aT];omega)⟩
def tX (p:Int→Int→Prop)(f:Nat)(J:f<2000000):∀(n:Nat) (i:Int) (out:List Cel),0≤i→i≤f→out.length=f→(∀c∈out,TxC c∧p c.1 c.2.1)→f-i<n→Tot (kR n f i out) λr=>r.length≤f∧∀c∈r,TxC c∧p c.1 c.2.1
 |0,i,out,T,R,P,l,h=>Ω
 |n+1,i,out,T,R,P,l,h=>by
  show Tot (jO false some (kR n) f i out) _;simp only[jO,jP,tt,ni,b_,akk];rw[ao (n:=i+1) Ω Ω];refine⟨λg=>?_,λ_=>⟨by simp;omega,λc g=>l c (J? g)⟩⟩;have g:i<f:=by simpa using g
  have C:(decide (0≤i)&&decide (i<(f:Int)))=true:=by simp;omega
  refine⟨C,λ_=>⟨C,tX p f J n (i+1) _ Ω Ω Ξ (λc g=>?_) Ω⟩,λ_=>tX p f J n (i+1) _ Ω Ω P l Ω⟩;obtain g|rfl:=List.mem_or_eq_of_mem_set g
  ·exact l c g
  ·have j:out.getD i.toNat (zero aa)∈out:=by
    rw[π,ε Ω];exact a_ _
   exact⟨Zw,(l _ j).2⟩
def Lo (f:Int→Int→Prop)(l:List Cel)(g:l.length<2000000)(h:∀c∈l,TxC c∧f c.1 c.2.1):Tot (eT l) λr=>r.length≤l.length∧∀c∈r,TxC c∧f c.1 c.2.1:=by simp only[eT,rO,tt,b_,List.take_nil,t_];exact⟨ez Ω,tX f l.length g FU 0 l Ω Ω rfl h (by rw[aT];omega)⟩
def aW (x:Int):Int:=x.fdiv 1048576
def aan (x:Int):Xq .i64 x 20=aW x:=rfl
def zt {s:Int}:aW x=s↔s*1048576≤x∧x<(s+1)*1048576:=by unfold aW;rw[Int.fdiv_eq_ediv_of_nonneg _ Ω];omega
def Th (x y:Int):x≤ut x y∧y≤ut x y∧(ut x y=x∨ut x y=y):=by unfold ut;split <;> omega
def Gr (l:List Com)(s:Int)(hl:l.length≤100)(P:List Com)(c:Com)(R:List Com)(T:l=P++c::R)(hw:(ws c).length<1000000)(r:Int)(k:dh Int)(Q:Int→Prop)(hk:∀x,aW x=s→r≤x→(∀y∈ws c,aW y.1=s→y.1≤x)→Tot (k l s x ((P.length:Int)+1)) Q):∀(n:Nat) (x t:Int),aW x=s→r≤x→0≤t→t≤(ws c).length→(∀y∈(ws c).take t.toNat,aW y.1=s→y.1≤x)→(ws c).length-t<n→Tot (lz k n l s P.length x t) Q
 |0,x,t,a0,U,a2,a3,_,h=>Ω
 |n+1,x,t,a0,U,a2,a3,a4,h=>by
  show Tot (ul false some (lz k n) k l s P.length x t) _;have j:(P.length:Int)<l.length:=by rw[T];simp;omega
  have ec:ix tCommit l (P.length:Int)=c:=by rw[T];exact cg (t:=tCommit) P c R
  simp only[ul,qp,uo,tt,il,aan];rw[ec,ao (n:=t+1) Ω Ω,ao (n:=(P.length:Int)+1) Ω Ω];show bd _ _=true∧(decide (t<((ws c).length:Int))=true→bd _ _=true∧bd t (ws c).length=true∧_∧(decide (aW (ix aa (ws c) t).1=s)=true→bd _ _=true∧bd t (ws c).length=true∧_)∧_)∧_;refine⟨aw Ω j,λg=>?_,λg=>hk x a0 U λy f=>a4 y (by have g:(((ws c).length:Nat):Int)≤t:=alS.1 (C? g);rw[J_ Ω];exact f)⟩;have g:t<(ws c).length:=by simpa using g
  have tk:∀C,x≤C→(aW (ix aa (ws c) t).1=s→(ix aa (ws c) t).1≤C)→∀y∈(ws c).take (t+1).toNat,aW y.1=s→y.1≤C:=λC b1 b2 y f hs=>by
   rw[show(t+1).toNat=t.toNat+1 by omega,Z' Ω,χ,ξ]at f;obtain f|f:=f
   ·exact akF (a4 y f hs) b1
   ·have e:(ws c)[t.toNat]'Ω=ix aa (ws c) t:=by unfold ix;rw[π,ε Ω];rfl
    rw[f,e]at hs⊢;exact b2 hs
  refine⟨aw Ω j,aw a2 g,by decide,λp=>⟨aw Ω j,aw a2 g, ?_⟩,λp=>Gr l s hl P c R T hw r k Q hk n x (t+1) a0 U Ω Ω (tk x (alk _) λe=>absurd e (C? p)) Ω⟩;have p:aW (ix aa (ws c) t).1=s:=by simpa using p
  have J:=Th x (ix aa (ws c) t).1;refine Gr l s hl P c R T hw r k Q hk n (ut x (ix aa (ws c) t).1) (t+1) ?_ (akF U J.1) Ω Ω (tk _ J.1 λ_=>J.2.1) Ω;obtain e|e:=J.2.2
  ·rw[e];exact a0
  ·rw[e];exact p
def Pn (l:List Com)(s:Int)(hl:l.length≤100)(hw:∀c∈l,(ws c).length<1000000):∀(n:Nat) (R P:List Com) (x:Int),l=P++R→R.length<n→aW x=s→(∀c∈P,(aW c.1=s→c.1≤x)∧∀y∈ws c,aW y.1=s→y.1≤x)→Tot (qm n l s x P.length) λr=>aW r=s∧∀c∈l,(aW c.1=s→c.1≤r)∧∀y∈ws c,aW y.1=s→y.1≤r
 |0,R,P,x,f,h2,h3,U=>Ω
 |n+1,R,P,x,f,h2,h3,U=>by
  show Tot (um false some (lz (qm n) FU) l s x P.length) _;simp only[um,qq,tt,il,aan];cases R with
  |nil=>
   have e:l=P:=by simpa using f
   subst e;exact⟨λh=>by simp at h,λ_=>⟨h3,U⟩⟩
  |cons c R=>
   have T:(P.length:Int)<l.length:=by rw[f];simp;omega
   have ec:ix tCommit l (P.length:Int)=c:=by rw[f];exact cg (t:=tCommit) P c R
   rw[ec];have go:∀g,aW g=s→x≤g→(aW c.1=s→c.1≤g)→Tot (lz (qm n) FU l s P.length g 0) λr=>aW r=s∧∀c∈l,(aW c.1=s→c.1≤r)∧∀y∈ws c,aW y.1=s→y.1≤r:=λg b1 b2 b3=>by
    refine Gr l s hl P c R f (hw c (by rw[f];simp)) g _ _ (λy hy j hy3=>?_) FU g 0 b1 (alk _) Ω Ω (λy hy=>by simp at hy) (by rw[aT];have:=hw c (by rw[f];simp);omega);have:=Pn l s hl hw n R (P++[c]) y (by rw[f];simp) (by simp at h2;omega) hy λd p=>?_
    ·simpa using this
    ·obtain p|p:=χ.1 p
     ·exact⟨λC=>akF ((U d p).1 C) (akF b2 j),λz hz C=>akF ((U d p).2 z hz C) (akF b2 j)⟩
     ·rw[ξ.1 p];exact⟨λC=>akF (b3 C) j,hy3⟩
   refine⟨λ_=>⟨aw Ω T,by decide,λJ=>⟨aw Ω T, ?_⟩,λJ=>go x h3 (alk _) λe=>by simp[e]at J⟩,λh=>by simp at h;omega⟩;have J:aW c.1=s:=d_ J;have hm:=Th x c.1;refine go (ut x c.1) ?_ hm.1 λ_=>hm.2.1;obtain e|e:=hm.2.2
   ·rw[e];exact h3
   ·rw[e];exact J
def JA (l:List Com)(s:Int)(C:1≤s)(p:s≤3)(g:l.length≤100)(f:∀c∈l,(ws c).length<1000000):Tot (qt l s) λr=>aW r=s∧∀c∈l,(aW c.1=s→c.1≤r)∧∀y∈ws c,aW y.1=s→y.1≤r:=by
 simp only[qt,D6,tt];have e:aao .i64 s 20=s*1048576:=by show w64 (s*1048576)=_;exact ao Ω Ω
 rw[e];exact⟨by decide,Pn l s g f FU l [] (s*1048576) rfl (by rw[aT];omega) (zt.2 Ω) λc j=>by cases j⟩
def AH (l:List Com)(c:Com)(hl:l.length≤100):∀(n:Nat) (R P:List Com),l=P++R→R.length<n→(∀d∈P,d.1<c.1)→Tot (oQ n l c P.length) λr=>∃P R,l=P++R∧r=P++c::R∧(∀d∈P,d.1<c.1)∧∀d U,R=d::U→¬d.1<c.1
 |0,R,P,f,h2,J=>Ω
 |n+1,R,P,f,h2,J=>by
  show Tot (mR false some (oQ n) l c P.length) _;have p:P.length+R.length=l.length:=by rw[f];simp
  simp only[mR,tt,il,akk,t_,S_];rw[ao (n:=(P.length:Int)+1) Ω Ω];refine⟨am λh=>aw Ω (by simpa using h),λg=>?_,λg=>?_⟩
  ·simp only[ald,η,Δ]at g;cases R with
   |nil=>simp at p;omega
   |cons d R=>
    have T:ix tCommit l (P.length:Int)=d:=by rw[f];exact cg (t:=tCommit) P d R
    rw[T]at g;have:=AH l c hl n R (P++[d]) (by rw[f];simp) (by simp at h2;omega) λe j=>by
     obtain j|j:=χ.1 j
     ·exact J e j
     ·rw[ξ.1 j];exact g.2
    simpa using this
  ·have e1:l.take P.length=P:=by rw[f];simp
   have e2:l.drop P.length=R:=by rw[f];simp
   have hq:(decide (0≤(P.length:Int))&&decide ((P.length:Int)≤(l.length:Int)))=true:=by simp;omega
   simp only[aly,e1,e2];refine⟨hq,ez Ξ,ez Ξ,hq,ez Ξ,P,R,f,Ψ,J,λd U e=>?_⟩;subst e;have T:ix tCommit l (P.length:Int)=d:=by rw[f];exact cg (t:=tCommit) P d U
   rw[T]at g;have C:(P.length:Int)<l.length:=by simp at p;omega
   simpa[C]using g
def P6 (l:List Com)(c:Com)(f:l.length≤100):Tot (mS l c) λr=>∃P R,l=P++R∧r=P++c::R∧(∀d∈P,d.1<c.1)∧∀d j,R=d::j→¬d.1<c.1:=by
 simp only[mS,wG];exact AH l c f FU l [] rfl (by rw[aT];omega) λd g=>by cases g
def ajF (s:Sta)(f:List (Int×Int))(c:Cel):Prop:=TxC c∧((∃x∈s.1,x.1=c.1∧x.2.1=c.2.1)∨(c.1,c.2.1)∈f)
def WP (s:Sta)(w:List Cel):Prop:=w.length<2000000∧∃f:List (Int×Int),f.length≤11∧∀c∈w,ajF s f c
def Frs (C:Int)(w:List Cel):Prop:=∀c∈w,c.2.1=1→c.1=w64 (C+1)∨(c.1=w64 (C+2)∧InW w (w64 (C+1)))∨(c.1=w64 (C+3)∧InW w (w64 (C+2))∧InW w (w64 (C+1)))
def WQ (s:Sta)(C:Int)(w:List Cel):Prop:=WP s w∧nK w∧Frs C w
def sJ (h:∀c∈w,¬c.2.1=1):Frs C w:=λc f e=>absurd e (h c f)
def n1 (h:¬f=1):∀c∈[]++[((id,f,v,()):Cel)],¬c.2.1=1:=λc g=>by have g:c∈[((id,f,v,()):Cel)]:=g;rw[ξ.1 g];exact h
def xY (w:List Cel)(h:w.length≤11)(g:∀c∈w,TxC c):WP s ([]++w) :=
 ⟨by simp;omega,w.map λc=>(c.1,c.2.1),by simp;omega,λc f=>by
  have f:c∈w:=by simpa using f
  exact⟨g c f,.inr (l_.2 ⟨c,f,rfl⟩)⟩⟩
def adX (r w:List Cel)(l:r.length≤1440000)(g:∀c∈r,TxC c∧∃x∈s.1,x.1=c.1∧x.2.1=c.2.1)(h:w.length≤11)(j:∀c∈w,TxC c):WP s (([]++r)++w) :=
 ⟨by simp;omega,w.map λc=>(c.1,c.2.1),by simp;omega,λc f=>by
  obtain f|f:=χ.1 f
  ·have f:c∈r:=by simpa using f
   exact⟨(g c f).1,.inl (g c f).2⟩
  ·exact⟨j c f,.inr (l_.2 ⟨c,f,rfl⟩)⟩⟩
def Ru (r:List Cel)(j:r.length≤1440000)(f:∀c∈r,TxC c∧∃x∈s.1,x.1=c.1∧x.2.1=c.2.1):WP s r :=
 ⟨Ω,[],Ψ,λc g=>⟨(f c g).1,.inl (f c g).2⟩⟩
def cD (h:WP s w)(J:Frs C w):Tot (dD w) (WQ s C):=by
 simp[dD,nR,tt];obtain⟨U,ex,T,R⟩:=h;refine(Ob w U).mono λr g=>⟨⟨Ω,ex,T,λc j=>R c (g.2.1 c j)⟩,g.2.2.1,λc j e=>?_⟩;have f:∀x,InW w x→InW r x:=λx ⟨d,P,e⟩=>by rw[←e];exact g.2.2.2 d P
 obtain h|⟨h,p⟩|⟨h,p,l⟩:=J c (g.2.1 c j) e
 ·exact .inl h
 ·exact .inr (.inl ⟨h,f _ p⟩)
 ·exact .inr (.inr ⟨h,f _ p,f _ l⟩)
def tx1 (h:TxV v):∀c∈[(id,f,v,())],TxC c:=λc g=>by rw[ξ.1 g];exact h
def EC (id t a b c d:Int):Tot (dE id t a b c d) (WQ s C):=by simp only[dE,nU,tt];exact(vw _ _).mono λr f=>⟨ez Ψ,cD (xY _ Ψ (tx1 f)) (sJ (n1 Ϛ))⟩
def EB (id a:Int)(b:Bool)(t:Str)(f:Sh t)(c:Int):Tot (ip id a b t c) (WQ s C):=by simp only[ip,nS,tt];exact⟨ez Ψ,cD (xY _ Ψ (tx1 f)) (sJ (n1 Ϛ))⟩
def Rs (h:St1 s)(hs:s.1.length≤120000)(C:Int)(r2 r3 r4:List Int)(h2:r2.length≤120000)(h3:r3.length≤120000)(h4:r4.length≤120000)(r5:Int)(t:Bool)(a b c d:Int):Tot (iq C r2 r3 r4 r5 t s.1 a b c d (eX s).1) (WQ s C):=by
 have hm:=abf h;have P:∀id,Tot (pd ((eX s).1,()) id) λr=>r.length≤1440000∧∀c∈r,TxC c∧(∃x∈s.1,x.1=c.1∧x.2.1=c.2.1)∧¬c.2.1=1:=λid=>(adK (eX s) Ω (λc g=>(hm.1 c g).1) id).mono λr hr=>⟨hr.1,λc g=>have h:=hr.2 c g;⟨(hm.1 c h.1).1,(hm.1 c h.1).2,h.2⟩⟩;have R:∀r:List Cel,r.length≤1440000→(∀c∈r,TxC c∧(∃x∈s.1,x.1=c.1∧x.2.1=c.2.1)∧¬c.2.1=1)→Tot (eT r) λr=>r.length≤1440000∧∀c∈r,TxC c∧(∃x∈s.1,x.1=c.1∧x.2.1=c.2.1)∧¬c.2.1=1:=λr h1 h2=>(Lo (λa b=>(∃x∈s.1,x.1=a∧x.2.1=b)∧¬b=1) r Ω h2).mono λq j=>⟨Ω,j.2⟩;have rd:∀id f,Tot (fW (s.1,()) id f) TxV:=λid f=>XH h id f;have T:∀k,Tot (aB (s.1,()) k) λr=>r.length≤120000:=λk=>(cU h k).mono λr hr=>Ω
 have U:∀v x,Tot (eP v (s.1,()) x) TxV:=λv x=>Oi v h x;have J:∀(l:List Int) x,l.length≤240000→Tot (be l x) λ_=>True:=λl x hl=>(gQ l x Ω).mono λ_ _=>trivial;simp only[iq,nT,tt];refine⟨λ_=>?_,λ_=>⟨λ_=>?_,λ_=>⟨λ_=>?_,λ_=>⟨λ_=>?_,λ_=>⟨λ_=>?_,λ_=>⟨λ_=>?_,λ_=>⟨λ_=>?_,λ_=>⟨λ_=>?_,λ_=>⟨λ_=>?_,λ_=>?_⟩⟩⟩⟩⟩⟩⟩⟩⟩
 ·exact(J _ _ Ω).mono λr _=>(rd _ _).mono λv _=>(U _ _).mono λv p=>⟨ez Ψ,cD (xY _ Ψ (tx1 p)) (sJ (n1 Ϛ))⟩
 ·exact(J _ _ Ω).mono λr _=>(bF _ 3 Ω Ω).mono λq j=>⟨by decide,(NR _).mono λv p=>⟨ez Ψ,cD (xY _ Ψ (tx1 p)) (sJ (n1 (by rw[ao Ω Ω];omega)))⟩⟩
 ·exact(J _ _ Ω).mono λr _=>(T _).mono λe he=>(J _ _ Ω).mono λ_ _=>⟨by decide,(GP _).mono λv p=>⟨ez Ψ,cD (xY _ Ψ (tx1 p)) (sJ (n1 Ϛ))⟩⟩
 ·exact(J _ _ Ω).mono λr _=>(J _ _ Ω).mono λ_ _=>(rd _ _).mono λv p=>⟨ez Ψ,cD (xY _ Ψ (tx1 p)) (sJ (n1 Ϛ))⟩
 ·refine(J _ _ Ω).mono λr _=>(rd _ _).mono λv p=>(P _).mono λq j=>(R q j.1 j.2).mono λq j=>⟨ez Ξ,(rd _ _).mono λv2 _=>(U _ _).mono λv3 hv3=>⟨ez Ξ,cD (adX q _ j.1 (λc g=>⟨(j.2 c g).1,(j.2 c g).2.1⟩) Ψ ?_) ?_⟩⟩
  ·intro c g;simp at g;obtain rfl|rfl|rfl:=g
   ·simp[TxC,TxV]
   ·exact p
   ·exact hv3
  ·intro c g e;obtain g|g:=χ.1 g
   ·exact absurd e (j.2 c (by simpa using g)).2.2
   ·simp at g;obtain rfl|rfl|rfl:=g
    ·exact .inl rfl
    ·exact absurd e (by decide:¬(2:Int)=1)
    ·exact absurd e (by decide:¬(4:Int)=1)
 ·refine(T _).mono λe he=>(J _ _ Ω).mono λ_ _=>(GP _).mono λk hk=>(vw _ _).mono λwd hwd=>⟨by decide,(U _ _).mono λv p=>⟨ez Ψ,cD (xY _ Ψ ?_) ?_⟩⟩
  ·intro c g;simp at g;obtain rfl|rfl|rfl|rfl|rfl|rfl|rfl|rfl|rfl|rfl|rfl:=g;all_goals first|exact p|exact hk|exact hwd|simp[TxC,TxV]
  ·intro c g e;have h1:∀{x:Cel} {a b:List Cel},InW ([]++(a++x::b)) x.1:=λ{x a b}=>⟨x,Ψ,rfl⟩
   simp at g;obtain rfl|rfl|rfl|rfl|rfl|rfl|rfl|rfl|rfl|rfl|rfl:=g;all_goals first|exact absurd e (by decide:¬(2:Int)=1)|exact absurd e (by decide:¬(3:Int)=1)|exact absurd e (by decide:¬(4:Int)=1)|exact absurd e (by decide:¬(8:Int)=1)|exact absurd e (by decide:¬(9:Int)=1)|exact .inl rfl|exact .inr (.inl ⟨rfl,⟨_,S' ..,rfl⟩⟩)|exact .inr (.inr ⟨rfl,⟨_,K' _ (K' _ (K' _ (K' _ (K' _ (S' ..))))),rfl⟩,⟨_,S' ..,rfl⟩⟩)
 ·exact(T _).mono λe he=>⟨ez Ω,(J _ _ Ξ).mono λr _=>(P _).mono λq j=>(R q j.1 j.2).mono λq j=>cD (Ru q j.1 λc g=>⟨(j.2 c g).1,(j.2 c g).2.1⟩) (sJ λc g=>(j.2 c g).2.2)⟩
 ·exact(T _).mono λe he=>(J _ _ Ω).mono λr _=>(rd _ _).mono λv p=>⟨λ_=>(GP _).mono λk hk=>EB _ _ _ _ hk _,λ_=>EB _ _ _ _ p _⟩
 ·exact(J _ _ Ω).mono λr _=>(P _).mono λq j=>cD (Ru q j.1 λc g=>⟨(j.2 c g).1,(j.2 c g).2.1⟩) (sJ λc g=>(j.2 c g).2.2)
 ·exact cD (Ru [] Ψ λc g=>by cases g) (sJ λc g=>by cases g)
def Nj (h:St1 s)(hs:s.1.length≤120000)(d:bg.den)(C:Int):Tot (lS s d C) (WQ s C):=by
 have p:∀k,Tot (aB s k) λr=>r.length≤120000:=λk=>(cU h k).mono λr hr=>Ω
 have R:∀(l:List Int) x,l.length≤120000→Tot (be l x) λ_=>True:=λl x hl=>(gQ l x Ω).mono λ_ _=>trivial;simp only[lS,vq,nQ,rb,tt];refine⟨h.stg,(p _).mono λP U=>(p _).mono λr3 h3=>(p _).mono λJ T=>(bF _ 13 Ω Ω).mono λr5 _=>?_⟩;have j:∀t:Bool,(t=true→Tot (be P d.2.2.1) λr=>Tot (fZ (s.1,()) r) λf=>((bif (decide (f=5))then true else(decide (f=0)))=true→Tot (be J d.2.2.1) λr=>Tot (dE r 2 d.1 d.2.1 d.2.2.1 d.2.2.2.1) (WQ s C))∧((bif (decide (f=5))then true else(decide (f=0)))=false→Tot (dE r f d.1 d.2.1 d.2.2.1 d.2.2.2.1) (WQ s C))):=λ_ _=>(R _ _ U).mono λr _=>(qE s r (h.place r 1)).mono λk _=>⟨λ_=>(R _ _ T).mono λr _=>EC _ _ _ _ _ _,λ_=>EC _ _ _ _ _ _⟩;have g:=λt=>Rs h hs C P r3 J U h3 T r5 t d.1 d.2.1 d.2.2.1 d.2.2.2.1;exact⟨λ_=>⟨j _,λ_=>⟨λ_=>g _,λ_=>g _⟩⟩,λ_=>⟨j _,λ_=>⟨λ_=>g _,λ_=>g _⟩⟩⟩
def Jw {U:Type}[DecidableEq U]:∀{a b:List U},a.Nodup→(∀x∈a,x∈b)→a.length≤b.length
 |[],b,_,_=>by simp
 |x::a,b,h,hs=>by
  have h:=X?.1 h;have j:=hs x (S' ..);have:=Jw (a:=a) (b:=b.erase x) h.2 λy g=>by have f:=hs y (K' _ g);exact(ali (λe:y=x=>h.1 (by rw[←e];exact g))).2 f
  rw[ak3 j]at this;have:=akD j;simp;omega
def Va (h:WP s w)(r:nK w):w.length≤s.1.length+11:=by
 obtain⟨_,R,T,P⟩:=h;have C:(w.map λc=>(c.1,c.2.1)).Nodup:=by unfold List.Nodup;rw[ak2];refine r.imp λ{a b} f e=>?_;have j:a.1=b.1:=(I' .. ▸ e).1;have g:a.2.1=b.2.1:=(I' .. ▸ e).2;rw[j,g,lj]at f;omega
 have:=Jw (b:=(s.1.map λx=>(x.1,x.2.1))++R) C λx p=>by
  obtain⟨c,J,rfl⟩:=l_.1 p;rcases(P c J).2 with⟨y,l,j,g⟩|h
  ·exact B_ _ (l_.2 ⟨y,l,by rw[j,g]⟩)
  ·exact F? _ h
 simp at this;omega
def EM (h:dO x):aW (x-1)=aW x:=by
 obtain⟨l,j,g⟩:=h;have e:aW x*1048576≤x∧x<(aW x+1)*1048576:=zt.1 rfl;refine zt.2 ⟨?_,Ω⟩;by_cases f:x=aW x*1048576
 ·exfalso;apply g;rw[f];exact Int.mul_tmod_left _ _
 ·omega
structure NewC (l:List Com)(c:Com):Prop where
 par:c.2.1.length≤4
 txt:∀x∈ws c,TxC x
 ord:nK (ws c)
 len:(ws c).length≤bU l+11
 new:∀d∈l,¬d.1=c.1
 ids:∀x∈ws c,IdC x
 pic:c.2.2.1.length≤4
 kc:∀d∈l,∀x∈ws c,∀y∈ws d,x.2.1=1→y.2.1=1→x.1=y.1→x.2.2.1.1=y.2.2.1.1
def O3 (h:nK w):∀{x y:Cel},x∈w→y∈w→x.1=y.1→x.2.1=y.2.1→x=y:=λ{x y} C r p l=>by
 obtain⟨i,g,rfl⟩:=A_.1 C;obtain⟨j,f,rfl⟩:=A_.1 r;obtain q|rfl|q:=d? i j
 ·have:=x_.1 h i j g f q;rw[p,l,lj]at this;omega
 ·rfl
 ·have:=x_.1 h j i f g q;rw[p,l,lj]at this;omega
def ajo {a b k:Int}(h:b≤a)(e:b=a+k)(f:1≤k):False:=Ω
def ajp {a:Int}(h:a≤a-1):False:=Ω
def ah2 {s:Int}(f:dO c.1)(g:aW (c.1-1)=s)(h:∀d∈l,aW d.1=s→d.1≤c.1-1):∀d∈l,¬d.1=c.1:=λd j e=>by have:=h d j (by rw[e,←EM f,g]);exact ajp (e ▸ this)
def HA (hs:St1 s)(g:Int)(f j:List Int)(p:Str)(w:List Cel)(h1:f.length≤4)(h2:j.length≤4)(h3:p.length≤100)(hw:w.length<1000000)(U:∀x∈w,TxC x)
  (R:nK w→w.length≤bU l+11) {site:Int} (C:aW (g-1)=site) (P:∀d∈l,aW d.1=site→d.1≤g-1) (T:(∀x∈w,IdC x)→∀d∈l,∀x∈w,∀y∈ws d,x.2.1=1→y.2.1=1→x.1=y.1→x.2.2.1.1=y.2.2.1.1) :
  Tot (ky false some s g f j p w) λr=>r.2.1=true→NewC l r.1:=by
 simp[ky,tt];refine(Qp s (g,f,j,p,w,()) (λid=>hs.place id 1) (by show f.length<_;omega) (by show j.length<_;omega) (by show p.length<_;omega) hw U).mono λr J e=>?_;have J:=J (by simpa using e);exact⟨h1,U,J.2.1,R J.2.1,ah2 J.1 C P,J.2.2,h2,T J.2.2⟩
def K9 {s:Int}(h:aW x=s)(g:1≤s)(f:s≤3):0≤x∧x<4194304:=by have:=zt.1 h;omega
def afI {s:Int}(hf:Frs C w)(P:∀x∈w,IdC x)(U:aW C=s)(hb:0≤C∧C<4194304)(hl:∀d∈l,∀y∈ws d,aW y.1=s→y.1≤C)(d:Com)(hd:d∈l)(x:Cel)(J:x∈w)(y:Cel)(T:y∈ws d)(e1:x.2.1=1)(e:x.1=y.1):False:=by
 have g:∀k:Int,dO (C+k)→aW (C+k-1)=s→aW (C+k)=s:=λk h e=>(EM h).symm.trans e;have j:∀k:Int,0≤k→k≤3→InW w (w64 (C+k))→dO (C+k):=λk _ _ ⟨c,hc,e⟩=>by rw[ao (n:=C+k) Ω Ω]at e;rw[←e];exact(P c hc).1
 have v:=(P x J).1;have f:∀k:Int,1≤k→x.1=C+k→aW (C+k)=s→False:=λk hk R h=>by exact ajo (hl d hd y T (by rw[←e,R];exact h)) (e.symm.trans R) hk
 have p:aW (C+1-1)=s:=by rw[aku];exact U
 obtain h|⟨h,r⟩|⟨h,h2,r⟩:=hf x J e1
 ·rw[ao (n:=C+1) Ω Ω]at h;rw[h]at v;exact f 1 Ω h (g 1 v p)
 ·rw[ao (n:=C+2) Ω Ω]at h;rw[h]at v;have s1:=g 1 (j 1 Ω Ω r) p;exact f 2 Ω h (g 2 v (by rw[show C+2-1=C+1 by omega];exact s1))
 ·rw[ao (n:=C+3) Ω Ω]at h;rw[h]at v;have s1:=g 1 (j 1 Ω Ω r) p;have s2:=g 2 (j 2 Ω Ω h2) (by rw[show C+2-1=C+1 by omega];exact s1);exact f 3 Ω h (g 3 v (by rw[show C+3-1=C+2 by omega];exact s2))
def Kq (C:H0 l)(hn:l≠[])(hw:bU l≤60000)(r1:Int)(a1:0≤r1)(a2:r1<3)(d:bg.den)(f:List Int)(hp:f.length≤4) :
  Tot (nv false some l r1 d f) λr=>r.2.1=true→NewC l r.1:=by
 have hfew:=C.few;have hlen:0<l.length:=List.length_pos_iff.2 hn;have p:∀c∈l,(ws c).length<1000000:=λc J=>by have:=jC J;omega
 simp only[nv,tt,il];rw[ao (n:=1+r1) Ω Ω];refine(WU l f C.isFew Ω).mono λr5 h5=>(KD l C r5 Ω).mono λs hs=>(JA l (1+r1) Ω Ω Ω p).mono λr7 R=>(bF d.1 13 Ω Ω).mono λr8 _=>⟨λ_=>?_,λ_=>?_⟩
 ·refine(bF d.2.2.1 (l.length:Int) Ω Ω).mono λr9 h9=>⟨aw h9.1 h9.2, ?_⟩;have hm:=gF (t:=tCommit) (l:=l) h9.1 h9.2;have hb:=K9 R.1 Ω Ω;have hsum:=jC hm;refine HA (hs.st1 C) _ r5 [_] _ _ Ω Ψ Ψ (p _ hm) (C.txt _ hm) (λ_=>ν hsum Ω) (site:=1+r1) ?_ ?_ λ_ d g x T y hy=>C.kc _ hm d g x T y hy
  ·rw[ao Ω Ω,aku];exact R.1
  ·rw[ao Ω Ω,aku];exact λd g=>(R.2 d g).1
 ·have hst:=hs.st1 C;have hsl:s.1.length≤bU l:=by
   obtain⟨_,_,_,_,h⟩:=hs;exact h.len
  refine(Nj hst Ω d r7).mono λw ⟨j,hwo,hwf⟩=>have U:w.length<1000000:=(by have:=Va j hwo;omega);⟨ez Ξ,ez Ξ, ?_⟩
  rw[t_];refine(JA (l++[(0,r5,[],[100,101,101,100],w,())]) (1+r1) Ω Ω Ξ (λc J=>?_)).mono λr11 P=>?_
  ·obtain J|J:=χ.1 J
   ·exact p c J
   ·rw[ξ.1 J];exact U
  ·have hb:=K9 P.1 Ω Ω;refine HA hst _ r5 [] _ w Ω Ψ Ψ U (λx T=>?_) (λho=>by have:=Va j ho;omega) (site:=1+r1) ?_ ?_ ?_
   ·obtain⟨_,ex,_,h⟩:=j;exact(h x T).1
   ·rw[ao Ω Ω,aku];exact P.1
   ·rw[ao Ω Ω,aku];exact λd g=>(P.2 d (B_ _ g)).1
   ·exact λhv d g x T y hy e1 _ e=>(afI hwf hv R.1 (K9 R.1 Ω Ω) (λd g=>(R.2 d g).2) d g x T y hy e1 e).elim
def QX (J:H0 l)(C:l≠[])(p:bU l≤60000)(f:List Int)(m1:0<f.length)(m2:f.length≤100)(d:bg.den) :
  Tot (nx l f d) λr=>r.2.1=true→NewC l r.1:=by
 have j:∀k:Int,0≤k→bd (ut (w64 (w64 ((f.length:Int)-1)-k)) 0) f.length=true∨10<k:=λk hk=>by
  by_cases h:10<k
  ·exact .inr h
  ·left;rw[ao (n:=(f.length:Int)-1) Ω Ω,ao Ω Ω];have:=Th ((f.length:Int)-1-k) 0;exact aw this.2.1 (by obtain e|e:=this.2.2 <;> rw[e] <;> omega)
 simp only[nx,wU,tt,il];refine(bF _ 3 Ω Ω).mono λr1 g=>⟨by decide,(bF _ 3 Ω Ω).mono λR T=>⟨(j R T.1).resolve_right Ω,by decide,(bF _ 3 Ω Ω).mono λr3 _=>⟨λ_=>⟨by decide,(bF _ (f.length:Int) Ω Ω).mono λU P=>⟨aw P.1 P.2,ez Ψ, ?_⟩⟩,λ_=>?_⟩⟩⟩
 ·exact Kq J C p r1 g.1 g.2 d _ (N_ rfl)
 ·exact Kq J C p r1 g.1 g.2 d _ (N_ rfl)
def ail {P R:List Com}(r:H0 (P++R))(l:NewC (P++R) c)(h1:∀d∈P,d.1<c.1)(h2:∀d R',R=d::R'→¬d.1<c.1)(hn:(P++R).length<20)(hs:2*bU (P++R)+11≤500000):H0 (P++c::R)∧bU (P++c::R)≤2*bU (P++R)+11:=by
 have hsum:bU (P++c::R)=bU (P++R)+(ws c).length:=by rw[co,co];show _+((ws c).length+bU R)=_;omega
 have hlen:=l.len;have f:∀d∈P++c::R,d=c∨d∈P++R:=λd g=>by
  simp at g⊢;obtain h|h|h:=g
  ·exact .inr (.inl h)
  ·exact .inl h
  ·exact .inr (.inr h)
 have hR:∀d∈R,c.1<d.1:=by
  have j:=(s_.1 r.asc).2.1;cases R with
  |nil=>intro d g;cases g
  |cons e R=>
   have he:=h2 e R rfl;have hne:=l.new e Ψ;have C:c.1<e.1:=alj.2 ⟨alS.1 he,λh=>hne h.symm⟩;intro d g;obtain rfl|g:=J'.1 g
   ·exact C
   ·exact al6 C ((m_.1 j).1 d g)
 refine⟨⟨by simp at hn⊢;omega, ?_,λd g=>?_,λd g=>?_,λd g=>?_,Ω,λd g=>?_,λd g=>?_,λd g e he x T y J ex U p=>?_⟩,Ω⟩
 ·have j:=s_.1 r.asc;rw[s_];refine⟨j.1,m_.2 ⟨hR,j.2.1⟩,λa ha b hb=>?_⟩;obtain rfl|hb:=J'.1 hb
  ·exact h1 a ha
  ·exact j.2.2 a ha b hb
 ·obtain rfl|h:=f d g
  ·exact l.par
  ·exact r.par d h
 ·obtain rfl|h:=f d g
  ·exact l.ord
  ·exact r.ord d h
 ·obtain rfl|h:=f d g
  ·exact l.txt
  ·exact r.txt d h
 ·obtain rfl|h:=f d g
  ·exact l.ids
  ·exact r.ids d h
 ·obtain rfl|h:=f d g
  ·exact l.pic
  ·exact r.pic d h
 ·obtain rfl|hd':=f d g <;> obtain rfl|he':=f e he
  ·rw[O3 l.ord T J p (ex.trans U.symm)]
  ·exact l.kc e he' x T y J ex U p
  ·exact(l.kc d hd' y J x T U ex p.symm).symm
  ·exact r.kc d hd' e he' x T y J ex U p
structure First1 (c:Com):Prop where
 par:c.2.1.length≤4
 ord:nK (ws c)
 txt:∀x∈ws c,TxC x
 len:(ws c).length≤200
 ids:∀x∈ws c,IdC x
 pic:c.2.2.1.length≤4
def First1.h0 (h:First1 c):H0 [c]:=by
 refine⟨Ψ,Ψ,λd f=>?_,λd f=>?_,λd f=>?_,by have:=h.len;simp[bU];omega,λd f=>?_,λd f=>?_,λd f e p x l y j C r g=>?_⟩
 rotate_left 5
 ·rw[ξ.1 f]at l;rw[ξ.1 p]at j;rw[O3 h.ord l j g (C.trans r.symm)]
 all_goals rw[ξ.1 f]
 ·exact h.par
 ·exact h.ord
 ·exact h.txt
 ·exact h.ids
 ·exact h.pic
def bnd:Nat→Nat
 |0=>200
 |n+1=>2*bnd n+11
def Uo:∀{a b:Nat},a≤b→bnd a≤bnd b
 |a,b,h=>by
  induction h with
  |refl=>exact ζ _
  |step _ f=>exact ν f (by simp[bnd];omega)
structure HisP (n:Nat)(l:List Com):Prop where
 h0:H0 l
 ne:l≠[]
 len:l.length≤n+1
 sum:bU l≤bnd n
def HisP.ins {P R:List Com}(h:HisP n (P++R))(g:NewC (P++R) c)(l:∀d∈P,d.1<c.1)(j:∀d p,R=d::p→¬d.1<c.1)(C:n<9):HisP (n+1) (P++c::R):=by have r:=h.sum;have J:bnd n≤54005:=Uo (b:=8) Ω;have f:=h.len;have:=ail h.h0 g l j Ω Ω;exact⟨this.1,Ψ,by simp at f⊢;omega,by have:=this.2;simp[bnd];omega⟩
def HisP.mono (h:HisP n l):HisP (n+1) l :=
 ⟨h.h0,h.ne,by have:=h.len;omega,ν h.sum (Uo Ω)⟩
def HisP.upto {m:Nat}(h:HisP n l)(f:n≤m):HisP m l:=by
 induction f with
 |refl=>exact h
 |step _ g=>exact g.mono
def pq (l:List bg.den):∀(n:Nat) (out:List Com) (f:List Int) (i:Nat),HisP i out→0<f.length→f.length≤i+1→i≤9→9-i<n→Tot (kY n l out f i) λr=>HisP 9 r
 |0,out,f,i,g,C,h3,J,h5=>Ω
 |n+1,out,f,i,g,C,h3,J,h5=>by
  show Tot (j9 false some (kY n) l out f i) _;simp only[j9,kg,tt,il];have e1:w64 ((i:Int)+1)=((i+1:Nat):Int):=by rw[ao Ω Ω];omega
  rw[e1];refine⟨λj=>?_,λ_=>?_⟩
  ·have j:i<l.length∧i<9:=by
    simp at j;omega
   have hb:bnd i≤54005:=Uo (b:=8) Ω;have hs:=g.sum;refine⟨aw Ω Ω,(QX g.h0 g.ne Ω f C Ω _).mono λr T=>⟨λU=>?_,λ_=>?_⟩⟩
   ·refine(P6 out r.1 (by have:=g.len;omega)).mono λr3 p=>⟨ez Ξ, ?_⟩;obtain⟨P,R,rfl,rfl,a1,a2⟩:=p;exact pq l n _ _ (i+1) (g.ins (T U) a1 a2 j.2) Ψ Ξ Ω Ω
   ·exact pq l n _ _ (i+1) g.mono C Ω Ω Ω
  ·exact g.upto J
def aeG:Cel→List Cel→Bool
 |_,[]=>true
 |a,b::r=>ahd a.1 a.2.1 b.1 b.2.1&&aeG b r
def ajj:List Cel→Bool
 |[]=>true
 |a::r=>aeG a r
def O4:∀{r:List Cel} {a:Cel},aeG a r=true→Chn a r
 |[],_,_=>trivial
 |b::r,a,h=>by simp[aeG]at h;exact⟨h.1,O4 h.2⟩
def aaS {l:List Cel}(h:ajj l=true):nK l:=by
 cases l with
 |nil=>exact List.Pairwise.nil
 |cons a r=>exact MT (O4 h)
def idB (x:Int):Bool:=1048576<x&&x<34603008&&!x.tmod 1048576=0
def abS (h:idB x=true):dO x:=by simpa[idB,dO,alX]using h
def Mw (c:Com):Bool:=decide (c.2.2.1.length≤4)&&(decide (c.2.1.length≤4)&&ajj (ws c)&&(ws c).all (λx=>decide (x.2.2.1.2.2.1.length<1000))&&decide ((ws c).length≤200)&&(ws c).all (λx=>idB x.1&&((decide (x.2.2.1.2.2.2.1=0)||idB x.2.2.1.2.2.2.1)&&decide (1≤x.2.1))))
def T4 (h:Mw c=true):First1 c:=by simp only[Mw,η,Δ,X']at h;obtain⟨g,h⟩:=h;refine⟨h.1.1.1.1,aaS h.1.1.1.2,h.1.1.2,h.1.2,λx f=>?_,g⟩;have:=h.2 x f;rw[Y?,Δ]at this;exact⟨abS this.1,this.2.1.imp (λf=>f) abS,this.2.2⟩
def ajw (n:Int):Mw (fstL n)=true:=by unfold fstL;split <;> kernel_rfl
def ab8 (x:Int):First1 (firstF x):=T4 (ajw _)
def First1.his (h:First1 c):HisP 0 [c]:=⟨h.h0,Ψ,Ψ,by have:=h.len;simp[bU,bnd];omega⟩
def Ml (first:Int)(l:List bg.den):Tot (kh first l) (HisP 9):=by simp[kh,sE,tt];exact pq l FU [firstF first] [(firstF first).1] 0 (ab8 first).his Ψ Ψ Ω (by rw[aT];omega)
