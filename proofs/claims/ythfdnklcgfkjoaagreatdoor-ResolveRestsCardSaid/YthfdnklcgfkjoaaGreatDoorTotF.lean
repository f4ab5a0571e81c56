/- Evaluators that always answer. -/
import Derived.Test.YthfdnklcgfkjoaaGreatDoorTotC
set_option linter.all false
namespace Go.Proofs.YthfdnklcgfkjoaaGreatDoor.Abs
open Go
abbrev Com:=tCommit.den
abbrev ws (c:Com):List Cel:=c.2.2.2.2.1
def ir (w:List Cel):Prop:=w.Pairwise λa b=>ahd a.1 a.2.1 b.1 b.2.1=true
def Wr (w:List Cel)(id f:Int):Prop:=∃c∈w,c.1=id∧c.2.1=f
def Chn:Cel→List Cel→Prop
 |_,[]=>True
 |a,b::r=>ahd a.1 a.2.1 b.1 b.2.1=true∧Chn b r
def Oy:∀{r:List Cel} {a:Cel},Chn a r→(a::r).Pairwise λa b=>ahd a.1 a.2.1 b.1 b.2.1=true
 |[],a,_=>b_.2 ⟨λ_ h=>by(cases h),List.Pairwise.nil⟩
 |b::r,a,⟨j,l⟩=>by
  have g:=Oy l;refine b_.2 ⟨λx f=>?_,g⟩;obtain rfl|f:=N'.1 f
  ·exact j
  ·exact ga j ((b_.1 g).1 x f)
def xK (l:List Cel)(f:l.length<1000000):∀(n:Nat) (r p:List Cel) (a:Cel),l=p++a::r→r.length<n→Tot (iN n l ((p.length:Int)+1)) λb=>b=true→Chn a r
 |0,r,p,a,e,h=>Ω
 |n+1,r,p,a,e,h=>by
  subst e;show Tot (fA false some (iN n) (p++a::r) ((p.length:Int)+1)) _;simp only[fA,tt,il];simp only[a_,q_]at f⊢;have P:w64 ((p.length:Int)+1-1)=p.length:=by rw[ar Ω Ω];omega
  cases r with
  |nil=>exact⟨λh=>by simp at h,λ_ _=>trivial⟩
  |cons b r=>
   rw[P];have J:ix aa (p++a::b::r) (p.length:Int)=a:=bN (t:=aa) p a (b::r);have C:ix aa (p++a::b::r) ((p.length:Int)+1)=b:=by have:=bN (t:=aa) (p++[a]) b r;rw[show p++a::b::r=(p++[a])++b::r by simp,show((p.length:Int)+1)=((p++[a]).length:Int)by simp];exact this
   have j:w64 ((p.length:Int)+1+1)=((p++[a]).length:Int)+1:=by rw[ar Ω Ω];simp
   rw[J,C,j];refine⟨λ_=>?_,λh=>?_⟩
   ·refine⟨aE Ω Ξ,aE Ω Ξ,aE Ω Ξ,aE Ω Ξ,λ_ h=>(by cases h),λh=>?_⟩;refine(xK (p++a::b::r) (by simp at f⊢;omega) n r (p++[a]) b Ψ (by simp at h;simp at *;omega)).mono λx g e=>⟨?_,g e⟩;rw[←xp];simpa using h
   ·simp at h;omega
def Nf (l:List Cel)(f:l.length<1000000):Tot (kl l) λb=>b=true→ir l:=by
 simp[kl,sa];cases l with
 |nil =>show Tot (fA false some (iN 1099511627775) [] 1) _;simp only[fA,tt,il];exact⟨λh=>by simp at h,λ_ _=>List.Pairwise.nil⟩
 |cons a r=>exact(xK (a::r) f FU r [] a rfl (by rw[bt];simp at f;omega)).mono λb g e=>Oy (g e)
def xw (w:List Cel)(id f:Int)(P:w.length<1000000):∀(n:Nat) (i:Int), -1≤i→i<w.length→i+1<n→(∀k:Nat,i<k→k<w.length→¬((w.getD k (zero aa)).1=id∧(w.getD k (zero aa)).2.1=f))→Tot (kQ n w id f i) λr=>r.2.1=true↔Wr w id f
 |0,i,T,p,h,_=>Ω
 |n+1,i,T,p,h,hk=>by
  show Tot (jJ false some (kQ n) w id f i) _;simp only[jJ,tt];refine⟨λg=>?_,λg=>?_⟩
  ·have g:0≤i:=by simpa using g
   refine⟨aE g p,au λ_=>aE g p,λj=>⟨aE g p,λ_=>?_,λ_=>trivial⟩,λj=>?_⟩
   ·simp at j;exact⟨_,ji (t:=aa) g p,j.1,j.2⟩
   ·rw[ar Ω Ω];refine xw w id f P n (i-1) Ω Ω Ω λk R C=>?_;by_cases e:i=k
    ·subst e;simp at j;intro J;exact j J.1 J.2
    ·exact hk k Ω C
  ·have g:¬0≤i:=by simpa using g
   refine⟨λh=>(by cases h),λ⟨c,j,e1,U⟩=>?_⟩;obtain⟨k,l,rfl⟩:=N?.1 j;have:=hk k Ω l;rw[e_,ζ l]at this;exact absurd ⟨e1,U⟩ this
def kO (w:List Cel)(id f:Int)(g:w.length<1000000):Tot (fa w id f) λr=>r.2.1=true↔Wr w id f:=by
 simp[fa,ri,tt,il];rw[ar Ω Ω];exact xw w id f g FU _ Ω Ω (by rw[bt];omega) λk l j=>Ω
def I3 (c:Com)(id f:Int)(g:(ws c).length<1000000):Tot (fO c id f) λr=>r=true↔Wr (ws c) id f:=by simp[fO,nZ,tt];exact(kO _ id f g).mono λ_ h=>h
def DJ (l:List Int)(j:l.length<1000000):∀(n:Nat) (i:Int),0≤i→i≤l.length→l.length-i<n→Tot (su n l i) λ_=>True
 |0,i,g,p,h=>Ω
 |n+1,i,g,p,h=>by
  show Tot (qO false some (su n) l i) _;simp only[qO,tt,il];intro f;have f:i<l.length:=by simpa using f
  rw[ar (n:=i+1) Ω Ω];refine⟨aE g f,(fg (by rw[jN];rfl)).mono λr _=>⟨au λ_=>aE g f,au λh=>?_,au λ_=>by simp[aD],λ_=>DJ l j n (i+1) Ω Ω Ω⟩⟩;simp at h;rw[ar Ω Ω];exact aE Ω Ω
def HG (l:List Int)(f:l.length<1000000):Tot (lN l) λ_=>True:=by simp[lN,AT];exact DJ l f FU 0 Ω Ω (by rw[bt];omega)
def vn (id:Int):Prop:=1048576<id∧id<34603008∧¬id.tmod 1048576=0
def z7 (c:Com)(l:c.2.2.2.1.length<1000000)(P:Prop)(g:P):∀(n:Nat) (i:Int),0≤i→i≤c.2.2.2.1.length→c.2.2.2.1.length-i<n→Tot (oR n c i) λ_=>P
 |0,i,j,p,h=>Ω
 |n+1,i,j,p,h=>by
  show Tot (mQ false some (oR n) c i) _;simp only[mQ,tt,il];refine⟨λf=>?_,λ_=>g⟩;have f:i<c.2.2.2.1.length:=by simpa using f
  rw[ar (n:=i+1) Ω Ω];exact⟨aE j f,au λ_=>aE j f,λ_=>g,λ_=>z7 c l P g n (i+1) Ω Ω Ω⟩
def QG (c:Com)(j:c.2.1.length<1000000)(g:c.2.2.1.length<1000000)(p:c.2.2.2.1.length<1000000):Tot (mS c) λr=>r=true→vn c.1:=by
 simp only[mS,wh,tt];have e:cv c.1=some _:=jN c.1;refine⟨_,e,au λ_=>(HG _ j).some,au λ_=>(HG _ g).some,au λ_=>wQ _ _ j,au λ_=>wQ _ _ g,λ_ h=>(by cases h),λh=>?_⟩;have l:vn c.1:=by
  cases f:(decide (c.1>1048576)&&decide (c.1<34603008) && !decide (c.1.tmod 1048576=0))with
  |false=>rw[f]at h;simp at h
  |true=>simpa[vn,and_assoc]using f
 exact(z7 c p (vn c.1) l FU 0 Ω Ω (by rw[bt];omega)).mono λ_ h _=>h
def wH (s:Sta)(id:Int)(f:cj s id 1=true):Tot (gu s id) λ_=>True:=by
 simp only[gu,EF,tt,il];refine⟨f,λh=>aE Ω ?_⟩;have h:¬((iX s id 1).length:Int)=0:=by simpa using h
 omega
def Rv (s:Sta)(w:List Cel)(id:Int)(g:cj s id 1=true)(f:w.length<1000000):Tot (mY s w id) λ_=>True:=by simp[mY,wI,tt];exact(wH s id g).mono λ_ _ _=>(kO w id 1 f).mono λ_ _=>trivial
def Vk (f:Int):(hZ f).isSome=true:=by simp[hZ,so,GX,Xu];rw[au λ_=>by simp[aD]];rfl
def N1 (s:Sta)(c:Com)(x:Cel)(g:cj s x.1 1=true)(f:(ws c).length<1000000)(j:TxC x):Tot (kx s c x) λ_=>True:=by simp only[kx,sF,jF,lz,gy,ly,tt];exact(fg (by rw[jN];rfl)).mono λr _=>⟨au λ_=>Vk _,λ_=>(wH s x.1 g).mono λ_ _=>⟨λ_=>⟨au λ_=>by simp[aD],λ_ _=>⟨λ_=>(kO _ _ _ f).mono λ_ _=>trivial,λ_=>(kO _ _ _ f).mono λ_ _=>trivial⟩⟩,λ_=>(Rv s _ _ g f).mono λ_ _ _=>(TP _ _ _ (atz j Ω)).mono λ_ _=>trivial⟩⟩
def Bh (s:Sta)(c:Com)(r:∀id,cj s id 1=true)(p:(ws c).length<1000000)(l:∀x∈ws c,TxC x)(P:Prop)(g:P):∀(n:Nat) (i:Int),0≤i→i≤(ws c).length→(ws c).length-i<n→Tot (pa n s c i) λ_=>P
 |0,i,j,C,h=>Ω
 |n+1,i,j,C,h=>by
  show Tot (np false some (pa n) s c i) _;simp only[np,tt,il];refine⟨λf=>?_,λ_=>g⟩;have f:i<(ws c).length:=by simpa using f
  rw[ar (n:=i+1) Ω Ω];exact⟨aE j f,(N1 s c _ (r _) p (l _ (ji (t:=aa) j f))).mono λ_ _=>⟨λ_=>g,λ_=>Bh s c r p l P g n (i+1) Ω Ω Ω⟩⟩
def R0 (s:Sta)(c:Com)(p:∀id,cj s id 1=true)(P:c.2.1.length<1000000)(J:c.2.2.1.length<1000000)(C:c.2.2.2.1.length<1000000)(j:(ws c).length<1000000)(l:∀x∈ws c,TxC x):Tot (nr s c) λr=>r=0→vn c.1∧ir (ws c):=by simp only[nr,wS,tt];refine(QG c P J C).mono λr1 g=>⟨λ_ h=>absurd h Ϛ,λT=>(Nf (ws c) j).mono λr2 f=>⟨λ_ h=>absurd h Ϛ,λR=>?_⟩⟩;exact(Bh s c p j l (vn c.1∧ir (ws c)) ⟨g (by simpa using T),f (by simpa using R)⟩ FU 0 Ω Ω (by rw[bt];omega)).mono λ_ h _=>h
def qW (l:List Com)(x:Int):Option Com:=l.find? λc=>decide (c.1=x)
def DQ (l:List Com)(x:Int)(f:l.length<1000000):∀(n:Nat) (r p:List Com),l=p++r→r.length<n→sJ n l x (p.length:Int)=some (match qW r x with|some c=>(c,true,())|none=>((0,[],[],[],[],()),false,()))
 |0,r,p,_,h=>Ω
 |n+1,r,p,e,h=>by
  subst e;show qX false some (sJ n) (p++r) x p.length=_;simp only[qX,s2,il];cases r with
  |nil=>rw[sj (t:=tCommit)];rfl
  |cons c r=>
   have next:=DQ (p++c::r) x f n r (p++[c]) Ψ (by simp at h;omega)
   rw[←se (t:=tCommit) p c (by simp at f;omega)]at next
   rw[pA (t:=tCommit),bN (t:=tCommit),aE Ω Ξ,next];simp[ck,qW];by_cases g:c.1=x
   ·simp[g]
   ·simp[g]
def Ln (l:List Com)(x:Int)(f:l.length<1000000):lQ l x=some (match qW l x with|some c=>(c,true,())|none=>((0,[],[],[],[],()),false,())):=by simp[lQ,Bk];exact DQ l x f FU l [] rfl (by rw[bt];omega)
open Go
def eZ {n:Nat}(h:n≤4000000000):lm n=true:=by unfold lm LIM;exact N_ Ω
def InH (l:List Com)(x:Int):Prop:=∃c∈l,c.1=x
def HY {l:List Com}{x:Int}(h:qW l x=none):¬InH l x:=by rintro⟨c,f,e⟩;unfold qW at h;have:=List.find?_eq_none.1 h c f;simp[e]at this
def be (l:List Com)(r:List Int):Prop:=∀x∈r,∀c,qW l x=some c→∀p∈c.2.1,InH l p→p∈r
def aQ:List Com→List Int→Nat
 |[],_=>0
 |c::l,out=>(if c.1∈out then 0 else c.2.1.length)+aQ l out
def Kn {out f:List Int}(h:∀y∈out,y∈f):∀l,aQ l f≤aQ l out
 |[]=>δ _
 |c::l=>by
  have:=Kn h l;simp[aQ];by_cases g:c.1∈out
  ·simp[g,h _ g];omega
  ·by_cases j:c.1∈f <;> simp[g,j] <;> omega
def Km {out f:List Int}{x:Int}(g:x∈f)(j:¬x∈out)(h:∀y∈out,y∈f):∀{l:List Com} {c:Com},qW l x=some c→aQ l f+c.2.1.length≤aQ l out
 |[],c,hc=>by simp[qW]at hc
 |d::l,c,hc=>by
  by_cases e:d.1=x
  ·have:d=c:=by simpa[qW,e]using hc
   subst this;have:=Kn h l;rw[←e]at g j;simp[aQ,g,j];omega
  ·have p:qW l x=some c:=by simpa[qW,e]using hc
   have:=Km g j h p;simp[aQ];by_cases r:d.1∈out
   ·simp[r,h _ r];omega
   ·by_cases C:d.1∈f <;> simp[r,C] <;> omega
def agC (l:List Com)(f r:List Int):Prop:=(∀x∈f,InH l x→x∈r)∧be l r
def xk (l:List Com)(T:List Int)(B:Nat)(hB:B<100000)(hs:l.length<1000000):∀(n:Nat) (out:List Int) (g:Nat) (f:List Int),g≤f.length→g+aQ l out<n→out.length+g+aQ l out≤B →
  (∀x∈T,InH l x→x∈out∨x∈f.take g)→(∀x∈out,∀c,qW l x=some c→∀p∈c.2.1,InH l p→p∈out∨p∈f.take g)→Tot (BJ n l out g f) λr=>r.length≤B∧agC l T r
 |0,out,g,f,h1,h2,h3,h4,h5=>Ω
 |n+1,out,g,f,h1,h2,h3,h4,h5=>by
  show Tot (BK false some (BJ n) l out g f) _;simp only[BK,tt,ni];refine⟨λJ=>?_,λJ=>?_⟩
  ·have J:0<g:=by simpa using J
   have e0:w64 ((g:Int)-1)=(g:Int)-1:=ar Ω Ω;have e1:((g:Int)-1).toNat=g-1:=Ω
   rw[e0,e1,I'];obtain⟨k,rfl⟩:∃k,g=k+1:=⟨g-1,Ω⟩;rw[show k+1-1=k from rfl];have hk:k<f.length:=Ω
   have e2:f.getD k (zero tInt)=f[k]:=by rw[e_,ζ hk];rfl
   rw[e2];have j:∀y,y∈f.take (k+1)↔y∈f.take k∨y=f[k]:=λy=>by rw[d? hk,Q',F']
   generalize hx:f[k]=x at *;refine⟨by simp;omega,by simp;omega,_,Ln l x hs,au λ_=>wQ _ _ Ω, ?_⟩;rw[RQ _ _ Ω];cases hf:qW l x with
   |none=>
    refine⟨λ_=>xk l T B hB hs n out k f Ω Ω Ω (λy C g=>?_) (λy C c hc p J g=>?_),λh=>by simp at h⟩
    ·obtain h|h:=h4 y C g
     ·exact .inl h
     ·rcases(j y).1 h with h|rfl
      ·exact .inr h
      ·exact absurd g (HY hf)
    ·obtain h|h:=h5 y C c hc p J g
     ·exact .inl h
     ·rcases(j p).1 h with h|rfl
      ·exact .inr h
      ·exact absurd g (HY hf)
   |some c=>
    dsimp only;refine⟨λh=>?_,λh=>?_⟩
    ·have hin:x∈out:=by simpa using h
     refine xk l T B hB hs n out k f Ω Ω Ω (λy C g=>?_) (λy C c hc p J g=>?_)
     ·obtain h|h:=h4 y C g
      ·exact .inl h
      ·rcases(j y).1 h with h|rfl
       ·exact .inr h
       ·exact .inl hin
     ·obtain h|h:=h5 y C c hc p J g
      ·exact .inl h
      ·rcases(j p).1 h with h|rfl
       ·exact .inr h
       ·exact .inl hin
    ·have hni:¬x∈out:=by simpa using h
     refine(QA out x Ω).mono λr2 R=>?_;have P:∀y∈out,y∈r2:=λy C=>(R.2 y).2 (.inl C);have hrest:=Km ((R.2 x).2 (.inr rfl)) hni P hf;have U:(f.take k++c.2.1).take (k+c.2.1.length)=f.take k++c.2.1:=by apply E?;simp;omega
     refine⟨eZ Ω,xk l T B hB hs n r2 _ _ Ξ Ω Ω (λy C g=>?_) (λy C d hd p J g=>?_)⟩
     ·rw[U,Q'];obtain h|h:=h4 y C g
      ·exact .inl (P y h)
      ·rcases(j y).1 h with h|rfl
       ·exact .inr (.inl h)
       ·exact .inl ((R.2 _).2 (.inr rfl))
     ·rw[U,Q'];rcases(R.2 y).1 C with C|rfl
      ·obtain h|h:=h5 y C d hd p J g
       ·exact .inl (P p h)
       ·rcases(j p).1 h with h|rfl
        ·exact .inr (.inl h)
        ·exact .inl ((R.2 _).2 (.inr rfl))
      ·rw[hf]at hd;cases hd;exact .inr (.inr J)
  ·have J:g=0:=by simpa using J
   subst J;refine⟨Ω,λx hx g=>?_,λx hx c hc p J g=>?_⟩
   ·obtain h|h:=h4 x hx g
    ·exact h
    ·simp at h
   ·obtain h|h:=h5 x hx c hc p J g
    ·exact h
    ·simp at h
def Few (l:List Com):Prop:=l.length≤20∧∀c∈l,c.2.1.length≤4
def WZ:∀(l:List Com),(∀c∈l,c.2.1.length≤4)→∀out,aQ l out≤4*l.length
 |[],_,_=>δ _
 |c::l,h,out=>by have:=WZ l (λd f=>h d (C' _ f)) out;have:=h c (c_ ..);simp[aQ];split <;> omega
def IQ (l:List Com)(f:List Int)(j:Few l)(p:f.length≤1000):Tot (pm l f) λr=>r.length≤2000∧agC l f r:=by simp only[pm,OF,tt,List.take_nil,o_,I'];have J:=WZ l j.2 [];have C:=j.1;refine⟨eZ Ω,xk l f 2000 Ω Ω FU [] f.length f Ω (by rw[bt];omega) Ξ (λx g _=>.inr (by simpa using g)) (λx g=>by cases g)⟩
def Th (l:List Com)(a b:Int)(f:Few l):Tot (nL l a b) λ_=>True:=by simp[nL,xh,tt];have h:=IQ l [b] f Ψ;exact⟨au λ_=>h.some,au λ_=>wQ _ _ (as3 (h.getD []).1 Ω)⟩
def Dd (l:List Com)(f:List Int)(R:Few l)(p:f.length≤1000)(k:fR (List Int))(out:List Int)(i:Int)(P:0≤i)(J:i<f.length)(U:out.length≤i)(C:∀out:List Int,out.length≤i+1→Tot (k l f out (i+1)) λr=>r.length≤f.length):∀(n:Nat) (ok:Bool) (j:Int),0≤j→j≤f.length→f.length-j<n→Tot (p5 k n l f out i ok j) λr=>r.length≤f.length
 |0,ok,j,T,h3,h=>Ω
 |n+1,ok,j,T,h3,h=>by
  show Tot (tu false some (p5 k n) k l f out i ok j) _;simp only[tu,p7,p8,tt,il];rw[ar (n:=i+1) Ω Ω];refine⟨λg=>?_,λ_=>⟨λ_=>⟨aE P J,(QA out _ Ω).mono λr hr=>C r Ω⟩,λ_=>C out Ω⟩⟩;have g:j<f.length:=by simp at g;exact g.2
  rw[ar (n:=j+1) Ω Ω];have r:=λok=>Dd l f R p k out i P J U C n ok (j+1) Ω Ω Ω;exact⟨aE P J,aE T g,(Th l _ _ R).mono λ_ _=>⟨λ_=>r _,λ_=>r _⟩⟩
def De (l:List Com)(f:List Int)(p:Few l)(g:f.length≤1000):∀(n:Nat) (out:List Int) (i:Int),0≤i→i≤f.length→out.length≤i→f.length-i<n→Tot (vK n l f out i) λr=>r.length≤f.length
 |0,out,i,C,P,J,h=>Ω
 |n+1,out,i,C,P,J,h=>by
  show Tot (tv false some (p5 (vK n) FU) l f out i) _;simp only[tv,tt,il];refine⟨λj=>?_,λ_=>Ω⟩;have j:i<f.length:=by simpa using j
  refine⟨aE C j,_,Ln l _ (by have:=p.1;omega), ?_⟩;exact Dd l f p g _ out i C j J (λout R=>De l f p g n out (i+1) Ω Ω Ω Ω) FU _ 0 Ω Ω (by rw[bt];omega)
def YV (l:List Com)(f:List Int)(j:Few l)(g:f.length≤1000):Tot (tA l f) λr=>r.length≤f.length:=by simp[tA,Eh];exact De l f j g FU [] 0 Ω Ω Ψ (by rw[bt];omega)
def AW (l:List Com)(p:Few l)(k:eA (List Int))(out:List Int)(i:Int)(P:0≤i)(J:i<l.length)(R:out.length≤i)(g:∀out:List Int,out.length≤i+1→Tot (k l out (i+1)) λr=>r.length≤l.length):∀(n:Nat) (head:Bool) (j:Int),0≤j→j≤l.length→l.length-j<n→Tot (nd k n l out i head j) λr=>r.length≤l.length
 |0,ok,j,C,T,h=>Ω
 |n+1,ok,j,C,T,h=>by
  show Tot (qQ false some (nd k n) k l out i ok j) _;have:=p.1;simp only[qQ,lO,tt,il];rw[ar (n:=i+1) Ω Ω,ar (n:=j+1) Ω Ω];refine⟨λf=>?_,λ_=>⟨λ_=>⟨aE P J,by simp[lm,LIM];omega,g _ Ξ⟩,λ_=>g out Ω⟩⟩;have f:j<l.length:=by simpa using f
  refine⟨au λ_=>aE C f,au λ_=>aE P J,au λ_=>wQ _ _ ?_,AW l p k out i P J R g n _ (j+1) Ω Ω Ω⟩;have:=p.2 _ (ji (t:=tCommit) C f);omega
def AX (l:List Com)(g:Few l):∀(n:Nat) (out:List Int) (i:Int),0≤i→i≤l.length→out.length≤i→l.length-i<n→Tot (sC n l out i) λr=>r.length≤l.length
 |0,out,i,p,C,j,h=>Ω
 |n+1,out,i,p,C,j,h=>by
  show Tot (qR false some (nd (sC n) FU) l out i) _;have:=g.1;simp[qR,tt,il];refine⟨λf=>?_,λ_=>Ω⟩;have f:i<l.length:=by simpa using f
  exact AW l g _ out i p f j (λout J=>AX l g n out (i+1) Ω Ω Ω Ω) FU _ 0 Ω Ω (by rw[bt];omega)
def Vw (l:List Com)(f:Few l):Tot (qS l) λr=>r.length≤l.length:=by have:=f.1;simp[qS,AU];exact AX l f FU [] 0 Ω Ω Ψ (by rw[bt];omega)
open Go
def vf (s:Sta)(id f:Int):iX s id f=[]∨∃x∈s.1,x.1=id∧x.2.1=f∧x.2.2.1=iX s id f:=by
 unfold iX;cases g:ju s id f with
 |nil=>exact .inl rfl
 |cons x r=>
  simp only;split
  next h=>refine .inr ⟨x, ?_,h.1,h.2,rfl⟩;rw[Ei s id f,g];simp
  ·exact .inl rfl
def Ek {s:Sta}(T:s.1.Pairwise dz)(id f:Int){l:List Alt}(hne:l≠[]):(de s id f l).1.Pairwise dz∧(de s id f l).1.length≤s.1.length+1∧∀x∈(de s id f l).1,(x∈s.1∧¬(x.1=id∧x.2.1=f))∨x=(id,f,l,()):=by
 have hs:=Ei s id f;have hp:∀x∈before s id f,ahd x.1 x.2.1 id f=true:=pq _ _;have hh:∀x r,ju s id f=x::r→ahd x.1 x.2.1 id f=false:=uV _ _;have he:l.isEmpty=false:=by cases l with|nil=>exact absurd rfl hne|cons _ _=>rfl
 have C:=T;rw[hs,j_]at C;have R:∀P,P.Pairwise dz→(∀y∈P,y∈s.1∧ahd id f y.1 y.2.1=true)→(before s id f).length+P.length≤s.1.length→(before s id f++[(id,f,l,())]++P).Pairwise dz∧(before s id f++[(id,f,l,())]++P).length≤s.1.length+1∧∀x∈before s id f++[(id,f,l,())]++P,(x∈s.1∧¬(x.1=id∧x.2.1=f))∨x=(id,f,l,()):=by
  intro P k2 U k5;refine⟨?_,by simp;omega,λx j=>?_⟩
  ·rw[k_,j_];refine⟨C.1, ?_,λx j y g=>?_⟩
   ·rw[List.singleton_append,b_];exact⟨λy g=>(U y g).2,k2⟩
   ·obtain g|g:=Q'.1 g
    ·rw[F'.1 g];exact hp x j
    ·exact ga (hp x j) (U y g).2
  ·simp only[Q',F']at j;rcases j with(j|j)|j
   ·refine .inl ⟨by rw[hs];exact T_ _ j,λe=>?_⟩;have:=hp x j;rw[e.1,e.2,da]at this;omega
   ·exact .inr j
   ·refine .inl ⟨(U x j).1,λe=>?_⟩;have:=(U x j).2;rw[e.1,e.2,da]at this;omega
 have p:(before s id f).length+(ju s id f).length=s.1.length:=by rw[←List.length_append,←hs]
 unfold de;simp only[he,ash,asK];cases hq:ju s id f with
 |nil=>exact R [] List.Pairwise.nil (λy g=>by cases g) (by rw[hq]at p;simpa using Nat.le_of_eq p)
 |cons x r=>
  rw[hq]at C p;have j:=hh x r hq;have J:∀y∈x::r,y∈s.1:=λy g=>by rw[hs,hq];exact arW _ g
  have hr:=b_.1 C.2.1;by_cases e:x.1=id∧x.2.1=f
  ·simp only[aa3,β e];refine R r hr.2 (λy g=>⟨J y (C' _ g), ?_⟩) (by simp at p;omega);have:=hr.1 y g;unfold dz at this;rwa[e.1,e.2]at this
  ·simp only[aa3,ο e];have h1:ahd id f x.1 x.2.1=true:=OM j e;refine R (x::r) C.2.1 (λy g=>⟨J y g, ?_⟩) Ω;obtain rfl|g:=N'.1 g
   ·exact h1
   ·exact ga h1 (hr.1 y g)
def Alv (T:List Com)(g:List (List Int))(l:Int)(id f:Int):Prop:=∀j<T.length,¬(T.getD j (zero tCommit)).1=l→Wr (ws (T.getD j (zero tCommit))) id f→¬l∈g.getD j []
structure StI (T:List Com)(g:List (List Int))(N:Nat)(s:List Slt):Prop where
 asc:s.Pairwise dz
 len:s.length≤N
 alts:∀x∈s,x.2.2.1≠[]∧x.2.2.1.length≤N
 srt:∀x∈s,x.2.2.1.Pairwise λa b=>a.1<b.1
 txt:∀x∈s,∀a∈x.2.2.1,TxV a.2.1
 src:∀x∈s,∀a∈x.2.2.1,∃c∈T,c.1=a.1∧Wr (ws c) x.1 x.2.1∧Alv T g c.1 x.1 x.2.1
variable{s:List Slt}{T:List Com}{g:List (List Int)}{N:Nat}
def StI.mono {l :Nat}(h:StI T g N s)(j:N≤l):StI T g l s :=
 ⟨h.asc,υ h.len j,λx f=>⟨(h.alts x f).1,υ (h.alts x f).2 j⟩,h.srt,h.txt,h.src⟩
def StI.place (h:StI T g N s)(j:N≤1000000)(id f:Int):cj (s,()) id f=true:=by unfold cj agd;rw[ι];have:=h.len;exact⟨N_ (show s.length≤1048576 by omega),N_ h.asc⟩
def StI.stg (h:StI T g N s)(l:N≤1000000):stG (s,())=true:=by unfold stG yF;rw[ι];have:=h.len;refine⟨N_ (show s.length≤1048576 by omega),d_.2 λx f=>?_⟩;have:=h.alts x f;rw[ι];refine⟨by cases j:x.2.2.1 with|nil=>exact absurd j this.1|cons _ _=>rfl,N_ Ω⟩
structure Rep0 (T:List Com)(g:List (List Int)):Prop where
 few:T.length≤20
 asc:T.Pairwise λa b=>a.1<b.1
 ord:∀c∈T,ir (ws c)
 txt:∀c∈T,∀x∈ws c,TxC x
 wl:∀c∈T,(ws c).length<1000000
 ab:g.length=T.length
 al:∀r∈g,r.length<1000000
def aiO {f g:List Cel}{w:Cel}(h:ir (f++w::g)):¬Wr f w.1 w.2.1:=by rintro⟨c,j,p,l⟩;have:=(j_.1 h).2.2 c j w (c_ ..);rw[p,l,da]at this;omega
def Qm {T:List Com}{g:List (List Int)}(h0:Rep0 T g){P R:List Com}{c:Com}(hT:T=P++c::R){wp wr:List Cel}{w:Cel}(hw:ws c=wp++w::wr)(k0:bP Sta)(k:cr Sta)(Q:Sta→Prop)(N:Nat)(hN:N≤500000)(b:List Slt)(r:StI T g N b)
  (C:∀x∈b,∀a∈x.2.2.1,a.1≤c.1∧(a.1=c.1→Wr wp x.1 x.2.1))
  (hk:∀b',StI T g (N+1) b'→(∀x∈b',∀a∈x.2.2.1,a.1≤c.1∧(a.1=c.1→Wr (wp++[w]) x.1 x.2.1))→Tot (k T g P.length ((wp.length:Int)+1) b') Q) :
  ∀(n:Nat) (al:Bool) (j:Nat),j≤T.length→T.length-j<n→(al=true→∀j'<j,¬(T.getD j' (zero tCommit)).1=c.1→Wr (ws (T.getD j' (zero tCommit))) w.1 w.2.1→¬c.1∈g.getD j' [])→Tot (iI k0 k n T g P.length wp.length b al j) Q
 |0,al,j,h1,h2,h3=>Ω
 |n+1,al,j,h1,h2,h3=>by
  show Tot (j8 false some (iI k0 k n) k T g P.length wp.length b al j) _;have hPi:(P.length:Int)<T.length:=by rw[hT];simp;omega
  have ec:ix tCommit T (P.length:Int)=c:=by rw[hT];exact bN (t:=tCommit) P c R
  have ew:ix aa c.2.2.2.2.1 (wp.length:Int)=w:=by show ix aa (ws c) _=w;rw[hw];exact bN (t:=aa) wp w wr
  have hwl:(ws c).length<1000000:=h0.wl c (by rw[hT];simp);have hwp:wp.length<1000000:=by rw[hw]at hwl;simp at hwl;omega
  have hfew:=h0.few;simp only[j8,dQ,tt,il,o_];rw[ec,ew,ar (n:=(wp.length:Int)+1) Ω Ω,ar (n:=(j:Int)+1) Ω Ω];refine⟨λhj=>?_,λhj=>⟨λf=>?_,λ_=>?_⟩⟩
  ·have hja:j<T.length∧al=true:=by
    simp at hj;exact⟨Ω,hj.2⟩
   have hjt:(j:Int)<T.length:=Ω
   have hjn:=hja.1;have etj:ix tCommit T (j:Int)=T.getD j (zero tCommit):=rfl;have eaj:ix (.slice tInt) g (j:Int)=g.getD j []:=rfl;have hmem:T.getD j (zero tCommit)∈T:=ji (t:=tCommit) Ω hjt;have hwr:=I3 (T.getD j (zero tCommit)) w.1 w.2.1 (h0.wl _ hmem);have hal:(g.getD j []).length<1000000:=h0.al _ (by rw[e_,ζ (by rw[h0.ab];exact hjn)];exact r_ _);rw[etj,eaj,RQ _ _ hal];have hG:Fa (T.getD j (zero tCommit)) w.1 w.2.1=true:=hwr.some;have hF:fb (T.getD j (zero tCommit)) w.1 w.2.1=true↔Wr (ws (T.getD j (zero tCommit))) w.1 w.2.1:=hwr.getD (zero .bool);refine⟨au λ_=>aE Ω hjt,au λ_=>hG,au λ_=>aE Ω (by rw[h0.ab];omega),au λ_=>aE Ω hPi,au λ_=>wQ _ _ hal, ?_⟩;refine Qm h0 hT hw k0 k Q N hN b r C hk n _ (j+1) Ω Ω λf j' hj' hne hW=>?_;by_cases e:j'=j
   ·subst e;have hji:¬(j':Int)=P.length:=λe=>hne (by rw[←etj,e,ec]);rw[hF.2 hW]at f;simpa[hji]using f
   ·exact h3 hja.2 j' Ω hne hW
  ·subst f;have hjl:T.length≤j:=by
    by_cases e:j<T.length
    ·simp[show(j:Int)<T.length by omega]at hj
    ·omega
   have halv:Alv T g c.1 w.1 w.2.1:=λj' hj'=>h3 rfl j' Ω;have hpl:=r.place Ω w.1 w.2.1;have hlenA:(iX (b,()) w.1 w.2.1).length≤N:=by
    rcases vf (b,()) w.1 w.2.1 with e|⟨x,p,_,_,e⟩
    ·rw[e];simp
    ·rw[←e];exact(r.alts x p).2
   have hlt:∀a∈iX (b,()) w.1 w.2.1,a.1<c.1:=λa f=>by
    rcases vf (b,()) w.1 w.2.1 with e|⟨x,p,e1,e2,e⟩
    ·rw[e]at f;cases f
    ·rw[←e]at f;have h1:=C x p a f;by_cases h2:a.1=c.1
     ·have:=h1.2 h2;rw[e1,e2]at this;exact absurd this (aiO (hw ▸ h0.ord c (by rw[hT];simp)))
     ·exact Int.lt_iff_le_and_ne.2 ⟨h1.1,h2⟩
   have J:=Ek r.asc w.1 w.2.1 (s:=(b,())) (l:=iX (b,()) w.1 w.2.1++[(c.1,w.2.2.1,())]) Ψ;have U:∀x∈(de (b,()) w.1 w.2.1 (iX (b,()) w.1 w.2.1++[(c.1,w.2.2.1,())])).1,x∈b∨x=(w.1,w.2.1,iX (b,()) w.1 w.2.1++[(c.1,w.2.2.1,())],()):=λx p=>(J.2.2 x p).imp (·.1) id;have hold:∀a∈iX (b,()) w.1 w.2.1,∃x∈b,x.1=w.1∧x.2.1=w.2.1∧a∈x.2.2.1:=λa f=>by
    rcases vf (b,()) w.1 w.2.1 with e|⟨x,p,e1,e2,e⟩
    ·rw[e]at f;cases f
    ·exact⟨x,p,e1,e2,e ▸ f⟩
   refine⟨hpl,eZ Ξ,aE Ω hPi,eZ Ξ,hpl,hk _ ⟨J.1,υ J.2.1 (by have:=r.len;simp;omega),λx p=>?_,λx p=>?_,λx p a f=>?_,λx p a f=>?_⟩ λx p a f=>?_⟩
   ·obtain p|rfl:=U x p
    ·exact⟨(r.alts x p).1,Nat.le_succ_of_le (r.alts x p).2⟩
    ·exact⟨Ψ,by simp;omega⟩
   ·obtain p|rfl:=U x p
    ·exact r.srt x p
    ·show(iX (b,()) w.1 w.2.1++[(c.1,w.2.2.1,())]).Pairwise _;rw[j_];refine⟨?_,Ψ,λa f d hd=>?_⟩
     ·rcases vf (b,()) w.1 w.2.1 with e|⟨x,p,e1,e2,e⟩
      ·rw[e];exact List.Pairwise.nil
      ·rw[←e];exact r.srt x p
     ·rw[F'.1 hd];exact hlt a f
   ·obtain p|rfl:=U x p
    ·exact r.txt x p a f
    ·obtain f|f:=Q'.1 f
     ·obtain⟨y,hy,_,_,h⟩:=hold a f;exact r.txt y hy a h
     ·rw[F'.1 f];exact h0.txt c (by rw[hT];simp) w (by rw[hw];simp)
   ·obtain p|rfl:=U x p
    ·exact r.src x p a f
    ·obtain f|f:=Q'.1 f
     ·obtain⟨y,hy,e1,e2,h⟩:=hold a f;have:=r.src y hy a h;rwa[e1,e2]at this
     ·rw[F'.1 f];exact⟨c,by rw[hT];simp,rfl,⟨w,by rw[hw];simp,rfl,rfl⟩,halv⟩
   ·obtain p|rfl:=U x p
    ·have:=C x p a f;refine⟨this.1,λe=>?_⟩;obtain⟨d,hd,h⟩:=this.2 e;exact⟨d,T_ _ hd,h⟩
    ·obtain f|f:=Q'.1 f
     ·have:=hlt a f;exact⟨Int.le_of_lt this,λe=>absurd e (Int.ne_of_lt this)⟩
     ·rw[F'.1 f];exact⟨asn _,λ_=>⟨w,Ψ,rfl,rfl⟩⟩
  ·exact hk b (r.mono Ω) λx p a f=>⟨(C x p a f).1,λe=>by
    obtain⟨d,hd,h⟩:=(C x p a f).2 e;exact⟨d,T_ _ hd,h⟩⟩
def dy:List Com→Nat
 |[]=>0
 |c::l=>(ws c).length+dy l
def dO (a b:List Com):dy (a++b)=dy a+dy b:=by
 induction a with
 |nil=>simp[dy]
 |cons c a f=>simp[dy,f];omega
def Qn {T:List Com}{g:List (List Int)}(U:Rep0 T g){P R:List Com}{c:Com}(p:T=P++c::R)(l:bP Sta)(Q:Sta→Prop)(M:Nat)(hM:M≤500000)(hk:∀C,StI T g M C→(∀x∈C,∀a∈x.2.2.1,a.1≤c.1)→Tot (l T g ((P.length:Int)+1) C) Q) :
  ∀(n:Nat) (j f:List Cel) (N:Nat) (b:List Slt),ws c=f++j→j.length<n→N+j.length≤M→StI T g N b→(∀x∈b,∀a∈x.2.2.1,a.1≤c.1∧(a.1=c.1→Wr f x.1 x.2.1))→Tot (iK l n T g P.length f.length b) Q
 |0,j,f,N,b,J,h2,h3,h4,h5=>Ω
 |n+1,j,f,N,b,J,h2,h3,h4,h5=>by
  show Tot (j9 false some (iI l (iK l n) FU) l T g P.length f.length b) _;have hfew:=U.few;have r:(P.length:Int)<T.length:=by rw[p];simp;omega
  have ec:ix tCommit T (P.length:Int)=c:=by rw[p];exact bN (t:=tCommit) P c R
  have hwl:(ws c).length<1000000:=U.wl c (by rw[p];simp);simp only[j9,tt,il];rw[ec,ar (n:=(P.length:Int)+1) Ω Ω];show bd _ _=true∧(decide ((f.length:Int)<((ws c).length:Int))=true→bd _ _=true∧bd (f.length:Int) (ws c).length=true∧_)∧(decide ((f.length:Int)<((ws c).length:Int))=false→_);refine⟨aE Ω r,λh=>⟨aE Ω r,aE Ω (by simpa using h), ?_⟩,λ_=>hk b (h4.mono Ω) λx hx a ha=>(h5 x hx a ha).1⟩;cases j with
  |nil=>rw[J]at h;simp at h
  |cons w j =>refine Qm U p J l _ Q N Ω b h4 h5 (λC hb' hst=>?_) FU true 0 Ω (by rw[bt];omega) (λ_ j' hj'=>Ω);have:=Qn U p l Q M hM hk n j (f++[w]) (N+1) C (by rw[J];simp) (by simp at h2;omega) (by simp at h3;omega) hb' hst;simpa using this
def Qo {T:List Com}{g:List (List Int)}(l:Rep0 T g)(hM:dy T≤500000):∀(n:Nat) (R P:List Com) (b:List Slt),T=P++R→R.length<n→StI T g (dy P) b→(∀x∈b,∀a∈x.2.2.1,∀d∈R,a.1<d.1)→Tot (iL n T g P.length b) λs=>StI T g (dy T) s.1
 |0,R,P,b,j,h2,h3,h4=>Ω
 |n+1,R,P,b,j,h2,h3,h4=>by
  show Tot (kc false some (iK (iL n) FU) T g P.length b) _;have r:dy P+dy R=dy T:=by rw[j,dO]
  simp[kc,tt,il];refine⟨λh=>?_,λ_=>h3.mono Ω⟩;cases R with
  |nil=>rw[j]at h;simp at h
  |cons c R=>
   simp[dy]at r;have hwl:(ws c).length<1000000:=l.wl c (by rw[j];simp);have f:=l.asc;rw[j,j_]at f;have J:=(b_.1 f.2.1).1;refine Qn l j _ _ (dy P+(ws c).length) Ω (λb' U C=>?_) FU (ws c) [] (dy P) b rfl (by rw[bt];omega) Ω h3 λx p a ha=>?_
   ·have:=Qo l hM n R (P++[c]) b' (by rw[j];simp) (by simp at h2;omega) (by rw[dO];simpa[dy]using U) λx p a ha d hd=>Int.lt_of_le_of_lt (C x p a ha) (J d hd);simpa using this
   ·have:=h4 x p a ha c (c_ ..);exact⟨Int.le_of_lt this,λe=>absurd e (Int.ne_of_lt this)⟩
