/- Clones grow with what is wanted. -/
import Derived.Test.YtfgpipfjalmooaaGreatGenL
import Derived.Test.YtfgpipfjalmooaaGreatTotK
set_option linter.all false
namespace Go.Proofs.YtfgpipfjalmooaaGreat
namespace Abs
open Go
def WfI (x:Int):Prop:=(Lit.int .i64 x).wf=true
variable{x:Int}{s:Sta}{all:List WK}{ws vs:List Int}{l:List tCommit.den}
def Su (l:0≤x)(j:x<9223372036854775807):WfI x:=by have g:IntKind.min .i64 = -9223372036854775808:=rfl;have f:IntKind.max .i64=9223372036854775807:=rfl;show(decide (IntKind.min .i64≤x)&&decide (x≤IntKind.max .i64))=true;rw[g,f,ι,ο,ο];omega
def fb.wf (h:fb x):WfI x:=Su (by have:=h.1;omega) (by have:=h.2.1;omega)
def RfI.wf {x:Int}(h:RfI x):WfI x:=h.elim (λe=>by rw[e];exact Su Ϛ Ϛ) (·.wf)
def ab9 {l:List Com}(C:H0 l)(h:AtP l s):∀x∈s.1,WfI x.1:=λx g=>by
 obtain⟨T,P,J,_,h⟩:=h;have f:=(h.alts x g).1;cases j:x.2.2.1 with
 |nil=>exact absurd j f
 |cons a r =>obtain⟨c,hc,_,⟨y,p,e,_⟩,_⟩:=h.src x g a (by rw[j];simp);rw[←e];exact(C.ids c (J c hc) y p).1.wf
def mv {s:Sta}(h:St1 s)(f:Int):∀(n:Nat) (out:List Int) (i:Int),0≤i→i≤s.1.length→(∀y∈out,∃x∈s.1,x.1=y)→out.length≤i→s.1.length-i<n→Tot (dZ n f s out i) λr=>∀y∈r,∃x∈s.1,x.1=y
 |0,out,i,l,P,p,J,C=>Ω
 |n+1,out,i,l,P,p,J,C=>by
  show Tot (dH false some (dZ n) f s out i) _;have R:=h.len;simp only[dH,fx,tt,il];refine⟨λg=>?_,λ_=>p⟩;have g:i<s.1.length:=by simpa using g
  rw[ar (n:=i+1) Ω Ω];exact⟨aD l g,ap λ_=>aD l g,ap λ_=>(pH s _ (h.place _ 1)).some,ap λ_=>by simp[aK],λ_=>⟨aD l g,eo Ξ,mv h f n _ _ Ω Ω (λy j=>by
   obtain j|j:=I'.1 j
   ·exact p y j
   ·rw[J'.1 j];exact⟨_,gj (t:=ag) l g,rfl⟩) Ξ Ω⟩,λ_=>mv h f n _ _ Ω Ω p Ω Ω⟩
def G6 (h:St1 s)(f:Int):Tot (aE s f) λr=>r.length≤s.1.length∧∀y∈r,∃x∈s.1,x.1=y:=by refine(cX h f).and ?_;have g:=h.len;simp only[aE,jG];exact mv h f FU [] 0 Ω Ω Ψ Ψ (by rw[bq];omega)
def Q2 {l:List Com}(h:HisP 9 l)(x:Int):Tot (pC l x) WfI:=by
 have p:=h.h0;have hw:cr l≤108021:=ν h.sum Ϛ;have ent:∀{s:Sta},AtP l s→∀k,Tot (aE s k) λr=>r.length≤108021∧∀y∈r,WfI y:=λg k=>(G6 (g.st1 p) k).mono λr j=>⟨by
  obtain⟨_,_,_,_,h⟩:=id g;have:=h.len;have:=j.1;omega,λy f=>by
  obtain⟨z,J,e⟩:=j.2 y f;rw[←e];exact ab9 p g z J⟩
 have z:WfI 0:=Su Ϛ Ϛ;simp only[pC,yR,rz,vu,kF,nS,tt,il];refine(T7 l p).mono λs g=>(bH x 11 Ω Ω).mono λ_ _=>⟨λ_=>⟨by decide,(bH _ 23 Ω Ω).mono λ_ _=>⟨λ_=>Su Ϛ Ϛ,λ_=>(T7 l p).mono λU C=>(ent C 0).mono λr j=>⟨by decide,(gE r _ Ω).mono λy f=>f.elim (λe=>e ▸ z) (j.2 y)⟩⟩⟩,λ_=>?_⟩;refine(ent g 2).mono λr1 T=>⟨eo Ξ,(ent g 3).mono λr2 R=>⟨eo Ξ,(ent g 1).mono λr3 P=>⟨eo Ξ,(gE _ _ Ξ).mono λy f=>f.elim (λe=>e ▸ z) λf=>?_⟩⟩⟩;obtain f|f:=I'.1 f
 ·obtain f|f:=I'.1 f
  ·exact T.2 y (by simpa using f)
  ·exact R.2 y f
 ·exact P.2 y f
def Bo {l:List Com}(h:HisP 9 l)(x:List Int):∀(n:Nat) (out:List Int) (i:Int),0≤i→i≤4→out.length≤i→(∀y∈out,WfI y)→4-i<n→Tot (qm n l x out i) λr=>r.length≤4∧∀y∈r,WfI y
 |0,out,i,p,R,P,j,J=>Ω
 |n+1,out,i,p,R,P,j,J=>by
  show Tot (oT false some (qm n) l x out i) _;simp only[oT,tt,il];refine⟨λg=>?_,λ_=>⟨Ω,j⟩⟩;have g:i<x.length∧i<4:=by simpa using g
  rw[ar (n:=i+1) Ω Ω];refine⟨aD p g.1,(Q2 h _).mono λr C=>⟨eo Ξ,Bo h x n _ _ Ω Ω Ξ (λy f=>?_) Ω⟩⟩;obtain f|f:=I'.1 f
  ·exact j y f
  ·rw[J'.1 f];exact C
def Dk {l:List Com}(h:HisP 9 l)(x:List Int):Tot (kH l x) λr=>r.length≤4∧∀y∈r,WfI y:=by simp only[kH,xO];exact Bo h x FU [] 0 Ω Ω Ψ Ψ (by rw[bq];omega)
def abu:∀l:List Int,∃f:List Int,f.Pairwise (λx y=>x<y)∧∀x,x∈f↔x∈l
 |[]=>⟨[],List.Pairwise.nil,λx=>Iff.rfl⟩
 |a::l=>by
  obtain⟨f,p,r⟩:=abu l;refine⟨f.filter (λy=>decide (y<a))++a::f.filter (λy=>decide (a<y)), ?_,λx=>?_⟩
  ·rw[y_];refine⟨p.filter _,n_.2 ⟨λy g=>w_ (z_.1 g).2,p.filter _⟩,λx j y g=>?_⟩;have j:=w_ (z_.1 j).2;obtain rfl|g:=K'.1 g
   ·exact j
   ·have:=w_ (z_.1 g).2;omega
  ·simp only[I',K',z_,ο,r];constructor
   ·rintro(h|h|h)
    ·exact .inr h.1
    ·exact .inl h
    ·exact .inr h.1
   ·rintro(h|h)
    ·exact .inr (.inl h)
    ·obtain e|e|e:=Int.lt_trichotomy x a
     ·exact .inl ⟨h,e⟩
     ·exact .inr (.inl e)
     ·exact .inr (.inr ⟨h,e⟩)
def Yx (h:RchK all ws x):x∈ws++all.map (·.id):=by
 cases h with
 |root j _=>exact J_ _ j
 |step _ g =>obtain⟨y,f,rfl⟩:=r_.1 g;exact Z? _ (w? (z_.1 f).1)
open Classical in
def AI (l:List tCommit.den)(ws:List Int):jU (dM l ws) (RchK (z7 l) ws):=by
 obtain⟨f,j,g⟩:=abu ((ws++(z7 l).map (·.id)).filter λx=>decide (RchK (z7 l) ws x));have h:jU f (RchK (z7 l) ws):=⟨j,λx=>by
  rw[g,z_,ο];exact⟨λh=>h.2,λh=>⟨Yx h,h⟩⟩⟩
 rw[Fk h];exact h
def AH (l:List tCommit.den)(ws:List Int):(dM l ws).length≤ws.length+(z7 l).length:=by have h:=AI l ws;have:=yM (b:=ws++(z7 l).map (·.id)) (h.1.imp λ{a b} h e=>Ω) λx f=>Yx ((h.2 x).1 f);simpa using this
def Yw (h:∀x∈ws,x∈vs)(j:RchK all ws x):RchK all vs x:=by
 induction j with
 |root l f=>exact .root (h _ l) f
 |step _ f g=>exact .step g f
def Fj (h:∀x∈ws,x∈vs)(f:x∈dM l ws):x∈dM l vs :=
 ((AI l vs).2 x).2 (Yw h (((AI l ws).2 x).1 f))
def Ri {K l N M j:Int→Bool}(f:∀x,K x=true→l x=true)(g:∀x,M x=true→j x=true)(x:WK)(h:nK K N M x=true):nK l N j x=true:=by
 unfold nK at h⊢;split
 next e=>rw[E' e]at h;simp only[X?]at h⊢;exact h.imp (f _) λh=>h.imp id (g _)
 next e=>
  rw[Θ e]at h;split
  next e=>rw[E' e]at h;simp only[X?]at h⊢;exact h.imp (f _) id
  next e=>
   rw[Θ e]at h;split
   next e=>rw[E' e]at h;simp only[X?]at h⊢;exact h.imp (f _) (g _)
   next e=>rw[Θ e]at h;exact f _ h
def Rh (h:∀x∈ws,x∈vs)(x:WK)(g:lX l ws x=true):lX l vs x=true:=by have j:∀x,(dM l ws).contains x=true→(dM l vs).contains x=true:=λx g=>M_.2 (Fj h (M_.1 g));refine Ri j (λy f=>?_) x g;unfold iK at f⊢;rw[ajx]at f⊢;obtain⟨z,p,e⟩:=f;refine⟨z,p, ?_⟩;simp only[ι]at e⊢;exact⟨e.1,e.2.1,j _ e.2.2.1,e.2.2.2⟩
def zF (keep:Cel→Bool):∀l:List Cel,(((l.filter keep).length:Nat):Int)+((l.countP λx=>!keep x:Nat):Int)=((l.length:Nat):Int)
 |[]=>rfl
 |x::l=>by have:=zF keep l;cases f:keep x <;> simp[f] <;> omega
def YK (keep:WK→Bool)(c:tCommit.den):(((lP keep c).1.2.2.2.2.1.length:Nat):Int)+(lP keep c).2.1=((c.2.2.2.2.1.length:Nat):Int):=zF (λx=>keep (Ai x)) _
def acw {keep keep':WK→Bool}(h:∀x,keep x=true→keep' x=true)(c:tCommit.den):((lP keep' c).2.1:Int)≤(lP keep c).2.1:=by
 simp only[lP];refine Int.ofNat_le.2 (List.countP_mono_left λx _ f=>?_);cases g:keep (Ai x)with
 |true=>rw[h _ g]at f;exact f
 |false=>rfl
def z6:∀l:List Com,(z7 l).length=cr l
 |[]=>rfl
 |c::l=>by have:=z6 l;simp only[z7,c?,C_,Q',cr,rY,d_]at this⊢;rw[this]
def zg {l:List Com}(h:HisP 9 l){g:List Int}(U:g.length≤8)(J:∀x∈g,WfI x):pI l g=true:=by
 have T:bnd 9≤108021:=by decide
 have P:=h.sum;have R:=h.len;refine AG.2 ⟨⟨by simp;omega,λc f=>?_, ?_,λx j=>?_,Ω,J⟩,Ω,h.h0.asc,λc f=>?_⟩
 ·obtain⟨d,r,rfl⟩:=r_.1 f;obtain⟨e,p,rfl⟩:=r_.1 r;have:=rZ p;simp only[rY,d_];show(Abs.ws e).length≤_;omega
 ·have:=z6 l;unfold z7 at this;rw[this];omega
 ·obtain⟨c,f,j⟩:=ajv.1 j;obtain⟨d,r,rfl⟩:=r_.1 f;obtain⟨e,p,rfl⟩:=r_.1 r;obtain⟨y,C,rfl⟩:=r_.1 j;have:=h.h0.ids e p y C;exact⟨this.1.wf,this.2.wf⟩
 ·have:=h.h0.par c f;have:=h.h0.pic c f;exact⟨Ω,Ω⟩
def Zr {f:tCommit.den→aw.den}{i:Int}(j:0≤i)(g:i<l.length):ix aw (l.map f) i=f (ix tCommit l i):=by
 have h:i.toNat<l.length:=Ω
 unfold ix;rw[χ,χ,K_,ε h];rfl
def rS {l:List Com}(h:HisP 9 l){f vs:List Int}(C:∀x∈f,x∈vs):∀(n:Nat) (i:Int),0≤i→i≤l.length→l.length-i<n→Tot (fP n l (lU l f) (lU l vs) i) λr=>r=true
 |0,i,j,h1,h2=>Ω
 |n+1,i,j,h1,h2=>by
  show Tot (io false some (fP n) l (lU l f) (lU l vs) i) _;simp only[io,tt,il];refine⟨λg=>?_,λ_=>rfl⟩;have g:i<l.length:=by simpa using g
  have e1:(lU l f).2.1=l.map (lP (lX l f)):=rfl;have e2:(lU l vs).2.1=l.map (lP (lX l vs)):=rfl;rw[e1,e2,Zr j g,Zr j g,d_,d_];have R:=acw (keep:=lX l f) (keep':=lX l vs) (λx T=>Rh C x T) (ix tCommit l i);have P:=YK (lX l f) (ix tCommit l i);have U:cr l≤108021:=ν h.sum Ϛ;have hl:=h.len;have J:(Abs.ws (ix tCommit l i)).length≤cr l:=rZ (gj (t:=tCommit) j g);have J:List.length (ix tCommit l i).2.2.2.2.1≤108021:=ν J U;have e3:w64 (((lP (lX l f) (ix tCommit l i)).1.2.2.2.2.1.length:Nat)+(lP (lX l f) (ix tCommit l i)).2.1)=((List.length (ix tCommit l i).2.2.2.2.1:Nat):Int):=by rw[P];exact ar Ω Ω
  rw[df (p:=(lP (lX l f) (ix tCommit l i)).2.1<(lP (lX l vs) (ix tCommit l i)).2.1) (akd.2 R),e3,ar (n:=i+1) Ω Ω];exact⟨aD j g,aD j g,ap λ_=>aD j g,ap λ_=>aD j g,ap λ_=>aD j g,λh=>by simp at h,λ_=>rS h C n (i+1) Ω Ω Ω⟩
def tB {l:List Com}(h:HisP 9 l){f vs:List Int}(h1:f.length≤4)(h2:vs.length≤4)(J:∀x∈f,WfI x)(R:∀x∈vs,WfI x):∀(n:Nat) (i:Int),0≤i→i≤(dM l f).length→(dM l f).length-i<n→Tot (ky n l f vs (dM l f) (dM l (([]++f)++vs)) i) λr=>r=true
 |0,i,P,g1,g2=>Ω
 |n+1,i,P,g1,g2=>by
  show Tot (jx false some (ky n) (fP FU) l f vs (dM l f) (dM l (([]++f)++vs)) i) _;simp only[jx,tt,il];have hw:cr l≤108021:=ν h.sum Ϛ;have hl:=h.len;have k1:=AH l f;have U:=AH l (([]++f)++vs);rw[z6]at k1 U;have T:(([]++f)++vs).length≤8:=by simp;omega
  have g:∀x∈f,x∈([]++f)++vs:=λx j=>J_ _ (by simpa using j);have C:∀x∈([]++f)++vs,WfI x:=λx j=>by
   obtain j|j:=I'.1 j
   ·exact J x (by simpa using j)
   ·exact R x j
  have m1:(lU l f).2.1.length=l.length:=d_ ..;have m2:(lU l (([]++f)++vs)).2.1.length=l.length:=d_ ..;refine⟨λp=>?_,λ_=>⟨zg h Ω J,zg h T C,λe=>?_,λ_=>rS h g FU 0 Ω Ω (by rw[bq];omega)⟩⟩
  ·have p:i<(dM l f).length:=by simpa using p
   have hm:ix tInt (dM l f) i∈dM l f:=gj (t:=tInt) P p;refine⟨aD P p,_,CS _ _ Ω,λe=>?_,λ_=>?_⟩
   ·rw[dt (Fj g hm)]at e;cases e
   ·rw[ar (n:=i+1) Ω Ω];exact tB h h1 h2 J R n (i+1) Ω Ω Ω
  ·simp[m1]at e;exact absurd (j_ (λn:Nat=>(n:Int)) m2) e
def KF (first:Int)(l:List bc.den)(x f:List Int):Tot (gH first l x f) λr=>r=true:=by
 simp only[gH,qZ,tt,il];refine(KS first l).mono λh g=>(Dk g x).mono λJ p=>⟨eo Ξ,(Dk g f).mono λvs C=>⟨eo Ξ,zg g Ω p.2,zg g Ξ λy j=>?_, ?_⟩⟩
 ·obtain j|j:=I'.1 j
  ·exact p.2 y (by simpa using j)
  ·exact C.2 y j
 ·have P:=AH h J;rw[z6]at P;have R:cr h≤108021:=ν g.sum Ϛ;exact tB g p.1 C.1 p.2 C.2 FU 0 Ω Ω (by rw[bq];omega)
