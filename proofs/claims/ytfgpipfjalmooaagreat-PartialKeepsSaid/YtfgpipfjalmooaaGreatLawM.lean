/- The law PartialKeeps. -/
import Derived.Test.YtfgpipfjalmooaaGreatTotK
import Derived.Test.YtfgpipfjalmooaaGreatGenK
set_option linter.all false
namespace Go.Proofs.YtfgpipfjalmooaaGreat
namespace Abs
open Go
def WfI (x:Int):Prop:=(Lit.int .i64 x).wf=true
variable{x id:Int}{l:List Com}{s:Sta}{us out K M:List Int}{more:Bool}
def UF (l:0≤x)(j:x<9223372036854775807):WfI x:=by have g:IntKind.min .i64 = -9223372036854775808:=rfl;have f:IntKind.max .i64=9223372036854775807:=rfl;show(decide (IntKind.min .i64≤x)&&decide (x≤IntKind.max .i64))=true;rw[g,f,η,Δ,Δ];omega
def dO.wf (h:dO x):WfI x:=UF (by have:=h.1;omega) (by have:=h.2.1;omega)
def RfI.wf {x:Int}(h:RfI x):WfI x:=h.elim (λe=>by rw[e];exact UF Ϛ Ϛ) (·.wf)
def aed (C:H0 l)(h:AtP l s):∀x∈s.1,WfI x.1:=λx g=>by
 obtain⟨T,P,J,_,h⟩:=h;have f:=(h.alts x g).1;cases j:x.2.2.1 with
 |nil=>exact absurd j f
 |cons a r =>obtain⟨c,hc,_,⟨y,p,e,_⟩,_⟩:=h.src x g a (by rw[j];simp);rw[←e];exact(C.ids c (J c hc) y p).1.wf
def nl {s:Sta}(h:St1 s)(f:Int):∀(n:Nat) (out:List Int) (i:Int),0≤i→i≤s.1.length→(∀y∈out,∃x∈s.1,x.1=y)→out.length≤i→s.1.length-i<n→Tot (ep n f s out i) λr=>∀y∈r,∃x∈s.1,x.1=y
 |0,out,i,l,P,p,J,C=>Ω
 |n+1,out,i,l,P,p,J,C=>by
  show Tot (dM false some (ep n) f s out i) _;have R:=h.len;simp only[dM,fC,tt,il];refine⟨λg=>?_,λ_=>p⟩;have g:i<s.1.length:=by simpa using g
  rw[ao (n:=i+1) Ω Ω];exact⟨aw l g,am λ_=>aw l g,am λ_=>(qE s _ (h.place _ 1)).some,am λ_=>by simp[aC],λ_=>⟨aw l g,ez Ξ,nl h f n _ _ Ω Ω (λy j=>by
   obtain j|j:=χ.1 j
   ·exact p y j
   ·rw[ξ.1 j];exact⟨_,gF (t:=ag) l g,rfl⟩) Ξ Ω⟩,λ_=>nl h f n _ _ Ω Ω p Ω Ω⟩
def Is (h:St1 s)(f:Int):Tot (aB s f) λr=>r.length≤s.1.length∧∀y∈r,∃x∈s.1,x.1=y:=by refine(cU h f).and ?_;have g:=h.len;simp only[aB,kw];exact nl h f FU [] 0 Ω Ω Ψ Ψ (by rw[aT];omega)
def Tc (h:HisP 9 l)(x:Int):Tot (qu l x) WfI:=by
 have p:=h.h0;have hw:bU l≤108021:=ν h.sum Ϛ;have ent:∀{s:Sta},AtP l s→∀k,Tot (aB s k) λr=>r.length≤108021∧∀y∈r,WfI y:=λg k=>(Is (g.st1 p) k).mono λr j=>⟨by
  obtain⟨_,_,_,_,h⟩:=g;have:=h.len;have:=j.1;omega,λy f=>by
  obtain⟨z,J,e⟩:=j.2 y f;rw[←e];exact aed p g z J⟩
 have z:WfI 0:=UF Ϛ Ϛ;simp only[qu,Aj,sO,wQ,ld,oU,tt,il];refine(Wl l p).mono λs g=>(bF x 11 Ω Ω).mono λ_ _=>⟨λ_=>⟨by decide,(bF _ 23 Ω Ω).mono λ_ _=>⟨λ_=>UF Ϛ Ϛ,λ_=>(Wl l p).mono λU C=>(ent C 0).mono λr j=>⟨by decide,(gQ r _ Ω).mono λy f=>f.elim (λe=>e ▸ z) (j.2 y)⟩⟩⟩,λ_=>?_⟩;refine(ent g 2).mono λr1 T=>⟨ez Ξ,(ent g 3).mono λr2 R=>⟨ez Ξ,(ent g 1).mono λr3 P=>⟨ez Ξ,(gQ _ _ Ξ).mono λy f=>f.elim (λe=>e ▸ z) λf=>?_⟩⟩⟩;obtain f|f:=χ.1 f
 ·obtain f|f:=χ.1 f
  ·exact T.2 y (by simpa using f)
  ·exact R.2 y f
 ·exact P.2 y f
def CJ {l:List Com}(h:HisP 9 l)(x:List Int):∀(n:Nat) (out:List Int) (i:Int),0≤i→i≤4→out.length≤i→(∀y∈out,WfI y)→4-i<n→Tot (rl n l x out i) λr=>r.length≤4∧∀y∈r,WfI y
 |0,out,i,p,R,P,j,J=>Ω
 |n+1,out,i,p,R,P,j,J=>by
  show Tot (pI false some (rl n) l x out i) _;simp only[pI,tt,il];refine⟨λg=>?_,λ_=>⟨Ω,j⟩⟩;have g:i<x.length∧i<4:=by simpa using g
  rw[ao (n:=i+1) Ω Ω];refine⟨aw p g.1,(Tc h _).mono λr C=>⟨ez Ξ,CJ h x n _ _ Ω Ω Ξ (λy f=>?_) Ω⟩⟩;obtain f|f:=χ.1 f
  ·exact j y f
  ·rw[ξ.1 f];exact C
def Ry (h:HisP 9 l)(x:List Int):Tot (pJ l x) λr=>r.length≤4∧∀y∈r,WfI y:=by simp only[pJ,yZ];exact CJ h x FU [] 0 Ω Ω Ψ Ψ (by rw[aT];omega)
def adz:∀l:List Int,∃f:List Int,f.Pairwise (λx y=>x<y)∧∀x,x∈f↔x∈l
 |[]=>⟨[],List.Pairwise.nil,λx=>Iff.rfl⟩
 |a::l=>by
  obtain⟨f,p,r⟩:=adz l;refine⟨f.filter (λy=>decide (y<a))++a::f.filter (λy=>decide (a<y)), ?_,λx=>?_⟩
  ·rw[s_];refine⟨p.filter _,m_.2 ⟨λy g=>d_ (v_.1 g).2,p.filter _⟩,λx j y g=>?_⟩;have j:=d_ (v_.1 j).2;obtain rfl|g:=J'.1 g
   ·exact j
   ·have:=d_ (v_.1 g).2;omega
  ·simp only[χ,J',v_,Δ,r];constructor
   ·rintro(h|h|h)
    ·exact .inr h.1
    ·exact .inl h
    ·exact .inr h.1
   ·rintro(h|h)
    ·exact .inr (.inl h)
    ·obtain e|e|e:=Int.lt_trichotomy x a
     ·exact .inl ⟨h,e⟩
     ·exact .inr (.inl e)
     ·exact .inr (.inr ⟨h,e⟩)
def SG {all:List WK}{ws:List Int}(h:RchK all ws x):x∈ws++all.map (·.id):=by
 cases h with
 |root j _=>exact B_ _ j
 |step _ g =>obtain⟨y,f,rfl⟩:=l_.1 g;exact F? _ (z? (v_.1 f).1)
open Classical in
def Yt (l:List tCommit.den)(ws:List Int):iW (dj l ws) (RchK (fD l) ws):=by
 obtain⟨f,j,g⟩:=adz ((ws++(fD l).map (·.id)).filter λx=>decide (RchK (fD l) ws x));have h:iW f (RchK (fD l) ws):=⟨j,λx=>by
  rw[g,v_,Δ];exact⟨λh=>h.2,λh=>⟨SG h,h⟩⟩⟩
 rw[AA h];exact h
def Ce (l:List tCommit.den)(ws:List Int):(dj l ws).length≤ws.length+(fD l).length:=by have h:=Yt l ws;have:=mA (b:=ws++(fD l).map (·.id)) (h.1.imp λ{a b} h e=>Ω) λx f=>SG ((h.2 x).1 f);simpa using this
def qZ:∀l:List Com,(fD l).length=bU l
 |[]=>rfl
 |c::l=>by have:=qZ l;simp only[fD,X_,L_,N',bU,tA,e_]at this⊢;rw[this]
def PP (h:HisP 9 l)(T:us.length≤8)(C:∀x∈us,WfI x):uD l us=true:=by
 have R:bnd 9≤108021:=by decide
 have J:=h.sum;have P:=h.len;refine Cd.2 ⟨⟨by simp;omega,λc f=>?_, ?_,λx g=>?_,Ω,C⟩,Ω,h.h0.asc,λc f=>?_⟩
 ·obtain⟨d,p,rfl⟩:=l_.1 f;obtain⟨e,j,rfl⟩:=l_.1 p;have:=jC j;simp only[tA,e_];show(ws e).length≤_;omega
 ·have:=qZ l;unfold fD at this;rw[this];omega
 ·obtain⟨c,f,g⟩:=akI.1 g;obtain⟨d,p,rfl⟩:=l_.1 f;obtain⟨e,j,rfl⟩:=l_.1 p;obtain⟨y,r,rfl⟩:=l_.1 g;have:=h.h0.ids e j y r;exact⟨this.1.wf,this.2.1.wf⟩
 ·have:=h.h0.par c f;have:=h.h0.pic c f;exact⟨Ω,Ω⟩
def KdW (l:List Com)(id k:Int):Prop:=∃c∈l,∃x∈ws c,x.1=id∧x.2.1=1∧x.2.2.1.1=k
def KdP (l:List Com)(id k:Int):Prop:=KdW l id k∨k=0∧∀c∈l,¬Wr (ws c) id 1
def Nc (w:List Cel)(id f:Int)(g:w.length<1000000):Tot (cq w id f) λr=>r.2.1=true→∃c∈w,c.1=id∧c.2.1=f∧c.2.2.1=r.1:=by simp only[cq,lM,tt,il];rw[ao (n:=(w.length:Int)-1) Ω Ω];exact yR w id f g FU _ Ω Ω (by rw[aT];omega)
def Da (l:List Com)(id:Int)(hl:l.length≤20)(j:∀c∈l,(ws c).length<1000000):∀(n:Nat) (R P:List Com),l=P++R→R.length<n→(∀c∈P,¬Wr (ws c) id 1)→Tot (sq n l id P.length) (KdP l id)
 |0,R,P,f,U,J=>Ω
 |n+1,R,P,f,U,J=>by
  show Tot (qG false some (sq n) l id P.length) _;have T:P.length+R.length=l.length:=by rw[f];simp
  simp only[qG,tt,il];rw[ao (n:=(P.length:Int)+1) Ω Ω];cases R with
  |nil=>
   have e:l=P:=by simpa using f
   exact⟨λh=>by simp at h T;omega,λ_=>.inr ⟨rfl,by rw[e];exact J⟩⟩
  |cons c R=>
   have C:(P.length:Int)<l.length:=by simp at T;omega
   have ec:ix tCommit l (P.length:Int)=c:=by rw[f];exact cg (t:=tCommit) P c R
   have p:c∈l:=by rw[f];simp
   rw[ec];refine⟨λ_=>⟨aw Ω C,((hZ (ws c) id 1 (j c p)).and (Nc (ws c) id 1 (j c p))).mono λr ⟨h4,h5⟩=>⟨λe=>?_,λe=>?_⟩⟩,λh=>by simp at h;omega⟩
   ·obtain⟨x,hx,e1,e2,e3⟩:=h5 e;exact .inl ⟨c,p,x,hx,e1,e2,by rw[e3]⟩
   ·have:=Da l id hl j n R (P++[c]) (by rw[f];simp) (by simp at U;omega) λd g=>by
     obtain g|g:=χ.1 g
     ·exact J d g
     ·rw[ξ.1 g];exact λh=>by rw[h4.2 h]at e;cases e
    simpa using this
def H0.wl (h:H0 l):∀c∈l,(ws c).length<1000000:=λc f=>by have:=jC f;have:=h.sum;omega
def GM (h:H0 l)(id:Int):Tot (jg l id) (KdP l id):=by
 have:=h.few;simp only[jg,Ay];exact Da l id h.few h.wl FU l [] rfl (by rw[aT];omega) λc f=>by cases f
def TE (J:ahb l){k:Int}(h:KdP l id k){q:Int}(R:¬q=0):k=q↔KdW l id q:=by
 constructor
 ·rintro rfl;exact h.resolve_right λh=>R h.1
 ·rintro⟨c,g,x,f,p,j,e3⟩;rcases h with⟨d,P,y,r,U,T,f3⟩|⟨_,C⟩
  ·rw[←e3,←f3];exact J d P c g y r x f T j (U.trans p.symm)
  ·exact absurd ⟨x,f,p,j⟩ (C c g)
def Ap {y:WK}:y∈fD l ↔ ∃c∈l,∃x∈ws c,fF x=y:=by
 unfold fD;simp only[akI,l_];constructor
 ·rintro⟨_,⟨_,⟨c,g,rfl⟩,rfl⟩,hy⟩;obtain⟨x,f,e⟩:=l_.1 hy;exact⟨c,g,x,f,e⟩
 ·rintro⟨c,g,x,f,e⟩;exact⟨_,⟨_,⟨c,g,rfl⟩,rfl⟩,l_.2 ⟨x,f,e⟩⟩
def HT {p:WK→Bool}:(fD l).any p=true ↔ ∃c∈l,∃x∈ws c,p (fF x)=true:=by
 rw[ak9];constructor
 ·rintro⟨y,j,e⟩;obtain⟨c,g,x,f,rfl⟩:=Ap.1 j;exact⟨c,g,x,f,e⟩
 ·rintro⟨c,g,x,f,e⟩;exact⟨_,Ap.2 ⟨c,g,x,f,rfl⟩,e⟩
def acG:fb (fD l) id=true↔KdW l id 2∨KdW l id 3:=by
 unfold fb;rw[HT];simp only[η,Y?,M_];constructor
 ·rintro⟨c,g,x,f,p,j,r⟩;exact r.imp (λe=>⟨c,g,x,f,p,j,e⟩) λe=>⟨c,g,x,f,p,j,e⟩
 ·rintro(⟨c,g,x,f,p,j,e⟩|⟨c,g,x,f,p,j,e⟩)
  ·exact⟨c,g,x,f,p,j,.inl e⟩
  ·exact⟨c,g,x,f,p,j,.inr e⟩
def XY:fM (fD l) id=true↔KdW l id 5:=by unfold fM;rw[HT];simp only[η,M_];exact Iff.rfl
def VG {p:Int}:x∈sy (fD l) p ↔ ∃c∈l,∃y∈ws c,(y.2.1=2∧y.2.2.1.2.2.2.1=p)∧y.1=x:=by
 unfold sy;simp only[l_,v_,η,M_];constructor
 ·rintro⟨y,⟨r,j⟩,e⟩;obtain⟨c,g,z,f,rfl⟩:=Ap.1 r;exact⟨c,g,z,f,j,e⟩
 ·rintro⟨c,g,z,f,j,e⟩;exact⟨_,⟨Ap.2 ⟨c,g,z,f,rfl⟩,j⟩,e⟩
structure KSt (l:List Com)(us out:List Int):Prop where
 asc:Asc out
 rch:∀x∈out,RchK (fD l) us x
def Asc.nd {l:List Int}(h:Asc l):l.Nodup:=List.Pairwise.imp (λ{a b} h e=>Ω) h
def KSt.len (h:KSt l us out):out.length≤us.length+bU l:=by have:=mA (b:=us++(fD l).map (·.id)) h.asc.nd λx f=>SG (h.rch x f);rw[N',e_,qZ]at this;exact this
def ClW (out:List Int)(x:Cel):Prop:=x.2.1=2→x.2.2.1.2.2.2.1∈out→x.1∈out
structure PSt (l:List Com)(us out0 out:List Int)(more:Bool)(D:Cel→Prop):Prop where
 k:KSt l us out
 sub:∀x∈out0,x∈out
 gr:more=true→out0.length<out.length
 st:more=false→out=out0∧∀x,D x→ClW out0 x
def PSt.put {f r:List Int}{D D':Cel→Prop}(h:PSt l us f out more D)(J:KSt l us f){c:Com}(P:c∈l){x:Cel}(C:x∈ws c)(h1:x.2.1=2)(U:x.2.2.1.2.2.2.1∈out)(T:¬x.1∈out)(j:∀y,y∈r↔y∈out∨y=x.1)(R:Asc r):PSt l us f r true D':=by
 have p:∀y∈f,y∈r:=λy g=>(j y).2 (.inl (h.sub y g));refine⟨⟨R,λy g=>?_⟩,p,λ_=>?_,λe=>by cases e⟩
 ·rcases(j y).1 g with g|rfl
  ·exact h.k.rch y g
  ·exact .step (h.k.rch _ U) (VG.2 ⟨c,P,x,C,⟨h1,rfl⟩,rfl⟩)
 ·have:=mA (a:=x.1::f) (b:=r) (X?.2 ⟨λe=>T (h.sub _ e),J.asc.nd⟩) λy g=>by
   obtain rfl|g:=J'.1 g
   ·exact(j _).2 (.inr rfl)
   ·exact p y g
  exact this
def PSt.next {f:List Int}{D j:Cel→Prop}(h:PSt l us f out more D)(r:∀x,j x→D x∨ClW out x):PSt l us f out more j :=
 ⟨h.k,h.sub,h.gr,λe=>⟨(h.st e).1,λx p=>(r x p).elim ((h.st e).2 x) λg=>by rw[(h.st e).1]at g;exact g⟩⟩
def DnW (P:List Com)(p:List Cel)(x:Cel):Prop:=(∃c∈P,x∈ws c)∨x∈p
def xM {l:List Com}(hl:H0 l){us g:List Int}(hu:us.length≤8)(hk0:KSt l us g)(P:List Com)(c:Com)(R:List Com)(hT:l=P++c::R)(k9:cF (List Int))(k:dA (List Int))(Q:List Int→Prop)
  (hk:∀out more,PSt l us g out more (DnW (P++[c]) [])→Tot (k l out more ((P.length:Int)+1)) Q):∀(n:Nat) (r p:List Cel) (out:List Int) (more:Bool),ws c=p++r→r.length<n→PSt l us g out more (DnW P p)→Tot (gW k9 k n l P.length out more p.length) Q
 |0,r,p,out,more,h1,h2,h3=>Ω
 |n+1,r,p,out,more,h1,h2,h3=>by
  show Tot (mN false some (gW k9 k n) k l P.length out more p.length) _;have hcl:c∈l:=by rw[hT];simp
  have hfew:=hl.few;have hsum:=hl.sum;have U:(P.length:Int)<l.length:=by rw[hT];simp;omega
  have ec:ix tCommit l (P.length:Int)=c:=by rw[hT];exact cg (t:=tCommit) P c R
  have hwc:=jC hcl;have hp:p.length+r.length=(ws c).length:=by rw[h1];simp
  have hlen:=h3.k.len;simp only[mN,e7,tt,il];rw[ec,ao (n:=(p.length:Int)+1) Ω Ω,ao (n:=(P.length:Int)+1) Ω Ω];cases r with
  |nil=>
   refine⟨aw Ω U,λh=>?_,λ_=>hk out more (h3.next λx C=>.inl ?_)⟩
   ·simp at hp;have:¬((p.length:Int)<((ws c).length:Int)):=Ω
    exact absurd (d_ h) this
   ·rcases C with⟨d,hd,C⟩|C
    ·obtain hd|hd:=χ.1 hd
     ·exact .inl ⟨d,hd,C⟩
     ·rw[ξ.1 hd]at C;exact .inr (by rw[h1]at C;simpa using C)
    ·cases C
  |cons x r=>
   have C:x∈ws c:=by rw[h1];simp
   have ht:(p.length:Int)<(ws c).length:=by simp at hp;omega
   have ex:ix aa (ws c) (p.length:Int)=x:=by rw[h1];exact cg (t:=aa) p x r
   have next:∀j f,PSt l us g j f (DnW P (p++[x]))→Tot (gW k9 k n l P.length j f ((p.length:Int)+1)) Q:=λj f h=>by have:=xM hl hu hk0 P c R hT k9 k Q hk n r (p++[x]) j f (by rw[h1];simp) (by simp at h2;omega) h;simpa using this
   have old:(ClW out x)→PSt l us g out more (DnW P (p++[x])):=λh=>h3.next λy J=>by
    obtain J|J:=J
    ·exact .inl (.inl J)
    ·obtain J|J:=χ.1 J
     ·exact .inl (.inr J)
     ·rw[ξ.1 J];exact .inr h
   rw[ex];refine⟨aw Ω U,λ_=>⟨aw Ω U,aw Ω ht,am λ_=>jx _ _ Ω,am λ_=>jx _ _ Ω,λT=>?_,λT=>next out more (old λe1 e2=>?_)⟩,λh=>absurd ht (C? h)⟩
   ·rw[iN _ _ Ω,iN _ _ Ω]at T;simp at T;exact(ud out x.1 Ω).mono λr' hr=>next r' true (h3.put hk0 hcl C T.1.1 T.1.2 T.2 hr.2.1 (hr.2.2 h3.k.asc))
   ·rw[iN _ _ Ω,iN _ _ Ω,dt e1,dt e2]at T;simpa using T
def xN {l:List Com}(T:H0 l){us f:List Int}(U:us.length≤8)(C:KSt l us f)(j:cF (List Int))(Q:List Int→Prop)(hk:∀out more,PSt l us f out more (DnW l [])→Tot (j l out more) Q):∀(n:Nat) (R P:List Com) (out:List Int) (more:Bool),l=P++R→R.length<n→PSt l us f out more (DnW P [])→Tot (j6 j n l out more P.length) Q
 |0,R,P,out,more,p,h2,J=>Ω
 |n+1,R,P,out,more,p,h2,J=>by
  show Tot (mO false some (gW j (j6 j n) FU) j l out more P.length) _;have hP:P.length+R.length=l.length:=by rw[p];simp
  simp only[mO,tt,il];cases R with
  |nil=>
   have e:l=P:=by simpa using p
   exact⟨λh=>by simp at h hP;omega,λ_=>hk out more (by rw[←e]at J;exact J)⟩
  |cons c R=>
   have hc:c∈l:=by rw[p];simp
   have hw:=T.wl c hc;refine⟨λ_=>xM T U C P c R p j _ Q (λr g h=>?_) FU (ws c) [] out more rfl (by rw[aT];omega) J,λh=>by simp at h hP;omega⟩;have:=xN T U C j Q hk n R (P++[c]) r g (by rw[p];simp) (by simp at h2;omega) h;simpa using this
def AD {l:List Com}(J:H0 l){us:List Int}(hu:us.length≤8):∀(n:Nat) (out:List Int) (more:Bool),KSt l us out→(∀x∈us,fb (fD l) x=true→x∈out)→(more=true→us.length+bU l-out.length+1<n)→(more=false→0<n∧∀x,DnW l [] x→ClW out x)→Tot (mK n l out more) λr=>iW r (RchK (fD l) us)
 |0,out,more,p,U,C,T=>by
  cases more
  ·exact absurd (T rfl).1 Ω
  ·have:=C rfl;omega
 |n+1,out,more,p,U,C,T=>by
  show Tot (qH false some (j6 (mK n) FU) l out more) _;have hfew:=J.few;simp only[qH,tt];refine⟨λe=>?_,λe=>⟨p.asc,λx=>⟨p.rch x,λh=>?_⟩⟩⟩
  ·refine xN J hu p _ _ (λj f h=>?_) FU l [] out false rfl (by rw[aT];omega) ⟨p,λ_ h=>h,λe=>(by cases e),λ_=>⟨rfl,λx g=>?_⟩⟩
   ·have C:=C e;have hb:=h.k.len;refine AD J hu n j f h.k (λx g P=>h.sub x (U x g P)) (λe=>?_) λe=>⟨Ω,λx g=>?_⟩
    ·have:=h.gr e;omega
    ·rw[(h.st e).1];exact(h.st e).2 x g
   ·rcases g with⟨d,P,_⟩|g
    ·cases P
    ·cases g
  ·have R:=(T e).2;induction h with
   |root a b=>exact U _ a b
   |step _ b ih =>obtain⟨c,hc,y,hy,⟨e1,e2⟩,rfl⟩:=VG.1 b;exact R y (.inl ⟨c,hc,hy⟩) e1 (by rw[e2];exact ih)
def AE {l:List Com}(p:H0 l){us:List Int}(hu:us.length≤8):∀(n:Nat) (R P out:List Int),us=P++R→R.length<n→KSt l us out→(∀x∈P,fb (fD l) x=true→x∈out)→Tot (mM n l us out P.length) λr=>iW r (RchK (fD l) us)
 |0,R,P,out,J,h2,C,h4=>Ω
 |n+1,R,P,out,J,h2,C,h4=>by
  show Tot (qI false some (mM n) (mK FU) l us out P.length) _;have hP:P.length+R.length=us.length:=by rw[J];simp
  have hlen:=C.len;have hsum:=p.sum;simp only[qI,gX,tt,il];rw[ao (n:=(P.length:Int)+1) Ω Ω];cases R with
  |nil=>
   have e:us=P:=by simpa using J
   exact⟨λh=>by simp at h hP;omega,λ_=>AD p hu FU out true C (by rw[e];exact h4) (λ_=>by rw[aT];omega) λe=>by cases e⟩
  |cons x R=>
   have T:(P.length:Int)<us.length:=by simp at hP;omega
   have ex:ix tInt us (P.length:Int)=x:=by rw[J];exact cg (t:=tInt) P x R
   have next:∀f,KSt l us f→(∀y∈P++[x],fb (fD l) y=true→y∈f)→Tot (mM n l us f ((P.length:Int)+1)) λr=>iW r (RchK (fD l) us):=λf a b=>by have:=AE p hu n R (P++[x]) f (by rw[J];simp) (by simp at h2;omega) a b;simpa using this
   rw[ex];refine⟨λ_=>⟨aw Ω T,(GM p x).mono λq hq=>?_⟩,λh=>by simp at h;omega⟩;have U:(bif decide (q=2)then true else decide (q=3))=true↔fb (fD l) x=true:=by rw[acG,←TE p.kc hq Ϛ,←TE p.kc hq Ϛ];simp
   refine⟨λe=>⟨aw Ω T,(ud out x Ω).mono λr hr=>next r ⟨hr.2.2 C.asc,λy g=>?_⟩ λy g U=>?_⟩,λe=>next out C λy g j=>?_⟩
   ·rcases(hr.2.1 y).1 g with g|rfl
    ·exact C.rch y g
    ·exact .root (by rw[J];simp) (U.1 e)
   ·rw[hr.2.1];obtain g|g:=χ.1 g
    ·exact .inl (h4 y g U)
    ·exact .inr (ξ.1 g)
   ·obtain g|g:=χ.1 g
    ·exact h4 y g j
    ·rw[ξ.1 g]at j;rw[U.2 j]at e;cases e
def GQ (p:H0 l)(g:us.length≤8):Tot (lD l us) λr=>r=dj l us:=by simp only[lD,AC];refine(AE p g FU us [] [] rfl (by rw[aT];omega) ⟨List.Pairwise.nil,λx f=>by cases f⟩ λx f=>by cases f).mono λr j=>(AA j).symm
def RfW (K:List Int)(x:Cel)(y:Int):Prop:=x.2.1=4∧¬x.2.2.1.2.2.2.1=0∧x.1∈K∧x.2.2.1.2.2.2.1=y
structure RSt (K:List Int)(P:List Com)(p:List Cel)(out:List Int):Prop where
 asc:Asc out
 mem:∀y,y∈out ↔ ∃x,DnW P p x∧RfW K x y
 len:out.length≤bU P+p.length
def zL {l:List Com}(hl:H0 l){K:List Int}(hK:K.length<1000000)(P:List Com)(c:Com)(R:List Com)(hT:l=P++c::R)(k:aI (List Int))(Q:List Int→Prop)
  (hk:∀out,RSt K (P++[c]) [] out→Tot (k l K out ((P.length:Int)+1)) Q):∀(n:Nat) (r p:List Cel) (out:List Int),ws c=p++r→r.length<n→RSt K P p out→Tot (jf k n l K P.length out p.length) Q
 |0,r,p,out,h1,h2,C=>Ω
 |n+1,r,p,out,h1,h2,C=>by
  show Tot (qe false some (jf k n) k l K P.length out p.length) _;have hcl:c∈l:=by rw[hT];simp
  have hfew:=hl.few;have hsum:=hl.sum;have U:(P.length:Int)<l.length:=by rw[hT];simp;omega
  have ec:ix tCommit l (P.length:Int)=c:=by rw[hT];exact cg (t:=tCommit) P c R
  have hwc:=jC hcl;have hp:p.length+r.length=(ws c).length:=by rw[h1];simp
  have hws:bU P+((ws c).length+bU R)=bU l:=by rw[hT,co];rfl
  have hlen:=C.len;simp only[qe,lw,tt,il];rw[ec,ao (n:=(p.length:Int)+1) Ω Ω,ao (n:=(P.length:Int)+1) Ω Ω];cases r with
  |nil=>
   have e:ws c=p:=by simpa using h1
   refine⟨aw Ω U,λh=>?_,λ_=>hk out ⟨C.asc,λy=>(C.mem y).trans ⟨λ⟨x,g,h⟩=>⟨x,.inl ?_,h⟩,λ⟨x,g,h⟩=>⟨x, ?_,h⟩⟩, ?_⟩⟩
   ·simp at hp;have:¬((p.length:Int)<((ws c).length:Int)):=Ω
    exact absurd (d_ h) this
   ·rcases g with⟨d,T,g⟩|g
    ·exact⟨d,B_ _ T,g⟩
    ·exact⟨c,Ψ,by rw[e];exact g⟩
   ·rcases g with⟨d,T,g⟩|g
    ·obtain T|T:=χ.1 T
     ·exact .inl ⟨d,T,g⟩
     ·rw[ξ.1 T,e]at g;exact .inr g
    ·cases g
   ·rw[co];show _≤bU P+((ws c).length+0)+0;rw[e];omega
  |cons x r=>
   have ht:(p.length:Int)<(ws c).length:=by simp at hp;omega
   have ex:ix aa (ws c) (p.length:Int)=x:=by rw[h1];exact cg (t:=aa) p x r
   have next:∀f,RSt K P (p++[x]) f→Tot (jf k n l K P.length f ((p.length:Int)+1)) Q:=λf h=>by have:=zL hl hK P c R hT k Q hk n r (p++[x]) f (by rw[h1];simp) (by simp at h2;omega) h;simpa using this
   have dn:∀y,DnW P (p++[x]) y↔DnW P p y∨y=x:=λy=>by unfold DnW;rw[χ,ξ,or_assoc]
   rw[ex];refine⟨aw Ω U,λ_=>⟨aw Ω U,aw Ω ht,am λ_=>jx _ _ hK,λJ=>?_,λJ=>next out ⟨C.asc,λy=>(C.mem y).trans ⟨λ⟨z,j,h⟩=>⟨z,(dn z).2 (.inl j),h⟩,λ⟨z,j,h⟩=>?_⟩,by simp;omega⟩⟩,λh=>absurd ht (C? h)⟩
   ·rw[iN _ _ hK]at J;simp at J;refine(ud out _ Ω).mono λq hq=>next q ⟨hq.2.2 C.asc,λy=>(hq.2.1 y).trans ⟨?_, ?_⟩,by have:=hq.1;simp;omega⟩
    ·rintro(hy|rfl)
     ·obtain⟨z,j,h⟩:=(C.mem y).1 hy;exact⟨z,(dn z).2 (.inl j),h⟩
     ·exact⟨x,(dn x).2 (.inr rfl),J.1.1,J.1.2,J.2,rfl⟩
    ·rintro⟨z,j,h⟩;rcases(dn z).1 j with j|rfl
     ·exact .inl ((C.mem y).2 ⟨z,j,h⟩)
     ·exact .inr h.2.2.2.symm
   ·rcases(dn z).1 j with j|rfl
    ·exact⟨z,j,h⟩
    ·rw[iN _ _ hK,dt h.1,df h.2.1,dt h.2.2.1]at J;cases J
def zM {l:List Com}(p:H0 l){K:List Int}(C:K.length<1000000):∀(n:Nat) (R P:List Com) (out:List Int),l=P++R→R.length<n→RSt K P [] out→Tot (rT n l K out P.length) (RSt K l [])
 |0,R,P,out,f,J,j=>Ω
 |n+1,R,P,out,f,J,j=>by
  show Tot (qf false some (jf (rT n) FU) l K out P.length) _;have r:P.length+R.length=l.length:=by rw[f];simp
  simp only[qf,tt,il];cases R with
  |nil=>
   have e:l=P:=by simpa using f
   exact⟨λh=>by simp at h r;omega,λ_=>by rw[←e]at j;exact j⟩
  |cons c R =>have T:=p.wl c (by rw[f];simp);refine⟨λ_=>zL p C P c R f _ _ (λg h=>?_) FU (ws c) [] out rfl (by rw[aT];omega) j,λh=>by simp at h r;omega⟩;have:=zM p C n R (P++[c]) g (by rw[f];simp) (by simp at J;omega) h;simpa using this
def Su (g:H0 l)(p:K.length<1000000):Tot (qg l K) (RSt K l []):=by
 have:=g.few;simp only[qg,zK];refine zM g p FU l [] [] rfl (by rw[aT];omega) ⟨List.Pairwise.nil,λy=>⟨λh=>(by cases h),λ⟨x,f,_⟩=>?_⟩,Ψ⟩;rcases f with⟨d,j,_⟩|f
 ·cases j
 ·cases f
def Yc (h:RSt K l [] M)(y:Int):fO (λx=>K.contains x) (fD l) y=true↔y∈M:=by
 unfold fO;rw[HT,h.mem];simp only[η,M_,O_,akf,P'];constructor
 ·rintro⟨c,g,x,f,C,r,p,j⟩;exact⟨x,.inl ⟨c,g,f⟩,r,j,p,C⟩
 ·rintro⟨x,⟨c,g,f⟩|f,r,j,p,C⟩
  ·exact⟨c,g,x,f,C,r,p,j⟩
  ·cases f
def V6 (f:List Int)(h:f.Pairwise λa b=>a≤b):∀m,m≤f.length→Asc (Lib.compactUpTo f.toArray m)∧∀x,x∈Lib.compactUpTo f.toArray m↔x∈f.take m
 |0,_=>⟨List.Pairwise.nil,λx=>by simp[Lib.compactUpTo]⟩
 |m+1,hm=>by
  obtain⟨r,p⟩:=V6 f h m Ω;have gt:∀j (q:j<f.length),f.toArray[j]! = f[j]:=λj q=>by simp[q]
  rw[Lib.compactUpTo_succ,gt m Ω,Z' Ω];by_cases g:Lib.keeps f.toArray m=true
  ·rw[G' g];refine⟨s_.2 ⟨r,alY ..,λa T b R=>?_⟩,λx=>by rw[χ,χ,p]⟩;rw[ξ.1 R];obtain⟨j,P,rfl⟩:=A_.1 ((p a).1 T);have J:j<m:=by simp at P;omega
   rw[akE];unfold Lib.keeps at g;rw[gt m Ω,gt (m-1) Ω]at g;have C:=(d_ g).resolve_left Ω;have a1:f[j]≤f[m-1]:=by
    by_cases e:j=m-1
    ·simp only[e];exact alk _
    ·exact x_.1 h j (m-1) Ω Ω Ω
   have U:=x_.1 h (m-1) m Ω Ω Ω;omega
  ·rw[Θ g,i?];refine⟨r,λx=>by
    rw[p,χ,ξ];refine⟨.inl,λh=>h.elim (λf=>f) ?_⟩;rintro rfl;unfold Lib.keeps at g;rw[Δ]at g;have g:=not_or.1 g;have l:=Classical.not_not.1 g.2;rw[gt m Ω,gt (m-1) Ω]at l;rw[l];exact A_.2 ⟨m-1,by simp;omega,Ψ⟩⟩
def zy (l:List Int):Asc (zA l)∧∀x,x∈zA l↔x∈l:=by
 have j:(l.mergeSort λx y=>decide (x≤y)).Pairwise λa b=>a≤b :=
  (alZ (le:=λx y:Int=>decide (x≤y)) (λa b c g f=>by simp at *;omega) (λa b=>by simp;omega) l).imp λh=>d_ h
 obtain⟨g,f⟩:=V6 _ j _ (ζ _);refine⟨g,λx=>(f x).trans ?_⟩;rw[S_,List.mem_mergeSort]
def ah1 {f:Int}(h:1≤f)(p:¬f=1)(l:¬f=2)(j:¬f=3)(g:f≤3):False:=Ω
def afm (j:H0 l)(us:List Int)(C:RSt (dj l us) l [] M){x:Cel}{k:Int}(p:KdP l x.1 k)(r:1≤x.2.1) :
  cQ l us (fF x)=(bif (bif decide (x.1∈dj l us)then true else(bif decide (x.2.1≤3)then !decide (k=5)else false))then true else(bif (bif (bif decide (x.2.1=1)then true else decide (x.2.1=2))then true else decide (x.2.1=4))then decide (x.1∈M)else false)):=by
 have U:(dj l us).contains x.1=decide (x.1∈dj l us):=by rw[alM,O_,Δ]
 have T:fO (λx=>(dj l us).contains x) (fD l) x.1=decide (x.1∈M):=by rw[alM,Yc C,Δ]
 have R:fM (fD l) x.1=decide (k=5):=by rw[alM,XY,←TE j.kc p Ϛ,Δ]
 show qM (λx=>(dj l us).contains x) (fM (fD l)) (fO (λx=>(dj l us).contains x) (fD l)) (fF x)=_;unfold qM;have P:(fF x).fd=x.2.1:=rfl;have J:(fF x).id=x.1:=rfl;rw[P,J];show(if _ then(dj l us).contains x.1||_ else _)=_;rw[U,T,R];by_cases c1:x.2.1=1
 ·simp[c1,Bool.or_assoc]
 ·by_cases c2:x.2.1=2
  ·simp[c2,Bool.or_assoc]
  ·by_cases f:x.2.1=3
   ·simp[f]
   ·by_cases g:x.2.1=4
    ·simp[g]
    ·have c5:¬x.2.1≤3:=λh=>ah1 r c1 c2 f h;simp[c1,c2,f,g,c5]
def xK {l:List Com}(h:HisP 9 l){us:List Int}(hu:us.length≤8){M:List Int}(hM:RSt (dj l us) l [] M)(b0:List Int)(P:List Com)(c:Com)(R:List Com)(U:l=P++c::R)(k:eY ba.den)(Q:ba.den→Prop)
  (hk:Tot (k l (dj l us) M ((P.length:Int)+1) b0 ((P++[c]).map (tm (cQ l us)))) Q):∀(n:Nat) (r p:List Cel),ws c=p++r→r.length<n→Tot (jZ k n l (dj l us) M P.length b0 (P.map (tm (cQ l us))) p.length c.1 c.2.1 c.2.2.1 c.2.2.2.1 (p.filter λx=>cQ l us (fF x)) ((p.countP λx=>!cQ l us (fF x):Nat):Int)) Q
 |0,r,p,j,h2=>Ω
 |n+1,r,p,j,h2=>by
  show Tot (mH false some (jZ k n) k l (dj l us) M P.length b0 (P.map (tm (cQ l us))) p.length c.1 c.2.1 c.2.2.1 c.2.2.2.1 (p.filter λx=>cQ l us (fF x)) ((p.countP λx=>!cQ l us (fF x):Nat):Int)) _;have C:=h.h0;have T:c∈l:=by rw[U];simp
  have hfew:=C.few;have hsum:=C.sum;have g:(P.length:Int)<l.length:=by rw[U];simp;omega
  have ec:ix tCommit l (P.length:Int)=c:=by rw[U];exact cg (t:=tCommit) P c R
  have hwc:=jC T;have hp:p.length+r.length=(ws c).length:=by rw[j];simp
  have hKl:=Ce l us;rw[qZ]at hKl;have hMl:=hM.len;simp only[y?,akS]at hMl;have hcnt:(p.countP λx=>!cQ l us (fF x))≤p.length:=amd ..;have hfil:(p.filter λx=>cQ l us (fF x)).length≤p.length:=F_ ..;simp only[mH,gE,tt,il];rw[ec,ao (n:=(p.length:Int)+1) Ω Ω,ao (n:=(P.length:Int)+1) Ω Ω];cases r with
  |nil=>
   have e:ws c=p:=by simpa using j
   refine⟨aw Ω g,λh=>?_,λ_=>⟨ez Ξ, ?_⟩⟩
   ·simp at hp;have:¬((p.length:Int)<((ws c).length:Int)):=Ω
    exact absurd (d_ h) this
   ·rw[H?]at hk;rw[←e];exact hk
  |cons x r=>
   have hx:x∈ws c:=by rw[j];simp
   have ht:(p.length:Int)<(ws c).length:=by simp at hp;omega
   have ex:ix aa (ws c) (p.length:Int)=x:=by rw[j];exact cg (t:=aa) p x r
   have next:=xK h hu hM b0 P c R U k Q hk n r (p++[x]) (by rw[j];simp) (by simp at h2;omega)
   have J:=GM C x.1;have hkg:Vx l x.1=true:=J.some;have hkF:KdP l x.1 (cZ l x.1):=J.getD _;have f:=afm C us hM hkF ((C.ids c T x hx).2.2);rw[ex];rw[iN M x.1 Ω,jx M x.1 Ω,hkg];refine⟨aw Ω g,λ_=>⟨aw Ω g,aw Ω ht,_,Eh _ _ Ω, ?_⟩,λh=>absurd ht (C? h)⟩;have e1:(p++[x]).filter (λx=>cQ l us (fF x))=(p.filter λx=>cQ l us (fF x))++(if cQ l us (fF x)=true then[x]else[]):=by rw[n?];congr 1;cases h:cQ l us (fF x) <;> simp[h]
   have e2:(p++[x]).countP (λx=>!cQ l us (fF x))=(p.countP λx=>!cQ l us (fF x))+(if cQ l us (fF x)=true then 0 else 1):=by rw[alr];congr 1;cases h:cQ l us (fF x) <;> simp[h]
   have hn:(((p++[x]).length:Nat):Int)=(p.length:Int)+1:=by simp
   rw[e1,e2,hn]at next
   dsimp only;rw[←f];have ti:∀{a b:Bool},aL a (ii b)=true:=am λ_=>aC _;have tj:∀{a b:Bool},aL a (ii b&&true)=true:=am λ_=>by rw[t?];exact aC _
   refine⟨am λ_=>rfl,tj,ti,ti,am λ_=>rfl,tj,λe=>⟨ez (by show(p.filter λx=>cQ l us (fF x)).length+1≤_;omega), ?_⟩,λe=>?_⟩
   ·rw[G' e,G' e]at next;exact next
   ·rw[Θ (by rw[e];decide),Θ (by rw[e];decide),i?]at next
    rw[ao (n:=((p.countP λx=>!cQ l us (fF x):Nat):Int)+1) Ω Ω];exact next
def At {l:List Com}(h:HisP 9 l){us:List Int}(p:us.length≤8){M:List Int}(J:RSt (dj l us) l [] M)(g:List Int):∀(n:Nat) (R P:List Com),l=P++R→R.length<n→Tot (mG n l (dj l us) M P.length g (P.map (tm (cQ l us)))) λr=>r=(g,l.map (tm (cQ l us)),())
 |0,R,P,f,T=>Ω
 |n+1,R,P,f,T=>by
  show Tot (qw false some (jZ (mG n) FU) l (dj l us) M P.length g (P.map (tm (cQ l us)))) _;have C:P.length+R.length=l.length:=by rw[f];simp
  simp only[qw,tt,il];cases R with
  |nil=>
   have e:l=P:=by simpa using f
   exact⟨λh=>by simp at h C;omega,λ_=>by rw[←e]⟩
  |cons c R=>
   have hw:=h.h0.wl c (by rw[f];simp);have j:(P.length:Int)<l.length:=by simp at C;omega
   have U:ix tCommit l (P.length:Int)=c:=by rw[f];exact cg (t:=tCommit) P c R
   rw[U];refine⟨λ_=>⟨aw Ω j, ?_⟩,λh=>by simp at h;omega⟩;refine xK h p J g P c R f _ _ ?_ FU (ws c) [] rfl (by rw[aT];omega);have:=At h p J g n R (P++[c]) (by rw[f];simp) (by simp at T;omega);simpa using this
def Au {l:List Com}(h:HisP 9 l){us:List Int}(C:us.length≤8):∀(n:Nat) (R P f:List Int),us=P++R→R.length<n→Asc f→(∀x,x∈f↔x∈P)→f.length≤P.length→Tot (sj n l us P.length f []) λr=>r=gS l us
 |0,R,P,f,j,h2,h3,U,h5=>Ω
 |n+1,R,P,f,j,h2,h3,U,h5=>by
  show Tot (qx false some (sj n) (mG FU) l us P.length f []) _;have p:=h.h0;have hP:P.length+R.length=us.length:=by rw[j];simp
  simp only[qx,tt,il];rw[ao (n:=(P.length:Int)+1) Ω Ω];cases R with
  |nil=>
   have e:us=P:=by simpa using j
   have T:=Ce l us;rw[qZ]at T;have hs:=p.sum;refine⟨λh=>by simp at h hP;omega,λ_=>(GQ p C).mono λq hq=>?_⟩;rw[hq];refine(Su p Ω).mono λM hM=>?_;have:=At h C hM f FU l [] rfl (by have:=p.few;rw[aT];omega);refine this.mono λr g=>?_;rw[g];have e0:f=zA us:=Ur h3 (zy us).1 λx=>(U x).trans (by rw[(zy us).2,e]);rw[e0];rfl
  |cons x R=>
   have J:(P.length:Int)<us.length:=by simp at hP;omega
   have ex:ix tInt us (P.length:Int)=x:=by rw[j];exact cg (t:=tInt) P x R
   rw[ex];refine⟨λ_=>⟨aw Ω J,(ud f x Ω).mono λr g=>?_⟩,λh=>by simp at h;omega⟩;have:=Au h C n R (P++[x]) r (by rw[j];simp) (by simp at h2;omega) (g.2.2 h3) (λy=>by rw[g.2.1,U];simp) (by have:=g.1;simp;omega);simpa using this
def Tj (h:HisP 9 l)(f:us.length≤8):Tot (lB l us) λr=>r=gS l us:=by simp only[lB,As];exact Au h f FU us [] [] rfl (by rw[aT];omega) List.Pairwise.nil (λx=>Iff.rfl) (ζ _)
def Fg (a:List Int)(j:a.length<1000000):∀(n:Nat) (i:Int),0≤i→i≤a.length→a.length-i<n→Tot (vV n a a i) λr=>r=true
 |0,i,g,p,l=>Ω
 |n+1,i,g,p,l=>by show Tot (tT false some (vV n) a a i) _;simp only[tT,tt,il];intro f;have f:i<a.length:=d_ f;rw[ao (n:=i+1) Ω Ω];exact⟨aw g f,aw g f,λh=>by simp at h,λ_=>Fg a j n (i+1) Ω Ω Ω⟩
def ll (a:List Int)(f:a.length<1000000):Tot (jN a a) λr=>r=true:=by simp only[jN,DP,tt];exact⟨λh=>by simp at h,λ_=>Fg a f FU 0 Ω Ω (by rw[aT];omega)⟩
def Fh (a:Com)(l:(ws a).length<1000000):∀(n:Nat) (i:Int),0≤i→i≤(ws a).length→(ws a).length-i<n→Tot (vX n a a i) λr=>r=true
 |0,i,j,C,p=>Ω
 |n+1,i,j,C,p=>by show Tot (tU false some (vX n) a a i) _;simp only[tU,tt,il];intro f;have f:i<(ws a).length:=d_ f;rw[ao (n:=i+1) Ω Ω];have g:bd i (ws a).length=true:=aw j f;exact⟨g,g,λh=>(by rw[Hm aa _ rfl]at h;cases h),λ_=>Fh a l n (i+1) Ω Ω Ω⟩
def Xu (a:Com)(g:a.2.1.length<1000000)(f:a.2.2.1.length<1000000)(j:(ws a).length<1000000):Tot (p9 a a) λr=>r=true:=by have J:Lh a.2.1 a.2.1=true:=(ll _ g).some;have C:rL a.2.1 a.2.1=true:=(ll _ g).getD _;have p:Lh a.2.2.1 a.2.2.1=true:=(ll _ f).some;have l:rL a.2.2.1 a.2.2.1=true:=(ll _ f).getD _;simp only[p9,DR,tt];rw[J,C,p,l];exact⟨am λ_=>rfl,am λ_=>rfl,λh=>by simp at h,λ_=>Fh a j FU 0 Ω Ω (by rw[aT];omega)⟩
def CY (a:ba.den)(J:a.2.1.length<1000000)(C:∀p∈a.2.1,p.1.2.1.length<1000000∧p.1.2.2.1.length<1000000∧(ws p.1).length<1000000):∀(n:Nat) (i:Int),0≤i→i≤a.2.1.length→a.2.1.length-i<n→Tot (rN n a a i) λr=>r=true
 |0,i,j,T,R=>Ω
 |n+1,i,j,T,R=>by show Tot (qb false some (rN n) a a i) _;simp only[qb,tt,il];intro f;have f:i<a.2.1.length:=d_ f;have P:bd i a.2.1.length=true:=aw j f;have g:=C _ (gF (t:=aq) j f);have l:=Xu _ g.1 g.2.1 g.2.2;have e1:aaw (ix aq a.2.1 i).1 (ix aq a.2.1 i).1=true:=l.some;have U:aax (ix aq a.2.1 i).1 (ix aq a.2.1 i).1=true:=l.getD _;rw[ao (n:=i+1) Ω Ω,e1,U,P];exact⟨rfl,rfl,am λ_=>rfl,am λ_=>rfl,am λ_=>rfl,λh=>by simp at h,λ_=>CY a J C n (i+1) Ω Ω Ω⟩
def Sj (a:ba.den)(l:a.1.length<1000000)(g:a.2.1.length<1000000)(j:∀p∈a.2.1,p.1.2.1.length<1000000∧p.1.2.2.1.length<1000000∧(ws p.1).length<1000000):Tot (lr a a) λr=>r=true:=by simp only[lr,zD,tt];refine(ll _ l).mono λr f=>⟨λh=>by rw[f]at h;simp at h,λ_=>CY a g j FU 0 Ω Ω (by rw[aT];omega)⟩
def Ye (h:HisP 9 l)(T:us.length≤8):(gS l us).1.length<1000000∧(gS l us).2.1.length<1000000∧∀p∈(gS l us).2.1,p.1.2.1.length<1000000∧p.1.2.2.1.length<1000000∧(ws p.1).length<1000000:=by
 have f:=h.h0;have e:(gS l us).2.1=l.map (tm (cQ l us)):=rfl;refine⟨?_,by rw[e,e_];have:=f.few;omega,λp j=>?_⟩
 ·have:=mA (zy us).1.nd λx r=>((zy us).2 x).1 r;exact D? this Ω
 ·rw[e]at j;obtain⟨c,g,rfl⟩:=l_.1 j;have R:=f.par c g;have P:=f.pic c g;have J:=f.wl c g;have C:(ws (tm (cQ l us) c).1).length≤(ws c).length:=F_ ..;exact⟨D? R Ω,D? P Ω,D? C J⟩
def Ma (first:Int)(l:List bg.den)(x:List Int):Tot (gU first l x) λr=>r=true:=by simp only[gU,sk,tt];refine(Ml first l).mono λh f=>(Ry f x).mono λus j=>⟨PP f Ω j.2,(GQ f.h0 Ω).mono λq T=>?_⟩;rw[T];have J:=Ce h us;rw[qZ]at J;have hw:=f.h0.sum;have C:=Tj f (us:=us) Ω;have e1:Vr h us=true:=C.some;have e2:D7 h us=gS h us:=C.getD (P:=λr=>r=gS h us) _;have g:=Ye f (us:=us) Ω;have p:=Sj _ g.1 g.2.1 g.2.2;have e3:UY (gS h us) (gS h us)=true:=p.some;have U:Li (gS h us) (gS h us)=true:=p.getD (P:=λr=>r=true) _;rw[e2,e1,e3,U,PP f Ω j.2];refine(ll _ Ω).mono λr R=>?_;rw[R];exact⟨rfl,rfl,rfl,rfl⟩
