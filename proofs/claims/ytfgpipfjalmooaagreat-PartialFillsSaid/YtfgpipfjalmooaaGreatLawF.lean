/- The law PartialFills. -/
import Derived.Test.YtfgpipfjalmooaaGreatTotK
import Derived.Test.YtfgpipfjalmooaaGreatGenI
set_option linter.all false
noncomputable section
namespace Go.Proofs.YtfgpipfjalmooaaGreat
namespace Abs
open Go
def WfI (x:Int):Prop:=(Lit.int .i64 x).wf=true
variable{x id:Int}{l t:List Com}{s:Sta}{us out K M:List Int}{more:Bool}{w:List Cel}{c:am.den}
def ZW (l:0≤x)(j:x<9223372036854775807):WfI x:=by have g:IntKind.min .i64 = -9223372036854775808:=rfl;have f:IntKind.max .i64=9223372036854775807:=rfl;show(decide (IntKind.min .i64≤x)&&decide (x≤IntKind.max .i64))=true;rw[g,f,ι,ρ,ρ];omega
def dT.wf (h:dT x):WfI x:=ZW (by have:=h.1;omega) (by have:=h.2.1;omega)
def ad8 (C:H0 l)(h:AtP l s):∀x∈s.1,WfI x.1:=λx g=>by
 obtain⟨T,P,J,_,h⟩:=h;have f:=(h.alts x g).1;cases j:x.2.2.1 with
 |nil=>exact absurd j f
 |cons a r =>obtain⟨c,hc,_,⟨y,p,e,_⟩,_⟩:=h.src x g a (by rw[j];simp);rw[←e];exact(C.ids c (J c hc) y p).1.wf
def nL {s:Sta}(h:St1 s)(f:Int):∀(n:Nat) (out:List Int) (i:Int),0≤i→i≤s.1.length→(∀y∈out,∃x∈s.1,x.1=y)→out.length≤i→s.1.length-i<n→Tot (eA n f s out i) λr=>∀y∈r,∃x∈s.1,x.1=y
 |0,out,i,l,P,p,J,C=>Ω
 |n+1,out,i,l,P,p,J,C=>by
  show Tot (dR false some (eA n) f s out i) _;have R:=h.len;simp only[dR,fF,tt,il];refine⟨λg=>?_,λ_=>p⟩;have g:i<s.1.length:=by simpa using g
  rw[ak (n:=i+1) Ω Ω];exact⟨aw l g,ap λ_=>aw l g,ap λ_=>(q9 s _ (h.place _ 1)).some,ap λ_=>by simp[aF],λ_=>⟨aw l g,cM Ξ,nL h f n _ _ Ω Ω (λy j=>by
   obtain j|j:=π.1 j
   ·exact p y j
   ·rw[ξ.1 j];exact⟨_,fO (t:=ah) l g,rfl⟩) Ξ Ω⟩,λ_=>nL h f n _ _ Ω Ω p Ω Ω⟩
def IU (h:St1 s)(f:Int):Tot (aD s f) λr=>r.length≤s.1.length∧∀y∈r,∃x∈s.1,x.1=y:=by refine(cZ h f).and ?_;have g:=h.len;simp only[aD,kF];exact nL h f FU [] 0 Ω Ω Ψ Ψ (by rw[aI];omega)
def TB (h:HisP 9 l)(x:Int):Tot (qS l x) WfI:=by
 have p:=h.h0;have hw:bV l≤108021:=Δ h.sum Ϛ;have ent:∀{s:Sta},AtP l s→∀k,Tot (aD s k) λr=>r.length≤108021∧∀y∈r,WfI y:=λg k=>(IU (g.st1 p) k).mono λr j=>⟨by
  obtain⟨_,_,_,_,h⟩:=g;have:=h.len;have:=j.1;omega,λy f=>by
  obtain⟨z,J,e⟩:=j.2 y f;rw[←e];exact ad8 p g z J⟩
 have z:WfI 0:=ZW Ϛ Ϛ;simp only[qS,Ay,tl,w9,lB,pl,tt,il];refine(WR l p).mono λs g=>(bm x 11 Ω Ω).mono λ_ _=>⟨λ_=>⟨by decide,(bm _ 23 Ω Ω).mono λ_ _=>⟨λ_=>ZW Ϛ Ϛ,λ_=>(WR l p).mono λU C=>(ent C 0).mono λr j=>⟨by decide,(gU r _ Ω).mono λy f=>f.elim (λe=>e ▸ z) (j.2 y)⟩⟩⟩,λ_=>?_⟩;refine(ent g 2).mono λr1 T=>⟨cM Ξ,(ent g 3).mono λr2 R=>⟨cM Ξ,(ent g 1).mono λr3 P=>⟨cM Ξ,(gU _ _ Ξ).mono λy f=>f.elim (λe=>e ▸ z) λf=>?_⟩⟩⟩;obtain f|f:=π.1 f
 ·obtain f|f:=π.1 f
  ·exact T.2 y (by simpa using f)
  ·exact R.2 y f
 ·exact P.2 y f
def Df {l:List Com}(h:HisP 9 l)(x:List Int):∀(n:Nat) (out:List Int) (i:Int),0≤i→i≤4→out.length≤i→(∀y∈out,WfI y)→4-i<n→Tot (rN n l x out i) λr=>r.length≤4∧∀y∈r,WfI y
 |0,out,i,p,R,P,j,J=>Ω
 |n+1,out,i,p,R,P,j,J=>by
  show Tot (p8 false some (rN n) l x out i) _;simp only[p8,tt,il];refine⟨λg=>?_,λ_=>⟨Ω,j⟩⟩;have g:i<x.length∧i<4:=by simpa using g
  rw[ak (n:=i+1) Ω Ω];refine⟨aw p g.1,(TB h _).mono λr C=>⟨cM Ξ,Df h x n _ _ Ω Ω Ξ (λy f=>?_) Ω⟩⟩;obtain f|f:=π.1 f
  ·exact j y f
  ·rw[ξ.1 f];exact C
def R6 (h:HisP 9 l)(x:List Int):Tot (p9 l x) λr=>r.length≤4∧∀y∈r,WfI y:=by simp only[p9,zn];exact Df h x FU [] 0 Ω Ω Ψ Ψ (by rw[aI];omega)
def adA:∀l:List Int,∃f:List Int,f.Pairwise (λx y=>x<y)∧∀x,x∈f↔x∈l
 |[]=>⟨[],List.Pairwise.nil,λx=>ala⟩
 |a::l=>by
  obtain⟨f,p,r⟩:=adA l;refine⟨f.filter (λy=>decide (y<a))++a::f.filter (λy=>decide (a<y)), ?_,λx=>?_⟩
  ·rw[o_];refine⟨p.filter _,q_.2 ⟨λy g=>N' (C_.1 g).2,p.filter _⟩,λx j y g=>?_⟩;have j:=N' (C_.1 j).2;obtain rfl|g:=P'.1 g
   ·exact j
   ·have:=N' (C_.1 g).2;omega
  ·simp only[π,P',C_,ρ,r];constructor
   ·rintro(h|h|h)
    ·exact .inr h.1
    ·exact .inl h
    ·exact .inr h.1
   ·rintro(h|h)
    ·exact .inr (.inl h)
    ·obtain e|e|e:=Int.lt_trichotomy x a
     ·exact .inl ⟨h,e⟩
     ·exact .inr (.inl e)
     ·exact .inr (.inr ⟨h,e⟩)
def S8 {all:List WK}{ws:List Int}(h:RchK all ws x):x∈ws++all.map (·.id):=by
 cases h with
 |root j _=>exact x_ _ j
 |step _ g =>obtain⟨y,f,rfl⟩:=a_.1 g;exact y? _ (G? (C_.1 f).1)
open Classical in
def YK (l:List tCommit.den)(ws:List Int):yl (ge l ws) (RchK (gj l) ws):=by
 obtain⟨f,j,g⟩:=adA ((ws++(gj l).map (·.id)).filter λx=>decide (RchK (gj l) ws x));have h:yl f (RchK (gj l) ws):=⟨j,λx=>by
  rw[g,C_,ρ];exact⟨λh=>h.2,λh=>⟨S8 h,h⟩⟩⟩
 rw[Qg h];exact h
def Kj (l:List tCommit.den)(ws:List Int):(ge l ws).length≤ws.length+(gj l).length:=by have h:=YK l ws;have:=uI (b:=ws++(gj l).map (·.id)) (h.1.imp λ{a b} h e=>Ω) λx f=>S8 ((h.2 x).1 f);simpa using this
def Bq (keep:Cel→Bool):∀l:List Cel,(((l.filter keep).length:Nat):Int)+((l.countP λx=>!keep x:Nat):Int)=((l.length:Nat):Int)
 |[]=>rfl
 |x::l=>by have:=Bq keep l;cases f:keep x <;> simp[f] <;> omega
def BZ:∀l:List Com,(gj l).length=bV l
 |[]=>rfl
 |c::l=>by have:=BZ l;simp only[gj,a?,J_,Y',bV,gi,b_]at this⊢;rw[this]
def KdW (l:List Com)(id k:Int):Prop:=∃c∈l,∃x∈ws c,x.1=id∧x.2.1=1∧x.2.2.1.1=k
def KdP (l:List Com)(id k:Int):Prop:=KdW l id k∨k=0∧∀c∈l,¬Wr (ws c) id 1
def Da (w:List Cel)(id f:Int)(g:w.length<1000000):Tot (bL w id f) λr=>r.2.1=true→∃c∈w,c.1=id∧c.2.1=f∧c.2.2.1=r.1:=by simp only[bL,l7,tt,il];rw[ak (n:=(w.length:Int)-1) Ω Ω];exact zf w id f g FU _ Ω Ω (by rw[aI];omega)
def DK (l:List Com)(id:Int)(hl:l.length≤20)(j:∀c∈l,(ws c).length<1000000):∀(n:Nat) (R P:List Com),l=P++R→R.length<n→(∀c∈P,¬Wr (ws c) id 1)→Tot (sL n l id P.length) (KdP l id)
 |0,R,P,f,U,J=>Ω
 |n+1,R,P,f,U,J=>by
  show Tot (ra false some (sL n) l id P.length) _;have T:P.length+R.length=l.length:=by rw[f];simp
  simp only[ra,tt,il];rw[ak (n:=(P.length:Int)+1) Ω Ω];cases R with
  |nil=>
   have e:l=P:=by simpa using f
   exact⟨λh=>by simp at h T;omega,λ_=>.inr ⟨rfl,by rw[e];exact J⟩⟩
  |cons c R=>
   have C:(P.length:Int)<l.length:=by simp at T;omega
   have ec:ix tCommit l (P.length:Int)=c:=by rw[f];exact bt (t:=tCommit) P c R
   have p:c∈l:=by rw[f];simp
   rw[ec];refine⟨λ_=>⟨aw Ω C,((fk (ws c) id 1 (j c p)).and (Da (ws c) id 1 (j c p))).mono λr ⟨h4,h5⟩=>⟨λe=>?_,λe=>?_⟩⟩,λh=>by simp at h;omega⟩
   ·obtain⟨x,hx,e1,e2,e3⟩:=h5 e;exact .inl ⟨c,p,x,hx,e1,e2,by rw[e3]⟩
   ·have:=DK l id hl j n R (P++[c]) (by rw[f];simp) (by simp at U;omega) λd g=>by
     obtain g|g:=π.1 g
     ·exact J d g
     ·rw[ξ.1 g];exact λh=>by rw[h4.2 h]at e;cases e
    simpa using this
def H0.wl (h:H0 l):∀c∈l,(ws c).length<1000000:=λc f=>by have:=l5 f;have:=h.sum;omega
def He (h:H0 l)(id:Int):Tot (jl l id) (KdP l id):=by
 have:=h.few;simp only[jl,AN];exact DK l id h.few h.wl FU l [] rfl (by rw[aI];omega) λc f=>by cases f
def T3 (J:agP l){k:Int}(h:KdP l id k){q:Int}(R:¬q=0):k=q↔KdW l id q:=by
 constructor
 ·rintro rfl;exact h.resolve_right λh=>R h.1
 ·rintro⟨c,g,x,f,p,j,e3⟩;rcases h with⟨d,P,y,r,f1,U,T⟩|⟨_,C⟩
  ·rw[←e3,←T];exact J d P c g y r x f U j (f1.trans p.symm)
  ·exact absurd ⟨x,f,p,j⟩ (C c g)
def AF {y:WK}:y∈gj l ↔ ∃c∈l,∃x∈ws c,bN x=y:=by
 unfold gj;simp only[List.mem_flatten,a_];constructor
 ·rintro⟨_,⟨_,⟨c,g,rfl⟩,rfl⟩,hy⟩;obtain⟨x,f,e⟩:=a_.1 hy;exact⟨c,g,x,f,e⟩
 ·rintro⟨c,g,x,f,e⟩;exact⟨_,⟨_,⟨c,g,rfl⟩,rfl⟩,a_.2 ⟨x,f,e⟩⟩
def Ig {p:WK→Bool}:(gj l).any p=true ↔ ∃c∈l,∃x∈ws c,p (bN x)=true:=by
 rw[List.any_eq_true];constructor
 ·rintro⟨y,j,e⟩;obtain⟨c,g,x,f,rfl⟩:=AF.1 j;exact⟨c,g,x,f,e⟩
 ·rintro⟨c,g,x,f,e⟩;exact⟨_,AF.2 ⟨c,g,x,f,rfl⟩,e⟩
def acI:HU (gj l) id=true↔KdW l id 2∨KdW l id 3:=by
 unfold HU;rw[Ig];simp only[ι,ajI,ajY];constructor
 ·rintro⟨c,g,x,f,p,j,r⟩;exact r.imp (λe=>⟨c,g,x,f,p,j,e⟩) λe=>⟨c,g,x,f,p,j,e⟩
 ·rintro(⟨c,g,x,f,p,j,e⟩|⟨c,g,x,f,p,j,e⟩)
  ·exact⟨c,g,x,f,p,j,.inl e⟩
  ·exact⟨c,g,x,f,p,j,.inr e⟩
def Yg:GM (gj l) id=true↔KdW l id 5:=by unfold GM;rw[Ig];simp only[ι,ajY];exact ala
def Wg {p:Int}:x∈ahJ (gj l) p ↔ ∃c∈l,∃y∈ws c,(y.2.1=2∧y.2.2.1.2.2.2.1=p)∧y.1=x:=by
 unfold ahJ;simp only[a_,C_,ι,ajY];constructor
 ·rintro⟨y,⟨r,j⟩,e⟩;obtain⟨c,g,z,f,rfl⟩:=AF.1 r;exact⟨c,g,z,f,j,e⟩
 ·rintro⟨c,g,z,f,j,e⟩;exact⟨_,⟨AF.2 ⟨c,g,z,f,rfl⟩,j⟩,e⟩
structure KSt (l:List Com)(us out:List Int):Prop where
 asc:Asc out
 rch:∀x∈out,RchK (gj l) us x
def Asc.nd {l:List Int}(h:Asc l):l.Nodup:=akX (λ{a b} h e=>Ω) h
def KSt.len (h:KSt l us out):out.length≤us.length+bV l:=by have:=uI (b:=us++(gj l).map (·.id)) h.asc.nd λx f=>S8 (h.rch x f);rw[Y',b_,BZ]at this;exact this
def ClW (out:List Int)(x:Cel):Prop:=x.2.1=2→x.2.2.1.2.2.2.1∈out→x.1∈out
structure PSt (l:List Com)(us out0 out:List Int)(more:Bool)(D:Cel→Prop):Prop where
 k:KSt l us out
 sub:∀x∈out0,x∈out
 gr:more=true→out0.length<out.length
 st:more=false→out=out0∧∀x,D x→ClW out0 x
def PSt.put {f r:List Int}{D D':Cel→Prop}(h:PSt l us f out more D)(J:KSt l us f){c:Com}(P:c∈l){x:Cel}(C:x∈ws c)(h1:x.2.1=2)(U:x.2.2.1.2.2.2.1∈out)(T:¬x.1∈out)(j:∀y,y∈r↔y∈out∨y=x.1)(R:Asc r):PSt l us f r true D':=by
 have p:∀y∈f,y∈r:=λy g=>(j y).2 (.inl (h.sub y g));refine⟨⟨R,λy g=>?_⟩,p,λ_=>?_,λe=>by cases e⟩
 ·rcases(j y).1 g with g|rfl
  ·exact h.k.rch y g
  ·exact .step (h.k.rch _ U) (Wg.2 ⟨c,P,x,C,⟨h1,rfl⟩,rfl⟩)
 ·have:=uI (a:=x.1::f) (b:=r) (M?.2 ⟨λe=>T (h.sub _ e),J.asc.nd⟩) λy g=>by
   obtain rfl|g:=P'.1 g
   ·exact(j _).2 (.inr rfl)
   ·exact p y g
  exact this
def PSt.next {f:List Int}{D j:Cel→Prop}(h:PSt l us f out more D)(r:∀x,j x→D x∨ClW out x):PSt l us f out more j :=
 ⟨h.k,h.sub,h.gr,λe=>⟨(h.st e).1,λx p=>(r x p).elim ((h.st e).2 x) λg=>by rw[(h.st e).1]at g;exact g⟩⟩
def DnW (P:List Com)(p:List Cel)(x:Cel):Prop:=(∃c∈P,x∈ws c)∨x∈p
def ya {l:List Com}(hl:H0 l){us g:List Int}(hu:us.length≤8)(hk0:KSt l us g)(P:List Com)(c:Com)(R:List Com)(hT:l=P++c::R)(k9:cG (List Int))(k:dF (List Int))(Q:List Int→Prop)
  (hk:∀out more,PSt l us g out more (DnW (P++[c]) [])→Tot (k l out more ((P.length:Int)+1)) Q):∀(n:Nat) (r p:List Cel) (out:List Int) (more:Bool),ws c=p++r→r.length<n→PSt l us g out more (DnW P p)→Tot (g7 k9 k n l P.length out more p.length) Q
 |0,r,p,out,more,h1,h2,h3=>Ω
 |n+1,r,p,out,more,h1,h2,h3=>by
  show Tot (nb false some (g7 k9 k n) k l P.length out more p.length) _;have hcl:c∈l:=by rw[hT];simp
  have hfew:=hl.few;have hsum:=hl.sum;have U:(P.length:Int)<l.length:=by rw[hT];simp;omega
  have ec:ix tCommit l (P.length:Int)=c:=by rw[hT];exact bt (t:=tCommit) P c R
  have hwc:=l5 hcl;have hp:p.length+r.length=(ws c).length:=by rw[h1];simp
  have hlen:=h3.k.len;simp only[nb,e9,tt,il];rw[ec,ak (n:=(p.length:Int)+1) Ω Ω,ak (n:=(P.length:Int)+1) Ω Ω];cases r with
  |nil=>
   refine⟨aw Ω U,λh=>?_,λ_=>hk out more (h3.next λx C=>.inl ?_)⟩
   ·simp at hp;have:¬((p.length:Int)<((ws c).length:Int)):=Ω
    exact absurd (N' h) this
   ·rcases C with⟨d,hd,C⟩|C
    ·obtain hd|hd:=π.1 hd
     ·exact .inl ⟨d,hd,C⟩
     ·rw[ξ.1 hd]at C;exact .inr (by rw[h1]at C;simpa using C)
    ·cases C
  |cons x r=>
   have C:x∈ws c:=by rw[h1];simp
   have ht:(p.length:Int)<(ws c).length:=by simp at hp;omega
   have ex:ix aa (ws c) (p.length:Int)=x:=by rw[h1];exact bt (t:=aa) p x r
   have next:∀j f,PSt l us g j f (DnW P (p++[x]))→Tot (g7 k9 k n l P.length j f ((p.length:Int)+1)) Q:=λj f h=>by have:=ya hl hu hk0 P c R hT k9 k Q hk n r (p++[x]) j f (by rw[h1];simp) (by simp at h2;omega) h;simpa using this
   have old:(ClW out x)→PSt l us g out more (DnW P (p++[x])):=λh=>h3.next λy J=>by
    obtain J|J:=J
    ·exact .inl (.inl J)
    ·obtain J|J:=π.1 J
     ·exact .inl (.inr J)
     ·rw[ξ.1 J];exact .inr h
   rw[ex];refine⟨aw Ω U,λ_=>⟨aw Ω U,aw Ω ht,ap λ_=>jH _ _ Ω,ap λ_=>jH _ _ Ω,λT=>?_,λT=>next out more (old λe1 e2=>?_)⟩,λh=>absurd ht (j? h)⟩
   ·rw[iR _ _ Ω,iR _ _ Ω]at T;simp at T;exact(uC out x.1 Ω).mono λr' hr=>next r' true (h3.put hk0 hcl C T.1.1 T.1.2 T.2 hr.2.1 (hr.2.2 h3.k.asc))
   ·rw[iR _ _ Ω,iR _ _ Ω,dt e1,dt e2]at T;simpa using T
def yb {l:List Com}(T:H0 l){us f:List Int}(U:us.length≤8)(C:KSt l us f)(j:cG (List Int))(Q:List Int→Prop)(hk:∀out more,PSt l us f out more (DnW l [])→Tot (j l out more) Q):∀(n:Nat) (R P:List Com) (out:List Int) (more:Bool),l=P++R→R.length<n→PSt l us f out more (DnW P [])→Tot (ku j n l out more P.length) Q
 |0,R,P,out,more,p,h2,J=>Ω
 |n+1,R,P,out,more,p,h2,J=>by
  show Tot (nc false some (g7 j (ku j n) FU) j l out more P.length) _;have hP:P.length+R.length=l.length:=by rw[p];simp
  simp only[nc,tt,il];cases R with
  |nil=>
   have e:l=P:=by simpa using p
   exact⟨λh=>by simp at h hP;omega,λ_=>hk out more (by rw[←e]at J;exact J)⟩
  |cons c R=>
   have hc:c∈l:=by rw[p];simp
   have hw:=T.wl c hc;refine⟨λ_=>ya T U C P c R p j _ Q (λr g h=>?_) FU (ws c) [] out more rfl (by rw[aI];omega) J,λh=>by simp at h hP;omega⟩;have:=yb T U C j Q hk n R (P++[c]) r g (by rw[p];simp) (by simp at h2;omega) h;simpa using this
def AR {l:List Com}(J:H0 l){us:List Int}(hu:us.length≤8):∀(n:Nat) (out:List Int) (more:Bool),KSt l us out→(∀x∈us,HU (gj l) x=true→x∈out)→(more=true→us.length+bV l-out.length+1<n)→(more=false→0<n∧∀x,DnW l [] x→ClW out x)→Tot (m9 n l out more) λr=>yl r (RchK (gj l) us)
 |0,out,more,p,U,C,T=>by
  cases more
  ·exact absurd (T rfl).1 Ω
  ·have:=C rfl;omega
 |n+1,out,more,p,U,C,T=>by
  show Tot (rb false some (ku (m9 n) FU) l out more) _;have hfew:=J.few;simp only[rb,tt];refine⟨λe=>?_,λe=>⟨p.asc,λx=>⟨p.rch x,λh=>?_⟩⟩⟩
  ·refine yb J hu p _ _ (λj f h=>?_) FU l [] out false rfl (by rw[aI];omega) ⟨p,λ_ h=>h,λe=>(by cases e),λ_=>⟨rfl,λx g=>?_⟩⟩
   ·have C:=C e;have hb:=h.k.len;refine AR J hu n j f h.k (λx g P=>h.sub x (U x g P)) (λe=>?_) λe=>⟨Ω,λx g=>?_⟩
    ·have:=h.gr e;omega
    ·rw[(h.st e).1];exact(h.st e).2 x g
   ·rcases g with⟨d,P,_⟩|g
    ·cases P
    ·cases g
  ·have R:=(T e).2;induction h with
   |root a b=>exact U _ a b
   |step _ b ih =>obtain⟨c,hc,y,hy,⟨e1,e2⟩,rfl⟩:=Wg.1 b;exact R y (.inl ⟨c,hc,hy⟩) e1 (by rw[e2];exact ih)
def AS {l:List Com}(p:H0 l){us:List Int}(hu:us.length≤8):∀(n:Nat) (R P out:List Int),us=P++R→R.length<n→KSt l us out→(∀x∈P,HU (gj l) x=true→x∈out)→Tot (na n l us out P.length) λr=>yl r (RchK (gj l) us)
 |0,R,P,out,J,h2,C,h4=>Ω
 |n+1,R,P,out,J,h2,C,h4=>by
  show Tot (rc false some (na n) (m9 FU) l us out P.length) _;have hP:P.length+R.length=us.length:=by rw[J];simp
  have hlen:=C.len;have hsum:=p.sum;simp only[rc,g8,tt,il];rw[ak (n:=(P.length:Int)+1) Ω Ω];cases R with
  |nil=>
   have e:us=P:=by simpa using J
   exact⟨λh=>by simp at h hP;omega,λ_=>AR p hu FU out true C (by rw[e];exact h4) (λ_=>by rw[aI];omega) λe=>by cases e⟩
  |cons x R=>
   have T:(P.length:Int)<us.length:=by simp at hP;omega
   have ex:ix tInt us (P.length:Int)=x:=by rw[J];exact bt (t:=tInt) P x R
   have next:∀f,KSt l us f→(∀y∈P++[x],HU (gj l) y=true→y∈f)→Tot (na n l us f ((P.length:Int)+1)) λr=>yl r (RchK (gj l) us):=λf a b=>by have:=AS p hu n R (P++[x]) f (by rw[J];simp) (by simp at h2;omega) a b;simpa using this
   rw[ex];refine⟨λ_=>⟨aw Ω T,(He p x).mono λq hq=>?_⟩,λh=>by simp at h;omega⟩;have U:(bif decide (q=2)then true else decide (q=3))=true↔HU (gj l) x=true:=by rw[acI,←T3 p.kc hq Ϛ,←T3 p.kc hq Ϛ];simp
   refine⟨λe=>⟨aw Ω T,(uC out x Ω).mono λr hr=>next r ⟨hr.2.2 C.asc,λy g=>?_⟩ λy g U=>?_⟩,λe=>next out C λy g j=>?_⟩
   ·rcases(hr.2.1 y).1 g with g|rfl
    ·exact C.rch y g
    ·exact .root (by rw[J];simp) (U.1 e)
   ·rw[hr.2.1];obtain g|g:=π.1 g
    ·exact .inl (h4 y g U)
    ·exact .inr (ξ.1 g)
   ·obtain g|g:=π.1 g
    ·exact h4 y g j
    ·rw[ξ.1 g]at j;rw[U.2 j]at e;cases e
def TY (p:H0 l)(g:us.length≤8):Tot (re l us) λr=>r=ge l us:=by simp only[re,AQ];refine(AS p g FU us [] [] rfl (by rw[aI];omega) ⟨List.Pairwise.nil,λx f=>by cases f⟩ λx f=>by cases f).mono λr j=>(Qg j).symm
def RfW (K:List Int)(x:Cel)(y:Int):Prop:=x.2.1=4∧¬x.2.2.1.2.2.2.1=0∧x.1∈K∧x.2.2.1.2.2.2.1=y
structure RSt (K:List Int)(P:List Com)(p:List Cel)(out:List Int):Prop where
 asc:Asc out
 mem:∀y,y∈out ↔ ∃x,DnW P p x∧RfW K x y
 len:out.length≤bV P+p.length
def z6 {l:List Com}(hl:H0 l){K:List Int}(hK:K.length<1000000)(P:List Com)(c:Com)(R:List Com)(hT:l=P++c::R)(k:aB (List Int))(Q:List Int→Prop)
  (hk:∀out,RSt K (P++[c]) [] out→Tot (k l K out ((P.length:Int)+1)) Q):∀(n:Nat) (r p:List Cel) (out:List Int),ws c=p++r→r.length<n→RSt K P p out→Tot (jj k n l K P.length out p.length) Q
 |0,r,p,out,h1,h2,C=>Ω
 |n+1,r,p,out,h1,h2,C=>by
  show Tot (qE false some (jj k n) k l K P.length out p.length) _;have hcl:c∈l:=by rw[hT];simp
  have hfew:=hl.few;have hsum:=hl.sum;have U:(P.length:Int)<l.length:=by rw[hT];simp;omega
  have ec:ix tCommit l (P.length:Int)=c:=by rw[hT];exact bt (t:=tCommit) P c R
  have hwc:=l5 hcl;have hp:p.length+r.length=(ws c).length:=by rw[h1];simp
  have hws:bV P+((ws c).length+bV R)=bV l:=by rw[hT,co];rfl
  have hlen:=C.len;simp only[qE,lN,tt,il];rw[ec,ak (n:=(p.length:Int)+1) Ω Ω,ak (n:=(P.length:Int)+1) Ω Ω];cases r with
  |nil=>
   have e:ws c=p:=by simpa using h1
   refine⟨aw Ω U,λh=>?_,λ_=>hk out ⟨C.asc,λy=>(C.mem y).trans ⟨λ⟨x,g,h⟩=>⟨x,.inl ?_,h⟩,λ⟨x,g,h⟩=>⟨x, ?_,h⟩⟩, ?_⟩⟩
   ·simp at hp;have:¬((p.length:Int)<((ws c).length:Int)):=Ω
    exact absurd (N' h) this
   ·rcases g with⟨d,T,g⟩|g
    ·exact⟨d,x_ _ T,g⟩
    ·exact⟨c,Ψ,by rw[e];exact g⟩
   ·rcases g with⟨d,T,g⟩|g
    ·obtain T|T:=π.1 T
     ·exact .inl ⟨d,T,g⟩
     ·rw[ξ.1 T,e]at g;exact .inr g
    ·cases g
   ·rw[co];show _≤bV P+((ws c).length+0)+0;rw[e];omega
  |cons x r=>
   have ht:(p.length:Int)<(ws c).length:=by simp at hp;omega
   have ex:ix aa (ws c) (p.length:Int)=x:=by rw[h1];exact bt (t:=aa) p x r
   have next:∀f,RSt K P (p++[x]) f→Tot (jj k n l K P.length f ((p.length:Int)+1)) Q:=λf h=>by have:=z6 hl hK P c R hT k Q hk n r (p++[x]) f (by rw[h1];simp) (by simp at h2;omega) h;simpa using this
   have dn:∀y,DnW P (p++[x]) y↔DnW P p y∨y=x:=λy=>by unfold DnW;rw[π,ξ,or_assoc]
   rw[ex];refine⟨aw Ω U,λ_=>⟨aw Ω U,aw Ω ht,ap λ_=>jH _ _ hK,λJ=>?_,λJ=>next out ⟨C.asc,λy=>(C.mem y).trans ⟨λ⟨z,j,h⟩=>⟨z,(dn z).2 (.inl j),h⟩,λ⟨z,j,h⟩=>?_⟩,by simp;omega⟩⟩,λh=>absurd ht (j? h)⟩
   ·rw[iR _ _ hK]at J;simp at J;refine(uC out _ Ω).mono λq hq=>next q ⟨hq.2.2 C.asc,λy=>(hq.2.1 y).trans ⟨?_, ?_⟩,by have:=hq.1;simp;omega⟩
    ·rintro(hy|rfl)
     ·obtain⟨z,j,h⟩:=(C.mem y).1 hy;exact⟨z,(dn z).2 (.inl j),h⟩
     ·exact⟨x,(dn x).2 (.inr rfl),J.1.1,J.1.2,J.2,rfl⟩
    ·rintro⟨z,j,h⟩;rcases(dn z).1 j with j|rfl
     ·exact .inl ((C.mem y).2 ⟨z,j,h⟩)
     ·exact .inr h.2.2.2.symm
   ·rcases(dn z).1 j with j|rfl
    ·exact⟨z,j,h⟩
    ·rw[iR _ _ hK,dt h.1,df h.2.1,dt h.2.2.1]at J;cases J
def z7 {l:List Com}(p:H0 l){K:List Int}(C:K.length<1000000):∀(n:Nat) (R P:List Com) (out:List Int),l=P++R→R.length<n→RSt K P [] out→Tot (sq n l K out P.length) (RSt K l [])
 |0,R,P,out,f,J,j=>Ω
 |n+1,R,P,out,f,J,j=>by
  show Tot (qG false some (jj (sq n) FU) l K out P.length) _;have r:P.length+R.length=l.length:=by rw[f];simp
  simp only[qG,tt,il];cases R with
  |nil=>
   have e:l=P:=by simpa using f
   exact⟨λh=>by simp at h r;omega,λ_=>by rw[←e]at j;exact j⟩
  |cons c R =>have T:=p.wl c (by rw[f];simp);refine⟨λ_=>z6 p C P c R f _ _ (λg h=>?_) FU (ws c) [] out rfl (by rw[aI];omega) j,λh=>by simp at h r;omega⟩;have:=z7 p C n R (P++[c]) g (by rw[f];simp) (by simp at J;omega) h;simpa using this
def SW (g:H0 l)(p:K.length<1000000):Tot (qH l K) (RSt K l []):=by
 have:=g.few;simp only[qH,zZ];refine z7 g p FU l [] [] rfl (by rw[aI];omega) ⟨List.Pairwise.nil,λy=>⟨λh=>(by cases h),λ⟨x,f,_⟩=>?_⟩,Ψ⟩;rcases f with⟨d,j,_⟩|f
 ·cases j
 ·cases f
def Yv (h:RSt K l [] M)(y:Int):GZ (λx=>K.contains x) (gj l) y=true↔y∈M:=by
 unfold GZ;rw[Ig,h.mem];simp only[ι,ajY,S_,R?,F?];constructor
 ·rintro⟨c,g,x,f,C,r,p,j⟩;exact⟨x,.inl ⟨c,g,f⟩,r,j,p,C⟩
 ·rintro⟨x,⟨c,g,f⟩|f,r,j,p,C⟩
  ·exact⟨c,g,x,f,C,r,p,j⟩
  ·cases f
def WC (f:List Int)(h:f.Pairwise λa b=>a≤b):∀m,m≤f.length→Asc (Lib.compactUpTo f.toArray m)∧∀x,x∈Lib.compactUpTo f.toArray m↔x∈f.take m
 |0,_=>⟨List.Pairwise.nil,λx=>by simp[Lib.compactUpTo]⟩
 |m+1,hm=>by
  obtain⟨r,p⟩:=WC f h m Ω;have gt:∀j (q:j<f.length),f.toArray[j]! = f[j]:=λj q=>by simp[q]
  rw[Lib.compactUpTo_succ,gt m Ω,J' Ω];by_cases g:Lib.keeps f.toArray m=true
  ·rw[q' g];refine⟨o_.2 ⟨r,alm ..,λa T b R=>?_⟩,λx=>by rw[π,π,p]⟩;rw[ξ.1 R];obtain⟨j,P,rfl⟩:=t_.1 ((p a).1 T);have J:j<m:=by simp at P;omega
   rw[ajW];unfold Lib.keeps at g;rw[gt m Ω,gt (m-1) Ω]at g;have C:=(N' g).resolve_left Ω;have a1:f[j]≤f[m-1]:=by
    by_cases e:j=m-1
    ·simp only[e];exact aj4 _
    ·exact u_.1 h j (m-1) Ω Ω Ω
   have U:=u_.1 h (m-1) m Ω Ω Ω;omega
  ·rw[B' g,C?];refine⟨r,λx=>by
    rw[p,π,ξ];refine⟨.inl,λh=>h.elim (λf=>f) ?_⟩;rintro rfl;unfold Lib.keeps at g;rw[ρ]at g;have g:=not_or.1 g;have l:=Classical.not_not.1 g.2;rw[gt m Ω,gt (m-1) Ω]at l;rw[l];exact t_.2 ⟨m-1,by simp;omega,Ψ⟩⟩
def zM (l:List Int):Asc (aeh l)∧∀x,x∈aeh l↔x∈l:=by
 have j:(l.mergeSort λx y=>decide (x≤y)).Pairwise λa b=>a≤b :=
  (aln (le:=λx y:Int=>decide (x≤y)) (λa b c g f=>by simp at *;omega) (λa b=>by simp;omega) l).imp λh=>N' h
 obtain⟨g,f⟩:=WC _ j _ (ζ _);refine⟨g,λx=>(f x).trans ?_⟩;rw[z_,List.mem_mergeSort]
def ahx {f:Int}(h:1≤f)(p:¬f=1)(l:¬f=2)(j:¬f=3)(g:f≤3):False:=Ω
def ae8 (j:H0 l)(us:List Int)(C:RSt (ge l us) l [] M){x:Cel}{k:Int}(p:KdP l x.1 k)(r:1≤x.2.1) :
  dw l us (bN x)=(bif (bif decide (x.1∈ge l us)then true else(bif decide (x.2.1≤3)then !decide (k=5)else false))then true else(bif (bif (bif decide (x.2.1=1)then true else decide (x.2.1=2))then true else decide (x.2.1=4))then decide (x.1∈M)else false)):=by
 have U:(ge l us).contains x.1=decide (x.1∈ge l us):=by rw[N?,S_,ρ]
 have T:GZ (λx=>(ge l us).contains x) (gj l) x.1=decide (x.1∈M):=by rw[N?,Yv C,ρ]
 have R:GM (gj l) x.1=decide (k=5):=by rw[N?,Yg,←T3 j.kc p Ϛ,ρ]
 show abL (λx=>(ge l us).contains x) (GM (gj l)) (GZ (λx=>(ge l us).contains x) (gj l)) (bN x)=_;unfold abL;have P:(bN x).fd=x.2.1:=rfl;have J:(bN x).id=x.1:=rfl;rw[P,J];show(if _ then(ge l us).contains x.1||_ else _)=_;rw[U,T,R];by_cases c1:x.2.1=1
 ·simp[c1,Bool.or_assoc]
 ·by_cases c2:x.2.1=2
  ·simp[c2,Bool.or_assoc]
  ·by_cases f:x.2.1=3
   ·simp[f]
   ·by_cases g:x.2.1=4
    ·simp[g]
    ·have c5:¬x.2.1≤3:=λh=>ahx r c1 c2 f h;simp[c1,c2,f,g,c5]
def xW {l:List Com}(h:HisP 9 l){us:List Int}(hu:us.length≤8){M:List Int}(hM:RSt (ge l us) l [] M)(b0:List Int)(P:List Com)(c:Com)(R:List Com)(U:l=P++c::R)(k:eY am.den)(Q:am.den→Prop)
  (hk:Tot (k l (ge l us) M ((P.length:Int)+1) b0 ((P++[c]).map (xP (dw l us)))) Q):∀(n:Nat) (r p:List Cel),ws c=p++r→r.length<n→Tot (km k n l (ge l us) M P.length b0 (P.map (xP (dw l us))) p.length c.1 c.2.1 c.2.2.1 c.2.2.2.1 (p.filter λx=>dw l us (bN x)) ((p.countP λx=>!dw l us (bN x):Nat):Int)) Q
 |0,r,p,j,h2=>Ω
 |n+1,r,p,j,h2=>by
  show Tot (mW false some (km k n) k l (ge l us) M P.length b0 (P.map (xP (dw l us))) p.length c.1 c.2.1 c.2.2.1 c.2.2.2.1 (p.filter λx=>dw l us (bN x)) ((p.countP λx=>!dw l us (bN x):Nat):Int)) _;have C:=h.h0;have T:c∈l:=by rw[U];simp
  have hfew:=C.few;have hsum:=C.sum;have g:(P.length:Int)<l.length:=by rw[U];simp;omega
  have ec:ix tCommit l (P.length:Int)=c:=by rw[U];exact bt (t:=tCommit) P c R
  have hwc:=l5 T;have hp:p.length+r.length=(ws c).length:=by rw[j];simp
  have hKl:=Kj l us;rw[BZ]at hKl;have hMl:=hM.len;simp only[ajH,akg]at hMl;have hcnt:(p.countP λx=>!dw l us (bN x))≤p.length:=akB ..;have hfil:(p.filter λx=>dw l us (bN x)).length≤p.length:=Q? ..;simp only[mW,gJ,tt,il];rw[ec,ak (n:=(p.length:Int)+1) Ω Ω,ak (n:=(P.length:Int)+1) Ω Ω];cases r with
  |nil=>
   have e:ws c=p:=by simpa using j
   refine⟨aw Ω g,λh=>?_,λ_=>⟨cM Ξ, ?_⟩⟩
   ·simp at hp;have:¬((p.length:Int)<((ws c).length:Int)):=Ω
    exact absurd (N' h) this
   ·rw[M_]at hk;rw[←e];exact hk
  |cons x r=>
   have hx:x∈ws c:=by rw[j];simp
   have ht:(p.length:Int)<(ws c).length:=by simp at hp;omega
   have ex:ix aa (ws c) (p.length:Int)=x:=by rw[j];exact bt (t:=aa) p x r
   have next:=xW h hu hM b0 P c R U k Q hk n r (p++[x]) (by rw[j];simp) (by simp at h2;omega)
   have J:=He C x.1;have hkg:VZ l x.1=true:=J.some;have hkF:KdP l x.1 (dg l x.1):=J.getD _;have f:=ae8 C us hM hkF ((C.ids c T x hx).2.2);rw[ex];rw[iR M x.1 Ω,jH M x.1 Ω,hkg];refine⟨aw Ω g,λ_=>⟨aw Ω g,aw Ω ht,_,Bg _ _ Ω, ?_⟩,λh=>absurd ht (j? h)⟩;have e1:(p++[x]).filter (λx=>dw l us (bN x))=(p.filter λx=>dw l us (bN x))++(if dw l us (bN x)=true then[x]else[]):=by rw[akQ];congr 1;cases h:dw l us (bN x) <;> simp[h]
   have e2:(p++[x]).countP (λx=>!dw l us (bN x))=(p.countP λx=>!dw l us (bN x))+(if dw l us (bN x)=true then 0 else 1):=by rw[List.countP_append];congr 1;cases h:dw l us (bN x) <;> simp[h]
   have hn:(((p++[x]).length:Nat):Int)=(p.length:Int)+1:=by simp
   rw[e1,e2,hn]at next
   dsimp only;rw[←f];have ti:∀{a b:Bool},aS a (ii b)=true:=ap λ_=>aF _;have tj:∀{a b:Bool},aS a (ii b&&true)=true:=ap λ_=>by rw[m?];exact aF _
   refine⟨ap λ_=>rfl,tj,ti,ti,ap λ_=>rfl,tj,λe=>⟨cM (by show(p.filter λx=>dw l us (bN x)).length+1≤_;omega), ?_⟩,λe=>?_⟩
   ·rw[q' e,q' e]at next;exact next
   ·rw[B' (by rw[e];decide),B' (by rw[e];decide),C?]at next
    rw[ak (n:=((p.countP λx=>!dw l us (bN x):Nat):Int)+1) Ω Ω];exact next
def AI {l:List Com}(h:HisP 9 l){us:List Int}(p:us.length≤8){M:List Int}(J:RSt (ge l us) l [] M)(g:List Int):∀(n:Nat) (R P:List Com),l=P++R→R.length<n→Tot (mV n l (ge l us) M P.length g (P.map (xP (dw l us)))) λr=>r=(g,l.map (xP (dw l us)),())
 |0,R,P,f,T=>Ω
 |n+1,R,P,f,T=>by
  show Tot (qT false some (km (mV n) FU) l (ge l us) M P.length g (P.map (xP (dw l us)))) _;have C:P.length+R.length=l.length:=by rw[f];simp
  simp only[qT,tt,il];cases R with
  |nil=>
   have e:l=P:=by simpa using f
   exact⟨λh=>by simp at h C;omega,λ_=>by rw[←e]⟩
  |cons c R=>
   have hw:=h.h0.wl c (by rw[f];simp);have j:(P.length:Int)<l.length:=by simp at C;omega
   have U:ix tCommit l (P.length:Int)=c:=by rw[f];exact bt (t:=tCommit) P c R
   rw[U];refine⟨λ_=>⟨aw Ω j, ?_⟩,λh=>by simp at h;omega⟩;refine xW h p J g P c R f _ _ ?_ FU (ws c) [] rfl (by rw[aI];omega);have:=AI h p J g n R (P++[c]) (by rw[f];simp) (by simp at T;omega);simpa using this
def AJ {l:List Com}(h:HisP 9 l){us:List Int}(C:us.length≤8):∀(n:Nat) (R P f:List Int),us=P++R→R.length<n→Asc f→(∀x,x∈f↔x∈P)→f.length≤P.length→Tot (sH n l us P.length f []) λr=>r=xV l us
 |0,R,P,f,j,h2,h3,U,h5=>Ω
 |n+1,R,P,f,j,h2,h3,U,h5=>by
  show Tot (qU false some (sH n) (mV FU) l us P.length f []) _;have p:=h.h0;have hP:P.length+R.length=us.length:=by rw[j];simp
  simp only[qU,tt,il];rw[ak (n:=(P.length:Int)+1) Ω Ω];cases R with
  |nil=>
   have e:us=P:=by simpa using j
   have T:=Kj l us;rw[BZ]at T;have hs:=p.sum;refine⟨λh=>by simp at h hP;omega,λ_=>(TY p C).mono λq hq=>?_⟩;rw[hq];refine(SW p Ω).mono λM hM=>?_;have:=AI h C hM f FU l [] rfl (by have:=p.few;rw[aI];omega);refine this.mono λr g=>?_;rw[g];have e0:f=aeh us:=UR h3 (zM us).1 λx=>(U x).trans (by rw[(zM us).2,e]);rw[e0];rfl
  |cons x R=>
   have J:(P.length:Int)<us.length:=by simp at hP;omega
   have ex:ix tInt us (P.length:Int)=x:=by rw[j];exact bt (t:=tInt) P x R
   rw[ex];refine⟨λ_=>⟨aw Ω J,(uC f x Ω).mono λr g=>?_⟩,λh=>by simp at h;omega⟩;have:=AJ h C n R (P++[x]) r (by rw[j];simp) (by simp at h2;omega) (g.2.2 h3) (λy=>by rw[g.2.1,U];simp) (by have:=g.1;simp;omega);simpa using this
def TI (h:HisP 9 l)(f:us.length≤8):Tot (qV l us) λr=>r=xV l us:=by simp only[qV,AH];exact AJ h f FU us [] [] rfl (by rw[aI];omega) List.Pairwise.nil (λx=>ala) (ζ _)
def FG (a:List Int)(j:a.length<1000000):∀(n:Nat) (i:Int),0≤i→i≤a.length→a.length-i<n→Tot (lJ n a a i) λr=>r=true
 |0,i,g,p,l=>Ω
 |n+1,i,g,p,l=>by show Tot (mE false some (lJ n) a a i) _;simp only[mE,tt,il];intro f;have f:i<a.length:=N' f;rw[ak (n:=i+1) Ω Ω];exact⟨aw g f,aw g f,λh=>by simp at h,λ_=>FG a j n (i+1) Ω Ω Ω⟩
def qu (a:List Int)(f:a.length<1000000):Tot (fT a a) λr=>r=true:=by simp only[fT,zQ,tt];exact⟨λh=>by simp at h,λ_=>FG a f FU 0 Ω Ω (by rw[aI];omega)⟩
def FK (a:Com)(l:(ws a).length<1000000):∀(n:Nat) (i:Int),0≤i→i≤(ws a).length→(ws a).length-i<n→Tot (wn n a a i) λr=>r=true
 |0,i,j,C,p=>Ω
 |n+1,i,j,C,p=>by show Tot (uo false some (wn n) a a i) _;simp only[uo,tt,il];intro f;have f:i<(ws a).length:=N' f;rw[ak (n:=i+1) Ω Ω];have g:bd i (ws a).length=true:=aw j f;exact⟨g,g,λh=>(by rw[Bw aa _ rfl]at h;cases h),λ_=>FK a l n (i+1) Ω Ω Ω⟩
def JG (a:Com)(g:a.2.1.length<1000000)(f:a.2.2.1.length<1000000)(j:(ws a).length<1000000):Tot (mG a a) λr=>r=true:=by have J:Cn a.2.1 a.2.1=true:=(qu _ g).some;have C:jf a.2.1 a.2.1=true:=(qu _ g).getD _;have p:Cn a.2.2.1 a.2.2.1=true:=(qu _ f).some;have l:jf a.2.2.1 a.2.2.1=true:=(qu _ f).getD _;simp only[mG,Ep,tt];rw[J,C,p,l];exact⟨ap λ_=>rfl,ap λ_=>rfl,λh=>by simp at h,λ_=>FK a j FU 0 Ω Ω (by rw[aI];omega)⟩
def Dx (a:am.den)(J:a.2.1.length<1000000)(C:∀p∈a.2.1,p.1.2.1.length<1000000∧p.1.2.2.1.length<1000000∧(ws p.1).length<1000000):∀(n:Nat) (i:Int),0≤i→i≤a.2.1.length→a.2.1.length-i<n→Tot (sg n a a i) λr=>r=true
 |0,i,j,T,R=>Ω
 |n+1,i,j,T,R=>by show Tot (qz false some (sg n) a a i) _;simp only[qz,tt,il];intro f;have f:i<a.2.1.length:=N' f;have P:bd i a.2.1.length=true:=aw j f;have g:=C _ (fO (t:=ao) j f);have l:=JG _ g.1 g.2.1 g.2.2;have e1:aaI (ix ao a.2.1 i).1 (ix ao a.2.1 i).1=true:=l.some;have U:aaJ (ix ao a.2.1 i).1 (ix ao a.2.1 i).1=true:=l.getD _;rw[ak (n:=i+1) Ω Ω,e1,U,P];exact⟨rfl,rfl,ap λ_=>rfl,ap λ_=>rfl,ap λ_=>rfl,λh=>by simp at h,λ_=>Dx a J C n (i+1) Ω Ω Ω⟩
def SM (a:am.den)(l:a.1.length<1000000)(g:a.2.1.length<1000000)(j:∀p∈a.2.1,p.1.2.1.length<1000000∧p.1.2.2.1.length<1000000∧(ws p.1).length<1000000):Tot (lL a a) λr=>r=true:=by simp only[lL,zU,tt];refine(qu _ l).mono λr f=>⟨λh=>by rw[f]at h;simp at h,λ_=>Dx a g j FU 0 Ω Ω (by rw[aI];omega)⟩
def Yw (h:HisP 9 l)(T:us.length≤8):(xV l us).1.length<1000000∧(xV l us).2.1.length<1000000∧∀p∈(xV l us).2.1,p.1.2.1.length<1000000∧p.1.2.2.1.length<1000000∧(ws p.1).length<1000000:=by
 have f:=h.h0;have e:(xV l us).2.1=l.map (xP (dw l us)):=rfl;refine⟨?_,by rw[e,b_];have:=f.few;omega,λp j=>?_⟩
 ·have:=uI (zM us).1.nd λx r=>((zM us).2 x).1 r;exact J? this Ω
 ·rw[e]at j;obtain⟨c,g,rfl⟩:=a_.1 j;have R:=f.par c g;have P:=f.pic c g;have J:=f.wl c g;have C:(ws (xP (dw l us) c).1).length≤(ws c).length:=Q? ..;exact⟨J? R Ω,J? P Ω,J? C J⟩
def Dv (a b:List Int)(g:a.length=b.length)(j:a.length<1000000):∀(n:Nat) (i:Nat),i≤a.length→a.length-i<n→a.take i=b.take i→Tot (lJ n a b i) λr=>r=decide (a=b)
 |0,i,p,l,_=>Ω
 |n+1,i,p,l,h3=>by
  show Tot (mE false some (lJ n) a b i) _;simp only[mE,tt,il];refine⟨λf=>?_,λf=>?_⟩
  ·have f:i<a.length:=by simpa using f
   rw[ak (n:=(i:Int)+1) Ω Ω];refine⟨aw Ω Ω,aw Ω Ω,λh=>?_,λh=>?_⟩
   ·have:¬a=b:=λe=>by subst e;simp at h
    exact(h? this).symm
   ·have h:ix tInt a i=ix tInt b i:=by simpa using h
    have:=Dv a b g j n (i+1) Ω Ω (by
     rw[J' f,J' (by omega:i<b.length),h3];have J:ix tInt a i=a[i]:=by unfold ix;simp[f]
     have C:ix tInt b i=b[i]'Ω:=by unfold ix;simp[show i<b.length by omega]
     rw[J,C]at h;rw[h])
    simpa using this
  ·have f:i=a.length:=by simp at f;omega
   subst f;have:a=b:=by rw[z_,g,z_]at h3;exact h3
   exact(L_ this).symm
def FH (a b:List Int)(g:a.length<1000000):Tot (fT a b) λr=>r=decide (a=b):=by
 simp only[fT,zQ,tt,il];refine⟨λh=>?_,λh=>?_⟩
 ·have:¬a=b:=λe=>by subst e;simp at h
  exact(h? this).symm
 ·have f:a.length=b.length:=by simp at h;omega
  exact Dv a b f g FU 0 Ω (by rw[aI];omega) Ψ
def NE (w:List Cel):Prop:=w.Pairwise λa b=>¬(a.1=b.1∧a.2.1=b.2.1)
def NE.eq (h:NE w):∀{x y:Cel},x∈w→y∈w→x.1=y.1→x.2.1=y.2.1→x=y:=by
 intro x y C r p l;obtain⟨i,g,rfl⟩:=t_.1 C;obtain⟨j,f,rfl⟩:=t_.1 r;obtain hlt|rfl|hlt:=e? i j
 ·exact(u_.1 h i j g f hlt ⟨p,l⟩).elim
 ·rfl
 ·exact(u_.1 h j i f g hlt ⟨p.symm,l.symm⟩).elim
def NE.nd (h:NE w):w.Nodup:=akX (λ{a b} h e=>h (by rw[e];exact⟨rfl,rfl⟩)) h
structure GoodC (x:Com):Prop where
 ps:x.2.1.length<1000000
 qs:x.2.2.1.length<1000000
 wl:(ws x).length<1000000
 key:NE (ws x)
abbrev Ir:=ao.den
structure GoodP (p:Ir):Prop where
 c:GoodC p.1
 left:0≤p.2.1
def aib {a b:Cel}(j:a.1=b.1)(g:a.2.1=b.2.1)(f:a.2.2.1=b.2.2.1):a=b:=by obtain⟨a1,a2,a3,⟨⟩⟩:=a;obtain⟨b1,b2,b3,⟨⟩⟩:=b;cases j;cases g;cases f;rfl
open Classical in
def agF (p:Ir)(x:Com):Bool:=decide (p.1.2.1=x.2.1)&&(decide (p.1.2.2.1=x.2.2.1)&&(decide (p.1.2.2.2.1=x.2.2.2.1)&&(decide (p.2.1=(ws x).length-(ws p.1).length)&&decide (∀w∈ws p.1,w∈ws x))))
def Eb (p:Ir)(x:Com)(hp:GoodP p)(l:GoodC x):∀(n:Nat) (r q:List Cel),ws p.1=q++r→r.length<n→(∀w∈q,w∈ws x)→Tot (lG n p x q.length) λb=>b=true ↔ ∀w∈ws p.1,w∈ws x
 |0,r,q,g,h2,_=>Ω
 |n+1,r,q,g,h2,h3=>by
  show Tot (kK false some (lG n) p x q.length) _;have hl:=hp.c.wl;have J:q.length+r.length=(ws p.1).length:=by rw[g];simp
  simp only[kK,tt,il];change ((decide ((q.length:Int)<((ws p.1).length:Int))=true→_)∧(decide ((q.length:Int)<((ws p.1).length:Int))=false→_));rw[ak (n:=(q.length:Int)+1) Ω Ω];cases r with
  |nil=>
   have e:ws p.1=q:=by simpa using g
   refine⟨λh=>?_,λ_=>?_⟩
   ·have:=N' h;simp at J;omega
   ·rw[e];simpa using h3
  |cons c r=>
   have ec:ix aa (ws p.1) (q.length:Int)=c:=by rw[g];exact bt (t:=aa) q c r
   refine⟨λ_=>?_,λh=>?_⟩
   ·change (bd (q.length:Int) (ws p.1).length=true∧_);refine⟨aw Ω (by simp at J;omega), ?_⟩;change Tot (bL (ws x) (ix aa (ws p.1) (q.length:Int)).1 (ix aa (ws p.1) (q.length:Int)).2.1) _;rw[ec];refine((fk (ws x) c.1 c.2.1 l.wl).and (Da (ws x) c.1 c.2.1 l.wl)).mono λv ⟨v1,v2⟩=>⟨λe=>?_,λe=>?_⟩
    ·refine⟨λh=>(by cases h),λh=>?_⟩;have C:=h c (by rw[g];simp);have f:=v1.2 ⟨c,C,rfl,rfl⟩;rw[f]at e;obtain⟨d,P,U,T,R⟩:=v2 f;have:=l.key.eq P C U T;rw[←R,this,Bw aJ _ rfl]at e;cases e
    ·have C:c∈ws x:=by
      cases f:v.2.1 with
      |false=>rw[f]at e;cases e
      |true=>
       rw[f]at e;have e3:eqD aJ v.1 c.2.2.1=true:=by simpa using e
       obtain⟨d,P,U,T,R⟩:=v2 f;rw[←aib U T (R.trans (HJ aJ _ _ e3))];exact P
     have:=Eb p x hp l n r (q++[c]) (by rw[g];simp) (by simp at h2;omega) λw j=>by
      obtain j|j:=π.1 j
      ·exact h3 w j
      ·rw[ξ.1 j];exact C
     simpa using this
   ·have:=j? h;simp at J;omega
def NA (p:Ir)(x:Com)(f:GoodP p)(j:GoodC x):Tot (kL p x) λb=>b=agF p x:=by
 have s1:=FH p.1.2.1 x.2.1 f.c.ps;have s2:=FH p.1.2.2.1 x.2.2.1 f.c.qs;have U:Cn p.1.2.2.1 x.2.2.1=true:=s2.some;have T:jf p.1.2.2.1 x.2.2.1=decide (p.1.2.2.1=x.2.2.1):=s2.getD (P:=λr=>r=decide (p.1.2.2.1=x.2.2.1)) _;have l1:=f.c.wl;have l2:=j.wl;simp only[kL,tD,tt];rw[U,T];refine s1.mono λr1 J=>⟨ap λ_=>rfl, ?_⟩;rw[J];have R:w64 (il x.2.2.2.2.1-il p.1.2.2.2.2.1)=((ws x).length:Int)-(ws p.1).length:=ak (n:=((ws x).length:Int)-(ws p.1).length) Ω Ω;rw[R];unfold agF;by_cases c1:p.1.2.1=x.2.1
 ·by_cases c2:p.1.2.2.1=x.2.2.1
  ·by_cases g:p.1.2.2.2.1=x.2.2.2.1
   ·by_cases l:p.2.1=(ws x).length-(ws p.1).length
    ·simp only[c1,c2,g,l,s?,u?,H_,b?];refine⟨λh=>(by cases h),λ_=>(Eb p x f j FU (ws p.1) [] rfl (by rw[aI];omega) Ψ).mono λb C=>?_⟩;rw[N?,C,v?]
    ·simp[c1,c2,g,l]
   ·simp[c1,c2,g]
  ·simp[c1,c2]
 ·simp[c1]
def agS {a b:Cel}(h:bN a=bN b):a=b:=by
 obtain⟨a1,a2,⟨a3,a4,a5,a6,⟨⟩⟩,⟨⟩⟩:=a;obtain⟨b1,b2,⟨b3,b4,b5,b6,⟨⟩⟩,⟨⟩⟩:=b;simp only[bN,WK.mk.injEq,ByteArray.mk.injEq]at h;obtain⟨rfl,rfl,rfl,rfl,f,rfl⟩:=h;have:a5=b5:=by simpa using f
 subst this;rfl
def EH {l:List Cel}{x:Cel}:inW (l.map bN) (bN x)=true↔x∈l:=by
 have g:inW (l.map bN) (bN x)=true↔bN x∈l.map bN:=by unfold inW;simp only[ρ]
 rw[g,a_];exact⟨λ⟨y,f,e⟩=>agS e ▸ f,λh=>⟨x,h,rfl⟩⟩
open Classical in
def UI {P X:List Cel}(l:P.Nodup)(j:X.Nodup)(h:∀w∈P,w∈X):((X.countP λw=>!inW (P.map bN) (bN w):Nat):Int)=X.length-P.length:=by
 have f:=Bq (λw=>inW (P.map bN) (bN w)) X;have e:(X.filter λw=>inW (P.map bN) (bN w)).length=P.length:=by
  apply ak8
  ·refine wD (j.sublist (List.filter_sublist ..)) λx g=>?_;exact EH.1 (C_.1 g).2
  ·exact wD l λx g=>C_.2 ⟨h x g,EH.2 g⟩
 rw[e]at f;omega
def acX (p:Ir)(x:Com)(l:GoodP p)(C:GoodC x):jy (ke p) (gi x)=agF p x:=by
 unfold jy agF;have e1:(ke p).c.ps=p.1.2.1:=rfl;have e2:(gi x).ps=x.2.1:=rfl;have e3:(ke p).c.qs=p.1.2.2.1:=rfl;have e4:(gi x).qs=x.2.2.1:=rfl;have U:((ke p).c.nt.toList == (gi x).nt.toList)=decide (p.1.2.2.2.1=x.2.2.2.1):=by show((⟨p.1.2.2.2.1.toArray⟩:ByteArray).toList == (⟨x.2.2.2.1.toArray⟩:ByteArray).toList)=_;rw[Clo.bytes_toList, Clo.bytes_toList,N?,ajY,v?]
 rw[e1,e2,e3,e4,U];congr 3;have T:(ke p).c.wl=(ws p.1).map bN:=rfl;have R:(gi x).wl=(ws x).map bN:=rfl;rw[T,R,List.countP_map];have r:(((ke p).left:Nat):Int)=p.2.1:=akb l.left;have f:((ws p.1).map bN).all (inW ((ws x).map bN))=true ↔ ∀w∈ws p.1,w∈ws x:=by rw[alw,G'];exact⟨λh w j=>EH.1 (h w j),λh w j=>EH.2 (h w j)⟩
 by_cases g:∀w∈ws p.1,w∈ws x
 ·rw[f.2 g,L_ g,b?,m?];have J:=UI l.c.key.nd C.key.nd g;rw[N?,v?,v?];show(ws x).countP (λw=>!inW ((ws p.1).map bN) (bN w))=(ke p).left↔_;refine⟨λh=>?_,λh=>?_⟩
  ·have P:(((ke p).left:Nat):Int)=(ws x).length-(ws p.1).length:=by rw[←h];exact J
   exact r.symm.trans P
  ·have h3:(((ke p).left:Nat):Int)=((ws x).length:Int)-(ws p.1).length:=r.trans h;omega
 ·have:((ws p.1).map bN).all (inW ((ws x).map bN))=false:=by
   cases h:((ws p.1).map bN).all (inW ((ws x).map bN))with
   |true=>exact(g (f.1 h)).elim
   |false=>rfl
  rw[this,h? g,Bool.false_and,Bool.and_false]
def M3 (l:List Com)(k:Int):(l.find? λx=>x.1 == k)=fb l k:=by unfold fb;congr 1
def afl (l:List Com)(p:Ir)(g:∀x∈l,GoodC x)(f:GoodP p):jr (l.map gi) (ke p)=match fb l p.1.1 with
  |some x=>agF p x
  |none=>true:=by
 unfold jr;rw[KD];have e:(ke p).c.st=p.1.1:=rfl;rw[e,M3];cases h:fb l p.1.1 with
 |none=>rfl
 |some x=>exact acX p x f (g x (CO h).1)
def DX (c:am.den)(l:List Com)(hc:c.2.1.length<1000000)(U:l.length<1000000)(hp:∀p∈c.2.1,GoodP p)(hl:∀x∈l,GoodC x):∀(n:Nat) (R P:List Ir),c.2.1=P++R→R.length<n→(∀p∈P,jr (l.map gi) (ke p)=true)→Tot (nG n l c P.length c.1 (P.map (nF l))) λr=>r=b7 c l
 |0,R,P,J,h2,_=>Ω
 |n+1,R,P,J,h2,h3=>by
  show Tot (rn false some (nG n) l c P.length c.1 (P.map (nF l))) _;have hn:P.length+R.length=c.2.1.length:=by rw[J];simp
  simp only[rn,nH,w8,tt,il];rw[ak (n:=(P.length:Int)+1) Ω Ω];cases R with
  |nil=>
   have e:c.2.1=P:=by simpa using J
   refine⟨λh=>by simp at h hn;omega,λ_=>?_⟩;unfold b7;rw[q' (by
    rw[alw,G',e];exact h3),e]
  |cons p R=>
   have j:p∈c.2.1:=by rw[J];simp
   have hlt:(P.length:Int)<c.2.1.length:=by simp at hn;omega
   have ep:ix ao c.2.1 (P.length:Int)=p:=by rw[J];exact bt (t:=ao) P p R
   have f:=afl l p hl (hp p j);have g:nF l p=match fb l p.1.1 with
    |some x=>(x,0,())
    |none=>p:=by
    unfold nF;rw[M3];cases fb l p.1.1 <;> rfl
   have next:∀d,nF l p=d→jr (l.map gi) (ke p)=true→Tot (nG n l c ((P.length:Int)+1) c.1 (P.map (nF l)++[d])) λr=>r=b7 c l:=λd hd ho=>by
    have:=DX c l hc U hp hl n R (P++[p]) (by rw[J];simp) (by simp at h2;omega) λq T=>by
     obtain T|T:=π.1 T
     ·exact h3 q T
     ·rw[ξ.1 T];exact ho
    rw[M_,akj,hd]at this;simpa using this
   rw[ep];refine⟨λ_=>⟨aw Ω hlt, ?_⟩,λh=>by simp at h;omega⟩;rw[CP l p.1.1 U];cases hf:fb l p.1.1 with
   |none =>rw[hf]at f g;refine t8.2 ⟨λh=>(by cases h),λ_=>⟨cM Ξ,next p g f⟩⟩
   |some x=>
    rw[hf]at f g;refine t8.2 ⟨λ_=>(NA p x (hp p j) (hl x (CO hf).1)).mono λb hb=>⟨λe=>?_,λe=>?_⟩,λh=>by cases h⟩
    ·have C:agF p x=false:=by rw[←hb];simpa using e
     unfold b7;rw[B'];intro h;rw[alw,G']at h;have:=h p j;rw[Function.comp_apply,f]at this;have this:agF p x=true:=this;rw[C]at this;cases this
    ·have C:agF p x=true:=by rw[←hb];simpa using e
     exact⟨cM Ξ,next (x,0,()) g (f.trans C)⟩
def Us (c:am.den)(l:List Com)(C:c.2.1.length<1000000)(f:l.length<1000000)(g:∀p∈c.2.1,GoodP p)(j:∀x∈l,GoodC x):Tot (jt c l) λr=>r=b7 c l:=by simp only[jt,Bu,tt];exact DX c l C f g j FU c.2.1 [] rfl (by rw[aI];omega) Ψ
def GoodC.len {x:Com}(h:GoodC x):MG x=true:=by have:=h.ps;have:=h.qs;have:=h.wl;unfold MG;exact L_ ⟨Ω,Ω,by show(ws x).length≤_;omega⟩
def acj (c:am.den)(l:List Com)(J:c.1.length<1000000)(C:c.2.1.length<1000000)(j:l.length<1000000)(f:∀p∈c.2.1,GoodP p)(r:∀x∈l,GoodC x):Br c l=true :=
 KF.2 ⟨⟨Ω,Ω,Ω⟩,λx g=>(r x g).len,λp h=>⟨(f p h).left,(f p h).c.len⟩⟩
def Uq (c:am.den)(l:List Com)(J:c.1.length<1000000)(C:c.2.1.length<1000000)(g:∀p∈c.2.1,GoodP p)(j:∀x∈l,GoodC x):(b7 c l).1.1.length<1000000∧(b7 c l).1.2.1.length<1000000∧∀p∈(b7 c l).1.2.1,GoodP p:=by
 unfold b7;split
 ·refine⟨J,by rw[b_];exact C,λq f=>?_⟩;obtain⟨p,h,rfl⟩:=a_.1 f;unfold nF;rw[M3];cases r:fb l p.1.1 with
  |none=>exact g p h
  |some x=>exact⟨j x (CO r).1,aj4 0⟩
 ·exact⟨Ψ,Ψ,λq f=>by cases f⟩
def Rk (c:am.den):List Com:=c.2.1.map λp=>p.1
open Classical in
def eK (c:am.den):d7:=if ∀p∈c.2.1,p.2.1=0 then(Rk c,true,())else([],false,())
def D9 (c:am.den)(l:c.2.1.length<1000000):∀(n:Nat) (R P:List Ir),c.2.1=P++R→R.length<n→Tot (tp n c (P.map λp=>p.1) P.length) λr=>r=Rk c
 |0,R,P,f,j=>Ω
 |n+1,R,P,f,j=>by
  show Tot (rq false some (tp n) c (P.map λp=>p.1) P.length) _;have g:P.length+R.length=c.2.1.length:=by rw[f];simp
  simp only[rq,tt,il];rw[ak (n:=(P.length:Int)+1) Ω Ω];cases R with
  |nil=>
   have e:c.2.1=P:=by simpa using f
   exact⟨λh=>by simp at h g;omega,λ_=>by unfold Rk;rw[e]⟩
  |cons p R=>
   have C:ix ao c.2.1 (P.length:Int)=p:=by rw[f];exact bt (t:=ao) P p R
   have:=D9 c l n R (P++[p]) (by rw[f];simp) (by simp at j;omega);rw[M_,akj]at this;rw[C];exact⟨λ_=>⟨aw Ω (by simp at g;omega),cM Ξ,by simpa using this⟩,λh=>by simp at h g;omega⟩
def HZ (c:am.den)(C:c.2.1.length<1000000)(j:∀p∈c.2.1,GoodP p):∀(n:Nat) (R P:List Ir),c.2.1=P++R→R.length<n→Tot (rp n c (P.map λp=>p.1) P.length) λr=>r=Rk c
 |0,R,P,f,l=>Ω
 |n+1,R,P,f,l=>by
  rw[show rp (n+1)=vw false some (rp n) from rfl];have g:P.length+R.length=c.2.1.length:=by rw[f];simp
  simp only[vw,tt,il];rw[ak (n:=(P.length:Int)+1) Ω Ω];cases R with
  |nil=>
   have e:c.2.1=P:=by simpa using f
   exact⟨λh=>by simp at h g;omega,λ_=>by unfold Rk;rw[e]⟩
  |cons p R=>
   have J:ix ao c.2.1 (P.length:Int)=p:=by rw[f];exact bt (t:=ao) P p R
   have:=HZ c C j n R (P++[p]) (by rw[f];simp) (by simp at l;omega);rw[M_,akj]at this;rw[J];exact⟨λ_=>⟨aw Ω (by simp at g;omega),(j p (by rw[f];simp)).c.len,cM Ξ,by simpa[BI]using this⟩,λh=>by simp at h g;omega⟩
def zm (c:am.den)(l:c.2.1.length<1000000):∀(n:Nat) (R P:List Ir),c.2.1=P++R→R.length<n→(∀p∈P,p.2.1=0)→Tot (oC n c P.length) λr=>r=eK c
 |0,R,P,f,C,_=>Ω
 |n+1,R,P,f,C,h3=>by
  show Tot (mg false some (oC n) c P.length) _;have j:P.length+R.length=c.2.1.length:=by rw[f];simp
  simp only[mg,tt,il];rw[ak (n:=(P.length:Int)+1) Ω Ω];cases R with
  |nil=>
   have e:c.2.1=P:=by simpa using f
   refine⟨λh=>by simp at h j;omega,λ_=>?_⟩;simp only[xf,BN];refine(D9 c l FU c.2.1 [] rfl (by rw[aI];omega)).mono λr J=>?_;unfold eK;rw[q' (by rw[e];exact h3),J]
  |cons p R=>
   have U:ix ao c.2.1 (P.length:Int)=p:=by rw[f];exact bt (t:=ao) P p R
   rw[U];refine⟨λ_=>⟨aw Ω (by simp at j;omega),λh=>?_,λh=>?_⟩,λh=>by simp at h j;omega⟩
   ·unfold eK;rw[B'];intro T;have:=T p (by rw[f];simp);simp[this]at h
   ·have:=zm c l n R (P++[p]) (by rw[f];simp) (by simp at C;omega) λq g=>by
     obtain g|g:=π.1 g
     ·exact h3 q g
     ·rw[ξ.1 g];simpa using h
    simpa using this
def Dd (c:am.den)(C:c.2.1.length<1000000)(l:∀p∈c.2.1,GoodP p):∀(n:Nat) (R P:List Ir),c.2.1=P++R→R.length<n→(∀p∈P,p.2.1=0)→Tot (rK n c P.length) λr=>r=eK c
 |0,R,P,f,J,_=>Ω
 |n+1,R,P,f,J,h3=>by
  show Tot (p7 false some (rK n) c P.length) _;have j:P.length+R.length=c.2.1.length:=by rw[f];simp
  simp only[p7,tt,il];rw[ak (n:=(P.length:Int)+1) Ω Ω];cases R with
  |nil=>
   have e:c.2.1=P:=by simpa using f
   refine⟨λh=>by simp at h j;omega,λ_=>?_⟩;simp only[BM,EP];refine(HZ c C l FU c.2.1 [] rfl (by rw[aI];omega)).mono λr T=>?_;unfold eK;rw[q' (by rw[e];exact h3),T]
  |cons p R=>
   have ep:ix ao c.2.1 (P.length:Int)=p:=by rw[f];exact bt (t:=ao) P p R
   rw[ep];refine⟨λ_=>⟨aw Ω (by simp at j;omega),λh=>?_,λh=>?_⟩,λh=>by simp at h j;omega⟩
   ·unfold eK;rw[B'];intro U;have:=U p (by rw[f];simp);simp[this]at h
   ·have:=Dd c C l n R (P++[p]) (by rw[f];simp) (by simp at J;omega) λq g=>by
     obtain g|g:=π.1 g
     ·exact h3 q g
     ·rw[ξ.1 g];simpa using h
    simpa using this
def NX (c:am.den)(f:c.2.1.length<1000000):Tot (gy c) λr=>r=eK c:=by simp only[gy,vQ];exact zm c f FU c.2.1 [] rfl (by rw[aI];omega) Ψ
def R1 (c:am.den)(g:c.2.1.length<1000000)(f:∀p∈c.2.1,GoodP p):Tot (i7 c) λr=>r=eK c:=by simp only[i7,zk];exact Dd c g f FU c.2.1 [] rfl (by rw[aI];omega) Ψ
def Dw (a:List Com)(C:a.length<1000000)(l:∀x∈a,GoodC x):∀(n:Nat) (i:Int),0≤i→i≤a.length→a.length-i<n→Tot (sd n a a i) λr=>r=true
 |0,i,g,P,J=>Ω
 |n+1,i,g,P,J=>by show Tot (qx false some (sd n) a a i) _;simp only[qx,tt,il];intro f;have f:i<a.length:=N' f;have j:=l _ (fO (t:=tCommit) g f);rw[ak (n:=i+1) Ω Ω];exact⟨aw g f,aw g f,(JG _ j.ps j.qs j.wl).mono λr p=>⟨λh=>(by rw[p]at h;cases h),λ_=>Dw a C l n (i+1) Ω Ω Ω⟩⟩
def SJ (a:List Com)(f:a.length<1000000)(g:∀x∈a,GoodC x):Tot (lK a a) λr=>r=true:=by simp only[lK,zS,tt];exact⟨λh=>by simp at h,λ_=>Dw a f g FU 0 Ω Ω (by rw[aI];omega)⟩
def abI (h:oa w):NE w:=akX (λ{a b} h e=>by
 rw[e.1,e.2]at h;simp[ahd]at h) h
def ab0 (h:H0 l){c:Com}(f:c∈l):GoodC c:=⟨by have:=h.par c f;omega,by have:=h.pic c f;omega,h.wl c f,abI (h.ord c f)⟩
def Y1 (h:HisP 9 l)(j:us.length≤8):(xV l us).1.length<1000000∧(xV l us).2.1.length<1000000∧∀p∈(xV l us).2.1,GoodP p:=by
 obtain⟨J,C,g⟩:=Yw h j;refine⟨J,C,λp f=>⟨⟨(g p f).1,(g p f).2.1,(g p f).2.2, ?_⟩, ?_⟩⟩;all_goals
  have e:(xV l us).2.1=l.map (xP (dw l us)):=rfl;rw[e]at f;obtain⟨c,r,rfl⟩:=a_.1 f
 ·exact alB (List.filter_sublist ..) (ab0 h.h0 r).key
 ·exact Int.natCast_nonneg _
def Fy (l:List Com)(J:l.length<1000000)(x:List Int):∀(n:Nat) (i:Nat) (out:List Int),out.length≤i→i≤6→6-i<n→Tot (lI n l x out i) λr=>r.length≤6
 |0,i,out,T,R,P=>Ω
 |n+1,i,out,T,R,P=>by
  rw[show lI (n+1)=ui false some (lI n) from rfl];simp only[ui,qq,tt,il];rw[ak (n:=(i:Int)+1) Ω Ω];refine⟨λh=>?_,λ_=>Ω⟩;obtain⟨p,a2⟩:(i:Int)<x.length∧(i:Int)<6:=by
   by_cases c1:(i:Int)<x.length
   ·simp[c1]at h;exact⟨c1,h⟩
   ·simp[c1]at h
  have next:∀f:List Int,f.length≤i+1→Tot (lI n l x f ((i:Int)+1)) λr=>r.length≤6:=λf C=>by have:=Fy l J x n (i+1) f C Ω Ω;simpa using this
  refine⟨aw Ω p,(bm _ 17 Ω Ω).mono λr1 _=>⟨λ_=>⟨cM Ξ,next _ Ξ⟩,λ_=>⟨λj=>⟨aw Ω p, ?_⟩,λ_=>next _ Ω⟩⟩⟩;have j:(0:Int)<l.length:=by simpa using j
  exact(bm _ (l.length:Int) Ω Ω).mono λU g=>⟨aw g.1 g.2,cM Ξ,next _ Ξ⟩
def XD (l:List Com)(f:l.length<1000000)(x:List Int):Tot (uj l x) λr=>r.length≤6:=by simp only[uj,Em];exact Fy l f x FU 0 [] Ψ Ω (by rw[aI];omega)
structure GoodK (c:am.den):Prop where
 want:c.1.length<1000000
 len:c.2.1.length<1000000
 parts:∀p∈c.2.1,GoodP p
def R0 (h:GoodK c):(eK c).1.length<1000000∧∀x∈(eK c).1,GoodC x:=by
 unfold eK;split
 ·refine⟨by show(c.2.1.map λp=>p.1).length<_;rw[b_];exact h.len,λx f=>?_⟩;obtain⟨p,g,rfl⟩:=a_.1 f;exact(h.parts p g).c
 ·exact⟨Ψ,λx f=>by cases f⟩
def KJ (h:GoodK c){L:List Com}(T:L.length<1000000)(l:∀x∈L,GoodC x):Br c L=true∧Tot (jt c L) (λr=>r=b7 c L)∧Tot (i7 (b7 c L).1) (λr=>r=eK (b7 c L).1)∧Tot (gy (b7 c L).1) (λr=>r=eK (b7 c L).1) ∧
  LO (b7 c L).1 (b7 c L).1=true∧iA (b7 c L).1 (b7 c L).1=true∧LM (eK (b7 c L).1).1 (eK (b7 c L).1).1=true∧zT (eK (b7 c L).1).1 (eK (b7 c L).1).1=true:=by
 obtain⟨C,g,f⟩:=Uq c L h.want h.len h.parts l;have J:=SM _ C g λp j=>⟨(f p j).c.ps,(f p j).c.qs,(f p j).c.wl⟩;obtain⟨w1,U⟩:=R0 ⟨C,g,f⟩;have R:=SJ _ w1 U;exact⟨acj c L h.want h.len T h.parts l,Us c L h.len T h.parts l,R1 _ g f,NX _ g,J.some,J.getD (P:=λr=>r=true) _,R.some,R.getD (P:=λr=>r=true) _⟩
def afa (h:GoodK c)(C:t.length<1000000)(p:∀x∈t,GoodC x):Tot (fD false some t.length t c) λr=>r=true:=by obtain⟨e1,e2,e3,U,T,R,P,J⟩:=KJ h C p;simp only[fD,tt,z_,U_];refine⟨e1,e2.mono λr10 j=>?_⟩;rw[j];refine e3.mono λr11 g=>U.mono λl f=>?_;rw[g,f,T,R,P,J];simp[aS,C0]
def wP (h:GoodK c)(hL:t.length<1000000)(U:∀x∈t,GoodC x){r:Int}(h0:0≤r)(h1:r<t.length){j:Int}{b1 b2:List Int}{g:Str}{f:List Cel}(hb:GoodC (j,b1,b2,g,f,())):Tot (bT false some r c t.length t j b1 b2 g f) λr=>r=true:=by
 have C:(t.set (0+r.toNat) (j,b1,b2,g,f,())).length<1000000:=by rw[List.length_set];exact hL
 have p:∀x∈t.set (0+r.toNat) (j,b1,b2,g,f,()),GoodC x:=λx l=>by
  obtain l|rfl:=ale l
  ·exact U x l
  ·exact hb
 obtain⟨e1,e2,e3,e4,e5,e6,e7,e8⟩:=KJ h C p;have et:(List.take t.length (t.set (0+r.toNat) (j,b1,b2,g,f,()))).drop 0=t.set (0+r.toNat) (j,b1,b2,g,f,()):=by rw[U_];exact K_ (by rw[List.length_set];exact ζ _)
 simp only[bT,eu,tt,et,ni];refine⟨by simp[h0,h1],e1,e2.mono λr10 R=>?_⟩;rw[R];refine e3.mono λr11 P=>e4.mono λT J=>?_;rw[P,J,e5,e6,e7,e8];simp[aS,C0]
def YJ {f :List Cel}(h:NE w)(e:f.map (λc=>(c.1,c.2.1))=w.map λc=>(c.1,c.2.1)):NE f:=by have g:(w.map λc=>(c.1,c.2.1)).Pairwise λa b=>¬(a.1=b.1∧a.2=b.2):=akU.2 h;rw[←e]at g;exact akU.1 g
def VX {c:am.den}(h:GoodK c){t:List Com}(J:t.length<1000000)(C:∀x∈t,GoodC x){r:Int}(R:0≤r)(P:r<t.length){y:Com}(p:List.getD t (0+r.toNat) (zero tCommit)=y)(f:GoodC y):∀(n i:Nat) (row:List Cel),i≤(ws y).length→(ws y).length-i<n→row.map (λc=>(c.1,c.2.1))=(ws y).map (λc=>(c.1,c.2.1))→Tot (er n r c t t.length i row t) λr=>r=true
 |0,i,row,h2,h3,_=>Ω
 |n+1,i,row,h2,h3,l=>by
  rw[show er (n+1)=iQ false some (er n) from rfl];have hw:=f.wl;have U:row.length=(ws y).length:=by have:=d_ List.length l;simpa using this
  simp only[iQ,tt];rw[p];have el:0+List.length y.2.2.2.2.1=(ws y).length:=Q' _;rw[el,ak (n:=(i:Int)+1) Ω Ω];refine⟨λg=>?_,λg=>?_⟩
  ·have g:i<(ws y).length:=by simpa[ni]using g
   have:=VX h J C R P p f n (i+1) (row.set (0+Int.toNat i) ((List.getD row (0+Int.toNat i) (zero aa)).1,(List.getD row (0+Int.toNat i) (zero aa)).2.1,((w64 ((List.getD row (0+Int.toNat i) (zero aa)).2.2.1.1+1)),(List.getD row (0+Int.toNat i) (zero aa)).2.2.1.2.1,(List.getD row (0+Int.toNat i) (zero aa)).2.2.1.2.2.1,(List.getD row (0+Int.toNat i) (zero aa)).2.2.1.2.2.2.1,()),())) Ω Ω (by
    rw[List.map_set,←l];apply akv
    ·simp
    ·intro j j1 T;rw[List.getElem_set];split
     ·rename_i e;have hj:j<row.length:=by simpa using T
      have e2:0+Int.toNat (i:Int)=j:=e;rw[e2];simp[E',hj]
     ·rfl)
   refine⟨by simp[ni,g],by simp[ni,g], ?_⟩;simpa using this
  ·have g:i=(ws y).length:=by simp[ni]at g;omega
   have et:(List.take (ws y).length row).drop 0=row:=by rw[U_,←U,z_]
   rw[et];exact wP h J C R P ⟨f.ps,f.qs,by show row.length<_;omega,YJ f.key l⟩
def TT {l:List Com}(hh:HisP 9 l){c:am.den}(h:GoodK c){s:List Int}(hs:s.length≤6)(j at_:Int):∀(n:Nat) (R P t:List Com),l=P++R→R.length<n→t.length≤P.length→(∀x∈t,x∈l)→Tot (iP n j at_ l s c t.length P.length t) λr=>r=true
 |0,R,P,t,U,h2,_,_=>Ω
 |n+1,R,P,t,U,h2,h3,h4=>by
  rw[show iP (n+1)=kn false some (iP n) (er FU) from rfl];have hl:=hh.h0;have hfew:=hl.few;have hn:P.length+R.length=l.length:=by rw[U];simp
  have g:t.length<1000000:=Ω
  have J:∀x∈t,GoodC x:=λx T=>ab0 hl (h4 x T);simp only[kn,gX,tt,il];rw[ak (n:=(P.length:Int)+1) Ω Ω];cases R with
  |cons y R=>
   have ey:ix tCommit l (P.length:Int)=y:=by rw[U];exact bt (t:=tCommit) P y R
   have C:(P.length:Int)<l.length:=by simp at hn;omega
   refine⟨λ_=>⟨aw Ω C, ?_⟩,λh=>by simp at h;omega⟩;rw[Bg _ _ Ω,ey];refine t8.2 ⟨λ_=>⟨aw Ω C,cM Ξ, ?_⟩,λ_=>?_⟩
   ·rw[z_];have:=TT hh h hs j at_ n R (P++[y]) (t++[y]) (by rw[U];simp) (by simp at h2;omega) Ξ λx T=>by
     obtain T|T:=π.1 T
     ·exact h4 x T
     ·rw[ξ.1 T,U];simp
    simpa using this
   ·have:=TT hh h hs j at_ n R (P++[y]) t (by rw[U];simp) (by simp at h2;omega) Ξ h4;simpa using this
  |nil=>
   refine⟨λh=>by simp at h hn;omega,λ_=>⟨λhp=>?_,λ_=>afa h g J⟩⟩;have hp:0<t.length:=by simpa[ni]using hp
   refine(bm at_ (t.length:Int) Ω Ω).mono λr p=>⟨by simp[ni,p.1,p.2],(bm j 8 Ω Ω).mono λq _=>?_⟩;obtain⟨y,hy⟩:∃y,List.getD t (0+r.toNat) (zero tCommit)=y:=⟨_,rfl⟩;have hym:y∈t:=by
    have C:0+r.toNat<t.length:=Ω
    rw[←hy,E',ε C];exact w_ C
   have f:=J y hym;have hpar:=hl.par y (h4 y hym);have hw:=f.wl;rw[hy];refine⟨λ_=>wP h g J p.1 p.2 ⟨f.ps,f.qs,f.wl,f.key⟩,λ_=>⟨λ_=>?_,λ_=>⟨λ_=>?_,λ_=>⟨λ_=>?_,λ_=>⟨λ_=>wP h g J p.1 p.2 ⟨f.ps,f.qs,f.wl,f.key⟩,λ_=>wP h g J p.1 p.2 ⟨f.ps,f.qs,f.wl,f.key⟩⟩⟩⟩⟩⟩
   ·have ed:(((ws y).length:Int)).tdiv 2=(((ws y).length/2:Nat):Int):=by
     rw[ald Ω];rfl
    have ed:((List.length y.2.2.2.2.1:Nat):Int).tdiv 2=(((ws y).length/2:Nat):Int):=ed;have el:List.length y.2.2.2.2.1=(ws y).length:=rfl;rw[ed,ak Ω Ω,el];refine⟨by decide,by simp;omega,wP h g J p.1 p.2 ⟨f.ps,f.qs, ?_, ?_⟩⟩
    ·show(List.drop 0 (List.take _ y.2.2.2.2.1)).length<_;rw[U_,g_];have:List.length y.2.2.2.2.1=(ws y).length:=rfl;omega
    ·show NE (List.drop 0 (List.take _ y.2.2.2.2.1));rw[U_];exact alB (akp ..) f.key
   ·exact(Gd y.2.1 9437185 f.ps).mono λv hv=>wP h g J p.1 p.2 ⟨by have:=hv.1;show v.length<_;omega,f.qs,f.wl,f.key⟩
   ·have el:List.length y.2.2.2.2.1=(ws y).length:=rfl;refine⟨cM Ω, ?_⟩;have:=VX h g J p.1 p.2 hy f FU 0 (ws y) Ω (by rw[aI];omega) rfl;simpa using this
def MH (first:Int)(l:List aX.den)(x s:List Int)(f at_:Int):Tot (gY first l x s f at_) λr=>r=true:=by simp only[gY,sI,tt];refine(MQ first l).mono λh g=>(R6 g x).mono λus R=>(TI g (us:=us) Ω).mono λc p=>?_;rw[p];obtain⟨P,J,C⟩:=Y1 g (us:=us) Ω;have T:=g.h0.few;exact(XD h Ω s).mono λq j=>TT g ⟨P,J,C⟩ j f at_ FU h [] [] rfl (by rw[aI];omega) Ψ Ψ
