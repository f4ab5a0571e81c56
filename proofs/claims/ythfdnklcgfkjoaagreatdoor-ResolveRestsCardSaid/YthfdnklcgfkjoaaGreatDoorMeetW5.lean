/- Layer 27. -/
import Derived.Test.YthfdnklcgfkjoaaGreatDoorGenW
import Derived.Test.YthfdnklcgfkjoaaGreatDoorSort
set_option linter.all false
namespace Go.Proofs.YthfdnklcgfkjoaaGreatDoor.Abs
open Go
def bE {n:Int}(g : -9223372036854775808≤n)(f:n<9223372036854775808):w64 n=n:=by unfold w64;simp[IntKind.wrap,IntKind.bits,IntKind.signed];omega
def agG {n:Nat}(h:n<9223372036854775808):w64 (n:Int)=n:=bE Ω Ω
variable{t:Ty}{p:Prop}{s:Sta}
def bN (p:List t.den)(c:t.den)(r:List t.den):ix t (p++c::r) (p.length:Int)=c:=by simp[ix]
def pA (p:List t.den)(c:t.den)(r:List t.den):decide ((p.length:Int)<((p++c::r).length:Int))=true:=by simp;omega
def sj (p:List t.den):decide ((p.length:Int)<((p++[]).length:Int))=false:=by simp
def ui (p:List t.den):decide (0≤(p.length:Int))=true:=by simp
def se (p:List t.den)(c:t.den)(h:p.length<9223372036854775807):w64 ((p.length:Int)+1)=((p++[c]).length:Int):=by rw[bE Ω Ω];simp
def CW (p:List t.den)(c:t.den)(r:List t.den):p++c::r=(p++[c])++r:=by simp
def EJ (a b:Bool):az a b=(!a||b):=by cases a <;> cases b <;> rfl
def dt [Decidable p](h:p):decide p=true:=N_ h
def df [Decidable p](h:¬p):decide p=false:=ar2 h
def aaA (x:Int):pC x=false:=by simp[pC]
def u5 (x y:Int):pd x y=qP x y:=by simp[pd,aaA,qP];by_cases h:x<y <;> by_cases f:y<x <;> simp[h,f]
def adn (f:Nat):∀(n:Nat) (r p:List Int),r.length<n→(p++r).length≤4294967296 →
  Nk f n (p++r) (p.length:Int)=some (.val tInt (orF r)):=by
 intro n;induction n with
 |zero=>intro r p h;omega
 |succ n g=>
  intro r p h l;cases r with
  |nil=>rw[KJ,sj (t:=tInt)];rfl
  |cons c r=>
   have j:p.length+(r.length+1)≤4294967296:=by simpa using l
   have next:=g r (p++[c]) (by simp at h;omega) Ξ
   rw[←CW (t:=tInt),←se (t:=tInt) p c Ω]at next
   rw[KJ,bN (t:=tInt),pA (t:=tInt),ui (t:=tInt),next];simp[orF];by_cases C:c=0 <;> simp[C]
def ZK (l:List Int)(h:adQ l=true):∃f,Nj f l=some (.val tInt (orF l)) :=
 ⟨l.length+1,by rw[ami];exact adn _ (l.length+1) l [] Ω (f_ h)⟩
def aiR (a b:Int):orF [a,b]=eU a b:=by simp[orF,eU];by_cases g:a=0 <;> by_cases f:b=0 <;> simp[g,f]
def ZL (a b c:Int):orF [a,b,c]=eU a (eU b c):=by simp[orF,eU];by_cases j:a=0 <;> by_cases g:b=0 <;> by_cases f:c=0 <;> simp[j,g,f]
def xp (i f i2 g:Int):vj i f i2 g=ahd i f i2 g:=by unfold vj ahd;by_cases p:i<i2 <;> by_cases l:i=i2 <;> by_cases j:f<g <;> simp[p,l,j]
def SV (x y:Stg):∃f,CP f x y=some (.val tInt (jr x y)) :=
 ⟨0,by
  rw[afi,ZL,u5,u5,u5];rfl⟩
def uT:∀(t:Ty) (x:t.den),t.flatEq=true→eqD t x x=true
 |.int _,x,_=>by simp[eqD]
 |.bool,x,_=>by simp[eqD]
 |.str,x,_=>by simp[eqD]
 |.unit,_,_=>rfl
 |.cons a b,x,h=>by simp[Ty.flatEq]at h;simp[eqD,uT a x.1 h.1.1,uT b x.2 h.1.2]
 |.slice _,_,h=>by simp[Ty.flatEq]at h
 |.tree,_,h=>by simp[Ty.flatEq]at h
def VM:∀(t:Ty) (x y:t.den),eqD t x y=true→x=y
 |.int _,x,y,h=>by simpa[eqD]using h
 |.bool,x,y,h=>by simpa[eqD]using h
 |.str,x,y,h=>by simpa[eqD]using h
 |.unit,_,_,_=>rfl
 |.cons a b,x,y,h=>by simp[eqD]at h;exact Prod.ext (VM a _ _ h.1) (VM b _ _ h.2)
 |.slice _,_,_,h=>by simp[eqD]at h
 |.tree,_,_,h=>by simp[eqD]at h
open Go
def XN (c:t.den)(r:List t.den):ix t (c::r) 0=c:=rfl
def Hg (x:Slt)(r:List Slt):(bh (x::r,())).1=(bif !eqD aW (sG x) zv then[(x.1,x.2.1,sG x,())]else[])++(bh (r,())).1:=by simp[bh,asu];cases eqD aW (sG x) zv <;> simp
def Rg (C:Nat)(b0 b5:List Slt)(b1:List Cel)(u:Unit):∀(n:Nat) (r p:List Slt) (f:List Cel),r.length<n→(p++r).length≤1048576→(∀x∈r,x.2.2.1≠[])→f.length≤p.length →
  cL C n (p++r,u) (p.length:Int) b0 b1 f b5=some (.val aB (f++(bh (r,())).1,())):=by
 intro n;induction n with
 |zero=>intro r p f h;omega
 |succ n T=>
  intro r p f h hl j ha;cases r with
  |nil=>rw[qD];dsimp only;rw[sj (t:=ae)];simp[bh]
  |cons c r=>
   obtain⟨ci,R,J,P⟩:=c;cases J with
   |nil=>exact absurd rfl (j _ (c_ ..))
   |cons a J=>
    have hl':p.length+(r.length+1)≤1048576:=by simpa using hl
    have next:=λg (h':g.length≤p.length+1)=>T r (p++[(ci,R,a::J,P)]) g (by simp at h;omega) Ξ (λx U=>j x (C' _ U)) (by simpa using h')
    rw[←CW (t:=ae),←se (t:=ae) p (ci,R,a::J,P) Ω]at next
    rw[qD];dsimp only;rw[bN (t:=ae),pA (t:=ae),ui (t:=ae),next _ Ξ,next _ Ω];dsimp only;rw[XN (t:=aM),Hg];have l:f.length+1≤LIM:=by simp[LIM];omega
    have hp:decide (((a::J).length:Int)>0)=true:=dt Ψ;rw[hp];simp[sG,zv,pZ];cases eqD aW a.2.1 (0,false,[],0,()) <;> simp[l]
def vO (h:stG s=true):s.1.length≤1048576∧∀x∈s.1,x.2.2.1≠[]∧x.2.2.1.length≤1048576:=by simp only[stG,ι,Δ,d_]at h;refine⟨h.1,λx f=>?_⟩;have:=h.2 x f;simp[yF]at this;exact⟨λe=>by rw[e]at this;simp at this,this.2⟩
def ND (s:Sta)(h:stG s=true):∃f,yB f s=some (.val aB (bh s)):=by obtain⟨p,j⟩:=vO h;obtain⟨l,u⟩:=s;refine⟨l.length+1, ?_⟩;rw[aac];exact Rg _ _ _ _ u (l.length+1) l [] [] Ω p (λx g=>(j x g).1) Ψ
def Re (C:Nat)(u:Unit):∀(n:Nat) (r p:List Slt) (f:List Cel),r.length<n→(p++r).length≤1048576→(∀x∈r,x.2.2.1≠[])→f.length≤p.length →
  wC C n (p++r,u) (p.length:Int) f=some (.val aB (f++(bh (r,())).1,())):=by
 intro n;induction n with
 |zero=>intro r p f h;omega
 |succ n T=>
  intro r p f h hl j ha;cases r with
  |nil=>rw[As];dsimp only;rw[sj (t:=ae)];simp[bh]
  |cons c r=>
   obtain⟨ci,R,J,P⟩:=c;cases J with
   |nil=>exact absurd rfl (j _ (c_ ..))
   |cons a J=>
    have hl':p.length+(r.length+1)≤1048576:=by simpa using hl
    have next:=λg (h':g.length≤p.length+1)=>T r (p++[(ci,R,a::J,P)]) g (by simp at h;omega) Ξ (λx U=>j x (C' _ U)) (by simpa using h')
    rw[←CW (t:=ae),←se (t:=ae) p (ci,R,a::J,P) Ω]at next
    rw[As];dsimp only;rw[bN (t:=ae),pA (t:=ae),ui (t:=ae),At,At,next _ Ξ,next _ Ω];dsimp only;rw[XN (t:=aM),Hg];have l:f.length+1≤LIM:=by simp[LIM];omega
    have hq:decide ((0:Int)<((a::J).length:Int))=true:=dt Ψ;rw[hq];simp[sG,zv];cases eqD aW a.2.1 (0,false,[],0,()) <;> simp[l]
def NC (s:Sta)(h:stG s=true):∃f,yA f s=some (.val aB (bh s)):=by obtain⟨p,j⟩:=vO h;obtain⟨l,u⟩:=s;refine⟨l.length+1, ?_⟩;rw[Z9];exact Re _ u (l.length+1) l [] [] Ω p (λx g=>(j x g).1) Ψ
def XB {m:Mdl}(h:Hk m=true):m.1.length≤1048576:=f_ h
def Oe (f:Nat)(a:Alt):∀(n:Nat) (r p:List Alt),r.length<n→(p++r).length≤1048576→(p++r).head? = some a →
  sK f n (p++r) (p.length:Int)=some (.val .bool (r.any (λb=>!eqD aW b.2.1 a.2.1))):=by
 intro n;induction n with
 |zero=>intro r p h;omega
 |succ n l=>
  intro r p h P g;cases r with
  |nil=>rw[pJ,sj (t:=aM)];rfl
  |cons c r=>
   have J:p.length+(r.length+1)≤1048576:=by simpa using P
   have next:=l r (p++[c]) (by simp at h;omega) Ξ (by simpa using g)
   rw[←CW (t:=aM),←se (t:=aM) p c Ω]at next
   have R:ix aM (p++c::r) 0=a:=by
    cases j:p++c::r with
    |nil=>simp at j
    |cons x y=>rw[j]at g;simp at g;subst g;rfl
   have C:decide ((0:Int)<((p++c::r).length:Int))=true:=dt Ξ;rw[pJ,bN (t:=aM),pA (t:=aM),ui (t:=aM),next,R,C];simp;cases eqD aW c.2.1 a.2.1 <;> simp
def Ju (l:List Alt)(h:yF l=true):∃f,uX f l=some (.val .bool (gI l)):=by
 have h:l.length≤1048576:=f_ h;refine⟨l.length+1, ?_⟩;rw[VW];cases l with
 |nil=>rw[pJ];rfl
 |cons a l =>have:=Oe ((a::l).length+1) a ((a::l).length+1) (a::l) [] Ω h rfl;rw[show(([]:List Alt).length:Int)=0 from rfl,o_]at this;rw[this];simp[gI,uT aW a.2.1 rfl]
def Ox (l:List Alt)(h:yQ l=true):∃f,yR f l=some (.val (.slice aM) (idA l)):=by
 simp only[yQ,ι,yF,Δ]at h;refine⟨0, ?_⟩;rw[abk,h.1];have:l.length≤LIM:=by have:=h.2;simp[LIM];omega
 simp[this,idA]
open Go
def da {i f j g:Int}:ahd i f j g=true↔i<j∨(i=j∧f<g):=by simp[ahd]
def Wn {i f j g:Int}:ahd i f j g=false ↔ ¬(i<j∨(i=j∧f<g)):=by rw[←da];simp
def ga {i f j g k h:Int}(p:ahd i f j g=true)(l:ahd j g k h=true):ahd i f k h=true:=by rw[da]at *;omega
def OM {i f j g:Int}(h:ahd i f j g=false)(l:¬(i=j∧f=g)):ahd j g i f=true:=by rw[Wn]at h;rw[da];omega
def adi {L:List Slt}(J:L.Pairwise dz)(id field:Int):∀m,m<L.length→ahd (L.getD m (zero ae)).1 (L.getD m (zero ae)).2.1 id field=decide (m<(L.takeWhile (λx=>ahd x.1 x.2.1 id field)).length):=by
 induction L with
 |nil=>intro m j;simp at j
 |cons x L r=>
  obtain⟨R,P⟩:=b_.1 J;intro m j;rw[O_];cases l:ahd x.1 x.2.1 id field with
  |true=>
   cases m with
   |zero=>simp[List.getD,l]
   |succ m =>have:=r P m (by simpa using j);simpa[List.getD]using this
  |false=>
   cases m with
   |zero=>simp[List.getD,l]
   |succ m=>
    have g:m<L.length:=by simpa using j
    have f:L.getD m (zero ae)∈L:=by simp only[List.getD,ζ g,ate];exact r_ g
    have p:=R _ f;have e:(x::L).getD (m+1) (zero ae)=L.getD m (zero ae):=by simp[List.getD]
    rw[e];cases C:ahd (L.getD m (zero ae)).1 (L.getD m (zero ae)).2.1 id field with
    |false=>simp
    |true =>have:=ga p C;rw[l]at this;cases this
def UH (j:Nat)(id field:Int)(L:List Slt)(u:Unit)(hl:L.length≤1048576)(r:L.Pairwise dz):∀(n f g:Nat),g-f<n→f≤(L.takeWhile (λx=>ahd x.1 x.2.1 id field)).length→(L.takeWhile (λx=>ahd x.1 x.2.1 id field)).length≤g→g≤L.length →
  g8 j n id field (L,u) (f:Int) (g:Int)=some (.val tInt ((L.takeWhile (λx=>ahd x.1 x.2.1 id field)).length:Int)):=by
 intro n;induction n with
 |zero=>intro f g h;omega
 |succ n l=>
  intro f g h U T R;rw[Nb];dsimp only;by_cases P:f<g
  ·have e1:w64 ((f:Int)+(g:Int))=((f+g:Nat):Int):=by rw[bE Ω Ω];simp
   have e2:Int.tdiv ((f+g:Nat):Int) 2=(((f+g)/2:Nat):Int):=rfl;have e3:w64 (((f+g)/2:Nat):Int)=(((f+g)/2:Nat):Int):=agG Ω;rw[e1,e2,e3];generalize hm:(f+g)/2=m;have J:f≤m:=Ω
   have C:m<g:=Ω
   have e4:w64 ((m:Int)+1)=((m+1:Nat):Int):=by rw[bE Ω Ω];simp
   have e5:ix ae L (m:Int)=L.getD m (zero ae):=by simp[ix]
   rw[e4,e5,xp,adi r id field m Ω];have c1:decide ((f:Int)<(g:Int))=true:=dt Ω;have c2:decide ((0:Int)≤(m:Int))=true:=dt Ω;have c3:decide ((m:Int)<(L.length:Int))=true:=dt Ω;rw[c1,c2,c3];simp;by_cases p:m<(L.takeWhile (λx=>ahd x.1 x.2.1 id field)).length
   ·rw[dt p,ξ];exact l (m+1) g Ω Ω T R
   ·rw[df p,S'];exact l f m Ω U Ω Ω
  ·have c1:decide ((f:Int)<(g:Int))=false:=df Ω;have e:(L.takeWhile (λx=>ahd x.1 x.2.1 id field)).length=f:=Ω
   rw[c1,S',e]
def Af {id field:Int}(h:cj s id field=true):s.1.length≤1048576∧s.1.Pairwise dz:=by simpa[cj,agd]using h
def Na (s:Sta)(id field:Int)(h:cj s id field=true):∃f,yw f s id field=some (.val tInt (ai s id field)):=by obtain⟨j,g⟩:=Af h;obtain⟨l,u⟩:=s;refine⟨l.length+1, ?_⟩;rw[ZH];exact UH _ id field l u j g (l.length+1) 0 l.length Ω (s_ _) (List.takeWhile_sublist _).length_le (δ _)
def Ei (s:Sta)(id field:Int):s.1=before s id field++ju s id field:=(atc).symm
def Tp (s:Sta)(id field:Int)(h:cj s id field=true):∃f,xl f s id field=some (.val (.slice aM) (iX s id field)):=by
 refine⟨0, ?_⟩;rw[ago,h];have g:=Ei s id field;unfold iX ai;generalize before s id field=p at *;cases j:ju s id field with
 |nil =>rw[j]at g;rw[g];have c:decide ((p.length:Int)<((p++[]).length:Int))=false:=df Ψ;rw[c];simp[yJ]
 |cons x r =>rw[j]at g;rw[g,bN (t:=ae),pA (t:=ae),ui (t:=ae)];simp[bf];by_cases C:x.1=id <;> by_cases l:x.2.1=field <;> simp[C,l]
def aeZ (p:List t.den)(c:t.den)(r:List t.den):List.drop (p.length+1) (p++c::r)=r:=by rw[←List.drop_drop];simp
def Ub (s:Sta)(id field:Int)(l:List Alt)(h:acL s id field l=true):∃g,FT g s id field l=some (.val ag (de s id field l)):=by
 refine⟨0, ?_⟩;have hG:cj s id field=true:=h;obtain⟨h1,_⟩:=Af hG;have f:=Ei s id field;unfold de;have C:∀(out:List Slt) (k:Nat),out.length≤2097152→k≤s.1.length→vU 0 out s (k:Int)=some (.val ag (out++s.1.drop k,())):=by intro out k j p;rw[Uc];have c1:decide ((0:Int)≤(k:Int))=true:=dt Ω;have c2:decide ((k:Int)≤(s.1.length:Int))=true:=dt Ω;have c3:decide (out.length+((List.take s.1.length s.1).drop (Int.toNat (k:Int))).length≤LIM)=true:=dt (by simp[LIM];omega);rw[c1,c2,c3];simp
 have P:∀out:List Slt,out.length≤2097152→zE 0 id field s out=some (.val ag (out++aa3 id field (ju s id field),())):=by
  intro out j;have p:(before s id field).length≤s.1.length:=by rw[f];simp
  rw[Ud];unfold ai;cases R:ju s id field with
  |nil=>
   rw[R]at f;have c:decide (((before s id field).length:Int)<(s.1.length:Int))=false:=df (by rw[f];simp);rw[c,C out _ j p];have U:s.1.drop (before s id field).length=[]:=by rw[f];simp
   rw[U];simp[yJ,aa3]
  |cons x r=>
   rw[R]at f;have J:(before s id field).length+1≤s.1.length:=by rw[f];simp
   have e1:ix ae s.1 ((before s id field).length:Int)=x:=by rw[f];exact bN (t:=ae) _ _ _
   have c1:decide (((before s id field).length:Int)<(s.1.length:Int))=true:=dt Ω;have c2:decide ((0:Int)≤((before s id field).length:Int))=true:=dt Ω;have e2:w64 (((before s id field).length:Int)+1)=(((before s id field).length+1:Nat):Int):=by rw[bE Ω Ω];simp
   have d1:s.1.drop (before s id field).length=x::r:=by rw[f];simp
   have d2:s.1.drop ((before s id field).length+1)=r:=by rw[f];exact aeZ (t:=ae) _ _ _
   rw[e1,c1,c2,e2,C out _ j p,C out _ j J,d1,d2];simp[bf];by_cases g1:x.1=id <;> by_cases g2:x.2.1=field <;> simp[g1,g2,aa3]
 rw[ag5,hG];unfold ai;have p:(before s id field).length≤s.1.length:=by rw[f];simp
 have T:(List.take (Int.toNat ((before s id field).length:Int)) s.1).drop 0=before s id field:=by simp;rw[f];simp
 have c1:decide ((0:Int)≤((before s id field).length:Int))=true:=dt Ω;have c2:decide (((before s id field).length:Int)≤(s.1.length:Int))=true:=dt Ω;have c3:decide (([]:List Slt).length+(before s id field).length≤LIM)=true:=dt (by simp[LIM];omega);have c4:decide ((([]:List Slt)++before s id field).length+([(id,field,l,())]:List Slt).length≤LIM)=true:=dt (by simp[LIM];omega);rw[T,c1,c2,c3,c4,P _ Ξ,P _ Ξ];cases l with
 |nil=>simp
 |cons a l =>have c5:decide (((a::l).length:Int)>0)=true:=dt Ψ;rw[c5];simp
def pq {f:Type}(p:f→Bool):∀(l:List f),∀x∈l.takeWhile p,p x=true
 |[],x,h=>by simp at h
 |y::l,x,h=>by
  rw[O_]at h;split at h
  next hy=>
   obtain rfl|h:=N'.1 h
   ·exact hy
   ·exact pq p l x h
  ·simp at h
def uV {f:Type}(p:f→Bool):∀(l:List f) (x:f) (r:List f),l.dropWhile p=x::r→p x=false
 |[],x,r,h=>by simp at h
 |y::l,x,r,h=>by
  rw[asV]at h;split at h
  ·exact uV p l x r h
  next hy=>injection h with h1 h2;subst h1;simpa using hy
open Go
def c3 (l j g b1 b2 f:Int):Int:=eU (qP l b1) (eU (qP j b2) (qP g f))
def IG (g f l b1 b2 j:Int):c3 g f l b1 b2 j≤0↔g<b1∨(g=b1∧(f<b2∨(f=b2∧l≤j))):=by
 unfold c3 eU qP
 repeat' split
 all_goals omega
def aoJ (g f l b1 b2 j:Int):c3 g f l b1 b2 j<0↔g<b1∨(g=b1∧(f<b2∨(f=b2∧l<j))):=by
 unfold c3 eU qP
 repeat' split
 all_goals omega
def anO (l j g b1 b2 f:Int):c3 l j g b1 b2 f≤0∨c3 b1 b2 f l j g≤0:=by rw[IG,IG];omega
def af3 {J C r b1 b2 p l j f:Int}(h:c3 J C r b1 b2 p≤0)(g:c3 b1 b2 p l j f≤0):c3 J C r l j f≤0:=by rw[IG]at *;omega
def akU {p l j b1 b2 f:Int}(h:c3 p l j b1 b2 f≤0)(g:c3 b1 b2 f p l j≤0):p=b1∧l=b2∧j=f:=by rw[IG]at *;omega
def anP (l j g b1 b2 f:Int):c3 l j g b1 b2 f<0 ↔ ¬c3 b1 b2 f l j g≤0:=by rw[IG,aoJ];omega
def D5:TotalCmp jr :=
 ⟨λa b=>anO _ _ _ _ _ _,λa b c h g=>af3 h g,λa b h g=>by
  obtain⟨⟨r,p,u⟩,a3,u'⟩:=a;obtain⟨⟨b1,b2,w⟩,b3,w'⟩:=b;obtain⟨l,j,f⟩:=akU h g;simp only at l j f;rw[l,j,f],λa b=>anP _ _ _ _ _ _⟩
def FD (c:Cel)(r:List Cel):px (c::r,())=(bif cF c then[acu c]else[])++px (r,()):=by simp[px,asu];cases cF c <;> simp
def aaL (c:Cel):(bif (bif (bif (decide (c.2.1=2))then(!decide (c.2.2.1.2.2.2.1=0))else false)then(decide (c.2.2.1.1≥1))else false)then(decide (c.2.2.1.1≤3))else false)=cF c:=by unfold cF;cases decide (c.2.1=2) <;> cases decide (c.2.2.1.2.2.2.1=0) <;> cases decide (c.2.2.1.1≥1) <;> rfl
def PG (C:Nat)(u:Unit):∀(n:Nat) (r p:List Cel) (f:List Stg),r.length<n→(p++r).length≤1048576→f.length≤p.length →
  qd C n (p++r,u) f.length (p.length:Int) f=some (.val (.slice ak) (gW jr (f++px (r,())))):=by
 intro n;induction n with
 |zero=>intro r p f h;omega
 |succ n P=>
  intro r p f h J ha;cases r with
  |nil=>
   rw[zp];dsimp only;rw[sj (t:=aa)];have h1:f.length≤LIM:=by simp at J;simp[LIM];omega
   have U:f.all agp=true:=by simp[agp]
   have T:(gW jr f).length=f.length:=(rH jr f).length_eq;rw[dt h1,U];simp[px];rw[←T,X_]
  |cons c r=>
   have R:p.length+(r.length+1)≤1048576:=by simpa using J
   have next:=λg (h':g.length≤p.length+1)=>P r (p++[c]) g (by simp at h;omega) Ξ (by simpa using h')
   rw[←CW (t:=aa),←se (t:=aa) p c Ω]at next
   rw[zp];dsimp only;rw[bN (t:=aa),pA (t:=aa),ui (t:=aa),aaL,zq,zq];have l:f.length+1≤LIM:=by simp[LIM];omega
   have e1:∀y:Stg,f.length+([y]:List Stg).length=(f++[y]).length:=λy=>by simp
   have e2:List.take f.length f=f:=X_;rw[e1,e2,next _ Ξ,next _ Ω,FD];have j:(f++[acu c]).length≤LIM:=by simpa using l
   cases cF c with
   |false=>simp
   |true =>have:decide ((f++[acu c]).length≤LIM)=true:=dt j;simp only[as0,ξ];rw[show((c.2.2.1.2.2.2.1,c.2.2.1.1,()),c.1,())=acu c from rfl,this];simp
def Mw (m:Mdl)(h:Hk m=true):∃f,yf f m=some (.val (.slice ak) (dZ m)):=by have h:=XB h;obtain⟨l,u⟩:=m;refine⟨l.length+1, ?_⟩;rw[Za];exact PG _ u (l.length+1) l [] [] Ω h Ψ
def O6 (x:Slt)(r:List Slt):dY (x::r,())=(bif gI x.2.2.1 then[(1,x.1,x.2.1,x.2.2.1,[],())]else[])++dY (r,()):=by simp[dY,asu];cases gI x.2.2.1 <;> simp
def x9 (s:Sta):(dY s).length≤s.1.length:=by simp[dY];exact q? _ _
def Zw (g:Nat)(J b5:List Slt)(u:Unit)(hb:stG (J,())=true)(hm:Hk (bh (J,()))=true):∀(n:Nat) (r p:List Slt) (f:List Reg),r.length<n→(p++r).length≤1048576→(∀x∈r,x.2.2.1≠[]∧x.2.2.1.length≤1048576)→f.length≤p.length →
  gZ g n (p++r,u) (p.length:Int) J f b5=rS g g (dZ (bh (J,()))) (f++dY (r,())):=by
 intro n;induction n with
 |zero=>intro r p f h;omega
 |succ n U=>
  intro r p f h hl l ha;cases r with
  |nil=>rw[ua];dsimp only;rw[sj (t:=ae),hb,hm];simp[dY]
  |cons c r=>
   have hl':p.length+(r.length+1)≤1048576:=by simpa using hl
   have next:=λj (h':j.length≤p.length+1)=>U r (p++[c]) j (by simp at h;omega) Ξ (λx hx=>l x (C' _ hx)) (by simpa using h')
   rw[←CW (t:=ae),←se (t:=ae) p c Ω]at next
   obtain⟨T,R⟩:=l c (c_ ..);have P:yF c.2.2.1=true:=dt R;have g2:yQ c.2.2.1=true:=by
    simp only[yQ,P,v_];cases hc:c.2.2.1 with
    |nil=>exact absurd hc T
    |cons _ _=>rfl
   rw[ua];dsimp only;rw[bN (t:=ae),pA (t:=ae),ui (t:=ae),P,g2,next _ Ξ,next _ Ω,O6];have C:f.length+1≤LIM:=by simp[LIM];omega
   simp[idA];cases gI c.2.2.1 <;> simp[C]
def ahk (j J:Nat)(l:List Stg)(k:Nat)(g:List Reg)(P c1 c2:Int)(hk:k≤l.length)(hl:l.length≤1048576)(ha:g.length≤2097152):∀(n:Nat) (q p:List Stg),l.take k=p++q→q.length<n →
  mN j J n l (k:Int) (p.length:Int) g P c1 c2 [] (p.map (·.2.1))=mO j J l (k:Int) (g++[(P,c1,c2,[],(l.take k).map (·.2.1),())]):=by
 intro n;induction n with
 |zero=>intro q p _ h;omega
 |succ n R=>
  intro q p C h;have r:p.length+q.length≤1048576:=by have:=C_ List.length C;simp at this;omega
  rw[Qu];have U:(List.take (Int.toNat (k:Int)) l).drop 0=p++q:=by rw[←C];simp
  rw[U];cases q with
  |nil=>
   rw[sj (t:=ak)];have f:g.length+1≤LIM:=by simp[LIM];omega
   simp[f,C]
  |cons c q=>
   have next:=R q (p++[c]) (by rw[C];simp) (by simp at h;omega)
   rw[←se (t:=ak) p c Ω]at next
   rw[bN (t:=ak),pA (t:=ak),ui (t:=ak)];have f:(p.map (λy:Stg=>y.2.1)).length+1≤LIM:=by simp[LIM];simp at r;omega
   rw[ar5]at next
   have T:decide ((p.map (λy:Stg=>y.2.1)).length+([c.2.1]:List Int).length≤LIM)=true:=dt f;simp only[ξ,as0];rw[T,ξ];exact next
def aeL {x y:t.den}:eqD t x y=true→x=y:=VM t x y
def yN (m:Nat)(x:Stg)(r:List Stg):gS (m+1) (x::r)=(if (r.takeWhile (λy=>eqD ao y.1 x.1)).isEmpty then[]else[(2,x.1.1,x.1.2.1,[],x.2.1::(r.takeWhile (λy=>eqD ao y.1 x.1)).map (·.2.1),())])++gS m (r.dropWhile (λy=>eqD ao y.1 x.1)):=rfl
def al4 (f r:Nat)(x:Stg)(g:List Reg)(res:Option AV):∀(n:Nat) (b a:List Stg),(∀y∈a,eqD ao y.1 x.1=true)→b.length<n→(x::(a++b)).length≤1048576→g.length≤2097152→(x::(a++b)).length<f →
  rS f r ((a++b).dropWhile (λy=>eqD ao y.1 x.1)) (g++(if ((a++b).takeWhile (λy=>eqD ao y.1 x.1)).isEmpty then[]else[(2,x.1.1,x.1.2.1,[],x.2.1::((a++b).takeWhile (λy=>eqD ao y.1 x.1)).map (·.2.1),())]))=res →
  wc f r n (x::(a++b)) (((a.length+1:Nat)):Int) g=res:=by
 intro n;induction n with
 |zero=>intro b a _ h;omega
 |succ n ih=>
  intro b a ha h U C hf j;have hl':a.length+b.length+1≤1048576:=by simpa using U
  have h0:ix ak (x::(a++b)) 0=x:=rfl;have hcons:x::(a++b)=(x::a)++b:=rfl;have R:((a.length+1:Nat):Int)=((x::a).length:Int):=by simp
  have c0:decide ((0:Int)<((x::(a++b)).length:Int))=true:=dt Ξ;have stop:(∀y T,b=y::T→eqD ao y.1 x.1=false)→(bif (decide (((a.length+1:Nat):Int)>1))then(bif (decide (0≤((a.length+1:Nat):Int))&&decide (((a.length+1:Nat):Int)≤((x::(a++b)).length:Int)))then(mN f r f (x::(a++b)) ((a.length+1:Nat):Int) 0 g 2 x.1.1 x.1.2.1 [] [])else none)else(mO f r (x::(a++b)) ((a.length+1:Nat):Int) g))=res:=by
   intro hb;have tw:(a++b).takeWhile (λy=>eqD ao y.1 x.1)=a∧(a++b).dropWhile (λy=>eqD ao y.1 x.1)=b:=by
    rw[atm ha,atp ha];cases b with
    |nil=>simp
    |cons y T=>have:=hb y T rfl;simp[this]
   rw[tw.1,tw.2]at j;have J:∀l,mO f r (x::(a++b)) ((a.length+1:Nat):Int) l=rS f r b l:=by
    intro l;rw[Qv];have c1:decide ((0:Int)≤((a.length+1:Nat):Int))=true:=dt Ω;have c2:decide (((a.length+1:Nat):Int)≤((x::(a++b)).length:Int))=true:=dt Ξ;have c3:(List.take (List.length (x::(a++b))) (x::(a++b))).drop (Int.toNat ((a.length+1:Nat):Int))=b:=by rw[X_,Int.toNat_natCast,List.drop_succ_cons];simp
    rw[c1,c2,c3];rfl
   have tk:(x::(a++b)).take (a.length+1)=x::a:=by rw[List.take_succ_cons];simp
   have p:=ahk f r (x::(a++b)) (a.length+1) g 2 x.1.1 x.1.2.1 Ψ U C f (x::a) [] (by rw[tk];rfl) (by simp at hf⊢;omega);rw[tk]at p;have p:mN f r f (x::(a++b)) ((a.length+1:Nat):Int) 0 g 2 x.1.1 x.1.2.1 [] []=_:=p;rw[p,J,J];cases a with
   |nil =>have:decide ((([]:List Stg).length+1:Nat)>(1:Int))=false:=df Ψ;rw[this];simpa using j
   |cons y a =>have d1:decide ((((y::a).length+1:Nat):Int)>1)=true:=dt Ξ;have d2:decide ((0:Int)≤(((y::a).length+1:Nat):Int))=true:=dt Ω;have d3:decide ((((y::a).length+1:Nat):Int)≤((x::(y::a++b)).length:Int))=true:=dt Ξ;rw[d1,d2,d3];simpa using j
  rw[Uu,h0,c0];cases b with
  |nil =>have c1:decide (((a.length+1:Nat):Int)<((x::(a++[])).length:Int))=false:=df Ψ;rw[c1];have:=stop (λy T h=>by cases h);simp only[yJ,ξ,S',as0,asn,w_];exact this
  |cons y b=>
   have e1:ix ak (x::(a++y::b)) ((a.length+1:Nat):Int)=y:=by rw[R];exact bN (t:=ak) (x::a) y b
   have c1:decide (((a.length+1:Nat):Int)<((x::(a++y::b)).length:Int))=true:=dt Ξ;have c2:decide ((0:Int)≤((a.length+1:Nat):Int))=true:=dt Ω;rw[e1,c1,c2];simp only[ξ,as0,bf,asn,w_];cases hy:eqD ao y.1 x.1 with
   |false =>rw[S'];have:=stop (λy' T h=>by cases h;exact hy);rw[c2]at this;simpa using this
   |true=>
    rw[ξ];have next:=ih b (a++[y]) (λz P=>by
     obtain P|P:=Q'.1 P
     ·exact ha z P
     ·rw[F'.1 P];exact hy) (by simp at h;omega) (by simpa using U) C (by simpa using hf) (by simpa using j)
    have e2:w64 (((a.length+1:Nat):Int)+1)=(((a++[y]).length+1:Nat):Int):=by rw[bE Ω Ω];simp
    rw[e2];simpa using next
def al5 (g:Nat):∀(n m:Nat) (j:List Stg) (f:List Reg),j.length<n→j.length≤m→j.length≤1048576→f.length+j.length≤2097152→j.length<g →
  rS g n j f=some (.val (.slice ac) (f++gS m j)):=by
 intro n;induction n with
 |zero=>intro m j f h;omega
 |succ n J=>
  intro m j f h l p R C;rw[Uv];cases j with
  |nil=>cases m <;> simp[gS]
  |cons x r=>
   cases m with
   |zero=>simp at l
   |succ m =>have c:decide (((x::r).length:Int)>0)=true:=dt Ψ;rw[c,ξ,yN];have T:(r.dropWhile (λy=>eqD ao y.1 x.1)).length≤r.length:=(atC _).length_le;simp at h l p R C;have:=al4 g n x f _ g r [] (λy P=>by cases P) Ω (by simpa using p) Ω (by simpa using C) rfl;rw[o_]at this;rw[show((1:Int))=((([]:List Stg).length+1:Nat):Int) from rfl,this,J m (r.dropWhile (λy=>eqD ao y.1 x.1)) (f++(if (r.takeWhile (λy=>eqD ao y.1 x.1)).isEmpty then[]else[(2,x.1.1,x.1.2.1,[],x.2.1::(r.takeWhile (λy=>eqD ao y.1 x.1)).map (·.2.1),())])) Ω Ω Ω (by split <;> simp <;> omega) Ω];simp
def B0 (m:Mdl):(dZ m).length≤m.1.length:=by rw[dZ,(rH _ _).length_eq];simp[px];exact q? _ _
def qC (s:Sta):(bh s).1.length≤s.1.length:=by simp[bh];exact q? _ _
def U8 (h:stG s=true):Hk (bh s)=true:=dt (υ (qC s) (vO h).1)
def Ut (s:Sta)(h:W8 s=true):∃f,Gb f s=some (.val (.slice ac) (nV s)):=by obtain⟨l,u⟩:=s;have h:stG (l,())=true:=h;obtain⟨j,g⟩:=vO h;have r:=U8 h;have C:=qC (l,());have J:=B0 (bh (l,()));have p:=x9 (l,());simp only at j g C p;refine⟨l.length+1, ?_⟩;rw[ahm];have:=Zw (l.length+1) l l u h r (l.length+1) l [] [] Ω j g Ψ;have e:gZ (l.length+1) (l.length+1) (l,u) 0 l [] l=_:=this;rw[e,al5 (l.length+1) (l.length+1) (dZ (bh (l,()))).length (dZ (bh (l,()))) ([]++dY (l,())) Ω (δ _) Ω (by rw[o_];omega) Ω];rfl
open Go
