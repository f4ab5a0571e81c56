/- graph. -/
import Derived.Test.YteiopcmalidhaaaGreatProg
import Derived.Test.YteiopcmalidhaaaGreatAbsK
import Derived.WalkKit
import Derived.Laws.OwnMore
import Derived.Laws.AppendOwnNone
import Derived.Maps.GroupsBeside
import Derived.Maps.AppendAt
import Derived.Sort.OwnSortedInts
import Derived.Shelf.SortM.Plain
import Derived.Shelf.SortM.SortNone
import Derived.Shelf.Slices.SearchI
import Derived.Shelf.Spec.SlicesInsertGrow
set_option linter.all false
namespace Go.Proofs.YteiopcmalidhaaaGreat
namespace Abs
abbrev CK:=Int×List Int
def zO (f:List Int)(c:CK):Bool :=!f.contains c.1&&c.2.all λp=>f.contains p
def rdF (g:List CK)(f:List Int):List Int:=(g.filter (zO f)).map λc=>c.1
def wsK (f:List Int)(c:CK):Nat:=c.2.countP λp=>!f.contains p
def wsF (g:List CK)(f:List Int):List Int:=g.map λc=>(wsK f c:Int)
def chF (f:List CK)(p:Int):List Nat:=(List.range f.length).flatMap λi=>List.replicate ((f.getD i (0,[])).2.count p) i
def VQ (s:Int)(f:List Int):List Int:=f.take (f.countP (· < s))++s::f.drop (f.countP (· < s))
def C1 (g:List CK)(f:List Int×List Int)(i:Nat):List Int×List Int :=
 (f.1.set i (f.1.getD i 0-1),if f.1.getD i 0-1=0 then VQ (g.getD i (0,[])).1 f.2 else f.2)
def cY (f:List CK):Nat→List Int→List Int
 |0,d=>d
 |n+1,d=>match rdF f d with
  |[]=>d
  |s::_=>cY f n (d++[s])
def wH (f:List CK):List Int:=cY f f.length []
def TS:∀{a b:List Int},a.Pairwise (· < ·)→b.Pairwise (· < ·)→(∀x,x∈a↔x∈b)→a=b
 |[],[],_,_,_=>rfl
 |[],y::b,_,_,h=>absurd ((h y).2 (S' ..)) Ψ
 |x::a,[],_,_,h=>absurd ((h x).1 (S' ..)) Ψ
 |x::a,y::b,ha,hb,h=>by
  have ⟨j,p⟩:=j_.1 ha;have ⟨g,l⟩:=j_.1 hb;have e:x=y:=by
   rcases C'.1 ((h x).1 (S' ..))with e|e
   ·exact e
   ·rcases C'.1 ((h y).2 (S' ..))with e'|e'
    ·exact e'.symm
    ·have:=g x e;have:=j y e';omega
  subst e;rw[TS p l λz=>?_];constructor
  ·intro f;rcases C'.1 ((h z).1 (J' _ f))with e|e
   ·subst e;have:=j z f;omega
   ·exact e
  ·intro f;rcases C'.1 ((h z).2 (J' _ f))with e|e
   ·subst e;have:=g z f;omega
   ·exact e
def D8:∀{a b:List Int},a.Nodup→(∀x∈a,x∈b)→a.length≤b.length
 |[],_,_,_=>c_ _
 |x::a,b,hn,h=>by have ⟨l,j⟩:=aiB.1 hn;have g:=h x (S' ..);have:=D8 (b:=b.erase x) j λy f=>(ajr λe:y=x=>l (by rw[←e];exact f)).2 (h y (J' _ f));rw[ajb g]at this;have:=aiK g;simp;omega
def WB {a:List Int}(h:a.Pairwise (· < ·)):a.Nodup:=h.imp λh=>ajO h
def IK:∀{a:List Int} (s:Int),a.Pairwise (· < ·)→(∀x∈a.take (a.countP (· < s)),x<s)∧∀x∈a.drop (a.countP (· < s)),s≤x
 |[],s,_=>by simp
 |x::a,s,h=>by
  have ⟨j,p⟩:=j_.1 h;by_cases g:x<s
  ·rw[List.countP_cons_of_pos (by simpa using g)];have ⟨l,i2⟩:=IK s p;simp only[List.take_succ_cons,List.drop_succ_cons];exact⟨λy f=>(C'.1 f).elim (λe=>e ▸ g) (l y),i2⟩
  ·have e:(x::a).countP (λy=>decide (y<s))=0:=by
    rw[List.countP_eq_zero];intro y f;obtain rfl|f:=C'.1 f
    ·simpa using g
    ·have:=j y f;simp;omega
   rw[e];refine⟨Ψ,λy f=>?_⟩;obtain rfl|f:=C'.1 f
   ·omega
   ·have:=j y f;omega
def acF (s x:Int)(f:List Int):x∈VQ s f↔x=s∨x∈f:=by
 have e:=g? (f.countP (· < s)) f;unfold VQ;rw[O',C'];constructor
 ·rintro(h|h|h)
  ·exact .inr (J? h)
  ·exact .inl h
  ·exact .inr (K? h)
 ·rintro(h|h)
  ·exact .inr (.inl h)
  ·rw[←e,O']at h;exact h.elim .inl λh=>.inr (.inr h)
variable{s:Int}{i:Nat}{os:List Int}
def acG {f:List Int}(h:f.Pairwise (· < ·))(C:s ∉ f):(VQ s f).Pairwise (· < ·):=by
 have ⟨r,J⟩:=IK s h;have l:=h;rw[←List.take_append_drop (f.countP (· < s)) f,y_]at l;unfold VQ;rw[y_,j_];have p:∀x∈f.drop (f.countP (· < s)),s<x:=λx g=>by have:=J x g;have:x≠s:=λe=>C (e ▸ K? g);omega
 refine⟨l.1,⟨p,l.2.1⟩,λx g y j=>?_⟩;obtain rfl|j:=C'.1 j
 ·exact r x g
 ·have:=r x g;have:=p y j;omega
def TF (f:Nat→Nat)(i:Nat):∀n:Nat,((List.range n).flatMap λj=>List.replicate (f j) j).count i=if i<n then f i else 0
 |0=>by simp
 |n+1=>by
  rw[ajj,ajx,List.count_append,TF f i n];simp only[aiL,List.flatMap_nil,m?,List.count_replicate];by_cases g:n=i
  ·subst g;simp
  ·have e:(n == i)=false:=n?.2 g;by_cases h:i<n
   ·simp[e,h,Nat.lt_succ_of_lt h]
   ·have:¬i<n+1:=Ω
    simp[e,h,this]
def Fm (f:List CK)(p:Int)(h:i<f.length):(chF f p).count i=f[i].2.count p:=by unfold chF;rw[TF,β h,υ,δ h];rfl
def ahc {f:List CK}{p:Int}(h:i∈chF f p):i<f.length:=by unfold chF at h;obtain⟨j,l,g⟩:=List.mem_flatMap.1 h;have:=F_.1 l;have:=(List.mem_replicate.1 g).2;omega
def tS (g:s ∉ os)(c:CK):wsK (os++[s]) c+c.2.count s=wsK os c:=by
 unfold wsK;induction c.2 with
 |nil=>rfl
 |cons p l f=>
  rw[List.countP_cons,List.countP_cons,List.count_cons];by_cases e:p=s
  ·subst e;simp[g]at f⊢;omega
  ·by_cases h:p∈os <;> simp[h,e]at f⊢ <;> omega
def aa9 {c:CK}:wsK os c=0 ↔ ∀p∈c.2,p∈os:=by
 unfold wsK;rw[List.countP_eq_zero];constructor
 ·intro h p f;simpa using h p f
 ·intro h p f;simpa using h p f
def qE {c:CK}:zO os c=true↔c.1 ∉ os∧wsK os c=0:=by rw[aa9];unfold zO;simp
section
variable {cs:List CK}{os:List Int}{s:Int}{r:List Int}
def StL (cs:List CK):Prop:=cs.Pairwise λa b=>a.1<b.1
structure ClK (cs:List CK)(os:List Int):Prop where
 up:∀c∈cs,c.1∈os→wsK os c=0
 nd:os.Nodup
 sub:∀x∈os,x∈cs.map λc=>c.1
def StL.same:∀{cs:List CK},StL cs→∀{a b:CK},a∈cs→b∈cs→a.1=b.1→a=b
 |x::l,h,a,b,ha,hb,e=>by
  have ⟨f,g⟩:=j_.1 h;obtain ea|ha':=C'.1 ha <;> obtain eb|hb':=C'.1 hb
  ·rw[ea,eb]
  ·have:=f b hb';rw[ea]at e;omega
  ·have:=f a ha';rw[eb]at e;omega
  ·exact StL.same g ha' hb' e
def JE (h:StL cs)(os:List Int):(rdF cs os).Pairwise (· < ·):=by unfold rdF;rw[ajK];exact h.sublist List.filter_sublist
def zP {x:Int}:x∈rdF cs os ↔ ∃c∈cs,c.1=x∧zO os c=true:=by
 unfold rdF;simp only[s_,C?];constructor
 ·rintro⟨c,⟨j,g⟩,f⟩;exact⟨c,j,f,g⟩
 ·rintro⟨c,j,f,g⟩;exact⟨c,⟨j,g⟩,f⟩
def ClK.nil (cs:List CK):ClK cs []:=⟨λ_ _ h=>(by cases h),R?,λ_ h=>(by cases h)⟩
def ClK.head (g:rdF cs os=s::r):∃c∈cs,c.1=s∧s ∉ os∧wsK os c=0:=by
 have:s∈rdF cs os:=by rw[g];exact S' ..
 obtain⟨c,C,f,p⟩:=zP.1 this;obtain⟨l,j⟩:=qE.1 p;exact⟨c,C,f,f ▸ l,j⟩
def ClK.next (P:StL cs)(h:ClK cs os)(R:rdF cs os=s::r):ClK cs (os++[s]):=by
 obtain⟨c0,J,C,p,U⟩:=ClK.head R;refine⟨λc j g=>?_, ?_,λx f=>?_⟩
 ·have:=tS p c;have e0:wsK os c=0:=by
   obtain g|g:=O'.1 g
   ·exact h.up c j g
   ·rw[P.same j J ((E'.1 g).trans C.symm)];exact U
  omega
 ·rw[ajL];exact⟨h.nd,Ψ,λa T b l e=>p (by rw[E']at l;rw[←l,←e];exact T)⟩
 ·obtain f|f:=O'.1 f
  ·exact h.sub x f
  ·rw[E'.1 f,←C];exact aiX J
def ClK.len (h:ClK cs os):os.length≤cs.length:=by have:=D8 h.nd h.sub;rwa[o_]at this
structure InK (cs:List CK)(os:List Int)(s:Int)(r:List Int)(k:Nat)(st:List Int×List Int):Prop where
 len:st.1.length=cs.length
 ws:∀i (h:i<cs.length),st.1.getD i 0=(wsK os cs[i]:Int)-(((chF cs s).take k).count i:Nat)
 asc:st.2.Pairwise (· < ·)
 mem:∀x,x∈st.2↔x∈r∨∃i,∃h:i<cs.length,cs[i].1=x∧0<((chF cs s).take k).count i∧wsK os cs[i]=((chF cs s).take k).count i
def Zb {j g:Type}(f:j→g)(l:List j)(d:g){i:Nat}(h:i<l.length):(l.map f).getD i d=f l[i]:=by rw[υ,A_,δ h];rfl
def InK.start (g:StL cs)(j:rdF cs os=s::r):InK cs os s r 0 (wsF cs os,r):=by
 have f:=JE g os;rw[j]at f;refine⟨by simp[wsF],λi h=>?_,(j_.1 f).2,λx=>?_⟩
 ·simp only[t?,List.count_nil];unfold wsF;rw[Zb _ _ _ h];simp
 ·simp
def aeP (L:List Nat)(k i:Nat):(L.take k).count i≤L.count i:=(ajJ k L).count_le i
variable{k:Nat}{st:List Int×List Int}
def MN {L:List Nat}(f:k<L.length)(i:Nat):(L.take (k+1)).count i=(L.take k).count i+if L[k]=i then 1 else 0:=by rw[v_ f,List.count_append,List.count_singleton];simp
def Wj (f:s ∉ os)(c:CK):c.2.count s≤wsK os c:=by have:=tS f c;omega
def InK.pos (j:rdF cs os=s::r)(I:InK cs os s r k st)(g:k<(chF cs s).length):(chF cs s)[k]<cs.length∧1≤st.1.getD (chF cs s)[k] 0:=by obtain⟨T,R,P,C,J⟩:=ClK.head j;have f:=ahc (e_ g);refine⟨f, ?_⟩;rw[I.ws _ f];have p:=MN g (chF cs s)[k];rw[β rfl]at p;have l:=aeP (chF cs s) (k+1) (chF cs s)[k];rw[Fm _ _ f]at l;have:=Wj C cs[(chF cs s)[k]];omega
def InK.step (J:StL cs)(P:rdF cs os=s::r)(I:InK cs os s r k st)(R:k<(chF cs s).length):InK cs os s r (k+1) (C1 cs st (chF cs s)[k]):=by
 obtain⟨c0,g1,g2,g3,g4⟩:=ClK.head P;obtain⟨p,hp⟩:=I.pos P R;have C:=λi=>MN R i;generalize hi0:(chF cs s)[k]=f at *;have hx:=I.ws f p;have hl:=I.len;refine⟨by simp[C1,hl],λi h=>?_, ?_,λx=>?_⟩
 ·show(st.1.set f _).getD i 0=_;rw[C,υ,ajM];by_cases e:f=i
  ·subst e;rw[β rfl,β Ω,β rfl];simp only[s?];omega
  ·rw[B' e,B' e,←List.getD_eq_getElem?_getD,I.ws i h];omega
 ·show List.Pairwise _ (if _ then _ else _);split
  next hz=>
   refine acG I.asc λj=>?_;rw[υ,δ p]at j;simp only[s?]at j;rcases(I.mem _).1 j with j|⟨i,h,e1,e2,e3⟩
   ·have j:cs[f].1∈rdF cs os:=by rw[P];exact J' _ j
    obtain⟨c,q1,q2,T⟩:=zP.1 j;have:=(qE.1 T).2;rw[J.same q1 (e_ p) q2]at this;omega
   ·have:=J.same (e_ h) (e_ p) e1;have e:i=f:=by
     obtain hlt|he|hlt:=d? i f
     ·have:=f?.1 J i f h p hlt;omega
     ·exact he
     ·have:=f?.1 J f i p h hlt;omega
    subst e;omega
  ·exact I.asc
 ·show x∈(if _ then _ else _)↔_;have l:∀i (h:i<cs.length),i≠f→(cs[i].1=x∧0<((chF cs s).take (k+1)).count i∧wsK os cs[i]=((chF cs s).take (k+1)).count i↔cs[i].1=x∧0<((chF cs s).take k).count i∧wsK os cs[i]=((chF cs s).take k).count i):=λi h e=>by
   rw[C,B' (λe'=>e e'.symm)];rfl
  have U:=C f;rw[β rfl]at U;have j:=I.mem x;split
  next hz=>
   rw[acF,υ,δ p,j];simp only[s?];constructor
   ·rintro(e|e|⟨i,h,e⟩)
    ·exact .inr ⟨f,p,e.symm,Ω,Ω⟩
    ·exact .inl e
    ·by_cases g:i=f
     ·subst g;omega
     ·exact .inr ⟨i,h,(l i h g).2 e⟩
   ·rintro(e|⟨i,h,e⟩)
    ·exact .inr (.inl e)
    ·by_cases g:i=f
     ·subst g;exact .inl e.1.symm
     ·exact .inr (.inr ⟨i,h,(l i h g).1 e⟩)
  next hz=>
   rw[j];constructor
   ·rintro(e|⟨i,h,e⟩)
    ·exact .inl e
    ·by_cases g:i=f
     ·subst g;omega
     ·exact .inr ⟨i,h,(l i h g).2 e⟩
   ·rintro(e|⟨i,h,e⟩)
    ·exact .inl e
    ·by_cases g:i=f
     ·subst g;omega
     ·exact .inr ⟨i,h,(l i h g).1 e⟩
def InK.all (f:StL cs)(g:rdF cs os=s::r):∀k,k≤(chF cs s).length→InK cs os s r k (((chF cs s).take k).foldl (C1 cs) (wsF cs os,r))
 |0,_=>InK.start f g
 |k+1,hk=>by have:=(InK.all f g k Ω).step f g Ω;rw[v_ Ω,List.foldl_append];exact this
def InK.done (j:StL cs)(hc:ClK cs os)(g:rdF cs os=s::r):(chF cs s).foldl (C1 cs) (wsF cs os,r)=(wsF cs (os++[s]),rdF cs (os++[s])):=by
 have I:=InK.all j g _ (ζ _);rw[J_]at I;obtain⟨c0,g1,g2,p,g4⟩:=ClK.head g;generalize (chF cs s).foldl (C1 cs) (wsF cs os,r)=st at *;have T:=I.ws;have U:=I.mem;rw[J_]at T U;obtain⟨a,b⟩:=st;have R:a=wsF cs (os++[s]):=by
  refine ajg (by rw[I.len];simp[wsF]) λi h1 h2=>?_;have hi:i<cs.length:=by rw[←I.len];exact h1
  have:=T i hi;rw[υ,δ h1]at this;have P:=tS p cs[i];rw[Fm _ _ hi]at this;simp only[s?]at this;rw[this];simp only[wsF,List.getElem_map];omega
 have C:b=rdF cs (os++[s]):=by
  refine TS I.asc (JE j _) λx=>?_;have l:=JE j os;rw[g]at l;have l:=(j_.1 l).1;rw[U x,zP];constructor
  ·rintro(e|⟨i,h,R,C,e3⟩)
   ·have P:x∈rdF cs os:=by rw[g];exact J' _ e
    obtain⟨c,q1,q2,J⟩:=zP.1 P;obtain⟨f,q5⟩:=qE.1 J;have:=l x e;refine⟨c,q1,q2,qE.2 ⟨?_,by have:=tS p c;omega⟩⟩;rw[O',E'];rintro(q|q)
    ·exact f q
    ·omega
   ·rw[Fm _ _ h]at C e3;have:=tS p cs[i];refine⟨cs[i],e_ h,R,qE.2 ⟨?_,Ω⟩⟩;rw[O',E'];rintro(q|q)
    ·have:=hc.up _ (e_ h) q;omega
    ·have:=j.same (e_ h) g1 (q.trans g2.symm);rw[this]at C e3;omega
  ·rintro⟨c,q1,q2,J⟩;obtain⟨f,q5⟩:=qE.1 J;rw[O',E']at f;have P:=tS p c;by_cases h0:c.2.count s=0
   ·refine .inl ?_;have:x∈rdF cs os:=zP.2 ⟨c,q1,q2,qE.2 ⟨λe=>f (.inl e),Ω⟩⟩;rw[g]at this;obtain e|e:=C'.1 this
    ·exact absurd (.inr (q2.trans e)) f
    ·exact e
   ·obtain⟨i,h,rfl⟩:=L?.1 q1;exact .inr ⟨i,h,q2,by rw[Fm _ _ h];omega,by rw[Fm _ _ h];omega⟩
 rw[R,C]
def InK.rlen (g:rdF cs os=s::r)(I:InK cs os s r k st):st.2.length≤cs.length:=by
 have:=D8 (b:=cs.map (·.1)) (WB I.asc) λx f=>by
  rcases(I.mem x).1 f with e|⟨i,h,e,_⟩
  ·have:x∈rdF cs os:=by rw[g];exact J' _ e
   obtain⟨c,q1,q2,_⟩:=zP.1 this;exact q2 ▸ aiX q1
  ·exact e ▸ aiX (e_ h)
 rwa[o_]at this
def XK (cs:List CK)(os:List Int):(rdF cs os).length≤cs.length:=by unfold rdF;rw[o_];exact w? ..
def lF (cs:List CK):∀(k:Nat) (d:List Int),cY cs (k+1) d=match rdF cs (cY cs k d)with
  |[]=>cY cs k d
  |s::_=>cY cs k d++[s]
 |0,d=>by simp only[cY]
 |k+1,d=>by
  cases h:rdF cs d with
  |nil=>
   have e:∀m,cY cs (m+1) d=d:=λm=>by simp only[cY];rw[h]
   rw[e,e,h]
  |cons s l=>
   have e:∀m,cY cs (m+1) d=cY cs m (d++[s]):=λm=>by conv=>lhs;unfold cY;rw[h]
   rw[e,e];exact lF cs k _
def Hd {k:Nat}(h:rdF cs (cY cs k [])=[]):∀m,cY cs (k+m) []=cY cs k []
 |0=>rfl
 |m+1=>by rw[←Nat.add_assoc,lF,Hd h m,h]
def MX (f:k≤cs.length)(h:rdF cs (cY cs k [])=[]):wH cs=cY cs k []:=by unfold wH;have:=Hd h (cs.length-k);rwa[show k+(cs.length-k)=cs.length by omega]at this
def ClK.take (f:StL cs):∀k,ClK cs (cY cs k [])
 |0=>ClK.nil cs
 |k+1=>by
  rw[lF];split
  ·exact ClK.take f k
  next s l h=>exact(ClK.take f k).next f h
end
open Go Go.RowKit Tryz
def HQ (w f:World)(St:Sb):Sb:=⟨λb o=>St b o∨(w.heap.size≤b∧b<f.heap.size),St.j⟩
def YD (w f:World)(St:Sb):St.le (HQ w f St):=⟨λ_ _ h=>.inl h,λ_ _ _ _ h=>h⟩
variable{w w' :World}{St:Sb}{e:TypeId}{v:Value}{τ:Ty}{xs:List Value}{ops:Array Oper}{au:List Oper}{o:Oper}{a:Act}{Q:Exit→Act→World→Prop}
def abx {l:List τ.den}(p:w'.ownsRow w.heap.size e τ.size v l.length xs)(f:Rep w' (HQ w w' St) (chain (toD τ) l) xs):Rep w' (HQ w w' St) (toD (.slice τ) l) [v]:=by
 have hl:=bh f;rcases p.2 with⟨rfl,R⟩|⟨g,cap,T,rfl,J,P,C,_,hs,U⟩
 ·refine⟨none,0,0,rfl,by rw[len_chain];exact R.symm,ζ _,.inl rfl⟩
 ·refine⟨some ⟨g,0,none⟩,l.length,cap,rfl,(len_chain _ _).symm,C,.inr ⟨⟨g,0,none⟩,xs,rfl,rfl,f,λj u r=>⟨?_,.inr ⟨J, ?_⟩⟩⟩⟩
  ·exact p.cells (g:=g) rfl j u r
  ·exact(η.1 P).1
def X4 (j:Below w.heap.size w w')(g:dz w≤dz w'){t:Ty}{x:t.den}(f:RepV w' (HQ w w' St) t x v):RW w St (.val t x) (.returned v) w' :=
 ⟨v,HQ w w' St,rfl,j,g,YD w w' St,λ_ _ h=>h,λ_ _ _ _ h=>.inl h,v,rfl,f⟩
def DF (p:Below w.heap.size w w')(j:dz w≤dz w'){l:List τ.den}(g:w'.ownsRow w.heap.size e τ.size v l.length xs)(f:Rep w' (HQ w w' St) (chain (toD τ) l) xs):RW w St (.val (.slice τ) l) (.returned v) w' :=
 X4 p j (by show RepV _ _ (.slice τ) l v;unfold RepV;rw[B' (by simp[Ty.isStruct])];exact abx g f)
open Go.Proofs Go.Maps Go.MapKept Go.WideElems
open Go.ChangeMaps (setBlock heap_setBlock_same)
open Go.ChangeShapes (lits)
def intsI (l:List Int):List Value:=l.map (.int .i64)
def aeq:prog.underlying 3=some (.int .i64):=Φ
def adY:prog.underlying 33=some (.slice 3):=Φ
def I5:prog.underlying 101=some (.map 3 33):=Φ
def Te:(prog.info? 3).map (λi=>(i.zero,i.size,i.bytes))=some (some (.int .i64 0),1,8):=Φ
def YR:Keyed prog 3:=int_keyed aeq
def WL (w:World):(zeroValue 33).run prog w = .ok (.slice none 0 0) w:=Φ
def rM (w:World)(hgd:o.guard=none)(s x:Operand)
  (ho:o.op = .call { callee :=.builtin .append,args :=#[s,x],argTypes :=#[33,33] }) (f:Nat) (v:Value) (g:List Int) (hs:a.eval s=v) (r:w.ownsRow f 3 1 v g.length (intsI g))
  (C:Addr) (u:Int) (hx:a.eval x = .slice (some C) 1 1) (hc:w.cell? C=some (.int .i64 u)) (hl:g.length≤1048576) (l:f≤w.heap.size)
  (h:∀p w',w'.ownsRow f 3 1 p (g.length+1) (intsI (g++[u]))→w.grownBy w' v.ownBlock→(p.ownBlock=v.ownBlock∨p.ownBlock=some w.heap.size)→dz w≤dz w'→wpList prog ops Q au (a.put o.dst p) w'):wpList prog ops Q (o::au) a w:=by
 obtain⟨i0,hi,T,R,J⟩:=info_parts Te;refine ajE hgd λK hK=>?_;obtain⟨p,w',hr,h2,h3,h4,_,h5⟩:=cV (P:=prog) (B:={ b:=f }) w 33 o.type 3 i0 (.int .i64 0) 1 8 adY hi T R J rfl Ϛ v g.length (intsI g) r (some C) 1 1 [.int .i64 u] rfl
  (.inr ⟨C,rfl,λj y U=>by
   cases j with
   |zero=>simp at U;subst U;simpa[Addr.add]using hc
   |succ j=>simp at U⟩) (by simp[Value.oneCell']) (by unfold maxLen;omega) Ω l
 unfold Oper.wp execOp;simp[ho,resolve,invoke,builtin,ξ,a_,hs,hx,hr];exact hK _ _ (h p w' (by simpa[intsI]using h2) h3 h4 h5)
def wh (w:World)
  (hg:o.guard=none) (m x v:Operand) (hop:o.op=Op.mapUpdate 101 m x v)
  {U:World} {j b n:Nat} {D:DataW Unit} {key:Value} {kl:Lit} {u P:Value} {zs r:List Int} {No:Nat→Prop}
  (R:keyOf prog 3 key=some kl) (hown0:U.ownsGroups prog 3 j 3 .i64 b n D) (hn:n<maxLen) (hu:U.ownsInts j 3 .i64 u zs) (hsh:U.Shuns b No) (hno:∀g,P.ownBlock=some g→¬No g)
  (hback:U.groupBack prog 101 3 j 3 .i64 b n D key kl u) (hm:a.eval m = .map (some b)) (hx:a.eval x=key) (hv:a.eval v=P)
  (hgr:U.grownBy w u.ownBlock) (hown':w.ownsInts j 3 .i64 P r) (hl':r.length≤n+1) (hloc:P.ownBlock=u.ownBlock∨∃g,P.ownBlock=some g∧U.heap.size≤g)
  (hK:∀C,C.ownsGroups prog 3 j 3 .i64 b (n+1) (D.put kl (rowDatum .i64 P r))→w.grownBy C (some b)→C.Shuns b No→C.drawn=w.drawn→wpList prog ops Q au (a.put o.dst undef) C) :
  wpList prog ops Q (o::au) a w:=by
 refine ajE hg λK' hK'=>?_;obtain⟨C,p,r1,r2⟩:=hback w P r hgr hown' hl' hloc;have r3:C.Shuns b No∧C.drawn=w.drawn:=by
  obtain⟨es,clock,hb,F,hs,_,hbb,_⟩:=hown0;have hblt:b<U.heap.size:=(η.1 hb).1;have hb1:w.heap[b]? = some (.map es clock):=(hgr.block b hblt (λe1=>by have:=(hu.1.lt b e1.symm).1;omega)).trans hb;obtain⟨es',J,hb2,hwho⟩:=stored_who YR I5 hb1 F (U? hs hn) R p;refine⟨λes2 f T y hy g hyg=>?_, ?_⟩
  ·obtain⟨rfl,rfl⟩:es'=es2∧J=f:=by rw[hb2]at T;simpa using T
   rcases hwho y hy with⟨hy0,_⟩|⟨_,hval⟩
   ·exact hsh es clock hb y hy0 g hyg
   ·exact hno g (hval ▸ hyg)
  ·have F0:Fit prog 3 (λ_=>some ((.nil:DataW Unit),([]:List MemPlace))) es clock:=⟨F.size,F.stamped,λx hx=>by
    obtain⟨y,hy⟩:=F.reads x hx;exact⟨(y.1,.nil),by simp[rd,rd_key hy]⟩⟩
   obtain⟨es2,f,l,_⟩:=Maps.fit_store (R':=λ_=>some ((.nil:DataW Unit),([]:List MemPlace))) (val:=P) YR I5 hb1 F0 (U? hs hn) (λ_ _ _ _ h=>h) R rfl;rw[p]at l;obtain rfl:C=setBlock w b (.map es2 f):=by simpa using l
   rfl
 unfold Oper.wp;simp[execOp,hop,hm,hx,hv,p,Result.andThen];exact hK' _ _ (hK C r1 r2 r3.1 r3.2)
def chl (f:List (Int×Nat))(p:Int):List Int:=(f.filter (·.1 == p)).map λx=>(x.2:Int)
def GS (D:DataW Unit)(f:List (Int×Nat)):Prop:=IsMap D∧∀p:Int,(D.atKey (.int .i64 p) .nil = .nil∧chl f p=[])∨D.atKey (.int .i64 p) .nil = .slice (lits .i64 (chl f p)) []
def ND:∀{a b:List Int},(lits .i64 a:List (DataW Unit))=lits .i64 b→a=b
 |[],[],_=>rfl
 |x::a,y::b,h=>by simp only[lits,b?,I']at h;obtain⟨g,f⟩:=h;cases g;rw[ND (a:=a) (b:=b) f]
 |[],_::_,h=>by cases h
 |_::_,[],h=>by cases h
def GS.nil:GS (.map []) []:=⟨isMap_empty,λp=>.inl ⟨rfl,rfl⟩⟩
def GS.zs {D:DataW Unit}{j:List (Int×Nat)}(h:GS D j){p:Int}{l:Nat}{zs:List Int}(g:D.atKey (.int .i64 p) .nil=rowDatum .i64 v zs)(r:w.ownsInts l 3 .i64 v zs):zs=chl j p:=by
 rcases r.datum (H:=Unit)with⟨e,rfl⟩|e
 ·rw[e]at g;rcases h.2 p with⟨_,f⟩|f
  ·exact f.symm
  ·rw[g]at f;cases f
 ·rw[e]at g;rcases h.2 p with⟨f,_⟩|f
  ·rw[g]at f;cases f
  ·rw[g]at f;injection f with f;exact ND f
def GS.put {D:DataW Unit}{f:List (Int×Nat)}(h:GS D f)(p:Int)(i:Nat)(j:WideAt.IsKeyLit (.int .i64 p)):GS (D.put (.int .i64 p) (.slice (lits .i64 (chl f p++[(i:Int)])) [])) (f++[(p,i)]):=by
 refine⟨h.1.put _ _,λq=>?_⟩;by_cases e:q=p
 ·subst e;refine .inr ?_;rw[atKey_put_same h.1 j];simp[chl]
 ·rw[atKey_put_other (λg=>e (by cases g;rfl))];have:chl (f++[(p,i)]) q=chl f q:=by
   unfold chl;rw[aiE];have:(p == q)=false:=n?.2 λg=>e g.symm;simp[this]
  rw[this];exact h.2 q
def qG (f:List CK)(k:Nat):List (Int×Nat):=(List.range k).flatMap λi=>(f.getD i (0,[])).2.map λp=>(p,i)
def BQ (f:List CK)(k j:Nat):List (Int×Nat):=qG f k++((f.getD k (0,[])).2.take j).map λp=>(p,k)
def UY (f:List CK)(k:Nat):qG f (k+1)=BQ f k (f.getD k (0,[])).2.length:=by unfold BQ qG;rw[ajj,ajx,J_];simp
def HA (f:List CK)(k:Nat):BQ f k 0=qG f k:=by simp[BQ]
def UZ (f:List CK)(k j:Nat)(h:j<(f.getD k (0,[])).2.length):BQ f k (j+1)=BQ f k j++[((f.getD k (0,[])).2[j],k)]:=by unfold BQ;rw[v_ h,D?,←List.append_assoc];rfl
def TI (f:List CK)(p:Int):chl (qG f f.length) p=(chF f p).map Int.ofNat:=by
 unfold chl qG chF;rw[List.filter_flatMap,List.map_flatMap,List.map_flatMap];congr 1;funext i;rw[List.filter_map,W?,List.map_replicate];generalize (f.getD i (0,[])).2=l;induction l with
 |nil=>rfl
 |cons x l g=>
  by_cases e:x=p
  ·subst e;simp[o?]at g⊢;exact g
  ·have j:(x == p)=false:=n?.2 e;rw[List.count_cons_of_ne e];simpa[j]using g
structure OEnv (w wr:World)(n:Nat)(ws:List Int)(R J:Value)(k:Nat)(D:DataW Unit):Prop where
 bl:Below w.heap.size w wr
 dr:dz w≤dz wr
 sz:w.heap.size+2≤wr.heap.size
 wl:ws.length=n
 wt:wr.ownsRow w.heap.size 3 1 (.slice (some ⟨w.heap.size,0,none⟩) n n) n (intsI ws)
 gr:wr.ownsGroups Tryz.prog 3 (w.heap.size+2) 3 .i64 (w.heap.size+1) k D
 sh:wr.Shuns (w.heap.size+1) λg=>R.ownBlock=some g∨J.ownBlock=some g
section
variable {w wr T C:World}{n k:Nat}{ws:List Int}{R J vr' vo':Value}{D U:DataW Unit}{row:Option Nat}
def OEnv.turn (h:OEnv w wr n ws R J k D)(j:wr.grownBy T row)(r:dz wr≤dz T)(f:∀g,row=some g→w.heap.size+2≤g∧(R.ownBlock=some g∨J.ownBlock=some g))
  (p:∀g,vr'.ownBlock=some g∨vo'.ownBlock=some g→(R.ownBlock=some g∨J.ownBlock=some g)∨wr.heap.size≤g):OEnv w T n ws vr' vo' k D:=by
 have C:=h.sz;have l:some (w.heap.size+1)≠row:=λe=>by have:=(f _ e.symm).1;omega
 refine⟨h.bl.grown j h.bl.size λg e=>by have:=(f g e).1;omega,Θ h.dr r,Θ h.sz j.size,h.wl,h.wt.kept j (.inr λe=>?_),h.gr.kept j l (h.sh.rowsOff λg e=>(f g e).2),(h.sh.reno h.gr p).kept j Ω l⟩;have:w.heap.size+2≤w.heap.size:=(f _ e.symm).1;omega
def OEnv.quiet (h:OEnv w wr n ws R J k D)(f:wr.grownBy T none)(g:dz wr≤dz T):OEnv w T n ws R J k D:=h.turn f g (λ_ e=>by cases e) λ_ e=>.inl e
def OEnv.alloc (h:OEnv w wr n ws R J k D)(o:Obj):OEnv w (wr.alloc o) n ws R J k D:=h.quiet (i_ _ _ _) (ζ _)
def OEnv.setW (h:OEnv w wr n ws R J k D)(i:Nat)(x:Int):OEnv w (wr.setCell ⟨w.heap.size,i,none⟩ (.int .i64 x)) n (ws.set i x) R J k D:=by
 obtain⟨p,f⟩:=h.wt.stored i (.int .i64 x);have r:=h.sz;have l:∀j,some w.heap.size=some j→j<w.heap.size+2:=λj e=>by cases e;omega
 refine⟨h.bl.grown f h.bl.size λg e=>by cases e;omega,h.dr,Θ h.sz f.size,by simp[h.wl], ?_,h.gr.kept f Ψ (h.gr.rowsAbove l),h.sh.kept f Ω Ψ⟩;have e:intsI (ws.set i x)=(intsI ws).set i (.int .i64 x):=by unfold intsI;rw[List.map_set]
 rw[e];exact p
variable{u:Value}
def OEnv.group (h:OEnv w wr n ws R J k D)(r:∀g,u.ownBlock=some g→w.heap.size+2≤g)(j:wr.grownBy T u.ownBlock)(hd:dz wr≤dz T)(f:T.grownBy C (some (w.heap.size+1)))(P:C.drawn=T.drawn)
  (p:C.ownsGroups prog 3 (w.heap.size+2) 3 .i64 (w.heap.size+1) (k+1) U) (l:C.Shuns (w.heap.size+1) λg=>R.ownBlock=some g∨J.ownBlock=some g):OEnv w C n ws R J (k+1) U:=by
 have hs:=h.sz;refine⟨(h.bl.grown j h.bl.size λg e=>by have:=r g e;omega).grown f (Θ h.bl.size j.size) λg e=>by cases e;omega,c_ _,Θ (Θ h.sz j.size) f.size,h.wl,(h.wt.kept j (.inr λe=>?_)).kept f (.inr (by simp[Value.ownBlock])),p,l⟩;have:w.heap.size+2≤w.heap.size:=r _ e.symm;omega
def UL {xs:List Value}{m:Nat}{v:Value}(l:wr.ownsRow (w.heap.size+2) 3 1 v m xs)(p:∀g,u.ownBlock=some g→v.ownBlock≠some g)(r:wr.grownBy T u.ownBlock)(f:T.grownBy C (some (w.heap.size+1))):C.ownsRow (w.heap.size+2) 3 1 v m xs:=by
 refine(l.kept r ?_).kept f ?_
 ·cases e:v.ownBlock with
  |none=>exact .inl rfl
  |some g=>exact .inr λj=>p g j.symm e
 ·cases e:v.ownBlock with
  |none=>exact .inl rfl
  |some g=>exact .inr λj=>by cases j;have:=(l.lt _ e).1;omega
end
end Abs
namespace Go.Proofs
open Go.Shelf Tryz
def Tryz.sortI_ren:Go.Shelf.Ren:=⟨λ|5=>60|8=>110|7=>109|19=>166|20=>167|10=>158|11=>159|12=>160|13=>161|14=>162|15=>163|16=>111|17=>164|18=>165|30=>234|31=>235|32=>236|33=>237|34=>238|35=>168|40=>309|n=>n,λ|23=>33|25=>3|3=>3|32=>157|22=>33|0=>0|44=>240|46=>242|4=>4|36=>234|35=>233|41=>103|5=>5|9=>9|53=>290|57=>294|63=>347|64=>151|n=>n,λ|n=>n⟩
def Tryz.sortI:Go.Proofs.SlLaysM.n5 Tryz.prog Tryz.sortI_ren:={
 mixed:=by kernel_rfl
 f5:=⟨Tryz.f60.name,by decide,Tryz.func60.trans (congrArg some (by kernel_rfl))⟩
 f7:=⟨Tryz.f109.name,by decide,Tryz.func109.trans (congrArg some (by kernel_rfl))⟩
 f8:=Tryz.func110.trans (congrArg some (by kernel_rfl))
 f10:=⟨Tryz.f158.name,by decide,Tryz.func158.trans (congrArg some (by kernel_rfl))⟩
 f11:=⟨Tryz.f159.name,by decide,Tryz.func159.trans (congrArg some (by kernel_rfl))⟩
 f12:=⟨Tryz.f160.name,by decide,Tryz.func160.trans (congrArg some (by kernel_rfl))⟩
 f13:=⟨Tryz.f161.name,by decide,Tryz.func161.trans (congrArg some (by kernel_rfl))⟩
 f14:=⟨Tryz.f162.name,by decide,Tryz.func162.trans (congrArg some (by kernel_rfl))⟩
 f15:=⟨Tryz.f163.name,by decide,Tryz.func163.trans (congrArg some (by kernel_rfl))⟩
 f16:=⟨Tryz.f111.name,by decide,Tryz.func111.trans (congrArg some (by kernel_rfl))⟩
 f17:=⟨Tryz.f164.name,by decide,Tryz.func164.trans (congrArg some (by kernel_rfl))⟩
 f18:=⟨Tryz.f165.name,by decide,Tryz.func165.trans (congrArg some (by kernel_rfl))⟩
 f19:=Tryz.func166.trans (congrArg some (by kernel_rfl))
 f20:=Tryz.func167.trans (congrArg some (by kernel_rfl))
 f30:=⟨Tryz.f234.name,by decide,Tryz.func234.trans (congrArg some (by kernel_rfl))⟩
 f31:=Tryz.func235.trans (congrArg some (by kernel_rfl))
 f32:=Tryz.func236.trans (congrArg some (by kernel_rfl))
 f33:=⟨Tryz.f237.name,by decide,Tryz.func237.trans (congrArg some (by kernel_rfl))⟩
 f34:=⟨Tryz.f238.name,by decide,Tryz.func238.trans (congrArg some (by kernel_rfl))⟩
 f35:=⟨Tryz.f168.name,by decide,Tryz.func168.trans (congrArg some (by kernel_rfl))⟩
 f40:=⟨Tryz.f309.name,by decide,Tryz.func309.trans (congrArg some (by kernel_rfl))⟩
 t0:=Tryz.underlying0
 a0:=Tryz.isAgg0
 z0:=Tryz.sizeOf0
 v0:=Tryz.zeroValue0
 t3:=Tryz.underlying3
 a3:=Tryz.isAgg3
 z3:=Tryz.sizeOf3
 v3:=Tryz.zeroValue3
 t4:=Tryz.underlying4
 a4:=Tryz.isAgg4
 z4:=Tryz.sizeOf4
 v4:=Tryz.zeroValue4
 t5:=Tryz.underlying5
 a5:=Tryz.isAgg5
 z5:=Tryz.sizeOf5
 v5:=Tryz.zeroValue5
 t9:=Tryz.underlying9
 a9:=Tryz.isAgg9
 z9:=Tryz.sizeOf9
 v9:=Tryz.zeroValue9
 t22:=Tryz.underlying33
 a22:=Tryz.isAgg33
 z22:=Tryz.sizeOf33
 v22:=Tryz.zeroValue33
 t23:=Tryz.underlying33
 a23:=Tryz.isAgg33
 z23:=Tryz.sizeOf33
 v23:=Tryz.zeroValue33
 t25:=Tryz.underlying3
 a25:=Tryz.isAgg3
 z25:=Tryz.sizeOf3
 v25:=Tryz.zeroValue3
 t32:=Tryz.underlying157
 a32:=Tryz.isAgg157
 z32:=Tryz.sizeOf157
 v32:=Tryz.zeroValue157
 t35:=Tryz.underlying233
 a35:=Tryz.isAgg233
 z35:=Tryz.sizeOf233
 v35:=Tryz.zeroValue233
 t36:=Tryz.underlying234
 a36:=Tryz.isAgg234
 z36:=Tryz.sizeOf234
 v36:=Tryz.zeroValue234
 t41:=Tryz.underlying103
 a41:=Tryz.isAgg103
 z41:=Tryz.sizeOf103
 v41:=Tryz.zeroValue103
 t44:=Tryz.underlying240
 a44:=Tryz.isAgg240
 z44:=Tryz.sizeOf240
 v44:=Tryz.zeroValue240
 t46:=Tryz.underlying242
 a46:=Tryz.isAgg242
 z46:=Tryz.sizeOf242
 v46:=Tryz.zeroValue242
 t53:=Tryz.underlying290
 a53:=Tryz.isAgg290
 z53:=Tryz.sizeOf290
 v53:=Tryz.zeroValue290
 t57:=Tryz.underlying294
 a57:=Tryz.isAgg294
 z57:=Tryz.sizeOf294
 v57:=Tryz.zeroValue294
 t63:=Tryz.underlying347
 a63:=Tryz.isAgg347
 z63:=Tryz.sizeOf347
 v63:=Tryz.zeroValue347
 t64:=Tryz.underlying151
 a64:=Tryz.isAgg151
 z64:=Tryz.sizeOf151
 v64:=Tryz.zeroValue151 }
def Tryz.srchI_ren:Go.Shelf.Ren:=⟨λ|25=>61|31=>111|32=>112|37=>168|n=>n,λ|22=>33|3=>3|4=>4|40=>157|0=>0|n=>n,λ|n=>n⟩
def Tryz.srchI:Go.Proofs.Lays2.n25 Tryz.prog Tryz.srchI_ren:={
 mixed:=by kernel_rfl
 f25:=Tryz.func61.trans (congrArg some (by kernel_rfl))
 f31:=Tryz.func111.trans (congrArg some (by kernel_rfl))
 f32:=Tryz.func112.trans (congrArg some (by kernel_rfl))
 f37:=Tryz.func168.trans (congrArg some (by kernel_rfl))
 t0:=Tryz.underlying0
 a0:=Tryz.isAgg0
 z0:=Tryz.sizeOf0
 v0:=Tryz.zeroValue0
 t3:=Tryz.underlying3
 a3:=Tryz.isAgg3
 z3:=Tryz.sizeOf3
 v3:=Tryz.zeroValue3
 t4:=Tryz.underlying4
 a4:=Tryz.isAgg4
 z4:=Tryz.sizeOf4
 v4:=Tryz.zeroValue4
 t22:=Tryz.underlying33
 a22:=Tryz.isAgg33
 z22:=Tryz.sizeOf33
 v22:=Tryz.zeroValue33
 t40:=Tryz.underlying157
 a40:=Tryz.isAgg157
 z40:=Tryz.sizeOf157
 v40:=Tryz.zeroValue157 }
def Tryz.insrI_ren:Go.Shelf.Ren:=⟨λ|21=>62|27=>113|28=>114|35=>169|39=>239|n=>n,λ|22=>33|3=>3|4=>4|0=>0|n=>n,λ|n=>n⟩
def Tryz.insrI:Go.Proofs.Lays2.n21 Tryz.prog Tryz.insrI_ren:={
 mixed:=by kernel_rfl
 f21:=Tryz.func62.trans (congrArg some (by kernel_rfl))
 f27:=Tryz.func113.trans (congrArg some (by kernel_rfl))
 f28:=Tryz.func114.trans (congrArg some (by kernel_rfl))
 f35:=Tryz.func169.trans (congrArg some (by kernel_rfl))
 f39:=Tryz.func239.trans (congrArg some (by kernel_rfl))
 t0:=Tryz.underlying0
 a0:=Tryz.isAgg0
 z0:=Tryz.sizeOf0
 v0:=Tryz.zeroValue0
 t3:=Tryz.underlying3
 a3:=Tryz.isAgg3
 z3:=Tryz.sizeOf3
 v3:=Tryz.zeroValue3
 t4:=Tryz.underlying4
 a4:=Tryz.isAgg4
 z4:=Tryz.sizeOf4
 v4:=Tryz.zeroValue4
 t22:=Tryz.underlying33
 a22:=Tryz.isAgg33
 z22:=Tryz.sizeOf33
 v22:=Tryz.zeroValue33
 i3:=by kernel_rfl }
end Go.Proofs
namespace Abs
open Go Go.Proofs Go.RowKit Go.Maps Tryz
def Rdy (w:World)(r:Nat)(v:Value)(f:List Int):Prop :=
 (v = .slice none 0 0∧f=[])∨∃g l cap p,v = .slice (some ⟨g,l,none⟩) f.length cap∧f.length≤cap∧cap≤maxLen∧r≤g∧w.heap[g]? = some (.cells p 3 (0,0))∧l+cap≤p.size∧∀j x,f[j]? = some x→p[l+j]? = some (.int .i64 x)
variable{w:World}{base:Nat}{v:Value}{f:List Int}
def Rdy.kept {p:World}{row:Option Nat}(h:Rdy w base v f)(J:w.grownBy p row)(C:∀g,v.ownBlock=some g→row≠some g):Rdy p base v f:=by
 obtain h|⟨g,j,cap,l,rfl,U,T,R,r,P⟩:=h
 ·exact .inl h
 ·refine .inr ⟨g,j,cap,l,rfl,U,T,R, ?_,P⟩;rw[J.block g (η.1 r).1 λe=>C g rfl e.symm];exact r
def Rdy.lo (h:Rdy w base v f):∀g,v.ownBlock=some g→base≤g∧g<w.heap.size:=by
 rcases h with⟨rfl,_⟩|⟨g,j,cap,r,rfl,P,J,p,l,C⟩
 ·exact λg e=>by cases e
 ·exact λR e=>by cases e;exact⟨p,(η.1 l).1⟩
def jE {j:Nat}{x:Int}(h:f[j]? = some x):(intsI f)[j]? = some (.int .i64 x):=by unfold intsI;rw[A_,h];rfl
def Rdy.of (h:w.ownsRow base 3 1 v f.length (intsI f)):Rdy w base v f:=by
 rcases h.2 with⟨rfl,T⟩|⟨g,cap,l,rfl,R,P,C,J,U,r⟩
 ·exact .inl ⟨rfl,U' T⟩
 ·refine .inr ⟨g,0,cap,l,rfl,C,J,R,P,Ω,λj x p=>?_⟩;have hj:j<f.length:=(N'.1 p).1;have e:=jE p;rw[←r,N? Ω,f_]at e;rw[Z'];exact e
def kP {b:Nat}{e:TypeId}:∀(l:List Value) (o:Nat) (w:World) (g:Array Value),w.heap[b]? = some (.cells g e (0,0))→o+l.length≤g.size →
  ∃f,(w.setCells b o l).heap[b]? = some (.cells f e (0,0))∧f.size=g.size∧(∀j v,l[j]? = some v→f[o+j]? = some v)∧(∀j,j<o∨o+l.length≤j→f[j]? = g[j]?)∧w.grownBy (w.setCells b o l) (some b)∧(w.setCells b o l).drawn=w.drawn
 |[],o,w,g,h,_=>⟨g,h,rfl,λj v U=>by simp at U,λ_ _=>rfl,⟨rfl,rfl,rfl,ζ _,λ_ _ _=>rfl⟩,rfl⟩
 |v::l,o,w,g,h,hl=>by
  simp only[r_]at hl;have h1:=heap_setCell_same w b o g e v h;obtain⟨f,g1,g2,g3,T,C,g6⟩:=kP l (o+1) (w.setCell ⟨b,o,none⟩ v) _ h1 Ξ;have p:w.grownBy (w.setCell ⟨b,o,none⟩ v) (some b):=⟨rfl,rfl,rfl,Ψ,λk _ J=>heap_setCell_other w ⟨b,o,none⟩ k v λe=>J (by simp[e])⟩;refine⟨f,g1,by simpa using g2,λj u P=>?_,λj R=>?_, ?_,g6⟩
  ·cases j with
   |zero =>simp at P;subst P;rw[F?,T o Ω,Array.getElem?_setIfInBounds_self];rw[β Ω]
   |succ j =>have:=g3 j u (by simpa using P);rwa[show o+1+j=o+(j+1)by omega]at this
  ·rw[T j (by simp at R;omega),Array.getElem?_setIfInBounds_ne (by simp at R;omega)]
  ·refine⟨C.os.trans p.os,C.tape.trans p.tape,C.output.trans p.output,Θ p.size C.size,λk J r=>?_⟩;rw[World.setCells,C.block k (k_ J p.size) r,p.block k J r]
def PB (f cap:Nat)(g:List Int)(w:World)(C:Sort.Holds (Value.int .i64) w f 0 g.toArray)(j:f<w.heap.size)(l:g.length<4611686018427387904) :
  Calls prog 60 #[.slice (some ⟨f,0,none⟩) g.length cap] w λe p=>e = .returned (.tuple #[])∧∃n r,p=Sort.grow (Sort.putRow (Value.int .i64) (Sort.ahead w n) f 0 (g.mergeSort λx y=>decide (x≤y)).toArray) r :=
 AnyM.slices_Sort_int sortI f 0 cap g w C j l
def UD (p:Option Addr)(cap:Nat)(w:World):Calls prog 60 #[.slice p 0 cap] w λe f=>e = .returned (.tuple #[])∧f=w:=AnyM.slices_Sort_int_none sortI p cap w
def LY {f:List Int}(h:f.Pairwise (· < ·)):(f.mergeSort λx y=>decide (x≤y))=f :=
 List.mergeSort_of_pairwise (h.imp λh=>H_ (ajQ h))
def Jh (h:Rdy w base v f)(J:f.Pairwise (· < ·))(U:f.length≤1048576)(x:Int)(p:∃g l cap,v = .slice (some ⟨g,l,none⟩) f.length cap) :
  Calls prog 61 #[v,.int .i64 x] w λe r=>(∃b:Bool,e = .returned (.tuple #[.int .i64 (f.countP (· < x):Nat),.bool b]))∧∃q,r=w.drewN q:=by
 rcases h with⟨rfl,rfl⟩|⟨g,l,cap,T,rfl,h1,h2,h3,R,h5,P⟩
 ·obtain⟨g,l,cap,e⟩:=p;cases e
 ·refine(Any.slices_BinarySearch_int srchI g l f.length cap f x w (ζ _) Ω (λj C=>?_) (by rw[J_];exact J.imp λh=>ajQ h)).mono ?_
  ·have:=P j f[j] (δ C);simp[World.cell?,R,this,υ,δ C]
  ·rintro e r ⟨rfl,q,rfl⟩;rw[J_];exact⟨⟨_,rfl⟩,q,rfl⟩
def Q4 {g:Type}{f:List g}{k:Nat}(p:k≤f.length)(x:g)(j:Nat):(f.take k++x::f.drop k)[j]? = if j<k then f[j]? else if j=k then some x else f[j-1]?:=by
 have l:(f.take k).length=k:=by simp;omega
 obtain h|h|h:=d? j k
 ·rw[β h,ο Ω,N? h]
 ·rw[B' Ω,β h,Q' Ω,l,h];simp
 ·rw[B' Ω,B' Ω,Q' Ω,l,show j-k=(j-k-1)+1 by omega,S?,b_];congr 1;omega
def M1 (f:List Int):∀v∈intsI f,v.oneCell'=true:=λv h=>by unfold intsI at h;obtain⟨x,_,rfl⟩:=s_.1 h;rfl
def rn {g:Nat}{f:Array Value}{e:TypeId}{l:Nat×Nat}(h:w.heap[g]? = some (.cells f e l))(j:Nat):w.cell? ⟨g,j,none⟩=f[j]?:=by simp[World.cell?,h]
def Kq (h:Rdy w base v f)(x:Int)(k:Nat)(hk:k≤f.length)(hl:f.length≤1048576)(hbase:base≤w.heap.size){vb:Nat}(hvb:w.heap[vb]? = some (.cells #[.int .i64 x] 3 (0,0)))(hne:v.ownBlock≠some vb) :
  Calls prog 62 #[v,.int .i64 k,.slice (some ⟨vb,0,none⟩) 1 1] w λe C=>∃v',e = .returned v'∧Rdy C base v' (f.take k++x::f.drop k)∧w.grownBy C v.ownBlock∧(v'.ownBlock=v.ownBlock∨v'.ownBlock=some w.heap.size)∧dz w≤dz C:=by
 have hvs:∀j u,[Value.int .i64 x][j]? = some u→w.cell? ⟨vb,0+j,none⟩=some u:=λj u hu=>by rw[rn hvb,Z'];simpa using hu
 have h1v:∀u∈[Value.int .i64 x],u.oneCell'=true:=by simp[Value.oneCell']
 have J:(f.take k++x::f.drop k).length=f.length+1:=by simp;omega
 have fresh:∀(C:World) (cap:Nat) (r:Array Value),f.length+1≤cap→cap≤maxLen→C.heap[w.heap.size]? = some (.cells r 3 (0,0))→cap≤r.size→(∀j y,(f.take k++x::f.drop k)[j]? = some y→r[j]? = some (Value.int .i64 y))→Rdy C base (.slice (some ⟨w.heap.size,0,none⟩) (f.length+1) cap) (f.take k++x::f.drop k) :=
  λC cap r q1 q2 q3 q4 q5=>.inr ⟨w.heap.size,0,cap,r,by rw[J],by rw[J];exact q1,q2,hbase,q3,Ω,λj y p=>by rw[Z'];exact q5 j y p⟩
 have hcap:=aj0 w (f.length+1);have hcapm:=λc=>grownCap_le_maxLen w (f.length+1) c 3 (by unfold maxLen;omega);have P:∀(A:Option Addr) (c:Nat),v = .slice A f.length c→k=f.length→f.length≤c→c<f.length+1→(A=none→f.length=0)→(∀a,A=some a→∀j u,(intsI f)[j]? = some u→w.cell? (a.add j)=some u) →
   Calls prog 62 #[v,.int .i64 k,.slice (some ⟨vb,0,none⟩) 1 1] w λe C=>∃v',e = .returned v'∧Rdy C base v' (f.take k++x::f.drop k)∧w.grownBy C v.ownBlock∧(v'.ownBlock=v.ownBlock∨v'.ownBlock=some w.heap.size)∧dz w≤dz C:=λA c hv hkl h1 h2 hn hcs=>by
  subst hv;subst hkl;refine(Any2.slices_Insert_int_end_grow insrI A f.length c vb 0 1 1 (intsI f) [.int .i64 x] w Ϛ h1 h2 Ω (by simp[intsI]) rfl hn hcs hvs h1v).mono ?_;rintro e C ⟨rfl,rfl⟩;refine⟨_,rfl,fresh _ _ _ (hcap c 3) (hcapm c) (z_ _ _) ?_ λj y p=>?_, ?_,.inr rfl,(by first|exact ai9 _|exact c_ _)⟩
  ·have:=hcap c 3;have e:∀n,(Builtin.zeroCells (Value.int .i64 0).cells n).size=n:=λn=>by simp[Builtin.zeroCells,Value.cells]
   change _≤(_++Builtin.zeroCells _ (grownCap w (f.length+1) c 3-(f.length+1))).size;rw[aiM,e];change grownCap w (f.length+1) c 3≤_;simp[intsI];omega
  ·have hj:j<f.length+1:=by rw[←J];exact(N'.1 p).1
   rw[G_ (by simp[intsI];omega),abs];rw[J_,ajY]at p;rw[show intsI f++[Value.int .i64 x]=intsI (f++[x])by simp[intsI]];exact jE p
  ·exact⟨rfl,rfl,rfl,Ψ,λi hi _=>Below.heap_alloc w.drew _ i hi⟩
 rcases h with⟨rfl,rfl⟩|⟨g,l,cap,r,rfl,h1,h2,h3,h4,h5,h6⟩
 ·exact P none 0 rfl (by simpa using hk) Ψ Ψ (λ_=>rfl) λa e=>by cases e
 ·have hgl:g<w.heap.size:=(η.1 h4).1;have hgv:vb≠g:=λe=>hne (by rw[e];rfl);have U:∀j u,(intsI f)[j]? = some u→w.cell? ⟨g,l+j,none⟩=some u:=λj u hu=>by
   unfold intsI at hu;rw[A_]at hu;obtain⟨y,p,rfl⟩:=Option.map_eq_some_iff.1 hu;rw[rn h4];exact h6 j y p
  by_cases T:f.length+1≤cap
  ·have hsp:∀j,j<cap→(w.cell? ⟨g,l+j,none⟩).isSome=true:=λj hj=>by
    rw[rn h4,W_ Ω];rfl
   have hfz:∀j,w.frozen? ⟨g,j,none⟩=false:=λj=>aka w g j r 3 h4;have done:∀(C:World) (R:Array Value),C.heap[g]? = some (.cells R 3 (0,0))→R.size=r.size→(∀j y,(f.take k++x::f.drop k)[j]? = some y→R[l+j]? = some (Value.int .i64 y))→Rdy C base (.slice (some ⟨g,l,none⟩) (f.length+1) cap) (f.take k++x::f.drop k) :=
    λC R q1 q2 q3=>.inr ⟨g,l,cap,R,by rw[J],by rw[J];exact T,h2,h3,q1,Ω,q3⟩
   by_cases hkl:k<f.length
   ·refine(Any2.slices_Insert_int_shift insrI g l f.length cap k vb 0 1 1 (intsI f) [.int .i64 x] w hkl Ϛ T h2 hgv (by simp[intsI]) rfl U (λj hj=>hsp j Ω) (λj _=>hfz _) hvs (M1 f) h1v 3 3 1 r.size
     (by simp[World.shape?,hvb]) (by simp[World.shape?,h4]) Ω (aka w vb 0 _ 3 hvb) (aka w vb 1 _ 3 hvb)).mono ?_
    rintro e C ⟨rfl,rfl⟩;have hdl:((intsI f).drop k).length=f.length-k:=by simp[intsI]
    obtain⟨c1,a1,a2,a3,a4,a5,a6⟩:=kP ((intsI f).drop k) (l+(k+1)) w.drew r h4 (by rw[hdl];omega);obtain⟨c2,b1,b2,b3,b4,b5,b6⟩:=kP [.int .i64 x] (l+k) _ c1 a1 Ξ;refine⟨_,rfl,done _ c2 b1 (b2.trans a2) λj y p=>?_, ?_,.inl rfl, ?_⟩
    ·rw[Q4 hk]at p;split at p
     ·rw[b4 _ Ξ,a4 _ Ω];exact h6 j y p
     ·split at p
      next e1 e2=>subst e2;cases p;exact b3 0 _ rfl
      next e1 e2=>rw[b4 _ Ξ,show l+j=l+(k+1)+(j-(k+1))by omega];refine a3 _ _ ?_;rw[b_,show k+(j-(k+1))=j-1 by omega];exact jE p
    ·exact⟨b5.os.trans a5.os,b5.tape.trans a5.tape,b5.output.trans a5.output,Θ a5.size b5.size,λi hi hne'=>(b5.block i (k_ hi a5.size) hne').trans (a5.block i hi hne')⟩
    ·exact c_ _
   ·obtain rfl:k=f.length:=Ω
    refine(Any2.slices_Insert_int_end_room insrI g l f.length cap vb 0 1 1 [.int .i64 x] w Ϛ T h2 rfl (λj hj=>by rw[O_];exact hsp _ Ω) (λj _=>hfz _) hvs h1v).mono ?_;rintro e C ⟨rfl,rfl⟩;obtain⟨c2,b1,b2,b3,b4,b5,b6⟩:=kP [.int .i64 x] (l+f.length) w r h4 Ξ;refine⟨_,rfl,done _ c2 b1 b2 λj y p=>?_,b5,.inl rfl,c_ _⟩;rw[Q4 hk]at p;split at p
    ·rw[b4 _ Ξ];exact h6 j y p
    ·split at p
     next e1 e2=>subst e2;cases p;exact b3 0 _ rfl
     ·have:=(N'.1 p).1;omega
  ·by_cases hkl:k<f.length
   ·refine(Any2.slices_Insert_int_grow insrI g l f.length cap k vb 0 1 1 (intsI f) [.int .i64 x] w hkl Ϛ h1 Ω Ω (by simp[intsI]) rfl U hvs (M1 f) h1v).mono ?_;rintro e C ⟨rfl,rfl⟩;have ez:∀n,(Builtin.zeroCells (Value.int .i64 0).cells n).size=n:=λn=>by simp[Builtin.zeroCells,Value.cells]
    have hcp:=hcap cap 3;change f.length+1≤grownCap w (f.length+1) cap 3 at hcp;have hdl:((intsI f).drop k).length=f.length-k:=by simp[intsI]
    have htl:((intsI f).take k).length=k:=by simp[intsI];omega
    generalize hc0:((intsI f).take k).toArray++Builtin.zeroCells (Value.int .i64 0).cells (f.length+1-k)++Builtin.zeroCells (Value.int .i64 0).cells (grownCap w (f.length+1) cap (insrI_ren.t 3)-(f.length+1))=cur0;have hs0:cur0.size=grownCap w (f.length+1) cap 3:=by rw[←hc0,aiM,aiM,ez,ez,H?,htl];change k+(f.length+1-k)+(grownCap w (f.length+1) cap 3-(f.length+1))=_;omega
    have hn0:((w.alloc (.cells cur0 (insrI_ren.t 3))).drew).heap[w.heap.size]? = some (.cells cur0 3 (0,0)):=z_ _ _;obtain⟨c1,a1,a2,a3,a4,a5,a6⟩:=kP [Value.int .i64 x] k _ cur0 hn0 Ξ;obtain⟨c2,b1,b2,b3,b4,b5,b6⟩:=kP ((intsI f).drop k) (k+1) (((w.alloc (.cells cur0 (insrI_ren.t 3))).drew.setCells w.heap.size k [Value.int .i64 x]).drew) c1 a1 (by rw[hdl];omega);refine⟨_,rfl,fresh _ _ c2 hcp (hcapm cap) b1 (by first|(rw[b2,a2,hs0];exact ζ _)|exact c_ _) λj y p=>?_, ?_,.inr rfl, ?_⟩
    ·rw[Q4 hk]at p;split at p
     next hj=>rw[b4 _ Ω,a4 _ Ω,←hc0,G_ (by simp[htl];omega),G_ (by simp[htl];omega),abs,N? hj];exact jE p
     ·split at p
      next e1 e2=>subst e2;cases p;rw[b4 _ Ω];exact a3 0 _ rfl
      next e1 e2=>rw[show j=k+1+(j-(k+1))by omega];refine b3 _ _ ?_;rw[b_,show k+(j-(k+1))=j-1 by omega];exact jE p
    ·refine⟨b5.os.trans a5.os,b5.tape.trans a5.tape,b5.output.trans a5.output, ?_,λi hi _=>?_⟩
     ·have:=b5.size;have:=a5.size;simp at *;omega
     ·have hi1:i<(w.alloc (.cells cur0 (insrI_ren.t 3))).drew.heap.size:=by simp;omega
      have hne1:some i≠some w.heap.size:=λe=>by cases e;omega
      exact((b5.block i (k_ hi1 a5.size) hne1).trans (a5.block i hi1 hne1)).trans (Below.heap_alloc w _ i hi)
    ·exact c_ _
   ·obtain rfl:k=f.length:=Ω
    exact P (some ⟨g,l,none⟩) cap rfl rfl h1 Ω (λe=>by cases e) λa e j u hu=>by cases e;rw[cN];exact U j u hu
