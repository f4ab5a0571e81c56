/- graph. -/
import Derived.Test.YtfgpipfjalmooaaGreatProg
import Derived.Test.YtfgpipfjalmooaaGreatAbsK
import Derived.WalkKit
import Derived.Laws.OwnMore
import Derived.Laws.AppendOwnNone
import Derived.Maps.GroupsBeside
import Derived.Maps.AppendAt
import Derived.Sort.OwnSortedInts
import Derived.Shelf.SortM.Plain
import Derived.Shelf.SortM.SortNone
import Derived.Shelf.Slices.SearchI
import Derived.Shelf.Spec.SlicesInsertGrow
set_option linter.all false
namespace Go.Proofs.YtfgpipfjalmooaaGreat
namespace Abs
abbrev CK:=Int×List Int
def aev (f:List Int)(c:CK):Bool :=!f.contains c.1&&c.2.all λp=>f.contains p
def rdF (g:List CK)(f:List Int):List Int:=(g.filter (aev f)).map λc=>c.1
def wsK (f:List Int)(c:CK):Nat:=c.2.countP λp=>!f.contains p
def wsF (g:List CK)(f:List Int):List Int:=g.map λc=>(wsK f c:Int)
def chF (f:List CK)(p:Int):List Nat:=(List.range f.length).flatMap λi=>List.replicate ((f.getD i (0,[])).2.count p) i
def abF (s:Int)(f:List Int):List Int:=f.take (f.countP (· < s))++s::f.drop (f.countP (· < s))
def N1 (g:List CK)(f:List Int×List Int)(i:Nat):List Int×List Int :=
 (f.1.set i (f.1.getD i 0-1),if f.1.getD i 0-1=0 then abF (g.getD i (0,[])).1 f.2 else f.2)
def tf (f:List CK):Nat→List Int→List Int
 |0,d=>d
 |n+1,d=>match rdF f d with
  |[]=>d
  |s::_=>tf f n (d++[s])
def Wn:∀{a b:List Int},a.Pairwise (· < ·)→b.Pairwise (· < ·)→(∀x,x∈a↔x∈b)→a=b
 |[],[],_,_,_=>rfl
 |[],y::b,_,_,h=>absurd ((h y).2 (S' ..)) Ψ
 |x::a,[],_,_,h=>absurd ((h x).1 (S' ..)) Ψ
 |x::a,y::b,ha,hb,h=>by
  have ⟨j,p⟩:=m_.1 ha;have ⟨g,l⟩:=m_.1 hb;have e:x=y:=by
   rcases J'.1 ((h x).1 (S' ..))with e|e
   ·exact e
   ·rcases J'.1 ((h y).2 (S' ..))with e'|e'
    ·exact e'.symm
    ·have:=g x e;have:=j y e';omega
  subst e;rw[Wn p l λz=>?_];constructor
  ·intro f;rcases J'.1 ((h z).1 (K' _ f))with e|e
   ·subst e;have:=j z f;omega
   ·exact e
  ·intro f;rcases J'.1 ((h z).2 (K' _ f))with e|e
   ·subst e;have:=g z f;omega
   ·exact e
def mA:∀{a b:List Int},a.Nodup→(∀x∈a,x∈b)→a.length≤b.length
 |[],_,_,_=>k_ _
 |x::a,b,hn,h=>by have ⟨l,j⟩:=X?.1 hn;have g:=h x (S' ..);have:=mA (b:=b.erase x) j λy f=>(ali λe:y=x=>l (by rw[←e];exact f)).2 (h y (K' _ f));rw[ak3 g]at this;have:=akD g;simp;omega
def KE:∀{a:List Int} (s:Int),a.Pairwise (· < ·)→(∀x∈a.take (a.countP (· < s)),x<s)∧∀x∈a.drop (a.countP (· < s)),s≤x
 |[],s,_=>by simp
 |x::a,s,h=>by
  have ⟨j,p⟩:=m_.1 h;by_cases g:x<s
  ·rw[List.countP_cons_of_pos (by simpa using g)];have ⟨l,i2⟩:=KE s p;simp only[List.take_succ_cons,List.drop_succ_cons];exact⟨λy f=>(J'.1 f).elim (λe=>e ▸ g) (l y),i2⟩
  ·have e:(x::a).countP (λy=>decide (y<s))=0:=by
    rw[List.countP_eq_zero];intro y f;obtain rfl|f:=J'.1 f
    ·simpa using g
    ·have:=j y f;simp;omega
   rw[e];refine⟨Ψ,λy f=>?_⟩;obtain rfl|f:=J'.1 f
   ·omega
   ·have:=j y f;omega
def afw (s x:Int)(f:List Int):x∈abF s f↔x=s∨x∈f:=by
 have e:=l? (f.countP (· < s)) f;unfold abF;rw[χ,J'];constructor
 ·rintro(h|h|h)
  ·exact .inr (J? h)
  ·exact .inl h
  ·exact .inr (K? h)
 ·rintro(h|h)
  ·exact .inr (.inl h)
  ·rw[←e,χ]at h;exact h.elim .inl λh=>.inr (.inr h)
variable{s:Int}{i:Nat}{os:List Int}
def afx {f:List Int}(h:f.Pairwise (· < ·))(C:s ∉ f):(abF s f).Pairwise (· < ·):=by
 have ⟨r,J⟩:=KE s h;have l:=h;rw[←List.take_append_drop (f.countP (· < s)) f,s_]at l;unfold abF;rw[s_,m_];have p:∀x∈f.drop (f.countP (· < s)),s<x:=λx g=>by have:=J x g;have:x≠s:=λe=>C (e ▸ K? g);omega
 refine⟨l.1,⟨p,l.2.1⟩,λx g y j=>?_⟩;obtain rfl|j:=J'.1 j
 ·exact r x g
 ·have:=r x g;have:=p y j;omega
def V8 (f:Nat→Nat)(i:Nat):∀n:Nat,((List.range n).flatMap λj=>List.replicate (f j) j).count i=if i<n then f i else 0
 |0=>by simp
 |n+1=>by
  rw[List.range_succ,List.flatMap_append,List.count_append,V8 f i n];simp only[List.flatMap_cons,List.flatMap_nil,i?,List.count_replicate];by_cases g:n=i
  ·subst g;simp
  ·have e:(n == i)=false:=P'.2 g;by_cases h:i<n
   ·simp[e,h,Nat.lt_succ_of_lt h]
   ·have:¬i<n+1:=Ω
    simp[e,h,this]
def HB (f:List CK)(p:Int)(h:i<f.length):(chF f p).count i=f[i].2.count p:=by unfold chF;rw[V8,G' h,π,ε h];rfl
def ajz {f:List CK}{p:Int}(h:i∈chF f p):i<f.length:=by unfold chF at h;obtain⟨j,l,g⟩:=List.mem_flatMap.1 h;have:=K_.1 l;have:=(List.mem_replicate.1 g).2;omega
def vk (g:s ∉ os)(c:CK):wsK (os++[s]) c+c.2.count s=wsK os c:=by
 unfold wsK;induction c.2 with
 |nil=>rfl
 |cons p l f=>
  rw[ak8,ak8,List.count_cons];by_cases e:p=s
  ·subst e;simp[g]at f⊢;omega
  ·by_cases h:p∈os <;> simp[h,e]at f⊢ <;> omega
def adW {c:CK}:wsK os c=0 ↔ ∀p∈c.2,p∈os:=by
 unfold wsK;rw[List.countP_eq_zero];constructor
 ·intro h p f;simpa using h p f
 ·intro h p f;simpa using h p f
def rV {c:CK}:aev os c=true↔c.1 ∉ os∧wsK os c=0:=by rw[adW];unfold aev;simp
section
variable {cs:List CK}{os:List Int}{s:Int}{r:List Int}
def StL (cs:List CK):Prop:=cs.Pairwise λa b=>a.1<b.1
structure ClK (cs:List CK)(os:List Int):Prop where
 up:∀c∈cs,c.1∈os→wsK os c=0
 nd:os.Nodup
 sub:∀x∈os,x∈cs.map λc=>c.1
def StL.same:∀{cs:List CK},StL cs→∀{a b:CK},a∈cs→b∈cs→a.1=b.1→a=b
 |x::l,h,a,b,ha,hb,e=>by
  have ⟨f,g⟩:=m_.1 h;obtain ea|ha':=J'.1 ha <;> obtain eb|hb':=J'.1 hb
  ·rw[ea,eb]
  ·have:=f b hb';rw[ea]at e;omega
  ·have:=f a ha';rw[eb]at e;omega
  ·exact StL.same g ha' hb' e
def SF (h:StL cs)(os:List Int):(rdF cs os).Pairwise (· < ·):=by unfold rdF;rw[ak2];exact h.sublist List.filter_sublist
def FF {x:Int}:x∈rdF cs os ↔ ∃c∈cs,c.1=x∧aev os c=true:=by
 unfold rdF;simp only[l_,v_];constructor
 ·rintro⟨c,⟨j,g⟩,f⟩;exact⟨c,j,f,g⟩
 ·rintro⟨c,j,f,g⟩;exact⟨c,⟨j,g⟩,f⟩
def ClK.nil (cs:List CK):ClK cs []:=⟨λ_ _ h=>(by cases h),akj,λ_ h=>(by cases h)⟩
def ClK.head (g:rdF cs os=s::r):∃c∈cs,c.1=s∧s ∉ os∧wsK os c=0:=by
 have:s∈rdF cs os:=by rw[g];exact S' ..
 obtain⟨c,C,f,p⟩:=FF.1 this;obtain⟨l,j⟩:=rV.1 p;exact⟨c,C,f,f ▸ l,j⟩
def ClK.next (P:StL cs)(h:ClK cs os)(R:rdF cs os=s::r):ClK cs (os++[s]):=by
 obtain⟨c0,J,C,p,U⟩:=ClK.head R;refine⟨λc j g=>?_, ?_,λx f=>?_⟩
 ·have:=vk p c;have e0:wsK os c=0:=by
   obtain g|g:=χ.1 g
   ·exact h.up c j g
   ·rw[P.same j J ((ξ.1 g).trans C.symm)];exact U
  omega
 ·rw[alw];exact⟨h.nd,Ψ,λa T b l e=>p (by rw[ξ]at l;rw[←l,←e];exact T)⟩
 ·obtain f|f:=χ.1 f
  ·exact h.sub x f
  ·rw[ξ.1 f,←C];exact z? J
def ClK.len (h:ClK cs os):os.length≤cs.length:=by have:=mA h.nd h.sub;rwa[e_]at this
structure InK (cs:List CK)(os:List Int)(s:Int)(r:List Int)(k:Nat)(st:List Int×List Int):Prop where
 len:st.1.length=cs.length
 ws:∀i (h:i<cs.length),st.1.getD i 0=(wsK os cs[i]:Int)-(((chF cs s).take k).count i:Nat)
 asc:st.2.Pairwise (· < ·)
 mem:∀x,x∈st.2↔x∈r∨∃i,∃h:i<cs.length,cs[i].1=x∧0<((chF cs s).take k).count i∧wsK os cs[i]=((chF cs s).take k).count i
def ab3 {j g:Type}(f:j→g)(l:List j)(d:g){i:Nat}(h:i<l.length):(l.map f).getD i d=f l[i]:=by rw[π,Q_,ε h];rfl
def InK.start (g:StL cs)(j:rdF cs os=s::r):InK cs os s r 0 (wsF cs os,r):=by
 have f:=SF g os;rw[j]at f;refine⟨by simp[wsF],λi h=>?_,(m_.1 f).2,λx=>?_⟩
 ·simp only[v?,List.count_nil];unfold wsF;rw[ab3 _ _ _ h];simp
 ·simp
def ahD (L:List Nat)(k i:Nat):(L.take k).count i≤L.count i:=(ak1 k L).count_le i
variable{k:Nat}{st:List Int×List Int}
def OY {L:List Nat}(f:k<L.length)(i:Nat):(L.take (k+1)).count i=(L.take k).count i+if L[k]=i then 1 else 0:=by rw[Z' f,List.count_append,List.count_singleton];simp
def Y4 (f:s ∉ os)(c:CK):c.2.count s≤wsK os c:=by have:=vk f c;omega
def InK.pos (j:rdF cs os=s::r)(I:InK cs os s r k st)(g:k<(chF cs s).length):(chF cs s)[k]<cs.length∧1≤st.1.getD (chF cs s)[k] 0:=by obtain⟨T,R,P,C,J⟩:=ClK.head j;have f:=ajz (a_ g);refine⟨f, ?_⟩;rw[I.ws _ f];have p:=OY g (chF cs s)[k];rw[G' rfl]at p;have l:=ahD (chF cs s) (k+1) (chF cs s)[k];rw[HB _ _ f]at l;have:=Y4 C cs[(chF cs s)[k]];omega
def InK.step (J:StL cs)(P:rdF cs os=s::r)(I:InK cs os s r k st)(R:k<(chF cs s).length):InK cs os s r (k+1) (N1 cs st (chF cs s)[k]):=by
 obtain⟨c0,g1,g2,g3,g4⟩:=ClK.head P;obtain⟨p,hp⟩:=I.pos P R;have C:=λi=>OY R i;generalize hi0:(chF cs s)[k]=f at *;have hx:=I.ws f p;have hl:=I.len;refine⟨by simp[N1,hl],λi h=>?_, ?_,λx=>?_⟩
 ·show(st.1.set f _).getD i 0=_;rw[C,π,alx];by_cases e:f=i
  ·subst e;rw[G' rfl,G' Ω,G' rfl];simp only[Q?];omega
  ·rw[Θ e,Θ e,←List.getD_eq_getElem?_getD,I.ws i h];omega
 ·show List.Pairwise _ (if _ then _ else _);split
  next hz=>
   refine afx I.asc λj=>?_;rw[π,ε p]at j;simp only[Q?]at j;rcases(I.mem _).1 j with j|⟨i,h,e1,e2,e3⟩
   ·have j:cs[f].1∈rdF cs os:=by rw[P];exact K' _ j
    obtain⟨c,q1,q2,T⟩:=FF.1 j;have:=(rV.1 T).2;rw[J.same q1 (a_ p) q2]at this;omega
   ·have:=J.same (a_ h) (a_ p) e1;have e:i=f:=by
     obtain hlt|he|hlt:=d? i f
     ·have:=x_.1 J i f h p hlt;omega
     ·exact he
     ·have:=x_.1 J f i p h hlt;omega
    subst e;omega
  ·exact I.asc
 ·show x∈(if _ then _ else _)↔_;have l:∀i (h:i<cs.length),i≠f→(cs[i].1=x∧0<((chF cs s).take (k+1)).count i∧wsK os cs[i]=((chF cs s).take (k+1)).count i↔cs[i].1=x∧0<((chF cs s).take k).count i∧wsK os cs[i]=((chF cs s).take k).count i):=λi h e=>by
   rw[C,Θ (λe'=>e e'.symm)];rfl
  have U:=C f;rw[G' rfl]at U;have j:=I.mem x;split
  next hz=>
   rw[afw,π,ε p,j];simp only[Q?];constructor
   ·rintro(e|e|⟨i,h,e⟩)
    ·exact .inr ⟨f,p,e.symm,Ω,Ω⟩
    ·exact .inl e
    ·by_cases g:i=f
     ·subst g;omega
     ·exact .inr ⟨i,h,(l i h g).2 e⟩
   ·rintro(e|⟨i,h,e⟩)
    ·exact .inr (.inl e)
    ·by_cases g:i=f
     ·subst g;exact .inl e.1.symm
     ·exact .inr (.inr ⟨i,h,(l i h g).1 e⟩)
  next hz=>
   rw[j];constructor
   ·rintro(e|⟨i,h,e⟩)
    ·exact .inl e
    ·by_cases g:i=f
     ·subst g;omega
     ·exact .inr ⟨i,h,(l i h g).2 e⟩
   ·rintro(e|⟨i,h,e⟩)
    ·exact .inl e
    ·by_cases g:i=f
     ·subst g;omega
     ·exact .inr ⟨i,h,(l i h g).1 e⟩
def InK.all (f:StL cs)(g:rdF cs os=s::r):∀k,k≤(chF cs s).length→InK cs os s r k (((chF cs s).take k).foldl (N1 cs) (wsF cs os,r))
 |0,_=>InK.start f g
 |k+1,hk=>by have:=(InK.all f g k Ω).step f g Ω;rw[Z' Ω,List.foldl_append];exact this
def InK.done (j:StL cs)(hc:ClK cs os)(g:rdF cs os=s::r):(chF cs s).foldl (N1 cs) (wsF cs os,r)=(wsF cs (os++[s]),rdF cs (os++[s])):=by
 have I:=InK.all j g _ (ζ _);rw[S_]at I;obtain⟨c0,g1,g2,p,g4⟩:=ClK.head g;generalize (chF cs s).foldl (N1 cs) (wsF cs os,r)=st at *;have T:=I.ws;have U:=I.mem;rw[S_]at T U;obtain⟨a,b⟩:=st;have R:a=wsF cs (os++[s]):=by
  refine alF (by rw[I.len];simp[wsF]) λi h1 h2=>?_;have hi:i<cs.length:=by rw[←I.len];exact h1
  have:=T i hi;rw[π,ε h1]at this;have P:=vk p cs[i];rw[HB _ _ hi]at this;simp only[Q?]at this;rw[this];simp only[wsF,alE];omega
 have C:b=rdF cs (os++[s]):=by
  refine Wn I.asc (SF j _) λx=>?_;have l:=SF j os;rw[g]at l;have l:=(m_.1 l).1;rw[U x,FF];constructor
  ·rintro(e|⟨i,h,R,C,e3⟩)
   ·have P:x∈rdF cs os:=by rw[g];exact K' _ e
    obtain⟨c,q1,q2,J⟩:=FF.1 P;obtain⟨f,q5⟩:=rV.1 J;have:=l x e;refine⟨c,q1,q2,rV.2 ⟨?_,by have:=vk p c;omega⟩⟩;rw[χ,ξ];rintro(q|q)
    ·exact f q
    ·omega
   ·rw[HB _ _ h]at C e3;have:=vk p cs[i];refine⟨cs[i],a_ h,R,rV.2 ⟨?_,Ω⟩⟩;rw[χ,ξ];rintro(q|q)
    ·have:=hc.up _ (a_ h) q;omega
    ·have:=j.same (a_ h) g1 (q.trans g2.symm);rw[this]at C e3;omega
  ·rintro⟨c,q1,q2,J⟩;obtain⟨f,q5⟩:=rV.1 J;rw[χ,ξ]at f;have P:=vk p c;by_cases h0:c.2.count s=0
   ·refine .inl ?_;have:x∈rdF cs os:=FF.2 ⟨c,q1,q2,rV.2 ⟨λe=>f (.inl e),Ω⟩⟩;rw[g]at this;obtain e|e:=J'.1 this
    ·exact absurd (.inr (q2.trans e)) f
    ·exact e
   ·obtain⟨i,h,rfl⟩:=A_.1 q1;exact .inr ⟨i,h,q2,by rw[HB _ _ h];omega,by rw[HB _ _ h];omega⟩
 rw[R,C]
def EZ (cs:List CK):∀(k:Nat) (d:List Int),tf cs (k+1) d=match rdF cs (tf cs k d)with
  |[]=>tf cs k d
  |s::_=>tf cs k d++[s]
 |0,d=>by simp only[tf]
 |k+1,d=>by
  cases h:rdF cs d with
  |nil=>
   have e:∀m,tf cs (m+1) d=d:=λm=>by simp only[tf];rw[h]
   rw[e,e,h]
  |cons s l=>
   have e:∀m,tf cs (m+1) d=tf cs m (d++[s]):=λm=>by conv=>lhs;unfold tf;rw[h]
   rw[e,e];exact EZ cs k _
def ClK.take (f:StL cs):∀k,ClK cs (tf cs k [])
 |0=>ClK.nil cs
 |k+1=>by
  rw[EZ];split
  ·exact ClK.take f k
  next s l h=>exact(ClK.take f k).next f h
end
open Go Go.RowKit Tryz
def Ai (w f:World)(St:Sb):Sb:=⟨λb o=>St b o∨(w.heap.size≤b∧b<f.heap.size),St.j⟩
def abb (w f:World)(St:Sb):St.le (Ai w f St):=⟨λ_ _ h=>.inl h,λ_ _ _ _ h=>h⟩
variable{w w' :World}{St:Sb}{e:TypeId}{v:Value}{τ:Ty}{xs:List Value}
def rR {l:List τ.den}(p:w'.ownsRow w.heap.size e τ.size v l.length xs)(f:Rep w' (Ai w w' St) (chain (toD τ) l) xs):Rep w' (Ai w w' St) (toD (.slice τ) l) [v]:=by
 have hl:=bJ f;rcases p.2 with⟨rfl,R⟩|⟨g,cap,T,rfl,J,P,C,_,hs,U⟩
 ·refine⟨none,0,0,rfl,by rw[len_chain];exact R.symm,ζ _,.inl rfl⟩
 ·refine⟨some ⟨g,0,none⟩,l.length,cap,rfl,(len_chain _ _).symm,C,.inr ⟨⟨g,0,none⟩,xs,rfl,rfl,f,λj u r=>⟨?_,.inr ⟨J, ?_⟩⟩⟩⟩
  ·exact p.cells (g:=g) rfl j u r
  ·exact(δ.1 P).1
def OZ (j:Below w.heap.size w w')(g:dz w≤dz w'){t:Ty}{x:t.den}(f:RepV w' (Ai w w' St) t x v):H4 w St (.val t x) (.returned v) w' :=
 ⟨v,Ai w w' St,rfl,j,g,abb w w' St,λ_ _ h=>h,λ_ _ _ _ h=>.inl h,v,rfl,f⟩
def aaO (p:Below w.heap.size w w')(j:dz w≤dz w'){l:List τ.den}(g:w'.ownsRow w.heap.size e τ.size v l.length xs)(f:Rep w' (Ai w w' St) (chain (toD τ) l) xs):H4 w St (.val (.slice τ) l) (.returned v) w' :=
 OZ p j (by show RepV _ _ (.slice τ) l v;unfold RepV;rw[Θ (by simp[Ty.isStruct])];exact rR g f)
open Go.Proofs Go.Maps Go.MapKept Go.WideElems
open Go.ChangeMaps (setBlock heap_setBlock_same)
open Go.ChangeShapes (lits)
def intsI (l:List Int):List Value:=l.map (.int .i64)
def KZ:prog.underlying 3=some (.int .i64):=Φ
def ZO:prog.underlying 23=some (.slice 3):=Φ
def RI:prog.underlying 64=some (.map 3 23):=Φ
def abL:(prog.info? 3).map (λi=>(i.zero,i.size,i.bytes))=some (some (.int .i64 0),1,8):=Φ
def Mb:Keyed prog 3:=int_keyed KZ
def Zx (w:World):(zeroValue 23).run prog w = .ok (.slice none 0 0) w:=Φ
def chl (f:List (Int×Nat))(p:Int):List Int:=(f.filter (·.1 == p)).map λx=>(x.2:Int)
def Uw (D:DataW Unit)(f:List (Int×Nat)):Prop:=IsMap D∧∀p:Int,(D.atKey (.int .i64 p) .nil = .nil∧chl f p=[])∨D.atKey (.int .i64 p) .nil = .slice (lits .i64 (chl f p)) []
def GH:∀{a b:List Int},(lits .i64 a:List (DataW Unit))=lits .i64 b→a=b
 |[],[],_=>rfl
 |x::a,y::b,h=>by simp only[lits,X_,n_]at h;obtain⟨g,f⟩:=h;cases g;rw[GH (a:=a) (b:=b) f]
 |[],_::_,h=>by cases h
 |_::_,[],h=>by cases h
def Uw.nil:Uw (.map []) []:=⟨isMap_empty,λp=>.inl ⟨rfl,rfl⟩⟩
def Uw.zs {D:DataW Unit}{j:List (Int×Nat)}(h:Uw D j){p:Int}{l:Nat}{zs:List Int}(g:D.atKey (.int .i64 p) .nil=rowDatum .i64 v zs)(r:w.ownsInts l 3 .i64 v zs):zs=chl j p:=by
 rcases r.datum (H:=Unit)with⟨e,rfl⟩|e
 ·rw[e]at g;rcases h.2 p with⟨_,f⟩|f
  ·exact f.symm
  ·rw[g]at f;cases f
 ·rw[e]at g;rcases h.2 p with⟨f,_⟩|f
  ·rw[g]at f;cases f
  ·rw[g]at f;injection f with f;exact GH f
def Uw.put {D:DataW Unit}{f:List (Int×Nat)}(h:Uw D f)(p:Int)(i:Nat)(j:WideAt.IsKeyLit (.int .i64 p)):Uw (D.put (.int .i64 p) (.slice (lits .i64 (chl f p++[(i:Int)])) [])) (f++[(p,i)]):=by
 refine⟨h.1.put _ _,λq=>?_⟩;by_cases e:q=p
 ·subst e;refine .inr ?_;rw[atKey_put_same h.1 j];simp[chl]
 ·rw[atKey_put_other (λg=>e (by cases g;rfl))];have:chl (f++[(p,i)]) q=chl f q:=by
   unfold chl;rw[n?];have:(p == q)=false:=P'.2 λg=>e g.symm;simp[this]
  rw[this];exact h.2 q
structure OEnv (w wr:World)(n:Nat)(ws:List Int)(J C:Value)(k:Nat)(D:DataW Unit):Prop where
 bl:Below w.heap.size w wr
 dr:dz w≤dz wr
 sz:w.heap.size+2≤wr.heap.size
 wl:ws.length=n
 wt:wr.ownsRow w.heap.size 3 1 (.slice (some ⟨w.heap.size,0,none⟩) n n) n (intsI ws)
 gr:wr.ownsGroups Tryz.prog 3 (w.heap.size+2) 3 .i64 (w.heap.size+1) k D
 sh:wr.Shuns (w.heap.size+1) λg=>J.ownBlock=some g∨C.ownBlock=some g
section
variable {w wr w1 U:World}{n k:Nat}{ws:List Int}{J C R P:Value}{D T:DataW Unit}{row:Option Nat}
def OEnv.turn (h:OEnv w wr n ws J C k D)(j:wr.grownBy w1 row)(r:dz wr≤dz w1)(f:∀g,row=some g→w.heap.size+2≤g∧(J.ownBlock=some g∨C.ownBlock=some g))
  (p:∀g,R.ownBlock=some g∨P.ownBlock=some g→(J.ownBlock=some g∨C.ownBlock=some g)∨wr.heap.size≤g):OEnv w w1 n ws R P k D:=by
 have T:=h.sz;have l:some (w.heap.size+1)≠row:=λe=>by have:=(f _ e.symm).1;omega
 refine⟨h.bl.grown j h.bl.size λg e=>by have:=(f g e).1;omega,ν h.dr r,ν h.sz j.size,h.wl,h.wt.kept j (.inr λe=>?_),h.gr.kept j l (h.sh.rowsOff λg e=>(f g e).2),(h.sh.reno h.gr p).kept j Ω l⟩;have:w.heap.size+2≤w.heap.size:=(f _ e.symm).1;omega
def OEnv.quiet (h:OEnv w wr n ws J C k D)(f:wr.grownBy w1 none)(g:dz wr≤dz w1):OEnv w w1 n ws J C k D:=h.turn f g (λ_ e=>by cases e) λ_ e=>.inl e
def OEnv.alloc (h:OEnv w wr n ws J C k D)(o:Obj):OEnv w (wr.alloc o) n ws J C k D:=h.quiet (ω _ _ _) (ζ _)
def OEnv.setW (h:OEnv w wr n ws J C k D)(i:Nat)(x:Int):OEnv w (wr.setCell ⟨w.heap.size,i,none⟩ (.int .i64 x)) n (ws.set i x) J C k D:=by
 obtain⟨p,f⟩:=h.wt.stored i (.int .i64 x);have r:=h.sz;have l:∀j,some w.heap.size=some j→j<w.heap.size+2:=λj e=>by cases e;omega
 refine⟨h.bl.grown f h.bl.size λg e=>by cases e;omega,h.dr,ν h.sz f.size,by simp[h.wl], ?_,h.gr.kept f Ψ (h.gr.rowsAbove l),h.sh.kept f Ω Ψ⟩;have e:intsI (ws.set i x)=(intsI ws).set i (.int .i64 x):=by unfold intsI;rw[List.map_set]
 rw[e];exact p
end
end Abs
namespace Go.Proofs
open Go.Shelf Tryz
def Tryz.sortI_ren:Go.Shelf.Ren:=⟨λ|5=>36|8=>67|7=>66|19=>119|20=>120|10=>110|11=>111|12=>112|13=>113|14=>114|15=>115|16=>116|17=>117|18=>118|30=>152|31=>153|32=>154|33=>155|34=>156|35=>70|40=>187|n=>n,λ|23=>23|25=>3|3=>3|32=>108|22=>23|0=>0|44=>158|46=>160|4=>4|36=>150|35=>149|41=>155|5=>5|9=>9|53=>201|57=>205|63=>240|64=>128|n=>n,λ|n=>n⟩
def Tryz.sortI:Go.Proofs.SlLaysM.n5 Tryz.prog Tryz.sortI_ren:={
 mixed:=by kernel_rfl
 f5:=⟨Tryz.f36.name,by decide,Tryz.func36.trans (congrArg some (by kernel_rfl))⟩
 f7:=⟨Tryz.f66.name,by decide,Tryz.func66.trans (congrArg some (by kernel_rfl))⟩
 f8:=Tryz.func67.trans (congrArg some (by kernel_rfl))
 f10:=⟨Tryz.f110.name,by decide,Tryz.func110.trans (congrArg some (by kernel_rfl))⟩
 f11:=⟨Tryz.f111.name,by decide,Tryz.func111.trans (congrArg some (by kernel_rfl))⟩
 f12:=⟨Tryz.f112.name,by decide,Tryz.func112.trans (congrArg some (by kernel_rfl))⟩
 f13:=⟨Tryz.f113.name,by decide,Tryz.func113.trans (congrArg some (by kernel_rfl))⟩
 f14:=⟨Tryz.f114.name,by decide,Tryz.func114.trans (congrArg some (by kernel_rfl))⟩
 f15:=⟨Tryz.f115.name,by decide,Tryz.func115.trans (congrArg some (by kernel_rfl))⟩
 f16:=⟨Tryz.f116.name,by decide,Tryz.func116.trans (congrArg some (by kernel_rfl))⟩
 f17:=⟨Tryz.f117.name,by decide,Tryz.func117.trans (congrArg some (by kernel_rfl))⟩
 f18:=⟨Tryz.f118.name,by decide,Tryz.func118.trans (congrArg some (by kernel_rfl))⟩
 f19:=Tryz.func119.trans (congrArg some (by kernel_rfl))
 f20:=Tryz.func120.trans (congrArg some (by kernel_rfl))
 f30:=⟨Tryz.f152.name,by decide,Tryz.func152.trans (congrArg some (by kernel_rfl))⟩
 f31:=Tryz.func153.trans (congrArg some (by kernel_rfl))
 f32:=Tryz.func154.trans (congrArg some (by kernel_rfl))
 f33:=⟨Tryz.f155.name,by decide,Tryz.func155.trans (congrArg some (by kernel_rfl))⟩
 f34:=⟨Tryz.f156.name,by decide,Tryz.func156.trans (congrArg some (by kernel_rfl))⟩
 f35:=⟨Tryz.f70.name,by decide,Tryz.func70.trans (congrArg some (by kernel_rfl))⟩
 f40:=⟨Tryz.f187.name,by decide,Tryz.func187.trans (congrArg some (by kernel_rfl))⟩
 t0:=Tryz.underlying0
 a0:=Tryz.isAgg0
 z0:=Tryz.sizeOf0
 v0:=Tryz.zeroValue0
 t3:=Tryz.underlying3
 a3:=Tryz.isAgg3
 z3:=Tryz.sizeOf3
 v3:=Tryz.zeroValue3
 t4:=Tryz.underlying4
 a4:=Tryz.isAgg4
 z4:=Tryz.sizeOf4
 v4:=Tryz.zeroValue4
 t5:=Tryz.underlying5
 a5:=Tryz.isAgg5
 z5:=Tryz.sizeOf5
 v5:=Tryz.zeroValue5
 t9:=Tryz.underlying9
 a9:=Tryz.isAgg9
 z9:=Tryz.sizeOf9
 v9:=Tryz.zeroValue9
 t22:=Tryz.underlying23
 a22:=Tryz.isAgg23
 z22:=Tryz.sizeOf23
 v22:=Tryz.zeroValue23
 t23:=Tryz.underlying23
 a23:=Tryz.isAgg23
 z23:=Tryz.sizeOf23
 v23:=Tryz.zeroValue23
 t25:=Tryz.underlying3
 a25:=Tryz.isAgg3
 z25:=Tryz.sizeOf3
 v25:=Tryz.zeroValue3
 t32:=Tryz.underlying108
 a32:=Tryz.isAgg108
 z32:=Tryz.sizeOf108
 v32:=Tryz.zeroValue108
 t35:=Tryz.underlying149
 a35:=Tryz.isAgg149
 z35:=Tryz.sizeOf149
 v35:=Tryz.zeroValue149
 t36:=Tryz.underlying150
 a36:=Tryz.isAgg150
 z36:=Tryz.sizeOf150
 v36:=Tryz.zeroValue150
 t41:=Tryz.underlying155
 a41:=Tryz.isAgg155
 z41:=Tryz.sizeOf155
 v41:=Tryz.zeroValue155
 t44:=Tryz.underlying158
 a44:=Tryz.isAgg158
 z44:=Tryz.sizeOf158
 v44:=Tryz.zeroValue158
 t46:=Tryz.underlying160
 a46:=Tryz.isAgg160
 z46:=Tryz.sizeOf160
 v46:=Tryz.zeroValue160
 t53:=Tryz.underlying201
 a53:=Tryz.isAgg201
 z53:=Tryz.sizeOf201
 v53:=Tryz.zeroValue201
 t57:=Tryz.underlying205
 a57:=Tryz.isAgg205
 z57:=Tryz.sizeOf205
 v57:=Tryz.zeroValue205
 t63:=Tryz.underlying240
 a63:=Tryz.isAgg240
 z63:=Tryz.sizeOf240
 v63:=Tryz.zeroValue240
 t64:=Tryz.underlying128
 a64:=Tryz.isAgg128
 z64:=Tryz.sizeOf128
 v64:=Tryz.zeroValue128 }
end Go.Proofs
namespace Abs
open Go Go.Proofs Go.RowKit Go.Maps Tryz
def Rdy (w:World)(r:Nat)(v:Value)(f:List Int):Prop :=
 (v = .slice none 0 0∧f=[])∨∃g l cap p,v = .slice (some ⟨g,l,none⟩) f.length cap∧f.length≤cap∧cap≤maxLen∧r≤g∧w.heap[g]? = some (.cells p 3 (0,0))∧l+cap≤p.size∧∀j x,f[j]? = some x→p[l+j]? = some (.int .i64 x)
variable{w:World}{base:Nat}{v:Value}{f:List Int}
def Rdy.kept {w1:World}{row:Option Nat}(h:Rdy w base v f)(C:w.grownBy w1 row)(r:∀g,v.ownBlock=some g→row≠some g):Rdy w1 base v f:=by
 obtain h|⟨g,j,cap,l,rfl,T,R,P,p,J⟩:=h
 ·exact .inl h
 ·refine .inr ⟨g,j,cap,l,rfl,T,R,P, ?_,J⟩;rw[C.block g (δ.1 p).1 λe=>r g rfl e.symm];exact p
def Rdy.lo (h:Rdy w base v f):∀g,v.ownBlock=some g→base≤g∧g<w.heap.size:=by
 rcases h with⟨rfl,_⟩|⟨g,j,cap,r,rfl,P,J,p,l,C⟩
 ·exact λg e=>by cases e
 ·exact λR e=>by cases e;exact⟨p,(δ.1 l).1⟩
def abE {j:Nat}{x:Int}(h:f[j]? = some x):(intsI f)[j]? = some (.int .i64 x):=by unfold intsI;rw[Q_,h];rfl
def Rdy.of (h:w.ownsRow base 3 1 v f.length (intsI f)):Rdy w base v f:=by
 rcases h.2 with⟨rfl,T⟩|⟨g,cap,l,rfl,R,P,C,J,U,r⟩
 ·exact .inl ⟨rfl,Q' T⟩
 ·refine .inr ⟨g,0,cap,l,rfl,C,J,R,P,Ω,λj x p=>?_⟩;have hj:j<f.length:=(f_.1 p).1;have e:=abE p;rw[←r,akq Ω,o_]at e;rw[b_];exact e
def RW (f cap:Nat)(g:List Int)(w:World)(C:Sort.Holds (Value.int .i64) w f 0 g.toArray)(j:f<w.heap.size)(l:g.length<4611686018427387904) :
  Calls prog 36 #[.slice (some ⟨f,0,none⟩) g.length cap] w λe p=>e = .returned (.tuple #[])∧∃n r,p=Sort.grow (Sort.putRow (Value.int .i64) (Sort.ahead w n) f 0 (g.mergeSort λx y=>decide (x≤y)).toArray) r :=
 AnyM.slices_Sort_int sortI f 0 cap g w C j l
def Xm (p:Option Addr)(cap:Nat)(w:World):Calls prog 36 #[.slice p 0 cap] w λe f=>e = .returned (.tuple #[])∧f=w:=AnyM.slices_Sort_int_none sortI p cap w
def Wg {g:Nat}{f:Array Value}{e:TypeId}{l:Nat×Nat}(h:w.heap[g]? = some (.cells f e l))(j:Nat):w.cell? ⟨g,j,none⟩=f[j]?:=by simp[World.cell?,h]
