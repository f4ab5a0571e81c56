/- The reference's crowds. -/
import Derived.WalkKit
import Derived.Laws.OwnMore
import Derived.Laws.AppendOwnNone
import Derived.Test.YthfdnklcgfkjoaaGreatDoorMeetW5
import Derived.Maps.AppendAt
import Derived.Deep.RegionHeld3
import Derived.Deep.QuietTactic
set_option linter.all false
namespace Go.Proofs.YthfdnklcgfkjoaaGreatDoor.Abs
open Go Go.RowKit Tryz
def Aq (w f:World)(St:Sb):Sb:=⟨λb o=>St b o∨(w.heap.size≤b∧b<f.heap.size),St.j⟩
def Rb (w f:World)(St:Sb):St.le (Aq w f St):=⟨λ_ _ h=>.inl h,λ_ _ _ _ h=>h⟩
variable{w' a b c:World}{St:Sb}{e:TypeId}{τ:Ty}{xs:List Value}{row:Option Nat}{g cap k q n size:Nat}{P:Program}{o:Oper}{K:Act→World→Prop}{Q:Exit→Act→World→Prop}{ops:Array Oper}{u i:Value}
def Wf {w:World}(f:∀b o,St b o→b<w.heap.size)(g:Below w.heap.size w w'):∀(a:Addr) v,St a.block a.off→a.spot=none→w.cell? a=some v→w'.cell? a=some v:=λa v l _ j=>by have:=f _ _ l;rw[X' (g.block a.block this)];exact j
def Ku {w p:World}(f:∀b o,St b o→b<w.heap.size)(j:Below w.heap.size w w'){d:D}{g:List Value}(h:Rep w St d g):Rep w' (Aq w p St) d g :=
 h.mono (Rb w p St) (Wf f j)
def W6 {w:World}{v:Value}{l:List τ.den}(p:w'.ownsRow w.heap.size e τ.size v l.length xs)(f:Rep w' (Aq w w' St) (chain (toD τ) l) xs):Rep w' (Aq w w' St) (toD (.slice τ) l) [v]:=by
 have hl:=ba f;rcases p.2 with⟨rfl,R⟩|⟨g,cap,T,rfl,J,P,C,_,hs,U⟩
 ·refine⟨none,0,0,rfl,by rw[len_chain];exact R.symm,δ _,.inl rfl⟩
 ·refine⟨some ⟨g,0,none⟩,l.length,cap,rfl,(len_chain _ _).symm,C,.inr ⟨⟨g,0,none⟩,xs,rfl,rfl,f,λj u r=>⟨?_,.inr ⟨J, ?_⟩⟩⟩⟩
  ·exact p.cells (g:=g) rfl j u r
  ·exact(θ.1 P).1
def Aa {w:World}(j:Below w.heap.size w w')(g:w.drawn≤w'.drawn){t:Ty}{x:t.den}{v:Value}(f:RepV w' (Aq w w' St) t x v):I0 w St (.val t x) (.returned v) w' :=
 ⟨v,Aq w w' St,rfl,j,g,Rb w w' St,λ_ _ h=>h,λ_ _ _ _ h=>.inl h,v,rfl,f⟩
def Gy {w:World}(p:Below w.heap.size w w')(j:w.drawn≤w'.drawn){v:Value}{l:List τ.den}(g:w'.ownsRow w.heap.size e τ.size v l.length xs)(f:Rep w' (Aq w w' St) (chain (toD τ) l) xs):I0 w St (.val (.slice τ) l) (.returned v) w' :=
 Aa p j (by show RepV _ _ (.slice τ) l v;unfold RepV;rw[ο (by simp[Ty.isStruct])];exact W6 g f)
open Go Tryz
abbrev Crd:=Int×Int×List Int
def lg (r n id:Int):List Crd→List Crd
 |[]=>[(r,n,[id])]
 |x::l=>if ahd x.1 x.2.1 r n=true then x::lg r n id l else if x.1=r∧x.2.1=n then(r,n,x.2.2++[id])::l else(r,n,[id])::x::l
def kL (out:List Crd)(c:Cel):List Crd:=cond (cF c) (lg c.2.2.1.2.2.2.1 c.2.2.1.1 c.1 out) out
def iP (l:List Cel):List Crd:=l.foldl kL []
def Zz (x:Crd):Reg:=(2,x.1,x.2.1,[],x.2.2,())
def jI (m:Mdl):List Reg:=((iP m.1).filter λx=>decide (1<x.2.2.length)).map Zz
def QF {r n id:Int}:∀{out:List Crd} {k:Nat} (h:k<out.length),(∀j (C:j<k),ahd (out[j]'Ω).1 (out[j]'Ω).2.1 r n=true)→ahd out[k].1 out[k].2.1 r n=false→out[k].1=r→out[k].2.1=n→lg r n id out=out.set k (r,n,out[k].2.2++[id])
 |x::l,0,_,_,p,g,f=>by have p:ahd x.1 x.2.1 r n=false:=p;have g:x.1=r:=g;have f:x.2.1=n:=f;rw[lg,ο (by rw[p];decide),β ⟨g,f⟩];rfl
 |x::l,k+1,h,C,p,g,f=>by have P:ahd x.1 x.2.1 r n=true:=C 0 Ω;have J:=QF (id:=id) (out:=l) (k:=k) (by simpa using h) (λj R=>C (j+1) Ω) p g f;simp only[lg,P,h?,J];rfl
def QD {r n id:Int}:∀{out:List Crd} {k:Nat} (f:k≤out.length),(∀j (g:j<k),ahd (out[j]'Ω).1 (out[j]'Ω).2.1 r n=true)→(∀h:k<out.length,ahd out[k].1 out[k].2.1 r n=false∧¬(out[k].1=r∧out[k].2.1=n))→lg r n id out=out.take k++(r,n,[id])::out.drop k
 |[],k,f,_,_=>by simp[lg]
 |x::l,0,_,_,h=>by obtain⟨C,p⟩:=h Ψ;have C:ahd x.1 x.2.1 r n=false:=C;have p:¬(x.1=r∧x.2.1=n):=p;rw[lg,ο (by rw[C];decide),ο p];rfl
 |x::l,k+1,f,g,h=>by have P:ahd x.1 x.2.1 r n=true:=g 0 Ω;have J:=QD (id:=id) (out:=l) (k:=k) (by simpa using f) (λj T=>g (j+1) Ω) (λR=>h (by simpa using R));simp only[lg,P,h?,J];rfl
def ajV {i f j g:Int}(h:ahd i f j g=true)(p:f=2)(l:g=2):i+1≤j:=by rw[da]at h;omega
def akT {l j g f:Int}(h:g<f):c3 l j g l j f≤0:=by rw[IG];omega
def anQ {g f l b1 b2 j:Int}(h:ahd g f b1 b2=true):c3 g f l b1 b2 j≤0:=by rw[da]at h;rw[IG];omega
def IX {a b c d:Int}(h:ahd a b c d=true):¬(c=a∧d=b):=by rw[da]at h;omega
def anY {a b c d:Int}(h:ahd a b c d=true):a≤c:=by rw[da]at h;omega
def kM (l:List Crd):List Stg:=l.flatMap λx=>x.2.2.map λe=>((x.1,x.2.1,()),e,())
def jm (x:Crd)(l:List Crd):kM (x::l)=(x.2.2.map λe=>((x.1,x.2.1,()),e,()))++kM l:=rfl
def KC (r n id:Int):∀l:List Crd,(kM (lg r n id l)).Perm (kM l++[((r,n,()),id,())])
 |[]=>List.Perm.refl _
 |x::l=>by
  unfold lg;split
  ·rw[jm,jm,k_];exact(KC r n id l).append_left _
  ·split
   next h=>obtain⟨rfl,rfl⟩:=h;rw[jm,jm,k_];simp;exact(atG (l₁:=[_])).append_left _
   ·rw[jm];exact atG (l₁:=[_])
def Lh:∀(l:List Cel) (f:List Crd),(kM (l.foldl kL f)).Perm (kM f++px (l,()))
 |[],f=>by simp[px]
 |c::l,f=>by
  rw[Z?,FD];refine(Lh l _).trans ?_;unfold kL;cases g:cF c with
  |false=>exact List.Perm.refl _
  |true =>rw[ξ,ξ,←List.append_assoc];exact(KC _ _ _ f).append_right _
structure GoodC (b:Int)(l:List Crd):Prop where
 asc:l.Pairwise λx y=>ahd x.1 x.2.1 y.1 y.2.1=true
 ids:∀x∈l,x.2.2≠[]∧x.2.2.Pairwise (· < ·)∧∀e∈x.2.2,e<b
def QE {r n id:Int}:∀{l:List Crd} {y:Crd},y∈lg r n id l→(y.1=r∧y.2.1=n)∨∃x∈l,y.1=x.1∧y.2.1=x.2.1
 |[],y,h=>by simp only[lg,F']at h;subst h;exact .inl ⟨rfl,rfl⟩
 |x::l,y,h=>by
  unfold lg at h;split at h
  ·obtain rfl|h:=N'.1 h
   ·exact .inr ⟨y,Ψ,rfl,rfl⟩
   ·obtain h|⟨z,f,h⟩:=QE h
    ·exact .inl h
    ·exact .inr ⟨z,C' _ f,h⟩
  ·split at h
   ·obtain rfl|h:=N'.1 h
    ·exact .inl ⟨rfl,rfl⟩
    ·exact .inr ⟨y,C' _ h,rfl,rfl⟩
   ·obtain rfl|h:=N'.1 h
    ·exact .inl ⟨rfl,rfl⟩
    ·exact .inr ⟨y,h,rfl,rfl⟩
def KD {b r n id:Int}(hb:b≤id):∀{l:List Crd},GoodC b l→GoodC (id+1) (lg r n id l)
 |[],_=>⟨by simp[lg],λx p=>by
  simp only[lg,F']at p;subst p;exact⟨Ψ,Ψ,λe g=>by simp at g;omega⟩⟩
 |x::l,h=>by
  have hl:GoodC b l:=⟨(b_.1 h.asc).2,λy f=>h.ids y (C' _ f)⟩;have p:=(b_.1 h.asc).1;have j:∀y∈x::l,y.2.2≠[]∧y.2.2.Pairwise (· < ·)∧∀e∈y.2.2,e<id+1:=λy f=>⟨(h.ids y f).1,(h.ids y f).2.1,λe g=>by have:=(h.ids y f).2.2 e g;omega⟩;unfold lg;split
  next J=>
   have U:=KD hb hl (r:=r) (n:=n);refine⟨b_.2 ⟨λy f=>?_,U.asc⟩,λy f=>?_⟩
   ·rcases QE f with⟨R,P⟩|⟨z,hz,R,P⟩
    ·rw[R,P];exact J
    ·rw[R,P];exact p z hz
   ·obtain rfl|f:=N'.1 f
    ·exact j _ Ψ
    ·exact U.ids y f
  next hna=>
   split
   ·rename_i g;obtain⟨rfl,rfl⟩:=g;refine⟨b_.2 ⟨p,hl.asc⟩,λy f=>?_⟩;obtain rfl|f:=N'.1 f
    ·obtain⟨q1,q2,T⟩:=h.ids x Ψ;refine⟨Ψ,j_.2 ⟨q2,Ψ,λa J c hc=>?_⟩,λe g=>?_⟩
     ·rw[F'.1 hc];have:=T a J;omega
     ·obtain g|g:=Q'.1 g
      ·have:=T e g;omega
      ·rw[F'.1 g];omega
    ·exact j y (C' _ f)
   ·rename_i g;have C:ahd r n x.1 x.2.1=true:=by
     rw[da]at hna⊢;omega
    refine⟨b_.2 ⟨λy f=>?_,h.asc⟩,λy f=>?_⟩
    ·obtain rfl|f:=N'.1 f
     ·exact C
     ·have:=p y f;show ahd r n y.1 y.2.1=true;rw[da]at this C⊢;omega
    ·obtain rfl|f:=N'.1 f
     ·exact⟨Ψ,Ψ,λe g=>by simp at g;omega⟩
     ·exact j y f
def CA:∀(l:List Cel) (f:List Crd) (b:Int),GoodC b f→(l.Pairwise λx y=>ahd x.1 x.2.1 y.1 y.2.1=true)→(∀c∈l,cF c=true→b≤c.1)→∃R,GoodC R (l.foldl kL f)
 |[],f,b,h,_,_=>⟨b,h⟩
 |c::l,f,b,h,ha,hb=>by
  rw[Z?];obtain⟨C,r⟩:=b_.1 ha;unfold kL;cases p:cF c with
  |false=>exact CA l f b h r λd j g=>hb d (C' _ j) g
  |true=>
   refine CA l _ (c.1+1) (KD (hb c Ψ p) h) r λd j g=>?_;have:=C d j;have P:(c.2.1:Int)=2:=by simp[cF]at p;exact p.1.1.1
   have J:(d.2.1:Int)=2:=by simp[cF]at g;exact g.1.1.1
   exact ajV this P J
def RZ {b:Int}{l:List Crd}(h:GoodC b l):(kM l).Pairwise λx y=>jr x y≤0:=by
 refine List.pairwise_flatMap.2 ⟨λx j=>?_,h.asc.imp λ{x y} f=>λs r t p=>?_⟩
 ·refine asl.2 ((h.ids x j).2.1.imp λ{a c} g=>?_);exact akT g
 ·obtain⟨a,_,rfl⟩:=y_.1 r;obtain⟨c,_,rfl⟩:=y_.1 p;exact anQ f
def Gz (a b:ao.den):eqD ao a b=true↔a.1=b.1∧a.2.1=b.2.1:=by refine⟨λh=>by rw[aeL h];exact⟨rfl,rfl⟩,λh=>?_⟩;obtain⟨g,f,_⟩:=a;obtain⟨b1,b2,_⟩:=b;obtain⟨rfl,rfl⟩:g=b1∧f=b2:=h;exact uT ao _ rfl
def Ip {b:Int}:∀{l:List Crd} (m:Nat),GoodC b l→(kM l).length≤m→gS m (kM l)=(l.filter λx=>decide (1<x.2.2.length)).map Zz
 |[],m,_,_=>by cases m <;> rfl
 |x::l,m,h,hm=>by
  obtain⟨r,n,f⟩:=x;have R:GoodC b l:=⟨(b_.1 h.asc).2,λy g=>h.ids y (C' _ g)⟩;have P:=(b_.1 h.asc).1;have j:=(h.ids (r,n,f) Ψ).1;cases f with
  |nil=>exact absurd rfl j
  |cons e f=>
   rw[jm]at hm⊢;simp at hm⊢;cases m with
   |zero=>omega
   |succ m=>
    have same:∀y∈f.map (λe=>(((r,n,()),e,()):Stg)),eqD ao y.1 (r,n,())=true:=λy g=>by obtain⟨a,_,rfl⟩:=y_.1 g;exact(Gz _ _).2 ⟨rfl,rfl⟩
    have other:∀y∈kM l,eqD ao y.1 (r,n,())=false:=λy g=>by
     obtain⟨z,J,g⟩:=List.mem_flatMap.1 g;obtain⟨a,_,rfl⟩:=y_.1 g;have:ahd r n z.1 z.2.1=true:=P z J;cases T:eqD ao ((z.1,z.2.1,()),a,()).1 (r,n,())with
     |false=>rfl
     |true=>exact absurd ((Gz _ _).1 T) (IX this)
    have C:((f.map λe=>(((r,n,()),e,()):Stg))++kM l).takeWhile (λy=>eqD ao y.1 (r,n,()))=f.map λe=>((r,n,()),e,()):=by
     rw[atm same];cases p:kM l with
     |nil=>simp
     |cons y t=>rw[Q_ (by rw[other y (by rw[p];simp)];simp),G?]
    have U:((f.map λe=>(((r,n,()),e,()):Stg))++kM l).dropWhile (λy=>eqD ao y.1 (r,n,()))=kM l:=by
     rw[atp same];cases p:kM l with
     |nil=>rfl
     |cons y t=>rw[J_ (by rw[other y (by rw[p];simp)];simp)]
    rw[yN,C,U,Ip m R Ω];cases f with
    |nil=>simp
    |cons e' f=>simp[Zz,Function.comp_def]
def aa4 {m:Mdl}(j:m.1.Pairwise λx y=>ahd x.1 x.2.1 y.1 y.2.1=true):gS (dZ m).length (dZ m)=jI m:=by
 obtain⟨l,u⟩:=m;cases l with
 |nil=>simp[dZ,px,gW,gS,jI,iP]
 |cons c l=>
  have C:∀d∈c::l,cF d=true→c.1≤d.1:=λd f _=>by
   obtain rfl|f:=N'.1 f
   ·exact asn _
   ·exact anY ((b_.1 j).1 d f)
  obtain⟨b,g⟩:=CA (c::l) [] c.1 ⟨Ψ,λx p=>by cases p⟩ j C;have r:=Lh (c::l) [];have e:kM (iP (c::l))=dZ (c::l,u):=zB D5 r (RZ g);rw[←e];exact Ip _ g (δ _)
open Go Go.Proofs Go.RowKit Tryz
def D8 (a b c d:Int)(w:World):Calls prog 48 #[.int .i64 a,.int .i64 b,.int .i64 c,.int .i64 d] w λe w'=>e = .returned (.bool (ahd a b c d))∧w'=w:=by
 unfold ahd;by_cases f:a<c
 ·have:decide (a<c)=true:=N_ f
  go_enter func48,ntmps48
  go_wp2
  go_ret
  simp[f]
 ·have:decide (a<c)=false:=ar2 f;by_cases g:a=c
  ·go_enter func48,ntmps48
   go_wp2
   go_ret
   simp[f,g]
  ·go_enter func48,ntmps48
   go_wp2
   go_ret
   simp[f,g]
open Go Go.RowKit Tryz
abbrev Crg:=Crd×Nat×Nat
def slC (x:Crg):Value :=.slice (some ⟨x.2.1,0,none⟩) x.1.2.2.length x.2.2
def dj (x:Crg):List Value:=[.int .i64 2,.int .i64 x.1.1,.int .i64 x.1.2.1,.slice none 0 0,slC x]
def cq:List Crg→List Value
 |[]=>[]
 |x::l=>dj x++cq l
def qN (l:List Int):List Value:=l.map (.int .i64)
def gp:∀f:List Crg,(cq f).length=f.length*5
 |[]=>rfl
 |x::l=>by rw[cq,a_,gp l,q_,F_];simp[dj];omega
def tP:∀a b:List Crg,cq (a++b)=cq a++cq b
 |[],_=>rfl
 |x::a,b=>by rw[List.cons_append,cq,cq,tP a b,k_]
def mG (f:List Crg):∀u∈cq f,u.oneCell'=true:=by
 induction f with
 |nil=>intro u h;cases h
 |cons x l g=>
  intro u h;obtain h|h:=Q'.1 h
  ·simp[dj]at h;obtain rfl|rfl|rfl|rfl|rfl:=h <;> rfl
  ·exact g u h
def Qc:∀{g:List Crg} {k:Nat} (h:k<g.length) (f:Nat),f<5→(cq g)[k*5+f]? = (dj g[k])[f]?
 |x::l,0,_,f,hf=>by rw[cq,ω (by simp[dj];omega)];simp
 |x::l,k+1,h,f,hf=>by have j:(dj x).length=5:=rfl;rw[cq,P' (by rw[j];omega),j,show(k+1)*5+f-5=k*5+f by omega];exact Qc (by simpa using h) f hf
def Qb:∀{os:List Crg} {k:Nat} (h:k<os.length) {y:Crg},y.1.1=os[k].1.1→y.1.2.1=os[k].1.2.1→(cq os).set (k*5+4) (slC y)=cq (os.set k y)
 |x::l,0,_,y,g,f=>by have g:y.1.1=x.1.1:=g;have f:y.1.2.1=x.1.2.1:=f;simp[cq,dj,g,f]
 |x::l,k+1,h,y,g,f=>by have j:(dj x).length=5:=rfl;rw[cq,asD _ _ (by rw[j];omega),j,show(k+1)*5+4-5=k*5+4 by omega,Qb (os:=l) (k:=k) (by simpa using h) g f];rfl
def Zn (f:List Crg)(k:Nat)(h:k≤f.length):(cq f).take (k*5)=cq (f.take k):=by have e:=tP (f.take k) (f.drop k);rw[W_]at e;rw[e,atl (by rw[gp];simp;omega)]
def Zo (f:List Crg)(k:Nat)(h:k≤f.length):(cq f).drop (k*5)=cq (f.drop k):=by have e:=tP (f.take k) (f.drop k);rw[W_]at e;rw[e,ato (by rw[gp];simp;omega)]
structure COut (B:Nat)(w:World)(v:Value)(os:List Crg):Prop where
 row:w.ownsRow B 66 5 v os.length (cq os)
 ent:∀x∈os,w.ownsRow B 3 1 (slC x) x.1.2.2.length (qN x.1.2.2)
 dst:os.Pairwise λx y=>x.2.1≠y.2.1
 sep:∀x∈os,v.ownBlock≠some x.2.1
variable {B:Nat}{w w1 p R C J:World}{v:Value}{os:List Crg}
def vQ (x:Crg):(slC x).ownBlock=some x.2.1:=rfl
def COut.nil (w:World):COut B w (.slice none 0 0) []:=⟨D_ _ _ _ _,λ_ h=>(by cases h),List.Pairwise.nil,λ_ h=>(by cases h)⟩
def aaU (l:∀x∈os,w.ownsRow B 3 1 (slC x) x.1.2.2.length (qN x.1.2.2))(j:w.grownBy w1 row)(g:∀x∈os,row≠some x.2.1):∀x∈os,w1.ownsRow B 3 1 (slC x) x.1.2.2.length (qN x.1.2.2) :=
 λx f=>(l x f).kept j (.inr λe=>g x f (e.symm.trans (vQ x) |> λe=>e))
def COut.kept (h:COut B w v os)(f:w.grownBy w1 none):COut B w1 v os :=
 ⟨h.row.kept f (by cases v.ownBlock with|none=>exact .inl rfl|some b=>exact .inr Ψ),aaU h.ent f λ_ _ e=>(by cases e),h.dst,h.sep⟩
def COut.form (h:COut B w v os):(v = .slice none 0 0∧os=[])∨∃g cap,v = .slice (some ⟨g,0,none⟩) os.length cap∧B≤g∧g<w.heap.size∧os.length≤cap:=by
 rcases h.row.2 with⟨e,p⟩|⟨g,cap,r,e,l,j,f,_⟩
 ·exact .inl ⟨e,K' p⟩
 ·exact .inr ⟨g,cap,e,l,(θ.1 j).1,f⟩
def COut.form2 (h:COut B w v os):∃A c,v = .slice A os.length c:=by
 rcases h.form with⟨rfl,rfl⟩|⟨g,cap,rfl,_⟩
 ·exact⟨none,0,rfl⟩
 ·exact⟨_,_,rfl⟩
def COut.cell (h:COut B w (.slice (some ⟨g,0,none⟩) os.length cap) os)(j:k<os.length)(f:Nat)(l:f<5):w.cell? ⟨g,k*5+f,none⟩=(dj os[k])[f]?:=by rw[h.row.cellAt (k*5+f) Ω,Qc j f l]
def COut.drop_cells (h:COut B w (.slice (some ⟨g,0,none⟩) os.length cap) os)(l:q≤os.length):∀j u,(cq (os.drop q))[j]? = some u→w.cell? ⟨g,q*5+j,none⟩=some u:=λj u f=>by rw[←Zo os q l,U']at f;have:=h.row.cells (g:=g) rfl (q*5+j) u f;rw[cH]at this;rwa[I']at this
def COut.front (h:COut B w (.slice (some ⟨g,0,none⟩) os.length cap) os)(r:q≤os.length):w.ownsRow B 66 5 (.slice (some ⟨g,0,none⟩) q cap) q (cq (os.take q)):=by
 rcases h.row.2 with⟨e,_⟩|⟨T,j,f,e,P,J,R,C,p,l⟩
 ·cases e
 ·injection e with e1 _ e2;cases e1;subst e2;refine⟨by rw[gp];simp;omega,.inr ⟨g,cap,f,rfl,P,J,Ω,C,p, ?_⟩⟩;rw[←Zn os q r,←l,asO];congr 1;omega
def COut.ext (h:COut B w (.slice (some ⟨g,0,none⟩) os.length cap) os)(hk:k<os.length){id:Int}{U:Value}
  (P:w1.ownsRow B 3 1 U (os[k].1.2.2.length+1) (qN os[k].1.2.2++[.int .i64 id])) (hg:w.grownBy w1 (some os[k].2.1)) (J:U.ownBlock=some os[k].2.1∨U.ownBlock=some w.heap.size) :
  ∃y:Crg,y.1=(os[k].1.1,os[k].1.2.1,os[k].1.2.2++[id])∧U=slC y∧COut B (w1.setCell ⟨g,k*5+4,none⟩ U) (.slice (some ⟨g,0,none⟩) os.length cap) (os.set k y):=by
 have R:os[k]∈os:=r_ hk;have hgl:g<w.heap.size:=(h.row.lt g rfl).2;have p:∀x∈os,g≠x.2.1:=λx hx e=>h.sep x hx (by rw[←e];rfl);obtain⟨r,c1,rfl,hn⟩:∃r c1,U = .slice (some ⟨r,0,none⟩) (os[k].1.2.2.length+1) c1∧True:=by
  rcases P.2 with⟨_,h0⟩|⟨r,c1,cur,e,_⟩
  ·omega
  ·exact⟨r,c1,e,awN⟩
 have J:r=os[k].2.1∨r=w.heap.size:=by
  obtain e|e:=J
  ·left;simpa[Value.ownBlock]using e
  ·right;simpa[Value.ownBlock]using e
 have hgg:g≠r:=by
  obtain rfl|rfl:=J
  ·exact p _ R
  ·omega
 let y:Crg:=((os[k].1.1,os[k].1.2.1,os[k].1.2.2++[id]),r,c1);have ey:Value.slice (some ⟨r,0,none⟩) (os[k].1.2.2.length+1) c1=slC y:=by simp[slC,y]
 have l:∀j (f:j<os.length),j≠k→os[j].2.1≠os[k].2.1:=λj f C=>by
  obtain hlt|hlt:=Nat.lt_or_gt_of_ne C
  ·exact L_.1 h.dst j k f hk hlt
  ·exact(L_.1 h.dst k j hk f hlt).symm
 have C:∀j (f:j<os.length),j≠k→os[j].2.1≠r:=λj f T e=>by
  obtain rfl|rfl:=J
  ·exact l j f T e
  ·have:=(h.ent os[j] (r_ f)).lt os[j].2.1 rfl;omega
 refine⟨y,rfl,ey, ?_,λx hx=>?_, ?_,λx hx=>?_⟩
 ·have h1:=(h.row.kept hg (.inr λe=>p _ R (by simpa[Value.ownBlock]using e))).stored (k*5+4) (slC y);rw[ey,asx,←Qb (y:=y) hk rfl rfl];exact h1.1
 ·obtain⟨j,f,rfl⟩:=N?.1 hx;rw[asx]at f;rw[ast];split
  ·have h1:=ownsRow_setCell_other (a:=⟨g,k*5+4,none⟩) P (by simp[Value.ownBlock];exact λe=>hgg e.symm) (Value.slice (some ⟨r,0,none⟩) (os[k].1.2.2.length+1) c1);have e2:qN y.1.2.2=qN os[k].1.2.2++[.int .i64 id]:=by simp[qN,y]
   have e3:y.1.2.2.length=os[k].1.2.2.length+1:=by simp[y]
   rw[e2,e3,←ey];exact h1
  next T=>have h1:=(h.ent os[j] (r_ f)).kept hg (.inr (by rw[vQ];simp;exact l j f (λe=>T e.symm)));exact ownsRow_setCell_other h1 (by rw[vQ];simp;exact λe=>p os[j] (r_ f) e.symm) _
 ·refine L_.2 λi j hi f hij=>?_;rw[asx]at hi f;have hd:=L_.1 h.dst i j hi f hij;rw[ast,ast];split
  ·split
   ·omega
   next e1 e2=>exact λe=>C j f (λe=>e2 e.symm) e.symm
  ·split
   next e1 e2=>exact C i hi (λe=>e1 e.symm)
   ·exact hd
 ·obtain⟨j,f,rfl⟩:=N?.1 hx;rw[asx]at f;rw[ast];split
  ·simp[Value.ownBlock,y];exact hgg
  ·exact h.sep _ (r_ f)
def COut.ins (h:COut B w v os)(hk:k≤os.length){r n id:Int}(hg2:w.grownBy p none){b:Nat}(hb:w.heap.size≤b)(hbl:b<p.heap.size)(hnew:p.ownsRow B 3 1 (.slice (some ⟨b,0,none⟩) 1 1) 1 [.int .i64 id])
  {U v4 T:Value} (hv1:U.ownBlock=v.ownBlock∨U.ownBlock=none) (P:p.grownBy C U.ownBlock) (hat4:v4.ownBlock=U.ownBlock∨v4.ownBlock=some p.heap.size)
  (h5:J.ownsRow B 66 5 T (k+1+(os.length-k)) (cq (os.take k)++dj ((r,n,[id]),b,1)++cq (os.drop k))) (hg5:C.grownBy J v4.ownBlock) (hat5:T.ownBlock=v4.ownBlock∨T.ownBlock=some C.heap.size) :
  COut B J T (os.take k++((r,n,[id]),b,1)::os.drop k):=by
 have hs2:=hg2.size;have hs4:=P.size;have g:∀x∈os,x.2.1<w.heap.size:=λx f=>((h.ent x f).lt x.2.1 rfl).2;have hvl:∀c,v.ownBlock=some c→c<w.heap.size:=λc j=>(h.row.lt c j).2;have n1:∀c,(c<w.heap.size∧v.ownBlock≠some c)∨(w.heap.size≤c)→U.ownBlock≠some c:=λc j e=>by
  obtain q|q:=hv1
  ·rw[q]at e;rcases j with⟨_,j⟩|j
   ·exact j e
   ·have:=hvl c e;omega
  ·rw[q]at e;cases e
 have n4:∀c,c<p.heap.size→((c<w.heap.size∧v.ownBlock≠some c)∨(w.heap.size≤c))→v4.ownBlock≠some c:=λc j R e=>by
  obtain q|q:=hat4
  ·rw[q]at e;exact n1 c R e
  ·rw[q]at e;injection e with e;omega
 have n5:∀c,c<p.heap.size→((c<w.heap.size∧v.ownBlock≠some c)∨(w.heap.size≤c))→T.ownBlock≠some c:=λc j R e=>by
  obtain q|q:=hat5
  ·rw[q]at e;exact n4 c j R e
  ·rw[q]at e;injection e with e;omega
 have mem:∀x∈os.take k++((r,n,[id]),b,1)::os.drop k,x=((r,n,[id]),b,1)∨x∈os:=λx f=>by
  obtain f|f:=Q'.1 f
  ·exact .inr (Z_ f)
  ·obtain f|f:=N'.1 f
   ·exact .inl f
   ·exact .inr (k? f)
 have l:∀x∈os,(x.2.1<w.heap.size∧v.ownBlock≠some x.2.1)∨w.heap.size≤x.2.1:=λx f=>.inl ⟨g x f,h.sep x f⟩;refine⟨?_,λx f=>?_, ?_,λx f=>?_⟩
 ·have el:(os.take k++(((r,n,[id]),b,1):Crg)::os.drop k).length=k+1+(os.length-k):=by simp;omega
  rw[el,tP,cq,←List.append_assoc];exact h5
 ·obtain rfl|f:=mem x f
  ·have:=(hnew.kept P (.inr (by rw[show(Value.slice (some ⟨b,0,none⟩) 1 1).ownBlock=some b from rfl];exact λe=>n1 b (.inr hb) e.symm))).kept hg5 (.inr (by rw[show(Value.slice (some ⟨b,0,none⟩) 1 1).ownBlock=some b from rfl];exact λe=>n4 b hbl (.inr hb) e.symm));exact this
  ·have e0:=(h.ent x f).kept hg2 (.inr (by rw[vQ];simp));have e1:=e0.kept P (.inr (by rw[vQ];exact λe=>n1 _ (l x f) e.symm));exact e1.kept hg5 (.inr (by rw[vQ];exact λe=>n4 _ (by have:=g x f;omega) (l x f) e.symm))
 ·have hp:=h.dst;rw[←List.take_append_drop k os]at hp;obtain⟨p1,p2,p3⟩:=j_.1 hp;refine j_.2 ⟨p1,b_.2 ⟨λx f e=>?_,p2⟩,λx f y hy=>?_⟩
  ·have:=g x (k? f);have e:b=x.2.1:=e;omega
  ·obtain rfl|hy:=N'.1 hy
   ·intro e;have:=g x (Z_ f);have e:x.2.1=b:=e;omega
   ·exact p3 x f y hy
 ·obtain rfl|f:=mem x f
  ·exact n5 b hbl (.inr hb)
  ·exact n5 _ (by have:=g x f;omega) (l x f)
def tf {a:Act}(w:World)(s x:Operand)(t:TypeId)
  (ho:o.op = .call { callee :=.builtin .append,args :=#[s,x],argTypes :=#[t,t] }) (g:Nat) (e:TypeId) (i:TypeInfo) (z:Value) (size bytes:Nat) (ht:P.underlying t=some (.slice e)) (hi:P.info? e=some i) (hz:i.zero=some z)
  (p:i.size=size) (U:i.bytes=bytes) (R:z.cells.size=size) (T:0<size) (v:Value) (n:Nat) (xs:List Value) (hs:a.eval s=v) (J:w.ownsRow g e size v n xs)
  (A:Option Addr) (m c:Nat) (f:List Value) (hx:a.eval x = .slice A m c) (hl:f.length=m*size) (hA:m=0∨∃ad,A=some ad∧∀j u,f[j]? = some u→w.cell? (ad.add j)=some u) (h1:∀u∈f,u.oneCell'=true)
  (h63:n+m≤maxLen) (l:(n+m)*bytes≤140737488355328) (r:g≤w.heap.size)
  (h:∀C w',w'.ownsRow g e size C (n+m) (xs++f)→w.grownBy w' v.ownBlock→(C.ownBlock=v.ownBlock∨C.ownBlock=some w.heap.size)→w.drawn≤w'.drawn→K (a.put o.dst C) w'):o.wp P a w K Q:=by
 obtain⟨C,w',hr,h2,h3,h4,_,h5⟩:=eE (P:=P) (B:={ b:=g }) w t o.type e i z size bytes ht hi hz p U R T v n xs J A m c f hl hA h1 h63 l r;unfold Oper.wp execOp;simp[ho,resolve,invoke,builtin,ν,Z',hs,hx,hr];exact h C w' h2 h3 h4 h5
def cR (w:World){aQ:List Oper}{a:Act}(U:o.guard=none)(s x:Operand)(t:TypeId)
  (ho:o.op = .call { callee :=.builtin .append,args :=#[s,x],argTypes :=#[t,t] }) (g:Nat) (e:TypeId) (i:TypeInfo) (z:Value) (size bytes:Nat) (ht:P.underlying t=some (.slice e)) (hi:P.info? e=some i) (hz:i.zero=some z)
  (p:i.size=size) (hby:i.bytes=bytes) (R:z.cells.size=size) (T:0<size) (v:Value) (n:Nat) (xs:List Value) (hs:a.eval s=v) (J:w.ownsRow g e size v n xs)
  (A:Option Addr) (m c:Nat) (f:List Value) (hx:a.eval x = .slice A m c) (hl:f.length=m*size) (hA:m=0∨∃ad,A=some ad∧∀j u,f[j]? = some u→w.cell? (ad.add j)=some u) (h1:∀u∈f,u.oneCell'=true)
  (h63:n+m≤maxLen) (l:(n+m)*bytes≤140737488355328) (r:g≤w.heap.size)
  (h:∀C w',w'.ownsRow g e size C (n+m) (xs++f)→w.grownBy w' v.ownBlock→(C.ownBlock=v.ownBlock∨C.ownBlock=some w.heap.size)→w.drawn≤w'.drawn→wpList P ops Q aQ (a.put o.dst C) w'):wpList P ops Q (o::aQ) a w :=
 wpList_plain U λ_ hK=>tf w s x t ho g e i z size bytes ht hi hz p hby R T v n xs hs J A m c f hx hl hA h1 h63 l r λC w' h2 h3 h4 h5=>hK _ _ (h C w' h2 h3 h4 h5)
def bF (w:World){a:Act}{E:Prop}(U:o.guard=none)(s x:Operand)(t:TypeId)
  (ho:o.op = .call { callee :=.builtin .append,args :=#[s,x],argTypes :=#[t,t] }) (g:Nat) (e:TypeId) (i:TypeInfo) (z:Value) (size bytes:Nat) (ht:P.underlying t=some (.slice e)) (hi:P.info? e=some i) (hz:i.zero=some z)
  (p:i.size=size) (hby:i.bytes=bytes) (R:z.cells.size=size) (T:0<size) (v:Value) (n:Nat) (xs:List Value) (hs:a.eval s=v) (C:w.ownsRow g e size v n xs)
  (A:Option Addr) (m c:Nat) (f:List Value) (hx:a.eval x = .slice A m c) (hl:f.length=m*size) (hA:m=0∨∃ad,A=some ad∧∀j u,f[j]? = some u→w.cell? (ad.add j)=some u) (h1:∀u∈f,u.oneCell'=true)
  (h63:n+m≤maxLen) (l:(n+m)*bytes≤140737488355328) (r:g≤w.heap.size)
  (h:∀J w',w'.ownsRow g e size J (n+m) (xs++f)→w.grownBy w' v.ownBlock→(J.ownBlock=v.ownBlock∨J.ownBlock=some w.heap.size)→w.drawn≤w'.drawn→K (a.put o.dst J) w'):if Region.wanted o (yielded ops a.tmps)=true then Oper.wp P o a w K Q else E:=by
 have hw:Region.wanted o (yielded ops a.tmps)=true:=by simp[Region.wanted,U]
 rw[β hw];exact tf w s x t ho g e i z size bytes ht hi hz p hby R T v n xs hs C A m c f hx hl hA h1 h63 l r h
def gQ (w:World):w.grownBy w.drew none:=⟨rfl,rfl,rfl,δ _,λ_ _ _=>rfl⟩
def VC (w:World):w.grownBy w none:=⟨rfl,rfl,rfl,δ _,λ_ _ _=>rfl⟩
def cV (h:a.grownBy b none)(k:b.grownBy c none):a.grownBy c none:=h.trans k
def sE (h:a.grownBy b none)(k:b.grownBy c row)(j:row=some n)(l:a.heap.size≤n):a.grownBy c none :=
 ⟨k.os.trans h.os,k.tape.trans h.tape,k.output.trans h.output,υ h.size k.size,λi g f=>(k.block i (J' g h.size) (by rw[j];intro e;injection e with e;omega)).trans (h.block i g f)⟩
def aaO (h:a.grownBy b none)(k:b.grownBy c row)(f:∀n,row=some n→a.heap.size≤n):a.grownBy c none:=by
 cases row with
 |none=>exact h.trans k
 |some n=>exact sE h k rfl (f n rfl)
def adk {w w1:World}{B:Nat}{v:Value}(h:w.ownsRow B e size v n xs)(G:w.grownBy w1 none):w1.ownsRow B e size v n xs :=
 h.kept G (by cases v.ownBlock with|none=>exact .inl rfl|some b=>exact .inr Ψ)
def qc (G:a.grownBy b none)(g:b.grownBy c row)(f:n<a.heap.size)(j:some n≠row):c.heap[n]? = a.heap[n]?:=(g.block n (J' f G.size) j).trans (G.block n f Ψ)
def adU {B:Nat}{v:Value}(h:a.ownsRow B e size v n xs)(G:a.grownBy b none)(g:b.grownBy c row)(f:v.ownBlock≠row):c.ownsRow B e size v n xs :=
 (h.kept G (by cases v.ownBlock with|none=>exact .inl rfl|some b=>exact .inr Ψ)).kept g (.inr f)
def CX (w:World)(f:Array Value)(e:TypeId):∀j u,f.toList[j]? = some u→(w.alloc (.cells f e)).cell? ((⟨w.heap.size,0,none⟩:Addr).add j)=some u:=λj u h=>by have g:(w.alloc (.cells f e)).heap[w.heap.size]? = some (.cells f e (0,0)):=B_ _ _;rw[cH];simp only[World.cell?,g];simpa using h
def nD (x:Crg):∀u∈dj x,u.oneCell'=true:=λu h=>mG [x] u (by simpa[cq]using h)
def aN (w:World)(o1 o2:Obj):w.grownBy ((w.alloc o1).alloc o2).drew none:=cV (O' _ _ none) (cV (O' _ _ none) (gQ _))
def size_alloc (w:World)(o:Obj):(w.alloc o).heap.size=w.heap.size+1:=by show(w.heap.push o).size=_;simp
def vG (w:World)(o1:Obj)(f:Array Value)(e:TypeId):∀j u,f.toList[j]? = some u→((w.alloc o1).alloc (.cells f e)).drew.cell? ((⟨w.heap.size+1,0,none⟩:Addr).add j)=some u:=λj u h=>by have:=CX (w.alloc o1) f e j u h;rw[size_alloc]at this;exact this
def lP (w:World)(o:Obj):w.grownBy (w.alloc o).drew none:=cV (O' _ _ none) (gQ _)
def ZN (w:World)(f:Array Value)(e:TypeId):∀j u,f.toList[j]? = some u→(w.alloc (.cells f e)).drew.cell? ((⟨w.heap.size,0,none⟩:Addr).add j)=some u:=CX w f e
def aaN (w:World)(a:Addr)(u:Value):w.grownBy (w.setCell a u) (some a.block):=⟨rfl,rfl,rfl,Ψ,λk _ h=>heap_setCell_other w a k u (λe=>h (by rw[e]))⟩
def aoz:(prog.info? 3).map (λi=>(i.zero,i.size,i.bytes))=some (some (.int .i64 0),1,8):=Φ
def amg:∃i,prog.info? 3=some i∧i.zero=some (.int .i64 0)∧i.size=1∧i.bytes=8:=by obtain⟨i,g,h⟩:=C?.1 aoz;injection h with l f;injection f with f j;exact⟨i,g,l,f,j⟩
def XA {v:Value}{o:Option Nat}{b:Nat}(h:v.ownBlock=o∨v.ownBlock=some n)(f:some b≠o)(g:b<n):some b≠v.ownBlock:=by
 obtain h|h:=h
 ·rw[h];exact f
 ·rw[h];intro e;injection e with e;omega
def Et (w:World)(g:Array Value)(e:TypeId){f:Nat}(j:g.size=n*size)(p:f≤w.heap.size)(l:n≤maxLen):(w.alloc (.cells g e)).ownsRow f e size (.slice (some ⟨w.heap.size,0,none⟩) n n) n g.toList :=
 ⟨by simpa using j,.inr ⟨w.heap.size,n,g,rfl,p,B_ _ _,δ _,l,j,E? (by simp[j])⟩⟩
def ael (l:List Cel):(iP l).length≤l.length:=by
 have one:∀(r n id:Int) (o:List Crd),(lg r n id o).length≤o.length+1:=λr n id o=>by
  induction o with
  |nil=>simp[lg]
  |cons x o g=>
   unfold lg;split <;> simp
   ·exact g
   split <;> simp
 have all:∀(l:List Cel) (f:List Crd),(l.foldl kL f).length≤f.length+l.length:=λl=>by
  induction l with
  |nil=>intro f;simp
  |cons c l g=>
   intro f;have p:=g (kL f c);have j:(kL f c).length≤f.length+1:=by
    unfold kL;cases cF c with
    |false=>simp
    |true=>exact one _ _ _ _
   simp;omega
 simpa[iP]using all l []
def aob {o:Obj}(f:n<a.heap.size):(a.alloc o).drew.heap[n]? = a.heap[n]?:=(O' a o none).block n f Ψ
def aen {l:List Cel}{x:Crd}(f:x∈iP l):x.2.2.length≤l.length:=by
 have one:∀(r n id:Int) (N:Nat) (o:List Crd),(∀x∈o,x.2.2.length≤N)→∀x∈lg r n id o,x.2.2.length≤N+1:=λr n id N o=>by
  induction o with
  |nil=>intro _ x f;rw[lg]at f;rw[F'.1 f];simp
  |cons y o j=>
   intro h x f;have J:=h y c_;have p:∀x∈o,x.2.2.length≤N:=λx f=>h x (C' _ f);unfold lg at f;split at f
   ·obtain rfl|f:=N'.1 f
    ·omega
    ·exact j p x f
   ·split at f
    ·obtain rfl|f:=N'.1 f
     ·simp;omega
     ·have:=p x f;omega
    ·obtain rfl|f:=N'.1 f
     ·simp
     ·have:=h x f;omega
 have all:∀(l:List Cel) (g:List Crd) (N:Nat),(∀x∈g,x.2.2.length≤N)→∀x∈l.foldl kL g,x.2.2.length≤N+l.length:=λl=>by
  induction l with
  |nil=>intro g N h x f;exact h x f
  |cons c l j=>
   intro g N h x f;have C:∀x∈kL g c,x.2.2.length≤N+1:=by
    unfold kL;cases cF c with
    |false=>intro x f;have:=h x f;omega
    |true=>exact one _ _ _ N _ h
   have:=j _ _ C x f;simp;omega
 simpa using all l [] 0 (λ_ h=>(by cases h)) x f
def adl {w:World}{B:Nat}{v:Value}(h:w.ownsRow B e size v (n+1) xs):∃g c,v = .slice (some ⟨g,0,none⟩) (n+1) c:=by
 rcases h.2 with⟨_,h⟩|⟨g,c,_,e,_⟩
 ·cases h
 ·exact⟨g,c,e⟩
def JA (w:World)(a:Addr):Value:=(w.cell? a).getD (.bool false)
def Oz {w:World}{a:Addr}(h:w.cell? a=some u):JA w a=u:=by rw[JA,h];rfl
def wZ {w:World}{a:Addr}(h:w.cell? a=some u):w.cell? a=some (JA w a):=by rw[Oz h];exact h
def Skp (f g o:Nat)(i:Value)(w:World):Prop:=w.cell? ⟨f,0,none⟩=some i∧w.cell? ⟨g,o,none⟩=some (JA w ⟨g,o,none⟩)∧w.frozen? ⟨g,o,none⟩=false
def Skp.same {f o:Nat}{w:World}(h:Skp f g o i w)(l:w'.heap[f]? = w.heap[f]?)(j:w'.heap[g]? = w.heap[g]?):Skp f g o i w' :=
 ⟨(X' l).trans h.1,wZ ((X' j).trans h.2.1),(World.frozen?_of_block j).trans h.2.2⟩
def Skp.store {f o:Nat}{w:World}(h:Skp f g o i w)(j:f≠g)(u:Value):Skp f g o i (w.setCell ⟨g,o,none⟩ u) :=
 ⟨(World.cell?_setCell_far w ⟨g,o,none⟩ ⟨f,0,none⟩ u (λe=>j e.symm)).trans h.1,wZ (World.cell?_setCell_same _ _ _ h.2.1),by rw[World.frozen?_setCell];exact h.2.2⟩
def Ah {w:World}{B j:Nat}{v:Value}(h:w.ownsRow B e size v n xs)(p:j≤B):w.ownsRow j e size v n xs :=
 ⟨h.1,h.2.imp id λ⟨g,c,f,e,l,r⟩=>⟨g,c,f,e,υ p l,r⟩⟩
def CT (os:List Crg):List Crg:=os.filter λx=>decide (1<x.1.2.2.length)
def agb {os:List Crg}(h:k<os.length):CT (os.take (k+1))=CT (os.take k)++if 1<os[k].1.2.2.length then[os[k]]else[]:=by
 rw[CT,d? h,as4,CT];congr 1;by_cases f:1<os[k].1.2.2.length
 ·simp[f]
 ·simp[f]
def akX (os:List Crg):(CT os).length≤os.length:=q? _ _
def aiK:∃i z,prog.info? 66=some i∧i.zero=some z∧i.size=5∧i.bytes=72∧z.cells.size=5:=by
 have h:((prog.info? 66).bind λi=>i.zero.bind λz=>if i.size=5∧i.bytes=72∧z.cells.size=5 then some ()else none)=some ():=Φ
 obtain⟨i,g,h⟩:=l?.1 h;obtain⟨z,f,h⟩:=l?.1 h;split at h
 next q=>exact⟨i,z,g,f,q.1,q.2.1,q.2.2⟩
 ·cases h
