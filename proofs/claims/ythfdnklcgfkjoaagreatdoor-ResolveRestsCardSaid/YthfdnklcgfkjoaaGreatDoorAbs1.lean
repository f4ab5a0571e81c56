/- Texts that are read twice. -/
import Derived.Test.YthfdnklcgfkjoaaGreatDoorAbsX
set_option linter.all false
namespace Go.Proofs.YthfdnklcgfkjoaaGreatDoor.Abs
open Go Go.RowKit
section
variable {P:Program}{B:Bd}{w0:World}{St0:Sb}{c:Gh}
def Inv.turned (J:Inv B w0 St0 c){k:Nat}{cells p:List AV}(hk:c.heap[k]? = some (.box cells)){w':World}{arr':Array Value}{t':TypeId}(hbel:Below B.b c.w w')(hdr:c.w.drawn≤w'.drawn)
  (hoth:∀(b:Nat) (o:Obj),c.w.heap[b]? = some o→o.isCells=false→w'.heap[b]? = some o) (same:∀b,b<c.w.heap.size→b≠c.blk k→w'.heap[b]? = c.w.heap[b]?)
  (hnew:w'.heap[c.blk k]? = some (.cells arr' t' (0,0))) {S:Sb} (hS1:c.St.le S) (hS2:∀b o,S b o→c.St b o∨(c.w.heap.size≤b∧b<w'.heap.size)) (hj:∀b e cap n,S.j b e cap n→c.St.j b e cap n∨NJ c.w.heap.size w' S b e cap n)
  (hcells:RAs { c with w:=w',heap:=c.heap.set k (.box p),St:=S } p arr'.toList) :
  Inv B w0 St0 { c with w:=w',heap:=c.heap.set k (.box p),St:=S }∧Ev c { c with w:=w',heap:=c.heap.set k (.box p),St:=S }:=by
 obtain⟨arr,t,b1,b2,b3,b4⟩:=J.box k cells hk;have hlt:=aq hk;have hok:obk c k=some (c.blk k):=by unfold obk;rw[hk]
 have hbl:=(θ.1 b1).1;have R:∀i,i≠k→(c.heap.set k (.box p))[i]? = c.heap[i]?:=λi C=>by rw[get_set,ο (λe=>C e.symm)]
 have new:(c.heap.set k (.box p))[k]? = some (.box p):=by rw[get_set,β rfl,β hlt]
 have ev:Ev c { c with w:=w',heap:=c.heap.set k (.box p),St:=S }:=by
  refine⟨hS1,λa v hst _ hc=>?_,λi cs x=>?_,λi t e v x=>?_,λi t e v l x=>?_,λi x=>?_,λ_ _=>rfl⟩
  ·exact(X' (same a.block (J.bnd _ _ hst) (λe=>b3 a.off (e ▸ hst)))).trans hc
  ·by_cases C:i=k
   ·subst C;exact⟨p,new,rfl⟩
   ·exact⟨cs,(R i C).trans x,rfl⟩
  ·have C:i≠k:=λe=>by subst e;rw[hk]at x;cases x
   exact⟨t,e,v,(R i C).trans x,δ _,λ_=>rfl⟩
  ·have C:i≠k:=λe=>by subst e;rw[hk]at x;cases x
   exact .inl ⟨v,l,(R i C).trans x,δ _,λ_=>rfl⟩
  ·have C:i≠k:=λe=>by subst e;rw[hk]at x;cases x
   exact(R i C).trans x
 have hob:∀i,obk { c with w:=w',heap:=c.heap.set k (.box p),St:=S } i=obk c i:=λi=>by
  by_cases C:i=k
  ·subst C;unfold obk;simp[new,hk]
  ·exact fY (R i C) rfl rfl
 have oX:∀i b,i≠k→obk c i=some b→w'.heap[b]? = c.w.heap[b]?:=λi b C U=>
  same b (gi J U).1 (λe=>J.sep i k b C U (by rw[e];exact hok))
 have P:∀b o,b<c.w.heap.size→S b o→c.St b o:=λb o U x=>by
  obtain x|x:=hS2 b o x
  ·exact x
  ·omega
 refine⟨⟨J.below.trans hbel,υ J.size hbel.size, ?_,J.st0.trans hS1, ?_, ?_, ?_, ?_, ?_,J.drawn.trans ⟨hdr,hoth,λb f=>same b (J.fl b f) (λe=>J.fo k b (by rw[e];exact hok) f)⟩,λi b U=>J.fo i b (by rw[hob i]at U;exact U),λb f=>J' (J.fl b f) hbel.size,J.j0,λb e cap n x=>?_⟩,ev⟩
 rotate_right 1
 ·obtain x|x:=hj b e cap n x
  ·exact(J.junk b e cap n x).imp id λq=>q.keep (same b q.lt λe=>q.own k (by rw[e];exact hok)) (λo y=>P b o q.lt y) λi y=>by rw[hob i]at y;exact y
  ·exact .inr ⟨υ J.size x.lo,λf=>by have:=J.fl b f;have:=x.lo;omega,x.le,x.cells,x.free,λi y=>by
    rw[hob i]at y;have:=(gi J y).1;have:=x.lo;omega⟩
 ·intro b o x;obtain x|x:=hS2 b o x
  ·exact J' (J.bnd b o x) hbel.size
  ·exact x.2
 ·intro b o x;obtain x|x:=hS2 b o x
  ·exact J.stN b o x
  ·exact .inr ⟨υ J.size x.1,λf=>by have:=J.fl b f;omega⟩
 ·intro i cs C;by_cases ei:i=k
  ·subst ei;have:=new.symm.trans C;cases this;exact⟨arr',t',hnew,b2,λo x=>b3 o (P _ o hbl x),hcells⟩
  ·have C:=(R i ei).symm.trans C;obtain⟨a1,t1,q1,q2,q3,q4⟩:=J.box i cs C;have T:obk c i=some (c.blk i):=by unfold obk;rw[C]
   exact⟨a1,t1,(oX i _ ei T).trans q1,q2,λo x=>q3 o (P _ o (θ.1 q1).1 x),q4.mono ev⟩
 ·intro i t1 e1 v1 C;have ei:i≠k:=λe=>by subst e;have:=new.symm.trans C;injection this with this;cases this
  have C:=(R i ei).symm.trans C;obtain⟨n1,xs1,q1,q2⟩:=J.row i t1 e1 v1 C;have T:obk c i=(c.rv i).ownBlock:=by unfold obk;rw[C]
  refine⟨n1,xs1,⟨q1.1, ?_⟩,λb U o hle x=>q2 b U o hle (P b o (gi J (T.trans U)).1 x)⟩;obtain x|⟨g,cap,cur,r1,r2,r3,r⟩:=q1.2
  ·exact .inl x
  ·exact .inr ⟨g,cap,cur,r1,r2,(oX i g ei (by rw[T,r1];rfl)).trans r3,r⟩
 ·intro i j b hij U hb';rw[hob]at U hb';exact J.sep i j b hij U hb'
 ·intro i t1 e1 v1 l1 C;have ei:i≠k:=λe=>by subst e;have:=new.symm.trans C;injection this with this;cases this
  have C:=(R i ei).symm.trans C;obtain⟨xs1,q1,qr,q2⟩:=J.mrow i t1 e1 v1 l1 C;have T:obk c i=(c.rv i).ownBlock:=by unfold obk;rw[C]
  refine⟨xs1,⟨q1.1, ?_⟩,qr.mono ev.st ev.cell,λb U o x=>q2 b U o (P b o (gi J (T.trans U)).1 x)⟩;obtain x|⟨g,cap,cur,r1,r2,r3,r⟩:=q1.2
  ·exact .inl x
  ·exact .inr ⟨g,cap,cur,r1,r2,(oX i g ei (by rw[T,r1];rfl)).trans r3,r⟩
end
open Go Go.RowKit
def FU:Nat:=1099511627776
section
variable {C p:Type}
def fN (m:Nat)(k:Nat→p):p:=match m with
 |0=>k 0
 |n+1=>k (n+1)
def fI (n:Int)(k:Int→p):p:=match n with
 |.ofNat m=>fN m λm=>k (.ofNat m)
 |.negSucc m=>fN m λm=>k (.negSucc m)
def fU (x:UInt8)(k:UInt8→p):p:=fN x.toNat λn=>k (UInt8.ofNat n)
def fL (f:C→(C→p)→p):List C→(List C→p)→p
 |[],k=>k []
 |x::l,k=>f x λy=>fL f l λg=>k (y::g)
def X2 (m:Nat)(k:Nat→p):fN m k=k m:=by cases m <;> rfl
def alv (n:Int)(k:Int→p):fI n k=k n:=by cases n <;> simp[fI,X2]
def aeD (x:UInt8)(k:UInt8→p):fU x k=k x:=by simp[fU,X2]
def H9 {f:C→(C→p)→p}(g:∀x k,f x k=k x):∀(l:List C) (k:List C→p),fL f l k=k l
 |[],k=>rfl
 |x::l,k=>by rw[fL,g,H9 g l]
def nf:(t:Ty)→t.den→(t.den→p)→p
 |.int _,n,k=>fI n k
 |.bool,b,k=>match b with
  |true=>k true
  |false=>k false
 |.str,s,k=>fL fU s k
 |.slice t,l,k=>fL (nf t) l k
 |.jsl _,n,k=>fN n k
 |.unit,_,k=>k ()
 |.cons a b,x,k=>nf a x.1 λy=>nf b x.2 λz=>k (y,z)
 |.tree,x,k=>match x with
  |.mk j t f g=>fI j λj=>fL fU t λt=>fL (fL fU) f λf=>fL (λx k=>k x) g λg=>k (.mk j t f g)
def KQ:∀(t:Ty) (x:t.den) (k:t.den→p),nf t x k=k x
 |.int _,n,k=>alv n k
 |.bool,b,k=>by cases b <;> rfl
 |.str,s,k=>H9 aeD s k
 |.slice t,l,k=>H9 (KQ t) l k
 |.jsl _,n,k=>X2 n k
 |.unit,_,_=>rfl
 |.cons a b,x,k=>by rw[nf,KQ a,KQ b]
 |.tree,.mk j t f g,k=>by simp[nf];rw[alv,H9 aeD,H9 (H9 aeD),H9 (λ_ _=>rfl)]
def kC (g:Bool)(v:C)(k:C→Option p):Option p:=cond g (k v) none
def yx (x:Option C)(k:C→Option p):Option p:=match x with
 |some a=>k a
 |none=>none
def afE (x:Option C)(d:C)(k:C→Option p):kC x.isSome (x.getD d) k=yx x k:=by cases x <;> rfl
variable{γ:Type}
def akY (f:p→γ)(c:Bool)(x y:Option p):Option.map f (cond c x y)=cond c (Option.map f x) (Option.map f y):=by cases c <;> rfl
def adD (f:p→γ)(x:Option C)(k:C→Option p):Option.map f (yx x k)=yx x (λr=>Option.map f (k r)):=by cases x <;> rfl
def abm (f:p→γ)(g:Bool)(v:C)(k:C→Option p):Option.map f (kC g v k)=kC g v (λr=>Option.map f (k r)):=by cases g <;> rfl
def Sj {f:p→γ}{x:Option p}{d:p}(h:x.isSome=true):Option.map f x=some (f (x.getD d)):=by
 cases x with
 |none=>cases h
 |some r=>rfl
end
open Go Go.RowKit
def acU (f:Tab)(p:List ResultVar)(g:Ty)(e:TypeId):KT:=λr j=>
 match r with
 |.exit _=>none
 |_=>match eT f j p with
  |some [.own k v t l]=>match (j.heap[k]? : Option HO)with
   |some (.row t' e' v')=>if t'=t then if e'=e then if v'=v then match cast? (.slice t) (.slice g) l with
     |some l=>some (.val (.slice g) l)
     |none=>none
    else none else none else none
   |_=>none
  |_=>none
def acP (l:FuncId→Option Fi)(j:Hs)(d:Nat)(x:Fi)(g:Ty)(e:TypeId)(f:Nat)(args:List AV):Option AV :=
 match args.all AV.nojk with
 |true=>exec (aL l j f d) x.S 0 f x.code ⟨args++List.replicate (x.ntmps-args.length) .unk,[]⟩ (acU x.S.tab x.results g e)
 |false=>none
section
variable {P:Program}{B:Bd}{w0:World}{St0:Sb}{c:Gh}
def Ti {c:Gh}:∀{g:List ((t:Ty)×t.den)} {f:List Value},RepVs c.w c.St g f→RAs c (g.map λd=>.val d.1 d.2) f
 |[],[],_=>trivial
 |_::_,v::_,⟨h,j⟩=>⟨⟨v,rfl,h⟩,Ti j⟩
variable{τ:Ty}{e:TypeId}
def Inv.turnedRow (J:Inv B w0 St0 c){k v:Nat}(hk:c.heap[k]? = some (.row τ e v)){w':World}{St':Sb}{s':Value}{n':Nat}{xs':List Value}(hbel:Below B.b c.w w')(hdr:c.w.drawn≤w'.drawn)
  (hoth:∀(b:Nat) (o:Obj),c.w.heap[b]? = some o→o.isCells=false→w'.heap[b]? = some o) (same:∀b,b<c.w.heap.size→(c.rv k).ownBlock≠some b→w'.heap[b]? = c.w.heap[b]?)
  (hst:c.St.le St') (hcell:∀(a:Addr) u,c.St a.block a.off→a.spot=none→c.w.cell? a=some u→w'.cell? a=some u) (hbnd:∀b o,St' b o→b<w'.heap.size)
  (hnew:∀b o,St' b o→c.St b o∨(B.b≤b∧¬(b<c.w.heap.size∧(c.rv k).ownBlock≠some b)))
  (hown:w'.ownsRow B e τ.size s' n' xs') (hfree:∀b,s'.ownBlock=some b→∀o,n'*τ.size≤o→¬St' b o) (hob:∀b,s'.ownBlock=some b→¬(b<c.w.heap.size∧(c.rv k).ownBlock≠some b))
  (hj:∀b e cap n,St'.j b e cap n→c.St.j b e cap n∨(B.b≤b∧¬(b<c.w.heap.size∧(c.rv k).ownBlock≠some b)∧NJ 0 w' St' b e cap n∧s'.ownBlock≠some b)) :
  Inv B w0 St0 { c with w:=w',heap:=c.heap.set k (.row τ e (v+1)),rv:=λi=>if i=k then s' else c.rv i,St:=St' }∧Ev c { c with w:=w',heap:=c.heap.set k (.row τ e (v+1)),rv:=λi=>if i=k then s' else c.rv i,St:=St' }:=by
 have hlt:=aq hk;have hok:obk c k=(c.rv k).ownBlock:=by unfold obk;rw[hk]
 have R:∀i,i≠k→(c.heap.set k (.row τ e (v+1)))[i]? = c.heap[i]?:=λi l=>by rw[get_set,ο (λe=>l e.symm)]
 have new:(c.heap.set k (.row τ e (v+1)))[k]? = some (.row τ e (v+1)):=by rw[get_set,β rfl,β hlt]
 have ev:Ev c { c with w:=w',heap:=c.heap.set k (.row τ e (v+1)),rv:=λi=>if i=k then s' else c.rv i,St:=St' }:=by
  refine⟨hst,hcell,λi cs x=>?_,λi t1 e1 v1 x=>?_,λi t1 e1 v1 l1 x=>?_,λi x=>?_,λ_ _=>rfl⟩
  ·have l:i≠k:=λe=>by subst e;rw[hk]at x;cases x
   exact⟨cs,(R i l).trans x,rfl⟩
  ·by_cases l:i=k
   ·subst l;rw[hk]at x;injection x with x;injection x with x1 x2 x3;exact⟨τ,e,v+1,new,Ω,λh=>Ω⟩
   ·exact⟨t1,e1,v1,(R i l).trans x,δ _,λ_=>by simp[ο l]⟩
  ·have l:i≠k:=λe=>by subst e;rw[hk]at x;cases x
   exact .inl ⟨v1,l1,(R i l).trans x,δ _,λ_=>by simp[ο l]⟩
  ·have l:i≠k:=λe=>by subst e;rw[hk]at x;cases x
   exact(R i l).trans x
 have U:obk { c with w:=w',heap:=c.heap.set k (.row τ e (v+1)),rv:=λi=>if i=k then s' else c.rv i,St:=St' } k=s'.ownBlock:=by unfold obk;simp[new]
 have P:∀i,i≠k→obk { c with w:=w',heap:=c.heap.set k (.row τ e (v+1)),rv:=λi=>if i=k then s' else c.rv i,St:=St' } i=obk c i:=λi l=>fY (R i l) rfl (by simp[ο l]);have other:∀i b,i≠k→obk c i=some b→b<c.w.heap.size∧(c.rv k).ownBlock≠some b:=λi b l C=>
  ⟨(gi J C).1,λx=>J.sep i k b l C (hok.trans x)⟩
 have oX:∀i b,i≠k→obk c i=some b→w'.heap[b]? = c.w.heap[b]?:=λi b l C=>same b (other i b l C).1 (other i b l C).2;have noNew:∀i b o,i≠k→obk c i=some b→St' b o→c.St b o:=λi b o l C x=>by
  obtain y|y:=hnew b o x
  ·exact y
  ·exact absurd (other i b l C) y.2
 refine⟨⟨J.below.trans hbel,υ J.size hbel.size,hbnd,J.st0.trans hst, ?_, ?_, ?_, ?_, ?_,J.drawn.trans ⟨hdr,hoth,λb f=>same b (J.fl b f) (λx=>J.fo k b (hok.trans x) f)⟩, ?_,λb f=>J' (J.fl b f) hbel.size,J.j0,λb e cap n x=>?_⟩,ev⟩
 rotate_right 1
 ·obtain x|⟨y1,y2,y3,y4⟩:=hj b e cap n x
  ·refine(J.junk b e cap n x).imp id λq=>?_;have hin:b<c.w.heap.size∧(c.rv k).ownBlock≠some b:=⟨q.lt,λy=>q.own k (hok.trans y)⟩;refine q.keep (same b hin.1 hin.2) (λo y=>?_) λi y=>?_
   ·obtain y|y:=hnew b o y
    ·exact y
    ·exact absurd hin y.2
   ·by_cases p:i=k
    ·subst p;rw[U]at y;exact absurd hin (hob b y)
    ·rw[P i p]at y;exact y
  ·refine .inr ⟨y1,λf=>y2 ⟨J.fl b f,λz=>J.fo k b (hok.trans z) f⟩,y3.le,y3.cells,y3.free,λi y=>?_⟩;by_cases p:i=k
   ·subst p;rw[U]at y;exact y4 y
   ·rw[P i p]at y;exact y2 (other i b p y)
 ·intro b o x;obtain y|⟨y1,y2⟩:=hnew b o x
  ·exact J.stN b o y
  ·exact .inr ⟨y1,λf=>y2 ⟨J.fl b f,λz=>J.fo k b (hok.trans z) f⟩⟩
 ·intro i cs l;have p:i≠k:=λe=>by subst e;have:=new.symm.trans l;injection this with this;cases this
  have l:=(R i p).symm.trans l;obtain⟨a1,t1,q1,q2,q3,q4⟩:=J.box i cs l;have T:obk c i=some (c.blk i):=by unfold obk;rw[l]
  exact⟨a1,t1,(oX i _ p T).trans q1,q2,λo x=>q3 o (noNew i _ o p T x),q4.mono ev⟩
 ·intro i t1 e1 v1 l;by_cases p:i=k
  ·subst p;have:=new.symm.trans l;injection this with this;injection this with x1 x2 x3;subst x1;subst x2;exact⟨n',xs',by simpa using hown,by simpa using hfree⟩
  ·have l:=(R i p).symm.trans l;obtain⟨n1,xs1,q1,q2⟩:=J.row i t1 e1 v1 l;have T:obk c i=(c.rv i).ownBlock:=by unfold obk;rw[l]
   simp only[ο p];refine⟨n1,xs1,⟨q1.1, ?_⟩,λb C o hle x=>q2 b C o hle (noNew i b o p (T.trans C) x)⟩;obtain x|⟨g,cap,cur,r1,r2,r3,r⟩:=q1.2
   ·exact .inl x
   ·exact .inr ⟨g,cap,cur,r1,r2,(oX i g p (by rw[T,r1];rfl)).trans r3,r⟩
 ·intro i j b hij C hb';by_cases p:i=k
  ·subst p;rw[U]at C;rw[P j (λe=>hij e.symm)]at hb';exact hob b C (other j b (λe=>hij e.symm) hb')
  ·rw[P i p]at C;by_cases ej:j=k
   ·subst ej;rw[U]at hb';exact hob b hb' (other i b p C)
   ·rw[P j ej]at hb';exact J.sep i j b hij C hb'
 ·intro i t1 e1 v1 l1 l;have p:i≠k:=λe=>by subst e;have:=new.symm.trans l;injection this with this;cases this
  have l:=(R i p).symm.trans l;obtain⟨xs1,q1,qr,q2⟩:=J.mrow i t1 e1 v1 l1 l;have T:obk c i=(c.rv i).ownBlock:=by unfold obk;rw[l]
  simp[ο p];refine⟨xs1,⟨q1.1, ?_⟩,qr.mono ev.st ev.cell,λb C o x=>q2 b C o (noNew i b o p (T.trans C) x)⟩;obtain x|⟨g,cap,cur,r1,r2,r3,r⟩:=q1.2
  ·exact .inl x
  ·exact .inr ⟨g,cap,cur,r1,r2,(oX i g p (by rw[T,r1];rfl)).trans r3,r⟩
 ·intro i b C f;by_cases p:i=k
  ·subst p;rw[U]at C;exact hob b C ⟨J.fl b f,λz=>J.fo i b (hok.trans z) f⟩
  ·rw[P i p]at C;exact J.fo i b C f
def ZX (hm:P.follows .mixedOrders=true){fi:FuncId→Option Fi}{hs:Hs}(hfi:∀f x,fi f=some x→FiOk P f x)(hhs:Ed P hs){d:Nat}{f:FuncId}{x:Fi}(hx:FiOk P f x){R:List AV→Option (Bool×List τ.den)}
  (h:∀args l',R args=some (true,l')→∃ds,I2 args ds∧∃fuel,acP fi hs d x τ e fuel (ds.map λd=>.val d.1 d.2)=some (.val (.slice τ) l')):Wp P f ⟨τ,e,R⟩:=by
 obtain⟨⟨fn,f1,f2,f3,f4,f5⟩,tk,ts⟩:=hx;intro args l' he;obtain⟨ds,hds,fuel,T⟩:=h args l' he;refine⟨⟨fn,f1,by simp[f2],f5⟩,λB w0 St0 c hI k v hk vs hrest=>?_⟩;have hok:obk c k=(c.rv k).ownBlock:=by unfold obk;rw[hk]
 unfold acP at T;split at T
 rotate_left 1
 ·cases T
 rename_i hnj;let S0:Sb:={ s:=c.St.s };have hIs:Inv ⟨B.b,λb=>b<c.w.heap.size⟩ c.w S0 (aX c.w S0):=by
  refine⟨Below.refl _ _,hI.size,hI.bnd,Sb.le.refl _,λ_ _ x=>.inl x,λi cs hi=>?_,λi t e v hi=>?_,λi j b hij hb hb'=>?_,λi t e v l hi=>?_,Og.refl _,λi b hb f=>?_,λb f=>f,λ_ _ _ _ f=>f,λ_ _ _ _ x=>.inl x⟩
  ·simp[aX]at hi
  ·simp[aX]at hi
  ·simp[obk,aX]at hb
  ·simp[aX]at hi
  ·simp[obk,aX]at hb
 have U:RAs (aX c.w S0) (ds.map λd=>.val d.1 d.2) vs:=RAs.nj (c:=aX c.w c.St) (c':=aX c.w S0) rfl rfl rfl rfl rfl (λ_ _ x=>x) hnj (Ti (c:=aX c.w c.St) (show RepVs c.w c.St ds vs from RAs.dat (c:=c) hds hrest));refine callsIn_wide.1 (callsIn_of_wp_marks (F:=RF none) (n:=0) f1 f2 trivial (wpIn_mono (jp hm tk ts (Hm hm hfi hhs d) x.code none 0 [([.fix c.St.s c.w],[undef])] 0 ⟨B.b,λb=>b<c.w.heap.size⟩ c.w S0 _ (λ_ e=>by cases e) (λ_ h=>by cases h) (.inl rfl) _ _ _ c.w (s_ _) T ⟨aX c.w S0,c.w,rfl,rfl,hIs, ?_,sY.none _ _,λfr hfr=>?_⟩) λen a w' hn=>?_))
 ·have:=lR U (x.ntmps-(ds.map λd=>AV.val d.1 d.2).length);rw[f3];have hlen:=U.length;simpa[hlen,U?]using this
 ·rw[F'.1 hfr];exact⟨⟨⟨rfl,λ_ _ x=>x,λ_ _ _ _ y=>y⟩,awN⟩,rfl⟩
 ·have fin:∀g,(match eT x.S.tab g x.results with
     |some [.own k v t l]=>(match (g.heap[k]? : Option HO)with
      |some (.row t' e' v')=>if t'=t then if e'=e then if v'=v then(match cast? (.slice t) (.slice τ) l with
        |some l=>some (AV.val (.slice τ) l)
        |none=>none)
       else none else none else none
      |_=>none)
     |_=>none)=some (.val (.slice τ) l')→Rel [([.fix c.St.s c.w],[undef])] 0 ⟨B.b,λb=>b<c.w.heap.size⟩ c.w S0 g a w'∧0≤g.heap.length →
    LeavesInM (RF none) 0 P fn a.tmps (λen w'=>∃r c',en = .returned r∧c'.heap=c.heap.set k (.row τ e (v+1))∧c'.w=w'∧Inv B w0 St0 c'∧Ev c c'∧RA c' (.own k (v+1) τ l') [r]) a.defers .returning w':=by
   rintro g C ⟨⟨c1,w1,rfl,hh1,hI1,hE1,⟨hb1,ho1,ms,hms,hnod,hmk⟩,hfs1⟩,hle⟩;rw[hms];refine dS ms c1 w1 hI1 hnod (λD hD=>⟨(hmk D hD).1,hI1.drawn.keep D _ (hmk D hD).2.2.1 rfl⟩) (λc' w2 g1 hI2 hE2 g4 g5 g6=>?_);have hh':c'.heap=g.heap:=g1.trans hh1;have hE':=hE1.mono hE2;have ho':Og (λb=>b<c.w.heap.size) c.w c'.w:=⟨by rw[g5];exact(ho1.trans hI1.drawn).dr,λk o x y=>by
    rw[g6 k (λhm=>by have:=(hmk k hm).2.1;have:=(θ.1 x).1;omega)];exact(ho1.trans hI1.drawn).keep k o x y,λk f=>by
    rw[g6 k (λhm=>(hmk k hm).2.2.2 f)];exact(ho1.trans hI1.drawn).kb k f⟩
   have p:Inv ⟨B.b,λb=>b<c.w.heap.size⟩ c.w S0 c':=hI2.base ((hb1.trans hI1.below).trans g4) ho';obtain⟨_,_,hfx2⟩:=((hfs1 _ (F'.2 rfl)).1.mono hE2).1;split at C
   ·rename_i k' v1 t1 l1 hl;split at C
    ·rename_i t2 e2 v2 hk';split at C
     ·rename_i q1;subst q1;split at C
      ·rename_i q2;subst q2;split at C
       ·rename_i q3;subst q3;split at C
        ·rename_i l2 hc;obtain⟨et,hl2⟩:=cast?_some hc;injection et with et;subst et;have hl2:l2=l1:=hl2;subst hl2;simp only[η]at C;injection C with _ C;subst C;rw[←f4]at hl;obtain⟨r,vs',p1,p2,p3⟩:=eK tk p hh' hE' hl;match vs',p2,p3 with
         |[r0],⟨⟨s2,es2,hrep2,t3,e3,v3,J,hle3,hcur3⟩,_⟩,p3=>
         cases es2;have p3:r=r0:=p3;subst p3;rw[←hh']at hk';rw[hk']at J;injection J with J;injection J with z1 z2 z3;have hr0:r=c'.rv k':=hcur3 z3.symm;obtain⟨n',xs',hown',hsp'⟩:=p.row k' _ _ _ hk';have hok':obk c' k'=(c'.rv k').ownBlock:=by unfold obk;rw[hk']
         let S1:Sb:=⟨c'.St.s,λb e cap n=>c.St.j b e cap n∨c'.St.j b e cap n⟩;obtain⟨i1,i2⟩:=hI.turnedRow hk (w':=c'.w) (St':=S1) (s':=c'.rv k') (n':=n') (xs':=xs') p.below p.drawn.dr p.drawn.keep (λb hb _=>p.drawn.kb b hb) ⟨p.st0.s,λ_ _ _ _ x=>.inl x⟩ hfx2 p.bnd (λb o x=>(p.stN b o x).imp id λy=>⟨y.1,λz=>y.2 z.1⟩) hown' hsp' (λb hb z=>p.fo k' b (hok'.trans hb) z.1) (λb e cap n x=>(show c.St.j b e cap n∨c'.St.j b e cap n from x).imp id λx=>let q:=(p.junk b e cap n x).resolve_left λf=>f;⟨q.lo,λz=>q.nf z.1,⟨s_ _,q.le,q.cells,q.free⟩,λy=>q.own k' (hok'.trans y)⟩);refine⟨r,p1,r,{ c with w:=c'.w,heap:=c.heap.set k (.row t2 e2 (v+1)),rv:=λi=>if i=k then c'.rv k' else c.rv i,St:=S1 },rfl,rfl,rfl,i1,i2,r,rfl,RepV.mono (St:=c'.St) (St':=S1) ⟨λ_ _ x=>x,λ_ _ _ _ x=>Or.inr x⟩ (λ_ _ _ _ y=>y) hrep2,t2,e2,v+1, ?_,δ _,λ_=>?_⟩
         ·show(c.heap.set k _)[k]? = _;rw[get_set,β rfl,β (aq hk)]
         ·simp;exact hr0
        ·cases C
       ·cases C
      ·cases C
     ·cases C
    ·cases C
   ·cases C
  cases en with
  |normal=>obtain⟨g,C,h2⟩:=hn;exact fin g C h2
  |ret=>obtain⟨g,C,h2⟩:=hn;exact fin g C h2
  |exit id=>obtain⟨g,C,_⟩:=hn;cases C
  |goto l=>exact hn.elim
  |panic ch=>exact hn.elim
  |outgrown=>exact hn.elim
end
open Go Go.RowKit
section
variable {C p:Type}
def cl (m:Bool)(t:Ty)(e:Option t.den)(k:t.den→Option p):Option p:=match m with
 |true=>kC e.isSome (e.getD (zero t)) k
 |false=>yx e λr=>nf t r k
def ce (m:Bool)(t:Ty)(g:Bool)(v:t.den)(k:t.den→Option p):Option p:=match m with
 |true=>kC g v k
 |false=>kC g v λr=>nf t r k
def fz (m:Bool)(t:Ty)(x:t.den)(k:t.den→p):p:=match m with
 |true=>k x
 |false=>nf t x k
def fm (m:Bool)(x:Nat)(k:Nat→p):p:=match m with
 |true=>k x
 |false=>fN x k
def ck (b:Bool)(k:Option p):Option p:=cond b k none
abbrev ii (c:Bool):Bool:=az c c
def q1 (n:Nat)(c:Bool):Bool:=match n with
 |0=>ii c
 |1=>ii c&&true
 |2=>(ii c&&true)&&true
 |_=>(ii c&&(ii c&&true))&&true
def q2 (n:Nat)(c:Bool):Bool:=match n with
 |0=>ii c
 |1=>ii c&&true
 |2=>ii c&&(ii c&&true)
 |_=>ii c&&(ii c&&(ii c&&true))
def nqT (c:Bool)(k:Option p):List Nat→Option p
 |[]=>k
 |n::r=>ck (q1 n c) (nqT c k r)
def nq (m:Bool)(l:List Nat)(c:Bool)(k:Option p):Option p:=match m with
 |true=>nqT c k l
 |false=>k
def nm (m:Bool)(n:Nat)(c z:Bool)(k:Option p):Option p:=match m with
 |true=>ck (q2 n c&&az c z) k
 |false=>ck (az c z) k
def adE (c:Bool)(k:Option p):∀l,nqT c k l=k
 |[]=>rfl
 |n::r=>by
  have:q1 n c=true:=by unfold q1;split <;> simp[aD]
  rw[nqT,this,adE c k r];rfl
def GX (m c:Bool)(k:Option p)(l:List Nat):nq m l c k=k:=by cases m;rfl;exact adE c k l
def Xu (m:Bool)(n:Nat)(c z:Bool)(k:Option p):nm m n c z k=ck (az c z) k:=by
 have:q2 n c=true:=by unfold q2;split <;> simp[aD]
 cases m
 ·rfl
 ·rw[nm,this,t_]
abbrev te (x:Tree):Tree:=Tree.mk x.kind x.text x.leads x.kids
abbrev bd (i:Int)(n:Nat):Bool:=0≤i&&i<(n:Int)
abbrev b1 (i:Int)(n:Nat):Bool:=0≤i&&i≤(n:Int)
abbrev b2 (i j:Int)(n:Nat):Bool:=0≤i&&i≤j&&j≤(n:Int)
abbrev il (l:List C):Int:=(l.length:Int)
abbrev lm (n:Nat):Bool:=decide (n≤LIM)
abbrev ni (n:Nat):Int:=(n:Int)
abbrev sl (l:List C)(i j:Int):List C:=(List.take (Int.toNat j) l).drop (Int.toNat i)
def s0 (m:Bool)(t:Ty)(e:Option t.den)(k:t.den→Option p):cl m t e k=yx e k:=by
 cases m
 ·simp[cl,KQ]
 ·simp[cl,afE]
def s1 (m:Bool)(t:Ty)(g:Bool)(v:t.den)(k:t.den→Option p):ce m t g v k=kC g v k:=by cases m <;> simp[ce,KQ]
def s2 (m:Bool)(t:Ty)(x:t.den)(k:t.den→p):fz m t x k=k x:=by cases m <;> simp[fz,KQ]
def s3 (m:Bool)(x:Nat)(k:Nat→p):fm m x k=k x:=by cases m <;> simp[fm,X2]
variable{γ J U A2 A3:Type}
def s4 (f:p→γ)(b:Bool)(k:Option p):Option.map f (ck b k)=ck b (Option.map f k):=by cases b <;> rfl
def s5 (f:p→γ)(c:Bool)(x y:Option p):Option.map f (cond c x y)=cond c (Option.map f x) (Option.map f y):=akY f c x y
def s6 (f:p→γ)(x:Option C)(k:C→Option p):Option.map f (yx x k)=yx x (λr=>Option.map f (k r)):=adD f x k
def s7 (f:p→γ)(g:Bool)(v:C)(k:C→Option p):Option.map f (kC g v k)=kC g v (λr=>Option.map f (k r)):=abm f g v k
def s8 (f:C→p)(x:C):Option.map f (some x)=some (f x):=rfl
def s9 (f:C→p):Option.map f none=none:=rfl
abbrev sm (o:C→p):C→Option p:=λr=>some (o r)
def lp {S:Type}(z:S)(f:S→S)(n:Nat):S:=Nat.rec z (λ_ s=>f s) n
def cA {S g:Type}{x:Nat→S}{e:g→S}{z:g}{f:g→g}(l:x 0=e z)(j:∀n s,x n=e s→x (n+1)=e (f s)):∀n,x n=e (lp z f n)
 |0=>l
 |n+1=>j n _ (cA l j n)
def kLp (f:Nat)(m:MS)(e:Sg→KT→Option AV)(k:KT)(n:Nat):KT:=uG f m (aI f m e k n) k
def xc (ck:Callk)(S:Par)(g u:Nat)(c:Code):Sg→KT→Option AV:=λf k=>exec ck S g u c f k
abbrev mp0 (o:C→p)(f:Option C):Option p:=Option.map o (f)
abbrev mp1 (o:C→p)(f:J→Option C):J→Option p:=λg=>Option.map o (f g)
abbrev mp2 (o:C→p)(f:J→U→Option C):J→U→Option p:=λj g=>Option.map o (f j g)
abbrev mp3 (o:C→p)(f:J→U→A2→Option C):J→U→A2→Option p:=λl j g=>Option.map o (f l j g)
abbrev mp4 (o:C→p)(f:J→U→A2→A3→Option C):J→U→A2→A3→Option p:=λr l j g=>Option.map o (f r l j g)
abbrev mp5 {g:Type}(o:C→p)(f:J→U→A2→A3→g→Option C):J→U→A2→A3→g→Option p:=λR P r l j=>Option.map o (f R P r l j)
abbrev mp6 {j g:Type}(o:C→p)(f:J→U→A2→A3→j→g→Option C):J→U→A2→A3→j→g→Option p:=λa0 T R P r l=>Option.map o (f a0 T R P r l)
abbrev mp7 {l j g:Type}(o:C→p)(f:J→U→A2→A3→l→j→g→Option C):J→U→A2→A3→l→j→g→Option p:=λa0 a1 a2 T R P r=>Option.map o (f a0 a1 a2 T R P r)
abbrev amM {A4 A5 A6 T R P j g:Type}(o:C→p)(f:J→U→A2→A3→A4→A5→A6→T→R→P→j→g→Option C):J→U→A2→A3→A4→A5→A6→T→R→P→j→g→Option p:=λa0 a1 a2 a3 a4 a5 a6 a7 a8 a9 r l=>Option.map o (f a0 a1 a2 a3 a4 a5 a6 a7 a8 a9 r l)
end
def ss:(∀{p:Type} (m:Bool) (t:Ty) (e:Option t.den) (k:t.den→Option p),cl m t e k=yx e k)∧(∀{p:Type} (m:Bool) (t:Ty) (g:Bool) (v:t.den) (k:t.den→Option p),ce m t g v k=kC g v k)∧(∀{p:Type} (m:Bool) (t:Ty) (x:t.den) (k:t.den→p),fz m t x k=k x)∧(∀{p:Type} (m:Bool) (x:Nat) (k:Nat→p),fm m x k=k x)∧(∀{p R:Type} (f:p→R) (b:Bool) (k:Option p),Option.map f (ck b k)=ck b (Option.map f k))∧(∀{p R:Type} (f:p→R) (c:Bool) (x y:Option p),Option.map f (bif c then x else y)=bif c then Option.map f x else Option.map f y)∧(∀{C p R:Type} (f:p→R) (x:Option C) (k:C→Option p),Option.map f (yx x k)=yx x (λr=>Option.map f (k r)))∧(∀{C p R:Type} (f:p→R) (g:Bool) (v:C) (k:C→Option p),Option.map f (kC g v k)=kC g v (λr=>Option.map f (k r)))∧(∀{p:Type} (m c:Bool) (k:Option p) (l:List Nat),nq m l c k=k)∧(∀{p:Type} (m:Bool) (n:Nat) (c z:Bool) (k:Option p),nm m n c z k=ck (az c z) k)∧(∀{C p:Type} (f:C→p) (x:C),Option.map f (some x)=some (f x))∧(∀{C p:Type} (f:C→p),Option.map f none=none)∧(∀{C p:Type} (o:C→p) (r:C),sm o r=some (o r))∧(∀{C p:Type} (o:C→p) (f:Option C),mp0 o f=Option.map o (f))∧(∀{C p J:Type} (o:C→p) (f:J→Option C) a0,mp1 o f a0=Option.map o (f a0))∧(∀{C p J U:Type} (o:C→p) (f:J→U→Option C) a0 a1,mp2 o f a0 a1=Option.map o (f a0 a1))∧(∀{C p J U j:Type} (o:C→p) (f:J→U→j→Option C) a0 a1 a2,mp3 o f a0 a1 a2=Option.map o (f a0 a1 a2))∧(∀{C p J U j P:Type} (o:C→p) (f:J→U→j→P→Option C) a0 a1 a2 a3,mp4 o f a0 a1 a2 a3=Option.map o (f a0 a1 a2 a3))∧(∀{C p J U j P T:Type} (o:C→p) (f:J→U→j→P→T→Option C) a0 a1 a2 a3 a4,mp5 o f a0 a1 a2 a3 a4=Option.map o (f a0 a1 a2 a3 a4))∧(∀{C p J U j P T A5:Type} (o:C→p) (f:J→U→j→P→T→A5→Option C) a0 a1 a2 a3 a4 a5,mp6 o f a0 a1 a2 a3 a4 a5=Option.map o (f a0 a1 a2 a3 a4 a5))∧(∀{C p J U j P T A5 A6:Type} (o:C→p) (f:J→U→j→P→T→A5→A6→Option C) a0 a1 a2 a3 a4 a5 a6,mp7 o f a0 a1 a2 a3 a4 a5 a6=Option.map o (f a0 a1 a2 a3 a4 a5 a6))∧(∀{C p J U j P T A5 A6 A7 A8 A9 A10 A11:Type} (o:C→p) (f:J→U→j→P→T→A5→A6→A7→A8→A9→A10→A11→Option C) a0 a1 a2 a3 a4 a5 a6 a7 a8 a9 a10 a11,amM o f a0 a1 a2 a3 a4 a5 a6 a7 a8 a9 a10 a11=Option.map o (f a0 a1 a2 a3 a4 a5 a6 a7 a8 a9 a10 a11)) :=
 ⟨s0,s1,s2,s3,s4,s5,s6,s7,GX,Xu,s8,s9,λ_ _=>rfl,λ_ _=>rfl,λ_ _ _=>rfl,λ_ _ _ _=>rfl,λ_ _ _ _ _=>rfl,λ_ _ _ _ _ _=>rfl,λ_ _ _ _ _ _ _=>rfl,λ_ _ _ _ _ _ _ _=>rfl,λ_ _ _ _ _ _ _ _ _=>rfl,λ_ _ _ _ _ _ _ _ _ _ _ _ _ _=>rfl⟩
def aa1:(t:Ty)→List AV→Option t.den
 |.unit,[]=>some ()
 |.cons a b,x::l=>match dat? a x,aa1 b l with|some x,some y=>some (x,y)|_,_=>none
 |_,_=>none
def ag2:(t:Ty)→t.den→List ((t:Ty)×t.den)
 |.cons a b,x=>⟨a,x.1⟩::ag2 b x.2
 |_,_=>[]
abbrev YM (t:Ty)(x:t.den):List AV:=(ag2 t x).map λd=>.val d.1 d.2
def Im:∀{t:Ty} {args:List AV} {x:t.den},aa1 t args=some x→I2 args (ag2 t x)
 |.unit,[],_,_=>trivial
 |.cons a b,u::l,x,h=>by
  simp[aa1]at h;split at h
  next y z g f=>cases h;exact⟨g,Im f⟩
  ·cases h
 |.int _,_,_,h|.bool,_,_,h|.str,_,_,h|.slice _,_,_,h|.tree,_,_,h|.unit,_::_,_,h|.cons _ _,[],_,h=>by simp[aa1]at h
def fiOf (fn:Func)(S:Par):Fi:=⟨S,fn.ntmps,fn.results.toList,fn.body.getD .skip⟩
def wm (fn:Func):Bool:=fn.body.isSome && !(fn.name == "runtime.NumGoroutine")
def X1 {P:Program}{f:FuncId}{fn:Func}{S:Par}(h:P.funcs[f]? = some fn)(g:wm fn=true)(l:TabOk P S.tab)(p:SpecsOk P S.T):FiOk P f (fiOf fn S):=by
 simp only[wm,ι,arU]at g;refine⟨⟨fn,h, ?_,rfl,rfl,g.2⟩,l,p⟩;cases j:fn.body with
 |none=>rw[j]at g;simp at g
 |some c=>simp[fiOf,j]
section
variable {P:Program}{f:FuncId}{R:Type}
def evE (a:Ty)(o:R→AV)(z:R)(g:a.den→Option R):Ent:=λargs=>match aa1 a args with
 |some y=>some ((g y).isSome,o ((g y).getD z))
 |none=>none
variable{fi:FuncId→Option Fi}{hs:Hs}{d:Nat}{a:Ty}{tys:List Ty}{o:R→AV}{fn:Func}{S:Par}{e:TypeId}
def anf (C:P.follows .mixedOrders=true)(p:∀f x,fi f=some x→FiOk P f x)(l:Ed P hs){x:Fi}(r:FiOk P f x){z:R}{g:a.den→Option R}
  (h:∀y,eF fi hs d x tys FU (YM a y)=Option.map o (g y)):am P f (evE a o z g):=λargs res j=>by
 unfold evE at j;split at j
 next y hy=>simp at j;obtain⟨J,rfl⟩:=j;exact qG (Im hy) (aC C p l r ((h y).trans (Sj J)))
 ·cases j
def aoC (r:P.follows .mixedOrders=true)(p:∀f x,fi f=some x→FiOk P f x)(l:Ed P hs)(h1:P.funcs[f]? = some fn)(h3:TabOk P S.tab)(U:SpecsOk P S.T){z:R}{g:a.den→Option R}
  (T:Nat→a.den→Option AV) (J:∀y,T FU y=Option.map o (g y)) (h2:wm fn=true:=by kernel_rfl) (C:∀j y,eF fi hs d (fiOf fn S) tys j (YM a y)=T j y:=by intro _ _;kernel_rfl):am P f (evE a o z g) :=
 anf r p l (X1 h1 h2 h3 U) λy=>(C FU y).trans (J y)
def nwE (f a:Ty)(e:TypeId)(g:a.den→Option (List f.den)):Nw:=⟨f,e,λargs=>match aa1 a args with
 |some y=>some ((g y).isSome,(g y).getD [])
 |none=>none⟩
def amJ (T:P.follows .mixedOrders=true)(C:∀f x,fi f=some x→FiOk P f x)(p:Ed P hs){x:Fi}(R:FiOk P f x){j:Ty}{g:a.den→Option (List j.den)}
  (h:∀y,acP fi hs d x j e FU (YM a y)=Option.map (λr=>.val (.slice j) r) (g y)):Wp P f (nwE j a e g) :=
 ZX T C p R (d:=d) λargs l' l=>by
  split at l
  next y J=>simp at l;obtain⟨h1,U⟩:=l;exact⟨ag2 a y,Im J,FU,by rw[←U];exact(h y).trans (Sj h1)⟩
  ·cases l
def aos (J:P.follows .mixedOrders=true)(C:∀f x,fi f=some x→FiOk P f x)(p:Ed P hs)(h1:P.funcs[f]? = some fn)(h3:TabOk P S.tab)(h4:SpecsOk P S.T){l:Ty}{g:a.den→Option (List l.den)}
  (T:Nat→a.den→Option AV) (U:∀y,T FU y=Option.map (λr=>.val (.slice l) r) (g y)) (h2:wm fn=true:=by kernel_rfl) (R:∀j y,acP fi hs d (fiOf fn S) l e j (YM a y)=T j y:=by intro _ _;kernel_rfl):Wp P f (nwE l a e g) :=
 amJ J C p (X1 h1 h2 h3 h4) λy=>(R FU y).trans (U y)
end
