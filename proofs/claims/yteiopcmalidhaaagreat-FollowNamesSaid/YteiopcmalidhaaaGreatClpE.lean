/- Closed runs. -/
import Derived.Test.YteiopcmalidhaaaGreatCloV
import Derived.Maps.RangeRun
set_option linter.all false
namespace Go.Proofs.YteiopcmalidhaaaGreat
namespace Clo
open Go Go.RowKit
variable [SymVal]
inductive Dl where
 |op (dst:Option Pos) (out:TV) (wr:Option (Pos×EO))
 |call (dst:Option Pos) (out:TV) (lay:DM)
def Dl.dst:Dl→Option Pos
 |.op d _ _=>d
 |.call d _ _=>d
def Dl.out:Dl→TV
 |.op _ o _=>o
 |.call _ o _=>o
def Dl.dm:Dl→DM→DM
 |.op _ _ wr,d=>setW d wr
 |.call _ _ f,d=>eZ f d
def Dl.wrote:Dl→Pos→Option EO
 |.op _ _ wr,k=>match wr with
  |some (k',o)=>if k'=k then some o else none
  |none=>none
 |.call _ _ f,k=>PM.get none f k
structure St where
 e:Env
 d:DM
def Dl.app (x:Dl)(s:St):St:=⟨aO s.e x.dst x.out,x.dm s.d⟩
def orE (a:Option EO)(b:EO):EO:=match a with|some o=>o|none=>b
def Dl.dm_get (b:HP)(x:Dl)(d:DM)(k:Pos):(HP.ov b (x.dm d)).get k=orE (x.wrote k) ((HP.ov b d).get k):=by
 cases x with
 |op g out wr=>
  simp[Dl.dm,Dl.wrote];rw[C7];cases wr with
  |none=>rfl
  |some p=>
   obtain⟨j,o⟩:=p;simp[rR,upd];by_cases e:j=k
   ·simp[e,orE]
   ·simp[e,orE]
 |call g out f =>simp[Dl.dm,Dl.wrote];rw[HP.get_merge];simp[HP.get];cases PM.get none f k <;> rfl
def Dl.e_get (x:Dl)(e:Env)(t:Pos):(aO e x.dst x.out).get .unk t=if x.dst=some t then x.out else e.get .unk t:=by
 unfold aO;cases x.dst with
 |none=>simp
 |some d =>simp[PM.get_set,upd]
def stT (f:List Dl)(D:Nat→Bool)(s:St):Nat→St
 |0=>s
 |m+1=>match D m with
  |true=>match f[m]? with
   |some x=>x.app (stT f D s m)
   |none=>stT f D s m
  |false=>stT f D s m
def dl:Nat→Bool:=λ_=>true
def alO:OP→Bool
 |.op _ f=>f
 |_=>false
def rI:List OP→Pos→Nat→Pos
 |_,r,0=>r
 |[],r,_=>r
 |o::l,r,i+1=>rI l (cQ (alO o) r) i
def AtT (ck:Callk)(b:HP)(P:List Pos)(r:Pos)(o:OP)(j:Inf)(x:Dl)(s:St):Prop:=match o with
 |.op p C=>∃out wr,stepF s.e (HP.ov b (eF C s.d r)).get r p=some (out,wr)∧okW (HP.ov b (eF C s.d r)).get wr=true∧j = .op (e7 wr) (trF s.e (HP.ov b (eF C s.d r)).get r p) (ou C r wr) (qF s.e r p) out∧x = .op p.dst out wr
 |.call args l g=>(gd s.e g=some true∧∃t J out f n R,cL (HP.ov b s.d).get (aX s.e args)=some (t,J)∧ck.call (.ov b s.d) t J .leaf n = .ok out f R∧rC f P=true∧j = .call (.ov b s.d) f∧x = .call l out f)∨(gd s.e g=some false∧j = .op none [] true .fail .unk∧x = .op l (.tup []) none)
 |_=>False
def xE (f:List Dl)(s1:St)(m:Nat):stT f dl s1 (m+1)=match f[m]? with|some x=>x.app (stT f dl s1 m)|none=>stT f dl s1 m:=rfl
def zJ (x:Dl)(f:List Dl)(s:St):∀m,stT (x::f) dl s (m+1)=stT f dl (x.app s) m
 |0=>rfl
 |m+1=>by rw[xE,zJ x f s m,xE,S?]
def Hm {ck:Callk}{b:HP}{rs:List Pos}:∀(l:List OP) (e:Env) (d:DM) (r n:Pos) (j:List Inf) (e':Env) (d':DM) (n':Pos),mK ck b rs l e d r n = .ok j e' d' n' →
  ∃p:List Dl,p.length=l.length∧stT p dl ⟨e,d⟩ l.length=⟨e',d'⟩∧∀i,i<l.length→∃o f x,l[i]? = some o∧j[i]? = some f∧p[i]? = some x∧AtT ck b rs (rI l r i) o f x (stT p dl ⟨e,d⟩ i)
 |[],e,d,r,n,j,e',d',n',h=>by simp only[mK]at h;injection h with h1 h2 h3 h4;subst h2;subst h3;exact⟨[],rfl,rfl,λi hi=>by simp at hi⟩
 |o::l,e,d,r,n,j,e',d',n',h=>by
  have J:∀(x:Dl) (f:Inf) (r':Pos) (au:RT'),AtT ck b rs r o f x ⟨e,d⟩→r'=cQ (alO o) r→(∃n1,au=mK ck b rs l (aO e x.dst x.out) (x.dm d) r' n1)→zi f au = .ok j e' d' n' →
    ∃p:List Dl,p.length=(o::l).length∧stT p dl ⟨e,d⟩ (o::l).length=⟨e',d'⟩∧∀i,i<(o::l).length→∃o' f x,(o::l)[i]? = some o'∧j[i]? = some f∧p[i]? = some x∧AtT ck b rs (rI (o::l) r i) o' f x (stT p dl ⟨e,d⟩ i):=by
   intro x f r' au hat hr' ⟨n1,P⟩ hc;cases au with
   |no=>simp only[zi]at hc;cases hc
   |ok infs2 e2 d2 n2=>
    simp only[zi]at hc;injection hc with c1 c2 c3 c4;subst c1;subst c2;subst c3;subst c4;obtain⟨p,q1,q2,q3⟩:=Hm l _ _ _ _ _ _ _ _ P.symm;refine⟨x::p,by simp[q1], ?_,λi hi=>?_⟩
    ·rw[r_,zJ];exact q2
    ·cases i with
     |zero=>exact⟨o,f,x,rfl,rfl,rfl,hat⟩
     |succ i =>obtain⟨o',inf',x',p1,p2,p3,p4⟩:=q3 i (by simpa using hi);refine⟨o',inf',x',by simpa using p1,by simpa using p2,by simpa using p3, ?_⟩;rw[zJ];simp[rI];rw[←hr'];exact p4
  simp[mK]at h;split at h
  next fo al=>
   split at h
   ·rename_i out wr hst;cases R:okW (HP.ov b (eF al d r)).get wr with
    |false=>rw[R]at h;cases h
    |true =>rw[R,G']at h;exact J (.op fo.dst out wr) _ _ _ ⟨out,wr,hst,R,rfl,rfl⟩ rfl ⟨_,rfl⟩ h
   ·cases h
  next args dst g=>
   split at h
   ·rename_i hg;split at h
    ·rename_i t vs hen;split at h
     ·rename_i out C n1 U;cases T:rC C rs with
      |false=>rw[T]at h;cases h
      |true =>rw[T,G']at h;exact J (.call dst out C) _ _ _ (.inl ⟨hg,t,vs,out,C,n,n1,hen,U,T,rfl,rfl⟩) rfl ⟨_,rfl⟩ h
     ·cases h
    ·cases h
   next hg=>exact J (.op dst (.tup []) none) _ _ _ (.inr ⟨hg,rfl,rfl⟩) rfl ⟨_,rfl⟩ h
   ·cases h
  ·cases h
def CX (f:Bool)(n:Pos):(cQ f n).num=n.num+(if f=true then 1 else 0):=by
 cases f with
 |true=>simp[cQ,Pos.num_succ]
 |false=>simp[cQ]
def ad3:∀(l:List OP) (r:Pos) (i:Nat),r.num≤(rI l r i).num
 |l,r,0=>by cases l <;> exact ζ _
 |[],r,i+1=>ζ _
 |o::l,r,i+1=>by simp[rI];have:=ad3 l (cQ (alO o) r) i;rw[CX]at this;omega
def ad2 (l:List OP):∀(r:Pos) (i j:Nat) (o:OP),l[i]? = some o→alO o=true→i<j→(rI l r i).num<(rI l r j).num:=by
 induction l with
 |nil=>intro r i j o h;simp at h
 |cons x l g=>
  intro r i j o h f p;cases j with
  |zero=>omega
  |succ j=>
   cases i with
   |zero =>simp at h;subst h;have J:=ad3 l (cQ (alO x) r) j;have C:=CX (alO x) r;rw[β f]at C;simp[rI];omega
   |succ i =>simp[rI];exact g _ i j o (by simpa using h) f Ω
def aeG {l:List OP}{r:Pos}{i j:Nat}{o f:OP}(p:l[i]? = some o)(g:l[j]? = some f)(J:alO o=true)(C:alO f=true)(e:rI l r i=rI l r j):i=j:=by
 obtain h|h|h:=d? i j
 ·have:=ad2 l r i j o p J h;rw[e]at this;omega
 ·exact h
 ·have:=ad2 l r j i f g C h;rw[e]at this;omega
def wC {b:HP}:∀(l:List OP) (d:DM) (n:Pos) (f:List Pos) (p:DM) (C:Pos),rA b l d n=some (f,p,C) →
  (∀k,k∈f→(HP.ov b d).get k = .none∧(HP.ov b p).get k = .res)∧(∀k,k ∉ f→(HP.ov b p).get k=(HP.ov b d).get k)∧∀i o,l[i]? = some o→alO o=true→rI l n i∈f
 |[],d,n,f,p,C,h=>by cases h;exact⟨λk j=>(by cases j),λ_ _=>rfl,λi o h=>by simp at h⟩
 |o::l,d,n,f,p,C,h=>by
  have skip:alO o=false→rA b l d n=some (f,p,C)→(∀k,k∈f→(HP.ov b d).get k = .none∧(HP.ov b p).get k = .res)∧(∀k,k ∉ f→(HP.ov b p).get k=(HP.ov b d).get k)∧∀i r,(o::l)[i]? = some r→alO r=true→rI (o::l) n i∈f:=by
   intro ho hr;obtain⟨q1,q2,U⟩:=wC l d n f p C hr;refine⟨q1,q2,λi r P R=>?_⟩;cases i with
   |zero=>simp at P;subst P;rw[ho]at R;cases R
   |succ i=>simp[rI,ho];exact U i r (by simpa using P) R
  cases o with
  |call args dst g=>exact skip rfl h
  |nxt x dst=>exact skip rfl h
  |bad=>exact skip rfl h
  |op fo al=>
   cases al with
   |false=>exact skip rfl h
   |true=>
    simp[rA]at h;split at h
    ·rename_i hn;split at h
     ·rename_i l2 d2 n2 hr;cases h;obtain⟨q1,q2,U⟩:=wC _ _ _ _ _ _ hr;have T:=HP.get_set b d n .res;have J:n ∉ l2:=λhm=>by
       have:=(q1 n hm).1;rw[T,ay]at this;cases this
      refine⟨λk j=>?_,λk j=>?_,λi r P R=>?_⟩
      ·obtain rfl|j:=C'.1 j
       ·refine⟨hn, ?_⟩;rw[q2 _ J,T,ay]
       ·obtain⟨p1,p2⟩:=q1 k j;refine⟨?_,p2⟩;rw[T,aU _ _ (λe=>J (by rw[e];exact j))]at p1;exact p1
      ·simp at j;rw[q2 k j.2,T,aU _ _ (λe=>j.1 e.symm)]
      ·cases i with
       |zero=>exact S' ..
       |succ i=>exact J' _ (U i r (by simpa using P) R)
     ·cases h
    ·cases h
def kR {d:DM}:∀{l:List Pos},rC d l=true→∀k∈l,PM.get none d k=none
 |[],_,k,hk=>by cases hk
 |p::l,h,k,hk=>by
  simp[rC]at h;split at h
  ·cases h
  next hp=>
   obtain rfl|hk:=C'.1 hk
   ·exact hp
   ·exact kR h k hk
def sO {k:Pos}:∀{l:List Pos},QO k l=true↔k∈l
 |[]=>by simp[QO]
 |p::l=>by
  simp[QO];cases f:k.beq p with
  |true=>simp[Pos.beq_iff.1 f]
  |false=>
   have:¬k=p:=λe=>by rw[Pos.beq_iff.2 e]at f;cases f
   simp[sO (l:=l),this]
def Opn (l:List OP)(f:List Inf)(p q:Nat):Prop:=∃x y a c,l[p]? = some x∧l[q]? = some y∧zH x y=true∧f[p]? = some a∧f[q]? = some c∧dV a c=true
structure Dr (ck:Callk)(b:HP)(rs:List Pos)(l:List OP)(infs:List Inf)(ds:List Dl)(s1:St)(n:Pos)(bef:Nat→Nat→Prop):Prop where
 len:ds.length=l.length
 at_:∀i,i<l.length→∃o inf x,l[i]? = some o∧infs[i]? = some inf∧ds[i]? = some x∧AtT ck b rs (rI l n i) o inf x (stT ds dl s1 i)
 pair:∀p q,p<q→q<l.length→bef p q∨Opn l infs p q
 res:∀k,k∈rs→(HP.ov b s1.d).get k = .res
 al:∀i o,l[i]? = some o→alO o=true→rI l n i∈rs
section
variable {ck:Callk}{b:HP}{rs:List Pos}{l:List OP}{infs:List Inf}{ds:List Dl}{s1:St}{n:Pos}{bef:Nat→Nat→Prop}
def AtT.dst {r:Pos}{o:OP}{f:Inf}{x:Dl}{s:St}(h:AtT ck b rs r o f x s):x.dst=OJ o:=by
 cases o with
 |op J P=>obtain⟨out,wr,_,_,_,rfl⟩:=h;rfl
 |call args l g =>rcases h with⟨_,t,p,out,j,n,C,_,_,_,_,rfl⟩|⟨_,_,rfl⟩ <;> rfl
 |nxt _ _=>exact h.elim
 |bad=>exact h.elim
variable{k d:Pos}{D:Nat→Bool}{i j:Nat}
def AtT.wres {r:Pos}{o:OP}{l:Inf}{x:Dl}{s:St}(h:AtT ck b rs r o l x s)(T:k∈rs)(J:(HP.ov b s.d).get k = .res)(j:x.wrote k≠none):alO o=true∧k=r:=by
 cases o with
 |op fo al=>
  obtain⟨out,wr,_,f,_,rfl⟩:=h;simp[Dl.wrote]at j;cases wr with
  |none=>exact(j rfl).elim
  |some p=>
   obtain⟨R,o'⟩:=p;simp only at j;split at j
   ·rename_i e;subst e;simp[okW]at f;cases al with
    |false =>simp[eF]at f;rw[J]at f;cases f
    |true=>
     simp[eF]at f;rw[HP.get_set]at f;by_cases e:r=R
     ·exact⟨rfl,e.symm⟩
     ·rw[aU _ _ e,J]at f;cases f
   ·exact(j rfl).elim
 |call args U g=>
  rcases h with⟨_,t,vs,out,P,n,n',_,_,C,_,rfl⟩|⟨_,_,rfl⟩
  ·exact(j (kR C k T)).elim
  ·exact(j rfl).elim
 |nxt _ _=>exact h.elim
 |bad=>exact h.elim
def Dr.kept (h:Dr ck b rs l infs ds s1 n bef){i:Nat}{o:OP}(J:l[i]? = some o)(P:alO o=true){x:Dl}(U:ds[i]? = some x):∀m,m≤l.length →
  (∀j y,j<m→ds[j]? = some y→y.wrote (rI l n i)≠none→j=i∨(i<j∧x.wrote (rI l n i)≠none))∧((m≤i∨x.wrote (rI l n i)=none)→(HP.ov b (stT ds dl s1 m).d).get (rI l n i) = .res)
 |0,_=>⟨λj y hj=>Ω,λ_=>h.res _ (h.al i o J P)⟩
 |m+1,hm=>by
  obtain⟨q1,q2⟩:=h.kept J P U m Ω;obtain⟨om,im,R,p1,p2,C,p4⟩:=h.at_ m Ω;have p:R.wrote (rI l n i)≠none→m=i∨(i<m∧x.wrote (rI l n i)≠none):=by
   intro g;by_cases f:m≤i∨x.wrote (rI l n i)=none
   ·obtain⟨a1,a2⟩:=p4.wres (h.al i o J P) (q2 f) g;exact .inl (aeG p1 J a1 P a2.symm)
   ·simp at f;exact .inr ⟨Ω,f.2⟩
  refine⟨λj y hj T g=>?_,λf=>?_⟩
  ·obtain hlt|hge:=d_ j m
   ·exact q1 j y hlt T g
   ·have:j=m:=Ω
    subst this;rw[C]at T;cases T;exact p g
  ·have r:=q2 (f.imp (λh=>Ω) id);rw[xE,C];show(HP.ov b (R.dm _)).get _=_;rw[Dl.dm_get];cases g:R.wrote (rI l n i)with
   |none=>exact r
   |some o'=>
    exfalso;rcases p (by rw[g];exact λe=>by cases e)with e|⟨e1,e2⟩
    ·subst e;rw[U]at C;cases C;obtain f|f:=f
     ·omega
     ·rw[f]at g;cases g
    ·obtain f|f:=f
     ·omega
     ·exact e2 f
structure Nx (l:List OP)(bef:Nat→Nat→Prop)(D:Nat→Bool)(i:Nat):Prop where
 lt:i<l.length
 not:D i=false
 cl:∀q,q<l.length→D q=true→∀p,p<l.length→bef p q→D p=true
 pre:∀p,p<l.length→bef p i→D p=true
def Nx.before (f:Nx l bef D i)(h:Dr ck b rs l infs ds s1 n bef)(g:j<i)(p:D j=false):Opn l infs j i:=by
 obtain hp|hp:=h.pair j i g f.lt
 ·have:=f.pre j (ake g f.lt) hp;rw[p]at this;cases this
 ·exact hp
def Nx.after (f:Nx l bef D i)(h:Dr ck b rs l infs ds s1 n bef)(p:i<j)(g:j<l.length)(r:D j=true):Opn l infs i j:=by
 obtain hp|hp:=h.pair i j p g
 ·have:=f.cl j g r i f.lt hp;rw[f.not]at this;cases this
 ·exact hp
def CW {a b:OP}(h:zH a b=true)(g:OJ a=some d):d ∉ eA b∧OJ b≠some d:=by
 simp[zH,g]at h;refine⟨λf=>?_,λe=>?_⟩
 ·rw[sO.2 f]at h;cases h.1.1
 ·have:=h.1.2;rw[e]at this;simp only[Pos.beq_iff.2 (rfl:d=d)]at this;cases this
def Xe {a b:OP}(h:zH a b=true)(f:OJ b=some d):d ∉ eA a∧OJ a≠some d:=by
 refine⟨λg=>?_,λe=>?_⟩
 ·simp[zH,f]at h;rw[sO.2 g]at h;cases h.2
 ·exact(CW h e).2 f
def Dr.env (h:Dr ck b rs l infs ds s1 n bef){D:Nat→Bool}{i:Nat}(p:Nx l bef D i){o:OP}(P:l[i]? = some o){t:Pos}(J:t∈eA o):∀m,m≤l.length→(stT ds D s1 m).e.get .unk t=(stT ds dl s1 (min m i)).e.get .unk t
 |0,_=>by rw[Nat.zero_min];rfl
 |m+1,hm=>by
  have f:=h.env p P J m Ω;obtain⟨om,im,xm,U,p2,r,T⟩:=h.at_ m Ω;obtain hlt|heq|hgt:=d? m i
  ·rw[show min (m+1) i=m+1 by omega];rw[show min m i=m by omega]at f;rw[xE,r];simp[stT];cases R:D m with
   |true =>simp[r,Dl.app,Dl.e_get,f]
   |false =>obtain⟨x,y,a,c,j,g,C,_⟩:=p.before h hlt R;rw[U]at j;cases j;rw[P]at g;cases g;simp only[Dl.app,Dl.e_get,f];rw[B'];rw[T.dst];intro e;exact(CW C e).1 J
  ·subst heq;rw[show min (m+1) m=m by omega];rw[show min m m=m by omega]at f;simp[stT,p.not];exact f
  ·rw[show min (m+1) i=i by omega];rw[show min m i=i by omega]at f;simp[stT];cases R:D m with
   |false=>exact f
   |true=>
    obtain⟨x,y,a,c,j,g,C,_⟩:=p.after h hgt Ω R;rw[U]at g;cases g;rw[P]at j;cases j;simp[r,Dl.app,Dl.e_get];rw[B']
    ·exact f
    ·rw[T.dst];intro e;exact(Xe C e).1 J
def Dr.heap (h:Dr ck b rs l infs ds s1 n bef){D:Nat→Bool}{i:Nat}(C:Nx l bef D i){k:Pos}(P:EO→Prop)
  (T:∀j x o,j<i→D j=false→Opn l infs j i→ds[j]? = some x→x.wrote k=some o→P ((HP.ov b (stT ds dl s1 j).d).get k))
  (R:∀j x o,i<j→j<l.length→D j=true→Opn l infs i j→ds[j]? = some x→x.wrote k=some o→P o):∀m,m≤l.length→(HP.ov b (stT ds D s1 m).d).get k=(HP.ov b (stT ds dl s1 (min m i)).d).get k∨P ((HP.ov b (stT ds D s1 m).d).get k)
 |0,_=>by rw[Nat.zero_min];exact .inl rfl
 |m+1,hm=>by
  have f:=h.heap C P T R m Ω;obtain⟨om,im,g,p1,p2,p,U⟩:=h.at_ m Ω;obtain hlt|heq|hgt:=d? m i
  ·rw[show min (m+1) i=m+1 by omega];rw[show min m i=m by omega]at f;rw[xE,p];simp[stT];cases r:D m with
   |true=>
    simp[p,Dl.app,Dl.dm_get];cases J:g.wrote k with
    |some o=>exact .inl rfl
    |none=>exact f
   |false=>
    simp[Dl.app,Dl.dm_get];cases J:g.wrote k with
    |none=>exact f
    |some o=>
     refine .inr ?_;obtain f|f:=f
     ·rw[f];exact T m g o hlt r (C.before h hlt r) p J
     ·exact f
  ·subst heq;rw[show min (m+1) m=m by omega];rw[show min m m=m by omega]at f;simp[stT,C.not];exact f
  ·rw[show min (m+1) i=i by omega];rw[show min m i=i by omega]at f;simp[stT];cases r:D m with
   |false=>exact f
   |true=>
    simp[p,Dl.app,Dl.dm_get];cases J:g.wrote k with
    |none=>exact f
    |some o=>exact .inr (R m g o hgt Ω r (C.after h hgt Ω r) p J)
def Dr.apartW (h:Dr ck b rs l infs ds s1 n bef)(hl:j<l.length)(hi:i<l.length)(ho:Opn l infs i j){x y:Dl}(hx:ds[i]? = some x)(hy:ds[j]? = some y)(C:y.wrote k≠none):x.wrote k=none:=by
 obtain⟨oi,ii,xi,a1,a2,a3,a4⟩:=h.at_ i hi;obtain⟨oj,ij,xj,b1,b2,b3,P⟩:=h.at_ j hl;obtain⟨p,q,a,c,o1,o2,o3,o4,o5,f⟩:=ho;rw[a1]at o1;cases o1;rw[b1]at o2;cases o2;rw[a2]at o4;cases o4;rw[b2]at o5;cases o5;rw[a3]at hx;injection hx with hx;subst hx;rw[b3]at hy;cases hy;have wk:∀{J:Option Pos} {out:TV} {wr:Option (Pos×EO)},(Dl.op J out wr).wrote k≠none→e7 wr=some k:=by
  intro J out wr C;cases wr with
  |none=>exact(C rfl).elim
  |some p=>
   simp only[Dl.wrote]at C;split at C
   next e=>simp[e7,e]
   ·exact(C rfl).elim
 cases U:xi.wrote k with
 |none=>rfl
 |some o=>
  exfalso;have T:xi.wrote k≠none:=by rw[U];exact λe=>by cases e
  cases oi with
  |op fo al=>
   obtain⟨out,wr,_,_,rfl,rfl⟩:=a4;have ki:=wk T;cases oj with
   |op fo' al' =>obtain⟨r,R,_,_,rfl,rfl⟩:=P;have kj:=wk C;simp[dV,ki,kj,K3]at f;rw[Pos.beq_iff.2 rfl]at f;cases f.2
   |call args J g=>
    rcases P with⟨_,t,vs,r,lay,n1,n2,_,_,hno,rfl,rfl⟩|⟨_,rfl,rfl⟩
    ·rw[ki]at f;simp only[dV]at f;cases f
    ·exact C rfl
   |nxt _ _=>exact P.elim
   |bad=>exact P.elim
  |call args J g=>
   rcases a4 with⟨_,t,vs,out,lay,n1,n2,_,_,hno,rfl,rfl⟩|⟨_,rfl,rfl⟩
   ·cases oj with
    |op fo' al'=>
     obtain⟨r,R,_,_,rfl,rfl⟩:=P;have kj:=wk C;rw[kj]at f;cases hf:ou al' (rI l n j) R with
     |false=>rw[hf]at f;simp only[dV]at f;cases f
     |true=>
      cases R with
      |none=>cases kj
      |some p =>simp only[e7,θ]at kj;simp only[ou,κ]at hf;have e:=Pos.beq_iff.1 hf.2;rw[kj]at e;have hm:=h.al j _ b1 hf.1;rw[←e]at hm;exact T (kR hno k hm)
    |call args' dst' g'=>
     rcases P with⟨_,t,vs,r,lay',n1,n2,_,_,hno',rfl,rfl⟩|⟨_,rfl,rfl⟩
     ·simp only[dV]at f;cases f
     ·exact C rfl
    |nxt _ _=>exact P.elim
    |bad=>exact P.elim
   ·exact T rfl
  |nxt _ _=>exact a4.elim
  |bad=>exact a4.elim
def Dr.next (h:Dr ck b rs l infs ds s1 n bef){D R:Nat→Bool}{i:Nat}(P:Nx l bef D i)(p:∀j,j<l.length→R j=(D j||decide (j=i))){x:Dl}(g:ds[i]? = some x):∀m,m≤l.length →
  (∀t,(stT ds R s1 m).e.get .unk t=if m≤i then(stT ds D s1 m).e.get .unk t else(aO (stT ds D s1 m).e x.dst x.out).get .unk t)∧(∀k,(HP.ov b (stT ds R s1 m).d).get k=if m≤i then(HP.ov b (stT ds D s1 m).d).get k else orE (x.wrote k) ((HP.ov b (stT ds D s1 m).d).get k))
 |0,_=>⟨λt=>by rw[β (c_ _)];rfl,λk=>by rw[β (c_ _)];rfl⟩
 |m+1,hm=>by
  obtain⟨J,C⟩:=h.next P p g m Ω
  obtain⟨om,im,U,p1,p2,r,p4⟩:=h.at_ m Ω;obtain hlt|heq|hgt:=d? m i
  ·have e:R m=D m:=by rw[p m Ω];simp;omega
   refine⟨λt=>?_,λk=>?_⟩
   ·have f:=J t;rw[β Ω]at f⊢;simp[stT,e];cases T:D m with
    |true=>simp[r,Dl.app,Dl.e_get,f]
    |false=>exact f
   ·have f:=C k;rw[β Ω]at f⊢;simp[stT,e];cases T:D m with
    |true=>simp[r,Dl.app,Dl.dm_get,f]
    |false=>exact f
  ·subst heq;have e:R m=true:=by rw[p m Ω];simp
   rw[g]at r;cases r;refine⟨λt=>?_,λk=>?_⟩
   ·have f:=J t;rw[β (ζ _)]at f;rw[B' Ω];simp[stT,e,P.not,g,Dl.app,Dl.e_get,f]
   ·have f:=C k;rw[β (ζ _)]at f;rw[B' Ω];simp[stT,e,P.not,g,Dl.app,Dl.dm_get,f]
  ·have e:R m=D m:=by rw[p m Ω];simp;omega
   refine⟨λt=>?_,λk=>?_⟩
   ·have f:=J t;rw[B' Ω]at f⊢;simp[stT,e];cases T:D m with
    |false=>exact f
    |true=>
     simp[r,Dl.app,Dl.e_get,f];by_cases c1:U.dst=some t
     ·rw[β c1,B']
      ·exact(β c1).symm
      ·intro c2;obtain⟨oi,ii,xi,a1,a2,a3,a4⟩:=h.at_ i P.lt;rw[g]at a3;cases a3;obtain⟨_,_,_,_,o1,o2,o3,_⟩:=P.after h hgt Ω T;rw[a1]at o1;cases o1;rw[p1]at o2;cases o2;rw[a4.dst]at c2;rw[p4.dst]at c1;exact(CW o3 c2).2 c1
     ·rw[B' c1,B' c1]
   ·have f:=C k;rw[B' Ω]at f⊢;simp[stT,e];cases T:D m with
    |false=>exact f
    |true=>
     simp[r,Dl.app,Dl.dm_get,f];cases hw:U.wrote k with
     |none=>rfl
     |some o' =>rw[h.apartW Ω P.lt (P.after h hgt Ω T) g r (by rw[hw];exact λe=>by cases e)];rfl
end
variable [SymVal]
def fb:∀(l:List Oper) (f:List Nat) (i:Nat),i<f.length→(aJ l f).getD i 0=f.getD i 0
 |[],f,i,_=>by simp[aJ]
 |o::l,f,i,h=>by rw[aJ,fb l _ i Ξ];simp[List.getD,ο h]
def tn {g:List Nat}:∀(l:List Edge) (s q:Nat),(l.foldl (λs e=>if Region.binds .any e then s ||| 2^e.on ||| g.getD e.on 0 else s) s).testBit q=true →
  s.testBit q=true∨∃e∈l,Region.binds .any e=true∧(q=e.on∨(g.getD e.on 0).testBit q=true)
 |[],s,q,h=>.inl h
 |e::l,s,q,h=>by
  simp at h;obtain f|⟨C,p,j,r⟩:=tn l _ q h
  ·split at f
   ·rename_i j;simp at f;rcases f with(f|f)|f
    ·exact .inl f
    ·refine .inr ⟨e,Ψ,j,.inl ?_⟩;rw[Nat.testBit_two_pow]at f;exact(p_ f).symm
    ·exact .inr ⟨e,Ψ,j,.inr f⟩
   ·exact .inl f
  ·exact .inr ⟨C,by simp[p],j,r⟩
def iv:∀(l:List Oper) (f:List Nat) (i:Nat) (o:Oper),l[i]? = some o→b0 f.length l=true→∀q,((aJ l f).getD (f.length+i) 0).testBit q=true →
  ∃e∈o.after.toList,Region.binds .any e=true∧(q=e.on∨((aJ l f).getD e.on 0).testBit q=true)
 |[],f,i,o,h,_,_,_=>by simp at h
 |x::l,f,0,o,h,hok,q,hq=>by
  simp at h;subst h;simp only[b0,κ,T']at hok;rw[aJ,fb l _ _ Ψ]at hq;simp only[F?,List.getD,Q' (ζ _),ai0,aiH,s?]at hq;obtain h1|⟨e,p,r,g⟩:=tn _ _ _ hq
  ·simp at h1
  ·refine⟨e,p,r,g.imp id λg=>?_⟩;have j:e.on<f.length:=by have:=hok.1 e p;simpa[r]using this
   rw[aJ,fb l _ _ Ξ];have:=j;simpa[List.getD,ο this]using g
 |x::l,f,i+1,o,h,hok,q,hq=>by
  simp[b0]at hok;simp at h;have:=iv l (f++[x.after.toList.foldl (λs e=>if Region.binds .any e then s ||| 2^e.on ||| f.getD e.on 0 else s) 0]) i o h (by simpa using hok.2) q (by
   rw[aJ]at hq;rw[show(f++[x.after.toList.foldl (λs e=>if Region.binds .any e then s ||| 2^e.on ||| f.getD e.on 0 else s) 0]).length+i=f.length+(i+1)by simp;omega];exact hq)
  rw[aJ];exact this
section
variable {P:Program}{ops:Array Oper}
def DC (ops:Array Oper)(D:Nat→Bool):Prop:=∀j,D j=true→∀i,((aJ ops.toList []).getD j 0).testBit i=true→D i=true
variable{C:Array Bool}{i:Nat}
def tm {j:Nat}(f:i<C.size):(C.setIfInBounds i true).getD j false=(C.getD j false||decide (j=i)):=by
 simp;by_cases h:i=j
 ·subst h;simp[f]
 ·have:¬j=i:=λe=>h e.symm;simp[h,this]
def kQ (n j:Nat):(Array.replicate n false).getD j false=false:=by simp only[n_,akc];split <;> rfl
def dK (r:C.size=ops.size)(h:i∈Region.ready .any ops C) :
  i<ops.size∧C.getD i false=false∧∃o,ops[i]? = some o∧∀e∈o.after,Region.binds .any e=true→C.getD e.on false=true:=by
 rw[akd]at h;obtain⟨p,o,g,l⟩:=h;have f:i<ops.size:=(η.1 g).1;refine⟨f, ?_,o,g,l⟩;have j:i<C.size:=Ω
 simpa[n_,j]using p
def KP (P:b0 0 ops.toList=true)(R:C.size=ops.size)(r:DC ops (λj=>C.getD j false))(h:i∈Region.ready .any ops C) :
  (∀q,((aJ ops.toList []).getD i 0).testBit q=true→C.getD q false=true)∧DC ops (λj=>(C.setIfInBounds i true).getD j false):=by
 obtain⟨U,hDi,o,T,l⟩:=dK R h;have J:∀q,((aJ ops.toList []).getD i 0).testBit q=true→C.getD q false=true:=by
  intro q J;obtain⟨e,he,hb,g⟩:=iv ops.toList [] i o (by simpa using T) P q (by simpa using J);have p:=l e (by simpa using he) hb;obtain rfl|g:=g
  ·exact p
  ·exact r e.on p q g
 refine⟨J,λj f q g=>?_⟩;have f:(C.setIfInBounds i true).getD j false=true:=f;show(C.setIfInBounds i true).getD q false=true;rw[tm Ω]at f⊢;simp only[aiC,ρ]at f⊢;obtain f|rfl:=f
 ·exact .inl (r j f q g)
 ·exact .inl (J q g)
def Do (J:b0 0 ops.toList=true)(hs:C.size=ops.size)(hr:Region.ready .any ops C=[]):∀i,i<ops.size→C.getD i false=true:=by
 intro i;induction i using Nat.strongRecOn with
 |_ i U=>
  intro R;cases hD:C.getD i false with
  |true=>rfl
  |false=>
   exfalso;have:i∈Region.ready .any ops C:=by
    rw[akd];have hl:i<C.size:=Ω
    refine⟨by simpa[n_,hl]using hD,ops[i],by simp[R],λe g P=>?_⟩;have r:e.on<i:=by
     have:∀(l:List Oper) (k j:Nat) (o:Oper),b0 k l=true→l[j]? = some o→∀e∈o.after.toList,Region.binds .any e=true→e.on<k+j:=by
      intro l;induction l with
      |nil=>intro k j o _ h;simp at h
      |cons x l p=>
       intro k j o f h e g T;simp only[b0,κ,T']at f;cases j with
       |zero =>simp at h;subst h;have:=f.1 e g;simpa[T]using this
       |succ j =>simp at h;have:=p (k+1) j o f.2 h e g T;omega
     have:=this ops.toList 0 i ops[i] J (by simp[R]) e (by simpa using g) P;omega
    exact U e.on r Ω
   rw[hr]at this;cases this
def wm {l:Option Nat}{n:Nat}{Q:Exit→Act→World→Prop}(h:Region.ready .any ops C=[]){a:Act}{w:World}(j:Q .normal a w):∀f,wpAnyIn (RF l) n P .any ops Q f C a w
 |0=>⟨h,j⟩
 |_+1=>⟨λ_=>j,λi g=>by rw[h]at g;cases g⟩
end
def KR:∀{a b:CV},We a b=true→a=b:=by
 intro a b h;have g:∀{x y:IntKind},kq x y=true→x=y:=by intro x y h;cases x <;> cases y <;> first|rfl|cases h
 have f:∀{l m:List Nat},vz l m=true→l=m:=by
  intro l;induction l with
  |nil=>intro m h;cases m with|nil=>rfl|cons _ _=>cases h
  |cons x l p=>
   intro m h;cases m with
   |nil=>cases h
   |cons y m=>
    simp only[vz]at h;cases j:Nat.beq x y with
    |false=>rw[j]at h;cases h
    |true=>rw[j]at h;rw[ν j,p h]
 cases a <;> cases b <;> simp[We,Pos.beq_iff]at h <;> first|(cases h;done)|skip
 case bl.bl x y=>cases x <;> cases y <;> first|rfl|cases h
 case int.int=>obtain⟨r,rfl⟩:=h;rw[g r]
 case str.str=>rw[f h]
 case nilp.nilp=>rfl
 case ptr.ptr=>obtain⟨⟨rfl,rfl⟩,rfl⟩:=h;rfl
 case glob.glob=>rw[h]
 case nils.nils=>rfl
 case sl.sl c _ _ _ _ c'=>
  obtain⟨⟨⟨⟨rfl,rfl⟩,rfl⟩,rfl⟩,h⟩:=h;cases c <;> cases c' <;> first|rfl|(cases h;done)|(rw[ν h])
 case emp.emp=>rw[h]
 case nilm.nilm=>rfl
 case mp.mp=>rw[h]
 case nilf.nilf=>rfl
 case fnc.fnc=>rw[h]
 case clo.clo=>rw[h]
 case nili.nili=>rfl
 case ifc.ifc=>rw[h]
 case sym.sym=>rw[h]
def tH:∀{l m:List CV},Fj l m=true→l=m
 |[],[],_=>rfl
 |[],_::_,h=>by cases h
 |_::_,[],h=>by cases h
 |a::l,b::m,h=>by
  simp only[Fj]at h;cases f:We a b with
  |false=>rw[f]at h;cases h
  |true=>rw[f]at h;rw[KR f,tH h]
def I6:∀{a b:TV},Ui a b=true→a=b:=by
 intro a b h;unfold Ui at h;split at h
 ·rw[KR h]
 ·rw[tH h]
 ·cases h
def Xx {f:EO→Q}{o:EO}{out:TV}(h:AW f o out=true):f o = .ret out none:=by
 unfold AW at h;split at h
 next out' e=>rw[e,I6 h]
 ·cases h
def NW {e f:Env}{g:Option (Pos×Bool)}(h:∀t∈KA g,e.get .unk t=f.get .unk t):gd e g=gd f g:=by
 cases g with
 |none=>rfl
 |some p =>obtain⟨p,w⟩:=p;simp[gd];rw[h p (by simp[KA])]
def mV {e g:Env}:∀{xs:List Src},(∀t∈AR xs,e.get .unk t=g.get .unk t)→aX e xs=aX g xs
 |[],_=>rfl
 |.t p::xs,h=>by simp only[aX,bn];rw[h p (by simp[AR]),mV (xs:=xs) λt f=>h t (by simp[AR,f])]
 |.c v::xs,h=>by simp[aX,bn];rw[mV (xs:=xs) λt f=>h t (by simpa[AR]using f)]
section
variable {ck:Callk}{b:HP}{rs:List Pos}{l:List OP}{infs:List Inf}{ds:List Dl}{s1:St}{n:Pos}{bef:Nat→Nat→Prop}
variable{D:Nat→Bool}{i:Nat}
def Dr.res_at (h:Dr ck b rs l infs ds s1 n bef)(f:Nx l bef D i){o:OP}(R:l[i]? = some o)(U:alO o=true):(HP.ov b (stT ds D s1 l.length).d).get (rI l n i) = .res:=by
 obtain⟨P,inf,x,p1,p2,C,p4⟩:=h.at_ i f.lt;have T:=h.kept R U C l.length (ζ _);have:=h.heap f (k:=rI l n i) (λ_=>False) (λj y P hj _ _ p r=>?_) (λj y P hj g hD J p r=>?_) l.length (ζ _)
 ·obtain h1|h1:=this
  ·rw[h1,show min l.length i=i by have:=f.lt;omega];exact(h.kept R U C i (by have:=f.lt;omega)).2 (.inl (ζ _))
  ·exact h1.elim
 ·rcases T.1 j y (by have:=f.lt;omega) p (by rw[r];exact λe=>by cases e)with e|e <;> omega
 ·rcases T.1 j y g p (by rw[r];exact λe=>by cases e)with e|⟨_,e⟩
  ·omega
  ·exact e (h.apartW g f.lt J C p (by rw[r];exact λe=>by cases e))
def Dr.stepF (h:Dr ck b rs l infs ds s1 n bef){D:Nat→Bool}{i:Nat}(hx:Nx l bef D i){fo:FO}{T:Bool}(ho:l[i]? = some (.op fo T)):∃out wr,ds[i]? = some (.op fo.dst out wr)∧Clo.stepF (stT ds D s1 l.length).e (if T=true then upd (HP.ov b (stT ds D s1 l.length).d).get (rI l n i) .none else(HP.ov b (stT ds D s1 l.length).d).get) (rI l n i) fo=some (out,wr):=by
 obtain⟨o',inf,x,p1,p2,p3,p4⟩:=h.at_ i hx.lt;rw[ho]at p1;cases p1;obtain⟨out,wr,P,hok,rfl,rfl⟩:=p4;refine⟨out,wr,p3, ?_⟩;have hlt:=hx.lt;have henv:∀t∈eA (.op fo T),(stT ds dl s1 i).e.get .unk t=(stT ds D s1 l.length).e.get .unk t:=λt ht=>by rw[h.env hx ho ht l.length (ζ _),show min l.length i=i by omega]
 have e1:gd (stT ds dl s1 i).e fo.guard=gd (stT ds D s1 l.length).e fo.guard:=NW λt ht=>henv t (by simp[eA,ht]);have e2:aX (stT ds dl s1 i).e fo.args=aX (stT ds D s1 l.length).e fo.args:=mV λt ht=>henv t (by simp[eA,ht]);unfold Clo.stepF at P⊢;unfold qF trF at p2;rw[←e1,←e2];generalize hg:gd (stT ds dl s1 i).e fo.guard=g at P p2⊢;cases g with
 |none=>cases P
 |some gb=>
  cases gb with
  |false=>exact P
  |true=>
   simp only at P p2⊢;generalize hq:dY fo.k (aX (stT ds dl s1 i).e fo.args) (rI l n i)=q at P p2⊢;generalize hH:(if T=true then upd (HP.ov b (stT ds D s1 l.length).d).get (rI l n i) .none else(HP.ov b (stT ds D s1 l.length).d).get)=H;have hone:∀k∈q.tr (HP.ov b (eF T (stT ds dl s1 i).d (rI l n i))).get,H k=(HP.ov b (eF T (stT ds dl s1 i).d (rI l n i))).get k∨(e7 wr=none∧∃f,q = .rd k f∧AW f (H k) out=true):=by
    intro k hk;by_cases hkr:T=true∧k=rI l n i
    ·obtain⟨rfl,rfl⟩:=hkr;refine .inl ?_;rw[←hH];simp[eF,ay];rw[HP.get_set,ay]
    ·have eH:H k=(HP.ov b (stT ds D s1 l.length).d).get k:=by
      rw[←hH];split
      next ha=>exact aU _ _ λe=>hkr ⟨ha,e.symm⟩
      ·rfl
     have eR:(HP.ov b (eF T (stT ds dl s1 i).d (rI l n i))).get k=(HP.ov b (stT ds dl s1 i).d).get k:=by
      cases T with
      |false=>rfl
      |true =>simp[eF];rw[HP.get_set];exact aU _ _ λe=>hkr ⟨rfl,e.symm⟩
     rw[eH,eR];have wk:∀{dst:Option Pos} {out:TV} {wr:Option (Pos×EO)} {o:EO},(Dl.op dst out wr).wrote k=some o→e7 wr=some k:=by
      intro dst out wr o U;cases wr with
      |none=>cases U
      |some p=>
       simp only[Dl.wrote]at U;split at U
       next e=>simp[e7,e]
       ·cases U
     have still:∀{hp:HP} {d:DM} {o:EO},PM.get none d k=some o→I9 hp d (q.tr (HP.ov b (eF T (stT ds dl s1 i).d (rI l n i))).get) q out=true→∃f,q = .rd k f∧AW f o out=true∧AW f (hp.get k) out=true:=by
      intro hp d o hd C;simp[I9]at C;obtain C|C:=C
      ·rw[kR C k hk]at hd;cases hd
      ·cases hqq:q with
       |fail=>rw[hqq]at C;cases C
       |ret _ _=>rw[hqq]at C;cases C
       |rd k' f=>
        rw[hqq]at C hk;simp[Q.tr]at C hk;split at C
        ·rename_i k2 htr;simp at htr;rw[htr.2]at hk;have:k=k':=by simpa using hk
         subst this;rw[hd]at C;simp at C;exact⟨f,rfl,C.1,C.2⟩
        ·cases C
     have:=h.heap hx (k:=k) (λo=>e7 wr=none∧∃f,q = .rd k f∧AW f o out=true) (λj y o hj hD hop hy U=>?_) (λj y o hj hjl hD hop hy U=>?_) l.length (ζ _)
     ·rw[show min l.length i=i by omega]at this;exact this
     ·obtain⟨oj,ij,xj,b1,b2,b3,b4⟩:=h.at_ j Ω;obtain⟨u,v,a,c,o1,o2,o3,o4,o5,r⟩:=hop;rw[b3]at hy;cases hy;rw[b2]at o4;cases o4;rw[p2]at o5;cases o5;cases oj with
      |op fo' al' =>obtain⟨out',wr',_,_,rfl,rfl⟩:=b4;rw[wk U]at r;simp[dV,AA]at r;rw[sO.2 hk]at r;cases r.1.1
      |call args dst g=>
       rcases b4 with⟨_,t,vs,out',lay,n1,n2,_,_,hno,rfl,rfl⟩|⟨_,rfl,rfl⟩
       ·have J:PM.get none lay k=some o:=U;cases R:e7 wr with
        |none =>rw[R]at r;simp[dV]at r;obtain⟨f,f1,f2,f3⟩:=still J r;exact⟨rfl,f,f1,f3⟩
        |some k'=>
         rw[R]at r;cases hfr:ou T (rI l n i) wr with
         |false=>rw[hfr]at r;simp only[dV]at r;cases r
         |true =>rw[hfr]at r;simp only[dV]at r;rw[kR r k hk]at J;cases J
       ·cases U
      |nxt _ _=>exact b4.elim
      |bad=>exact b4.elim
     ·obtain⟨oj,ij,xj,b1,b2,b3,b4⟩:=h.at_ j hjl;obtain⟨u,v,a,c,o1,o2,o3,o4,o5,r⟩:=hop;rw[b3]at hy;injection hy with hy;subst hy;rw[p2]at o4;injection o4 with o4;subst o4;rw[b2]at o5;injection o5 with o5;subst o5;cases oj with
      |op fo' al' =>obtain⟨out',wr',_,_,rfl,rfl⟩:=b4;rw[wk U]at r;simp only[dV,AA,κ,aiq]at r;rw[sO.2 hk]at r;cases r.1.2
      |call args dst g=>
       rcases b4 with⟨_,t,vs,out',lay,n1,n2,_,_,hno,rfl,rfl⟩|⟨_,rfl,rfl⟩
       ·have J:PM.get none lay k=some o:=U;cases R:e7 wr with
        |none =>rw[R]at r;simp only[dV]at r;obtain⟨f,f1,f2,f3⟩:=still J r;exact⟨rfl,f,f1,f2⟩
        |some k' =>rw[R]at r;simp only[dV]at r;cases r
       ·cases U
      |nxt _ _=>exact b4.elim
      |bad=>exact b4.elim
   by_cases hall:∀k∈q.tr (HP.ov b (eF T (stT ds dl s1 i).d (rI l n i))).get,H k=(HP.ov b (eF T (stT ds dl s1 i).d (rI l n i))).get k
   ·rw[(Q.run_congr hall).1];exact P
   ·have ⟨k,hk,hne⟩:∃k,k∈q.tr (HP.ov b (eF T (stT ds dl s1 i).d (rI l n i))).get∧¬H k=(HP.ov b (eF T (stT ds dl s1 i).d (rI l n i))).get k:=by
     apply ai6;intro hn;refine hall λk hk=>ai6 λhne=>hn ⟨k,hk,hne⟩
    obtain e|⟨R,f,hqf,C⟩:=hone k hk
    ·exact(hne e).elim
    ·have hwr:wr=none:=by
      cases wr with
      |none=>rfl
      |some p=>cases R
     rw[hwr,hqf];simp only[Q.run];rw[Xx C];rfl
def agp (l:List OP)(ds:List Dl)(n:Pos)(D:Nat→Bool)(i:Nat)(k:Pos):Prop:=∃j o x,i<j∧j<l.length∧D j=true∧l[j]? = some o∧alO o=true∧ds[j]? = some x∧k=rI l n j∧x.wrote k≠none
open Classical in
def Dr.hid (h:Dr ck b rs l infs ds s1 n bef)(hx:Nx l bef D i){lay:DM}{hp:HP}(T:infs[i]? = some (.call hp lay))(k:Pos):(if agp l ds n D i k then EO.res else(HP.ov b (stT ds D s1 l.length).d).get k)=(HP.ov b (stT ds dl s1 i).d).get k:=by
 have hlt:=hx.lt;split
 next hm=>obtain⟨j,o,x,h1,h2,h3,h4,h5,h6,rfl,h8⟩:=hm;exact((h.kept h4 h5 h6 i Ω).2 (.inl Ω)).symm
 next hm=>
  have wk:∀{P:Option Pos} {out:TV} {wr:Option (Pos×EO)} {o:EO},(Dl.op P out wr).wrote k=some o→e7 wr=some k:=by
   intro P out wr o C;cases wr with
   |none=>cases C
   |some p=>
    simp only[Dl.wrote]at C;split at C
    next e=>simp[e7,e]
    ·cases C
  have:=h.heap hx (k:=k) (λ_=>False) (λj y o hj hD hop hy C=>?_) (λj y o hj hjl hD hop hy C=>?_) l.length (ζ _)
  ·rw[show min l.length i=i by omega]at this;obtain h1|h1:=this
   ·exact h1
   ·exact h1.elim
  ·obtain⟨oj,ij,xj,b1,b2,b3,R⟩:=h.at_ j Ω;obtain⟨u,v,a,c,o1,o2,o3,o4,o5,f⟩:=hop;rw[b3]at hy;cases hy;rw[b2]at o4;cases o4;rw[T]at o5;cases o5;cases oj with
   |op fo' al' =>obtain⟨r,U,_,_,rfl,rfl⟩:=R;rw[wk C]at f;simp only[dV]at f;cases f
   |call args P g=>
    rcases R with⟨_,t,vs,r,lay,n1,n2,_,_,hno,rfl,rfl⟩|⟨_,rfl,rfl⟩
    ·simp only[dV]at f;cases f
    ·cases C
   |nxt _ _=>exact R.elim
   |bad=>exact R.elim
  ·obtain⟨oj,ij,xj,b1,b2,b3,R⟩:=h.at_ j hjl;obtain⟨u,v,a,c,o1,o2,o3,o4,o5,f⟩:=hop;have hy':=hy;rw[b3]at hy;cases hy;rw[T]at o4;cases o4;rw[b2]at o5;cases o5;cases oj with
   |op fo' al'=>
    obtain⟨r,U,_,_,rfl,rfl⟩:=R;have hk:=wk C;rw[hk]at f;cases J:ou al' (rI l n j) U with
    |false=>rw[J]at f;simp only[dV]at f;cases f
    |true=>
     cases U with
     |none=>cases hk
     |some p =>simp only[e7,θ]at hk;simp only[ou,κ]at J;have e:=Pos.beq_iff.1 J.2;rw[hk]at e;exact hm ⟨j,_,_,hj,hjl,hD,b1,J.1,b3,e,by rw[C];exact λe=>by cases e⟩
   |call args P g=>
    rcases R with⟨_,t,vs,r,lay,n1,n2,_,_,hno,rfl,rfl⟩|⟨_,rfl,rfl⟩
    ·simp only[dV]at f;cases f
    ·cases C
   |nxt _ _=>exact R.elim
   |bad=>exact R.elim
end
section
variable {B:Nat}{W:W0}{φ ψ:Gx}{h h':Pos→EO}{w w':World}{r:Pos}
open Classical in
def NR (f:Inv B W φ h w)(F:Pos→Prop):Inv B ⟨w,φ⟩ φ (λk=>if F k then .res else h k) w :=
 ⟨Below.refl _ _,Kp.refl _,Gx.le.refl _,λ_ _=>⟨λ_=>rfl,rfl,rfl,λ_ _ _=>rfl⟩,f.size,λk=>by
  by_cases j:F k
  ·simp[β j];exact λg l p=>f.blk p
  ·simp[B' j];exact f.obj k,f.sep⟩
open Classical in
def VY (r:Inv B W φ h w)(F:Pos→Prop)(p:bv B φ (λk=>if F k then .res else h k) w ψ h' w')(C:∀k,F k→h' k = .res):bv B φ h w ψ (λk=>if F k then h k else h' k) w':=by
 have J:=p.2.1 _ (NR r F);refine oZ p.1 ⟨J.below,J.kp,J.le,λk j=>?_,J.size,λk=>?_,J.sep⟩ λk j=>?_
 ·by_cases f:F k
  ·exact J.res k (by rw[C k f];rfl)
  ·simp[B' f]at j;exact J.res k j
 ·by_cases f:F k
  ·simp[β f];obtain⟨P,a2,U,T⟩:=J.res k (by rw[C k f];rfl);exact(r.obj k).keep p.1 P a2 U λg l R=>T g l (by rw[←R];exact P g)
  ·simp[B' f];exact J.obj k
 ·by_cases f:F k
  ·simpa only[β f]using j
  ·simp[B' f]at j;have:=p.2.2 k j;simpa only[B' f]using this
def T5 (φ:Gx)(r:Pos):Prop:=(∀g,φ.loc r g=none)∧φ.val r=none∧φ.mu r=none
def Mm (j:h r = .res)(l:T5 φ r):bv B φ h w φ (upd h r .none) w:=by
 refine⟨Gx.le.refl _,λW f=>⟨f.below,f.kp,f.le,λk g=>?_,f.size,λk=>?_,f.sep⟩,λk g=>?_⟩
 ·by_cases e:r=k
  ·subst e;rw[ay]at g;cases g
  ·rw[aU _ _ e]at g;exact f.res k g
 ·by_cases e:r=k
  ·subst e;rw[ay];exact l
  ·rw[aU _ _ e];exact f.obj k
 ·by_cases e:r=k
  ·subst e;rw[j];rfl
  ·rwa[aU _ _ e]at g
def Nd {F:Pos→Prop}(R:∀k,F k→h k = .none)(h1:∀k,F k→h' k = .res)(J:∀k,¬F k→h' k=h k):bv B φ h w φ h' w:=by
 refine⟨Gx.le.refl _,λW f=>⟨f.below,f.kp,f.le,λk r=>?_,f.size,λk=>?_,f.sep⟩,λk r=>?_⟩
 ·by_cases e:F k
  ·obtain⟨b1,b2,b3⟩:=f.free (R k e);have C:∀{P:Type} {x y:Option P},y=none→(∀v,x=some v→y=some v)→y=x:=λ{P x y} T U=>by
    cases x with
    |none=>exact T
    |some v=>exact U v rfl
   exact⟨λg=>C (b1 g) λv j=>f.le.loc k g v j,C b2 λv j=>f.le.val k v j,C b3 λv j=>f.le.mu k v j,λg l p=>by rw[b1 g]at p;cases p⟩
  ·rw[J k e]at r;exact f.res k r
 ·by_cases e:F k
  ·rw[h1 k e];exact λg l p=>f.blk p
  ·rw[J k e];exact f.obj k
 ·by_cases e:F k
  ·rw[R k e];rfl
  ·rwa[J k e]at r
end
variable [SymVal]
def Rl.congr {B p l:Nat}{U:Gx}{r:Pos→EO}{j:World}{e C:Env}{h g:Pos→EO}{a:Act}{w:World}(f:Rl B p U r j l e h a w)(T:∀t,C.get .unk t=e.get .unk t)(R:∀k,g k=h k):Rl B p U r j l C g a w:=by have:g=h:=funext R;subst this;obtain⟨J,h1,h2⟩:=f.ex;exact⟨⟨J,h1,λt P=>by rw[T];exact h2 t P⟩,f.sz,f.df⟩
def Hf {f:List Dl}{D g:Nat→Bool}{s:St}:∀{m:Nat},(∀j,j<m→D j=g j)→stT f D s m=stT f g s m
 |0,_=>rfl
 |m+1,h=>by simp[stT];rw[h m Ω,Hf (m:=m) λj l=>h j Ω]
def LU {f:List Dl}{D:Nat→Bool}{s:St}:∀{m:Nat},(∀j,j<m→D j=false)→stT f D s m=s
 |0,_=>rfl
 |m+1,h=>by simp[stT];rw[h m Ω];exact LU λj g=>h j Ω
def adM {B:Nat}{C U:Gx}{H:Pos→EO}{w w':World}{r:Pos}{l:Bool}(P:l=true→H r = .res)(hf:l=true→T5 C r){wr:Option (Pos×EO)}(f:bv B C (if l=true then upd H r .none else H) w U (rR (if l=true then upd H r .none else H) wr) w'):bv B C H w U (rR H wr) w':=by
 cases l with
 |false=>exact f
 |true=>
  simp at f;refine((Mm (P rfl) (hf rfl)).trans f).trans ?_;by_cases hk:∃o,wr=some (r,o)
  ·obtain⟨o,rfl⟩:=hk;have:rR (upd H r .none) (some (r,o))=rR H (some (r,o)):=by
    funext k;simp[rR,upd];by_cases e:r=k <;> simp[e]
   rw[this];exact bv.refl
  ·have j:rR (upd H r .none) wr r = .none∧rR H wr r = .res:=by
    cases wr with
    |none=>exact⟨ay _ _ _,P rfl⟩
    |some p =>obtain⟨J,o⟩:=p;have g:J≠r:=λe=>hk ⟨o,by rw[e]⟩;simp[rR];rw[aU _ _ g,aU _ _ g,ay];exact⟨rfl,P rfl⟩
   refine Nd (F:=λk=>k=r) (λk e=>by subst e;exact j.1) (λk e=>by subst e;exact j.2) (λk e=>?_);cases wr with
   |none=>exact(aU _ _ λT=>e T.symm).symm
   |some p=>
    obtain⟨J,o⟩:=p;simp[rR];by_cases R:J=k
    ·subst R;rw[ay,ay]
    ·rw[aU _ _ R,aU _ _ R,aU _ _ λT=>e T.symm]
def Fw {P:Program}{j:Glt}{g:Nat}{f:List Oper}:∀(l:List Oper) (i:Nat),(ir P j g f l)[i]? = (l[i]?).map (cOp P j g f)
 |[],i=>by simp[ir]
 |o::l,0=>by simp[ir]
 |o::l,i+1=>by simpa[ir]using Fw l i
structure OrdX (P:Program)(Gl:Glt)(nt:Nat)(ops:Array Oper)(ord:List Nat)(l:List OP):Prop where
 llen:l.length=ops.size
 lget:∀p o,p<ops.size→ops[ord.getD p 0]? = some o→l[p]? = some (cOp P Gl nt ops.toList o)
 inj:∀p q,p<ops.size→q<ops.size→ord.getD p 0=ord.getD q 0→p=q
 sur:∀i,i<ops.size→∃p,p<ops.size∧ord.getD p 0=i
 edges:b0 0 ops.toList=true
 olt:∀p,p<ops.size→ord.getD p 0<ops.size
def Wv (g:Array Oper)(f:List Nat)(p q:Nat):Prop:=((aJ g.toList []).getD (f.getD q 0) 0).testBit (f.getD p 0)=true
def Dp (f:List Nat)(C:Array Bool)(p:Nat):Bool:=C.getD (f.getD p 0) false
section
variable {P:Program}{Gl:Glt}{B lo:Nat}{W:W0}{U:Gx}{h0:Pos→EO}{w0:World}{nt:Nat}{ops:Array Oper}{Γ:List Lq}{ck:Callk}
variable {b:HP}{rs:List Pos}{l:List OP}{infs:List Inf}{ds:List Dl}{s1:St}{n1:Pos}{ord:List Nat}
variable{ro:Option Nat}{n id:Nat}
def Fc (hnd:∀o∈ops.toList,ff ro o)(hI0:Inv B W U h0 w0)(hG:mJ Gl P B W)(ckok:CkOk P Gl B ck Γ)(hcx:Ctx Γ U w0)(hfree:∀r∈rs,T5 U r)(ox:OrdX P Gl nt ops ord l)(h:Dr ck b rs l infs ds s1 n1 (Wv ops ord)):∀(J:Nat) (C:Array Bool) (a:Act) (w:World),C.size=ops.size→DC ops (λj=>C.getD j false) →
   ((List.range ops.size).filter λj=>!C.getD j false).length≤J →
   Rl B lo U h0 w0 nt (stT ds (Dp ord C) s1 l.length).e (HP.ov b (stT ds (Dp ord C) s1 l.length).d).get a w→wpAnyIn (RF ro) n P .any ops (jZ B lo U h0 w0 nt (stT ds dl s1 l.length).e (HP.ov b (stT ds dl s1 l.length).d).get) J C a w:=by
 have hll:=ox.llen;have fin:∀(C:Array Bool) (a:Act) (w:World),C.size=ops.size→Region.ready .any ops C=[]→Rl B lo U h0 w0 nt (stT ds (Dp ord C) s1 l.length).e (HP.ov b (stT ds (Dp ord C) s1 l.length).d).get a w→jZ B lo U h0 w0 nt (stT ds dl s1 l.length).e (HP.ov b (stT ds dl s1 l.length).d).get .normal a w:=by intro C a w hs hr f;have hall:=Do ox.edges hs hr;have e:stT ds (Dp ord C) s1 l.length=stT ds dl s1 l.length:=Hf λj hj=>hall _ (ox.olt j Ω);rw[e]at f;exact f
 intro J;induction J with
 |zero=>
  intro C a w hs hdc hcount f;have hr:Region.ready .any ops C=[]:=by
   rw[aiP];intro i hi;obtain⟨hlt,hDi,_⟩:=dK hs hi;have:i∈(List.range ops.size).filter λj=>!C.getD j false:=by rw[C?];exact⟨F_.2 hlt,by simp[hDi]⟩
   rw[U' (Nat.le_zero.1 hcount)]at this;cases this
  exact⟨hr,fin C a w hs hr f⟩
 |succ J ih=>
  intro C a w hs hdc hcount f;refine⟨λhr=>fin C a w hs hr f,λi hi=>?_⟩;obtain⟨hlt,hDi,o',ho',_⟩:=dK hs hi;obtain⟨hpre,hdc'⟩:=KP ox.edges hs hdc hi;have hD':∀j,(C.setIfInBounds i true).getD j false=(C.getD j false||decide (j=i)):=λj=>tm Ω;obtain⟨p,hp,hpi⟩:=ox.sur i hlt;have hlp:=ox.lget p o' hp (by rw[hpi];exact ho');have hx:Nx l (Wv ops ord) (Dp ord C) p:=⟨Ω,by unfold Dp;rw[hpi];exact hDi,λq _ hq p' _ hb=>hdc _ hq _ hb,λp' _ hb=>hpre _ (by unfold Wv at hb;rw[hpi]at hb;exact hb)⟩;have hDp:∀j,j<l.length→Dp ord (C.setIfInBounds i true) j=(Dp ord C j||decide (j=p)):=λj hj=>by
   unfold Dp;rw[hD'];congr 1;by_cases e:j=p
   ·subst e;rw[hpi];simp
   ·have:¬ord.getD j 0=i:=λe'=>e (ox.inj j p Ω hp (by rw[e',hpi]));rw[aji this,aji e]
  have hlen:((List.range ops.size).filter λj=>!(C.setIfInBounds i true).getD j false).length≤J:=by
   have:((List.range ops.size).filter λj=>!(C.setIfInBounds i true).getD j false).length<((List.range ops.size).filter λj=>!C.getD j false).length:=by
    have e:((List.range ops.size).filter λj=>!(C.setIfInBounds i true).getD j false)=(((List.range ops.size).filter λj=>!C.getD j false)).filter (λj=>decide (j≠i)):=by rw[u?];apply l?;intro j _;rw[hD'];by_cases e:j=i <;> simp[e]
    rw[e];refine air.2 ⟨i, ?_,Ψ⟩;rw[C?];exact⟨F_.2 hlt,by simp[hDi]⟩
   omega
  have hno:ff ro o':=hnd o' (q_.2 (y? ho'));obtain⟨oc,inf,x,q1,q2,q3,q4⟩:=h.at_ p Ω;rw[hlp]at q1;injection q1 with q1;obtain⟨hn1,hn2⟩:=h.next hx hDp q3 l.length (ζ _)
  have hgo:∀(a':Act) (w':World) (H':Pos→EO),(∀k,H' k=orE (x.wrote k) ((HP.ov b (stT ds (Dp ord C) s1 l.length).d).get k))→Rl B lo U h0 w0 nt (aO (stT ds (Dp ord C) s1 l.length).e x.dst x.out) H' a' w'→wpAnyIn (RF ro) n P .any ops (jZ B lo U h0 w0 nt (stT ds dl s1 l.length).e (HP.ov b (stT ds dl s1 l.length).d).get) J (C.setIfInBounds i true) a' w':=λa' w' H' hH' hr'=>by
   refine ih (C.setIfInBounds i true) a' w' (by simpa using hs) hdc' hlen (hr'.congr (λt=>?_) λk=>?_)
   ·rw[hn1 t,B' Ω]
   ·rw[hn2 k,B' Ω,hH' k]
  obtain⟨φ,R,hE⟩:=f.ex;have hI:=R.2.1 _ hI0;cases oc with
  |op fo al=>
   have hlp':l[p]? = some (.op fo al):=hlp.trans (by rw[q1]);obtain⟨out,wr,hds,hst⟩:=h.stepF hx hlp';rw[q3]at hds;injection hds with hds;obtain⟨dst,xs,hdst,_,_,_,hfd,_⟩:=RJ q1;have hres:al=true→(HP.ov b (stT ds (Dp ord C) s1 l.length).d).get (rI l n1 p) = .res:=λha=>h.res_at hx hlp' ha;have hfr:al=true→T5 φ (rI l n1 p):=λha=>by have hm:=hfree _ (h.al p _ hlp' ha);obtain⟨a1,a2,a3,_⟩:=(R.2.1 _ hI0.self).res _ (by rw[hres ha];rfl);exact⟨λg=>(a1 g).trans (hm.1 g),a2.trans hm.2.1,a3.trans hm.2.2⟩
   have hH:bv B φ (HP.ov b (stT ds (Dp ord C) s1 l.length).d).get w φ (if al=true then upd (HP.ov b (stT ds (Dp ord C) s1 l.length).d).get (rI l n1 p) .none else(HP.ov b (stT ds (Dp ord C) s1 l.length).d).get) w:=by
    cases al with
    |false=>exact bv.refl
    |true=>exact Mm (hres rfl) (hfr rfl)
   refine M0 ho' q1 (hH.2.1 _ hI) hG hE hno (λha=>by rw[β ha,ay]) hst λψ v w' hst' hv=>?_;refine hgo _ _ _ (λk=>?_) ((by rw[hds];exact f.step hI0 R hE (adM hres hfr hst') (by rw[hfd];exact hdst) hv));rw[hds];cases wr with
   |none=>rfl
   |some pr =>obtain⟨k',o2⟩:=pr;simp[rR,upd,Dl.wrote];by_cases e:k'=k <;> simp[e,orE]
  |call args dst g=>
   obtain⟨_,_,_,_,_,hdst,_⟩:=zn q1;have henv:∀t∈eA (.call args dst g),(stT ds dl s1 p).e.get .unk t=(stT ds (Dp ord C) s1 l.length).e.get .unk t:=λt ht=>by rw[h.env hx (hlp.trans (by rw[q1])) ht l.length (ζ _),show min l.length p=p by omega]
   have e1:gd (stT ds dl s1 p).e g=gd (stT ds (Dp ord C) s1 l.length).e g:=NW λt ht=>henv t (by simp[eA,ht]);have e2:aX (stT ds dl s1 p).e args=aX (stT ds (Dp ord C) s1 l.length).e args:=mV λt ht=>henv t (by simp[eA,ht]);rcases q4 with⟨hg,t,vs,out,lay,m1,m2,hen,hcall,hnd',hinf,hxx⟩|⟨hg,hinf,hxx⟩
   ·rw[e1]at hg;rw[e2]at hen;rw[hinf]at q2;have T:=funext (h.hid hx q2);have hIh:=NR hI (agp l ds n1 (Dp ord C) p);rw[T]at hIh;refine Fv ho' q1 hg hIh hE hno hen (λus hus=>ckok.call _ _ _ _ _ _ _ _ hcall ⟨w,φ⟩ φ w (hG.more hI) hIh us hus (hcx.more hI0 R)) λψ v w' hst' hv=>?_;have hst'':bv B φ (HP.ov b (stT ds dl s1 p).d).get w ψ (HP.ov (.ov b (stT ds dl s1 p).d) lay).get w':=hst';rw[←T]at hst'';have hmr:∀k,agp l ds n1 (Dp ord C) p k→PM.get none lay k=none:=λk hk=>by
     obtain⟨j,o,y,c1,c2,c3,c4,c5,c6,rfl,c8⟩:=hk;exact kR hnd' _ (h.al j o c4 c5)
    have hst3:=VY hI _ hst'' λk hk=>by simp[HP.get,hmr k hk];have:=congrFun T k;simp[β hk]at this;exact this.symm
    refine hgo _ _ _ (λk=>?_) ((by rw[hxx];exact f.step hI0 R hE hst3 hdst hv));rw[hxx];simp[Dl.wrote];split
    next hk=>rw[hmr k hk];rfl
    next hk=>have:=congrFun T k;simp[B' hk]at this;rw[this];simp[HP.get];cases PM.get none lay k <;> rfl
   ·rw[e1]at hg;refine C4 ho' q1 hg hE ?_;refine hgo _ _ _ (λk=>?_) ((by rw[hxx];exact f.step hI0 R hE bv.refl hdst rS));rw[hxx];rfl
  |nxt _ _=>exact q4.elim
  |bad=>exact q4.elim
def Ea:∀{l:List Nat},Ka l=true→∀{p q:Nat},p<l.length→q<l.length→l.getD p 0=l.getD q 0→p=q
 |[],_,p,q,hp,_,_=>by simp at hp
 |a::l,h,p,q,hp,hq,e=>by
  simp[Ka]at h;have mem:∀i,i<l.length→l.getD i 0∈l:=λi f=>by rw[υ,δ f];exact e_ f
  cases p with
  |zero=>
   cases q with
   |zero=>rfl
   |succ q =>exfalso;simp at e;exact h.1 (by rw[e];exact mem q (by simpa using hq))
  |succ p=>
   cases q with
   |zero =>exfalso;simp at e;exact h.1 (by rw[←e];exact mem p (by simpa using hp))
   |succ q =>simp at e;rw[Ea h.2 (by simpa using hp) (by simpa using hq) e]
def SJ {f:Type}:∀(l:List f) (i:Nat),nth l i=l[i]?
 |[],i=>by cases i <;> rfl
 |a::l,0=>rfl
 |a::l,i+1=>by simpa[nth]using SJ l i
def Bc {infs:List Inf}:∀{ps:List (Nat×Nat)},dQ infs ps=true→∀p∈ps,fE infs p=true
 |[],_,p,hp=>by cases hp
 |q::ps,h,p,hp=>by
  simp only[dQ]at h;cases f:fE infs q with
  |false=>rw[f]at h;cases h
  |true=>
   rw[f]at h;obtain rfl|hp:=C'.1 hp
   ·exact f
   ·exact Bc h p hp
def OL (hm:P.follows .mixedOrders=true)(hnd:∀o∈ops.toList,ff ro o)(hI0:Inv B W U h0 w0)(hG:mJ Gl P B W)(ckok:CkOk P Gl B ck Γ)(hcx:Ctx Γ U w0){R:List OP}{ps:List (Nat×Nat)}
  (f:JP ops.toList (ir P Gl nt ops.toList ops.toList) (aJ ops.toList []) ord=some ps) (hcs:R=ord.map λi=>(ir P Gl nt ops.toList ops.toList).getD i .bad) {e e':Env} {d J d':DM} {n0 n2 n':Pos} (hrv:rA b R d n0=some (rs,J,n2)) (hrt:mK ck b rs R e J n0 n2 = .ok infs e' d' n') (hpo:dQ infs ps=true) {a:Act} {w:World} (hr:Rl B lo U h0 w0 nt e (HP.ov b d).get a w) :
  (Code.region id ops true).wpIn (RF ro) n P (jZ B lo U h0 w0 nt e' (HP.ov b d').get) a w:=by
 unfold JP at f;simp only at f;split at f
 next hchk=>
  simp only[κ]at hchk;obtain⟨⟨⟨⟨⟨c1,c2⟩,c3⟩,c4⟩,c5⟩,c6⟩:=hchk;simp at f;have c2:=ν c2;simp only[ω]at c2 c4 c5;have T:∀p,p<ops.size→ord.getD p 0<ops.size:=λp hp=>by
   rw[T']at c5;have:=c5 (ord.getD p 0) (by
    rw[υ,δ Ω];exact e_ Ω)
   exact p_ this
  have csg:∀p o,p<ops.size→ops[ord.getD p 0]? = some o→R[p]? = some (cOp P Gl nt ops.toList o):=λp o hp ho=>by
   rw[hcs,A_,δ Ω];simp only[aiV,θ];have e1:ord[p]'Ω=ord.getD p 0:=by rw[υ,δ Ω];rfl
   rw[e1,υ,Fw,f_,ho];rfl
  have ox:OrdX P Gl nt ops ord R:=⟨by rw[hcs];simp[c2],csg,λp q hp hq=>Ea c3 Ω Ω,λi hi=>by
   rw[T']at c4;have:=c4 i (F_.2 hi);simp at this;obtain⟨p,hp,e⟩:=ajv this;exact⟨p,Ω,by rw[υ,δ hp];exact e⟩,c1,T⟩
  have hll:=ox.llen;obtain⟨r1,r2,r3⟩:=wC _ _ _ _ _ _ hrv;obtain⟨ds,t1,t2,t3⟩:=Hm _ _ _ _ _ _ _ _ _ hrt;have hdr:Dr ck b rs R infs ds ⟨e,J⟩ n0 (Wv ops ord):=by
   refine⟨t1,t3,λp q hpq hq=>?_,λk hk=>(r1 k hk).2,r3⟩;by_cases hb:Wv ops ord p q
   ·exact .inl hb
   ·refine .inr ?_;have C:(p,q)∈(List.range ord.length).flatMap λq=>((List.range q).filter λp=>Yl (aJ ops.toList []) ord p q).map λp=>(p,q):=by
     rw[List.mem_flatMap];refine⟨q,F_.2 Ω,s_.2 ⟨p, ?_,rfl⟩⟩;rw[C?];refine⟨F_.2 hpq, ?_⟩;unfold Yl;unfold Wv at hb;simpa using hb
    rw[T']at c6;have h1:=c6 _ C;have h2:=Bc hpo (p,q) (by rw[←f];exact C);simp[fE,SJ]at h2;have hop:ops[ord.getD p 0]? = some (ops[ord.getD p 0]'(T p Ω)):=by simp
    have hoq:ops[ord.getD q 0]? = some (ops[ord.getD q 0]'(T q Ω)):=by simp
    simp only[aaN,Fw,f_,hop,hoq,aiV,κ]at h1;split at h2
    ·rename_i ia hia;split at h2
     next ic hic=>exact⟨_,_,_,_,csg p _ Ω hop,csg q _ Ω hoq,h1.1,hia,hic,h2⟩
     ·cases h2
    ·cases h2
  obtain⟨φ,hs,hE⟩:=hr.ex;have hI:=hs.2.1 _ hI0;have g:bv B φ (HP.ov b d).get w φ (HP.ov b J).get w:=Nd (F:=λk=>k∈rs) (λk hk=>(r1 k hk).1) (λk hk=>(r1 k hk).2) r2;have hR:Rl B lo φ (HP.ov b d).get w nt e (HP.ov b J).get a w:=⟨⟨φ,g,hE⟩,hr.sz,hr.df⟩;have l:=Fc (ro:=ro) (n:=n) hnd hI hG ckok (hcx.more hI0 hs) (λr hrm=>hI.free (r1 r hrm).1) ox hdr ops.size (Array.replicate ops.size false) a { w with drawn:=w.drawn+1 } Ψ (λj hj=>by
    have hj:(Array.replicate ops.size false).getD j false=true:=hj;rw[kQ]at hj;cases hj) (Θ (w? _ _) Ψ) (by
    rw[show stT ds (Dp ord (Array.replicate ops.size false)) ⟨e,J⟩ R.length=⟨e,J⟩ from LU λj hj=>kQ _ _];refine⟨⟨φ, ?_,hE⟩,hr.sz,hr.df⟩;exact g.trans ⟨Gx.le.refl _,λW h=>h.drewW,λk hk=>hk⟩)
  rw[show stT ds dl ⟨e,J⟩ R.length=⟨e',d'⟩ from t2]at l;refine wpIn_mono (wpIn_region_any hm l) λex a' w' hn=>?_;cases ex with
  |normal =>have hn:Rl B lo φ (HP.ov b d).get w nt e' (HP.ov b d').get a' w':=hn;obtain⟨ψ,g1,g2⟩:=hn.ex;exact⟨⟨ψ,hs.trans g1,g2⟩,hn.sz,hn.df⟩
  |_=>exact hn.elim
 ·cases f
def MO (j:∀o∈ops.toList,ff ro o)(p:Inv B W U h0 w0)(hG:mJ Gl P B W)(g:CkOk P Gl B ck Γ)(l:Ctx Γ U w0){e r:Env}{d C:DM}{J R:Pos}(f:aF ck b (ir P Gl nt ops.toList ops.toList) e d J = .ok r C R){a:Act}{w:World}(T:Rl B lo U h0 w0 nt e (HP.ov b d).get a w) :
  (Code.region id ops false).wpIn (RF ro) n P (jZ B lo U h0 w0 nt r (HP.ov b C).get) a w:=by
 refine wpIn_region ?_;have:=bp (ro:=ro) (n:=n) (Q:=jZ B lo U h0 w0 nt r (HP.ov b C).get) p hG g l j (λ_ _ h=>h) ops.toList 0 e d J a w Ψ f T;rw[I?];simpa using this
end
variable [SymVal]
open Go.ChangeMaps (setBlock)
section
variable {L:Pos→Nat→Option Loc}{V:Pos→Option Value}{M M':Pos→Option Nat}
def KO (c:CV):den ⟨L,V,M⟩ c=den ⟨L,V,M'⟩ c:=by cases c <;> rfl
def Tz:∀l:List CV,aV ⟨L,V,M⟩ l=aV ⟨L,V,M'⟩ l
 |[]=>rfl
 |c::l=>by simp[aV];rw[KO (M:=M) (M':=M') c,Tz l]
def u9:∀p:PV,aP ⟨L,V,M⟩ p=aP ⟨L,V,M'⟩ p
 |.one c=>KO c
 |.agg l=>by simp[aP];rw[Tz (M:=M) (M':=M') l]
def zf:∀l:List PV,cw ⟨L,V,M⟩ l=cw ⟨L,V,M'⟩ l
 |[]=>rfl
 |c::l=>by simp[cw];rw[u9 (M:=M) (M':=M') c,zf l]
def ahn {t:TV}{v:Value}(h:RT ⟨L,V,M⟩ t v):RT ⟨L,V,M'⟩ t v:=by
 cases t with
 |unk=>trivial
 |pv p=>exact(u9 p).symm.trans h
 |tup l=>obtain⟨f,j,g⟩:=h;exact⟨f,(zf l).symm.trans j,g⟩
def aek {e:Env}{f:Array Value}(h:ER ⟨L,V,M⟩ e f):ER ⟨L,V,M'⟩ e f:=λt g=>ahn (h t g)
end
def gp.mu {φ:Gx}{w:World}{B:Nat}{k:Pos}{o:EO}(h:gp φ w B k o){μ:Pos→Option Nat}(J:μ k=φ.mu k):gp ⟨φ.loc,φ.val,μ⟩ w B k o:=by
 cases o with
 |none=>exact⟨h.1,h.2.1,J.trans h.2.2⟩
 |row e s el len gen fz =>obtain⟨h0,r,hmm,h2,h3⟩:=h;refine⟨h0,r,hmm,h2,λg hg=>?_⟩;obtain⟨l,q1,⟨r1,r2,arr,fr,r3,r4,r5,r6⟩,C⟩:=h3 g hg;exact⟨l,q1,⟨r1,r2,arr,fr,r3,r4,r5,λi hi J=>⟨(r6 i hi J).1,(r6 i hi J).2.1,λj c hc=>let ⟨v,U,R⟩:=(r6 i hi J).2.2 j c hc;⟨v,U,(KO c).trans R⟩⟩⟩,C⟩
 |map es clock =>obtain⟨r,l,vs,q1,q2,C,P⟩:=h;exact⟨r,l,vs,q1,q2,C,P.1,λi e he=>let ⟨v,U,R,p3,p4⟩:=P.2 i e he;⟨v,U,(u9 _).trans R,(u9 _).trans p3,p4⟩⟩
 |mit m T seen f=>exact h
 |mitU m T bs st =>obtain⟨r,l,l',seen,f,n,q1,q2,C,P,q5,q6,q7⟩:=h;exact⟨r,l,l',seen,f,n,q1,q2,C,P,q5,J.trans q6,q7⟩
 |sit s p=>exact h
 |clo fn first caps =>obtain⟨r,a,b,q1,q2,C⟩:=h;exact⟨r,a,b,(zf _).trans q1,(zf _).trans q2,C⟩
 |ifc t v =>obtain⟨r,u,q1,q2⟩:=h;exact⟨r,u,(u9 _).trans q1,q2⟩
 |emp=>exact h
 |yld=>exact h
 |dead=>exact h
 |res=>exact h
 |resI m b c=>exact h
section
variable {φ ψ:Gx}
variable{v:Value}
def afU (j:∀k g l,φ.loc k g=some l→ψ.loc k g=some l)(f:∀k v,φ.val k=some v→ψ.val k=some v){c:CV}(h:den φ c=some v):den ψ c=some v :=
 dZ (φ:=⟨φ.loc,φ.val,λ_=>none⟩) ⟨j,f,λ_ _ h=>by cases h⟩ ((KO c).trans h)
def ada (j:∀k g l,φ.loc k g=some l→ψ.loc k g=some l)(f:∀k v,φ.val k=some v→ψ.val k=some v){c:PV}(h:aP φ c=some v):aP ψ c=some v :=
 cF (φ:=⟨φ.loc,φ.val,λ_=>none⟩) ⟨j,f,λ_ _ h=>by cases h⟩ ((u9 c).trans h)
def ZW (p:∀k g l,φ.loc k g=some l→ψ.loc k g=some l)(j:∀k v,φ.val k=some v→ψ.val k=some v){c:CV}{f :Value}(h:den φ c=some v)(r:den ψ c=some f):v=f:=by have:=afU p j h;rw[r]at this;exact(π this).symm
def As (p:∀k g l,φ.loc k g=some l→ψ.loc k g=some l)(j:∀k v,φ.val k=some v→ψ.val k=some v){c:PV}{f :Value}(h:aP φ c=some v)(r:aP ψ c=some f):v=f:=by have:=ada p j h;rw[r]at this;exact(π this).symm
def gp.back (R:∀k g l,φ.loc k g=some l→ψ.loc k g=some l)(hv:∀k v,φ.val k=some v→ψ.val k=some v){w w':World}{B:Nat}{k:Pos}{o:EO}(hm:∀n,φ.mu k=some n→ψ.mu k=some n)(h:gp φ w B k o)(h':gp ψ w' B k o):gp φ w' B k o:=by
 cases o with
 |none=>exact h
 |row e s el len gen fz =>obtain⟨h0,h1,hmm,h2,h3⟩:=h;obtain⟨_,_,_,_,h3'⟩:=h';refine⟨h0,h1,hmm,h2,λg hg=>?_⟩;obtain⟨l,q1,⟨r1,r2,arr,fr,r3,r4,r5,r6⟩,q3⟩:=h3 g hg;obtain⟨l',f,⟨_,_,arr',fr',r3',r4',r5',r6'⟩,_⟩:=h3' g hg;rw[R _ _ _ q1]at f;cases f;refine⟨l,q1,⟨r1,r2,arr',fr',r3',r4',r5',λi hi hmi=>⟨(r6 i hi hmi).1,(r6 i hi hmi).2.1,λj c hc=>?_⟩⟩,q3⟩;obtain⟨v,_,p2⟩:=(r6 i hi hmi).2.2 j c hc;obtain⟨v',p1',p2'⟩:=(r6' i hi hmi).2.2 j c hc;have:=ZW R hv p2 p2';subst this;exact⟨v,p1',p2⟩
 |map es clock =>obtain⟨h1,l,vs,q1,q2,q3,q4⟩:=h;obtain⟨_,l',vs',f,_,C,J⟩:=h';rw[R _ _ _ q1]at f;cases f;refine⟨h1,l,vs',q1,q2,C,J.1,λi e he=>?_⟩;obtain⟨v,p1,p2,p3,p4⟩:=q4.2 i e he;obtain⟨v',p1',p2',p3',p4'⟩:=J.2 i e he;exact⟨v',p1',by rw[p2,As R hv p2 p2'],by rw[p3,As R hv p3 p3'],p4'⟩
 |mit m T seen stepped=>
  obtain⟨h1,l,q1,q2,q3⟩:=h;obtain⟨_,l',f,_,C⟩:=h';rw[R _ _ _ q1]at f;cases f;refine⟨h1,l,q1,q2, ?_⟩;cases m with
  |none=>exact C
  |some m =>obtain⟨l2,q4,q5⟩:=q3;obtain⟨l2',J,q5'⟩:=C;rw[R _ _ _ q4]at J;cases J;exact⟨l2,q4,q5'⟩
 |mitU m T bs st =>obtain⟨h1,l,l2,seen,stepped,n,q1,q2,q3,q4,q5,q6,q7⟩:=h;obtain⟨_,l',l2',P,U,n',f,_,C,J,q5',q6',q7'⟩:=h';rw[R _ _ _ q1]at f;cases f;rw[R _ _ _ q3]at C;cases C;rw[hm _ q6]at q6';cases q6';exact⟨h1,l,l2,P,U,n,q1,q2,q3,J,q5',q6,q7'⟩
 |resI m b c =>obtain⟨h1,l,l2,T,seen,q1,q2,q3,q4,q5⟩:=h;obtain⟨_,l',l2',since',P,f,_,C,J,q5'⟩:=h';rw[R _ _ _ q1]at f;cases f;rw[R _ _ _ q3]at C;cases C;exact⟨h1,l,l2,since',P,q1,q2,q3,J,q5'⟩
 |sit s p =>obtain⟨h1,h2,l,q1,q2,q3⟩:=h;obtain⟨_,_,l',f,_,C⟩:=h';rw[R _ _ _ q1]at f;cases f;exact⟨h1,h2,l,q1,q2,C⟩
 |clo fn first caps=>exact h
 |ifc t v=>exact h
 |emp=>exact h
 |dead=>exact λg l q=>⟨(h g l q).1,(h' g l (R _ _ _ q)).2⟩
 |res=>exact λg l q=>⟨(h g l q).1,(h' g l (R _ _ _ q)).2⟩
 |yld =>obtain⟨h1,l,q1,q2,q3,r,q4⟩:=h;obtain⟨_,l',f,_,_,r',J⟩:=h';rw[R _ _ _ q1]at f;cases f;exact⟨h1,l,q1,q2,q3,r',J⟩
end
def Gx.setMu (f:Gx)(k:Pos)(n:Nat):Gx:=⟨f.loc,f.val,λq=>if q=k then some n else f.mu q⟩
def vA (bs:List Nat)(seen:Array Nat):Nat:=(bs.filter λb=>!seen.contains b).length
section
variable {P:Program}{Gl:Glt}{B lo:Nat}{W:W0}{φ U ψ:Gx}{h h' h0:Pos→EO}{w w' w0:World}{it m:Pos}{T sp nt:Nat}{bs:List Nat}
variable{seen:List Nat}{a:Act}{o:Oper}{x:Operand}{K:Act→World→Prop}{Q:Exit→Act→World→Prop}
def toU {c:Nat}(f:Inv B W φ h w)(j:h it = .mit (some m) T (seen++[c]) sp)(g:T≤sp):Inv B ⟨w,φ.setMu it (vA bs (seen++[c]).toArray+1)⟩ (φ.setMu it (vA bs (seen++[c]).toArray+1)) (upd h it (.mitU m T bs (some (c,sp)))) w:=by
 refine⟨Below.refl _ _,Kp.refl _,Gx.le.refl _,λ_ _=>⟨λ_=>rfl,rfl,rfl,λ_ _ _=>rfl⟩,f.size,λk=>?_,f.sep⟩;by_cases e:it=k
 ·subst e;rw[ay];have:=f.obj it;rw[j]at this;obtain⟨R,l,q1,q2,J,C,r⟩:=this;refine⟨R,l,J,(seen++[c]).toArray,sp,_,q1,q2,C,r,g,β rfl,ζ _,λp P=>?_⟩;cases P;exact⟨Ψ,rfl⟩
 ·rw[aU _ _ e];exact(f.obj k).mu (B' λU=>e U.symm)
def forget {n0:Nat}(P:∃l,φ.loc m 0=some l)(R:∃l,φ.loc it 0=some l)(h1it:∀g,0<g→φ.loc it g=none)(J:Inv B ⟨w,φ.setMu it n0⟩ ψ h' w')(j:(φ.setMu it n0).le ψ)(U:∀k,k≠it→h' k=h k∨h k = .none)(r:∃p,h' it = .mitU m T bs (some p)) :
  ∃f C,T≤C∧vA bs f.toArray+1≤n0∧∀W,Inv B W φ h w→Inv B W φ (upd h it (.mit (some m) T f C)) w':=by
 obtain⟨p,r⟩:=r;have ho:=J.obj it;rw[r]at ho;obtain⟨_,l,l',f,C,n',q1,q2,q3,q4,q5,q6,q7,_⟩:=ho;obtain⟨lm,P⟩:=P;obtain⟨li,R⟩:=R;have e1:li=l:=by have:=j.loc it 0 li R;rw[q1]at this;exact(π this).symm
 have e2:lm=l':=by have:=j.loc m 0 lm P;rw[q3]at this;exact(π this).symm
 have e3:n'=n0:=by have:=j.mu it n0 (β rfl);rw[q6]at this;exact π this
 subst e1;subst e2;subst e3;refine⟨f.toList,C,q5,by rw[aiU];exact q7,λW hI=>⟨hI.below.trans J.below,hI.kp.trans J.kp,hI.le,λk hk=>?_,J.size,λk=>?_,hI.sep⟩⟩
 ·by_cases e:it=k
  ·subst e;rw[ay]at hk;cases hk
  ·rw[aU _ _ e]at hk;obtain⟨b1,b2,b3,b4⟩:=hI.res k hk;rcases U k (λe'=>e e'.symm)with h2|h2
   ·obtain⟨a1,a2,a3,a4⟩:=J.res k (by rw[h2];exact hk);exact⟨b1,b2,b3,λg l hl=>(a4 g l ((a1 g).trans hl)).trans (b4 g l hl)⟩
   ·rw[h2]at hk;cases hk
 ·by_cases e:it=k
  ·subst e;rw[ay];exact⟨h1it,li,R,q2,lm,P,by rw[aiU];exact q4⟩
  ·rw[aU _ _ e];rcases U k (λe'=>e e'.symm)with h2|h2
   ·have hj:=J.obj k;rw[h2]at hj;exact gp.back (φ:=φ) (ψ:=ψ) (w:=w) (λk g l h=>j.loc k g l h) (λk v h=>j.val k v h) (λn hn=>j.mu k n ((B' λe'=>e e'.symm).trans hn)) (hI.obj k) hj
   ·have:=hI.free h2;rw[h2];exact this
def Cb (g:o.op = .next x false){v:Value}{w':World}(f:(Instr.next (a.eval x) false o.type).run P w = .ok v w')(j:K (a.put o.dst v) w'):o.wp P a w K Q:=by
 unfold Oper.wp;have:(execOp a.eval o).run P w = .ok (.value v) w':=by unfold execOp;simp[g,f]
 rw[this];exact j
def Vg (hI:Inv B W φ h w)(ho:o.op = .next x false){g:Nat}(hv:RT φ (.pv (.one (.ptr it g 0))) (a.eval x)){p:List ME}{clock:Nat}(hit:h it = .mit (some m) T seen sp)(hm:h m = .map p clock)(hold:p.all (λx=>Nat.blt x.born T)=true)(hsp:T≤sp)
  (r:∀v,RT φ vI v→K (a.put o.dst v) w)
  (C:∀y∈p,seen.toArray.contains y.born=false→∀v U,RT φ (nc y.key y.val) v→bv B φ h w φ (upd h it (.mit (some m) T (seen++[y.born]) clock)) U→K (a.put o.dst v) U):o.wp P a w K Q:=by
 have hob:=hI.obj it;rw[hit]at hob;obtain⟨g1,l,q1,q2,lm,q3,q4⟩:=hob;have hom:=hI.obj m;rw[hm]at hom;obtain⟨_,l2,vs,y1,y2,y3,y4⟩:=hom;rw[q3]at y1;cases y1;have J:∀x∈vs.toList,x.born<T:=λz hz=>by
  obtain⟨i,hi⟩:=N_ hz;have f:i<p.length:=by have:=(N'.1 hi).1;have:=y4.1;omega
  obtain⟨me,R,_,_,z4⟩:=y4.2 i p[i] (δ f);rw[hi]at R;cases R;rw[z4];exact bM.1 (T'.1 hold _ (e_ f))
 have hp:=sY hI hv q1 g1;rcases run_next_at (P:=P) w o.type l.b lm.b T sp seen.toArray vs clock q4 y3 J hsp with⟨_,hr⟩|⟨e,he,U,hw1,hr⟩
 ·exact Cb ho (by rw[hp];exact hr) (r _ ⟨_,rfl,rfl⟩)
 ·unfold leftOf at he;have j:e∈vs∧(!seen.toArray.contains e.born)=true:=by
   have:=q_.1 he;exact aiy.1 this
  obtain⟨i,hi⟩:=N_ (q_.2 j.1);have f:i<p.length:=by have:=(N'.1 hi).1;have:=y4.1;omega
  obtain⟨me,R,z2,z3,z4⟩:=y4.2 i p[i] (δ f);rw[hi]at R;cases R;refine Cb ho (by rw[hp];exact hr) (C p[i] (e_ f) (by rw[←z4];simpa using j.2) _ _ ⟨_,bt rfl (bt z2 (bt z3 rfl)),rfl⟩ ?_);have hI1:bv B φ h w φ h U:=by
   obtain rfl|rfl:=hw1
   ·exact bv.refl
   ·exact⟨Gx.le.refl _,λW h=>h.drew,λk hk=>hk⟩
  refine hI1.trans ?_;have hq4:U.heap[l.b]? = some (.mapIter (some lm.b) T seen.toArray sp):=by obtain rfl|rfl:=hw1 <;> exact q4
  refine⟨Gx.le.refl _,λW hI=>?_,λk hk=>?_⟩
  ·refine hI.setO q1 g1 (ob :=.mapIter (some lm.b) T seen.toArray sp) hq4 rfl ⟨g1,l,q1,q2,lm,q3, ?_⟩;rw[(aix hq4).1,z4];simp
  ·by_cases e:it=k
   ·subst e;rw[ay]at hk;cases hk
   ·rwa[aU _ _ e]at hk
end
def Ar:∀(l:List Pos) (e:Env) (t:Pos),(nR l e).get .unk t = .unk∨(nR l e).get .unk t=e.get .unk t
 |[],_,_=>.inr rfl
 |p::l,e,t=>by
  simp[nR];obtain h|h:=Ar l (PM.set .unk p e .unk) t
  ·exact .inl h
  ·rw[h,PM.get_set];simp only[upd];split
   ·exact .inl rfl
   ·exact .inr rfl
def u0:∀(e:Env) (t:Pos),(iz e).get .unk t = .unk∨(iz e).get .unk t=e.get .unk t
 |.leaf,_=>.inr rfl
 |.node l a r,.e=>by
  simp[iz,PM.get];split
  ·exact .inl rfl
  ·exact .inr rfl
 |.node l a r,.o p=>u0 l p
 |.node l a r,.i p=>u0 r p
variable{φ:Gx}{e:Env}{tmps:Array Value}{ro:Option Nat}
def ER.weak {f :Env}(h:ER φ e tmps)(g:∀t,f.get .unk t = .unk∨f.get .unk t=e.get .unk t):ER φ f tmps:=λt j=>by
 rcases g (pos t)with h1|h1
 ·rw[h1];trivial
 ·rw[h1];exact h t j
def ER.drop (h:ER φ e tmps)(l:List Pos):ER φ (nR l (iz e)) tmps:=(h.weak (u0 e)).weak (Ar l _)
def oW:∀{e f:Env},oX e f=true→∀t,LG (e.get .unk t) (f.get .unk t)=true
 |.leaf,_,_,t=>rfl
 |.node l a r,.leaf,h,t=>by
  simp[oX]at h;cases t with
  |e=>exact h.1.1
  |o p=>exact oW h.1.2 p
  |i p=>exact oW h.2 p
 |.node l a r,.node j C g,h,t=>by
  simp[oX]at h;cases t with
  |e=>exact h.1.1
  |o p=>exact oW h.1.2 p
  |i p=>exact oW h.2 p
def LF {a f:TV}(h:LG a f=true):a = .unk∨∃p,a = .pv p∧f = .pv p:=by
 unfold LG at h;split at h
 ·exact .inl rfl
 ·split at h
  ·rw[KR h];exact .inr ⟨_,rfl,rfl⟩
  ·cases h
 ·split at h
  ·rw[tH h];exact .inr ⟨_,rfl,rfl⟩
  ·cases h
 ·cases h
def ER.back {ψ:Gx}(P:∀k g l,φ.loc k g=some l→ψ.loc k g=some l)(C:∀k v,φ.val k=some v→ψ.val k=some v){r :Env}{f :Array Value}(T:ER φ e tmps)(R:ER ψ r f)(J:oX e r=true):ER φ e f:=λt j=>by
 rcases LF (oW J (pos t))with h|⟨p,h,U⟩
 ·rw[h];trivial
 ·have a:=T t j;have b:=R t j;rw[h]at a⊢;rw[U]at b;have a:aP φ p=some _:=a;have b:aP ψ p=some _:=b;show aP φ p=some _;rw[a,As P C a b]
def zu {C:Pos}{h:Pos→EO}:∀{d:DM} {c:Pos→Pos},GR C h d c=true→∀p o,PM.get none d p=some o→h (c p) = .none∨c p=C
 |.leaf,_,_,p,o,g=>by cases g
 |.node l a r,c,f,p,o,g=>by
  simp[GR]at f;cases p with
  |e=>
   have j:=f.1.1;cases a with
   |none=>cases g
   |some J=>
    simp only at j;split at j
    next hn=>exact .inl hn
    ·exact .inr (Pos.beq_iff.1 j)
  |o p=>exact zu f.1.2 p o g
  |i p=>exact zu f.2 p o g
def Im {f:ME→RX}{ok:Env→DM→Bool}:∀{j:List ME},Ol f ok j=true→∀y∈j,∃e d n,f y = .ok .normal e d n∧ok e d=true
 |[],_,y,hy=>by cases hy
 |x::j,h,y,hy=>by
  simp[Ol]at h;split at h
  next e d n l=>
   cases g:ok e d with
   |false=>rw[g]at h;cases h
   |true=>
    rw[g]at h;obtain rfl|hy:=C'.1 hy
    ·exact⟨e,d,n,l,g⟩
    ·exact Im h y hy
  ·cases h
def PU {m:Pos}{T:Nat}{j:List Nat}{o:EO}(h:Sm m T j o=true):∃p,o = .mitU m T j (some p):=by
 unfold Sm at h;split at h
 next m' s' b' p=>
  simp[Pos.beq_iff]at h;obtain⟨⟨rfl,rfl⟩,h⟩:=h;have f:∀{l m:List Nat},vz l m=true→l=m:=by
   intro l;induction l with
   |nil=>intro m h;cases m with|nil=>rfl|cons _ _=>cases h
   |cons x l r=>
    intro m h;cases m with
    |nil=>cases h
    |cons y m=>
     simp only[vz]at h;cases g:Nat.beq x y with
     |false=>rw[g]at h;cases h
     |true=>rw[g]at h;rw[ν g,r h]
  rw[f h];exact⟨p,rfl⟩
 ·cases h
variable [SymVal]
def we (B j:Nat)(U:Gx)(l:Pos→EO)(f:World)(g:Nat)(x:Ex)(e:Env)(h:Pos→EO):Exit→Act→World→Prop
 |.normal,a,w=>x = .normal∧Rl B j U l f g e h a w
 |.exit id,a,w=>x = .exit id∧Rl B j U l f g e h a w
 |.ret,a,w=>x = .ret∧Rl B j U l f g e h a w
 |_,_,_=>False
def aT (ro:Option Nat)(c:Code):Prop:=ro=none∨cj c=true
def aT.left {p q:Bool}(h:ro=none∨(p&&q)=true):ro=none∨p=true:=h.imp id λh=>(M?.1 h).1
def aT.right {p q:Bool}(h:ro=none∨(p&&q)=true):ro=none∨q=true:=h.imp id λh=>(M?.1 h).2
def aT.ops {i:Nat}{f:Array Oper}{g:Bool}(h:aT ro (.region i f g)):∀o∈f.toList,ff ro o:=λo j=>h.imp id λh c e=>by have:=T'.1 h o j;rw[e]at this;cases this
def zD (ro:Option Nat)(f:World):Prop:=∀l,ro=some l→∃r,f.heap[l]? = some (.loop r)
def zD.more {w f:World}(h:zD ro w)(p:Kp w f):zD ro f:=λl j=>by obtain⟨r,g⟩:=h l j;exact⟨r,p.keep _ _ g rfl⟩
def mI (P:Program)(J:Glt)(B:Nat)(ck:Callk)(R:List Lq)(g j:Nat)(c:Code):Prop :=
 ∀(ro:Option Nat) (n l:Nat) (W:W0) (U:Gx) (p:Pos→EO) (f:World),Inv B W U p f→mJ J P B W→Ctx R U f→zD ro f→aT ro c→l≤f.heap.size→∀(b:HP) (e:Env) (d:DM) (T:Pos) (a:Act) (w:World) (x:Ex) (r:Env) (C:DM) (n':Pos),
  exec ck g (cC P J j c) b e d T = .ok x r C n'→Rl B l U p f j e (HP.ov b d).get a w→c.wpIn (RF ro) n P (we B l U p f j x r (HP.ov b C).get) a w
section
variable {P:Program}{Gl:Glt}{B:Nat}{ck:Callk}{Γ:List Lq}{fuel nt:Nat}
def Iv {φ:Gx}{h:Pos→EO}{w:World}{k:Pos}(_:blank (h k)=false):bv B φ h w φ (upd h k .dead) w:=by
 refine⟨Gx.le.refl _,λW j=>⟨j.below,j.kp,j.le,λq f=>?_,j.size,λq=>?_,j.sep⟩,λq f=>?_⟩
 ·by_cases e:k=q
  ·subst e;rw[ay]at f;cases f
  ·rw[aU _ _ e]at f;exact j.res q f
 ·by_cases e:k=q
  ·subst e;rw[ay];exact λg l p=>j.blk p
  ·rw[aU _ _ e];exact j.obj q
 ·by_cases e:k=q
  ·subst e;rw[ay]at f;cases f
  ·rwa[aU _ _ e]at f
def abM (b:HP):(HP.ov b .leaf).get=b.get:=rfl
def Az {y:ME}:∀{f:List ME},y∈f→y.born∈cx f
 |[],h=>by cases h
 |z::f,h=>by
  simp only[cx];obtain rfl|h:=C'.1 h
  ·exact S' ..
  ·exact J' _ (Az h)
def TG {f seen:List Nat}{c:Nat}(j:c∈f)(g:seen.toArray.contains c=false):vA f (seen++[c]).toArray<vA f seen.toArray:=by
 have e:(f.filter λb=>!(seen++[c]).toArray.contains b)=(f.filter λb=>!seen.toArray.contains b).filter λb=>decide (b≠c):=by rw[u?];apply l?;intro b _;by_cases h:b=c <;> simp[h]
 unfold vA;rw[e];refine air.2 ⟨c, ?_,Ψ⟩;rw[C?];exact⟨j,by rw[g];rfl⟩
def Mj {id:Nat}{f:Array Oper}{y:Code}{x:Src}{dst:Option Pos}{l:List OP}(hco:ir P Gl nt f.toList f.toList = .nxt x dst::l)(ckok:CkOk P Gl B ck Γ)(Sy:mI P Gl B ck Γ fuel nt y)
  {ro:Option Nat} {n lo:Nat} {W:W0} {U:Gx} {h0:Pos→EO} {w0:World} (R:Inv B W U h0 w0) (hG:mJ Gl P B W) (hcx:Ctx Γ U w0) (hro:zD ro w0) (hnd:aT ro (.seq (.region id f false) y)) (hlo:lo≤w0.heap.size)
  {b:HP} {e0:Env} {d:DM} {n1:Pos} {r m:Pos} {g T sp0 clock:Nat} {C:List ME} (hx:bn e0 x = .pv (.one (.ptr r g 0))) (hit0:(HP.ov b d).get r = .mit (some m) T [] sp0) (hm0:(HP.ov b d).get m = .map C clock) (hold:C.all (λx=>Nat.blt x.born T)=true) (hclk:T≤clock)
  (heach:Ol (λy'=>iy (aF ck (.ov b (bO d r (.mitU m T (cx C) none))) l (aO e0 dst (nc y'.key y'.val)) (bO .leaf r (.mitU m T (cx C) (some (y'.born,clock)))) n1) (exec ck fuel (cC P Gl nt y) (.ov b (bO d r (.mitU m T (cx C) none)))))
         (λe' d'=>GR r (HP.ov b (bO d r (.mitU m T (cx C) none))).get d' (λp=>p)&&oX e0 e'&&Sm m T (cx C) ((HP.ov (.ov b (bO d r (.mitU m T (cx C) none))) d').get r)) C=true)
  {X:Ex} {e':Env} {d':DM} {n':Pos} (hfin:iy (aF ck b l (aO e0 dst vI) (bO d r .dead) n1) (exec ck fuel (cC P Gl nt y) b) = .ok X e' d' n') (hX:X ≠ .normal) :
  ∀(j:Nat) (seen:List Nat) (sp:Nat) (a:Act) (w:World),T≤sp→vA (cx C) seen.toArray<j→Rl B lo U h0 w0 nt e0 (upd (HP.ov b d).get r (.mit (some m) T seen sp)) a w→Code.roundsIn (RF ro) n P (.seq (.region id f false) y) (we B lo U h0 w0 nt X e' (HP.ov b d').get) j a w:=by
 obtain⟨o0,au,hL⟩:∃o0 au,f.toList=o0::au:=by
  cases hL:f.toList with
  |nil=>rw[hL]at hco;simp only[ir]at hco;cases hco
  |cons o0 au=>exact⟨o0,au,rfl⟩
 have hco':=hco;rw[show ir P Gl nt f.toList f.toList=ir P Gl nt f.toList (o0::au) from Y' (ir P Gl nt f.toList) hL]at hco';simp[ir]at hco';obtain⟨hc0,hcr⟩:=hco';have hoi:f[0]? = some o0:=by rw[←Array.getElem?_toList,hL];rfl
 have hsz:0<f.size:=by have:=Y' List.length hL;simp at this;omega
 have hdrop:f.toList.drop 1=au:=by rw[hL];rfl
 have hno:ff ro o0:=(aT.ops (aT.left hnd)) o0 (by rw[hL];exact S' ..);obtain⟨itop,hop,hxe,hdst,hg⟩:=Cs hc0;have hmit:m≠r:=λe=>by rw[e,hit0]at hm0;cases hm0
 intro j;induction j with
 |zero=>exact λseen sp a w hsp hcnt hr=>Ω
 |succ j ih=>
   intro seen sp a w hsp hcnt hr;rw[roundsIn_succ];refine wpIn_seq (wpIn_region ?_);rw[I?,show f.size=(f.size-1)+1 by omega,U_,wpOpsIn_cons];obtain⟨φ,hs,hE⟩:=hr.ex;have hI:=hs.2.1 _ R;unfold wpOpIn;simp[hoi];rw[β (by simp[Region.wanted,hg])];refine sE hno ?_;have hv:=gi hE itop;rw[←hxe,hx]at hv;refine Vg hI hop hv (ay _ _ _) ((aU _ _ λe=>hmit e.symm).trans hm0) hold hsp (λv hv=>?_) (λy0 hy hnb v w1 hv hst=>?_)
   ·have hst:bv B φ (upd (HP.ov b d).get r (.mit (some m) T seen sp)) w φ (HP.ov b (bO d r .dead)).get w:=by
     have e:(HP.ov b (bO d r .dead)).get=upd (upd (HP.ov b d).get r (.mit (some m) T seen sp)) r .dead:=by rw[HP.get_set,ke]
     rw[e];exact Iv (by rw[ay];rfl)
    have hr':=hr.step R hs hE hst hdst hv;unfold iy at hfin;split at hfin
    ·rename_i e1 d1 n2 hrun;refine bp (n:=n) R hG ckok hcx (aT.ops (aT.left hnd)) (λa' w' hr2=>?_) au 1 _ _ n1 _ _ hdrop (by rw[hcr];exact hrun) hr';refine wpIn_mono (Sy ro n lo W U h0 w0 R hG hcx hro (aT.right hnd) hlo b e1 d1 n2 a' w' X e' d' n' hfin hr2) λex a3 w3 hn=>?_;cases ex with
     |normal=>exact(hX hn.1).elim
     |exit _=>exact hn
     |ret=>exact hn
     |goto _=>exact hn
     |panic _=>exact hn
     |outgrown=>exact hn
    ·cases hfin
   ·
    obtain⟨e1,d1,n2,hf,hok⟩:=Im heach y0 hy;simp at hok;obtain⟨⟨hall,hsub⟩,hsame⟩:=hok;rw[ke]at hst;have hs2:=hs.trans hst;have hI2:=hs2.2.1 _ R;have hob:=hI2.obj r;rw[ay]at hob;obtain⟨g1,li,q1,q2,lm,q3,q4⟩:=hob;generalize hn0:vA (cx C) (seen++[y0.born]).toArray+1=n0;have hU:=toU (bs:=cx C) hI2 (ay _ _ _) hclk;rw[ke,hn0]at hU;have eH:(HP.ov (.ov b (bO d r (.mitU m T (cx C) none))) (bO .leaf r (.mitU m T (cx C) (some (y0.born,clock))))).get=upd (HP.ov b d).get r (.mitU m T (cx C) (some (y0.born,clock))):=by rw[HP.get_set,abM,HP.get_set,ke]
    obtain⟨p1,p2⟩:=dx (hE.mono hst.1) hr.sz hdst hv;obtain⟨ms,m1,m2,m3⟩:=hr.df;have hKp:=(hst.2.1 _ hI.self).kp;have hr1:Rl B lo (φ.setMu r n0) (upd (HP.ov b d).get r (.mitU m T (cx C) (some (y0.born,clock)))) w1 nt (aO e0 dst (nc y0.key y0.val)) (HP.ov (.ov b (bO d r (.mitU m T (cx C) none))) (bO .leaf r (.mitU m T (cx C) (some (y0.born,clock))))).get (a.put o0.dst v) w1:=by rw[eH];refine⟨⟨_,bv.refl,aek p1⟩,p2,ms, ?_,m2,λD hD=>⟨(m3 D hD).1,hKp.keep _ _ (m3 D hD).2 rfl⟩⟩;cases o0.dst <;> exact m1
    have hG1:mJ Gl P B ⟨w1,φ.setMu r n0⟩:=hG.more hI2;have hcx1:Ctx Γ (φ.setMu r n0) w1:=λq hq=>by obtain⟨z1,z2,z3⟩:=(hcx.more R hs2) q hq;exact⟨z1,z2,aek z3⟩
    have hro1:zD ro w1:=hro.more (hs2.2.1 _ R.self).kp;unfold iy at hf;split at hf
    ·rename_i e2 d2 n3 hrun;refine bp (n:=n) hU hG1 ckok hcx1 (aT.ops (aT.left hnd)) (λa' w' hr2=>?_) au 1 _ _ n1 _ _ hdrop (by rw[hcr];exact hrun) hr1;refine wpIn_mono (Sy ro n lo _ _ _ _ hU hG1 hcx1 hro1 (aT.right hnd) (Θ hlo (hs2.2.1 _ R.self).below.size) _ e2 d2 n3 a' w' .normal e1 d1 n2 hf hr2) λex a3 w3 hn=>?_;cases ex with
     |exit _=>exact(by cases hn.1)
     |ret=>exact(by cases hn.1)
     |goto _=>exact hn.elim
     |panic _=>exact hn.elim
     |outgrown=>exact hn.elim
     |normal=>
      obtain⟨_,hr3⟩:=hn;obtain⟨ψ,hs3,hE3⟩:=hr3.ex;have J:=hs3.2.1 _ hU;obtain⟨seen',sp',f1,f2,f3⟩:=forget (h:=upd (HP.ov b d).get r (.mit (some m) T (seen++[y0.born]) clock)) ⟨lm,q3⟩ ⟨li,q1⟩ g1 J hs3.1 (λk hk=>by
       rw[aU _ _ (λe=>hk e.symm)];cases hd:PM.get none d1 k with
       |none =>refine .inl ?_;simp[HP.get,hd,bO,PM.get_set];rw[aU _ _ (λe=>hk e.symm)]
       |some o=>
        refine .inr ?_;obtain h1|h1:=zu hall k o hd
        ·rw[HP.get_set,aU _ _ (λe=>hk e.symm)]at h1;exact h1
        ·exact(hk h1).elim) (PU hsame)
      refine ih seen' sp' a3 w3 f1 ?_ ⟨⟨φ,⟨hs.1,λW hW=>?_,λk hk=>?_⟩, ?_⟩,hr3.sz,hr3.df⟩
      ·
       have hlt:vA (cx C) (seen++[y0.born]).toArray<vA (cx C) seen.toArray:=TG (Az hy) hnb;omega
      ·have:=f3 W (hs2.2.1 _ hW);rwa[ke]at this
      ·refine hs.2.2 k ?_;by_cases e:r=k
       ·subst e;rw[ay]at hk⊢;exact hk
       ·rw[aU _ _ e]at hk⊢;exact hk
      ·exact ER.back (φ:=φ) (ψ:=ψ) (λk g l h=>hs3.1.loc k g l h) (λk v h=>hs3.1.val k v h) hE hE3 hsub
    ·cases hf
end
variable [SymVal]
def ah0 (Q:Exit→Act→World→Prop):Exit→Act→World→Prop
 |.goto _,_,_=>False
 |e,a,w=>Q e a w
def jY {F:Fence}{n:Nat}{P:Program}{Q:Exit→Act→World→Prop}{a:Act}{w:World}{c:Code}(h:c.wpIn F n P (ah0 Q) a w):(Code.scope c).wpIn F n P Q a w:=by
 intro b k C R hb U;have s1:step P (lone (b.atR a (.code (.scope c)::k)) C w) = .next (lone (b.atR a (.code c :: .inScope c::k)) C w):=step_lone_go (by simp[stepG,stepG.exec,Frame.atR])
 have s2:∀(a:Act) (w:World),step P (lone (b.atR a (.inScope c::k)) C w) = .next (lone (b.atR a k) C w):=λa w=>step_lone_go (by simp[stepG,stepG.exec,Frame.atR])
 have r:(lone (b.atR a (.code (.scope c)::k)) C w).fenced P F:=fenced_calm hb U rfl;obtain⟨e,j,g,p,f⟩:=h b (.inScope c::k) C R hb U;cases e with
 |normal=>exact⟨.normal,j,g,p,.head r s1 (StepsIn.trans f (.one (fenced_calm hb U rfl) (s2 _ _)))⟩
 |exit id=>
  have hx:exitTo id (.inScope c::k)=exitTo id k:=by simp[exitTo]
  exact⟨.exit id,j,g,p,λk' hk=>.head r s1 (f.1 k' (by rw[hx];exact hk)),
   λT hk=>let ⟨J,h1,h2⟩:=f.2 T (by rw[hx];exact hk);⟨J,h1,.head r s1 h2⟩⟩
 |goto l=>exact p.elim
 |ret=>exact⟨.ret,j,g,p,.of_steps (.one r s1) f⟩
 |panic ch=>exact⟨.panic ch,j,g,p,.of_steps (.one r s1) f⟩
 |outgrown=>exact⟨.outgrown,j,g,p,.of_steps (.one r s1) f⟩
section
variable {P:Program}{Gl:Glt}{B lo:Nat}{ck:Callk}{Γ:List Lq}{fuel nt:Nat}
variable{w:World}{φ:Gx}{L:Nat}
def vZ (fn:FuncId)(tmps:Array Value)(ps:Array Tmp)(assign body:Code){ro:Option Nat}(p:∀l,ro=some l→∃r,w.heap[l]? = some (.loop r)) :
  ∃(l:Nat) (mark:List Deferred) (f:World) (D:Nat),(Instr.enterLoop fn tmps ps assign body ro).run P w = .ok (l,mark) f∧w.grownBy f none∧w.heap.size≤l∧f.drawn=w.drawn ∧
   f.heap[l]? = some (.loop { state :=.ready,pending:=none,fn,tmps,params:=ps,assign,body,defers:=D }) ∧
   ∃j:List Nat,mark=j.map (λD=>{ target :=.collected D,args :=#[] })∧j.Nodup∧∀D∈j,w.heap.size≤D∧D≠l∧f.heap[D]? = some (.deferred (some [])):=by
 cases ro with
 |none=>
  refine⟨_,_,_,w.heap.size,run_enterLoop_outer fn tmps ps assign body,(i_ w _ none).trans (i_ _ _ none),Ω,rfl, ?_,[w.heap.size],rfl,Ψ,λD g=>?_⟩
  ·have:=World.alloc_heap_new (w.alloc (.deferred (some []))) (.loop { state :=.ready,pending:=none,fn,tmps,params:=ps,assign,body,defers:=w.heap.size });rw[aiu]at this;exact this
  ·simp only[E']at g;subst g;refine⟨ζ _,Ω, ?_⟩;rw[Below.heap_alloc _ _ _ (by rw[aiu];omega)];exact World.alloc_heap_new _ _
 |some C =>obtain⟨r0,J⟩:=p C rfl;refine⟨w.heap.size,[],w.alloc (.loop { state :=.ready,pending:=none,fn,tmps,params:=ps,assign,body,defers:=r0.defers }),r0.defers, ?_,i_ w _ none,ζ _,rfl,World.alloc_heap_new _ _,[],rfl,Ψ,λD g=>by cases g⟩;unfold Instr.enterLoop;simp[ξ,run_getLoop J,run_newObj_alloc,a_]
def sT {c:Code}(Sc:mI P Gl B ck Γ fuel nt c){ro:Option Nat}{n:Nat}{W:W0}{U:Gx}{h0:Pos→EO}{g:World}(R:Inv B W U h0 g)(hG:mJ Gl P B W)(J:Ctx Γ U g)(p:zD ro g)(r:aT ro c)(C:lo≤g.heap.size){b:HP}:∀(j:Nat) (e:Env) (d:DM) (n1:Pos) (a:Act) (w:World) (x:Ex) (e':Env) (d':DM) (n':Pos),
  pE (exec ck fuel (cC P Gl nt c) b) j e d n1 = .ok x e' d' n'→Rl B lo U h0 g nt e (HP.ov b d).get a w→Code.roundsIn (RF ro) n P c (we B lo U h0 g nt x e' (HP.ov b d').get) j a w
 |0,e,d,n1,a,w,x,e',d',n',h,hr=>by cases h
 |j+1,e,d,n1,a,w,x,e',d',n',h,hr=>by
  simp[pE]at h;split at h
  next x1 e1 d1 n2 hb=>
   rw[roundsIn_succ];refine wpIn_mono (Sc ro n lo W U h0 g R hG J p r C b e d n1 a w x1 e1 d1 n2 hb hr) λex a' w' l=>?_;have T:x1 ≠ .normal→RX.ok x1 e1 d1 n2 = .ok x e' d' n':=λhx=>by
    split at h
    ·exact(hx rfl).elim
    ·exact h
   cases ex with
   |normal =>obtain⟨rfl,f⟩:=l;exact sT Sc R hG J p r C j _ _ _ _ _ _ _ _ _ h f
   |exit id =>obtain⟨rfl,f⟩:=l;have:=T (λe=>by cases e);injection this with e1 e2 e3 e4;subst e1;subst e2;subst e3;exact⟨rfl,f⟩
   |ret =>obtain⟨rfl,f⟩:=l;have:=T (λe=>by cases e);injection this with e1 e2 e3 e4;subst e1;subst e2;subst e3;exact⟨rfl,f⟩
   |goto _=>exact l.elim
   |panic _=>exact l.elim
   |outgrown=>exact l.elim
  ·cases h
def TO (c:Code):(∃id f y x g l,c = .seq (.region id f false) y∧ir P Gl nt f.toList f.toList = .nxt x g::l∧cC P Gl nt (.loop c) = .rloop x g l (g.toList++BH l++p0 (cC P Gl nt y)) (cC P Gl nt y))∨cC P Gl nt (.loop c) = .loop (cC P Gl nt c):=by
 cases c with
 |seq a y=>
  cases a with
  |region id f p=>
   cases p with
   |true=>exact .inr rfl
   |false=>
    cases j:ir P Gl nt f.toList f.toList with
    |nil=>refine .inr ?_;simp[cC,j]
    |cons o l=>
     cases o with
     |nxt x g=>refine .inl ⟨id,f,y,x,g,l,rfl,j, ?_⟩;simp[cC,j]
     |_=>refine .inr ?_;simp[cC,j]
  |_=>exact .inr rfl
 |_=>exact .inr rfl
def gp.loopT {U :World}{B:Nat}{k:Pos}{o:EO}{r r':Loop}(hL:w.heap[L]? = some (.loop r))(hL':U.heap[L]? = some (.loop r'))(J:∀b,b≠L→U.heap[b]? = w.heap[b]?)(h:gp φ w B k o):gp φ U B k o:=by
 have ne:∀{b:Nat} {x:Obj},w.heap[b]? = some x→(∀r,x ≠ .loop r)→U.heap[b]? = some x:=λ{b x} R hx=>by rw[J b λe=>by subst e;rw[hL]at R;injection R with R;exact hx r R.symm];exact R
 have ex:∀{b:Nat},(∃o,w.heap[b]? = some o)→∃o,U.heap[b]? = some o:=λ{b} ⟨o,R⟩=>by
  by_cases e:b=L
  ·subst e;exact⟨_,hL'⟩
  ·exact⟨o,by rw[J b e];exact R⟩
 cases o with
 |none=>exact h
 |row e s el len gen fz =>obtain⟨h0,C,hmm,h2,h3⟩:=h;refine⟨h0,C,hmm,h2,λg hg=>?_⟩;obtain⟨l,q1,⟨r1,r2,arr,fr,r3,r4⟩,j⟩:=h3 g hg;exact⟨l,q1,⟨r1,r2,arr,fr,ne r3 (λ_ e=>by cases e),r4⟩,j⟩
 |map es clock =>obtain⟨C,l,vs,q1,q2,j,P⟩:=h;exact⟨C,l,vs,q1,q2,ne j (λ_ e=>by cases e),P⟩
 |mit m T seen f=>
  obtain⟨C,l,q1,q2,j⟩:=h;refine⟨C,l,q1,q2, ?_⟩;cases m with
  |none=>exact ne j (λ_ e=>by cases e)
  |some m=>obtain⟨l',P,q5⟩:=j;exact⟨l',P,ne q5 (λ_ e=>by cases e)⟩
 |mitU m T bs st =>obtain⟨C,l,l',seen,f,n,q1,q2,j,P,q5⟩:=h;exact⟨C,l,l',seen,f,n,q1,q2,j,ne P (λ_ e=>by cases e),q5⟩
 |resI m b c =>obtain⟨C,l,l',T,seen,q1,q2,j,P,q5⟩:=h;exact⟨C,l,l',T,seen,q1,q2,j,ne P (λ_ e=>by cases e),q5⟩
 |sit s p =>obtain⟨C,h2,l,q1,q2,j⟩:=h;exact⟨C,h2,l,q1,q2,ne j (λ_ e=>by cases e)⟩
 |clo fn first caps=>exact h
 |ifc t v=>exact h
 |emp=>exact h
 |dead=>exact λg l q=>⟨(h g l q).1,ex (h g l q).2⟩
 |res=>exact λg l q=>⟨(h g l q).1,ex (h g l q).2⟩
 |yld=>
  obtain⟨C,l,q1,q2,j,r0,P⟩:=h;refine⟨C,l,q1,q2,j, ?_⟩;by_cases e:l.b=L
  ·exact⟨r',by rw[e];exact hL'⟩
  ·exact⟨r0,by rw[J _ e];exact P⟩
def mJ.below {W:W0}(h:mJ Gl P B W)(j:Below B W.w w):mJ Gl P B ⟨w,φ⟩:=⟨λg t v l w' f=>h.1 g t v l w' (j.trans f),λw' f=>h.2 w' (j.trans f)⟩
def UN {r p:Gx}{h2:Pos→EO}{j P:World}{r0 r1:Loop}(hB:B≤L)(U:B≤j.heap.size)(R:j.heap[L]? = some (.loop r0))(J:Inv B ⟨j.putObj L (.loop r1),r⟩ p h2 P):Inv B ⟨j,r⟩ p h2 (P.putObj L (.loop r0)):=by
 have T:=(η.1 R).1;have h1:(j.putObj L (.loop r1)).heap[L]? = some (.loop r1):=World.putObj_heap_same T;have h3:=J.kp.keep _ _ h1 rfl;have f:=(η.1 h3).1;refine⟨?_,⟨?_,λk o C ho=>?_⟩,J.le,λk C=>?_,by simpa using J.size,λk=>?_,J.sep⟩
 ·have b1:Below B j (j.putObj L (.loop r1)):=(Below.refl B j).grown (grownBy_putObj' j L _) U (λk e=>by cases e;exact hB);exact(b1.trans J.below).grown (grownBy_putObj' P L _) J.size (λk e=>by cases e;exact hB)
 ·exact J.kp.dr
 ·by_cases e:k=L
  ·subst e;rw[R]at C;cases C;exact World.putObj_heap_same f
  ·rw[World.putObj_heap_other e];refine J.kp.keep _ _ ?_ ho;rw[World.putObj_heap_other e];exact C
 ·obtain⟨a1,a2,a3,a4⟩:=J.res k C;refine⟨a1,a2,a3,λg l hl=>?_⟩;by_cases e:l.b=L
  ·rw[e,World.putObj_heap_same f,R]
  ·have:=a4 g l hl;rw[World.putObj_heap_other e]at this⊢;exact this
 ·exact(J.obj k).loopT h3 (World.putObj_heap_same f) λb hb=>World.putObj_heap_other hb
def nl {φ:Gx}:∀{ps:List Nat} {args:List TV} {env f:Env} {g:List Value} {tmps:Array Value},xK (ps.map pos) args env=some f→(∀t∈ps,t<nt∧t+2≤2^64)→tmps.size=nt→ER φ env tmps→RTs φ args g →
  g.length=ps.length∧ER φ f ((ps.zip g).foldl (λtmps (t,a)=>tmps.setIfInBounds t a) tmps)∧((ps.zip g).foldl (λtmps (t,a)=>tmps.setIfInBounds t a) tmps).size=nt
 |[],[],env,f,[],tmps,h,_,j,l,_=>by cases h;exact⟨rfl,l,j⟩
 |t::ps,u::args,env,f,v::g,tmps,h,hb,j,l,hr=>by simp[xK]at h;obtain⟨C,r⟩:=hb t (S' ..);obtain⟨T,ws,e,r1,r2⟩:=hr.cons;cases e;obtain⟨R,P,J⟩:=nl (tmps:=tmps.setIfInBounds t v) h (λt p=>hb t (J' _ p)) (by simpa using j) (l.set (by rw[j];exact C) r r1) r2;exact⟨by simp[R],P,J⟩
 |[],_::_,_,_,_,_,h,_,_,_,_=>by cases h
 |_::_,[],_,_,_,_,h,_,_,_,_=>by cases h
 |[],[],_,_,_::_,_,_,_,_,_,hr=>by cases hr
 |_::_,_::_,_,_,[],_,_,_,_,_,hr=>by cases hr
end
variable [SymVal]
section
variable {P:Program}{Gl:Glt}{B:Nat}{ck:Callk}{Γ:List Lq}{fuel nt:Nat}
variable{n1:Pos}{ps:Array Tmp}
def aa8 {φ:Gx}{H:Pos→EO}{w w2:World}{W:W0}{l:Nat}{r:Loop}(hI:Inv B W φ H w)(U:H n1 = .none)(p:w.grownBy w2 none)(hle:w.heap.size≤l)(hdr:w2.drawn=w.drawn)(T:w2.heap[l]? = some (.loop r)):∃C,φ.le C∧C.loc n1 0=some ⟨l,0,0⟩∧C.val n1=some (.func (.yield l) #[] #[])∧bv B φ H w C (upd H n1 .yld) w2:=by
 have hfr:=hI.free U;have j:φ.le ((φ.add n1 ⟨l,0,0⟩).addV n1 (.func (.yield l) #[] #[])):=(hI.le_add U _).trans ⟨λ_ _ _ h=>h,λq u R=>by
  by_cases e:q=n1
  ·subst e;have R:φ.val q=some u:=R;rw[hfr.2.1]at R;cases R
  ·simp[Gx.addV,B' e];exact R,λ_ _ h=>h⟩
 have hl1:((φ.add n1 ⟨l,0,0⟩).addV n1 (.func (.yield l) #[] #[])).loc n1 0=some ⟨l,0,0⟩:=Gx.add_self φ n1 _;have P:((φ.add n1 ⟨l,0,0⟩).addV n1 (.func (.yield l) #[] #[])).val n1=some (.func (.yield l) #[] #[]):=Gx.addV_self _ _ _;refine⟨_,j,hl1,P,j,λW' hI=>?_,λk J=>?_⟩
 ·refine hI.turn j (λk J=>⟨λg=>B' J,B' J,rfl⟩) (λg l' f=>.inr ?_) (λk J _=>p.block k J Ψ) (λg l' f=>by rw[hfr.1 g]at f;cases f) p.1 p.2 p.3 p.4 (by first|(rw[hdr];exact ζ _)|exact c_ _) ⟨λg hg=>?_,⟨l,0,0⟩,hl1,Θ hI.size hle,P,_,T⟩
  ·have f:(if n1=n1 then(if g=0 then some (⟨l,0,0⟩:Loc)else none)else φ.loc n1 g)=some l':=f;rw[β rfl]at f;split at f
   ·cases f;exact hle
   ·cases f
  ·show(if n1=n1 then(if g=0 then some (⟨l,0,0⟩:Loc)else none)else φ.loc n1 g)=none;rw[β rfl,B' Ω]
 ·by_cases e:n1=k
  ·subst e;rw[ay]at J;cases J
  ·rwa[aU _ _ e]at J
def Jl {x y:Code}(ckok:CkOk P Gl B ck Γ)(Sx:mI P Gl B ck Γ fuel nt x)(Sy:mI P Gl B ck Γ fuel nt y){l D:Nat}{fn:FuncId}{tmps:Array Value}{e:Env}(hBl:B≤l)(apartL:∀q∈Γ,q.l≠l)(hsz:tmps.size=nt)(hsk:cj x=true)(hnb:cj y=true)(hps:∀t∈ps.toList,t<nt∧t+2≤2^64) :
  Pd P Gl B (De n1 ck.call e (ps.toList.map pos) λb e d n=>match exec ck fuel (cC P Gl nt x) b e d n with
   |.ok .normal e d n=>exec ck fuel (cC P Gl nt y) b e d n
   |_=>.no) (⟨n1,l,{ state :=.ready,pending:=none,fn,tmps:=tmps,params:=ps,assign:=x,body:=y,defers:=D },e,tmps⟩::Γ):=by
 intro b' j args d3 n3 v3 d4 n4 hy W' φ' w' hG' hI' vs hargs hcx';unfold De at hy;split at hy
 next hj=>
  have hj:=Pos.beq_iff.1 hj;subst hj;split at hy
  next env' hset=>
   split at hy
   ·rename_i x5 e5 d5 n5 g;split at hy
    ·injection hy with y1 y2 y3;subst y1;subst y2;subst y3;dsimp only at g;split at g
     ·rename_i e6 d6 n6 hasg;intro l' hl' ro' n';obtain⟨⟨lq,hq1,hq2⟩,f,hEq⟩:=hcx' _ (S' ..);simp only at hq1 hq2 f hEq;rw[hl']at hq1;cases hq1;obtain⟨hlen,hps',hsz'⟩:=nl hset hps hsz hEq hargs;rw[hq2];refine⟨_,_,_,_,run_yield f (by simpa using hlen), ?_⟩;have hroo:zD (some l) w':=λl0 hl0=>by
       cases hl0;exact⟨_,f⟩
      have U:((ps.zip vs.toArray).foldl (λtmps (t,a)=>tmps.setIfInBounds t a) tmps)=((ps.toList.zip vs).foldl (λtmps (t,a)=>tmps.setIfInBounds t a) tmps):=by rw[←Array.foldl_toList,Array.toList_zip]
      have hcxT:Ctx Γ φ' w':=λq hq=>hcx' q (J' _ hq);refine roundIn_of_wpIn trivial (wpIn_mono (Sx (some l) n' w'.heap.size W' φ' _ w' hI' hG' hcxT hroo (.inr hsk) (ζ _) b' env' d3 n3 { tmps:=_,defers:=[] } w' .normal e6 d6 n6 hasg ⟨⟨φ',bv.refl,by rw[U];exact hps'⟩,by rw[U];exact hsz',[],rfl,R?,λD hD=>by cases hD⟩) λe1 a1 wx C=>?_);cases e1 with
      |exit id=>exact(by cases C.1)
      |ret=>exact(by cases C.1)
      |goto _=>exact C.elim
      |panic _=>exact C.elim
      |outgrown=>exact C.elim
      |normal=>
       obtain⟨_,hr1⟩:=C;obtain⟨J,hs1,hE1⟩:=hr1.ex;have J1:=hs1.2.1 _ hI'.self;have p:=J1.kp.keep _ _ f rfl;refine⟨_,run_beginRound p rfl, ?_⟩;have T:=(η.1 p).1;obtain⟨ms1,mdf1,mnd1,mk1⟩:=hr1.df;have Jx:=hs1.2.1 _ hI';have hIb:Inv B ⟨wx.putObj l (.loop { state :=.busy,pending:=none,fn,tmps:=tmps,params:=ps,assign:=x,body:=y,defers:=D }),J⟩ J (HP.ov b' d6).get (wx.putObj l (.loop { state :=.busy,pending:=none,fn,tmps:=tmps,params:=ps,assign:=x,body:=y,defers:=D })) :=
        ⟨Below.refl _ _,Kp.refl _,Gx.le.refl _,λ_ _=>⟨λ_=>rfl,rfl,rfl,λ_ _ _=>rfl⟩,by simpa using Jx.size,λk=>(Jx.obj k).loopT p (World.putObj_heap_same T) λb hb=>World.putObj_heap_other hb,Jx.sep⟩
       have hbW:Below B W'.w (wx.putObj l (.loop { state :=.busy,pending:=none,fn,tmps:=tmps,params:=ps,assign:=x,body:=y,defers:=D })):=Jx.below.grown (grownBy_putObj' wx l _) Jx.size (λk e=>by cases e;exact hBl);have hcxb:Ctx Γ J (wx.putObj l (.loop { state :=.busy,pending:=none,fn,tmps:=tmps,params:=ps,assign:=x,body:=y,defers:=D })):=λq hq=>by obtain⟨z1,z2,z3⟩:=(hcxT.more hI' hs1) q hq;exact⟨z1,by rw[World.putObj_heap_other (apartL q hq)];exact z2,z3⟩
       refine wpIn_mono (Sy (some l) n' 0 _ J _ _ hIb (hG'.below hbW) hcxb (λl0 hl0=>by
         cases hl0;exact⟨_,World.putObj_heap_same T⟩) (.inr hnb) (c_ _) b' e6 d6 n6 a1 _ .normal e5 d5 n5 g ⟨⟨J,bv.refl,hE1⟩,hr1.sz,ms1,mdf1,mnd1,λD' hD'=>⟨c_ _,by
         have hd:=(mk1 D' hD').2;rw[World.putObj_heap_other (λe=>by subst e;rw[p]at hd;cases hd)];exact hd⟩⟩) λe2 a2 w3 r=>?_
       cases e2 with
       |exit id=>exact(by cases r.1)
       |ret=>exact(by cases r.1)
       |goto _=>exact r.elim
       |panic _=>exact r.elim
       |outgrown=>exact r.elim
       |normal =>obtain⟨_,hr2⟩:=r;obtain⟨ψ2,R,hE3⟩:=hr2.ex;have J2:=R.2.1 _ hIb;have hl3:=J2.kp.keep _ _ (World.putObj_heap_same T) rfl;have J3:=UN (r0:={ state :=.ready,pending:=none,fn,tmps:=tmps,params:=ps,assign:=x,body:=y,defers:=D }) hBl Jx.size p J2;refine⟨.bool true,_,run_endRound none hl3,.bool true,ψ2,rfl,hs1.trans (oZ R.1 J3 R.2.2),rfl⟩
     ·cases g
    ·cases hy
   ·cases hy
  ·cases hy
 ·exact ckok.call _ _ _ _ _ _ _ _ hy W' φ' w' hG' hI' vs hargs (λq hq=>hcx' q (J' _ hq))
def UO {g:Operand}{x y:Code}(ckok:CkOk P Gl B ck Γ)(Sx:mI P Gl B ck Γ fuel nt x)(Sy:mI P Gl B ck Γ fuel nt y):mI P Gl B ck Γ fuel nt (.rangeFunc g ps x y):=by
 intro ro n lo W U h0 w0 hI0 hG hcx hro hnd hlo0 b e d n1 a w X e' d' n' h hr;simp only[cC]at h;split at h
 rotate_left
 ·cases h
 rename_i hchk;simp only[κ,T',ρ]at hchk;obtain⟨⟨hsk,hnb⟩,hps⟩:=hchk;simp[exec]at h;split at h
 rotate_left
 ·cases h
 rename_i hfree;have hn1:(HP.ov b d).get n1 = .none:=by
  unfold bD at hfree;simp only at hfree;split at hfree
  ·assumption
  ·cases hfree
 split at h
 rotate_left
 ·cases h
 rename_i gf us hen;split at h
 rotate_left
 ·cases h
 rename_i vout d1 n2 hcall;injection h with q1 q2 q3 q4;subst q1;subst q2;subst q3;subst q4;obtain⟨φ,hs,hE⟩:=hr.ex;have hI:=hs.2.1 _ hI0;obtain⟨ms,hms,hnod,hmk⟩:=hr.df;have hk0:=(hs.2.1 _ hI0.self).kp;refine wpIn_rangeFunc λfn _=>?_;obtain⟨l,mark,w2,D,hrun,hgr,hle,hdr,hrec,ms2,hmark,hnod2,hmk2⟩:=vZ (P:=P) (w:=w) fn a.tmps ps x y (ro:=ro) (hro.more hk0);obtain⟨φ2,hle2,hl1,hv1,hst2⟩:=aa8 hI hn1 hgr hle hdr hrec;have hstep2:=hst2.2.1;have hI2:=hstep2 _ hI;have eH:(HP.ov b (bO d n1 .yld)).get=upd (HP.ov b d).get n1 .yld:=HP.get_set b d n1 .yld;have hE2:=hE.mono hle2;have hBl:B≤l:=Θ hI.size hle;have hcx2:Ctx (⟨n1,l,{ state :=.ready,pending:=none,fn,tmps:=a.tmps,params:=ps,assign:=x,body:=y,defers:=D },e,a.tmps⟩::Γ) φ2 w2:=λq hq=>by
  obtain rfl|hq:=C'.1 hq
  ·exact⟨⟨_,hl1,rfl⟩,hrec,hE2⟩
  ·exact(hcx.more hI0 (hs.trans hst2)) q hq
 have apartL:∀q∈Γ,q.l≠l:=λq hq ee=>by have h0:=hk0.keep _ _ (hcx q hq).2.1 rfl;have:=(η.1 h0).1;omega
 have yok:=Jl (fn:=fn) (D:=D) (n1:=n1) (e:=e) ckok Sx Sy hBl apartL hr.sz hsk hnb hps;have hgv:=gi hE2 g;have hval:RTs φ2 (bn e (ng g)::[.pv (.one (.clo n1))]) [a.eval g,.func (.yield l) #[] #[]]:=⟨hgv,by
  show den φ2 (.clo n1)=some _;simp[den,hv1],ans⟩
 rw[eH]at hen;obtain⟨fv,xs,hus,first,caps,hfv,hargs⟩:=yZ hI2 hen hval;cases hus;have hI2':Inv B W φ2 (HP.ov b (bO d n1 .yld)).get w2:=by rw[eH];exact hI2
 obtain⟨⟨fnn,f1,f2,f3⟩,hcalls⟩:=ckok.iter _ _ yok _ _ _ _ _ _ _ _ hcall W φ2 w2 hG hI2' _ hargs hcx2;have hbody:¬fnn.body=none:=by cases hb:fnn.body <;> simp_all
 have f3:¬fnn.name = "runtime.NumGoroutine":=by simpa using f3
 refine⟨l,mark,w2,{ target :=.fn (.func gf) caps,args:=first ++ #[.func (.yield l) #[] #[]] },w2,gf,(first.toList++[Value.func (.yield l) #[] #[]]++caps.toList).toArray,w2,hrun, ?_,λ_ _=>trivial, ?_, ?_, ?_⟩
 ·simp[resolve,hfv];simp[Deferred.ofValue,Act.eval]
 ·have e2:first ++ #[Value.func (.yield l) #[] #[]]++caps=(first.toList++[Value.func (.yield l) #[] #[]]++caps.toList).toArray:=m_ Ψ
  simp[invoke,callFunc,P_,ξ,f1,e2];simp[f3,hbody]
 ·intro q;cases q
 ·refine Cr ?_;refine hcalls.mono ?_;rintro _ w3 ⟨v,ψ,rfl,hst3,hrv⟩;rw[eH]at hst3;have J3:=hst3.2.1 _ hI2.self;have hl3:=J3.kp.keep _ _ hrec rfl;have hlt3:=(η.1 hl3).1;refine⟨none,_,run_endLoop hl3 Ψ,rfl,⟨ψ,⟨hs.1.trans (hle2.trans hst3.1),λW' hW=>?_,λk hk=>hs.2.2 k (hst2.2.2 k (hst3.2.2 k hk))⟩,hE2.mono hst3.1⟩,hr.sz,ms2++ms, ?_, ?_,λD' hD'=>?_⟩
  ·have hIw:=hs.2.1 _ hW;have J4:=hst3.2.1 _ (hstep2 _ hIw);refine⟨J4.below.grown (grownBy_putObj' w3 l _) J4.size (λk e=>by cases e;exact hBl),⟨J4.kp.dr,λk o hk ho=>?_⟩,J4.le,λk hk=>?_,by simpa using J4.size,λk=>(J4.obj k).loopT hl3 (World.putObj_heap_same hlt3) λb hb=>World.putObj_heap_other hb,J4.sep⟩
   ·have h1:=hIw.kp.keep _ _ hk ho;have:=(η.1 h1).1;rw[World.putObj_heap_other Ω];exact J4.kp.keep _ _ hk ho
   ·obtain⟨z1,z2,z3,z4⟩:=J4.res k hk;refine⟨z1,z2,z3,λg' l' hl'=>?_⟩;have hlw:φ.loc k g'=some l':=hIw.le.loc k g' l' (by rw[←z1 g'];exact hl');have:=hIw.lt hlw;rw[World.putObj_heap_other Ω];exact z4 g' l' hl'
  ·show mark++a.defers=_;rw[hmark,hms,D?]
  ·rw[ajL];refine⟨hnod2,hnod,λD1 h1 D2 h2 ed=>?_⟩;have:=(hmk2 D1 h1).1;have h3:=(η.1 (hmk D2 h2).2).1;omega
  ·obtain h1|h1:=O'.1 hD'
   ·obtain⟨x1,x2,x3⟩:=hmk2 D' h1;refine⟨?_,by rw[World.putObj_heap_other x2];exact J3.kp.keep _ _ x3 rfl⟩;exact Θ hlo0 (Θ (hs.2.1 _ hI0.self).below.size x1)
   ·obtain⟨x1,x2⟩:=hmk D' h1;have x3:=(η.1 x2).1;refine⟨x1, ?_⟩;rw[World.putObj_heap_other Ω];exact J3.kp.keep _ _ ((hst2.2.1 _ hI.self).kp.keep _ _ x2 rfl) rfl
end
variable [SymVal]
section
variable {P:Program}{Gl:Glt}{B:Nat}{ck:Callk}{Γ:List Lq}{fuel nt:Nat}
def gh (hm:P.follows .mixedOrders=true)(ckok:CkOk P Gl B ck Γ):∀c:Code,mI P Gl B ck Γ fuel nt c∧∀x y,c = .seq x y→mI P Gl B ck Γ fuel nt y:=by
 intro c;induction c with
 |skip =>refine⟨λro n lo W U h0 w0 p hG j r f C b e d n1 a w x e' d' n' h J=>?_,λ_ _ e=>by cases e⟩;simp only[cC,exec]at h;injection h with h1 h2 h3 h4;subst h1;subst h2;subst h3;exact wpIn_skip ⟨rfl,J⟩
 |label l =>refine⟨λro n lo W U h0 w0 p hG j r f C b e d n1 a w x e' d' n' h J=>?_,λ_ _ e=>by cases e⟩;simp only[cC,exec]at h;injection h with h1 h2 h3 h4;subst h1;subst h2;subst h3;exact wpIn_label ⟨rfl,J⟩
 |region id ops draw=>
  refine⟨λro n lo W U h0 w0 p hG j r f C b e d n1 a w x e' d' n' h J=>?_,λ_ _ e=>by cases e⟩;have conv:∀{e1:Env} {d1:DM} {n2:Pos},RX.ok .normal e1 d1 n2 = .ok x e' d' n'→∀ex a w,jZ B lo U h0 w0 nt e1 (HP.ov b d1).get ex a w→we B lo U h0 w0 nt x e' (HP.ov b d').get ex a w:=by
   intro e1 d1 n2 he ex a w hn;injection he with h1 h2 h3 h4;subst h1;subst h2;subst h3;cases ex with
   |normal=>exact⟨rfl,hn⟩
   |_=>exact hn.elim
  cases draw with
  |false=>
   simp[cC,exec]at h;split at h
   next e1 d1 n2 hrun=>exact wpIn_mono (MO f.ops p hG ckok j hrun J) (conv h)
   ·cases h
  |true=>
   simp[cC,RL]at h;split at h
   ·rename_i ps hps;simp[exec]at h;split at h
    ·rename_i rs d1 n2 hrv;split at h
     ·rename_i infs e1 d2 n3 hrt;cases hpo:dQ infs ps with
      |false=>rw[hpo]at h;cases h
      |true =>rw[hpo,G']at h;exact wpIn_mono (OL hm f.ops p hG ckok j hps rfl hrv hrt hpo J) (conv h)
     ·cases h
    ·cases h
   ·cases h
 |seq x y ihx ihy=>
  refine⟨λro n lo W U h0 w0 p hG j r f C b e d n1 a w X e' d' n' h J=>?_,λx' y' e=>by injection e with e1 e2;subst e2;exact ihy.1⟩;simp[cC,exec]at h;split at h
  next x1 e1 d1 n2 hx=>
   refine wpIn_seq (wpIn_mono (ihx.1 ro n lo W U h0 w0 p hG j r (aT.left f) C b e d n1 a w x1 e1 d1 n2 hx J) λex a w hn=>?_);have fin:x1 ≠ .normal→RX.ok x1 e1 d1 n2 = .ok X e' d' n':=λhx=>by
    split at h
    ·exact(hx rfl).elim
    ·exact h
   cases ex with
   |normal =>obtain⟨rfl,R⟩:=hn;exact ihy.1 ro n lo W U h0 w0 p hG j r (aT.right f) C b e1 d1 n2 a w X e' d' n' h R
   |exit id =>obtain⟨rfl,R⟩:=hn;have:=fin (λe=>by cases e);injection this with e1 e2 e3 e4;subst e1;subst e2;subst e3;exact⟨rfl,R⟩
   |ret =>obtain⟨rfl,R⟩:=hn;have:=fin (λe=>by cases e);injection this with e1 e2 e3 e4;subst e1;subst e2;subst e3;exact⟨rfl,R⟩
   |goto _=>exact hn.elim
   |panic _=>exact hn.elim
   |outgrown=>exact hn.elim
  ·cases h
 |cond cnd x y ihx ihy=>
  refine⟨λro n lo W U h0 w0 p hG j r f C b e d n1 a w X e' d' n' h J=>?_,λ_ _ e=>by cases e⟩;simp[cC,exec]at h;split at h
  next t ht=>
   obtain⟨φ,hs,hE⟩:=J.ex;have hv:=gi hE cnd;rw[ht]at hv;have hv:=Dc hv;cases t with
   |true=>exact wpIn_cond_true hv (ihx.1 ro n lo W U h0 w0 p hG j r (aT.left f) C b e d n1 a w X e' d' n' h J)
   |false=>exact wpIn_cond_false hv (ihy.1 ro n lo W U h0 w0 p hG j r (aT.right f) C b e d n1 a w X e' d' n' h J)
  ·cases h
 |block id x ih=>
  refine⟨λro n lo W U h0 w0 p hG j r f C b e d n1 a w X e' d' n' h J=>?_,λ_ _ e=>by cases e⟩;simp[cC,exec]at h;split at h
  next x1 e1 d1 n2 hx=>
   refine wpIn_block (wpIn_mono (ih.1 ro n lo W U h0 w0 p hG j r f C b e d n1 a w x1 e1 d1 n2 hx J) λex a w hn=>?_);cases ex with
   |normal =>obtain⟨rfl,R⟩:=hn;injection h with h1 h2 h3 h4;subst h1;subst h2;subst h3;exact⟨rfl,R⟩
   |exit id'=>
    obtain⟨rfl,R⟩:=hn;show if id'=id then _ else _
    simp only at h;cases hb:Nat.beq id' id with
    |true =>rw[hb]at h;rw[β (ν hb)];injection h with h1 h2 h3 h4;subst h1;subst h2;subst h3;exact⟨rfl,R⟩
    |false =>rw[hb]at h;rw[B' (B_ hb)];injection h with h1 h2 h3 h4;subst h1;subst h2;subst h3;exact⟨rfl,R⟩
   |ret =>obtain⟨rfl,R⟩:=hn;injection h with h1 h2 h3 h4;subst h1;subst h2;subst h3;exact⟨rfl,R⟩
   |goto _=>exact hn.elim
   |panic _=>exact hn.elim
   |outgrown=>exact hn.elim
  ·cases h
 |loop c ih=>
  refine⟨λro n lo W U h0 w0 p hG j r f C b e d n1 a w X e' d' n' h J=>?_,λ_ _ e=>by cases e⟩;rcases TO (P:=P) (Gl:=Gl) (nt:=nt) c with⟨id,ops,y,x,dst,l,rfl,hco,hcc⟩|hcc
  ·rw[hcc]at h;have hplain:pE (λe d n=>iy (aF ck b (.nxt x dst::l) e d n) (exec ck fuel (cC P Gl nt y) b)) fuel e d n1 = .ok X e' d' n'→(Code.loop (.seq (.region id ops false) y)).wpIn (RF ro) n P (we B lo U h0 w0 nt X e' (HP.ov b d').get) a w:=λh=>by
    refine wpIn_loop_rounds fuel (sT ih.1 p hG j r f C fuel e d n1 a w X e' d' n' ?_ J);rw[←h];congr 1;funext e d n;simp[cC,hco,exec];cases aF ck b (.nxt x dst::l) e d n <;> rfl
   simp only[exec]at h;split at h
   ·rename_i it g hx;split at h
    ·rename_i m T sp hit;split at h
     ·rename_i es clock hmm;split at h
      ·rename_i y1 y2 yr;cases hchk:(Nat.ble T sp&&Nat.ble T clock&&(y1::y2::yr).all λx=>Nat.blt x.born T)with
       |false=>rw[hchk]at h;cases h
       |true=>
        rw[hchk,G']at h;simp only[κ,bf]at hchk;obtain⟨⟨c1,c2⟩,c3⟩:=hchk;rw[L_]at h;split at h
        ·rename_i heach;have hX:X ≠ .normal∧iy (aF ck b l (aO (nR (dst.toList++BH l++p0 (cC P Gl nt y)) (iz e)) dst vI) (bO d it .dead) n1) (exec ck fuel (cC P Gl nt y) b) = .ok X e' d' n':=by
          split at h
          ·cases h
          next hne=>refine⟨λe=>?_,h⟩;subst e;exact hne _ _ _ h
         refine wpIn_loop_rounds (vA (cx (y1::y2::yr)) #[]+1) (Mj hco ckok (ih.2 _ _ rfl) p hG j r f C hx hit hmm c3 c2 heach hX.2 hX.1 _ [] sp a w c1 (Nat.lt_succ_self _) ?_);obtain⟨φ,hs,hE⟩:=J.ex;have e1:upd (HP.ov b d).get it (.mit (some m) T [] sp)=(HP.ov b d).get:=by
          funext k;simp only[upd];split
          next ek=>rw[←ek,hit]
          ·rfl
         rw[e1];exact⟨⟨φ,hs,hE.drop _⟩,J.sz,J.df⟩
        ·cases h
      ·exact hplain h
     ·cases h
    ·exact hplain h
    ·cases h
   ·cases h
  ·rw[hcc]at h;simp only[exec]at h;exact wpIn_loop_rounds fuel (sT ih.1 p hG j r f C fuel e d n1 a w X e' d' n' h J)
 |exit id =>refine⟨λro n lo W U h0 w0 p hG j r f C b e d n1 a w x e' d' n' h J=>?_,λ_ _ e=>by cases e⟩;simp only[cC,exec]at h;injection h with h1 h2 h3 h4;subst h1;subst h2;subst h3;exact wpIn_exit ⟨rfl,J⟩
 |ret =>refine⟨λro n lo W U h0 w0 p hG j r f C b e d n1 a w x e' d' n' h J=>?_,λ_ _ e=>by cases e⟩;simp only[cC,exec]at h;injection h with h1 h2 h3 h4;subst h1;subst h2;subst h3;exact wpIn_ret ⟨rfl,J⟩
 |rangeFunc g ps x y ihx ihy=>exact⟨UO ckok ihx.1 ihy.1,λ_ _ e=>by cases e⟩
 |scope x ih=>
  refine⟨λro n lo W U h0 w0 p hG j r f C b e d n1 a w X e' d' n' h J=>?_,λ_ _ e=>by cases e⟩;refine jY (wpIn_mono (ih.1 ro n lo W U h0 w0 p hG j r f C b e d n1 a w X e' d' n' h J) λex a w hn=>?_);cases ex with
  |goto _=>exact hn.elim
  |_=>exact hn
 |goto l=>exact⟨λro n lo W U h0 w0 p hG j r f C b e d n1 a w x e' d' n' h J=>(by cases h),λ_ _ e=>by cases e⟩
 |refuse s=>exact⟨λro n lo W U h0 w0 p hG j r f C b e d n1 a w x e' d' n' h J=>(by cases h),λ_ _ e=>by cases e⟩
end
variable [SymVal]
def iG (tmps:Array Value):ResultVar→Sem Value
 |.tmp t=>pure (tmps.getD t undef)
 |.cell t f=>do loadVar f (←asAddr (tmps.getD t undef))
section
variable {P:Program}{Gl:Glt}{B:Nat}{W:W0}{φ U ψ:Gx}{h h0:Pos→EO}{w w0:World}
def gp.defT {k:Pos}{o:EO}{w U:World}{L:Nat}{r r':Option (List Deferred)}(hL:w.heap[L]? = some (.deferred r))(hL':U.heap[L]? = some (.deferred r'))(P:∀b,b≠L→U.heap[b]? = w.heap[b]?)(h:gp φ w B k o):gp φ U B k o:=by
 have ne:∀{b:Nat} {x:Obj},w.heap[b]? = some x→(∀r,x ≠ .deferred r)→U.heap[b]? = some x:=λ{b x} R hx=>by rw[P b λe=>by subst e;rw[hL]at R;injection R with R;exact hx r R.symm];exact R
 have ex:∀{b:Nat},(∃o,w.heap[b]? = some o)→∃o,U.heap[b]? = some o:=λ{b} ⟨o,R⟩=>by
  by_cases e:b=L
  ·subst e;exact⟨_,hL'⟩
  ·exact⟨o,by rw[P b e];exact R⟩
 cases o with
 |none=>exact h
 |row e s el len gen fz =>obtain⟨h0,C,hmm,h2,h3⟩:=h;refine⟨h0,C,hmm,h2,λg hg=>?_⟩;obtain⟨l,q1,⟨r1,r2,arr,fr,r3,r4⟩,j⟩:=h3 g hg;exact⟨l,q1,⟨r1,r2,arr,fr,ne r3 (λ_ e=>by cases e),r4⟩,j⟩
 |map es clock =>obtain⟨C,l,vs,q1,q2,j,J⟩:=h;exact⟨C,l,vs,q1,q2,ne j (λ_ e=>by cases e),J⟩
 |mit m T seen f=>
  obtain⟨C,l,q1,q2,j⟩:=h;refine⟨C,l,q1,q2, ?_⟩;cases m with
  |none=>exact ne j (λ_ e=>by cases e)
  |some m=>obtain⟨l',J,q5⟩:=j;exact⟨l',J,ne q5 (λ_ e=>by cases e)⟩
 |mitU m T bs st =>obtain⟨C,l,l',seen,f,n,q1,q2,j,J,q5⟩:=h;exact⟨C,l,l',seen,f,n,q1,q2,j,ne J (λ_ e=>by cases e),q5⟩
 |resI m b c =>obtain⟨C,l,l',T,seen,q1,q2,j,J,q5⟩:=h;exact⟨C,l,l',T,seen,q1,q2,j,ne J (λ_ e=>by cases e),q5⟩
 |sit s p =>obtain⟨C,h2,l,q1,q2,j⟩:=h;exact⟨C,h2,l,q1,q2,ne j (λ_ e=>by cases e)⟩
 |clo fn first caps=>exact h
 |ifc t v=>exact h
 |emp=>exact h
 |dead=>exact λg l q=>⟨(h g l q).1,ex (h g l q).2⟩
 |res=>exact λg l q=>⟨(h g l q).1,ex (h g l q).2⟩
 |yld =>obtain⟨C,l,q1,q2,j,r0,J⟩:=h;exact⟨C,l,q1,q2,j,r0,ne J (λ_ e=>by cases e)⟩
def Vx (_:Inv B W U h0 w0)(C:bv B U h0 w0 ψ h w){D:Nat}{r r':Option (List Deferred)}(hD:w.heap[D]? = some (.deferred r))(T:w0.heap.size≤D):bv B U h0 w0 ψ h (w.putObj D (.deferred r')):=by
 have R:=(η.1 hD).1;refine⟨C.1,λW' g=>?_,C.2.2⟩;have J:=C.2.1 _ g;refine⟨J.below.grown (grownBy_putObj' w D _) J.size (λk e=>by cases e;exact Θ g.size T),⟨J.kp.dr,λk o j ho=>?_⟩,J.le,λk j=>?_,by simpa using J.size,λk=>(J.obj k).defT hD (World.putObj_heap_same R) λb hb=>World.putObj_heap_other hb,J.sep⟩
 ·have h1:=g.kp.keep _ _ j ho;have:=(η.1 h1).1;rw[World.putObj_heap_other Ω];exact J.kp.keep _ _ j ho
 ·obtain⟨z1,z2,z3,z4⟩:=J.res k j;refine⟨z1,z2,z3,λl p f=>?_⟩;have P:U.loc k l=some p:=g.le.loc k l p (by rw[←z1 l];exact f);have:=g.lt P;rw[World.putObj_heap_other Ω];exact z4 l p f
def de (g:Inv B W U h0 w0){fn:Func}{tmps:Array Value}{R:Ending→World→Prop}{n:Nat}:∀(f:List Nat) (w:World),bv B U h0 w0 ψ h w→f.Nodup→(∀D∈f,w0.heap.size≤D∧w.heap[D]? = some (.deferred (some []))) →
  (∀l,bv B U h0 w0 ψ h l→∃v,(results fn tmps).run P l = .ok v l∧R (.returned v) l) →
  LeavesInM (RF none) n P fn tmps R (f.map λD=>{ target :=.collected D,args :=#[] }) .returning w
 |[],w,hs,_,_,hk=>hk w hs
 |D::f,w,hs,hnd,hall,hk=>by obtain⟨hB,J⟩:=hall D (S' ..);obtain⟨C,r⟩:=aiB.1 hnd;refine⟨Ψ,.inl ⟨D,_,rfl,run_takeDeferred J, ?_⟩⟩;refine de g f _ (Vx g hs J hB) r (λT j=>?_) hk;obtain⟨h1,h2⟩:=hall T (J' _ j);have p:T≠D:=λe=>C (by rw[←e];exact j);exact⟨h1,(World.putObj_heap_other p).trans h2⟩
variable{e:Env}{tmps:Array Value}{l:List PV}{vs:List Value}
def sq (hI:Inv B W φ h w)(hE:ER φ e tmps){T:ResultVar}{r:FR}(j:adt P T=some r){u:PV}(f:xO e h r=some u):∃v,(iG tmps T).run P w = .ok v w∧aP φ u=some v:=by
 cases T with
 |tmp t=>
  simp only[adt]at j;split at j
  next p=>
   cases j;simp[xO]at f;split at f
   next v U=>cases f;have:=hE t p;rw[U]at this;exact⟨_,by simp[iG],this⟩
   ·cases f
  ·cases j
 |cell t ty=>
  simp only[adt]at j;split at j
  next b hb=>
   split at j
   ·rename_i p;cases j;simp[xO]at f;split at f
    ·rename_i k g C U;have J:=hE t p.1;rw[U]at J;split at f
     ·rename_i cs hcs;obtain⟨l,hl,e⟩:=ga J;obtain⟨vs,q1,q2,q3,_⟩:=hI.rd hcs hl;have R:vs.length=ah P ty:=by rw[aY q1,q2]
      unfold FT at f;cases b with
      |true =>cases f;refine⟨.agg vs.toArray, ?_,by show aP φ (.agg cs)=_;simp[aP,q1]⟩;have:=T? (P:=P) w ⟨l.b,C,none⟩ vs q3;rw[R]at this;simp[iG,e,asAddr,loadVar,cD hb,az p.2,this]
      |false=>
       simp only at f;split at f
       next c=>cases f;obtain⟨v,ws,rfl,z1,z2⟩:=bW q1;refine⟨v, ?_,z1⟩;have j:=q3 0 v rfl;rw[show((⟨l.b,C,none⟩:Addr).add 0)=⟨l.b,C,none⟩by simp[Addr.add]]at j;simp[iG,e,asAddr,loadVar,cD hb,run_load,j]
       ·cases f
     ·cases f
    ·cases f
   ·cases j
  ·cases j
def gX (j:Inv B W φ h w){e:Env}{tmps:Array Value}(p:ER φ e tmps):∀{f:List ResultVar} {g:List FR} {l:List PV},IC P f=some g→dv e h g=some l →
  ∃vs,(f.mapM (iG tmps)).run P w = .ok vs w∧cw φ l=some vs
 |[],g,l,hc,hr=>by cases hc;cases hr;exact⟨[],Ψ,rfl⟩
 |rv::f,g,l,hc,hr=>by
  simp[IC]at hc;split at hc
  next a b h1 h2=>
   cases hc;simp[dv]at hr;split at hr
   ·rename_i u r;split at hr
    next us hus=>cases hr;obtain⟨v,J,C⟩:=sq j p h1 r;obtain⟨vs,q1,q2⟩:=gX j p h2 hus;refine⟨v::vs, ?_,bt C q2⟩;rw[aiJ,ξ,J,Δ,ξ,q1,Δ];rfl
    ·cases hr
   ·cases hr
  ·cases hc
def It:∀{l:List PV} {vs:List Value},cw φ l=some vs→vs.length=l.length
 |[],vs,r=>by cases r;rfl
 |c::l,vs,r=>by obtain⟨v,ws,rfl,_,f⟩:=gj r;simp[It f]
def nA (f:cw φ l=some vs):RT φ (jA l) (if h:vs.length=1 then vs[0]else .tuple vs.toArray):=by
 have g:=It f;match l,vs,f,g with
 |[],[],f,_=>exact⟨[],rfl,Ψ⟩
 |[u],[v],f,_ =>obtain⟨p,ws,e,j,r⟩:=gj f;cases e;have j:RT φ (.pv u) v:=j;simpa[jA]using j
 |u::u'::l,v::p::vs,f,_=>exact⟨v::p::vs,f,Ψ⟩
def dg (p:Inv B W φ h w)(r:ER φ e tmps){fn:Func}{f:List FR}(j:IC P fn.results.toList=some f)(g:dv e h f=some l):∃v,(results fn tmps).run P w = .ok v w∧RT φ (jA l) v:=by
 obtain⟨vs,J,C⟩:=gX p r j g;refine⟨_, ?_,nA C⟩;have e:results fn tmps=(do let vs ←fn.results.mapM (iG tmps);pure (if h:vs.size=1 then vs[0]else .tuple vs)):=by unfold results;congr 2
 rw[e,B?,ξ,ajc,ξ,J,Δ];simp
def D5:∀(l:List TV) (p:Pos) (e:Env) (q:Pos),(jU l p e).get .unk q=if p.num≤q.num∧q.num<p.num+l.length then l.getD (q.num-p.num) .unk else e.get .unk q
 |[],p,e,q=>by simp[jU];intro g r;omega
 |a::l,p,e,q=>by
  simp only[jU];rw[D5 l p.succ (PM.set .unk p e a) q,PM.get_set,Pos.num_succ];simp only[upd];by_cases f:p=q
  ·subst f;rw[B' Ω,β rfl,β ⟨ζ _,Ψ⟩,ai0];rfl
  ·have j:p.num≠q.num:=λe=>f (Pos.inj e);rw[B' f];simp only[r_];by_cases g:p.num+1≤q.num∧q.num<p.num+1+l.length
   ·rw[β g,β ⟨Ω,Ω⟩,show q.num-p.num=(q.num-(p.num+1))+1 by omega,List.getD_cons_succ]
   ·rw[B' g,B' Ω]
def RTs.get:∀{l:List TV} {vs:List Value} (i:Nat),RTs φ l vs→i<l.length→RT φ (l.getD i .unk) (vs.getD i undef)
 |a::l,vs,0,h,_=>by obtain⟨v,ws,rfl,g,f⟩:=h.cons;exact g
 |a::l,vs,i+1,h,hi=>by obtain⟨v,ws,rfl,g,f⟩:=h.cons;simp;exact RTs.get i f (by simpa using hi)
 |[],_,_,_,hi=>by simp at hi
def iU {l:List TV}(g:RTs φ l vs)(n:Nat):ER φ (jU l .e .leaf) (vs.toArray++Array.replicate n undef):=λt j=>by
 have p:(pos t).num=t:=sA 64 t j;rw[D5,p];simp only[Pos.num,c_,Z',ajF,aiZ];split
 next hlt=>
  have f:t<vs.length:=by have:=g.len;omega
  have:=g.get t hlt;have e:(vs.toArray++Array.replicate n undef).getD t undef=vs.getD t undef:=by rw[n_,υ,G_ (by simpa using f)];simp
  rw[e];exact this
 ·exact trivial
def Ao {f:FuncId}{x:Fi}(hx:gK P Gl f=some x):∃fn c rs,P.funcs[f]? = some fn∧fn.body=some c∧(fn.name == "runtime.NumGoroutine")=false∧IC P fn.results.toList=some rs∧x=⟨cC P Gl fn.ntmps c,rs,fn.ntmps⟩:=by
 unfold gK at hx;split at hx
 next fn hf=>
  split at hx
  next c hb=>
   split at hx
   ·cases hx
   ·rename_i hn;split at hx
    next rs hrs=>simp at hx;exact⟨fn,c,rs,hf,hb,by simpa using hn,hrs,hx.symm⟩
    ·cases hx
  ·cases hx
 ·cases hx
def jC (hm:P.follows .mixedOrders=true){C:Nat}:∀(dp:Nat) (R:Yk) (J:List Lq),Pd P Gl B R J→ry P Gl B (sM (gK P Gl) C dp R) J:=by
 intro dp;induction dp with
 |zero=>
  intro R J r b t args d n v d' n' g;cases t with
  |yld j=>exact r b j args d n v d' n' g
  |fn f=>cases g
 |succ dp ih=>
  intro R J r b t args d n v d' n' g;cases t with
  |yld j=>exact r b j args d n v d' n' g
  |fn f=>
   intro W φ w hG hI vs hr hcx;simp[sM]at g;split at g
   ·rename_i x hx;obtain⟨fn,c,rs,f1,f2,f3,f4,rfl⟩:=Ao hx;simp only at g;split at g
    ·rename_i hle;have hle:=bf.1 hle;have hlen:=hr.len;refine⟨⟨fn,f1,by simp[f2],f3⟩, ?_⟩;unfold UP at g;split at g
     ·rename_i X e1 d1 n1 hex;have hsz:(vs.toArray++Array.replicate (fn.ntmps-vs.toArray.size) undef).size=fn.ntmps:=by
       simp;omega
      have ckok:CkOk P Gl B (BU (sM (gK P Gl) C dp) R) J:=⟨ih R J r,λyk' Γ' h=>ih yk' Γ' h⟩;refine callsIn_wide.1 (callsIn_of_wp_marks (F:=RF none) (n:=0) f1 f2 trivial (wpIn_mono ((gh hm ckok c).1 none 0 w.heap.size W φ _ w hI hG hcx (λl hl=>by cases hl) (.inl rfl) (ζ _) b (jU args .e .leaf) d n _ w X e1 d1 n1 hex ⟨⟨φ,bv.refl,iU hr _⟩,hsz,[],rfl,R?,λD hD=>by cases hD⟩) λex a w' T=>?_));have fin:(∀id,X ≠ .exit id)→Rl B w.heap.size φ (HP.ov b d).get w fn.ntmps e1 (HP.ov b d1).get a w'→LeavesInM (RF none) 0 P fn a.tmps (FP B φ (HP.ov b d).get w (HP.ov b d').get v) a.defers .returning w':=λhX p=>by
       obtain⟨ψ,hs,hE⟩:=p.ex;obtain⟨ms,m1,m2,m3⟩:=p.df;have hres:∃l,dv e1 (HP.ov b d1).get rs=some l∧v=jA l∧d'=d1:=by
        split at g
        ·exact(hX _ rfl).elim
        ·split at g
         next l hl=>injection g with y1 y2 y3;exact⟨l,hl,y1.symm,y2.symm⟩
         ·cases g
       obtain⟨l,hl,rfl,rfl⟩:=hres;rw[m1];refine de hI ms w' hs m2 m3 λw2 U=>?_;obtain⟨u,r1,r2⟩:=dg (U.2.1 _ hI) hE f4 hl;exact⟨u,r1,u,ψ,rfl,U,r2⟩
      cases ex with
      |normal=>obtain⟨rfl,p⟩:=T;exact fin (λid e=>by cases e) p
      |ret=>obtain⟨rfl,p⟩:=T;exact fin (λid e=>by cases e) p
      |exit id=>obtain⟨rfl,_⟩:=T;cases g
      |goto l=>exact T.elim
      |panic ch=>exact T.elim
      |outgrown=>exact T.elim
     ·cases g
    ·cases g
   ·cases g
def φN:Gx:=⟨λ_ _=>none,λ_=>none,λ_=>none⟩
def ag5 (w:World):Inv w.heap.size ⟨w,φN⟩ φN (HP.ov .nil .leaf).get w :=
 ⟨Below.refl _ _,Kp.refl _,Gx.le.refl _,λ_ h=>(by cases h),ζ _,λ_=>⟨λ_=>rfl,rfl,rfl⟩,λ_ _ _ _ _ _ h=>(by cases h)⟩
end
