/- Closed runs. -/
import Derived.Test.YthfdnklcgfkjoaaGreatDoorCloV
import Derived.Maps.RangeRun
set_option linter.all false
namespace Go.Proofs.YthfdnklcgfkjoaaGreatDoor.Clo
open Go Go.RowKit
variable [SymVal]
inductive Dl where
 |op (dst:Option Pos) (out:TV) (wr:Option (Pos×EO))
 |call (dst:Option Pos) (out:TV) (lay:DM)
def Dl.dst:Dl→Option Pos
 |.op d _ _=>d
 |.call d _ _=>d
def Dl.out:Dl→TV
 |.op _ o _=>o
 |.call _ o _=>o
def Dl.dm:Dl→DM→DM
 |.op _ _ g,d=>tJ d g
 |.call _ _ f,d=>mX f d
def Dl.wrote:Dl→Pos→Option EO
 |.op _ _ g,k=>match g with
  |some (k',o)=>if k'=k then some o else none
  |none=>none
 |.call _ _ f,k=>PM.get none f k
structure St where
 e:Env
 d:DM
def Dl.app (x:Dl)(s:St):St:=⟨bn s.e x.dst x.out,x.dm s.d⟩
def orE (a:Option EO)(b:EO):EO:=match a with|some o=>o|none=>b
def Dl.dm_get (b:HP)(x:Dl)(d:DM)(k:Pos):(HP.ov b (x.dm d)).get k=orE (x.wrote k) ((HP.ov b d).get k):=by
 cases x with
 |op g out j=>
  simp[Dl.dm,Dl.wrote];rw[FV];cases j with
  |none=>rfl
  |some p=>
   obtain⟨l,o⟩:=p;simp[tn,upd];by_cases e:l=k
   ·simp[e,orE]
   ·simp[e,orE]
 |call g out f =>simp[Dl.dm,Dl.wrote];rw[HP.get_merge];simp[HP.get];cases PM.get none f k <;> rfl
def Dl.e_get (x:Dl)(e:Env)(t:Pos):(bn e x.dst x.out).get .unk t=if x.dst=some t then x.out else e.get .unk t:=by
 unfold bn;cases x.dst with
 |none=>simp
 |some d =>simp[PM.get_set,upd]
def stT (f:List Dl)(D:Nat→Bool)(s:St):Nat→St
 |0=>s
 |m+1=>match D m with
  |true=>match f[m]? with
   |some x=>x.app (stT f D s m)
   |none=>stT f D s m
  |false=>stT f D s m
def dE:Nat→Bool:=λ_=>true
def alO:OP→Bool
 |.op _ f=>f
 |_=>false
def rI:List OP→Pos→Nat→Pos
 |_,r,0=>r
 |[],r,_=>r
 |o::l,r,i+1=>rI l (dc (alO o) r) i
def AtT (ck:Callk)(b:HP)(U:List Pos)(r:Pos)(o:OP)(j:Inf)(x:Dl)(s:St):Prop:=match o with
 |.op C J=>∃out l,stepF s.e (HP.ov b (e9 J s.d r)).get r C=some (out,l)∧okW (HP.ov b (e9 J s.d r)).get l=true∧j = .op (fC l) (trF s.e (HP.ov b (e9 J s.d r)).get r C) (pE J r l) (qF s.e r C) out∧x = .op C.dst out l
 |.call args p g=>(gd s.e g=some true∧∃t P out f n R,cX (HP.ov b s.d).get (bj s.e args)=some (t,P)∧ck.call (.ov b s.d) t P .leaf n = .ok out f R∧sV f U=true∧j = .call (.ov b s.d) f∧x = .call p out f)∨(gd s.e g=some false∧j = .op none [] true .fail .unk∧x = .op p (.tup []) none)
 |_=>False
def zx (f:List Dl)(s1:St)(m:Nat):stT f dE s1 (m+1)=match f[m]? with|some x=>x.app (stT f dE s1 m)|none=>stT f dE s1 m:=rfl
def B6 (x:Dl)(f:List Dl)(s:St):∀m,stT (x::f) dE s (m+1)=stT f dE (x.app s) m
 |0=>rfl
 |m+1=>by rw[zx,B6 x f s m,zx,arN]
def Kk {ck:Callk}{b:HP}{U:List Pos}:∀(l:List OP) (e:Env) (d:DM) (r n:Pos) (C:List Inf) (e':Env) (d':DM) (n':Pos),nU ck b U l e d r n = .ok C e' d' n' →
  ∃j:List Dl,j.length=l.length∧stT j dE ⟨e,d⟩ l.length=⟨e',d'⟩∧∀i,i<l.length→∃o f x,l[i]? = some o∧C[i]? = some f∧j[i]? = some x∧AtT ck b U (rI l r i) o f x (stT j dE ⟨e,d⟩ i)
 |[],e,d,r,n,C,e',d',n',h=>by simp only[nU]at h;injection h with h1 h2 h3 h4;subst h2;subst h3;exact⟨[],rfl,rfl,λi hi=>by simp at hi⟩
 |o::l,e,d,r,n,C,e',d',n',h=>by
  have J:∀(x:Dl) (f:Inf) (r':Pos) (aQ:RT'),AtT ck b U r o f x ⟨e,d⟩→r'=dc (alO o) r→(∃n1,aQ=nU ck b U l (bn e x.dst x.out) (x.dm d) r' n1)→Bu f aQ = .ok C e' d' n' →
    ∃j:List Dl,j.length=(o::l).length∧stT j dE ⟨e,d⟩ (o::l).length=⟨e',d'⟩∧∀i,i<(o::l).length→∃o' f x,(o::l)[i]? = some o'∧C[i]? = some f∧j[i]? = some x∧AtT ck b U (rI (o::l) r i) o' f x (stT j dE ⟨e,d⟩ i):=by
   intro x f r' aQ hat hr' ⟨n1,P⟩ hc;cases aQ with
   |no=>simp only[Bu]at hc;cases hc
   |ok infs2 e2 d2 n2=>
    simp only[Bu]at hc;injection hc with c1 c2 c3 c4;subst c1;subst c2;subst c3;subst c4;obtain⟨j,q1,q2,q3⟩:=Kk l _ _ _ _ _ _ _ _ P.symm;refine⟨x::j,by simp[q1], ?_,λi hi=>?_⟩
    ·rw[q_,B6];exact q2
    ·cases i with
     |zero=>exact⟨o,f,x,rfl,rfl,rfl,hat⟩
     |succ i =>obtain⟨o',inf',x',p1,p2,p3,p4⟩:=q3 i (by simpa using hi);refine⟨o',inf',x',by simpa using p1,by simpa using p2,by simpa using p3, ?_⟩;rw[B6];simp[rI];rw[←hr'];exact p4
  simp[nU]at h;split at h
  next fo al=>
   split at h
   ·rename_i out wr hst;cases R:okW (HP.ov b (e9 al d r)).get wr with
    |false=>rw[R]at h;cases h
    |true =>rw[R,ξ]at h;exact J (.op fo.dst out wr) _ _ _ ⟨out,wr,hst,R,rfl,rfl⟩ rfl ⟨_,rfl⟩ h
   ·cases h
  next args dst g=>
   split at h
   ·rename_i hg;split at h
    ·rename_i t vs hen;split at h
     ·rename_i out p n1 hcall;cases T:sV p U with
      |false=>rw[T]at h;cases h
      |true =>rw[T,ξ]at h;exact J (.call dst out p) _ _ _ (.inl ⟨hg,t,vs,out,p,n,n1,hen,hcall,T,rfl,rfl⟩) rfl ⟨_,rfl⟩ h
     ·cases h
    ·cases h
   next hg=>exact J (.op dst (.tup []) none) _ _ _ (.inr ⟨hg,rfl,rfl⟩) rfl ⟨_,rfl⟩ h
   ·cases h
  ·cases h
def Fx (f:Bool)(n:Pos):(dc f n).num=n.num+(if f=true then 1 else 0):=by
 cases f with
 |true=>simp[dc,Pos.num_succ]
 |false=>simp[dc]
def alj:∀(l:List OP) (r:Pos) (i:Nat),r.num≤(rI l r i).num
 |l,r,0=>by cases l <;> exact δ _
 |[],r,i+1=>δ _
 |o::l,r,i+1=>by simp[rI];have:=alj l (dc (alO o) r) i;rw[Fx]at this;omega
def ali (l:List OP):∀(r:Pos) (i j:Nat) (o:OP),l[i]? = some o→alO o=true→i<j→(rI l r i).num<(rI l r j).num:=by
 induction l with
 |nil=>intro r i j o h;simp at h
 |cons x l g=>
  intro r i j o h f p;cases j with
  |zero=>omega
  |succ j=>
   cases i with
   |zero =>simp at h;subst h;have J:=alj l (dc (alO x) r) j;have C:=Fx (alO x) r;rw[β f]at C;simp[rI];omega
   |succ i =>simp[rI];exact g _ i j o (by simpa using h) f Ω
def amb {l:List OP}{r:Pos}{i j:Nat}{o f:OP}(p:l[i]? = some o)(g:l[j]? = some f)(J:alO o=true)(C:alO f=true)(e:rI l r i=rI l r j):i=j:=by
 obtain h|h|h:=H? i j
 ·have:=ali l r i j o p J h;rw[e]at this;omega
 ·exact h
 ·have:=ali l r j i f g C h;rw[e]at this;omega
def yq {b:HP}:∀(l:List OP) (d:DM) (n:Pos) (U:List Pos) (j:DM) (r:Pos),sT b l d n=some (U,j,r) →
  (∀k,k∈U→(HP.ov b d).get k = .none∧(HP.ov b j).get k = .res)∧(∀k,k ∉ U→(HP.ov b j).get k=(HP.ov b d).get k)∧∀i o,l[i]? = some o→alO o=true→rI l n i∈U
 |[],d,n,U,j,r,h=>by cases h;exact⟨λk f=>(by cases f),λ_ _=>rfl,λi o h=>by simp at h⟩
 |o::l,d,n,U,j,r,h=>by
  have skip:alO o=false→sT b l d n=some (U,j,r)→(∀k,k∈U→(HP.ov b d).get k = .none∧(HP.ov b j).get k = .res)∧(∀k,k ∉ U→(HP.ov b j).get k=(HP.ov b d).get k)∧∀i p,(o::l)[i]? = some p→alO p=true→rI (o::l) n i∈U:=by
   intro ho hr;obtain⟨q1,q2,T⟩:=yq l d n U j r hr;refine⟨q1,q2,λi p J P=>?_⟩;cases i with
   |zero=>simp at J;subst J;rw[ho]at P;cases P
   |succ i=>simp[rI,ho];exact T i p (by simpa using J) P
  cases o with
  |call args dst g=>exact skip rfl h
  |nxt x dst=>exact skip rfl h
  |bad=>exact skip rfl h
  |op fo al=>
   cases al with
   |false=>exact skip rfl h
   |true=>
    simp[sT]at h;split at h
    ·rename_i hn;split at h
     ·rename_i l2 d2 n2 hr;cases h;obtain⟨q1,q2,T⟩:=yq _ _ _ _ _ _ hr;have R:=HP.get_set b d n .res;have C:n ∉ l2:=λhm=>by
       have:=(q1 n hm).1;rw[R,bk]at this;cases this
      refine⟨λk f=>?_,λk f=>?_,λi p J P=>?_⟩
      ·obtain rfl|f:=N'.1 f
       ·refine⟨hn, ?_⟩;rw[q2 _ C,R,bk]
       ·obtain⟨p1,p2⟩:=q1 k f;refine⟨?_,p2⟩;rw[R,bO _ _ (λe=>C (by rw[e];exact f))]at p1;exact p1
      ·simp at f;rw[q2 k f.2,R,bO _ _ (λe=>f.1 e.symm)]
      ·cases i with
       |zero=>exact c_ ..
       |succ i=>exact C' _ (T i p (by simpa using J) P)
     ·cases h
    ·cases h
def lH {d:DM}:∀{l:List Pos},sV d l=true→∀k∈l,PM.get none d k=none
 |[],_,k,hk=>by cases hk
 |p::l,h,k,hk=>by
  simp[sV]at h;split at h
  ·cases h
  next hp=>
   obtain rfl|hk:=N'.1 hk
   ·exact hp
   ·exact lH h k hk
def ut {k:Pos}:∀{l:List Pos},Vb k l=true↔k∈l
 |[]=>by simp[Vb]
 |p::l=>by
  simp[Vb];cases f:k.beq p with
  |true=>simp[Pos.beq_iff.1 f]
  |false=>
   have:¬k=p:=λe=>by rw[Pos.beq_iff.2 e]at f;cases f
   simp[ut (l:=l),this]
def Opn (l:List OP)(C:List Inf)(p q:Nat):Prop:=∃x y a c,l[p]? = some x∧l[q]? = some y∧BX x y=true∧C[p]? = some a∧C[q]? = some c∧eD a c=true
structure Dr (ck:Callk)(b:HP)(U:List Pos)(l:List OP)(C:List Inf)(ds:List Dl)(s1:St)(n:Pos)(T:Nat→Nat→Prop):Prop where
 len:ds.length=l.length
 at_:∀i,i<l.length→∃o inf x,l[i]? = some o∧C[i]? = some inf∧ds[i]? = some x∧AtT ck b U (rI l n i) o inf x (stT ds dE s1 i)
 pair:∀p q,p<q→q<l.length→T p q∨Opn l C p q
 res:∀k,k∈U→(HP.ov b s1.d).get k = .res
 al:∀i o,l[i]? = some o→alO o=true→rI l n i∈U
section
variable {ck:Callk}{b:HP}{U:List Pos}{l:List OP}{C:List Inf}{ds:List Dl}{s1:St}{n:Pos}{T:Nat→Nat→Prop}
def AtT.dst {r:Pos}{o:OP}{f:Inf}{x:Dl}{s:St}(h:AtT ck b U r o f x s):x.dst=SH o:=by
 cases o with
 |op P R=>obtain⟨out,p,_,_,_,rfl⟩:=h;rfl
 |call args l g =>rcases h with⟨_,t,C,out,j,n,J,_,_,_,_,rfl⟩|⟨_,_,rfl⟩ <;> rfl
 |nxt _ _=>exact h.elim
 |bad=>exact h.elim
variable{k d:Pos}{D:Nat→Bool}{i j:Nat}
def AtT.wres {r:Pos}{o:OP}{l:Inf}{x:Dl}{s:St}(h:AtT ck b U r o l x s)(hk:k∈U)(J:(HP.ov b s.d).get k = .res)(j:x.wrote k≠none):alO o=true∧k=r:=by
 cases o with
 |op fo al=>
  obtain⟨out,P,_,f,_,rfl⟩:=h;simp[Dl.wrote]at j;cases P with
  |none=>exact(j rfl).elim
  |some p=>
   obtain⟨T,o'⟩:=p;simp only at j;split at j
   ·rename_i e;subst e;simp[okW]at f;cases al with
    |false =>simp[e9]at f;rw[J]at f;cases f
    |true=>
     simp[e9]at f;rw[HP.get_set]at f;by_cases e:r=T
     ·exact⟨rfl,e.symm⟩
     ·rw[bO _ _ e,J]at f;cases f
   ·exact(j rfl).elim
 |call args dst g=>
  rcases h with⟨_,t,vs,out,R,n,n',_,_,C,_,rfl⟩|⟨_,_,rfl⟩
  ·exact(j (lH C k hk)).elim
  ·exact(j rfl).elim
 |nxt _ _=>exact h.elim
 |bad=>exact h.elim
def Dr.kept (h:Dr ck b U l C ds s1 n T){i:Nat}{o:OP}(P:l[i]? = some o)(R:alO o=true){x:Dl}(hx:ds[i]? = some x):∀m,m≤l.length →
  (∀j y,j<m→ds[j]? = some y→y.wrote (rI l n i)≠none→j=i∨(i<j∧x.wrote (rI l n i)≠none))∧((m≤i∨x.wrote (rI l n i)=none)→(HP.ov b (stT ds dE s1 m).d).get (rI l n i) = .res)
 |0,_=>⟨λj y hj=>Ω,λ_=>h.res _ (h.al i o P R)⟩
 |m+1,hm=>by
  obtain⟨q1,q2⟩:=h.kept P R hx m Ω;obtain⟨om,im,xm,p1,p2,J,p4⟩:=h.at_ m Ω;have p:xm.wrote (rI l n i)≠none→m=i∨(i<m∧x.wrote (rI l n i)≠none):=by
   intro g;by_cases f:m≤i∨x.wrote (rI l n i)=none
   ·obtain⟨a1,a2⟩:=p4.wres (h.al i o P R) (q2 f) g;exact .inl (amb p1 P a1 R a2.symm)
   ·simp at f;exact .inr ⟨Ω,f.2⟩
  refine⟨λj y hj hy g=>?_,λf=>?_⟩
  ·obtain hlt|hge:=T' j m
   ·exact q1 j y hlt hy g
   ·have:j=m:=Ω
    subst this;rw[J]at hy;cases hy;exact p g
  ·have r:=q2 (f.imp (λh=>Ω) id);rw[zx,J];show(HP.ov b (xm.dm _)).get _=_;rw[Dl.dm_get];cases g:xm.wrote (rI l n i)with
   |none=>exact r
   |some o'=>
    exfalso;rcases p (by rw[g];exact λe=>by cases e)with e|⟨e1,e2⟩
    ·subst e;rw[hx]at J;cases J;obtain f|f:=f
     ·omega
     ·rw[f]at g;cases g
    ·obtain f|f:=f
     ·omega
     ·exact e2 f
structure Nx (l:List OP)(T:Nat→Nat→Prop)(D:Nat→Bool)(i:Nat):Prop where
 lt:i<l.length
 not:D i=false
 cl:∀q,q<l.length→D q=true→∀p,p<l.length→T p q→D p=true
 pre:∀p,p<l.length→T p i→D p=true
def Nx.before (f:Nx l T D i)(h:Dr ck b U l C ds s1 n T)(g:j<i)(p:D j=false):Opn l C j i:=by
 obtain hp|hp:=h.pair j i g f.lt
 ·have:=f.pre j (atz g f.lt) hp;rw[p]at this;cases this
 ·exact hp
def Nx.after (f:Nx l T D i)(h:Dr ck b U l C ds s1 n T)(p:i<j)(g:j<l.length)(r:D j=true):Opn l C i j:=by
 obtain hp|hp:=h.pair i j p g
 ·have:=f.cl j g r i f.lt hp;rw[f.not]at this;cases this
 ·exact hp
def Fv {a b:OP}(h:BX a b=true)(g:SH a=some d):d ∉ looks b∧SH b≠some d:=by
 simp[BX,g]at h;refine⟨λf=>?_,λe=>?_⟩
 ·rw[ut.2 f]at h;cases h.1.1
 ·have:=h.1.2;rw[e]at this;simp only[Pos.beq_iff.2 (rfl:d=d)]at this;cases this
def ab5 {a b:OP}(h:BX a b=true)(f:SH b=some d):d ∉ looks a∧SH a≠some d:=by
 refine⟨λg=>?_,λe=>?_⟩
 ·simp[BX,f]at h;rw[ut.2 g]at h;cases h.2
 ·exact(Fv h e).2 f
def Dr.env (h:Dr ck b U l C ds s1 n T){D:Nat→Bool}{i:Nat}(g:Nx l T D i){o:OP}(r:l[i]? = some o){t:Pos}(p:t∈looks o):∀m,m≤l.length→(stT ds D s1 m).e.get .unk t=(stT ds dE s1 (min m i)).e.get .unk t
 |0,_=>by rw[Nat.zero_min];rfl
 |m+1,hm=>by
  have f:=h.env g r p m Ω;obtain⟨om,im,xm,R,p2,j,P⟩:=h.at_ m Ω;obtain hlt|heq|hgt:=H? m i
  ·rw[show min (m+1) i=m+1 by omega];rw[show min m i=m by omega]at f;rw[zx,j];simp[stT];cases J:D m with
   |true =>simp[j,Dl.app,Dl.e_get,f]
   |false =>obtain⟨x,y,a,c,o1,o2,o3,_⟩:=g.before h hlt J;rw[R]at o1;cases o1;rw[r]at o2;cases o2;simp only[Dl.app,Dl.e_get,f];rw[ο];rw[P.dst];intro e;exact(Fv o3 e).1 p
  ·subst heq;rw[show min (m+1) m=m by omega];rw[show min m m=m by omega]at f;simp[stT,g.not];exact f
  ·rw[show min (m+1) i=i by omega];rw[show min m i=i by omega]at f;simp[stT];cases J:D m with
   |false=>exact f
   |true=>
    obtain⟨x,y,a,c,o1,o2,o3,_⟩:=g.after h hgt Ω J;rw[R]at o2;cases o2;rw[r]at o1;cases o1;simp[j,Dl.app,Dl.e_get];rw[ο]
    ·exact f
    ·rw[P.dst];intro e;exact(ab5 o3 e).1 p
def Dr.heap (h:Dr ck b U l C ds s1 n T){D:Nat→Bool}{i:Nat}(J:Nx l T D i){k:Pos}(R:EO→Prop)
  (h1:∀j x o,j<i→D j=false→Opn l C j i→ds[j]? = some x→x.wrote k=some o→R ((HP.ov b (stT ds dE s1 j).d).get k))
  (h2:∀j x o,i<j→j<l.length→D j=true→Opn l C i j→ds[j]? = some x→x.wrote k=some o→R o):∀m,m≤l.length→(HP.ov b (stT ds D s1 m).d).get k=(HP.ov b (stT ds dE s1 (min m i)).d).get k∨R ((HP.ov b (stT ds D s1 m).d).get k)
 |0,_=>by rw[Nat.zero_min];exact .inl rfl
 |m+1,hm=>by
  have f:=h.heap J R h1 h2 m Ω;obtain⟨om,im,g,p1,p2,p,p4⟩:=h.at_ m Ω;obtain hlt|heq|hgt:=H? m i
  ·rw[show min (m+1) i=m+1 by omega];rw[show min m i=m by omega]at f;rw[zx,p];simp[stT];cases r:D m with
   |true=>
    simp[p,Dl.app,Dl.dm_get];cases P:g.wrote k with
    |some o=>exact .inl rfl
    |none=>exact f
   |false=>
    simp[Dl.app,Dl.dm_get];cases P:g.wrote k with
    |none=>exact f
    |some o=>
     refine .inr ?_;obtain f|f:=f
     ·rw[f];exact h1 m g o hlt r (J.before h hlt r) p P
     ·exact f
  ·subst heq;rw[show min (m+1) m=m by omega];rw[show min m m=m by omega]at f;simp[stT,J.not];exact f
  ·rw[show min (m+1) i=i by omega];rw[show min m i=i by omega]at f;simp[stT];cases r:D m with
   |false=>exact f
   |true=>
    simp[p,Dl.app,Dl.dm_get];cases P:g.wrote k with
    |none=>exact f
    |some o=>exact .inr (h2 m g o hgt Ω r (J.after h hgt Ω r) p P)
def Dr.apartW (h:Dr ck b U l C ds s1 n T)(hl:j<l.length)(hi:i<l.length)(ho:Opn l C i j){x y:Dl}(hx:ds[i]? = some x)(hy:ds[j]? = some y)(r:y.wrote k≠none):x.wrote k=none:=by
 obtain⟨oi,ii,xi,a1,a2,a3,a4⟩:=h.at_ i hi;obtain⟨oj,ij,xj,b1,b2,b3,P⟩:=h.at_ j hl;obtain⟨p,q,a,c,o1,o2,o3,o4,o5,o6⟩:=ho;rw[a1]at o1;cases o1;rw[b1]at o2;cases o2;rw[a2]at o4;cases o4;rw[b2]at o5;cases o5;rw[a3]at hx;injection hx with hx;subst hx;rw[b3]at hy;cases hy;have wk:∀{J:Option Pos} {out:TV} {wr:Option (Pos×EO)},(Dl.op J out wr).wrote k≠none→fC wr=some k:=by
  intro J out wr r;cases wr with
  |none=>exact(r rfl).elim
  |some p=>
   simp only[Dl.wrote]at r;split at r
   next e=>simp[fC,e]
   ·exact(r rfl).elim
 cases hcase:xi.wrote k with
 |none=>rfl
 |some o=>
  exfalso;have hwi:xi.wrote k≠none:=by rw[hcase];exact λe=>by cases e
  cases oi with
  |op fo al=>
   obtain⟨out,wr,_,_,rfl,rfl⟩:=a4;have ki:=wk hwi;cases oj with
   |op fo' al' =>obtain⟨f,R,_,_,rfl,rfl⟩:=P;have kj:=wk r;simp[eD,ki,kj,OE]at o6;rw[Pos.beq_iff.2 rfl]at o6;cases o6.2
   |call args J g=>
    rcases P with⟨_,t,vs,f,lay,n1,n2,_,_,hno,rfl,rfl⟩|⟨_,rfl,rfl⟩
    ·rw[ki]at o6;simp only[eD]at o6;cases o6
    ·exact r rfl
   |nxt _ _=>exact P.elim
   |bad=>exact P.elim
  |call args J g=>
   rcases a4 with⟨_,t,vs,out,lay,n1,n2,_,_,hno,rfl,rfl⟩|⟨_,rfl,rfl⟩
   ·cases oj with
    |op fo' al'=>
     obtain⟨f,R,_,_,rfl,rfl⟩:=P;have kj:=wk r;rw[kj]at o6;cases hf:pE al' (rI l n j) R with
     |false=>rw[hf]at o6;simp only[eD]at o6;cases o6
     |true=>
      cases R with
      |none=>cases kj
      |some p =>simp only[fC,η]at kj;simp only[pE,ι]at hf;have e:=Pos.beq_iff.1 hf.2;rw[kj]at e;have hm:=h.al j _ b1 hf.1;rw[←e]at hm;exact hwi (lH hno k hm)
    |call args' dst' g'=>
     rcases P with⟨_,t,vs,f,lay',n1,n2,_,_,hno',rfl,rfl⟩|⟨_,rfl,rfl⟩
     ·simp only[eD]at o6;cases o6
     ·exact r rfl
    |nxt _ _=>exact P.elim
    |bad=>exact P.elim
   ·exact hwi rfl
  |nxt _ _=>exact a4.elim
  |bad=>exact a4.elim
def Dr.next (h:Dr ck b U l C ds s1 n T){D D':Nat→Bool}{i:Nat}(R:Nx l T D i)(p:∀j,j<l.length→D' j=(D j||decide (j=i))){x:Dl}(g:ds[i]? = some x):∀m,m≤l.length →
  (∀t,(stT ds D' s1 m).e.get .unk t=if m≤i then(stT ds D s1 m).e.get .unk t else(bn (stT ds D s1 m).e x.dst x.out).get .unk t)∧(∀k,(HP.ov b (stT ds D' s1 m).d).get k=if m≤i then(HP.ov b (stT ds D s1 m).d).get k else orE (x.wrote k) ((HP.ov b (stT ds D s1 m).d).get k))
 |0,_=>⟨λt=>by rw[β (s_ _)];rfl,λk=>by rw[β (s_ _)];rfl⟩
 |m+1,hm=>by
  obtain⟨P,J⟩:=h.next R p g m Ω
  obtain⟨om,im,xm,p1,p2,r,p4⟩:=h.at_ m Ω;obtain hlt|heq|hgt:=H? m i
  ·have e:D' m=D m:=by rw[p m Ω];simp;omega
   refine⟨λt=>?_,λk=>?_⟩
   ·have f:=P t;rw[β Ω]at f⊢;simp[stT,e];cases hD:D m with
    |true=>simp[r,Dl.app,Dl.e_get,f]
    |false=>exact f
   ·have f:=J k;rw[β Ω]at f⊢;simp[stT,e];cases hD:D m with
    |true=>simp[r,Dl.app,Dl.dm_get,f]
    |false=>exact f
  ·subst heq;have e:D' m=true:=by rw[p m Ω];simp
   rw[g]at r;cases r;refine⟨λt=>?_,λk=>?_⟩
   ·have f:=P t;rw[β (δ _)]at f;rw[ο Ω];simp[stT,e,R.not,g,Dl.app,Dl.e_get,f]
   ·have f:=J k;rw[β (δ _)]at f;rw[ο Ω];simp[stT,e,R.not,g,Dl.app,Dl.dm_get,f]
  ·have e:D' m=D m:=by rw[p m Ω];simp;omega
   refine⟨λt=>?_,λk=>?_⟩
   ·have f:=P t;rw[ο Ω]at f⊢;simp[stT,e];cases hD:D m with
    |false=>exact f
    |true=>
     simp[r,Dl.app,Dl.e_get,f];by_cases c1:xm.dst=some t
     ·rw[β c1,ο]
      ·exact(β c1).symm
      ·intro c2;obtain⟨oi,ii,xi,a1,a2,a3,a4⟩:=h.at_ i R.lt;rw[g]at a3;cases a3;obtain⟨_,_,_,_,o1,o2,o3,_⟩:=R.after h hgt Ω hD;rw[a1]at o1;cases o1;rw[p1]at o2;cases o2;rw[a4.dst]at c2;rw[p4.dst]at c1;exact(Fv o3 c2).2 c1
     ·rw[ο c1,ο c1]
   ·have f:=J k;rw[ο Ω]at f⊢;simp[stT,e];cases hD:D m with
    |false=>exact f
    |true=>
     simp[r,Dl.app,Dl.dm_get,f];cases hw:xm.wrote k with
     |none=>rfl
     |some o' =>rw[h.apartW Ω R.lt (R.after h hgt Ω hD) g r (by rw[hw];exact λe=>by cases e)];rfl
end
open Go Go.RowKit
variable [SymVal]
def fK:∀(l:List Oper) (f:List Nat) (i:Nat),i<f.length→(aZ l f).getD i 0=f.getD i 0
 |[],f,i,_=>by simp[aZ]
 |o::l,f,i,h=>by rw[aZ,fK l _ i Ξ];simp[List.getD,ω h]
def uN {g:List Nat}:∀(l:List Edge) (s q:Nat),(l.foldl (λs e=>if Region.binds .any e then s ||| 2^e.on ||| g.getD e.on 0 else s) s).testBit q=true →
  s.testBit q=true∨∃e∈l,Region.binds .any e=true∧(q=e.on∨(g.getD e.on 0).testBit q=true)
 |[],s,q,h=>.inl h
 |e::l,s,q,h=>by
  simp at h;obtain f|⟨C,p,j,r⟩:=uN l _ q h
  ·split at f
   ·rename_i j;simp at f;rcases f with(f|f)|f
    ·exact .inl f
    ·refine .inr ⟨e,Ψ,j,.inl ?_⟩;rw[Nat.testBit_two_pow]at f;exact(f_ f).symm
    ·exact .inr ⟨e,Ψ,j,.inr f⟩
   ·exact .inl f
  ·exact .inr ⟨C,by simp[p],j,r⟩
def iV:∀(l:List Oper) (f:List Nat) (i:Nat) (o:Oper),l[i]? = some o→ct f.length l=true→∀q,((aZ l f).getD (f.length+i) 0).testBit q=true →
  ∃e∈o.after.toList,Region.binds .any e=true∧(q=e.on∨((aZ l f).getD e.on 0).testBit q=true)
 |[],f,i,o,h,_,_,_=>by simp at h
 |x::l,f,0,o,h,hok,q,hq=>by
  simp at h;subst h;simp only[ct,ι,d_]at hok;rw[aZ,fK l _ _ Ψ]at hq;simp only[arQ,List.getD,P' (δ _),aty,arM,ate]at hq;obtain h1|⟨e,p,r,g⟩:=uN _ _ _ hq
  ·simp at h1
  ·refine⟨e,p,r,g.imp id λg=>?_⟩;have j:e.on<f.length:=by have:=hok.1 e p;simpa[r]using this
   rw[aZ,fK l _ _ Ξ];have:=j;simpa[List.getD,ω this]using g
 |x::l,f,i+1,o,h,hok,q,hq=>by
  simp[ct]at hok;simp at h;have:=iV l (f++[x.after.toList.foldl (λs e=>if Region.binds .any e then s ||| 2^e.on ||| f.getD e.on 0 else s) 0]) i o h (by simpa using hok.2) q (by
   rw[aZ]at hq;rw[show(f++[x.after.toList.foldl (λs e=>if Region.binds .any e then s ||| 2^e.on ||| f.getD e.on 0 else s) 0]).length+i=f.length+(i+1)by simp;omega];exact hq)
  rw[aZ];exact this
section
variable {P:Program}{ops:Array Oper}
def DC (ops:Array Oper)(D:Nat→Bool):Prop:=∀j,D j=true→∀i,((aZ ops.toList []).getD j 0).testBit i=true→D i=true
variable{listed:Array Bool}{i:Nat}
def uM {j:Nat}(f:i<listed.size):(listed.setIfInBounds i true).getD j false=(listed.getD j false||decide (j=i)):=by
 simp;by_cases h:i=j
 ·subst h;simp[f]
 ·have:¬j=i:=λe=>h e.symm;simp[h,this]
def lF (n j:Nat):(Array.replicate n false).getD j false=false:=by simp only[n_,atv];split <;> rfl
def dR (r:listed.size=ops.size)(h:i∈Region.ready .any ops listed) :
  i<ops.size∧listed.getD i false=false∧∃o,ops[i]? = some o∧∀e∈o.after,Region.binds .any e=true→listed.getD e.on false=true:=by
 rw[atw]at h;obtain⟨p,o,g,l⟩:=h;have f:i<ops.size:=(θ.1 g).1;refine⟨f, ?_,o,g,l⟩;have j:i<listed.size:=Ω
 simpa[n_,j]using p
def Oh (J:ct 0 ops.toList=true)(P:listed.size=ops.size)(r:DC ops (λj=>listed.getD j false))(h:i∈Region.ready .any ops listed) :
  (∀q,((aZ ops.toList []).getD i 0).testBit q=true→listed.getD q false=true)∧DC ops (λj=>(listed.setIfInBounds i true).getD j false):=by
 obtain⟨T,hDi,o,R,l⟩:=dR P h;have C:∀q,((aZ ops.toList []).getD i 0).testBit q=true→listed.getD q false=true:=by
  intro q C;obtain⟨e,U,hb,g⟩:=iV ops.toList [] i o (by simpa using R) J q (by simpa using C);have p:=l e (by simpa using U) hb;obtain rfl|g:=g
  ·exact p
  ·exact r e.on p q g
 refine⟨C,λj f q g=>?_⟩;have f:(listed.setIfInBounds i true).getD j false=true:=f;show(listed.setIfInBounds i true).getD q false=true;rw[uM Ω]at f⊢;simp only[ar6,Δ]at f⊢;obtain f|rfl:=f
 ·exact .inl (r j f q g)
 ·exact .inl (C q g)
def Gj (C:ct 0 ops.toList=true)(hs:listed.size=ops.size)(U:Region.ready .any ops listed=[]):∀i,i<ops.size→listed.getD i false=true:=by
 intro i;induction i using Nat.strongRecOn with
 |_ i T=>
  intro P;cases hD:listed.getD i false with
  |true=>rfl
  |false=>
   exfalso;have:i∈Region.ready .any ops listed:=by
    rw[atw];have hl:i<listed.size:=Ω
    refine⟨by simpa[n_,hl]using hD,ops[i],by simp[P],λe g J=>?_⟩;have r:e.on<i:=by
     have:∀(l:List Oper) (k j:Nat) (o:Oper),ct k l=true→l[j]? = some o→∀e∈o.after.toList,Region.binds .any e=true→e.on<k+j:=by
      intro l;induction l with
      |nil=>intro k j o _ h;simp at h
      |cons x l p=>
       intro k j o f h e g R;simp only[ct,ι,d_]at f;cases j with
       |zero =>simp at h;subst h;have:=f.1 e g;simpa[R]using this
       |succ j =>simp at h;have:=p (k+1) j o f.2 h e g R;omega
     have:=this ops.toList 0 i ops[i] C (by simp[P]) e (by simpa using g) J;omega
    exact T e.on r Ω
   rw[U]at this;cases this
def x7 {l:Option Nat}{n:Nat}{Q:Exit→Act→World→Prop}(h:Region.ready .any ops listed=[]){a:Act}{w:World}(j:Q .normal a w):∀f,wpAnyIn (RF l) n P .any ops Q f listed a w
 |0=>⟨h,j⟩
 |_+1=>⟨λ_=>j,λi g=>by rw[h]at g;cases g⟩
end
def Oj:∀{a b:CV},aa2 a b=true→a=b:=by
 intro a b h;have g:∀{x y:IntKind},kq x y=true→x=y:=by intro x y h;cases x <;> cases y <;> first|rfl|cases h
 have f:∀{l m:List Nat},xu l m=true→l=m:=by
  intro l;induction l with
  |nil=>intro m h;cases m with|nil=>rfl|cons _ _=>cases h
  |cons x l p=>
   intro m h;cases m with
   |nil=>cases h
   |cons y m=>
    simp only[xu]at h;cases j:Nat.beq x y with
    |false=>rw[j]at h;cases h
    |true=>rw[j]at h;rw[κ j,p h]
 cases a <;> cases b <;> simp[aa2,Pos.beq_iff]at h <;> first|(cases h;done)|skip
 case bl.bl x y=>cases x <;> cases y <;> first|rfl|cases h
 case int.int=>obtain⟨r,rfl⟩:=h;rw[g r]
 case str.str=>rw[f h]
 case nilp.nilp=>rfl
 case ptr.ptr=>obtain⟨⟨rfl,rfl⟩,rfl⟩:=h;rfl
 case glob.glob=>rw[h]
 case nils.nils=>rfl
 case sl.sl c _ _ _ _ c'=>
  obtain⟨⟨⟨⟨rfl,rfl⟩,rfl⟩,rfl⟩,h⟩:=h;cases c <;> cases c' <;> first|rfl|(cases h;done)|(rw[κ h])
 case emp.emp=>rw[h]
 case nilm.nilm=>rfl
 case mp.mp=>rw[h]
 case nilf.nilf=>rfl
 case fnc.fnc=>rw[h]
 case clo.clo=>rw[h]
 case nili.nili=>rfl
 case ifc.ifc=>rw[h]
 case sym.sym=>rw[h]
def Br:∀{l m:List CV},LH l m=true→l=m
 |[],[],_=>rfl
 |[],_::_,h=>by cases h
 |_::_,[],h=>by cases h
 |a::l,b::m,h=>by
  simp only[LH]at h;cases f:aa2 a b with
  |false=>rw[f]at h;cases h
  |true=>rw[f]at h;rw[Oj f,Br h]
def tvEq_eq:∀{a b:TV},abZ a b=true→a=b:=by
 intro a b h;unfold abZ at h;split at h
 ·rw[Oj h]
 ·rw[Br h]
 ·cases h
def acO {f:EO→Q}{o:EO}{out:TV}(h:Du f o out=true):f o = .ret out none:=by
 unfold Du at h;split at h
 next out' e=>rw[e,tvEq_eq h]
 ·cases h
def RU {e f:Env}{g:Option (Pos×Bool)}(h:∀t∈NY g,e.get .unk t=f.get .unk t):gd e g=gd f g:=by
 cases g with
 |none=>rfl
 |some p =>obtain⟨p,w⟩:=p;simp[gd];rw[h p (by simp[NY])]
def ol {e g:Env}:∀{xs:List Src},(∀t∈Do xs,e.get .unk t=g.get .unk t)→bj e xs=bj g xs
 |[],_=>rfl
 |.t p::xs,h=>by simp only[bj,bA];rw[h p (by simp[Do]),ol (xs:=xs) λt f=>h t (by simp[Do,f])]
 |.c v::xs,h=>by simp[bj,bA];rw[ol (xs:=xs) λt f=>h t (by simpa[Do]using f)]
section
variable {ck:Callk}{b:HP}{U:List Pos}{l:List OP}{C:List Inf}{ds:List Dl}{s1:St}{n:Pos}{T:Nat→Nat→Prop}
variable{D:Nat→Bool}{i:Nat}
def Dr.res_at (h:Dr ck b U l C ds s1 n T)(f:Nx l T D i){o:OP}(ho:l[i]? = some o)(ha:alO o=true):(HP.ov b (stT ds D s1 l.length).d).get (rI l n i) = .res:=by
 obtain⟨R,inf,x,p1,p2,J,p4⟩:=h.at_ i f.lt;have hk:=h.kept ho ha J l.length (δ _);have:=h.heap f (k:=rI l n i) (λ_=>False) (λj y R hj _ _ p r=>?_) (λj y R hj g hD P p r=>?_) l.length (δ _)
 ·obtain h1|h1:=this
  ·rw[h1,show min l.length i=i by have:=f.lt;omega];exact(h.kept ho ha J i (by have:=f.lt;omega)).2 (.inl (δ _))
  ·exact h1.elim
 ·rcases hk.1 j y (by have:=f.lt;omega) p (by rw[r];exact λe=>by cases e)with e|e <;> omega
 ·rcases hk.1 j y g p (by rw[r];exact λe=>by cases e)with e|⟨_,e⟩
  ·omega
  ·exact e (h.apartW g f.lt P J p (by rw[r];exact λe=>by cases e))
def Dr.stepF (h:Dr ck b U l C ds s1 n T){D:Nat→Bool}{i:Nat}(hx:Nx l T D i){fo:FO}{al:Bool}(ho:l[i]? = some (.op fo al)):∃out P,ds[i]? = some (.op fo.dst out P)∧Clo.stepF (stT ds D s1 l.length).e (if al=true then upd (HP.ov b (stT ds D s1 l.length).d).get (rI l n i) .none else(HP.ov b (stT ds D s1 l.length).d).get) (rI l n i) fo=some (out,P):=by
 obtain⟨o',inf,x,p1,p2,p3,p4⟩:=h.at_ i hx.lt;rw[ho]at p1;cases p1;obtain⟨out,P,R,hok,rfl,rfl⟩:=p4;refine⟨out,P,p3, ?_⟩;have hlt:=hx.lt;have henv:∀t∈looks (.op fo al),(stT ds dE s1 i).e.get .unk t=(stT ds D s1 l.length).e.get .unk t:=λt ht=>by rw[h.env hx ho ht l.length (δ _),show min l.length i=i by omega]
 have e1:gd (stT ds dE s1 i).e fo.guard=gd (stT ds D s1 l.length).e fo.guard:=RU λt ht=>henv t (by simp[looks,ht]);have e2:bj (stT ds dE s1 i).e fo.args=bj (stT ds D s1 l.length).e fo.args:=ol λt ht=>henv t (by simp[looks,ht]);unfold Clo.stepF at R⊢;unfold qF trF at p2;rw[←e1,←e2];generalize hg:gd (stT ds dE s1 i).e fo.guard=g at R p2⊢;cases g with
 |none=>cases R
 |some gb=>
  cases gb with
  |false=>exact R
  |true=>
   simp only at R p2⊢;generalize hq:eI fo.k (bj (stT ds dE s1 i).e fo.args) (rI l n i)=q at R p2⊢;generalize hH:(if al=true then upd (HP.ov b (stT ds D s1 l.length).d).get (rI l n i) .none else(HP.ov b (stT ds D s1 l.length).d).get)=H;have hone:∀k∈q.tr (HP.ov b (e9 al (stT ds dE s1 i).d (rI l n i))).get,H k=(HP.ov b (e9 al (stT ds dE s1 i).d (rI l n i))).get k∨(fC P=none∧∃f,q = .rd k f∧Du f (H k) out=true):=by
    intro k hk;by_cases hkr:al=true∧k=rI l n i
    ·obtain⟨rfl,rfl⟩:=hkr;refine .inl ?_;rw[←hH];simp[e9,bk];rw[HP.get_set,bk]
    ·have eH:H k=(HP.ov b (stT ds D s1 l.length).d).get k:=by
      rw[←hH];split
      next ha=>exact bO _ _ λe=>hkr ⟨ha,e.symm⟩
      ·rfl
     have eR:(HP.ov b (e9 al (stT ds dE s1 i).d (rI l n i))).get k=(HP.ov b (stT ds dE s1 i).d).get k:=by
      cases al with
      |false=>rfl
      |true =>simp[e9];rw[HP.get_set];exact bO _ _ λe=>hkr ⟨rfl,e.symm⟩
     rw[eH,eR];have wk:∀{dst:Option Pos} {out:TV} {P:Option (Pos×EO)} {o:EO},(Dl.op dst out P).wrote k=some o→fC P=some k:=by
      intro dst out P o hw;cases P with
      |none=>cases hw
      |some p=>
       simp only[Dl.wrote]at hw;split at hw
       next e=>simp[fC,e]
       ·cases hw
     have still:∀{hp:HP} {d:DM} {o:EO},PM.get none d k=some o→Mv hp d (q.tr (HP.ov b (e9 al (stT ds dE s1 i).d (rI l n i))).get) q out=true→∃f,q = .rd k f∧Du f o out=true∧Du f (hp.get k) out=true:=by
      intro hp d o hd r;simp[Mv]at r;obtain r|r:=r
      ·rw[lH r k hk]at hd;cases hd
      ·cases hqq:q with
       |fail=>rw[hqq]at r;cases r
       |ret _ _=>rw[hqq]at r;cases r
       |rd k' f=>
        rw[hqq]at r hk;simp[Q.tr]at r hk;split at r
        ·rename_i k2 htr;simp at htr;rw[htr.2]at hk;have:k=k':=by simpa using hk
         subst this;rw[hd]at r;simp at r;exact⟨f,rfl,r.1,r.2⟩
        ·cases r
     have:=h.heap hx (k:=k) (λo=>fC P=none∧∃f,q = .rd k f∧Du f o out=true) (λj y o hj hD hop hy hw=>?_) (λj y o hj hjl hD hop hy hw=>?_) l.length (δ _)
     ·rw[show min l.length i=i by omega]at this;exact this
     ·obtain⟨oj,ij,xj,b1,b2,b3,b4⟩:=h.at_ j Ω;obtain⟨u,v,a,c,o1,o2,o3,o4,o5,o6⟩:=hop;rw[b3]at hy;cases hy;rw[b2]at o4;cases o4;rw[p2]at o5;cases o5;cases oj with
      |op fo' al' =>obtain⟨out',wr',_,_,rfl,rfl⟩:=b4;rw[wk hw]at o6;simp[eD,CY]at o6;rw[ut.2 hk]at o6;cases o6.1.1
      |call args dst g=>
       rcases b4 with⟨_,t,vs,out',lay,n1,n2,_,_,hno,rfl,rfl⟩|⟨_,rfl,rfl⟩
       ·have J:PM.get none lay k=some o:=hw;cases hkw:fC P with
        |none =>rw[hkw]at o6;simp[eD]at o6;obtain⟨f,f1,f2,f3⟩:=still J o6;exact⟨rfl,f,f1,f3⟩
        |some k'=>
         rw[hkw]at o6;cases hfr:pE al (rI l n i) P with
         |false=>rw[hfr]at o6;simp only[eD]at o6;cases o6
         |true =>rw[hfr]at o6;simp only[eD]at o6;rw[lH o6 k hk]at J;cases J
       ·cases hw
      |nxt _ _=>exact b4.elim
      |bad=>exact b4.elim
     ·obtain⟨oj,ij,xj,b1,b2,b3,b4⟩:=h.at_ j hjl;obtain⟨u,v,a,c,o1,o2,o3,o4,o5,o6⟩:=hop;rw[b3]at hy;injection hy with hy;subst hy;rw[p2]at o4;injection o4 with o4;subst o4;rw[b2]at o5;injection o5 with o5;subst o5;cases oj with
      |op fo' al' =>obtain⟨out',wr',_,_,rfl,rfl⟩:=b4;rw[wk hw]at o6;simp only[eD,CY,ι,arU]at o6;rw[ut.2 hk]at o6;cases o6.1.2
      |call args dst g=>
       rcases b4 with⟨_,t,vs,out',lay,n1,n2,_,_,hno,rfl,rfl⟩|⟨_,rfl,rfl⟩
       ·have J:PM.get none lay k=some o:=hw;cases hkw:fC P with
        |none =>rw[hkw]at o6;simp only[eD]at o6;obtain⟨f,f1,f2,f3⟩:=still J o6;exact⟨rfl,f,f1,f2⟩
        |some k' =>rw[hkw]at o6;simp only[eD]at o6;cases o6
       ·cases hw
      |nxt _ _=>exact b4.elim
      |bad=>exact b4.elim
   by_cases hall:∀k∈q.tr (HP.ov b (e9 al (stT ds dE s1 i).d (rI l n i))).get,H k=(HP.ov b (e9 al (stT ds dE s1 i).d (rI l n i))).get k
   ·rw[(Q.run_congr hall).1];exact R
   ·have ⟨k,hk,hne⟩:∃k,k∈q.tr (HP.ov b (e9 al (stT ds dE s1 i).d (rI l n i))).get∧¬H k=(HP.ov b (e9 al (stT ds dE s1 i).d (rI l n i))).get k:=by
     apply atu;intro hn;refine hall λk hk=>atu λhne=>hn ⟨k,hk,hne⟩
    obtain e|⟨hkw,f,hqf,r⟩:=hone k hk
    ·exact(hne e).elim
    ·have hwr:P=none:=by
      cases P with
      |none=>rfl
      |some p=>cases hkw
     rw[hwr,hqf];simp only[Q.run];rw[acO r];rfl
def an2 (l:List OP)(ds:List Dl)(n:Pos)(D:Nat→Bool)(i:Nat)(k:Pos):Prop:=∃j o x,i<j∧j<l.length∧D j=true∧l[j]? = some o∧alO o=true∧ds[j]? = some x∧k=rI l n j∧x.wrote k≠none
open Classical in
def Dr.hid (h:Dr ck b U l C ds s1 n T)(hx:Nx l T D i){lay:DM}{hp:HP}(hinf:C[i]? = some (.call hp lay))(k:Pos):(if an2 l ds n D i k then EO.res else(HP.ov b (stT ds D s1 l.length).d).get k)=(HP.ov b (stT ds dE s1 i).d).get k:=by
 have hlt:=hx.lt;split
 next hm=>obtain⟨j,o,x,h1,h2,h3,h4,h5,h6,rfl,h8⟩:=hm;exact((h.kept h4 h5 h6 i Ω).2 (.inl Ω)).symm
 next hm=>
  have wk:∀{P:Option Pos} {out:TV} {wr:Option (Pos×EO)} {o:EO},(Dl.op P out wr).wrote k=some o→fC wr=some k:=by
   intro P out wr o r;cases wr with
   |none=>cases r
   |some p=>
    simp only[Dl.wrote]at r;split at r
    next e=>simp[fC,e]
    ·cases r
  have:=h.heap hx (k:=k) (λ_=>False) (λj y o hj hD hop hy r=>?_) (λj y o hj hjl hD hop hy r=>?_) l.length (δ _)
  ·rw[show min l.length i=i by omega]at this;obtain h1|h1:=this
   ·exact h1
   ·exact h1.elim
  ·obtain⟨oj,ij,xj,b1,b2,b3,R⟩:=h.at_ j Ω;obtain⟨u,v,a,c,o1,o2,o3,o4,o5,o6⟩:=hop;rw[b3]at hy;cases hy;rw[b2]at o4;cases o4;rw[hinf]at o5;cases o5;cases oj with
   |op fo' al' =>obtain⟨f,wr',_,_,rfl,rfl⟩:=R;rw[wk r]at o6;simp only[eD]at o6;cases o6
   |call args P g=>
    rcases R with⟨_,t,vs,f,lay,n1,n2,_,_,hno,rfl,rfl⟩|⟨_,rfl,rfl⟩
    ·simp only[eD]at o6;cases o6
    ·cases r
   |nxt _ _=>exact R.elim
   |bad=>exact R.elim
  ·obtain⟨oj,ij,xj,b1,b2,b3,R⟩:=h.at_ j hjl;obtain⟨u,v,a,c,o1,o2,o3,o4,o5,o6⟩:=hop;have hy':=hy;rw[b3]at hy;cases hy;rw[hinf]at o4;cases o4;rw[b2]at o5;cases o5;cases oj with
   |op fo' al'=>
    obtain⟨f,wr',_,_,rfl,rfl⟩:=R;have hk:=wk r;rw[hk]at o6;cases J:pE al' (rI l n j) wr' with
    |false=>rw[J]at o6;simp only[eD]at o6;cases o6
    |true=>
     cases wr' with
     |none=>cases hk
     |some p =>simp only[fC,η]at hk;simp only[pE,ι]at J;have e:=Pos.beq_iff.1 J.2;rw[hk]at e;exact hm ⟨j,_,_,hj,hjl,hD,b1,J.1,b3,e,by rw[r];exact λe=>by cases e⟩
   |call args P g=>
    rcases R with⟨_,t,vs,f,lay,n1,n2,_,_,hno,rfl,rfl⟩|⟨_,rfl,rfl⟩
    ·simp only[eD]at o6;cases o6
    ·cases r
   |nxt _ _=>exact R.elim
   |bad=>exact R.elim
end
section
variable {B:Nat}{W:W0}{φ ψ:Gx}{h h':Pos→EO}{w w':World}{r:Pos}
open Classical in
def RM (f:Inv B W φ h w)(F:Pos→Prop):Inv B ⟨w,φ⟩ φ (λk=>if F k then .res else h k) w :=
 ⟨Below.refl _ _,Kp.refl _,Gx.le.refl _,λ_ _=>⟨λ_=>rfl,rfl,rfl,λ_ _ _=>rfl⟩,f.size,λk=>by
  by_cases j:F k
  ·simp[β j];exact λg l p=>f.blk p
  ·simp[ο j];exact f.obj k,f.sep⟩
open Classical in
def aaM (r:Inv B W φ h w)(F:Pos→Prop)(p:cG B φ (λk=>if F k then .res else h k) w ψ h' w')(C:∀k,F k→h' k = .res):cG B φ h w ψ (λk=>if F k then h k else h' k) w':=by
 have J:=p.2.1 _ (RM r F);refine vM p.1 ⟨J.below,J.kp,J.le,λk j=>?_,J.size,λk=>?_,J.sep⟩ λk j=>?_
 ·by_cases f:F k
  ·exact J.res k (by rw[C k f];rfl)
  ·simp[ο f]at j;exact J.res k j
 ·by_cases f:F k
  ·simp[β f];obtain⟨P,a2,U,T⟩:=J.res k (by rw[C k f];rfl);exact(r.obj k).keep p.1 P a2 U λg l R=>T g l (by rw[←R];exact P g)
  ·simp[ο f];exact J.obj k
 ·by_cases f:F k
  ·simpa only[β f]using j
  ·simp[ο f]at j;have:=p.2.2 k j;simpa only[ο f]using this
def YD (φ:Gx)(r:Pos):Prop:=(∀g,φ.loc r g=none)∧φ.val r=none∧φ.mu r=none
def Qh (j:h r = .res)(l:YD φ r):cG B φ h w φ (upd h r .none) w:=by
 refine⟨Gx.le.refl _,λW f=>⟨f.below,f.kp,f.le,λk g=>?_,f.size,λk=>?_,f.sep⟩,λk g=>?_⟩
 ·by_cases e:r=k
  ·subst e;rw[bk]at g;cases g
  ·rw[bO _ _ e]at g;exact f.res k g
 ·by_cases e:r=k
  ·subst e;rw[bk];exact l
  ·rw[bO _ _ e];exact f.obj k
 ·by_cases e:r=k
  ·subst e;rw[j];rfl
  ·rwa[bO _ _ e]at g
def Q7 {F:Pos→Prop}(R:∀k,F k→h k = .none)(h1:∀k,F k→h' k = .res)(J:∀k,¬F k→h' k=h k):cG B φ h w φ h' w:=by
 refine⟨Gx.le.refl _,λW f=>⟨f.below,f.kp,f.le,λk r=>?_,f.size,λk=>?_,f.sep⟩,λk r=>?_⟩
 ·by_cases e:F k
  ·obtain⟨b1,b2,b3⟩:=f.free (R k e);have C:∀{P:Type} {x y:Option P},y=none→(∀v,x=some v→y=some v)→y=x:=λ{P x y} T U=>by
    cases x with
    |none=>exact T
    |some v=>exact U v rfl
   exact⟨λg=>C (b1 g) λv j=>f.le.loc k g v j,C b2 λv j=>f.le.val k v j,C b3 λv j=>f.le.mu k v j,λg l p=>by rw[b1 g]at p;cases p⟩
  ·rw[J k e]at r;exact f.res k r
 ·by_cases e:F k
  ·rw[h1 k e];exact λg l p=>f.blk p
  ·rw[J k e];exact f.obj k
 ·by_cases e:F k
  ·rw[R k e];rfl
  ·rwa[J k e]at r
end
open Go Go.RowKit
variable [SymVal]
def Rl.congr {B r p:Nat}{f:Gx}{C:Pos→EO}{l:World}{e J:Env}{h j:Pos→EO}{a:Act}{w:World}(g:Rl B r f C l p e h a w)(U:∀t,J.get .unk t=e.get .unk t)(T:∀k,j k=h k):Rl B r f C l p J j a w:=by have:j=h:=funext T;subst this;obtain⟨P,h1,h2⟩:=g.ex;exact⟨⟨P,h1,λt R=>by rw[U];exact h2 t R⟩,g.sz,g.df⟩
def J9 {f:List Dl}{D g:Nat→Bool}{s:St}:∀{m:Nat},(∀j,j<m→D j=g j)→stT f D s m=stT f g s m
 |0,_=>rfl
 |m+1,h=>by simp[stT];rw[h m Ω,J9 (m:=m) λj l=>h j Ω]
def PN {f:List Dl}{D:Nat→Bool}{s:St}:∀{m:Nat},(∀j,j<m→D j=false)→stT f D s m=s
 |0,_=>rfl
 |m+1,h=>by simp[stT];rw[h m Ω];exact PN λj g=>h j Ω
def ak4 {B:Nat}{J ψ:Gx}{H:Pos→EO}{w w':World}{r:Pos}{C:Bool}(R:C=true→H r = .res)(hf:C=true→YD J r){f:Option (Pos×EO)}(g:cG B J (if C=true then upd H r .none else H) w ψ (tn (if C=true then upd H r .none else H) f) w'):cG B J H w ψ (tn H f) w':=by
 cases C with
 |false=>exact g
 |true=>
  simp at g;refine((Qh (R rfl) (hf rfl)).trans g).trans ?_;by_cases hk:∃o,f=some (r,o)
  ·obtain⟨o,rfl⟩:=hk;have:tn (upd H r .none) (some (r,o))=tn H (some (r,o)):=by
    funext k;simp[tn,upd];by_cases e:r=k <;> simp[e]
   rw[this];exact cG.refl
  ·have l:tn (upd H r .none) f r = .none∧tn H f r = .res:=by
    cases f with
    |none=>exact⟨bk _ _ _,R rfl⟩
    |some p =>obtain⟨P,o⟩:=p;have j:P≠r:=λe=>hk ⟨o,by rw[e]⟩;simp[tn];rw[bO _ _ j,bO _ _ j,bk];exact⟨rfl,R rfl⟩
   refine Q7 (F:=λk=>k=r) (λk e=>by subst e;exact l.1) (λk e=>by subst e;exact l.2) (λk e=>?_);cases f with
   |none=>exact(bO _ _ λU=>e U.symm).symm
   |some p=>
    obtain⟨P,o⟩:=p;simp[tn];by_cases T:P=k
    ·subst T;rw[bk,bk]
    ·rw[bO _ _ T,bO _ _ T,bO _ _ λU=>e U.symm]
def IE {P:Program}{j:Glt}{g:Nat}{f:List Oper}:∀(l:List Oper) (i:Nat),(nF P j g f l)[i]? = (l[i]?).map (cOp P j g f)
 |[],i=>by simp[nF]
 |o::l,0=>by simp[nF]
 |o::l,i+1=>by simpa[nF]using IE l i
structure OrdX (P:Program)(Gl:Glt)(nt:Nat)(ops:Array Oper)(ord:List Nat)(l:List OP):Prop where
 llen:l.length=ops.size
 lget:∀p o,p<ops.size→ops[ord.getD p 0]? = some o→l[p]? = some (cOp P Gl nt ops.toList o)
 inj:∀p q,p<ops.size→q<ops.size→ord.getD p 0=ord.getD q 0→p=q
 sur:∀i,i<ops.size→∃p,p<ops.size∧ord.getD p 0=i
 edges:ct 0 ops.toList=true
 olt:∀p,p<ops.size→ord.getD p 0<ops.size
def aby (g:Array Oper)(f:List Nat)(p q:Nat):Prop:=((aZ g.toList []).getD (f.getD q 0) 0).testBit (f.getD p 0)=true
def Dp (f:List Nat)(listed:Array Bool)(p:Nat):Bool:=listed.getD (f.getD p 0) false
section
variable {P:Program}{Gl:Glt}{B lo:Nat}{W:W0}{φ0:Gx}{h0:Pos→EO}{w0:World}{nt:Nat}{ops:Array Oper}{Γ:List Lq}{ck:Callk}
variable {b:HP}{U:List Pos}{l:List OP}{C:List Inf}{ds:List Dl}{s1:St}{n1:Pos}{ord:List Nat}
variable{ro:Option Nat}{n id:Nat}
def Ig (hnd:∀o∈ops.toList,gc ro o)(hI0:Inv B W φ0 h0 w0)(hG:GlOk Gl P B W)(ckok:CkOk P Gl B ck Γ)(hcx:Ctx Γ φ0 w0)(hfree:∀r∈U,YD φ0 r)(ox:OrdX P Gl nt ops ord l)(h:Dr ck b U l C ds s1 n1 (aby ops ord)):∀(J:Nat) (listed:Array Bool) (a:Act) (w:World),listed.size=ops.size→DC ops (λj=>listed.getD j false) →
   ((List.range ops.size).filter λj=>!listed.getD j false).length≤J →
   Rl B lo φ0 h0 w0 nt (stT ds (Dp ord listed) s1 l.length).e (HP.ov b (stT ds (Dp ord listed) s1 l.length).d).get a w→wpAnyIn (RF ro) n P .any ops (kN B lo φ0 h0 w0 nt (stT ds dE s1 l.length).e (HP.ov b (stT ds dE s1 l.length).d).get) J listed a w:=by
 have hll:=ox.llen;have fin:∀(listed:Array Bool) (a:Act) (w:World),listed.size=ops.size→Region.ready .any ops listed=[]→Rl B lo φ0 h0 w0 nt (stT ds (Dp ord listed) s1 l.length).e (HP.ov b (stT ds (Dp ord listed) s1 l.length).d).get a w→kN B lo φ0 h0 w0 nt (stT ds dE s1 l.length).e (HP.ov b (stT ds dE s1 l.length).d).get .normal a w:=by intro listed a w hs hr f;have hall:=Gj ox.edges hs hr;have e:stT ds (Dp ord listed) s1 l.length=stT ds dE s1 l.length:=J9 λj hj=>hall _ (ox.olt j Ω);rw[e]at f;exact f
 intro J;induction J with
 |zero=>
  intro listed a w hs hdc hcount f;have hr:Region.ready .any ops listed=[]:=by
   rw[arX];intro i hi;obtain⟨hlt,hDi,_⟩:=dR hs hi;have:i∈(List.range ops.size).filter λj=>!listed.getD j false:=by rw[m?];exact⟨S_.2 hlt,by simp[hDi]⟩
   rw[K' (Nat.le_zero.1 hcount)]at this;cases this
  exact⟨hr,fin listed a w hs hr f⟩
 |succ J ih=>
  intro listed a w hs hdc hcount f;refine⟨λhr=>fin listed a w hs hr f,λi hi=>?_⟩;obtain⟨hlt,hDi,o',ho',_⟩:=dR hs hi;obtain⟨hpre,hdc'⟩:=Oh ox.edges hs hdc hi;have hD':∀j,(listed.setIfInBounds i true).getD j false=(listed.getD j false||decide (j=i)):=λj=>uM Ω;obtain⟨p,hp,hpi⟩:=ox.sur i hlt;have hlp:=ox.lget p o' hp (by rw[hpi];exact ho');have hx:Nx l (aby ops ord) (Dp ord listed) p:=⟨Ω,by unfold Dp;rw[hpi];exact hDi,λq _ hq p' _ hb=>hdc _ hq _ hb,λp' _ hb=>hpre _ (by unfold aby at hb;rw[hpi]at hb;exact hb)⟩;have hDp:∀j,j<l.length→Dp ord (listed.setIfInBounds i true) j=(Dp ord listed j||decide (j=p)):=λj hj=>by
   unfold Dp;rw[hD'];congr 1;by_cases e:j=p
   ·subst e;rw[hpi];simp
   ·have:¬ord.getD j 0=i:=λe'=>e (ox.inj j p Ω hp (by rw[e',hpi]));rw[ar2 this,ar2 e]
  have hlen:((List.range ops.size).filter λj=>!(listed.setIfInBounds i true).getD j false).length≤J:=by
   have:((List.range ops.size).filter λj=>!(listed.setIfInBounds i true).getD j false).length<((List.range ops.size).filter λj=>!listed.getD j false).length:=by
    have e:((List.range ops.size).filter λj=>!(listed.setIfInBounds i true).getD j false)=(((List.range ops.size).filter λj=>!listed.getD j false)).filter (λj=>decide (j≠i)):=by rw[p?];apply w?;intro j _;rw[hD'];by_cases e:j=i <;> simp[e]
    rw[e];refine K?.2 ⟨i, ?_,Ψ⟩;rw[m?];exact⟨S_.2 hlt,by simp[hDi]⟩
   omega
  have hno:gc ro o':=hnd o' (U_.2 (e? ho'));obtain⟨oc,inf,x,q1,q2,q3,q4⟩:=h.at_ p Ω;rw[hlp]at q1;injection q1 with q1;obtain⟨hn1,hn2⟩:=h.next hx hDp q3 l.length (δ _)
  have hgo:∀(a':Act) (w':World) (H':Pos→EO),(∀k,H' k=orE (x.wrote k) ((HP.ov b (stT ds (Dp ord listed) s1 l.length).d).get k))→Rl B lo φ0 h0 w0 nt (bn (stT ds (Dp ord listed) s1 l.length).e x.dst x.out) H' a' w'→wpAnyIn (RF ro) n P .any ops (kN B lo φ0 h0 w0 nt (stT ds dE s1 l.length).e (HP.ov b (stT ds dE s1 l.length).d).get) J (listed.setIfInBounds i true) a' w':=λa' w' H' hH' hr'=>by
   refine ih (listed.setIfInBounds i true) a' w' (by simpa using hs) hdc' hlen (hr'.congr (λt=>?_) λk=>?_)
   ·rw[hn1 t,ο Ω]
   ·rw[hn2 k,ο Ω,hH' k]
  obtain⟨φ,R,hE⟩:=f.ex;have hI:=R.2.1 _ hI0;cases oc with
  |op fo al=>
   have hlp':l[p]? = some (.op fo al):=hlp.trans (by rw[q1]);obtain⟨out,wr,hds,hst⟩:=h.stepF hx hlp';rw[q3]at hds;injection hds with hds;obtain⟨dst,xs,hdst,_,_,_,hfd,_⟩:=V8 q1;have hres:al=true→(HP.ov b (stT ds (Dp ord listed) s1 l.length).d).get (rI l n1 p) = .res:=λha=>h.res_at hx hlp' ha;have hfr:al=true→YD φ (rI l n1 p):=λha=>by have hm:=hfree _ (h.al p _ hlp' ha);obtain⟨a1,a2,a3,_⟩:=(R.2.1 _ hI0.self).res _ (by rw[hres ha];rfl);exact⟨λg=>(a1 g).trans (hm.1 g),a2.trans hm.2.1,a3.trans hm.2.2⟩
   have hH:cG B φ (HP.ov b (stT ds (Dp ord listed) s1 l.length).d).get w φ (if al=true then upd (HP.ov b (stT ds (Dp ord listed) s1 l.length).d).get (rI l n1 p) .none else(HP.ov b (stT ds (Dp ord listed) s1 l.length).d).get) w:=by
    cases al with
    |false=>exact cG.refl
    |true=>exact Qh (hres rfl) (hfr rfl)
   refine QR ho' q1 (hH.2.1 _ hI) hG hE hno (λha=>by rw[β ha,bk]) hst λψ v w' hst' hv=>?_;refine hgo _ _ _ (λk=>?_) ((by rw[hds];exact f.step hI0 R hE (ak4 hres hfr hst') (by rw[hfd];exact hdst) hv));rw[hds];cases wr with
   |none=>rfl
   |some pr =>obtain⟨k',o2⟩:=pr;simp[tn,upd,Dl.wrote];by_cases e:k'=k <;> simp[e,orE]
  |call args dst g=>
   obtain⟨_,_,_,_,_,hdst,_⟩:=Bz q1;have henv:∀t∈looks (.call args dst g),(stT ds dE s1 p).e.get .unk t=(stT ds (Dp ord listed) s1 l.length).e.get .unk t:=λt ht=>by rw[h.env hx (hlp.trans (by rw[q1])) ht l.length (δ _),show min l.length p=p by omega]
   have e1:gd (stT ds dE s1 p).e g=gd (stT ds (Dp ord listed) s1 l.length).e g:=RU λt ht=>henv t (by simp[looks,ht]);have e2:bj (stT ds dE s1 p).e args=bj (stT ds (Dp ord listed) s1 l.length).e args:=ol λt ht=>henv t (by simp[looks,ht]);rcases q4 with⟨hg,t,vs,out,lay,m1,m2,hen,hcall,hnd',hinf,hxx⟩|⟨hg,hinf,hxx⟩
   ·rw[e1]at hg;rw[e2]at hen;rw[hinf]at q2;have T:=funext (h.hid hx q2);have hIh:=RM hI (an2 l ds n1 (Dp ord listed) p);rw[T]at hIh;refine ID ho' q1 hg hIh hE hno hen (λus hus=>ckok.call _ _ _ _ _ _ _ _ hcall ⟨w,φ⟩ φ w (hG.more hI) hIh us hus (hcx.more hI0 R)) λψ v w' hst' hv=>?_;have hst'':cG B φ (HP.ov b (stT ds dE s1 p).d).get w ψ (HP.ov (.ov b (stT ds dE s1 p).d) lay).get w':=hst';rw[←T]at hst'';have hmr:∀k,an2 l ds n1 (Dp ord listed) p k→PM.get none lay k=none:=λk hk=>by
     obtain⟨j,o,y,c1,c2,c3,c4,c5,c6,rfl,c8⟩:=hk;exact lH hnd' _ (h.al j o c4 c5)
    have hst3:=aaM hI _ hst'' λk hk=>by simp[HP.get,hmr k hk];have:=congrFun T k;simp[β hk]at this;exact this.symm
    refine hgo _ _ _ (λk=>?_) ((by rw[hxx];exact f.step hI0 R hE hst3 hdst hv));rw[hxx];simp[Dl.wrote];split
    next hk=>rw[hmr k hk];rfl
    next hk=>have:=congrFun T k;simp[ο hk]at this;rw[this];simp[HP.get];cases PM.get none lay k <;> rfl
   ·rw[e1]at hg;refine FN ho' q1 hg hE ?_;refine hgo _ _ _ (λk=>?_) ((by rw[hxx];exact f.step hI0 R hE cG.refl hdst tp));rw[hxx];rfl
  |nxt _ _=>exact q4.elim
  |bad=>exact q4.elim
def G0:∀{l:List Nat},NA l=true→∀{p q:Nat},p<l.length→q<l.length→l.getD p 0=l.getD q 0→p=q
 |[],_,p,q,hp,_,_=>by simp at hp
 |a::l,h,p,q,hp,hq,e=>by
  simp[NA]at h;have mem:∀i,i<l.length→l.getD i 0∈l:=λi f=>by rw[e_,ζ f];exact r_ f
  cases p with
  |zero=>
   cases q with
   |zero=>rfl
   |succ q =>exfalso;simp at e;exact h.1 (by rw[e];exact mem q (by simpa using hq))
  |succ p=>
   cases q with
   |zero =>exfalso;simp at e;exact h.1 (by rw[←e];exact mem p (by simpa using hp))
   |succ q =>simp at e;rw[G0 h.2 (by simpa using hp) (by simpa using hq) e]
def Xp {f:Type}:∀(l:List f) (i:Nat),nth l i=l[i]?
 |[],i=>by cases i <;> rfl
 |a::l,0=>rfl
 |a::l,i+1=>by simpa[nth]using Xp l i
def Dz {C:List Inf}:∀{ps:List (Nat×Nat)},d9 C ps=true→∀p∈ps,gg C p=true
 |[],_,p,hp=>by cases hp
 |q::ps,h,p,hp=>by
  simp only[d9]at h;cases f:gg C q with
  |false=>rw[f]at h;cases h
  |true=>
   rw[f]at h;obtain rfl|hp:=N'.1 hp
   ·exact f
   ·exact Dz h p hp
def SJ (hm:P.follows .mixedOrders=true)(hnd:∀o∈ops.toList,gc ro o)(hI0:Inv B W φ0 h0 w0)(hG:GlOk Gl P B W)(ckok:CkOk P Gl B ck Γ)(hcx:Ctx Γ φ0 w0){T:List OP}{ps:List (Nat×Nat)}
  (f:Nd ops.toList (nF P Gl nt ops.toList ops.toList) (aZ ops.toList []) ord=some ps) (hcs:T=ord.map λi=>(nF P Gl nt ops.toList ops.toList).getD i .bad) {e e':Env} {d R d':DM} {n0 n2 n':Pos} (hrv:sT b T d n0=some (U,R,n2)) (hrt:nU ck b U T e R n0 n2 = .ok C e' d' n') (hpo:d9 C ps=true) {a:Act} {w:World} (hr:Rl B lo φ0 h0 w0 nt e (HP.ov b d).get a w) :
  (Code.region id ops true).wpIn (RF ro) n P (kN B lo φ0 h0 w0 nt e' (HP.ov b d').get) a w:=by
 unfold Nd at f;simp only at f;split at f
 next hchk=>
  simp only[ι]at hchk;obtain⟨⟨⟨⟨⟨c1,c2⟩,c3⟩,c4⟩,c5⟩,c6⟩:=hchk;simp at f;have c2:=κ c2;simp only[ρ]at c2 c4 c5;have olt:∀p,p<ops.size→ord.getD p 0<ops.size:=λp hp=>by
   rw[d_]at c5;have:=c5 (ord.getD p 0) (by
    rw[e_,ζ Ω];exact r_ Ω)
   exact f_ this
  have csg:∀p o,p<ops.size→ops[ord.getD p 0]? = some o→T[p]? = some (cOp P Gl nt ops.toList o):=λp o hp ho=>by
   rw[hcs,I?,ζ Ω];simp only[ar3,η];have e1:ord[p]'Ω=ord.getD p 0:=by rw[e_,ζ Ω];rfl
   rw[e1,e_,IE,l_,ho];rfl
  have ox:OrdX P Gl nt ops ord T:=⟨by rw[hcs];simp[c2],csg,λp q hp hq=>G0 c3 Ω Ω,λi hi=>by
   rw[d_]at c4;have:=c4 i (S_.2 hi);simp at this;obtain⟨p,hp,e⟩:=asU this;exact⟨p,Ω,by rw[e_,ζ hp];exact e⟩,c1,olt⟩
  have hll:=ox.llen;obtain⟨r1,r2,r3⟩:=yq _ _ _ _ _ _ hrv;obtain⟨ds,t1,t2,t3⟩:=Kk _ _ _ _ _ _ _ _ _ hrt;have hdr:Dr ck b U T C ds ⟨e,R⟩ n0 (aby ops ord):=by
   refine⟨t1,t3,λp q hpq hq=>?_,λk hk=>(r1 k hk).2,r3⟩;by_cases hb:aby ops ord p q
   ·exact .inl hb
   ·refine .inr ?_;have J:(p,q)∈(List.range ord.length).flatMap λq=>((List.range q).filter λp=>ads (aZ ops.toList []) ord p q).map λp=>(p,q):=by
     rw[List.mem_flatMap];refine⟨q,S_.2 Ω,y_.2 ⟨p, ?_,rfl⟩⟩;rw[m?];refine⟨S_.2 hpq, ?_⟩;unfold ads;unfold aby at hb;simpa using hb
    rw[d_]at c6;have h1:=c6 _ J;have h2:=Dz hpo (p,q) (by rw[←f];exact J);simp[gg,Xp]at h2;have hop:ops[ord.getD p 0]? = some (ops[ord.getD p 0]'(olt p Ω)):=by simp
    have hoq:ops[ord.getD q 0]? = some (ops[ord.getD q 0]'(olt q Ω)):=by simp
    simp only[agf,IE,l_,hop,hoq,ar3,ι]at h1;split at h2
    ·rename_i ia hia;split at h2
     next ic hic=>exact⟨_,_,_,_,csg p _ Ω hop,csg q _ Ω hoq,h1.1,hia,hic,h2⟩
     ·cases h2
    ·cases h2
  obtain⟨φ,hs,hE⟩:=hr.ex;have hI:=hs.2.1 _ hI0;have g:cG B φ (HP.ov b d).get w φ (HP.ov b R).get w:=Q7 (F:=λk=>k∈U) (λk hk=>(r1 k hk).1) (λk hk=>(r1 k hk).2) r2;have hR:Rl B lo φ (HP.ov b d).get w nt e (HP.ov b R).get a w:=⟨⟨φ,g,hE⟩,hr.sz,hr.df⟩;have l:=Ig (ro:=ro) (n:=n) hnd hI hG ckok (hcx.more hI0 hs) (λr hrm=>hI.free (r1 r hrm).1) ox hdr ops.size (Array.replicate ops.size false) a { w with drawn:=w.drawn+1 } Ψ (λj hj=>by
    have hj:(Array.replicate ops.size false).getD j false=true:=hj;rw[lF]at hj;cases hj) (υ (q? _ _) Ψ) (by
    rw[show stT ds (Dp ord (Array.replicate ops.size false)) ⟨e,R⟩ T.length=⟨e,R⟩ from PN λj hj=>lF _ _];refine⟨⟨φ, ?_,hE⟩,hr.sz,hr.df⟩;exact g.trans ⟨Gx.le.refl _,λW h=>h.drewW,λk hk=>hk⟩)
  rw[show stT ds dE ⟨e,R⟩ T.length=⟨e',d'⟩ from t2]at l;refine wpIn_mono (wpIn_region_any hm l) λex a' w' hn=>?_;cases ex with
  |normal =>have hn:Rl B lo φ (HP.ov b d).get w nt e' (HP.ov b d').get a' w':=hn;obtain⟨ψ,g1,g2⟩:=hn.ex;exact⟨⟨ψ,hs.trans g1,g2⟩,hn.sz,hn.df⟩
  |_=>exact hn.elim
 ·cases f
def QL (j:∀o∈ops.toList,gc ro o)(p:Inv B W φ0 h0 w0)(hG:GlOk Gl P B W)(g:CkOk P Gl B ck Γ)(l:Ctx Γ φ0 w0){e r:Env}{d C:DM}{J R:Pos}(f:bc ck b (nF P Gl nt ops.toList ops.toList) e d J = .ok r C R){a:Act}{w:World}(T:Rl B lo φ0 h0 w0 nt e (HP.ov b d).get a w) :
  (Code.region id ops false).wpIn (RF ro) n P (kN B lo φ0 h0 w0 nt r (HP.ov b C).get) a w:=by
 refine wpIn_region ?_;have:=bJ (ro:=ro) (n:=n) (Q:=kN B lo φ0 h0 w0 nt r (HP.ov b C).get) p hG g l j (λ_ _ h=>h) ops.toList 0 e d J a w Ψ f T;rw[L?];simpa using this
end
open Go Go.RowKit
variable [SymVal]
open Go.ChangeMaps (setBlock)
section
variable {L:Pos→Nat→Option Loc}{V:Pos→Option Value}{M M':Pos→Option Nat}
def Of (c:CV):den ⟨L,V,M⟩ c=den ⟨L,V,M'⟩ c:=by cases c <;> rfl
def Yc:∀l:List CV,bq ⟨L,V,M⟩ l=bq ⟨L,V,M'⟩ l
 |[]=>rfl
 |c::l=>by simp[bq];rw[Of (M:=M) (M':=M') c,Yc l]
def wX:∀p:PV,bg ⟨L,V,M⟩ p=bg ⟨L,V,M'⟩ p
 |.one c=>Of c
 |.agg l=>by simp[bg];rw[Yc (M:=M) (M':=M') l]
def Bp:∀l:List PV,cN ⟨L,V,M⟩ l=cN ⟨L,V,M'⟩ l
 |[]=>rfl
 |c::l=>by simp[cN];rw[wX (M:=M) (M':=M') c,Bp l]
def aoV {t:TV}{v:Value}(h:RT ⟨L,V,M⟩ t v):RT ⟨L,V,M'⟩ t v:=by
 cases t with
 |unk=>trivial
 |pv p=>exact(wX p).symm.trans h
 |tup l=>obtain⟨f,j,g⟩:=h;exact⟨f,(Bp l).symm.trans j,g⟩
def alD {e:Env}{f:Array Value}(h:ER ⟨L,V,M⟩ e f):ER ⟨L,V,M'⟩ e f:=λt g=>aoV (h t g)
end
def iZ.mu {φ:Gx}{w:World}{B:Nat}{k:Pos}{o:EO}(h:iZ φ w B k o){μ:Pos→Option Nat}(J:μ k=φ.mu k):iZ ⟨φ.loc,φ.val,μ⟩ w B k o:=by
 cases o with
 |none=>exact⟨h.1,h.2.1,J.trans h.2.2⟩
 |row e s el len gen fz =>obtain⟨h0,r,hmm,h2,h3⟩:=h;refine⟨h0,r,hmm,h2,λg hg=>?_⟩;obtain⟨l,q1,⟨r1,r2,arr,fr,r3,r4,r5,r6⟩,C⟩:=h3 g hg;exact⟨l,q1,⟨r1,r2,arr,fr,r3,r4,r5,λi hi J=>⟨(r6 i hi J).1,(r6 i hi J).2.1,λj c hc=>let ⟨v,U,T⟩:=(r6 i hi J).2.2 j c hc;⟨v,U,(Of c).trans T⟩⟩⟩,C⟩
 |map es clock =>obtain⟨r,l,vs,q1,q2,C,P⟩:=h;exact⟨r,l,vs,q1,q2,C,P.1,λi e he=>let ⟨v,U,T,p3,p4⟩:=P.2 i e he;⟨v,U,(wX _).trans T,(wX _).trans p3,p4⟩⟩
 |mit m R seen f=>exact h
 |mitU m R bs st =>obtain⟨r,l,l',seen,f,n,q1,q2,C,P,q5,q6,q7⟩:=h;exact⟨r,l,l',seen,f,n,q1,q2,C,P,q5,J.trans q6,q7⟩
 |sit s p=>exact h
 |clo fn first caps =>obtain⟨r,a,b,q1,q2,C⟩:=h;exact⟨r,a,b,(Bp _).trans q1,(Bp _).trans q2,C⟩
 |ifc t v =>obtain⟨r,u,q1,q2⟩:=h;exact⟨r,u,(wX _).trans q1,q2⟩
 |emp=>exact h
 |yld=>exact h
 |dead=>exact h
 |res=>exact h
section
variable {φ ψ:Gx}
variable{v:Value}
def ano (j:∀k g l,φ.loc k g=some l→ψ.loc k g=some l)(f:∀k v,φ.val k=some v→ψ.val k=some v){c:CV}(h:den φ c=some v):den ψ c=some v :=
 fH (φ:=⟨φ.loc,φ.val,λ_=>none⟩) ⟨j,f,λ_ _ h=>by cases h⟩ ((Of c).trans h)
def aki (j:∀k g l,φ.loc k g=some l→ψ.loc k g=some l)(f:∀k v,φ.val k=some v→ψ.val k=some v){c:PV}(h:bg φ c=some v):bg ψ c=some v :=
 cP (φ:=⟨φ.loc,φ.val,λ_=>none⟩) ⟨j,f,λ_ _ h=>by cases h⟩ ((wX c).trans h)
def ae3 (p:∀k g l,φ.loc k g=some l→ψ.loc k g=some l)(j:∀k v,φ.val k=some v→ψ.val k=some v){c:CV}{f :Value}(h:den φ c=some v)(r:den ψ c=some f):v=f:=by have:=ano p j h;rw[r]at this;exact(χ this).symm
def CM (p:∀k g l,φ.loc k g=some l→ψ.loc k g=some l)(j:∀k v,φ.val k=some v→ψ.val k=some v){c:PV}{f :Value}(h:bg φ c=some v)(r:bg ψ c=some f):v=f:=by have:=aki p j h;rw[r]at this;exact(χ this).symm
def iZ.back (T:∀k g l,φ.loc k g=some l→ψ.loc k g=some l)(hv:∀k v,φ.val k=some v→ψ.val k=some v){w w':World}{B:Nat}{k:Pos}{o:EO}(hm:∀n,φ.mu k=some n→ψ.mu k=some n)(h:iZ φ w B k o)(h':iZ ψ w' B k o):iZ φ w' B k o:=by
 cases o with
 |none=>exact h
 |row e s el len gen fz =>obtain⟨h0,h1,hmm,h2,h3⟩:=h;obtain⟨_,_,_,_,h3'⟩:=h';refine⟨h0,h1,hmm,h2,λg hg=>?_⟩;obtain⟨l,q1,⟨r1,r2,arr,fr,r3,r4,r5,r6⟩,q3⟩:=h3 g hg;obtain⟨l',f,⟨_,_,arr',fr',r3',r4',r5',r6'⟩,_⟩:=h3' g hg;rw[T _ _ _ q1]at f;cases f;refine⟨l,q1,⟨r1,r2,arr',fr',r3',r4',r5',λi hi hmi=>⟨(r6 i hi hmi).1,(r6 i hi hmi).2.1,λj c hc=>?_⟩⟩,q3⟩;obtain⟨v,_,p2⟩:=(r6 i hi hmi).2.2 j c hc;obtain⟨v',p1',p2'⟩:=(r6' i hi hmi).2.2 j c hc;have:=ae3 T hv p2 p2';subst this;exact⟨v,p1',p2⟩
 |map es clock =>obtain⟨h1,l,vs,q1,q2,q3,q4⟩:=h;obtain⟨_,l',vs',f,_,J,C⟩:=h';rw[T _ _ _ q1]at f;cases f;refine⟨h1,l,vs',q1,q2,J,C.1,λi e he=>?_⟩;obtain⟨v,p1,p2,p3,p4⟩:=q4.2 i e he;obtain⟨v',p1',p2',p3',p4'⟩:=C.2 i e he;exact⟨v',p1',by rw[p2,CM T hv p2 p2'],by rw[p3,CM T hv p3 p3'],p4'⟩
 |mit m R seen U=>
  obtain⟨h1,l,q1,q2,q3⟩:=h;obtain⟨_,l',f,_,J⟩:=h';rw[T _ _ _ q1]at f;cases f;refine⟨h1,l,q1,q2, ?_⟩;cases m with
  |none=>exact J
  |some m =>obtain⟨l2,q4,q5⟩:=q3;obtain⟨l2',C,q5'⟩:=J;rw[T _ _ _ q4]at C;cases C;exact⟨l2,q4,q5'⟩
 |mitU m R bs st =>obtain⟨h1,l,l2,seen,U,n,q1,q2,q3,q4,q5,q6,q7⟩:=h;obtain⟨_,l',l2',seen',P,n',f,_,J,C,q5',q6',q7'⟩:=h';rw[T _ _ _ q1]at f;cases f;rw[T _ _ _ q3]at J;cases J;rw[hm _ q6]at q6';cases q6';exact⟨h1,l,l2,seen',P,n,q1,q2,q3,C,q5',q6,q7'⟩
 |sit s p =>obtain⟨h1,h2,l,q1,q2,q3⟩:=h;obtain⟨_,_,l',f,_,J⟩:=h';rw[T _ _ _ q1]at f;cases f;exact⟨h1,h2,l,q1,q2,J⟩
 |clo fn first caps=>exact h
 |ifc t v=>exact h
 |emp=>exact h
 |dead=>exact λg l q=>⟨(h g l q).1,(h' g l (T _ _ _ q)).2⟩
 |res=>exact λg l q=>⟨(h g l q).1,(h' g l (T _ _ _ q)).2⟩
 |yld =>obtain⟨h1,l,q1,q2,q3,r,q4⟩:=h;obtain⟨_,l',f,_,_,r',C⟩:=h';rw[T _ _ _ q1]at f;cases f;exact⟨h1,l,q1,q2,q3,r',C⟩
end
def Gx.setMu (f:Gx)(k:Pos)(n:Nat):Gx:=⟨f.loc,f.val,λq=>if q=k then some n else f.mu q⟩
def Ir (bs:List Nat)(seen:Array Nat):Nat:=(bs.filter λb=>!seen.contains b).length
section
variable {P:Program}{Gl:Glt}{B lo:Nat}{W:W0}{φ φ0 ψ:Gx}{h h' h0:Pos→EO}{w w' w0:World}{it m:Pos}{R sp nt:Nat}{bs:List Nat}
variable{seen:List Nat}{a:Act}{o:Oper}{x:Operand}{K:Act→World→Prop}{Q:Exit→Act→World→Prop}
def toU {c:Nat}(f:Inv B W φ h w)(j:h it = .mit (some m) R (seen++[c]) sp)(g:R≤sp):Inv B ⟨w,φ.setMu it (Ir bs (seen++[c]).toArray+1)⟩ (φ.setMu it (Ir bs (seen++[c]).toArray+1)) (upd h it (.mitU m R bs (some (c,sp)))) w:=by
 refine⟨Below.refl _ _,Kp.refl _,Gx.le.refl _,λ_ _=>⟨λ_=>rfl,rfl,rfl,λ_ _ _=>rfl⟩,f.size,λk=>?_,f.sep⟩;by_cases e:it=k
 ·subst e;rw[bk];have:=f.obj it;rw[j]at this;obtain⟨T,l,q1,q2,J,C,r⟩:=this;refine⟨T,l,J,(seen++[c]).toArray,sp,_,q1,q2,C,r,g,β rfl,δ _,λp P=>?_⟩;cases P;exact⟨Ψ,rfl⟩
 ·rw[bO _ _ e];exact(f.obj k).mu (ο λU=>e U.symm)
def forget {n0:Nat}(P:∃l,φ.loc m 0=some l)(T:∃l,φ.loc it 0=some l)(h1it:∀g,0<g→φ.loc it g=none)(J:Inv B ⟨w,φ.setMu it n0⟩ ψ h' w')(j:(φ.setMu it n0).le ψ)(U:∀k,k≠it→h' k=h k∨h k = .none)(r:∃p,h' it = .mitU m R bs (some p)) :
  ∃f C,R≤C∧Ir bs f.toArray+1≤n0∧∀W,Inv B W φ h w→Inv B W φ (upd h it (.mit (some m) R f C)) w':=by
 obtain⟨p,r⟩:=r;have ho:=J.obj it;rw[r]at ho;obtain⟨_,l,l',f,C,n',q1,q2,q3,q4,q5,q6,q7,_⟩:=ho;obtain⟨lm,P⟩:=P;obtain⟨li,T⟩:=T;have e1:li=l:=by have:=j.loc it 0 li T;rw[q1]at this;exact(χ this).symm
 have e2:lm=l':=by have:=j.loc m 0 lm P;rw[q3]at this;exact(χ this).symm
 have e3:n'=n0:=by have:=j.mu it n0 (β rfl);rw[q6]at this;exact χ this
 subst e1;subst e2;subst e3;refine⟨f.toList,C,q5,by rw[ar1];exact q7,λW hI=>⟨hI.below.trans J.below,hI.kp.trans J.kp,hI.le,λk hk=>?_,J.size,λk=>?_,hI.sep⟩⟩
 ·by_cases e:it=k
  ·subst e;rw[bk]at hk;cases hk
  ·rw[bO _ _ e]at hk;obtain⟨b1,b2,b3,b4⟩:=hI.res k hk;rcases U k (λe'=>e e'.symm)with h2|h2
   ·obtain⟨a1,a2,a3,a4⟩:=J.res k (by rw[h2];exact hk);exact⟨b1,b2,b3,λg l hl=>(a4 g l ((a1 g).trans hl)).trans (b4 g l hl)⟩
   ·rw[h2]at hk;cases hk
 ·by_cases e:it=k
  ·subst e;rw[bk];exact⟨h1it,li,T,q2,lm,P,by rw[ar1];exact q4⟩
  ·rw[bO _ _ e];rcases U k (λe'=>e e'.symm)with h2|h2
   ·have hj:=J.obj k;rw[h2]at hj;exact iZ.back (φ:=φ) (ψ:=ψ) (w:=w) (λk g l h=>j.loc k g l h) (λk v h=>j.val k v h) (λn hn=>j.mu k n ((ο λe'=>e e'.symm).trans hn)) (hI.obj k) hj
   ·have:=hI.free h2;rw[h2];exact this
def Xo (g:o.op = .next x false){v:Value}{w':World}(f:(Instr.next (a.eval x) false o.type).run P w = .ok v w')(j:K (a.put o.dst v) w'):o.wp P a w K Q:=by
 unfold Oper.wp;have:(execOp a.eval o).run P w = .ok (.value v) w':=by unfold execOp;simp[g,f]
 rw[this];exact j
def ZZ (hI:Inv B W φ h w)(ho:o.op = .next x false){g:Nat}(hv:RT φ (.pv (.one (.ptr it g 0))) (a.eval x)){p:List ME}{clock:Nat}(hit:h it = .mit (some m) R seen sp)(hm:h m = .map p clock)(hold:p.all (λx=>Nat.blt x.born R)=true)(hsp:R≤sp)
  (r:∀v,RT φ Fu v→K (a.put o.dst v) w)
  (C:∀y∈p,seen.toArray.contains y.born=false→∀v U,RT φ (Px y.key y.val) v→cG B φ h w φ (upd h it (.mit (some m) R (seen++[y.born]) clock)) U→K (a.put o.dst v) U):o.wp P a w K Q:=by
 have hob:=hI.obj it;rw[hit]at hob;obtain⟨g1,l,q1,q2,lm,q3,q4⟩:=hob;have hom:=hI.obj m;rw[hm]at hom;obtain⟨_,l2,vs,y1,y2,y3,y4⟩:=hom;rw[q3]at y1;cases y1;have J:∀x∈vs.toList,x.born<R:=λz hz=>by
  obtain⟨i,hi⟩:=v? hz;have f:i<p.length:=by have:=(g_.1 hi).1;have:=y4.1;omega
  obtain⟨me,T,_,_,z4⟩:=y4.2 i p[i] (ζ f);rw[hi]at T;cases T;rw[z4];exact cD.1 (d_.1 hold _ (r_ f))
 have hp:=Cs hI hv q1 g1;rcases run_next_at (P:=P) w o.type l.b lm.b R sp seen.toArray vs clock q4 y3 J hsp with⟨_,hr⟩|⟨e,he,U,hw1,hr⟩
 ·exact Xo ho (by rw[hp];exact hr) (r _ ⟨_,rfl,rfl⟩)
 ·unfold leftOf at he;have j:e∈vs∧(!seen.toArray.contains e.born)=true:=by
   have:=U_.1 he;exact Array.mem_filter.1 this
  obtain⟨i,hi⟩:=v? (U_.2 j.1);have f:i<p.length:=by have:=(g_.1 hi).1;have:=y4.1;omega
  obtain⟨me,T,z2,z3,z4⟩:=y4.2 i p[i] (ζ f);rw[hi]at T;cases T;refine Xo ho (by rw[hp];exact hr) (C p[i] (r_ f) (by rw[←z4];simpa using j.2) _ _ ⟨_,bU rfl (bU z2 (bU z3 rfl)),rfl⟩ ?_);have hI1:cG B φ h w φ h U:=by
   obtain rfl|rfl:=hw1
   ·exact cG.refl
   ·exact⟨Gx.le.refl _,λW h=>h.drew,λk hk=>hk⟩
  refine hI1.trans ?_;have hq4:U.heap[l.b]? = some (.mapIter (some lm.b) R seen.toArray sp):=by obtain rfl|rfl:=hw1 <;> exact q4
  refine⟨Gx.le.refl _,λW hI=>?_,λk hk=>?_⟩
  ·refine hI.setO q1 g1 (ob :=.mapIter (some lm.b) R seen.toArray sp) hq4 rfl ⟨g1,l,q1,q2,lm,q3, ?_⟩;rw[(MapKept.heap_set hq4).1,z4];simp
  ·by_cases e:it=k
   ·subst e;rw[bk]at hk;cases hk
   ·rwa[bO _ _ e]at hk
end
def LA:∀(l:List Pos) (e:Env) (t:Pos),(xR l e).get .unk t = .unk∨(xR l e).get .unk t=e.get .unk t
 |[],_,_=>.inr rfl
 |p::l,e,t=>by
  simp[xR];obtain h|h:=LA l (PM.set .unk p e .unk) t
  ·exact .inl h
  ·rw[h,PM.get_set];simp only[upd];split
   ·exact .inl rfl
   ·exact .inr rfl
def CG:∀(e:Env) (t:Pos),(uW e).get .unk t = .unk∨(uW e).get .unk t=e.get .unk t
 |.leaf,_=>.inr rfl
 |.node l a r,.e=>by
  simp[uW,PM.get];split
  ·exact .inl rfl
  ·exact .inr rfl
 |.node l a r,.o p=>CG l p
 |.node l a r,.i p=>CG r p
variable{φ:Gx}{e:Env}{tmps:Array Value}
def ER.weak {f :Env}(h:ER φ e tmps)(g:∀t,f.get .unk t = .unk∨f.get .unk t=e.get .unk t):ER φ f tmps:=λt j=>by
 rcases g (pos t)with h1|h1
 ·rw[h1];trivial
 ·rw[h1];exact h t j
def ER.drop (h:ER φ e tmps)(l:List Pos):ER φ (xR l (uW e)) tmps:=(h.weak (CG e)).weak (LA l _)
def tD:∀{e f:Env},I7 e f=true→∀t,Pk (e.get .unk t) (f.get .unk t)=true
 |.leaf,_,_,t=>rfl
 |.node l a r,.leaf,h,t=>by
  simp[I7]at h;cases t with
  |e=>exact h.1.1
  |o p=>exact tD h.1.2 p
  |i p=>exact tD h.2 p
 |.node l a r,.node j C g,h,t=>by
  simp[I7]at h;cases t with
  |e=>exact h.1.1
  |o p=>exact tD h.1.2 p
  |i p=>exact tD h.2 p
def abX {a f:TV}(h:Pk a f=true):a = .unk∨∃p,a = .pv p∧f = .pv p:=by
 unfold Pk at h;split at h
 ·exact .inl rfl
 ·split at h
  ·rw[Oj h];exact .inr ⟨_,rfl,rfl⟩
  ·cases h
 ·split at h
  ·rw[Br h];exact .inr ⟨_,rfl,rfl⟩
  ·cases h
 ·cases h
def ER.back {ψ:Gx}(P:∀k g l,φ.loc k g=some l→ψ.loc k g=some l)(C:∀k v,φ.val k=some v→ψ.val k=some v){r :Env}{f :Array Value}(T:ER φ e tmps)(R:ER ψ r f)(J:I7 e r=true):ER φ e f:=λt j=>by
 rcases abX (tD J (pos t))with h|⟨p,h,U⟩
 ·rw[h];trivial
 ·have a:=T t j;have b:=R t j;rw[h]at a⊢;rw[U]at b;have a:bg φ p=some _:=a;have b:bg ψ p=some _:=b;show bg φ p=some _;rw[a,CM P C a b]
def IS {C:Pos}{h:Pos→EO}:∀{d:DM} {c:Pos→Pos},abD C h d c=true→∀p o,PM.get none d p=some o→h (c p) = .none∨c p=C
 |.leaf,_,_,p,o,g=>by cases g
 |.node l a r,c,f,p,o,g=>by
  simp[abD]at f;cases p with
  |e=>
   have j:=f.1.1;cases a with
   |none=>cases g
   |some J=>
    simp only at j;split at j
    next hn=>exact .inl hn
    ·exact .inr (Pos.beq_iff.1 j)
  |o p=>exact IS f.1.2 p o g
  |i p=>exact IS f.2 p o g
def Ls {f:ME→RX}{ok:Env→DM→Bool}:∀{j:List ME},Sn f ok j=true→∀y∈j,∃e d n,f y = .ok .normal e d n∧ok e d=true
 |[],_,y,hy=>by cases hy
 |x::j,h,y,hy=>by
  simp[Sn]at h;split at h
  next e d n l=>
   cases g:ok e d with
   |false=>rw[g]at h;cases h
   |true=>
    rw[g]at h;obtain rfl|hy:=N'.1 hy
    ·exact⟨e,d,n,l,g⟩
    ·exact Ls h y hy
  ·cases h
def Uh {m:Pos}{R:Nat}{j:List Nat}{o:EO}(h:WR m R j o=true):∃p,o = .mitU m R j (some p):=by
 unfold WR at h;split at h
 next m' s' b' p=>
  simp[Pos.beq_iff]at h;obtain⟨⟨rfl,rfl⟩,h⟩:=h;have f:∀{l m:List Nat},xu l m=true→l=m:=by
   intro l;induction l with
   |nil=>intro m h;cases m with|nil=>rfl|cons _ _=>cases h
   |cons x l r=>
    intro m h;cases m with
    |nil=>cases h
    |cons y m=>
     simp only[xu]at h;cases g:Nat.beq x y with
     |false=>rw[g]at h;cases h
     |true=>rw[g]at h;rw[κ g,r h]
  rw[f h];exact⟨p,rfl⟩
 ·cases h
