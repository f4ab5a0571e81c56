/- Closed runs. -/
import Derived.Test.YtfgpipfjalmooaaGreatCloV
import Derived.Maps.RangeRun
open Option renaming some→ä,none→ö
open Bool renaming true→ü,false→ß
open Go renaming World→æ,Value→ø,Program→å,undef→é,Oper→è,Deferred→ê,Exit→ë
set_option linter.all false
namespace Go.Proofs.YtfgpipfjalmooaaGreat
namespace Clo
open Go Go.RowKit
variable [SymVal]
inductive Dl where
 |op (dst:Option Pos) (out:TV) (wr:Option (Pos×EO))
 |call (dst:Option Pos) (out:TV) (lay:DM)
def Dl.dst:Dl→Option Pos
 |.op d _ _=>d
 |.call d _ _=>d
def Dl.out:Dl→TV
 |.op _ o _=>o
 |.call _ o _=>o
def Dl.dm:Dl→DM→DM
 |.op _ _ wr,d=>sX d wr
 |.call _ _ f,d=>l6 f d
def Dl.wrote:Dl→Pos→Option EO
 |.op _ _ wr,k=>match wr with
  |some (k',o)=>if k'=k then ä o else ö
  |none=>ö
 |.call _ _ f,k=>PM.get ö f k
structure St where
 e:Env
 d:DM
def Dl.ke (x:Dl)(s:St):St:=⟨aV s.e x.dst x.out,x.dm s.d⟩
def orE (a:Option EO)(b:EO):EO:=match a with|some o=>o|none=>b
def Dl.xv (b:HP)(x:Dl)(d:DM)(k:Pos):(HP.ov b (x.dm d)).get k=orE (x.wrote k) ((HP.ov b d).get k):=by
 cases x with
 |op g out wr=>
  simp[Dl.dm,Dl.wrote];rw[EB];cases wr with
  |none=>rfl
  |some p=>
   obtain⟨j,o⟩:=p;simp[sL,upd];by_cases e:j=k
   ·simp[e,orE]
   ·simp[e,orE]
 |call g out f =>simp[Dl.dm,Dl.wrote];rw[HP.get_merge];simp[HP.get];cases PM.get ö f k <;> rfl
def Dl.e_get (x:Dl)(e:Env)(t:Pos):(aV e x.dst x.out).get .unk t=if x.dst=ä t then x.out else e.get .unk t:=by
 unfold aV;cases x.dst with
 |none=>simp
 |some d =>simp[PM.cf,upd]
def stT (f:List Dl)(D:Nat→Bool)(s:St):Nat→St
 |0=>s
 |m+1=>match D m with
  |true=>match f[m]? with
   |some x=>x.ke (stT f D s m)
   |none=>stT f D s m
  |false=>stT f D s m
def db:Nat→Bool:=λ_=>ü
def alO:OP→Bool
 |.op _ f=>f
 |_=>ß
def rI:List OP→Pos→Nat→Pos
 |_,r,0=>r
 |[],r,_=>r
 |o::l,r,i+1=>rI l (cN (alO o) r) i
def AtT (ck:Callk)(b:HP)(P:List Pos)(r:Pos)(o:OP)(j:Inf)(x:Dl)(s:St):Prop:=match o with
 |.op p C=>∃out wr,j7 s.e (HP.ov b (ez C s.d r)).get r p=ä (out,wr)∧okW (HP.ov b (ez C s.d r)).get wr=ü∧j = .op (eW wr) (trF s.e (HP.ov b (ez C s.d r)).get r p) (oJ C r wr) (qF s.e r p) out∧x = .op p.dst out wr
 |.call args l g=>(gd s.e g=ä ü∧∃t J out f n R,cI (HP.ov b s.d).get (aT s.e args)=ä (t,J)∧ck.call (.ov b s.d) t J .leaf n = .ok out f R∧su f P=ü∧j = .call (.ov b s.d) f∧x = .call l out f)∨(gd s.e g=ä ß∧j = .op ö [] ü .fail .unk∧x = .op l (.tup []) ö)
 |_=>False
def yD (f:List Dl)(s1:St)(m:Nat):stT f db s1 (m+1)=match f[m]? with|some x=>x.ke (stT f db s1 m)|none=>stT f db s1 m:=rfl
def AK (x:Dl)(f:List Dl)(s:St):∀m,stT (x::f) db s (m+1)=stT f db (x.ke s) m
 |0=>rfl
 |m+1=>by rw[yD,AK x f s m,yD,akf]
def Is {ck:Callk}{b:HP}{rs:List Pos}:∀(l:List OP) (e:Env) (d:DM) (r n:Pos) (j:List Inf) (e':Env) (d':DM) (n':Pos),mS ck b rs l e d r n = .ok j e' d' n' →
  ∃p:List Dl,p.length=l.length∧stT p db ⟨e,d⟩ l.length=⟨e',d'⟩∧∀i,i<l.length→∃o f x,l[i]? = ä o∧j[i]? = ä f∧p[i]? = ä x∧AtT ck b rs (rI l r i) o f x (stT p db ⟨e,d⟩ i)
 |[],e,d,r,n,j,e',d',n',h=>by simp only[mS]at h;injection h with h1 h2 h3 h4;subst h2;subst h3;exact⟨[],rfl,rfl,λi hi=>by simp at hi⟩
 |o::l,e,d,r,n,j,e',d',n',h=>by
  have J:∀(x:Dl) (f:Inf) (r':Pos) (rest:RT'),AtT ck b rs r o f x ⟨e,d⟩→r'=cN (alO o) r→(∃n1,rest=mS ck b rs l (aV e x.dst x.out) (x.dm d) r' n1)→Ai f rest = .ok j e' d' n' →
    ∃p:List Dl,p.length=(o::l).length∧stT p db ⟨e,d⟩ (o::l).length=⟨e',d'⟩∧∀i,i<(o::l).length→∃o' f x,(o::l)[i]? = ä o'∧j[i]? = ä f∧p[i]? = ä x∧AtT ck b rs (rI (o::l) r i) o' f x (stT p db ⟨e,d⟩ i):=by
   intro x f r' rest hat hr' ⟨n1,P⟩ hc;cases rest with
   |no=>simp only[Ai]at hc;cases hc
   |ok infs2 e2 d2 n2=>
    simp only[Ai]at hc;injection hc with c1 c2 c3 c4;subst c1;subst c2;subst c3;subst c4;obtain⟨p,q1,q2,q3⟩:=Is l _ _ _ _ _ _ _ _ P.symm;refine⟨x::p,by simp[q1], ?_,λi hi=>?_⟩
    ·rw[v_,AK];exact q2
    ·cases i with
     |zero=>exact⟨o,f,x,rfl,rfl,rfl,hat⟩
     |succ i =>obtain⟨o',inf',x',p1,p2,p3,p4⟩:=q3 i (by simpa using hi);refine⟨o',inf',x',by simpa using p1,by simpa using p2,by simpa using p3, ?_⟩;rw[AK];simp[rI];rw[←hr'];exact p4
  simp[mS]at h;split at h
  next fo al=>
   split at h
   ·rename_i out wr hst;cases R:okW (HP.ov b (ez al d r)).get wr with
    |false=>rw[R]at h;cases h
    |true =>rw[R,U']at h;exact J (.op fo.dst out wr) _ _ _ ⟨out,wr,hst,R,rfl,rfl⟩ rfl ⟨_,rfl⟩ h
   ·cases h
  next args dst g=>
   split at h
   ·rename_i hg;split at h
    ·rename_i t vs hen;split at h
     ·rename_i out C n1 U;cases T:su C rs with
      |false=>rw[T]at h;cases h
      |true =>rw[T,U']at h;exact J (.call dst out C) _ _ _ (.inl ⟨hg,t,vs,out,C,n,n1,hen,U,T,rfl,rfl⟩) rfl ⟨_,rfl⟩ h
     ·cases h
    ·cases h
   next hg=>exact J (.op dst (.tup []) ö) _ _ _ (.inr ⟨hg,rfl,rfl⟩) rfl ⟨_,rfl⟩ h
   ·cases h
  ·cases h
def Eo (f:Bool)(n:Pos):(cN f n).num=n.num+(if f=ü then 1 else 0):=by
 cases f with
 |true=>simp[cN,Pos.Pr]
 |false=>simp[cN]
def agz:∀(l:List OP) (r:Pos) (i:Nat),r.num≤(rI l r i).num
 |l,r,0=>by cases l <;> exact ε _
 |[],r,i+1=>ε _
 |o::l,r,i+1=>by simp[rI];have:=agz l (cN (alO o) r) i;rw[Eo]at this;omega
def agy (l:List OP):∀(r:Pos) (i j:Nat) (o:OP),l[i]? = ä o→alO o=ü→i<j→(rI l r i).num<(rI l r j).num:=by
 induction l with
 |nil=>intro r i j o h;simp at h
 |cons x l g=>
  intro r i j o h f p;cases j with
  |zero=>omega
  |succ j=>
   cases i with
   |zero =>simp at h;subst h;have J:=agz l (cN (alO x) r) j;have C:=Eo (alO x) r;rw[Θ f]at C;simp[rI];omega
   |succ i =>simp[rI];exact g _ i j o (by simpa using h) f Ω
def ahn {l:List OP}{r:Pos}{i j:Nat}{o f:OP}(p:l[i]? = ä o)(g:l[j]? = ä f)(J:alO o=ü)(C:alO f=ü)(e:rI l r i=rI l r j):i=j:=by
 obtain h|h|h:=z? i j
 ·have:=agy l r i j o p J h;rw[e]at this;omega
 ·exact h
 ·have:=agy l r j i f g C h;rw[e]at this;omega
def xA {b:HP}:∀(l:List OP) (d:DM) (n:Pos) (f:List Pos) (p:DM) (C:Pos),sq b l d n=ä (f,p,C) →
  (∀k,k∈f→(HP.ov b d).get k = .none∧(HP.ov b p).get k = .cz)∧(∀k,k ∉ f→(HP.ov b p).get k=(HP.ov b d).get k)∧∀i o,l[i]? = ä o→alO o=ü→rI l n i∈f
 |[],d,n,f,p,C,h=>by cases h;exact⟨λk j=>(by cases j),λ_ _=>rfl,λi o h=>by simp at h⟩
 |o::l,d,n,f,p,C,h=>by
  have skip:alO o=ß→sq b l d n=ä (f,p,C)→(∀k,k∈f→(HP.ov b d).get k = .none∧(HP.ov b p).get k = .cz)∧(∀k,k ∉ f→(HP.ov b p).get k=(HP.ov b d).get k)∧∀i r,(o::l)[i]? = ä r→alO r=ü→rI (o::l) n i∈f:=by
   intro ho hr;obtain⟨q1,q2,U⟩:=xA l d n f p C hr;refine⟨q1,q2,λi r P R=>?_⟩;cases i with
   |zero=>simp at P;subst P;rw[ho]at R;cases R
   |succ i=>simp[rI,ho];exact U i r (by simpa using P) R
  cases o with
  |call args dst g=>exact skip rfl h
  |nxt x dst=>exact skip rfl h
  |bad=>exact skip rfl h
  |op fo al=>
   cases al with
   |false=>exact skip rfl h
   |true=>
    simp[sq]at h;split at h
    ·rename_i hn;split at h
     ·rename_i l2 d2 n2 hr;cases h;obtain⟨q1,q2,U⟩:=xA _ _ _ _ _ _ hr;have T:=HP.cf b d n .cz;have J:n ∉ l2:=λhm=>by
       have:=(q1 n hm).1;rw[T,aU]at this;cases this
      refine⟨λk j=>?_,λk j=>?_,λi r P R=>?_⟩
      ·obtain rfl|j:=c_.1 j
       ·refine⟨hn, ?_⟩;rw[q2 _ J,T,aU]
       ·obtain⟨p1,p2⟩:=q1 k j;refine⟨?_,p2⟩;rw[T,bB _ _ (λe=>J (by rw[e];exact j))]at p1;exact p1
      ·simp at j;rw[q2 k j.2,T,bB _ _ (λe=>j.1 e.symm)]
      ·cases i with
       |zero=>exact m_ ..
       |succ i=>exact e_ _ (U i r (by simpa using P) R)
     ·cases h
    ·cases h
def kT {d:DM}:∀{l:List Pos},su d l=ü→∀k∈l,PM.get ö d k=ö
 |[],_,k,hk=>by cases hk
 |p::l,h,k,hk=>by
  simp[su]at h;split at h
  ·cases h
  next hp=>
   obtain rfl|hk:=c_.1 hk
   ·exact hp
   ·exact kT h k hk
def tI {k:Pos}:∀{l:List Pos},SC k l=ü↔k∈l
 |[]=>by simp[SC]
 |p::l=>by
  simp[SC];cases f:k.beq p with
  |true=>simp[Pos.beq_iff.1 f]
  |false=>
   have:¬k=p:=λe=>by rw[Pos.beq_iff.2 e]at f;cases f
   simp[tI (l:=l),this]
def Opn (l:List OP)(f:List Inf)(p q:Nat):Prop:=∃x y a c,l[p]? = ä x∧l[q]? = ä y∧AI x y=ü∧f[p]? = ä a∧f[q]? = ä c∧dN a c=ü
structure Dr (ck:Callk)(b:HP)(rs:List Pos)(l:List OP)(infs:List Inf)(ds:List Dl)(s1:St)(n:Pos)(bef:Nat→Nat→Prop):Prop where
 len:ds.length=l.length
 at_:∀i,i<l.length→∃o inf x,l[i]? = ä o∧infs[i]? = ä inf∧ds[i]? = ä x∧AtT ck b rs (rI l n i) o inf x (stT ds db s1 i)
 pair:∀p q,p<q→q<l.length→bef p q∨Opn l infs p q
 cz:∀k,k∈rs→(HP.ov b s1.d).get k = .cz
 al:∀i o,l[i]? = ä o→alO o=ü→rI l n i∈rs
section
variable {ck:Callk}{b:HP}{rs:List Pos}{l:List OP}{infs:List Inf}{ds:List Dl}{s1:St}{n:Pos}{bef:Nat→Nat→Prop}
def AtT.dst {r:Pos}{o:OP}{f:Inf}{x:Dl}{s:St}(h:AtT ck b rs r o f x s):x.dst=Qc o:=by
 cases o with
 |op J P=>obtain⟨out,wr,_,_,_,rfl⟩:=h;rfl
 |call args l g =>rcases h with⟨_,t,p,out,j,n,C,_,_,_,_,rfl⟩|⟨_,_,rfl⟩ <;> rfl
 |nxt _ _=>exact h.elim
 |bad=>exact h.elim
variable{k d:Pos}{D:Nat→Bool}{i j:Nat}
def AtT.wres {r:Pos}{o:OP}{l:Inf}{x:Dl}{s:St}(h:AtT ck b rs r o l x s)(T:k∈rs)(J:(HP.ov b s.d).get k = .cz)(j:x.wrote k≠ö):alO o=ü∧k=r:=by
 cases o with
 |op fo al=>
  obtain⟨out,wr,_,f,_,rfl⟩:=h;simp[Dl.wrote]at j;cases wr with
  |none=>exact(j rfl).elim
  |some p=>
   obtain⟨R,o'⟩:=p;simp only at j;split at j
   ·rename_i e;subst e;simp[okW]at f;cases al with
    |false =>simp[ez]at f;rw[J]at f;cases f
    |true=>
     simp[ez]at f;rw[HP.cf]at f;by_cases e:r=R
     ·exact⟨rfl,e.symm⟩
     ·rw[bB _ _ e,J]at f;cases f
   ·exact(j rfl).elim
 |call args U g=>
  rcases h with⟨_,t,vs,out,P,n,n',_,_,C,_,rfl⟩|⟨_,_,rfl⟩
  ·exact(j (kT C k T)).elim
  ·exact(j rfl).elim
 |nxt _ _=>exact h.elim
 |bad=>exact h.elim
def Dr.kept (h:Dr ck b rs l infs ds s1 n bef){i:Nat}{o:OP}(J:l[i]? = ä o)(P:alO o=ü){x:Dl}(U:ds[i]? = ä x):∀m,m≤l.length →
  (∀j y,j<m→ds[j]? = ä y→y.wrote (rI l n i)≠ö→j=i∨(i<j∧x.wrote (rI l n i)≠ö))∧((m≤i∨x.wrote (rI l n i)=ö)→(HP.ov b (stT ds db s1 m).d).get (rI l n i) = .cz)
 |0,_=>⟨λj y hj=>Ω,λ_=>h.cz _ (h.al i o J P)⟩
 |m+1,hm=>by
  obtain⟨q1,q2⟩:=h.kept J P U m Ω;obtain⟨om,im,R,p1,p2,C,p4⟩:=h.at_ m Ω;have p:R.wrote (rI l n i)≠ö→m=i∨(i<m∧x.wrote (rI l n i)≠ö):=by
   intro g;by_cases f:m≤i∨x.wrote (rI l n i)=ö
   ·obtain⟨a1,a2⟩:=p4.wres (h.al i o J P) (q2 f) g;exact .inl (ahn p1 J a1 P a2.symm)
   ·simp at f;exact .inr ⟨Ω,f.2⟩
  refine⟨λj y hj T g=>?_,λf=>?_⟩
  ·obtain hlt|hge:=i_ j m
   ·exact q1 j y hlt T g
   ·have:j=m:=Ω
    subst this;rw[C]at T;cases T;exact p g
  ·have r:=q2 (f.imp (λh=>Ω) id);rw[yD,C];show(HP.ov b (R.dm _)).get _=_;rw[Dl.xv];cases g:R.wrote (rI l n i)with
   |none=>exact r
   |some o'=>
    exfalso;rcases p (by rw[g];exact λe=>by cases e)with e|⟨e1,e2⟩
    ·subst e;rw[U]at C;cases C;obtain f|f:=f
     ·omega
     ·rw[f]at g;cases g
    ·obtain f|f:=f
     ·omega
     ·exact e2 f
structure Nx (l:List OP)(bef:Nat→Nat→Prop)(D:Nat→Bool)(i:Nat):Prop where
 lt:i<l.length
 not:D i=ß
 cl:∀q,q<l.length→D q=ü→∀p,p<l.length→bef p q→D p=ü
 pre:∀p,p<l.length→bef p i→D p=ü
def Nx.before (f:Nx l bef D i)(h:Dr ck b rs l infs ds s1 n bef)(g:j<i)(p:D j=ß):Opn l infs j i:=by
 obtain hp|hp:=h.pair j i g f.lt
 ·have:=f.pre j (alM g f.lt) hp;rw[p]at this;cases this
 ·exact hp
def Nx.after (f:Nx l bef D i)(h:Dr ck b rs l infs ds s1 n bef)(p:i<j)(g:j<l.length)(r:D j=ü):Opn l infs i j:=by
 obtain hp|hp:=h.pair i j p g
 ·have:=f.cl j g r i f.lt hp;rw[f.not]at this;cases this
 ·exact hp
def En {a b:OP}(h:AI a b=ü)(g:Qc a=ä d):d ∉ eo b∧Qc b≠ä d:=by
 simp[AI,g]at h;refine⟨λf=>?_,λe=>?_⟩
 ·rw[tI.2 f]at h;cases h.1.1
 ·have:=h.1.2;rw[e]at this;simp only[Pos.beq_iff.2 (rfl:d=d)]at this;cases this
def Zw {a b:OP}(h:AI a b=ü)(f:Qc b=ä d):d ∉ eo a∧Qc a≠ä d:=by
 refine⟨λg=>?_,λe=>?_⟩
 ·simp[AI,f]at h;rw[tI.2 g]at h;cases h.2
 ·exact(En h e).2 f
def Dr.env (h:Dr ck b rs l infs ds s1 n bef){D:Nat→Bool}{i:Nat}(p:Nx l bef D i){o:OP}(P:l[i]? = ä o){t:Pos}(J:t∈eo o):∀m,m≤l.length→(stT ds D s1 m).e.get .unk t=(stT ds db s1 (min m i)).e.get .unk t
 |0,_=>by rw[Nat.zero_min];rfl
 |m+1,hm=>by
  have f:=h.env p P J m Ω;obtain⟨om,im,xm,U,p2,r,T⟩:=h.at_ m Ω;obtain hlt|heq|hgt:=z? m i
  ·rw[show min (m+1) i=m+1 by omega];rw[show min m i=m by omega]at f;rw[yD,r];simp[stT];cases R:D m with
   |true =>simp[r,Dl.ke,Dl.e_get,f]
   |false =>obtain⟨x,y,a,c,j,g,C,_⟩:=p.before h hlt R;rw[U]at j;cases j;rw[P]at g;cases g;simp only[Dl.ke,Dl.e_get,f];rw[ω];rw[T.dst];intro e;exact(En C e).1 J
  ·subst heq;rw[show min (m+1) m=m by omega];rw[show min m m=m by omega]at f;simp[stT,p.not];exact f
  ·rw[show min (m+1) i=i by omega];rw[show min m i=i by omega]at f;simp[stT];cases R:D m with
   |false=>exact f
   |true=>
    obtain⟨x,y,a,c,j,g,C,_⟩:=p.after h hgt Ω R;rw[U]at g;cases g;rw[P]at j;cases j;simp[r,Dl.ke,Dl.e_get];rw[ω]
    ·exact f
    ·rw[T.dst];intro e;exact(Zw C e).1 J
def Dr.heap (h:Dr ck b rs l infs ds s1 n bef){D:Nat→Bool}{i:Nat}(C:Nx l bef D i){k:Pos}(P:EO→Prop)
  (T:∀j x o,j<i→D j=ß→Opn l infs j i→ds[j]? = ä x→x.wrote k=ä o→P ((HP.ov b (stT ds db s1 j).d).get k))
  (R:∀j x o,i<j→j<l.length→D j=ü→Opn l infs i j→ds[j]? = ä x→x.wrote k=ä o→P o):∀m,m≤l.length→(HP.ov b (stT ds D s1 m).d).get k=(HP.ov b (stT ds db s1 (min m i)).d).get k∨P ((HP.ov b (stT ds D s1 m).d).get k)
 |0,_=>by rw[Nat.zero_min];exact .inl rfl
 |m+1,hm=>by
  have f:=h.heap C P T R m Ω;obtain⟨om,im,g,p1,p2,p,U⟩:=h.at_ m Ω;obtain hlt|heq|hgt:=z? m i
  ·rw[show min (m+1) i=m+1 by omega];rw[show min m i=m by omega]at f;rw[yD,p];simp[stT];cases r:D m with
   |true=>
    simp[p,Dl.ke,Dl.xv];cases J:g.wrote k with
    |some o=>exact .inl rfl
    |none=>exact f
   |false=>
    simp[Dl.ke,Dl.xv];cases J:g.wrote k with
    |none=>exact f
    |some o=>
     refine .inr ?_;obtain f|f:=f
     ·rw[f];exact T m g o hlt r (C.before h hlt r) p J
     ·exact f
  ·subst heq;rw[show min (m+1) m=m by omega];rw[show min m m=m by omega]at f;simp[stT,C.not];exact f
  ·rw[show min (m+1) i=i by omega];rw[show min m i=i by omega]at f;simp[stT];cases r:D m with
   |false=>exact f
   |true=>
    simp[p,Dl.ke,Dl.xv];cases J:g.wrote k with
    |none=>exact f
    |some o=>exact .inr (R m g o hgt Ω r (C.after h hgt Ω r) p J)
def Dr.apartW (h:Dr ck b rs l infs ds s1 n bef)(hl:j<l.length)(hi:i<l.length)(ho:Opn l infs i j){x y:Dl}(hx:ds[i]? = ä x)(hy:ds[j]? = ä y)(C:y.wrote k≠ö):x.wrote k=none:=by
 obtain⟨oi,ii,xi,a1,a2,a3,a4⟩:=h.at_ i hi;obtain⟨oj,ij,xj,b1,b2,b3,P⟩:=h.at_ j hl;obtain⟨p,q,a,c,o1,o2,o3,o4,o5,f⟩:=ho;rw[a1]at o1;cases o1;rw[b1]at o2;cases o2;rw[a2]at o4;cases o4;rw[b2]at o5;cases o5;rw[a3]at hx;injection hx with hx;subst hx;rw[b3]at hy;cases hy;have wk:∀{J:Option Pos} {out:TV} {wr:Option (Pos×EO)},(Dl.op J out wr).wrote k≠ö→eW wr=ä k:=by
  intro J out wr C;cases wr with
  |none=>exact(C rfl).elim
  |some p=>
   simp only[Dl.wrote]at C;split at C
   next e=>simp[eW,e]
   ·exact(C rfl).elim
 cases U:xi.wrote k with
 |none=>rfl
 |some o=>
  exfalso;have T:xi.wrote k≠none:=by rw[U];exact λe=>by cases e
  cases oi with
  |op fo al=>
   obtain⟨out,wr,_,_,rfl,rfl⟩:=a4;have ki:=wk T;cases oj with
   |op fo' al' =>obtain⟨r,R,_,_,rfl,rfl⟩:=P;have kj:=wk C;simp[dN,ki,kj,Ms]at f;rw[Pos.beq_iff.2 rfl]at f;cases f.2
   |call args J g=>
    rcases P with⟨_,t,vs,r,lay,n1,n2,_,_,hno,rfl,rfl⟩|⟨_,rfl,rfl⟩
    ·rw[ki]at f;simp only[dN]at f;cases f
    ·exact C rfl
   |nxt _ _=>exact P.elim
   |bad=>exact P.elim
  |call args J g=>
   rcases a4 with⟨_,t,vs,out,lay,n1,n2,_,_,hno,rfl,rfl⟩|⟨_,rfl,rfl⟩
   ·cases oj with
    |op fo' al'=>
     obtain⟨r,R,_,_,rfl,rfl⟩:=P;have kj:=wk C;rw[kj]at f;cases hf:oJ al' (rI l n j) R with
     |false=>rw[hf]at f;simp only[dN]at f;cases f
     |true=>
      cases R with
      |none=>cases kj
      |some p =>simp only[eW,ι]at kj;simp only[oJ,θ]at hf;have e:=Pos.beq_iff.1 hf.2;rw[kj]at e;have hm:=h.al j _ b1 hf.1;rw[←e]at hm;exact T (kT hno k hm)
    |call args' dst' g'=>
     rcases P with⟨_,t,vs,r,lay',n1,n2,_,_,hno',rfl,rfl⟩|⟨_,rfl,rfl⟩
     ·simp only[dN]at f;cases f
     ·exact C rfl
    |nxt _ _=>exact P.elim
    |bad=>exact P.elim
   ·exact T rfl
  |nxt _ _=>exact a4.elim
  |bad=>exact a4.elim
def Dr.next (h:Dr ck b rs l infs ds s1 n bef){D R:Nat→Bool}{i:Nat}(P:Nx l bef D i)(p:∀j,j<l.length→R j=(D j||decide (j=i))){x:Dl}(g:ds[i]? = ä x):∀m,m≤l.length →
  (∀t,(stT ds R s1 m).e.get .unk t=if m≤i then(stT ds D s1 m).e.get .unk t else(aV (stT ds D s1 m).e x.dst x.out).get .unk t)∧(∀k,(HP.ov b (stT ds R s1 m).d).get k=if m≤i then(HP.ov b (stT ds D s1 m).d).get k else orE (x.wrote k) ((HP.ov b (stT ds D s1 m).d).get k))
 |0,_=>⟨λt=>by rw[Θ (Y' _)];rfl,λk=>by rw[Θ (Y' _)];rfl⟩
 |m+1,hm=>by
  obtain⟨J,C⟩:=h.next P p g m Ω
  obtain⟨om,im,U,p1,p2,r,p4⟩:=h.at_ m Ω;obtain hlt|heq|hgt:=z? m i
  ·have e:R m=D m:=by rw[p m Ω];simp;omega
   refine⟨λt=>?_,λk=>?_⟩
   ·have f:=J t;rw[Θ Ω]at f⊢;simp[stT,e];cases T:D m with
    |true=>simp[r,Dl.ke,Dl.e_get,f]
    |false=>exact f
   ·have f:=C k;rw[Θ Ω]at f⊢;simp[stT,e];cases T:D m with
    |true=>simp[r,Dl.ke,Dl.xv,f]
    |false=>exact f
  ·subst heq;have e:R m=true:=by rw[p m Ω];simp
   rw[g]at r;cases r;refine⟨λt=>?_,λk=>?_⟩
   ·have f:=J t;rw[Θ (ε _)]at f;rw[ω Ω];simp[stT,e,P.not,g,Dl.ke,Dl.e_get,f]
   ·have f:=C k;rw[Θ (ε _)]at f;rw[ω Ω];simp[stT,e,P.not,g,Dl.ke,Dl.xv,f]
  ·have e:R m=D m:=by rw[p m Ω];simp;omega
   refine⟨λt=>?_,λk=>?_⟩
   ·have f:=J t;rw[ω Ω]at f⊢;simp[stT,e];cases T:D m with
    |false=>exact f
    |true=>
     simp[r,Dl.ke,Dl.e_get,f];by_cases c1:U.dst=ä t
     ·rw[Θ c1,ω]
      ·exact(Θ c1).symm
      ·intro c2;obtain⟨oi,ii,xi,a1,a2,a3,a4⟩:=h.at_ i P.lt;rw[g]at a3;cases a3;obtain⟨_,_,_,_,o1,o2,o3,_⟩:=P.after h hgt Ω T;rw[a1]at o1;cases o1;rw[p1]at o2;cases o2;rw[a4.dst]at c2;rw[p4.dst]at c1;exact(En o3 c2).2 c1
     ·rw[ω c1,ω c1]
   ·have f:=C k;rw[ω Ω]at f⊢;simp[stT,e];cases T:D m with
    |false=>exact f
    |true=>
     simp[r,Dl.ke,Dl.xv,f];cases hw:U.wrote k with
     |none=>rfl
     |some o' =>rw[h.apartW Ω P.lt (P.after h hgt Ω T) g r (by rw[hw];exact λe=>by cases e)];rfl
end
variable [SymVal]
def e8:∀(l:List è) (f:List Nat) (i:Nat),i<f.length→(aK l f).getD i 0=f.getD i 0
 |[],f,i,_=>by simp[aK]
 |o::l,f,i,h=>by rw[aK,e8 l _ i Ξ];simp[List.getD,I' h]
def ua {g:List Nat}:∀(l:List Edge) (s q:Nat),(l.foldl (λs e=>if Region.binds .any e then s ||| 2^e.on ||| g.getD e.on 0 else s) s).testBit q=ü →
  s.testBit q=ü∨∃e∈l,Region.binds .any e=ü∧(q=e.on∨(g.getD e.on 0).testBit q=ü)
 |[],s,q,h=>.inl h
 |e::l,s,q,h=>by
  simp at h;obtain f|⟨C,p,j,r⟩:=ua l _ q h
  ·split at f
   ·rename_i j;simp at f;rcases f with(f|f)|f
    ·exact .inl f
    ·refine .inr ⟨e,Ψ,j,.inl ?_⟩;rw[Nat.testBit_two_pow]at f;exact(t_ f).symm
    ·exact .inr ⟨e,Ψ,j,.inr f⟩
   ·exact .inl f
  ·exact .inr ⟨C,by simp[p],j,r⟩
def iv:∀(l:List è) (f:List Nat) (i:Nat) (o:è),l[i]? = ä o→bU f.length l=ü→∀q,((aK l f).getD (f.length+i) 0).testBit q=ü →
  ∃e∈o.after.toList,Region.binds .any e=ü∧(q=e.on∨((aK l f).getD e.on 0).testBit q=ü)
 |[],f,i,o,h,_,_,_=>by simp at h
 |x::l,f,0,o,h,hok,q,hq=>by
  simp at h;subst h;simp only[bU,θ,P']at hok;rw[aK,e8 l _ _ Ψ]at hq;simp only[akU,List.getD,h_ (ε _),alL,ake,alo]at hq;obtain h1|⟨e,p,r,g⟩:=ua _ _ _ hq
  ·simp at h1
  ·refine⟨e,p,r,g.imp id λg=>?_⟩;have j:e.on<f.length:=by have:=hok.1 e p;simpa[r]using this
   rw[aK,e8 l _ _ Ξ];have:=j;simpa[List.getD,I' this]using g
 |x::l,f,i+1,o,h,hok,q,hq=>by
  simp[bU]at hok;simp at h;have:=iv l (f++[x.after.toList.foldl (λs e=>if Region.binds .any e then s ||| 2^e.on ||| f.getD e.on 0 else s) 0]) i o h (by simpa using hok.2) q (by
   rw[aK]at hq;rw[show(f++[x.after.toList.foldl (λs e=>if Region.binds .any e then s ||| 2^e.on ||| f.getD e.on 0 else s) 0]).length+i=f.length+(i+1)by simp;omega];exact hq)
  rw[aK];exact this
section
variable {P:å}{ops:Array è}
def DC (ops:Array è)(D:Nat→Bool):Prop:=∀j,D j=ü→∀i,((aK ops.toList []).getD j 0).testBit i=ü→D i=ü
variable{C:Array Bool}{i:Nat}
def t8 {j:Nat}(f:i<C.size):(C.setIfInBounds i ü).getD j ß=(C.getD j ß||decide (j=i)):=by
 simp;by_cases h:i=j
 ·subst h;simp[f]
 ·have:¬j=i:=λe=>h e.symm;simp[h,this]
def kS (n j:Nat):(Array.replicate n ß).getD j ß=false:=by simp only[u_,alI];split <;> rfl
def dx (r:C.size=ops.size)(h:i∈Region.ready .any ops C) :
  i<ops.size∧C.getD i ß=ß∧∃o,ops[i]? = ä o∧∀e∈o.after,Region.binds .any e=ü→C.getD e.on ß=true:=by
 rw[ak3]at h;obtain⟨p,o,g,l⟩:=h;have f:i<ops.size:=(δ.1 g).1;refine⟨f, ?_,o,g,l⟩;have j:i<C.size:=Ω
 simpa[u_,j]using p
def L6 (P:bU 0 ops.toList=ü)(R:C.size=ops.size)(r:DC ops (λj=>C.getD j ß))(h:i∈Region.ready .any ops C) :
  (∀q,((aK ops.toList []).getD i 0).testBit q=ü→C.getD q ß=ü)∧DC ops (λj=>(C.setIfInBounds i ü).getD j ß):=by
 obtain⟨U,hDi,o,T,l⟩:=dx R h;have J:∀q,((aK ops.toList []).getD i 0).testBit q=ü→C.getD q ß=true:=by
  intro q J;obtain⟨e,he,hb,g⟩:=iv ops.toList [] i o (by simpa using T) P q (by simpa using J);have p:=l e (by simpa using he) hb;obtain rfl|g:=g
  ·exact p
  ·exact r e.on p q g
 refine⟨J,λj f q g=>?_⟩;have f:(C.setIfInBounds i ü).getD j ß=true:=f;show(C.setIfInBounds i ü).getD q ß=ü;rw[t8 Ω]at f⊢;simp only[aj8,υ]at f⊢;obtain f|rfl:=f
 ·exact .inl (r j f q g)
 ·exact .inl (J q g)
def EY (J:bU 0 ops.toList=ü)(hs:C.size=ops.size)(hr:Region.ready .any ops C=[]):∀i,i<ops.size→C.getD i ß=true:=by
 intro i;induction i using Nat.strongRecOn with
 |_ i U=>
  intro R;cases hD:C.getD i ß with
  |true=>rfl
  |false=>
   exfalso;have:i∈Region.ready .any ops C:=by
    rw[ak3];have hl:i<C.size:=Ω
    refine⟨by simpa[u_,hl]using hD,ops[i],by simp[R],λe g P=>?_⟩;have r:e.on<i:=by
     have:∀(l:List è) (k j:Nat) (o:è),bU k l=ü→l[j]? = ä o→∀e∈o.after.toList,Region.binds .any e=ü→e.on<k+j:=by
      intro l;induction l with
      |nil=>intro k j o _ h;simp at h
      |cons x l p=>
       intro k j o f h e g T;simp only[bU,θ,P']at f;cases j with
       |zero =>simp at h;subst h;have:=f.1 e g;simpa[T]using this
       |succ j =>simp at h;have:=p (k+1) j o f.2 h e g T;omega
     have:=this ops.toList 0 i ops[i] J (by simp[R]) e (by simpa using g) P;omega
    exact U e.on r Ω
   rw[hr]at this;cases this
def xo {l:Option Nat}{n:Nat}{Q:ë→Act→æ→Prop}(h:Region.ready .any ops C=[]){a:Act}{w:æ}(j:Q .normal a w):∀f,wpAnyIn (RF l) n P .any ops Q f C a w
 |0=>⟨h,j⟩
 |_+1=>⟨λ_=>j,λi g=>by rw[h]at g;cases g⟩
end
def L8:∀{a b:CV},Ym a b=ü→a=b:=by
 intro a b h;have g:∀{x y:IntKind},kq x y=ü→x=y:=by intro x y h;cases x <;> cases y <;> first|rfl|cases h
 have f:∀{l m:List Nat},lsEq l m=ü→l=m:=by
  intro l;induction l with
  |nil=>intro m h;cases m with|nil=>rfl|cons _ _=>cases h
  |cons x l p=>
   intro m h;cases m with
   |nil=>cases h
   |cons y m=>
    simp only[lsEq]at h;cases j:Nat.beq x y with
    |false=>rw[j]at h;cases h
    |true=>rw[j]at h;rw[ν j,p h]
 cases a <;> cases b <;> simp[Ym,Pos.beq_iff]at h <;> first|(cases h;done)|skip
 case bl.bl x y=>cases x <;> cases y <;> first|rfl|cases h
 case int.int=>obtain⟨r,rfl⟩:=h;rw[g r]
 case str.str=>rw[f h]
 case nilp.nilp=>rfl
 case ptr.ptr=>obtain⟨⟨rfl,rfl⟩,rfl⟩:=h;rfl
 case glob.glob=>rw[h]
 case nils.nils=>rfl
 case sl.sl c _ _ _ _ c'=>
  obtain⟨⟨⟨⟨rfl,rfl⟩,rfl⟩,rfl⟩,h⟩:=h;cases c <;> cases c' <;> first|rfl|(cases h;done)|(rw[ν h])
 case emp.emp=>rw[h]
 case nilm.nilm=>rfl
 case mp.mp=>rw[h]
 case nilf.nilf=>rfl
 case fnc.fnc=>rw[h]
 case clo.clo=>rw[h]
 case nili.nili=>rfl
 case ifc.ifc=>rw[h]
 case sym.sym=>rw[h]
def Af:∀{l m:List CV},JI l m=ü→l=m
 |[],[],_=>rfl
 |[],_::_,h=>by cases h
 |_::_,[],h=>by cases h
 |a::l,b::m,h=>by
  simp only[JI]at h;cases f:Ym a b with
  |false=>rw[f]at h;cases h
  |true=>rw[f]at h;rw[L8 f,Af h]
def Kq:∀{a b:TV},V0 a b=ü→a=b:=by
 intro a b h;unfold V0 at h;split at h
 ·rw[L8 h]
 ·rw[Af h]
 ·cases h
def Z6 {f:EO→Q}{o:EO}{out:TV}(h:B9 f o out=ü):f o = .ret out none:=by
 unfold B9 at h;split at h
 next out' e=>rw[e,Kq h]
 ·cases h
def Pz {e f:Env}{g:Option (Pos×Bool)}(h:∀t∈LR g,e.get .unk t=f.get .unk t):gd e g=gd f g:=by
 cases g with
 |none=>rfl
 |some p =>obtain⟨p,w⟩:=p;simp[gd];rw[h p (by simp[LR])]
def nl {e g:Env}:∀{xs:List Src},(∀t∈B0 xs,e.get .unk t=g.get .unk t)→aT e xs=aT g xs
 |[],_=>rfl
 |.t p::xs,h=>by simp only[aT,bm];rw[h p (by simp[B0]),nl (xs:=xs) λt f=>h t (by simp[B0,f])]
 |.c v::xs,h=>by simp[aT,bm];rw[nl (xs:=xs) λt f=>h t (by simpa[B0]using f)]
section
variable {ck:Callk}{b:HP}{rs:List Pos}{l:List OP}{infs:List Inf}{ds:List Dl}{s1:St}{n:Pos}{bef:Nat→Nat→Prop}
variable{D:Nat→Bool}{i:Nat}
def Dr.res_at (h:Dr ck b rs l infs ds s1 n bef)(f:Nx l bef D i){o:OP}(R:l[i]? = ä o)(U:alO o=ü):(HP.ov b (stT ds D s1 l.length).d).get (rI l n i) = .cz:=by
 obtain⟨P,inf,x,p1,p2,C,p4⟩:=h.at_ i f.lt;have T:=h.kept R U C l.length (ε _);have:=h.heap f (k:=rI l n i) (λ_=>False) (λj y P hj _ _ p r=>?_) (λj y P hj g hD J p r=>?_) l.length (ε _)
 ·obtain h1|h1:=this
  ·rw[h1,show min l.length i=i by have:=f.lt;omega];exact(h.kept R U C i (by have:=f.lt;omega)).2 (.inl (ε _))
  ·exact h1.elim
 ·rcases T.1 j y (by have:=f.lt;omega) p (by rw[r];exact λe=>by cases e)with e|e <;> omega
 ·rcases T.1 j y g p (by rw[r];exact λe=>by cases e)with e|⟨_,e⟩
  ·omega
  ·exact e (h.apartW g f.lt J C p (by rw[r];exact λe=>by cases e))
def Dr.j7 (h:Dr ck b rs l infs ds s1 n bef){D:Nat→Bool}{i:Nat}(hx:Nx l bef D i){fo:FO}{T:Bool}(ho:l[i]? = ä (.op fo T)):∃out wr,ds[i]? = ä (.op fo.dst out wr)∧Clo.j7 (stT ds D s1 l.length).e (if T=ü then upd (HP.ov b (stT ds D s1 l.length).d).get (rI l n i) .none else(HP.ov b (stT ds D s1 l.length).d).get) (rI l n i) fo=ä (out,wr):=by
 obtain⟨o',inf,x,p1,p2,p3,p4⟩:=h.at_ i hx.lt;rw[ho]at p1;cases p1;obtain⟨out,wr,P,hok,rfl,rfl⟩:=p4;refine⟨out,wr,p3, ?_⟩;have hlt:=hx.lt;have henv:∀t∈eo (.op fo T),(stT ds db s1 i).e.get .unk t=(stT ds D s1 l.length).e.get .unk t:=λt ht=>by rw[h.env hx ho ht l.length (ε _),show min l.length i=i by omega]
 have e1:gd (stT ds db s1 i).e fo.guard=gd (stT ds D s1 l.length).e fo.guard:=Pz λt ht=>henv t (by simp[eo,ht]);have e2:aT (stT ds db s1 i).e fo.args=aT (stT ds D s1 l.length).e fo.args:=nl λt ht=>henv t (by simp[eo,ht]);unfold Clo.j7 at P⊢;unfold qF trF at p2;rw[←e1,←e2];generalize hg:gd (stT ds db s1 i).e fo.guard=g at P p2⊢;cases g with
 |none=>cases P
 |some gb=>
  cases gb with
  |false=>exact P
  |true=>
   simp only at P p2⊢;generalize hq:dR fo.k (aT (stT ds db s1 i).e fo.args) (rI l n i)=q at P p2⊢;generalize hH:(if T=ü then upd (HP.ov b (stT ds D s1 l.length).d).get (rI l n i) .none else(HP.ov b (stT ds D s1 l.length).d).get)=H;have hone:∀k∈q.tr (HP.ov b (ez T (stT ds db s1 i).d (rI l n i))).get,H k=(HP.ov b (ez T (stT ds db s1 i).d (rI l n i))).get k∨(eW wr=ö∧∃f,q = .rd k f∧B9 f (H k) out=ü):=by
    intro k hk;by_cases hkr:T=ü∧k=rI l n i
    ·obtain⟨rfl,rfl⟩:=hkr;refine .inl ?_;rw[←hH];simp[ez,aU];rw[HP.cf,aU]
    ·have eH:H k=(HP.ov b (stT ds D s1 l.length).d).get k:=by
      rw[←hH];split
      next ha=>exact bB _ _ λe=>hkr ⟨ha,e.symm⟩
      ·rfl
     have eR:(HP.ov b (ez T (stT ds db s1 i).d (rI l n i))).get k=(HP.ov b (stT ds db s1 i).d).get k:=by
      cases T with
      |false=>rfl
      |true =>simp[ez];rw[HP.cf];exact bB _ _ λe=>hkr ⟨rfl,e.symm⟩
     rw[eH,eR];have wk:∀{dst:Option Pos} {out:TV} {wr:Option (Pos×EO)} {o:EO},(Dl.op dst out wr).wrote k=ä o→eW wr=ä k:=by
      intro dst out wr o U;cases wr with
      |none=>cases U
      |some p=>
       simp only[Dl.wrote]at U;split at U
       next e=>simp[eW,e]
       ·cases U
     have still:∀{hp:HP} {d:DM} {o:EO},PM.get ö d k=ä o→Kt hp d (q.tr (HP.ov b (ez T (stT ds db s1 i).d (rI l n i))).get) q out=ü→∃f,q = .rd k f∧B9 f o out=ü∧B9 f (hp.get k) out=true:=by
      intro hp d o hd C;simp[Kt]at C;obtain C|C:=C
      ·rw[kT C k hk]at hd;cases hd
      ·cases hqq:q with
       |fail=>rw[hqq]at C;cases C
       |ret _ _=>rw[hqq]at C;cases C
       |rd k' f=>
        rw[hqq]at C hk;simp[Q.tr]at C hk;split at C
        ·rename_i k2 htr;simp at htr;rw[htr.2]at hk;have:k=k':=by simpa using hk
         subst this;rw[hd]at C;simp at C;exact⟨f,rfl,C.1,C.2⟩
        ·cases C
     have:=h.heap hx (k:=k) (λo=>eW wr=ö∧∃f,q = .rd k f∧B9 f o out=ü) (λj y o hj hD hop hy U=>?_) (λj y o hj hjl hD hop hy U=>?_) l.length (ε _)
     ·rw[show min l.length i=i by omega]at this;exact this
     ·obtain⟨oj,ij,xj,b1,b2,b3,b4⟩:=h.at_ j Ω;obtain⟨u,v,a,c,o1,o2,o3,o4,o5,r⟩:=hop;rw[b3]at hy;cases hy;rw[b2]at o4;cases o4;rw[p2]at o5;cases o5;cases oj with
      |op fo' al' =>obtain⟨out',wr',_,_,rfl,rfl⟩:=b4;rw[wk U]at r;simp[dN,BH]at r;rw[tI.2 hk]at r;cases r.1.1
      |call args dst g=>
       rcases b4 with⟨_,t,vs,out',lay,n1,n2,_,_,hno,rfl,rfl⟩|⟨_,rfl,rfl⟩
       ·have J:PM.get ö lay k=ä o:=U;cases R:eW wr with
        |none =>rw[R]at r;simp[dN]at r;obtain⟨f,f1,f2,f3⟩:=still J r;exact⟨rfl,f,f1,f3⟩
        |some k'=>
         rw[R]at r;cases hfr:oJ T (rI l n i) wr with
         |false=>rw[hfr]at r;simp only[dN]at r;cases r
         |true =>rw[hfr]at r;simp only[dN]at r;rw[kT r k hk]at J;cases J
       ·cases U
      |nxt _ _=>exact b4.elim
      |bad=>exact b4.elim
     ·obtain⟨oj,ij,xj,b1,b2,b3,b4⟩:=h.at_ j hjl;obtain⟨u,v,a,c,o1,o2,o3,o4,o5,r⟩:=hop;rw[b3]at hy;injection hy with hy;subst hy;rw[p2]at o4;injection o4 with o4;subst o4;rw[b2]at o5;injection o5 with o5;subst o5;cases oj with
      |op fo' al' =>obtain⟨out',wr',_,_,rfl,rfl⟩:=b4;rw[wk U]at r;simp only[dN,BH,θ,akm]at r;rw[tI.2 hk]at r;cases r.1.2
      |call args dst g=>
       rcases b4 with⟨_,t,vs,out',lay,n1,n2,_,_,hno,rfl,rfl⟩|⟨_,rfl,rfl⟩
       ·have J:PM.get ö lay k=ä o:=U;cases R:eW wr with
        |none =>rw[R]at r;simp only[dN]at r;obtain⟨f,f1,f2,f3⟩:=still J r;exact⟨rfl,f,f1,f2⟩
        |some k' =>rw[R]at r;simp only[dN]at r;cases r
       ·cases U
      |nxt _ _=>exact b4.elim
      |bad=>exact b4.elim
   by_cases hall:∀k∈q.tr (HP.ov b (ez T (stT ds db s1 i).d (rI l n i))).get,H k=(HP.ov b (ez T (stT ds db s1 i).d (rI l n i))).get k
   ·rw[(Q.run_congr hall).1];exact P
   ·have ⟨k,hk,hne⟩:∃k,k∈q.tr (HP.ov b (ez T (stT ds db s1 i).d (rI l n i))).get∧¬H k=(HP.ov b (ez T (stT ds db s1 i).d (rI l n i))).get k:=by
     apply akH;intro hn;refine hall λk hk=>akH λhne=>hn ⟨k,hk,hne⟩
    obtain e|⟨R,f,hqf,C⟩:=hone k hk
    ·exact(hne e).elim
    ·have hwr:wr=none:=by
      cases wr with
      |none=>rfl
      |some p=>cases R
     rw[hwr,hqf];simp only[Q.run];rw[Z6 C];rfl
def aiM (l:List OP)(ds:List Dl)(n:Pos)(D:Nat→Bool)(i:Nat)(k:Pos):Prop:=∃j o x,i<j∧j<l.length∧D j=ü∧l[j]? = ä o∧alO o=ü∧ds[j]? = ä x∧k=rI l n j∧x.wrote k≠ö
open Classical in
def Dr.hid (h:Dr ck b rs l infs ds s1 n bef)(hx:Nx l bef D i){lay:DM}{hp:HP}(T:infs[i]? = ä (.call hp lay))(k:Pos):(if aiM l ds n D i k then EO.cz else(HP.ov b (stT ds D s1 l.length).d).get k)=(HP.ov b (stT ds db s1 i).d).get k:=by
 have hlt:=hx.lt;split
 next hm=>obtain⟨j,o,x,h1,h2,h3,h4,h5,h6,rfl,h8⟩:=hm;exact((h.kept h4 h5 h6 i Ω).2 (.inl Ω)).symm
 next hm=>
  have wk:∀{P:Option Pos} {out:TV} {wr:Option (Pos×EO)} {o:EO},(Dl.op P out wr).wrote k=ä o→eW wr=ä k:=by
   intro P out wr o C;cases wr with
   |none=>cases C
   |some p=>
    simp only[Dl.wrote]at C;split at C
    next e=>simp[eW,e]
    ·cases C
  have:=h.heap hx (k:=k) (λ_=>False) (λj y o hj hD hop hy C=>?_) (λj y o hj hjl hD hop hy C=>?_) l.length (ε _)
  ·rw[show min l.length i=i by omega]at this;obtain h1|h1:=this
   ·exact h1
   ·exact h1.elim
  ·obtain⟨oj,ij,xj,b1,b2,b3,R⟩:=h.at_ j Ω;obtain⟨u,v,a,c,o1,o2,o3,o4,o5,f⟩:=hop;rw[b3]at hy;cases hy;rw[b2]at o4;cases o4;rw[T]at o5;cases o5;cases oj with
   |op fo' al' =>obtain⟨r,U,_,_,rfl,rfl⟩:=R;rw[wk C]at f;simp only[dN]at f;cases f
   |call args P g=>
    rcases R with⟨_,t,vs,r,lay,n1,n2,_,_,hno,rfl,rfl⟩|⟨_,rfl,rfl⟩
    ·simp only[dN]at f;cases f
    ·cases C
   |nxt _ _=>exact R.elim
   |bad=>exact R.elim
  ·obtain⟨oj,ij,xj,b1,b2,b3,R⟩:=h.at_ j hjl;obtain⟨u,v,a,c,o1,o2,o3,o4,o5,f⟩:=hop;have hy':=hy;rw[b3]at hy;cases hy;rw[T]at o4;cases o4;rw[b2]at o5;cases o5;cases oj with
   |op fo' al'=>
    obtain⟨r,U,_,_,rfl,rfl⟩:=R;have hk:=wk C;rw[hk]at f;cases J:oJ al' (rI l n j) U with
    |false=>rw[J]at f;simp only[dN]at f;cases f
    |true=>
     cases U with
     |none=>cases hk
     |some p =>simp only[eW,ι]at hk;simp only[oJ,θ]at J;have e:=Pos.beq_iff.1 J.2;rw[hk]at e;exact hm ⟨j,_,_,hj,hjl,hD,b1,J.1,b3,e,by rw[C];exact λe=>by cases e⟩
   |call args P g=>
    rcases R with⟨_,t,vs,r,lay,n1,n2,_,_,hno,rfl,rfl⟩|⟨_,rfl,rfl⟩
    ·simp only[dN]at f;cases f
    ·cases C
   |nxt _ _=>exact R.elim
   |bad=>exact R.elim
end
section
variable {B:Nat}{W:W0}{φ ψ:Gx}{h h':Pos→EO}{w w':æ}{r:Pos}
open Classical in
def Pq (f:Inv B W φ h w)(F:Pos→Prop):Inv B ⟨w,φ⟩ φ (λk=>if F k then .cz else h k) w :=
 ⟨Below.refl _ _,Kp.refl _,Gx.le.refl _,λ_ _=>⟨λ_=>rfl,rfl,rfl,λ_ _ _=>rfl⟩,f.size,λk=>by
  by_cases j:F k
  ·simp[Θ j];exact λg l p=>f.kd p
  ·simp[ω j];exact f.obj k,f.sep⟩
open Classical in
def X4 (r:Inv B W φ h w)(F:Pos→Prop)(p:cr B φ (λk=>if F k then .cz else h k) w ψ h' w')(C:∀k,F k→h' k = .cz):cr B φ h w ψ (λk=>if F k then h k else h' k) w':=by
 have J:=p.2.1 _ (Pq r F);refine uU p.1 ⟨J.below,J.kp,J.le,λk j=>?_,J.size,λk=>?_,J.sep⟩ λk j=>?_
 ·by_cases f:F k
  ·exact J.cz k (by rw[C k f];rfl)
  ·simp[ω f]at j;exact J.cz k j
 ·by_cases f:F k
  ·simp[Θ f];obtain⟨P,a2,U,T⟩:=J.cz k (by rw[C k f];rfl);exact(r.obj k).keep p.1 P a2 U λg l R=>T g l (by rw[←R];exact P g)
  ·simp[ω f];exact J.obj k
 ·by_cases f:F k
  ·simpa only[Θ f]using j
  ·simp[ω f]at j;have:=p.2.2 k j;simpa only[ω f]using this
def VL (φ:Gx)(r:Pos):Prop:=(∀g,φ.loc r g=ö)∧φ.val r=ö∧φ.mu r=ö
def N5 (j:h r = .cz)(l:VL φ r):cr B φ h w φ (upd h r .none) w:=by
 refine⟨Gx.le.refl _,λW f=>⟨f.below,f.kp,f.le,λk g=>?_,f.size,λk=>?_,f.sep⟩,λk g=>?_⟩
 ·by_cases e:r=k
  ·subst e;rw[aU]at g;cases g
  ·rw[bB _ _ e]at g;exact f.cz k g
 ·by_cases e:r=k
  ·subst e;rw[aU];exact l
  ·rw[bB _ _ e];exact f.obj k
 ·by_cases e:r=k
  ·subst e;rw[j];rfl
  ·rwa[bB _ _ e]at g
def ON {F:Pos→Prop}(R:∀k,F k→h k = .none)(h1:∀k,F k→h' k = .cz)(J:∀k,¬F k→h' k=h k):cr B φ h w φ h' w:=by
 refine⟨Gx.le.refl _,λW f=>⟨f.below,f.kp,f.le,λk r=>?_,f.size,λk=>?_,f.sep⟩,λk r=>?_⟩
 ·by_cases e:F k
  ·obtain⟨b1,b2,b3⟩:=f.free (R k e);have C:∀{P:Type} {x y:Option P},y=ö→(∀v,x=ä v→y=ä v)→y=x:=λ{P x y} T U=>by
    cases x with
    |none=>exact T
    |some v=>exact U v rfl
   exact⟨λg=>C (b1 g) λv j=>f.le.loc k g v j,C b2 λv j=>f.le.val k v j,C b3 λv j=>f.le.mu k v j,λg l p=>by rw[b1 g]at p;cases p⟩
  ·rw[J k e]at r;exact f.cz k r
 ·by_cases e:F k
  ·rw[h1 k e];exact λg l p=>f.kd p
  ·rw[J k e];exact f.obj k
 ·by_cases e:F k
  ·rw[R k e];rfl
  ·rwa[J k e]at r
end
variable [SymVal]
def Rl.congr {B p l:Nat}{U:Gx}{r:Pos→EO}{j:æ}{e C:Env}{h g:Pos→EO}{a:Act}{w:æ}(f:Rl B p U r j l e h a w)(T:∀t,C.get .unk t=e.get .unk t)(R:∀k,g k=h k):Rl B p U r j l C g a w:=by have:g=h:=funext R;subst this;obtain⟨J,h1,h2⟩:=f.ex;exact⟨⟨J,h1,λt P=>by rw[T];exact h2 t P⟩,f.sz,f.df⟩
def Ij {f:List Dl}{D g:Nat→Bool}{s:St}:∀{m:Nat},(∀j,j<m→D j=g j)→stT f D s m=stT f g s m
 |0,_=>rfl
 |m+1,h=>by simp[stT];rw[h m Ω,Ij (m:=m) λj l=>h j Ω]
def NC {f:List Dl}{D:Nat→Bool}{s:St}:∀{m:Nat},(∀j,j<m→D j=ß)→stT f D s m=s
 |0,_=>rfl
 |m+1,h=>by simp[stT];rw[h m Ω];exact NC λj g=>h j Ω
def agi {B:Nat}{C U:Gx}{H:Pos→EO}{w w':æ}{r:Pos}{l:Bool}(P:l=ü→H r = .cz)(hf:l=ü→VL C r){wr:Option (Pos×EO)}(f:cr B C (if l=ü then upd H r .none else H) w U (sL (if l=ü then upd H r .none else H) wr) w'):cr B C H w U (sL H wr) w':=by
 cases l with
 |false=>exact f
 |true=>
  simp at f;refine((N5 (P rfl) (hf rfl)).trans f).trans ?_;by_cases hk:∃o,wr=ä (r,o)
  ·obtain⟨o,rfl⟩:=hk;have:sL (upd H r .none) (ä (r,o))=sL H (ä (r,o)):=by
    funext k;simp[sL,upd];by_cases e:r=k <;> simp[e]
   rw[this];exact cr.refl
  ·have j:sL (upd H r .none) wr r = .none∧sL H wr r = .cz:=by
    cases wr with
    |none=>exact⟨aU _ _ _,P rfl⟩
    |some p =>obtain⟨J,o⟩:=p;have g:J≠r:=λe=>hk ⟨o,by rw[e]⟩;simp[sL];rw[bB _ _ g,bB _ _ g,aU];exact⟨rfl,P rfl⟩
   refine ON (F:=λk=>k=r) (λk e=>by subst e;exact j.1) (λk e=>by subst e;exact j.2) (λk e=>?_);cases wr with
   |none=>exact(bB _ _ λT=>e T.symm).symm
   |some p=>
    obtain⟨J,o⟩:=p;simp[sL];by_cases R:J=k
    ·subst R;rw[aU,aU]
    ·rw[bB _ _ R,bB _ _ R,bB _ _ λT=>e T.symm]
def G7 {P:å}{j:Glt}{g:Nat}{f:List è}:∀(l:List è) (i:Nat),(mI P j g f l)[i]? = (l[i]?).map (cOp P j g f)
 |[],i=>by simp[mI]
 |o::l,0=>by simp[mI]
 |o::l,i+1=>by simpa[mI]using G7 l i
structure OrdX (P:å)(Gl:Glt)(nt:Nat)(ops:Array è)(ord:List Nat)(l:List OP):Prop where
 llen:l.length=ops.size
 lget:∀p o,p<ops.size→ops[ord.getD p 0]? = ä o→l[p]? = ä (cOp P Gl nt ops.toList o)
 inj:∀p q,p<ops.size→q<ops.size→ord.getD p 0=ord.getD q 0→p=q
 sur:∀i,i<ops.size→∃p,p<ops.size∧ord.getD p 0=i
 edges:bU 0 ops.toList=ü
 olt:∀p,p<ops.size→ord.getD p 0<ops.size
def YJ (g:Array è)(f:List Nat)(p q:Nat):Prop:=((aK g.toList []).getD (f.getD q 0) 0).testBit (f.getD p 0)=ü
def Dp (f:List Nat)(C:Array Bool)(p:Nat):Bool:=C.getD (f.getD p 0) ß
section
variable {P:å}{Gl:Glt}{B lo:Nat}{W:W0}{U:Gx}{h0:Pos→EO}{w0:æ}{nt:Nat}{ops:Array è}{Γ:List Lq}{ck:Callk}
variable {b:HP}{rs:List Pos}{l:List OP}{infs:List Inf}{ds:List Dl}{s1:St}{n1:Pos}{ord:List Nat}
variable{ro:Option Nat}{n id:Nat}
def GO (hnd:∀o∈ops.toList,fw ro o)(hI0:Inv B W U h0 w0)(hG:sj Gl P B W)(ckok:CkOk P Gl B ck Γ)(hcx:Ctx Γ U w0)(hfree:∀r∈rs,VL U r)(ox:OrdX P Gl nt ops ord l)(h:Dr ck b rs l infs ds s1 n1 (YJ ops ord)):∀(J:Nat) (C:Array Bool) (a:Act) (w:æ),C.size=ops.size→DC ops (λj=>C.getD j ß) →
   ((List.range ops.size).filter λj=>!C.getD j ß).length≤J →
   Rl B lo U h0 w0 nt (stT ds (Dp ord C) s1 l.length).e (HP.ov b (stT ds (Dp ord C) s1 l.length).d).get a w→wpAnyIn (RF ro) n P .any ops (jY B lo U h0 w0 nt (stT ds db s1 l.length).e (HP.ov b (stT ds db s1 l.length).d).get) J C a w:=by
 have hll:=ox.llen;have fin:∀(C:Array Bool) (a:Act) (w:æ),C.size=ops.size→Region.ready .any ops C=[]→Rl B lo U h0 w0 nt (stT ds (Dp ord C) s1 l.length).e (HP.ov b (stT ds (Dp ord C) s1 l.length).d).get a w→jY B lo U h0 w0 nt (stT ds db s1 l.length).e (HP.ov b (stT ds db s1 l.length).d).get .normal a w:=by intro C a w hs hr f;have hall:=EY ox.edges hs hr;have e:stT ds (Dp ord C) s1 l.length=stT ds db s1 l.length:=Ij λj hj=>hall _ (ox.olt j Ω);rw[e]at f;exact f
 intro J;induction J with
 |zero=>
  intro C a w hs hdc hcount f;have hr:Region.ready .any ops C=[]:=by
   rw[akp];intro i hi;obtain⟨hlt,hDi,_⟩:=dx hs hi;have:i∈(List.range ops.size).filter λj=>!C.getD j false:=by rw[C_];exact⟨N_.2 hlt,by simp[hDi]⟩
   rw[Q' (Nat.le_zero.1 hcount)]at this;cases this
  exact⟨hr,fin C a w hs hr f⟩
 |succ J ih=>
  intro C a w hs hdc hcount f;refine⟨λhr=>fin C a w hs hr f,λi hi=>?_⟩;obtain⟨hlt,hDi,o',ho',_⟩:=dx hs hi;obtain⟨hpre,hdc'⟩:=L6 ox.edges hs hdc hi;have hD':∀j,(C.setIfInBounds i ü).getD j ß=(C.getD j ß||decide (j=i)):=λj=>t8 Ω;obtain⟨p,hp,hpi⟩:=ox.sur i hlt;have hlp:=ox.lget p o' hp (by rw[hpi];exact ho');have hx:Nx l (YJ ops ord) (Dp ord C) p:=⟨Ω,by unfold Dp;rw[hpi];exact hDi,λq _ hq p' _ hb=>hdc _ hq _ hb,λp' _ hb=>hpre _ (by unfold YJ at hb;rw[hpi]at hb;exact hb)⟩;have hDp:∀j,j<l.length→Dp ord (C.setIfInBounds i ü) j=(Dp ord C j||decide (j=p)):=λj hj=>by
   unfold Dp;rw[hD'];congr 1;by_cases e:j=p
   ·subst e;rw[hpi];simp
   ·have:¬ord.getD j 0=i:=λe'=>e (ox.inj j p Ω hp (by rw[e',hpi]));rw[I? this,I? e]
  have hlen:((List.range ops.size).filter λj=>!(C.setIfInBounds i ü).getD j ß).length≤J:=by
   have:((List.range ops.size).filter λj=>!(C.setIfInBounds i ü).getD j ß).length<((List.range ops.size).filter λj=>!C.getD j ß).length:=by
    have e:((List.range ops.size).filter λj=>!(C.setIfInBounds i ü).getD j ß)=(((List.range ops.size).filter λj=>!C.getD j ß)).filter (λj=>decide (j≠i)):=by rw[F?];apply A?;intro j _;rw[hD'];by_cases e:j=i <;> simp[e]
    rw[e];refine ajX.2 ⟨i, ?_,Ψ⟩;rw[C_];exact⟨N_.2 hlt,by simp[hDi]⟩
   omega
  have hno:fw ro o':=hnd o' (z_.2 (q? ho'));obtain⟨oc,inf,x,q1,q2,q3,q4⟩:=h.at_ p Ω;rw[hlp]at q1;injection q1 with q1;obtain⟨hn1,hn2⟩:=h.next hx hDp q3 l.length (ε _)
  have hgo:∀(a':Act) (w':æ) (H':Pos→EO),(∀k,H' k=orE (x.wrote k) ((HP.ov b (stT ds (Dp ord C) s1 l.length).d).get k))→Rl B lo U h0 w0 nt (aV (stT ds (Dp ord C) s1 l.length).e x.dst x.out) H' a' w'→wpAnyIn (RF ro) n P .any ops (jY B lo U h0 w0 nt (stT ds db s1 l.length).e (HP.ov b (stT ds db s1 l.length).d).get) J (C.setIfInBounds i ü) a' w':=λa' w' H' hH' hr'=>by
   refine ih (C.setIfInBounds i ü) a' w' (by simpa using hs) hdc' hlen (hr'.congr (λt=>?_) λk=>?_)
   ·rw[hn1 t,ω Ω]
   ·rw[hn2 k,ω Ω,hH' k]
  obtain⟨φ,R,hE⟩:=f.ex;have hI:=R.2.1 _ hI0;cases oc with
  |op fo al=>
   have hlp':l[p]? = ä (.op fo al):=hlp.trans (by rw[q1]);obtain⟨out,wr,hds,hst⟩:=h.j7 hx hlp';rw[q3]at hds;injection hds with hds;obtain⟨dst,xs,hdst,_,_,_,hfd,_⟩:=TC q1;have hres:al=ü→(HP.ov b (stT ds (Dp ord C) s1 l.length).d).get (rI l n1 p) = .cz:=λha=>h.res_at hx hlp' ha;have hfr:al=ü→VL φ (rI l n1 p):=λha=>by have hm:=hfree _ (h.al p _ hlp' ha);obtain⟨a1,a2,a3,_⟩:=(R.2.1 _ hI0.self).cz _ (by rw[hres ha];rfl);exact⟨λg=>(a1 g).trans (hm.1 g),a2.trans hm.2.1,a3.trans hm.2.2⟩
   have hH:cr B φ (HP.ov b (stT ds (Dp ord C) s1 l.length).d).get w φ (if al=ü then upd (HP.ov b (stT ds (Dp ord C) s1 l.length).d).get (rI l n1 p) .none else(HP.ov b (stT ds (Dp ord C) s1 l.length).d).get) w:=by
    cases al with
    |false=>exact cr.refl
    |true=>exact N5 (hres rfl) (hfr rfl)
   refine OB ho' q1 (hH.2.1 _ hI) hG hE hno (λha=>by rw[Θ ha,aU]) hst λψ v w' hst' hv=>?_;refine hgo _ _ _ (λk=>?_) ((by rw[hds];exact f.step hI0 R hE (agi hres hfr hst') (by rw[hfd];exact hdst) hv));rw[hds];cases wr with
   |none=>rfl
   |some pr =>obtain⟨k',o2⟩:=pr;simp[sL,upd,Dl.wrote];by_cases e:k'=k <;> simp[e,orE]
  |call args dst g=>
   obtain⟨_,_,_,_,_,hdst,_⟩:=An q1;have henv:∀t∈eo (.call args dst g),(stT ds db s1 p).e.get .unk t=(stT ds (Dp ord C) s1 l.length).e.get .unk t:=λt ht=>by rw[h.env hx (hlp.trans (by rw[q1])) ht l.length (ε _),show min l.length p=p by omega]
   have e1:gd (stT ds db s1 p).e g=gd (stT ds (Dp ord C) s1 l.length).e g:=Pz λt ht=>henv t (by simp[eo,ht]);have e2:aT (stT ds db s1 p).e args=aT (stT ds (Dp ord C) s1 l.length).e args:=nl λt ht=>henv t (by simp[eo,ht]);rcases q4 with⟨hg,t,vs,out,lay,m1,m2,hen,hcall,hnd',hinf,hxx⟩|⟨hg,hinf,hxx⟩
   ·rw[e1]at hg;rw[e2]at hen;rw[hinf]at q2;have T:=funext (h.hid hx q2);have hIh:=Pq hI (aiM l ds n1 (Dp ord C) p);rw[T]at hIh;refine G6 ho' q1 hg hIh hE hno hen (λus hus=>ckok.call _ _ _ _ _ _ _ _ hcall ⟨w,φ⟩ φ w (hG.more hI) hIh us hus (hcx.more hI0 R)) λψ v w' hst' hv=>?_;have hst'':cr B φ (HP.ov b (stT ds db s1 p).d).get w ψ (HP.ov (.ov b (stT ds db s1 p).d) lay).get w':=hst';rw[←T]at hst'';have hmr:∀k,aiM l ds n1 (Dp ord C) p k→PM.get ö lay k=none:=λk hk=>by
     obtain⟨j,o,y,c1,c2,c3,c4,c5,c6,rfl,c8⟩:=hk;exact kT hnd' _ (h.al j o c4 c5)
    have hst3:=X4 hI _ hst'' λk hk=>by simp[HP.get,hmr k hk];have:=congrFun T k;simp[Θ hk]at this;exact this.symm
    refine hgo _ _ _ (λk=>?_) ((by rw[hxx];exact f.step hI0 R hE hst3 hdst hv));rw[hxx];simp[Dl.wrote];split
    next hk=>rw[hmr k hk];rfl
    next hk=>have:=congrFun T k;simp[ω hk]at this;rw[this];simp[HP.get];cases PM.get ö lay k <;> rfl
   ·rw[e1]at hg;refine Ey ho' q1 hg hE ?_;refine hgo _ _ _ (λk=>?_) ((by rw[hxx];exact f.step hI0 R hE cr.refl hdst sM));rw[hxx];rfl
  |nxt _ _=>exact q4.elim
  |bad=>exact q4.elim
def FF:∀{l:List Nat},Lp l=ü→∀{p q:Nat},p<l.length→q<l.length→l.getD p 0=l.getD q 0→p=q
 |[],_,p,q,hp,_,_=>by simp at hp
 |a::l,h,p,q,hp,hq,e=>by
  simp[Lp]at h;have mem:∀i,i<l.length→l.getD i 0∈l:=λi f=>by rw[O',ζ f];exact j_ f
  cases p with
  |zero=>
   cases q with
   |zero=>rfl
   |succ q =>exfalso;simp at e;exact h.1 (by rw[e];exact mem q (by simpa using hq))
  |succ p=>
   cases q with
   |zero =>exfalso;simp at e;exact h.1 (by rw[←e];exact mem p (by simpa using hp))
   |succ q =>simp at e;rw[FF h.2 (by simpa using hp) (by simpa using hq) e]
def Uz {f:Type}:∀(l:List f) (i:Nat),nth l i=l[i]?
 |[],i=>by cases i <;> rfl
 |a::l,0=>rfl
 |a::l,i+1=>by simpa[nth]using Uz l i
def Ci {infs:List Inf}:∀{ps:List (Nat×Nat)},dH infs ps=ü→∀p∈ps,fy infs p=ü
 |[],_,p,hp=>by cases hp
 |q::ps,h,p,hp=>by
  simp only[dH]at h;cases f:fy infs q with
  |false=>rw[f]at h;cases h
  |true=>
   rw[f]at h;obtain rfl|hp:=c_.1 hp
   ·exact f
   ·exact Ci h p hp
def Qe (hm:P.follows .mixedOrders=ü)(hnd:∀o∈ops.toList,fw ro o)(hI0:Inv B W U h0 w0)(hG:sj Gl P B W)(ckok:CkOk P Gl B ck Γ)(hcx:Ctx Γ U w0){R:List OP}{ps:List (Nat×Nat)}
  (f:K8 ops.toList (mI P Gl nt ops.toList ops.toList) (aK ops.toList []) ord=ä ps) (hcs:R=ord.map λi=>(mI P Gl nt ops.toList ops.toList).getD i .bad) {e e':Env} {d J d':DM} {n0 n2 n':Pos} (hrv:sq b R d n0=ä (rs,J,n2)) (hrt:mS ck b rs R e J n0 n2 = .ok infs e' d' n') (hpo:dH infs ps=ü) {a:Act} {w:æ} (hr:Rl B lo U h0 w0 nt e (HP.ov b d).get a w) :
  (Code.region id ops ü).wpIn (RF ro) n P (jY B lo U h0 w0 nt e' (HP.ov b d').get) a w:=by
 unfold K8 at f;simp only at f;split at f
 next hchk=>
  simp only[θ]at hchk;obtain⟨⟨⟨⟨⟨c1,c2⟩,c3⟩,c4⟩,c5⟩,c6⟩:=hchk;simp at f;have c2:=ν c2;simp only[ο]at c2 c4 c5;have T:∀p,p<ops.size→ord.getD p 0<ops.size:=λp hp=>by
   rw[P']at c5;have:=c5 (ord.getD p 0) (by
    rw[O',ζ Ω];exact j_ Ω)
   exact t_ this
  have csg:∀p o,p<ops.size→ops[ord.getD p 0]? = ä o→R[p]? = ä (cOp P Gl nt ops.toList o):=λp o hp ho=>by
   rw[hcs,F_,ζ Ω];simp only[akv,ι];have e1:ord[p]'Ω=ord.getD p 0:=by rw[O',ζ Ω];rfl
   rw[e1,O',G7,p_,ho];rfl
  have ox:OrdX P Gl nt ops ord R:=⟨by rw[hcs];simp[c2],csg,λp q hp hq=>FF c3 Ω Ω,λi hi=>by
   rw[P']at c4;have:=c4 i (N_.2 hi);simp at this;obtain⟨p,hp,e⟩:=ak5 this;exact⟨p,Ω,by rw[O',ζ hp];exact e⟩,c1,T⟩
  have hll:=ox.llen;obtain⟨r1,r2,r3⟩:=xA _ _ _ _ _ _ hrv;obtain⟨ds,t1,t2,t3⟩:=Is _ _ _ _ _ _ _ _ _ hrt;have hdr:Dr ck b rs R infs ds ⟨e,J⟩ n0 (YJ ops ord):=by
   refine⟨t1,t3,λp q hpq hq=>?_,λk hk=>(r1 k hk).2,r3⟩;by_cases hb:YJ ops ord p q
   ·exact .inl hb
   ·refine .inr ?_;have C:(p,q)∈(List.range ord.length).flatMap λq=>((List.range q).filter λp=>aay (aK ops.toList []) ord p q).map λp=>(p,q):=by
     rw[List.mem_flatMap];refine⟨q,N_.2 Ω,a_.2 ⟨p, ?_,rfl⟩⟩;rw[C_];refine⟨N_.2 hpq, ?_⟩;unfold aay;unfold YJ at hb;simpa using hb
    rw[P']at c6;have h1:=c6 _ C;have h2:=Ci hpo (p,q) (by rw[←f];exact C);simp[fy,Uz]at h2;have hop:ops[ord.getD p 0]? = ä (ops[ord.getD p 0]'(T p Ω)):=by simp
    have hoq:ops[ord.getD q 0]? = ä (ops[ord.getD q 0]'(T q Ω)):=by simp
    simp only[adc,G7,p_,hop,hoq,akv,θ]at h1;split at h2
    ·rename_i ia hia;split at h2
     next ic hic=>exact⟨_,_,_,_,csg p _ Ω hop,csg q _ Ω hoq,h1.1,hia,hic,h2⟩
     ·cases h2
    ·cases h2
  obtain⟨φ,hs,hE⟩:=hr.ex;have hI:=hs.2.1 _ hI0;have g:cr B φ (HP.ov b d).get w φ (HP.ov b J).get w:=ON (F:=λk=>k∈rs) (λk hk=>(r1 k hk).1) (λk hk=>(r1 k hk).2) r2;have hR:Rl B lo φ (HP.ov b d).get w nt e (HP.ov b J).get a w:=⟨⟨φ,g,hE⟩,hr.sz,hr.df⟩;have l:=GO (ro:=ro) (n:=n) hnd hI hG ckok (hcx.more hI0 hs) (λr hrm=>hI.free (r1 r hrm).1) ox hdr ops.size (Array.replicate ops.size ß) a { w with drawn:=w.drawn+1 } Ψ (λj hj=>by
    have hj:(Array.replicate ops.size ß).getD j ß=true:=hj;rw[kS]at hj;cases hj) (ξ (H_ _ _) Ψ) (by
    rw[show stT ds (Dp ord (Array.replicate ops.size ß)) ⟨e,J⟩ R.length=⟨e,J⟩ from NC λj hj=>kS _ _];refine⟨⟨φ, ?_,hE⟩,hr.sz,hr.df⟩;exact g.trans ⟨Gx.le.refl _,λW h=>h.drewW,λk hk=>hk⟩)
  rw[show stT ds db ⟨e,J⟩ R.length=⟨e',d'⟩ from t2]at l;refine wpIn_mono (wpIn_region_any hm l) λex a' w' hn=>?_;cases ex with
  |normal =>have hn:Rl B lo φ (HP.ov b d).get w nt e' (HP.ov b d').get a' w':=hn;obtain⟨ψ,g1,g2⟩:=hn.ex;exact⟨⟨ψ,hs.trans g1,g2⟩,hn.sz,hn.df⟩
  |_=>exact hn.elim
 ·cases f
def Ow (j:∀o∈ops.toList,fw ro o)(p:Inv B W U h0 w0)(hG:sj Gl P B W)(g:CkOk P Gl B ck Γ)(l:Ctx Γ U w0){e r:Env}{d C:DM}{J R:Pos}(f:aQ ck b (mI P Gl nt ops.toList ops.toList) e d J = .ok r C R){a:Act}{w:æ}(T:Rl B lo U h0 w0 nt e (HP.ov b d).get a w) :
  (Code.region id ops ß).wpIn (RF ro) n P (jY B lo U h0 w0 nt r (HP.ov b C).get) a w:=by
 refine wpIn_region ?_;have:=bt (ro:=ro) (n:=n) (Q:=jY B lo U h0 w0 nt r (HP.ov b C).get) p hG g l j (λ_ _ h=>h) ops.toList 0 e d J a w Ψ f T;rw[ajY];simpa using this
end
variable [SymVal]
open Go.ChangeMaps (setBlock)
section
variable {L:Pos→Nat→Option Loc}{V:Pos→Option ø}{M M':Pos→Option Nat}
def L5 (c:CV):den ⟨L,V,M⟩ c=den ⟨L,V,M'⟩ c:=by cases c <;> rfl
def Vk:∀l:List CV,dens ⟨L,V,M⟩ l=dens ⟨L,V,M'⟩ l
 |[]=>rfl
 |c::l=>by simp[dens];rw[L5 (M:=M) (M':=M') c,Vk l]
def vZ:∀p:PV,denP ⟨L,V,M⟩ p=denP ⟨L,V,M'⟩ p
 |.one c=>L5 c
 |.agg l=>by simp[denP];rw[Vk (M:=M) (M':=M') l]
def Ad:∀l:List PV,cA ⟨L,V,M⟩ l=cA ⟨L,V,M'⟩ l
 |[]=>rfl
 |c::l=>by simp[cA];rw[vZ (M:=M) (M':=M') c,Ad l]
def ajn {t:TV}{v:ø}(h:RT ⟨L,V,M⟩ t v):RT ⟨L,V,M'⟩ t v:=by
 cases t with
 |unk=>trivial
 |pv p=>exact(vZ p).symm.trans h
 |tup l=>obtain⟨f,j,g⟩:=h;exact⟨f,(Ad l).symm.trans j,g⟩
def agW {e:Env}{f:Array ø}(h:ER ⟨L,V,M⟩ e f):ER ⟨L,V,M'⟩ e f:=λt g=>ajn (h t g)
end
def iB.mu {φ:Gx}{w:æ}{B:Nat}{k:Pos}{o:EO}(h:iB φ w B k o){μ:Pos→Option Nat}(J:μ k=φ.mu k):iB ⟨φ.loc,φ.val,μ⟩ w B k o:=by
 cases o with
 |none=>exact⟨h.1,h.2.1,J.trans h.2.2⟩
 |row e s el len gen fz =>obtain⟨h0,r,hmm,h2,h3⟩:=h;refine⟨h0,r,hmm,h2,λg hg=>?_⟩;obtain⟨l,q1,⟨r1,r2,e7,fr,r3,r4,r5,R⟩,C⟩:=h3 g hg;exact⟨l,q1,⟨r1,r2,e7,fr,r3,r4,r5,λi hi J=>⟨(R i hi J).1,(R i hi J).2.1,λj c hc=>let ⟨v,p1,U⟩:=(R i hi J).2.2 j c hc;⟨v,p1,(L5 c).trans U⟩⟩⟩,C⟩
 |map es clock =>obtain⟨r,l,vs,q1,q2,C,P⟩:=h;exact⟨r,l,vs,q1,q2,C,P.1,λi e he=>let ⟨v,p1,U,p3,p4⟩:=P.2 i e he;⟨v,p1,(vZ _).trans U,(vZ _).trans p3,p4⟩⟩
 |mit m T seen f=>exact h
 |mitU m T bs st =>obtain⟨r,l,l',seen,f,n,q1,q2,C,P,q5,q6,q7⟩:=h;exact⟨r,l,l',seen,f,n,q1,q2,C,P,q5,J.trans q6,q7⟩
 |sit s p=>exact h
 |clo fn first caps =>obtain⟨r,a,b,q1,q2,C⟩:=h;exact⟨r,a,b,(Ad _).trans q1,(Ad _).trans q2,C⟩
 |ifc t v =>obtain⟨r,u,q1,q2⟩:=h;exact⟨r,u,(vZ _).trans q1,q2⟩
 |emp=>exact h
 |yld=>exact h
 |dead=>exact h
 |cz=>exact h
section
variable {φ ψ:Gx}
variable{v:ø}
def aii (j:∀k g l,φ.loc k g=ä l→ψ.loc k g=ä l)(f:∀k v,φ.val k=ä v→ψ.val k=ä v){c:CV}(h:den φ c=ä v):den ψ c=ä v :=
 dT (φ:=⟨φ.loc,φ.val,λ_=>ö⟩) ⟨j,f,λ_ _ h=>by cases h⟩ ((L5 c).trans h)
def afB (j:∀k g l,φ.loc k g=ä l→ψ.loc k g=ä l)(f:∀k v,φ.val k=ä v→ψ.val k=ä v){c:PV}(h:denP φ c=ä v):denP ψ c=ä v :=
 cO (φ:=⟨φ.loc,φ.val,λ_=>ö⟩) ⟨j,f,λ_ _ h=>by cases h⟩ ((vZ c).trans h)
def acg (p:∀k g l,φ.loc k g=ä l→ψ.loc k g=ä l)(j:∀k v,φ.val k=ä v→ψ.val k=ä v){c:CV}{f :ø}(h:den φ c=ä v)(r:den ψ c=ä f):v=f:=by have:=aii p j h;rw[r]at this;exact(Δ this).symm
def Bu (p:∀k g l,φ.loc k g=ä l→ψ.loc k g=ä l)(j:∀k v,φ.val k=ä v→ψ.val k=ä v){c:PV}{f :ø}(h:denP φ c=ä v)(r:denP ψ c=ä f):v=f:=by have:=afB p j h;rw[r]at this;exact(Δ this).symm
def iB.back (R:∀k g l,φ.loc k g=ä l→ψ.loc k g=ä l)(hv:∀k v,φ.val k=ä v→ψ.val k=ä v){w w':æ}{B:Nat}{k:Pos}{o:EO}(hm:∀n,φ.mu k=ä n→ψ.mu k=ä n)(h:iB φ w B k o)(h':iB ψ w' B k o):iB φ w' B k o:=by
 cases o with
 |none=>exact h
 |row e s el len gen fz =>obtain⟨h0,h1,hmm,h2,h3⟩:=h;obtain⟨_,_,_,_,h3'⟩:=h';refine⟨h0,h1,hmm,h2,λg hg=>?_⟩;obtain⟨l,q1,⟨r1,r2,e7,fr,r3,r4,r5,r6⟩,q3⟩:=h3 g hg;obtain⟨l',f,⟨_,_,arr',fr',r3',r4',r5',r6'⟩,_⟩:=h3' g hg;rw[R _ _ _ q1]at f;cases f;refine⟨l,q1,⟨r1,r2,arr',fr',r3',r4',r5',λi hi hmi=>⟨(r6 i hi hmi).1,(r6 i hi hmi).2.1,λj c hc=>?_⟩⟩,q3⟩;obtain⟨v,_,p2⟩:=(r6 i hi hmi).2.2 j c hc;obtain⟨v',p1',p2'⟩:=(r6' i hi hmi).2.2 j c hc;have:=acg R hv p2 p2';subst this;exact⟨v,p1',p2⟩
 |map es clock =>obtain⟨h1,l,vs,q1,q2,q3,q4⟩:=h;obtain⟨_,l',vs',f,_,J,C⟩:=h';rw[R _ _ _ q1]at f;cases f;refine⟨h1,l,vs',q1,q2,J,C.1,λi e he=>?_⟩;obtain⟨v,p1,p2,p3,p4⟩:=q4.2 i e he;obtain⟨v',p1',p2',p3',p4'⟩:=C.2 i e he;exact⟨v',p1',by rw[p2,Bu R hv p2 p2'],by rw[p3,Bu R hv p3 p3'],p4'⟩
 |mit m T seen U=>
  obtain⟨h1,l,q1,q2,q3⟩:=h;obtain⟨_,l',f,_,J⟩:=h';rw[R _ _ _ q1]at f;cases f;refine⟨h1,l,q1,q2, ?_⟩;cases m with
  |none=>exact J
  |some m =>obtain⟨l2,q4,q5⟩:=q3;obtain⟨l2',C,q5'⟩:=J;rw[R _ _ _ q4]at C;cases C;exact⟨l2,q4,q5'⟩
 |mitU m T bs st =>obtain⟨h1,l,l2,seen,U,n,q1,q2,q3,q4,q5,q6,q7⟩:=h;obtain⟨_,l',l2',seen',P,n',f,_,J,C,q5',q6',q7'⟩:=h';rw[R _ _ _ q1]at f;cases f;rw[R _ _ _ q3]at J;cases J;rw[hm _ q6]at q6';cases q6';exact⟨h1,l,l2,seen',P,n,q1,q2,q3,C,q5',q6,q7'⟩
 |sit s p =>obtain⟨h1,h2,l,q1,q2,q3⟩:=h;obtain⟨_,_,l',f,_,J⟩:=h';rw[R _ _ _ q1]at f;cases f;exact⟨h1,h2,l,q1,q2,J⟩
 |clo fn first caps=>exact h
 |ifc t v=>exact h
 |emp=>exact h
 |dead=>exact λg l q=>⟨(h g l q).1,(h' g l (R _ _ _ q)).2⟩
 |cz=>exact λg l q=>⟨(h g l q).1,(h' g l (R _ _ _ q)).2⟩
 |yld =>obtain⟨h1,l,q1,q2,q3,r,q4⟩:=h;obtain⟨_,l',f,_,_,r',C⟩:=h';rw[R _ _ _ q1]at f;cases f;exact⟨h1,l,q1,q2,q3,r',C⟩
end
def Gx.AB (f:Gx)(k:Pos)(n:Nat):Gx:=⟨f.loc,f.val,λq=>if q=k then ä n else f.mu q⟩
def GZ (bs:List Nat)(seen:Array Nat):Nat:=(bs.filter λb=>!seen.contains b).length
section
variable {P:å}{Gl:Glt}{B lo:Nat}{W:W0}{φ U ψ:Gx}{h h' h0:Pos→EO}{w w' w0:æ}{it m:Pos}{T sp nt:Nat}{bs:List Nat}
variable{seen:List Nat}{a:Act}{o:è}{x:Operand}{K:Act→æ→Prop}{Q:ë→Act→æ→Prop}
def toU {c:Nat}(f:Inv B W φ h w)(j:h it = .mit (ä m) T (seen++[c]) sp)(g:T≤sp):Inv B ⟨w,φ.AB it (GZ bs (seen++[c]).toArray+1)⟩ (φ.AB it (GZ bs (seen++[c]).toArray+1)) (upd h it (.mitU m T bs (ä (c,sp)))) w:=by
 refine⟨Below.refl _ _,Kp.refl _,Gx.le.refl _,λ_ _=>⟨λ_=>rfl,rfl,rfl,λ_ _ _=>rfl⟩,f.size,λk=>?_,f.sep⟩;by_cases e:it=k
 ·subst e;rw[aU];have:=f.obj it;rw[j]at this;obtain⟨R,l,q1,q2,J,C,r⟩:=this;refine⟨R,l,J,(seen++[c]).toArray,sp,_,q1,q2,C,r,g,Θ rfl,ε _,λp P=>?_⟩;cases P;exact⟨Ψ,rfl⟩
 ·rw[bB _ _ e];exact(f.obj k).mu (ω λU=>e U.symm)
def forget {n0:Nat}(P:∃l,φ.loc m 0=ä l)(R:∃l,φ.loc it 0=ä l)(h1it:∀g,0<g→φ.loc it g=ö)(J:Inv B ⟨w,φ.AB it n0⟩ ψ h' w')(j:(φ.AB it n0).le ψ)(U:∀k,k≠it→h' k=h k∨h k = .none)(r:∃p,h' it = .mitU m T bs (ä p)) :
  ∃f C,T≤C∧GZ bs f.toArray+1≤n0∧∀W,Inv B W φ h w→Inv B W φ (upd h it (.mit (ä m) T f C)) w':=by
 obtain⟨p,r⟩:=r;have ho:=J.obj it;rw[r]at ho;obtain⟨_,l,l',f,C,n',q1,q2,q3,q4,q5,q6,q7,_⟩:=ho;obtain⟨lm,P⟩:=P;obtain⟨li,R⟩:=R;have e1:li=l:=by have:=j.loc it 0 li R;rw[q1]at this;exact(Δ this).symm
 have e2:lm=l':=by have:=j.loc m 0 lm P;rw[q3]at this;exact(Δ this).symm
 have e3:n'=n0:=by have:=j.mu it n0 (Θ rfl);rw[q6]at this;exact Δ this
 subst e1;subst e2;subst e3;refine⟨f.toList,C,q5,by rw[aku];exact q7,λW hI=>⟨hI.below.trans J.below,hI.kp.trans J.kp,hI.le,λk hk=>?_,J.size,λk=>?_,hI.sep⟩⟩
 ·by_cases e:it=k
  ·subst e;rw[aU]at hk;cases hk
  ·rw[bB _ _ e]at hk;obtain⟨b1,b2,b3,b4⟩:=hI.cz k hk;rcases U k (λe'=>e e'.symm)with h2|h2
   ·obtain⟨a1,a2,a3,a4⟩:=J.cz k (by rw[h2];exact hk);exact⟨b1,b2,b3,λg l hl=>(a4 g l ((a1 g).trans hl)).trans (b4 g l hl)⟩
   ·rw[h2]at hk;cases hk
 ·by_cases e:it=k
  ·subst e;rw[aU];exact⟨h1it,li,R,q2,lm,P,by rw[aku];exact q4⟩
  ·rw[bB _ _ e];rcases U k (λe'=>e e'.symm)with h2|h2
   ·have hj:=J.obj k;rw[h2]at hj;exact iB.back (φ:=φ) (ψ:=ψ) (w:=w) (λk g l h=>j.loc k g l h) (λk v h=>j.val k v h) (λn hn=>j.mu k n ((ω λe'=>e e'.symm).trans hn)) (hI.obj k) hj
   ·have:=hI.free h2;rw[h2];exact this
def Uy (g:o.op = .next x ß){v:ø}{w':æ}(f:(Instr.next (a.eval x) ß o.type).run P w = .ok v w')(j:K (a.put o.dst v) w'):o.wp P a w K Q:=by
 unfold Oper.wp;have:(execOp a.eval o).run P w = .ok (.value v) w':=by unfold execOp;simp[g,f]
 rw[this];exact j
def Xj (hI:Inv B W φ h w)(ho:o.op = .next x ß){g:Nat}(hv:RT φ (.pv (.one (.ptr it g 0))) (a.eval x)){p:List ME}{clock:Nat}(hit:h it = .mit (ä m) T seen sp)(hm:h m = .map p clock)(hold:p.all (λx=>Nat.blt x.born T)=ü)(hsp:T≤sp)
  (r:∀v,RT φ Em v→K (a.put o.dst v) w)
  (C:∀y∈p,seen.toArray.contains y.born=ß→∀v U,RT φ (Nr y.key y.val) v→cr B φ h w φ (upd h it (.mit (ä m) T (seen++[y.born]) clock)) U→K (a.put o.dst v) U):o.wp P a w K Q:=by
 have hob:=hI.obj it;rw[hit]at hob;obtain⟨g1,l,q1,q2,lm,q3,q4⟩:=hob;have hom:=hI.obj m;rw[hm]at hom;obtain⟨_,l2,vs,y1,y2,y3,y4⟩:=hom;rw[q3]at y1;cases y1;have J:∀x∈vs.toList,x.born<T:=λz hz=>by
  obtain⟨i,hi⟩:=f? hz;have f:i<p.length:=by have:=(f_.1 hi).1;have:=y4.1;omega
  obtain⟨me,R,_,_,z4⟩:=y4.2 i p[i] (ζ f);rw[hi]at R;cases R;rw[z4];exact cB.1 (P'.1 hold _ (j_ f))
 have hp:=Bb hI hv q1 g1;rcases run_next_at (P:=P) w o.type l.b lm.b T sp seen.toArray vs clock q4 y3 J hsp with⟨_,hr⟩|⟨e,he,U,hw1,hr⟩
 ·exact Uy ho (by rw[hp];exact hr) (r _ ⟨_,rfl,rfl⟩)
 ·unfold leftOf at he;have j:e∈vs∧(!seen.toArray.contains e.born)=true:=by
   have:=z_.1 he;exact akR.1 this
  obtain⟨i,hi⟩:=f? (z_.2 j.1);have f:i<p.length:=by have:=(f_.1 hi).1;have:=y4.1;omega
  obtain⟨me,R,z2,z3,z4⟩:=y4.2 i p[i] (ζ f);rw[hi]at R;cases R;refine Uy ho (by rw[hp];exact hr) (C p[i] (j_ f) (by rw[←z4];simpa using j.2) _ _ ⟨_,bJ rfl (bJ z2 (bJ z3 rfl)),rfl⟩ ?_);have hI1:cr B φ h w φ h U:=by
   obtain rfl|rfl:=hw1
   ·exact cr.refl
   ·exact⟨Gx.le.refl _,λW h=>h.drew,λk hk=>hk⟩
  refine hI1.trans ?_;have hq4:U.heap[l.b]? = ä (.mapIter (ä lm.b) T seen.toArray sp):=by obtain rfl|rfl:=hw1 <;> exact q4
  refine⟨Gx.le.refl _,λW hI=>?_,λk hk=>?_⟩
  ·refine hI.setO q1 g1 (ob :=.mapIter (ä lm.b) T seen.toArray sp) hq4 rfl ⟨g1,l,q1,q2,lm,q3, ?_⟩;rw[(ako hq4).1,z4];simp
  ·by_cases e:it=k
   ·subst e;rw[aU]at hk;cases hk
   ·rwa[bB _ _ e]at hk
end
def JC:∀(l:List Pos) (e:Env) (t:Pos),(xa l e).get .unk t = .unk∨(xa l e).get .unk t=e.get .unk t
 |[],_,_=>.inr rfl
 |p::l,e,t=>by
  simp[xa];obtain h|h:=JC l (PM.set .unk p e .unk) t
  ·exact .inl h
  ·rw[h,PM.cf];simp only[upd];split
   ·exact .inl rfl
   ·exact .inr rfl
def Br:∀(e:Env) (t:Pos),(ul e).get .unk t = .unk∨(ul e).get .unk t=e.get .unk t
 |.leaf,_=>.inr rfl
 |.node l a r,.e=>by
  simp[ul,PM.get];split
  ·exact .inl rfl
  ·exact .inr rfl
 |.node l a r,.o p=>Br l p
 |.node l a r,.i p=>Br r p
variable{φ:Gx}{e:Env}{tmps:Array ø}{ro:Option Nat}
def ER.weak {f :Env}(h:ER φ e tmps)(g:∀t,f.get .unk t = .unk∨f.get .unk t=e.get .unk t):ER φ f tmps:=λt j=>by
 rcases g (pos t)with h1|h1
 ·rw[h1];trivial
 ·rw[h1];exact h t j
def ER.drop (h:ER φ e tmps)(l:List Pos):ER φ (xa l (ul e)) tmps:=(h.weak (Br e)).weak (JC l _)
def sU:∀{e f:Env},Hq e f=ü→∀t,Nd (e.get .unk t) (f.get .unk t)=ü
 |.leaf,_,_,t=>rfl
 |.node l a r,.leaf,h,t=>by
  simp[Hq]at h;cases t with
  |e=>exact h.1.1
  |o p=>exact sU h.1.2 p
  |i p=>exact sU h.2 p
 |.node l a r,.node j C g,h,t=>by
  simp[Hq]at h;cases t with
  |e=>exact h.1.1
  |o p=>exact sU h.1.2 p
  |i p=>exact sU h.2 p
def Zl {a f:TV}(h:Nd a f=ü):a = .unk∨∃p,a = .pv p∧f = .pv p:=by
 unfold Nd at h;split at h
 ·exact .inl rfl
 ·split at h
  ·rw[L8 h];exact .inr ⟨_,rfl,rfl⟩
  ·cases h
 ·split at h
  ·rw[Af h];exact .inr ⟨_,rfl,rfl⟩
  ·cases h
 ·cases h
def ER.back {ψ:Gx}(P:∀k g l,φ.loc k g=ä l→ψ.loc k g=ä l)(C:∀k v,φ.val k=ä v→ψ.val k=ä v){r :Env}{f :Array ø}(T:ER φ e tmps)(R:ER ψ r f)(J:Hq e r=ü):ER φ e f:=λt j=>by
 rcases Zl (sU J (pos t))with h|⟨p,h,U⟩
 ·rw[h];trivial
 ·have a:=T t j;have b:=R t j;rw[h]at a⊢;rw[U]at b;have a:denP φ p=ä _:=a;have b:denP ψ p=ä _:=b;show denP φ p=ä _;rw[a,Bu P C a b]
def He {C:Pos}{h:Pos→EO}:∀{d:DM} {c:Pos→Pos},YQ C h d c=ü→∀p o,PM.get ö d p=ä o→h (c p) = .none∨c p=C
 |.leaf,_,_,p,o,g=>by cases g
 |.node l a r,c,f,p,o,g=>by
  simp[YQ]at f;cases p with
  |e=>
   have j:=f.1.1;cases a with
   |none=>cases g
   |some J=>
    simp only at j;split at j
    next hn=>exact .inl hn
    ·exact .inr (Pos.beq_iff.1 j)
  |o p=>exact He f.1.2 p o g
  |i p=>exact He f.2 p o g
def Jw {f:ME→RX}{ok:Env→DM→Bool}:∀{j:List ME},P0 f ok j=ü→∀y∈j,∃e d n,f y = .ok .normal e d n∧ok e d=ü
 |[],_,y,hy=>by cases hy
 |x::j,h,y,hy=>by
  simp[P0]at h;split at h
  next e d n l=>
   cases g:ok e d with
   |false=>rw[g]at h;cases h
   |true=>
    rw[g]at h;obtain rfl|hy:=c_.1 hy
    ·exact⟨e,d,n,l,g⟩
    ·exact Jw h y hy
  ·cases h
def RD {m:Pos}{T:Nat}{j:List Nat}{o:EO}(h:T9 m T j o=ü):∃p,o = .mitU m T j (ä p):=by
 unfold T9 at h;split at h
 next m' s' b' p=>
  simp[Pos.beq_iff]at h;obtain⟨⟨rfl,rfl⟩,h⟩:=h;have f:∀{l m:List Nat},lsEq l m=ü→l=m:=by
   intro l;induction l with
   |nil=>intro m h;cases m with|nil=>rfl|cons _ _=>cases h
   |cons x l r=>
    intro m h;cases m with
    |nil=>cases h
    |cons y m=>
     simp only[lsEq]at h;cases g:Nat.beq x y with
     |false=>rw[g]at h;cases h
     |true=>rw[g]at h;rw[ν g,r h]
  rw[f h];exact⟨p,rfl⟩
 ·cases h
variable [SymVal]
def Az (B j:Nat)(U:Gx)(l:Pos→EO)(f:æ)(g:Nat)(x:Ex)(e:Env)(h:Pos→EO):ë→Act→æ→Prop
 |.normal,a,w=>x = .normal∧Rl B j U l f g e h a w
 |.exit id,a,w=>x = .exit id∧Rl B j U l f g e h a w
 |.ret,a,w=>x = .ret∧Rl B j U l f g e h a w
 |_,_,_=>False
def bL (ro:Option Nat)(c:Code):Prop:=ro=ö∨cm c=ü
def bL.left {p q:Bool}(h:ro=ö∨(p&&q)=ü):ro=ö∨p=true:=h.imp id λh=>(aj1.1 h).1
def bL.right {p q:Bool}(h:ro=ö∨(p&&q)=ü):ro=ö∨q=true:=h.imp id λh=>(aj1.1 h).2
def bL.ops {i:Nat}{ops:Array è}{f:Bool}(h:bL ro (.region i ops f)):∀o∈ops.toList,fw ro o:=λo g=>h.imp id λh c e=>by have:=P'.1 h o g;rw[e]at this;cases this
def HV (ro:Option Nat)(f:æ):Prop:=∀l,ro=ä l→∃r,f.heap[l]? = ä (.loop r)
def HV.more {w f:æ}(h:HV ro w)(p:Kp w f):HV ro f:=λl j=>by obtain⟨r,g⟩:=h l j;exact⟨r,p.keep _ _ g rfl⟩
def sg (P:å)(J:Glt)(B:Nat)(ck:Callk)(R:List Lq)(g j:Nat)(c:Code):Prop :=
 ∀(ro:Option Nat) (n l:Nat) (W:W0) (U:Gx) (p:Pos→EO) (f:æ),Inv B W U p f→sj J P B W→Ctx R U f→HV ro f→bL ro c→l≤f.heap.size→∀(b:HP) (e:Env) (d:DM) (T:Pos) (a:Act) (w:æ) (x:Ex) (r:Env) (C:DM) (n':Pos),
  exec ck g (cC P J j c) b e d T = .ok x r C n'→Rl B l U p f j e (HP.ov b d).get a w→c.wpIn (RF ro) n P (Az B l U p f j x r (HP.ov b C).get) a w
section
variable {P:å}{Gl:Glt}{B:Nat}{ck:Callk}{Γ:List Lq}{fuel nt:Nat}
def Yj {φ:Gx}{h:Pos→EO}{w:æ}{k:Pos}(_:iE (h k)=ß):cr B φ h w φ (upd h k .dead) w:=by
 refine⟨Gx.le.refl _,λW j=>⟨j.below,j.kp,j.le,λq f=>?_,j.size,λq=>?_,j.sep⟩,λq f=>?_⟩
 ·by_cases e:k=q
  ·subst e;rw[aU]at f;cases f
  ·rw[bB _ _ e]at f;exact j.cz q f
 ·by_cases e:k=q
  ·subst e;rw[aU];exact λg l p=>j.kd p
  ·rw[bB _ _ e];exact j.obj q
 ·by_cases e:k=q
  ·subst e;rw[aU]at f;cases f
  ·rwa[bB _ _ e]at f
def aeg (b:HP):(HP.ov b .leaf).get=b.get:=rfl
def JQ {y:ME}:∀{f:List ME},y∈f→y.born∈dq f
 |[],h=>by cases h
 |z::f,h=>by
  simp only[dq];obtain rfl|h:=c_.1 h
  ·exact m_ ..
  ·exact e_ _ (JQ h)
def afJ {f seen:List Nat}{c:Nat}(j:c∈f)(g:seen.toArray.contains c=ß):GZ f (seen++[c]).toArray<GZ f seen.toArray:=by
 have e:(f.filter λb=>!(seen++[c]).toArray.contains b)=(f.filter λb=>!seen.toArray.contains b).filter λb=>decide (b≠c):=by rw[F?];apply A?;intro b _;by_cases h:b=c <;> simp[h]
 unfold GZ;rw[e];refine ajX.2 ⟨c, ?_,Ψ⟩;rw[C_];exact⟨j,by rw[g];rfl⟩
def N3 {id:Nat}{f:Array è}{y:Code}{x:Src}{dst:Option Pos}{l:List OP}(hco:mI P Gl nt f.toList f.toList = .nxt x dst::l)(ckok:CkOk P Gl B ck Γ)(Sy:sg P Gl B ck Γ fuel nt y)
  {ro:Option Nat} {n lo:Nat} {W:W0} {U:Gx} {h0:Pos→EO} {w0:æ} (R:Inv B W U h0 w0) (hG:sj Gl P B W) (hcx:Ctx Γ U w0) (hro:HV ro w0) (hnd:bL ro (.seq (.region id f ß) y)) (hlo:lo≤w0.heap.size)
  {b:HP} {e0:Env} {d:DM} {n1:Pos} {r m:Pos} {g T sp0 clock:Nat} {C:List ME} (hx:bm e0 x = .pv (.one (.ptr r g 0))) (hit0:(HP.ov b d).get r = .mit (ä m) T [] sp0) (hm0:(HP.ov b d).get m = .map C clock) (hold:C.all (λx=>Nat.blt x.born T)=ü) (hclk:T≤clock)
  (heach:P0 (λy'=>wJ (aQ ck (.ov b (fA d r (.mitU m T (dq C) ö))) l (aV e0 dst (Nr y'.key y'.val)) (fA .leaf r (.mitU m T (dq C) (ä (y'.born,clock)))) n1) (exec ck fuel (cC P Gl nt y) (.ov b (fA d r (.mitU m T (dq C) ö)))))
         (λe' d'=>YQ r (HP.ov b (fA d r (.mitU m T (dq C) ö))).get d' (λp=>p)&&Hq e0 e'&&T9 m T (dq C) ((HP.ov (.ov b (fA d r (.mitU m T (dq C) ö))) d').get r)) C=ü)
  {X:Ex} {e':Env} {d':DM} {n':Pos} (hfin:wJ (aQ ck b l (aV e0 dst Em) (fA d r .dead) n1) (exec ck fuel (cC P Gl nt y) b) = .ok X e' d' n') (hX:X ≠ .normal) :
  ∀(j:Nat) (seen:List Nat) (sp:Nat) (a:Act) (w:æ),T≤sp→GZ (dq C) seen.toArray<j→Rl B lo U h0 w0 nt e0 (upd (HP.ov b d).get r (.mit (ä m) T seen sp)) a w→Code.roundsIn (RF ro) n P (.seq (.region id f ß) y) (Az B lo U h0 w0 nt X e' (HP.ov b d').get) j a w:=by
 obtain⟨o0,rest,hL⟩:∃o0 rest,f.toList=o0::rest:=by
  cases hL:f.toList with
  |nil=>rw[hL]at hco;simp only[mI]at hco;cases hco
  |cons o0 rest=>exact⟨o0,rest,rfl⟩
 have hco':=hco;rw[show mI P Gl nt f.toList f.toList=mI P Gl nt f.toList (o0::rest) from l_ (mI P Gl nt f.toList) hL]at hco';simp[mI]at hco';obtain⟨hc0,hcr⟩:=hco';have hoi:f[0]? = ä o0:=by rw[←Array.getElem?_toList,hL];rfl
 have hsz:0<f.size:=by have:=l_ List.length hL;simp at this;omega
 have hdrop:f.toList.drop 1=rest:=by rw[hL];rfl
 have hno:fw ro o0:=(bL.ops (bL.left hnd)) o0 (by rw[hL];exact m_ ..);obtain⟨itop,hop,hxe,hdst,hg⟩:=Mn hc0;have hmit:m≠r:=λe=>by rw[e,hit0]at hm0;cases hm0
 intro j;induction j with
 |zero=>exact λseen sp a w hsp hcnt hr=>Ω
 |succ j ih=>
   intro seen sp a w hsp hcnt hr;rw[roundsIn_succ];refine wpIn_seq (wpIn_region ?_);rw[ajY,show f.size=(f.size-1)+1 by omega,e?,wpOpsIn_cons];obtain⟨φ,hs,hE⟩:=hr.ex;have hI:=hs.2.1 _ R;unfold wpOpIn;simp[hoi];rw[Θ (by simp[Region.wanted,hg])];refine wW hno ?_;have hv:=mB hE itop;rw[←hxe,hx]at hv;refine Xj hI hop hv (aU _ _ _) ((bB _ _ λe=>hmit e.symm).trans hm0) hold hsp (λv hv=>?_) (λy0 hy hnb v w1 hv hst=>?_)
   ·have hst:cr B φ (upd (HP.ov b d).get r (.mit (ä m) T seen sp)) w φ (HP.ov b (fA d r .dead)).get w:=by
     have e:(HP.ov b (fA d r .dead)).get=upd (upd (HP.ov b d).get r (.mit (ä m) T seen sp)) r .dead:=by rw[HP.cf,uN]
     rw[e];exact Yj (by rw[aU];rfl)
    have hr':=hr.step R hs hE hst hdst hv;unfold wJ at hfin;split at hfin
    ·rename_i e1 d1 n2 hrun;refine bt (n:=n) R hG ckok hcx (bL.ops (bL.left hnd)) (λa' w' hr2=>?_) rest 1 _ _ n1 _ _ hdrop (by rw[hcr];exact hrun) hr';refine wpIn_mono (Sy ro n lo W U h0 w0 R hG hcx hro (bL.right hnd) hlo b e1 d1 n2 a' w' X e' d' n' hfin hr2) λex a3 w3 hn=>?_;cases ex with
     |normal=>exact(hX hn.1).elim
     |exit _=>exact hn
     |ret=>exact hn
     |goto _=>exact hn
     |panic _=>exact hn
     |outgrown=>exact hn
    ·cases hfin
   ·
    obtain⟨e1,d1,n2,hf,hok⟩:=Jw heach y0 hy;simp at hok;obtain⟨⟨hall,hsub⟩,hsame⟩:=hok;rw[uN]at hst;have hs2:=hs.trans hst;have hI2:=hs2.2.1 _ R;have hob:=hI2.obj r;rw[aU]at hob;obtain⟨g1,li,q1,q2,lm,q3,q4⟩:=hob;generalize hn0:GZ (dq C) (seen++[y0.born]).toArray+1=n0;have hU:=toU (bs:=dq C) hI2 (aU _ _ _) hclk;rw[uN,hn0]at hU;have eH:(HP.ov (.ov b (fA d r (.mitU m T (dq C) ö))) (fA .leaf r (.mitU m T (dq C) (ä (y0.born,clock))))).get=upd (HP.ov b d).get r (.mitU m T (dq C) (ä (y0.born,clock))):=by rw[HP.cf,aeg,HP.cf,uN]
    obtain⟨p1,p2⟩:=dW (hE.mono hst.1) hr.sz hdst hv;obtain⟨ms,m1,m2,m3⟩:=hr.df;have hKp:=(hst.2.1 _ hI.self).kp;have hr1:Rl B lo (φ.AB r n0) (upd (HP.ov b d).get r (.mitU m T (dq C) (ä (y0.born,clock)))) w1 nt (aV e0 dst (Nr y0.key y0.val)) (HP.ov (.ov b (fA d r (.mitU m T (dq C) ö))) (fA .leaf r (.mitU m T (dq C) (ä (y0.born,clock))))).get (a.put o0.dst v) w1:=by rw[eH];refine⟨⟨_,cr.refl,agW p1⟩,p2,ms, ?_,m2,λD hD=>⟨(m3 D hD).1,hKp.keep _ _ (m3 D hD).2 rfl⟩⟩;cases o0.dst <;> exact m1
    have hG1:sj Gl P B ⟨w1,φ.AB r n0⟩:=hG.more hI2;have hcx1:Ctx Γ (φ.AB r n0) w1:=λq hq=>by obtain⟨z1,z2,z3⟩:=(hcx.more R hs2) q hq;exact⟨z1,z2,agW z3⟩
    have hro1:HV ro w1:=hro.more (hs2.2.1 _ R.self).kp;unfold wJ at hf;split at hf
    ·rename_i e2 d2 n3 hrun;refine bt (n:=n) hU hG1 ckok hcx1 (bL.ops (bL.left hnd)) (λa' w' hr2=>?_) rest 1 _ _ n1 _ _ hdrop (by rw[hcr];exact hrun) hr1;refine wpIn_mono (Sy ro n lo _ _ _ _ hU hG1 hcx1 hro1 (bL.right hnd) (ξ hlo (hs2.2.1 _ R.self).below.size) _ e2 d2 n3 a' w' .normal e1 d1 n2 hf hr2) λex a3 w3 hn=>?_;cases ex with
     |exit _=>exact(by cases hn.1)
     |ret=>exact(by cases hn.1)
     |goto _=>exact hn.elim
     |panic _=>exact hn.elim
     |outgrown=>exact hn.elim
     |normal=>
      obtain⟨_,hr3⟩:=hn;obtain⟨ψ,hs3,hE3⟩:=hr3.ex;have J:=hs3.2.1 _ hU;obtain⟨seen',sp',f1,f2,f3⟩:=forget (h:=upd (HP.ov b d).get r (.mit (ä m) T (seen++[y0.born]) clock)) ⟨lm,q3⟩ ⟨li,q1⟩ g1 J hs3.1 (λk hk=>by
       rw[bB _ _ (λe=>hk e.symm)];cases hd:PM.get ö d1 k with
       |none =>refine .inl ?_;simp[HP.get,hd,fA,PM.cf];rw[bB _ _ (λe=>hk e.symm)]
       |some o=>
        refine .inr ?_;obtain h1|h1:=He hall k o hd
        ·rw[HP.cf,bB _ _ (λe=>hk e.symm)]at h1;exact h1
        ·exact(hk h1).elim) (RD hsame)
      refine ih seen' sp' a3 w3 f1 ?_ ⟨⟨φ,⟨hs.1,λW hW=>?_,λk hk=>?_⟩, ?_⟩,hr3.sz,hr3.df⟩
      ·
       have hlt:GZ (dq C) (seen++[y0.born]).toArray<GZ (dq C) seen.toArray:=afJ (JQ hy) hnb;omega
      ·have:=f3 W (hs2.2.1 _ hW);rwa[uN]at this
      ·refine hs.2.2 k ?_;by_cases e:r=k
       ·subst e;rw[aU]at hk⊢;exact hk
       ·rw[bB _ _ e]at hk⊢;exact hk
      ·exact ER.back (φ:=φ) (ψ:=ψ) (λk g l h=>hs3.1.loc k g l h) (λk v h=>hs3.1.val k v h) hE hE3 hsub
    ·cases hf
end
variable [SymVal]
def ajv (Q:ë→Act→æ→Prop):ë→Act→æ→Prop
 |.goto _,_,_=>False
 |e,a,w=>Q e a w
def wy {F:Fence}{n:Nat}{P:å}{Q:ë→Act→æ→Prop}{a:Act}{w:æ}{c:Code}(h:c.wpIn F n P (ajv Q) a w):(Code.scope c).wpIn F n P Q a w:=by
 intro b k C R hb U;have s1:step P (lone (b.atR a (.code (.scope c)::k)) C w) = .next (lone (b.atR a (.code c :: .inScope c::k)) C w):=step_lone_go (by simp[stepG,stepG.exec,Frame.atR])
 have s2:∀(a:Act) (w:æ),step P (lone (b.atR a (.inScope c::k)) C w) = .next (lone (b.atR a k) C w):=λa w=>step_lone_go (by simp[stepG,stepG.exec,Frame.atR])
 have r:(lone (b.atR a (.code (.scope c)::k)) C w).fenced P F:=fenced_calm hb U rfl;obtain⟨e,j,g,p,f⟩:=h b (.inScope c::k) C R hb U;cases e with
 |normal=>exact⟨.normal,j,g,p,.head r s1 (StepsIn.trans f (.one (fenced_calm hb U rfl) (s2 _ _)))⟩
 |exit id=>
  have hx:exitTo id (.inScope c::k)=exitTo id k:=by simp[exitTo]
  exact⟨.exit id,j,g,p,λk' hk=>.head r s1 (f.1 k' (by rw[hx];exact hk)),
   λT hk=>let ⟨J,h1,h2⟩:=f.2 T (by rw[hx];exact hk);⟨J,h1,.head r s1 h2⟩⟩
 |goto l=>exact p.elim
 |ret=>exact⟨.ret,j,g,p,.of_steps (.one r s1) f⟩
 |panic ch=>exact⟨.panic ch,j,g,p,.of_steps (.one r s1) f⟩
 |outgrown=>exact⟨.outgrown,j,g,p,.of_steps (.one r s1) f⟩
section
variable {P:å}{Gl:Glt}{B lo:Nat}{ck:Callk}{Γ:List Lq}{fuel nt:Nat}
variable{w:æ}{φ:Gx}{L:Nat}
def HL (fn:FuncId)(tmps:Array ø)(ps:Array Tmp)(assign body:Code){ro:Option Nat}(p:∀l,ro=ä l→∃r,w.heap[l]? = ä (.loop r)) :
  ∃(l:Nat) (mark:List ê) (f:æ) (D:Nat),(Instr.enterLoop fn tmps ps assign body ro).run P w = .ok (l,mark) f∧w.grownBy f ö∧w.heap.size≤l∧f.drawn=w.drawn ∧
   f.heap[l]? = ä (.loop { state :=.ready,pending:=ö,fn,tmps,params:=ps,assign,body,defers:=D }) ∧
   ∃j:List Nat,mark=j.map (λD=>{ target :=.collected D,args :=#[] })∧j.Nodup∧∀D∈j,w.heap.size≤D∧D≠l∧f.heap[D]? = ä (.deferred (ä [])):=by
 cases ro with
 |none=>
  refine⟨_,_,_,w.heap.size,run_enterLoop_outer fn tmps ps assign body,(κ w _ ö).trans (κ _ _ ö),Ω,rfl, ?_,[w.heap.size],rfl,Ψ,λD g=>?_⟩
  ·have:=World.alloc_heap_new (w.alloc (.deferred (ä []))) (.loop { state :=.ready,pending:=ö,fn,tmps,params:=ps,assign,body,defers:=w.heap.size });rw[X']at this;exact this
  ·simp only[E']at g;subst g;refine⟨ε _,Ω, ?_⟩;rw[Below.heap_alloc _ _ _ (by rw[X'];omega)];exact World.alloc_heap_new _ _
 |some C =>obtain⟨r0,J⟩:=p C rfl;refine⟨w.heap.size,[],w.alloc (.loop { state :=.ready,pending:=ö,fn,tmps,params:=ps,assign,body,defers:=r0.defers }),r0.defers, ?_,κ w _ ö,ε _,rfl,World.alloc_heap_new _ _,[],rfl,Ψ,λD g=>by cases g⟩;unfold Instr.enterLoop;simp[π,run_getLoop J,run_newObj_alloc,n_]
def tM {c:Code}(Sc:sg P Gl B ck Γ fuel nt c){ro:Option Nat}{n:Nat}{W:W0}{U:Gx}{h0:Pos→EO}{g:æ}(R:Inv B W U h0 g)(hG:sj Gl P B W)(J:Ctx Γ U g)(p:HV ro g)(r:bL ro c)(C:lo≤g.heap.size){b:HP}:∀(j:Nat) (e:Env) (d:DM) (n1:Pos) (a:Act) (w:æ) (x:Ex) (e':Env) (d':DM) (n':Pos),
  pQ (exec ck fuel (cC P Gl nt c) b) j e d n1 = .ok x e' d' n'→Rl B lo U h0 g nt e (HP.ov b d).get a w→Code.roundsIn (RF ro) n P c (Az B lo U h0 g nt x e' (HP.ov b d').get) j a w
 |0,e,d,n1,a,w,x,e',d',n',h,hr=>by cases h
 |j+1,e,d,n1,a,w,x,e',d',n',h,hr=>by
  simp[pQ]at h;split at h
  next x1 e1 d1 n2 hb=>
   rw[roundsIn_succ];refine wpIn_mono (Sc ro n lo W U h0 g R hG J p r C b e d n1 a w x1 e1 d1 n2 hb hr) λex a' w' l=>?_;have T:x1 ≠ .normal→RX.ok x1 e1 d1 n2 = .ok x e' d' n':=λhx=>by
    split at h
    ·exact(hx rfl).elim
    ·exact h
   cases ex with
   |normal =>obtain⟨rfl,f⟩:=l;exact tM Sc R hG J p r C j _ _ _ _ _ _ _ _ _ h f
   |exit id =>obtain⟨rfl,f⟩:=l;have:=T (λe=>by cases e);injection this with e1 e2 e3 e4;subst e1;subst e2;subst e3;exact⟨rfl,f⟩
   |ret =>obtain⟨rfl,f⟩:=l;have:=T (λe=>by cases e);injection this with e1 e2 e3 e4;subst e1;subst e2;subst e3;exact⟨rfl,f⟩
   |goto _=>exact l.elim
   |panic _=>exact l.elim
   |outgrown=>exact l.elim
  ·cases h
def af5 (c:Code):(∃id f y x g l,c = .seq (.region id f ß) y∧mI P Gl nt f.toList f.toList = .nxt x g::l∧cC P Gl nt (.loop c) = .rloop x g l (g.toList++GN l++sx (cC P Gl nt y)) (cC P Gl nt y))∨cC P Gl nt (.loop c) = .loop (cC P Gl nt c):=by
 cases c with
 |seq a y=>
  cases a with
  |region id f p=>
   cases p with
   |true=>exact .inr rfl
   |false=>
    cases j:mI P Gl nt f.toList f.toList with
    |nil=>refine .inr ?_;simp[cC,j]
    |cons o l=>
     cases o with
     |nxt x g=>refine .inl ⟨id,f,y,x,g,l,rfl,j, ?_⟩;simp[cC,j]
     |_=>refine .inr ?_;simp[cC,j]
  |_=>exact .inr rfl
 |_=>exact .inr rfl
def iB.loopT {U :æ}{B:Nat}{k:Pos}{o:EO}{r r':Loop}(hL:w.heap[L]? = ä (.loop r))(hL':U.heap[L]? = ä (.loop r'))(C:∀b,b≠L→U.heap[b]? = w.heap[b]?)(h:iB φ w B k o):iB φ U B k o:=by
 have ne:∀{b:Nat} {x:Obj},w.heap[b]? = ä x→(∀r,x ≠ .loop r)→U.heap[b]? = ä x:=λ{b x} R hx=>by rw[C b λe=>by subst e;rw[hL]at R;injection R with R;exact hx r R.symm];exact R
 have ex:∀{b:Nat},(∃o,w.heap[b]? = ä o)→∃o,U.heap[b]? = ä o:=λ{b} ⟨o,R⟩=>by
  by_cases e:b=L
  ·subst e;exact⟨_,hL'⟩
  ·exact⟨o,by rw[C b e];exact R⟩
 cases o with
 |none=>exact h
 |row e s el len gen fz =>obtain⟨h0,J,hmm,h2,h3⟩:=h;refine⟨h0,J,hmm,h2,λg hg=>?_⟩;obtain⟨l,q1,⟨r1,r2,e7,fr,r3,r4⟩,j⟩:=h3 g hg;exact⟨l,q1,⟨r1,r2,e7,fr,ne r3 (λ_ e=>by cases e),r4⟩,j⟩
 |map es clock =>obtain⟨J,l,vs,q1,q2,j,P⟩:=h;exact⟨J,l,vs,q1,q2,ne j (λ_ e=>by cases e),P⟩
 |mit m T seen f=>
  obtain⟨J,l,q1,q2,j⟩:=h;refine⟨J,l,q1,q2, ?_⟩;cases m with
  |none=>exact ne j (λ_ e=>by cases e)
  |some m=>obtain⟨l',P,q5⟩:=j;exact⟨l',P,ne q5 (λ_ e=>by cases e)⟩
 |mitU m T bs st =>obtain⟨J,l,l',seen,f,n,q1,q2,j,P,q5⟩:=h;exact⟨J,l,l',seen,f,n,q1,q2,j,ne P (λ_ e=>by cases e),q5⟩
 |sit s p =>obtain⟨J,h2,l,q1,q2,j⟩:=h;exact⟨J,h2,l,q1,q2,ne j (λ_ e=>by cases e)⟩
 |clo fn first caps=>exact h
 |ifc t v=>exact h
 |emp=>exact h
 |dead=>exact λg l q=>⟨(h g l q).1,ex (h g l q).2⟩
 |cz=>exact λg l q=>⟨(h g l q).1,ex (h g l q).2⟩
 |yld=>
  obtain⟨J,l,q1,q2,j,r0,P⟩:=h;refine⟨J,l,q1,q2,j, ?_⟩;by_cases e:l.b=L
  ·exact⟨r',by rw[e];exact hL'⟩
  ·exact⟨r0,by rw[C _ e];exact P⟩
def sj.below {W:W0}(h:sj Gl P B W)(j:Below B W.w w):sj Gl P B ⟨w,φ⟩:=⟨λg t v l w' f=>h.1 g t v l w' (j.trans f),λw' f=>h.2 w' (j.trans f)⟩
def WN {r p:Gx}{h2:Pos→EO}{j P:æ}{r0 r1:Loop}(hB:B≤L)(U:B≤j.heap.size)(R:j.heap[L]? = ä (.loop r0))(J:Inv B ⟨j.putObj L (.loop r1),r⟩ p h2 P):Inv B ⟨j,r⟩ p h2 (P.putObj L (.loop r0)):=by
 have T:=(δ.1 R).1;have h1:(j.putObj L (.loop r1)).heap[L]? = ä (.loop r1):=World.putObj_heap_same T;have h3:=J.kp.keep _ _ h1 rfl;have f:=(δ.1 h3).1;refine⟨?_,⟨?_,λk o C ho=>?_⟩,J.le,λk C=>?_,by simpa using J.size,λk=>?_,J.sep⟩
 ·have b1:Below B j (j.putObj L (.loop r1)):=(Below.refl B j).grown (grownBy_putObj' j L _) U (λk e=>by cases e;exact hB);exact(b1.trans J.below).grown (grownBy_putObj' P L _) J.size (λk e=>by cases e;exact hB)
 ·exact J.kp.dr
 ·by_cases e:k=L
  ·subst e;rw[R]at C;cases C;exact World.putObj_heap_same f
  ·rw[World.putObj_heap_other e];refine J.kp.keep _ _ ?_ ho;rw[World.putObj_heap_other e];exact C
 ·obtain⟨a1,a2,a3,a4⟩:=J.cz k C;refine⟨a1,a2,a3,λg l hl=>?_⟩;by_cases e:l.b=L
  ·rw[e,World.putObj_heap_same f,R]
  ·have:=a4 g l hl;rw[World.putObj_heap_other e]at this⊢;exact this
 ·exact(J.obj k).loopT h3 (World.putObj_heap_same f) λb hb=>World.putObj_heap_other hb
def B8 {φ:Gx}:∀{ps:List Nat} {args:List TV} {env f:Env} {g:List ø} {tmps:Array ø},T8 (ps.map pos) args env=ä f→(∀t∈ps,t<nt∧t+2≤2^64)→tmps.size=nt→ER φ env tmps→RTs φ args g →
  g.length=ps.length∧ER φ f ((ps.zip g).foldl (λtmps (t,a)=>tmps.setIfInBounds t a) tmps)∧((ps.zip g).foldl (λtmps (t,a)=>tmps.setIfInBounds t a) tmps).size=nt
 |[],[],env,f,[],tmps,h,_,j,l,_=>by cases h;exact⟨rfl,l,j⟩
 |t::ps,u::args,env,f,v::g,tmps,h,hb,j,l,hr=>by simp[T8]at h;obtain⟨J,C⟩:=hb t (m_ ..);obtain⟨U,ws,e,r1,p⟩:=hr.cons;cases e;obtain⟨T,R,P⟩:=B8 (tmps:=tmps.setIfInBounds t v) h (λt r=>hb t (e_ _ r)) (by simpa using j) (l.set (by rw[j];exact J) C r1) p;exact⟨by simp[T],R,P⟩
 |[],_::_,_,_,_,_,h,_,_,_,_=>by cases h
 |_::_,[],_,_,_,_,h,_,_,_,_=>by cases h
 |[],[],_,_,_::_,_,_,_,_,_,hr=>by cases hr
 |_::_,_::_,_,_,[],_,_,_,_,_,hr=>by cases hr
end
variable [SymVal]
section
variable {P:å}{Gl:Glt}{B:Nat}{ck:Callk}{Γ:List Lq}{fuel nt:Nat}
variable{n1:Pos}{ps:Array Tmp}
def adz {φ:Gx}{H:Pos→EO}{w w2:æ}{W:W0}{l:Nat}{r:Loop}(hI:Inv B W φ H w)(U:H n1 = .none)(p:w.grownBy w2 ö)(hle:w.heap.size≤l)(hdr:w2.drawn=w.drawn)(T:w2.heap[l]? = ä (.loop r)):∃C,φ.le C∧C.loc n1 0=ä ⟨l,0,0⟩∧C.val n1=ä (.func (.yield l) #[] #[])∧cr B φ H w C (upd H n1 .yld) w2:=by
 have hfr:=hI.free U;have j:φ.le ((φ.add n1 ⟨l,0,0⟩).zc n1 (.func (.yield l) #[] #[])):=(hI.qa U _).trans ⟨λ_ _ _ h=>h,λq u R=>by
  by_cases e:q=n1
  ·subst e;have R:φ.val q=ä u:=R;rw[hfr.2.1]at R;cases R
  ·simp[Gx.zc,ω e];exact R,λ_ _ h=>h⟩
 have hl1:((φ.add n1 ⟨l,0,0⟩).zc n1 (.func (.yield l) #[] #[])).loc n1 0=ä ⟨l,0,0⟩:=Gx.gh φ n1 _;have P:((φ.add n1 ⟨l,0,0⟩).zc n1 (.func (.yield l) #[] #[])).val n1=ä (.func (.yield l) #[] #[]):=Gx.py _ _ _;refine⟨_,j,hl1,P,j,λW' hI=>?_,λk J=>?_⟩
 ·refine hI.lb j (λk J=>⟨λg=>ω J,ω J,rfl⟩) (λg l' f=>.inr ?_) (λk J _=>p.block k J Ψ) (λg l' f=>by rw[hfr.1 g]at f;cases f) p.1 p.2 p.3 p.4 (by first|(rw[hdr];exact ε _)|exact Y' _) ⟨λg hg=>?_,⟨l,0,0⟩,hl1,ξ hI.size hle,P,_,T⟩
  ·have f:(if n1=n1 then(if g=0 then ä (⟨l,0,0⟩:Loc)else ö)else φ.loc n1 g)=ä l':=f;rw[Θ rfl]at f;split at f
   ·cases f;exact hle
   ·cases f
  ·show(if n1=n1 then(if g=0 then ä (⟨l,0,0⟩:Loc)else ö)else φ.loc n1 g)=ö;rw[Θ rfl,ω Ω]
 ·by_cases e:n1=k
  ·subst e;rw[aU]at J;cases J
  ·rwa[bB _ _ e]at J
def KK {x y:Code}(ckok:CkOk P Gl B ck Γ)(Sx:sg P Gl B ck Γ fuel nt x)(Sy:sg P Gl B ck Γ fuel nt y){l D:Nat}{fn:FuncId}{tmps:Array ø}{e:Env}(hBl:B≤l)(apartL:∀q∈Γ,q.l≠l)(hsz:tmps.size=nt)(hsk:cm x=ü)(hnb:cm y=ü)(hps:∀t∈ps.toList,t<nt∧t+2≤2^64) :
  TL P Gl B (RM n1 ck.call e (ps.toList.map pos) λb e d n=>match exec ck fuel (cC P Gl nt x) b e d n with
   |.ok .normal e d n=>exec ck fuel (cC P Gl nt y) b e d n
   |_=>.no) (⟨n1,l,{ state :=.ready,pending:=ö,fn,tmps:=tmps,params:=ps,assign:=x,body:=y,defers:=D },e,tmps⟩::Γ):=by
 intro b' j args d3 n3 v3 d4 n4 hy W' φ' w' hG' hI' vs hargs hcx';unfold RM at hy;split at hy
 next hj=>
  have hj:=Pos.beq_iff.1 hj;subst hj;split at hy
  next env' hset=>
   split at hy
   ·rename_i x5 e5 d5 n5 g;split at hy
    ·injection hy with y1 y2 y3;subst y1;subst y2;subst y3;dsimp only at g;split at g
     ·rename_i e6 d6 n6 hasg;intro l' hl' ro' n';obtain⟨⟨lq,hq1,hq2⟩,f,hEq⟩:=hcx' _ (m_ ..);simp only at hq1 hq2 f hEq;rw[hl']at hq1;cases hq1;obtain⟨hlen,hps',hsz'⟩:=B8 hset hps hsz hEq hargs;rw[hq2];refine⟨_,_,_,_,run_yield f (by simpa using hlen), ?_⟩;have hroo:HV (ä l) w':=λl0 hl0=>by
       cases hl0;exact⟨_,f⟩
      have U:((ps.zip vs.toArray).foldl (λtmps (t,a)=>tmps.setIfInBounds t a) tmps)=((ps.toList.zip vs).foldl (λtmps (t,a)=>tmps.setIfInBounds t a) tmps):=by rw[←Array.foldl_toList,Array.toList_zip]
      have hcxT:Ctx Γ φ' w':=λq hq=>hcx' q (e_ _ hq);refine roundIn_of_wpIn trivial (wpIn_mono (Sx (ä l) n' w'.heap.size W' φ' _ w' hI' hG' hcxT hroo (.inr hsk) (ε _) b' env' d3 n3 { tmps:=_,defers:=[] } w' .normal e6 d6 n6 hasg ⟨⟨φ',cr.refl,by rw[U];exact hps'⟩,by rw[U];exact hsz',[],rfl,ajZ,λD hD=>by cases hD⟩) λe1 a1 wx C=>?_);cases e1 with
      |exit id=>exact(by cases C.1)
      |ret=>exact(by cases C.1)
      |goto _=>exact C.elim
      |panic _=>exact C.elim
      |outgrown=>exact C.elim
      |normal=>
       obtain⟨_,hr1⟩:=C;obtain⟨J,hs1,hE1⟩:=hr1.ex;have J1:=hs1.2.1 _ hI'.self;have p:=J1.kp.keep _ _ f rfl;refine⟨_,run_beginRound p rfl, ?_⟩;have T:=(δ.1 p).1;obtain⟨ms1,mdf1,mnd1,mk1⟩:=hr1.df;have Jx:=hs1.2.1 _ hI';have hIb:Inv B ⟨wx.putObj l (.loop { state :=.busy,pending:=ö,fn,tmps:=tmps,params:=ps,assign:=x,body:=y,defers:=D }),J⟩ J (HP.ov b' d6).get (wx.putObj l (.loop { state :=.busy,pending:=ö,fn,tmps:=tmps,params:=ps,assign:=x,body:=y,defers:=D })) :=
        ⟨Below.refl _ _,Kp.refl _,Gx.le.refl _,λ_ _=>⟨λ_=>rfl,rfl,rfl,λ_ _ _=>rfl⟩,by simpa using Jx.size,λk=>(Jx.obj k).loopT p (World.putObj_heap_same T) λb hb=>World.putObj_heap_other hb,Jx.sep⟩
       have hbW:Below B W'.w (wx.putObj l (.loop { state :=.busy,pending:=ö,fn,tmps:=tmps,params:=ps,assign:=x,body:=y,defers:=D })):=Jx.below.grown (grownBy_putObj' wx l _) Jx.size (λk e=>by cases e;exact hBl);have hcxb:Ctx Γ J (wx.putObj l (.loop { state :=.busy,pending:=ö,fn,tmps:=tmps,params:=ps,assign:=x,body:=y,defers:=D })):=λq hq=>by obtain⟨z1,z2,z3⟩:=(hcxT.more hI' hs1) q hq;exact⟨z1,by rw[World.putObj_heap_other (apartL q hq)];exact z2,z3⟩
       refine wpIn_mono (Sy (ä l) n' 0 _ J _ _ hIb (hG'.below hbW) hcxb (λl0 hl0=>by
         cases hl0;exact⟨_,World.putObj_heap_same T⟩) (.inr hnb) (Y' _) b' e6 d6 n6 a1 _ .normal e5 d5 n5 g ⟨⟨J,cr.refl,hE1⟩,hr1.sz,ms1,mdf1,mnd1,λD' hD'=>⟨Y' _,by
         have hd:=(mk1 D' hD').2;rw[World.putObj_heap_other (λe=>by subst e;rw[p]at hd;cases hd)];exact hd⟩⟩) λe2 a2 w3 r=>?_
       cases e2 with
       |exit id=>exact(by cases r.1)
       |ret=>exact(by cases r.1)
       |goto _=>exact r.elim
       |panic _=>exact r.elim
       |outgrown=>exact r.elim
       |normal =>obtain⟨_,hr2⟩:=r;obtain⟨ψ2,R,hE3⟩:=hr2.ex;have J2:=R.2.1 _ hIb;have hl3:=J2.kp.keep _ _ (World.putObj_heap_same T) rfl;have J3:=WN (r0:={ state :=.ready,pending:=ö,fn,tmps:=tmps,params:=ps,assign:=x,body:=y,defers:=D }) hBl Jx.size p J2;refine⟨.bool ü,_,run_endRound ö hl3,.bool ü,ψ2,rfl,hs1.trans (uU R.1 J3 R.2.2),rfl⟩
     ·cases g
    ·cases hy
   ·cases hy
  ·cases hy
 ·exact ckok.call _ _ _ _ _ _ _ _ hy W' φ' w' hG' hI' vs hargs (λq hq=>hcx' q (e_ _ hq))
def WO {g:Operand}{x y:Code}(ckok:CkOk P Gl B ck Γ)(Sx:sg P Gl B ck Γ fuel nt x)(Sy:sg P Gl B ck Γ fuel nt y):sg P Gl B ck Γ fuel nt (.rangeFunc g ps x y):=by
 intro ro n lo W U h0 w0 hI0 hG hcx hro hnd hlo0 b e d n1 a w X e' d' n' h hr;simp only[cC]at h;split at h
 rotate_left
 ·cases h
 rename_i hchk;simp only[θ,P',υ]at hchk;obtain⟨⟨hsk,hnb⟩,hps⟩:=hchk;simp[exec]at h;split at h
 rotate_left
 ·cases h
 rename_i hfree;have hn1:(HP.ov b d).get n1 = .none:=by
  unfold bz at hfree;simp only at hfree;split at hfree
  ·assumption
  ·cases hfree
 split at h
 rotate_left
 ·cases h
 rename_i gf us hen;split at h
 rotate_left
 ·cases h
 rename_i vout d1 n2 hcall;injection h with q1 q2 q3 q4;subst q1;subst q2;subst q3;subst q4;obtain⟨φ,hs,hE⟩:=hr.ex;have hI:=hs.2.1 _ hI0;obtain⟨ms,hms,hnod,hmk⟩:=hr.df;have hk0:=(hs.2.1 _ hI0.self).kp;refine wpIn_rangeFunc λfn _=>?_;obtain⟨l,mark,w2,D,hrun,hgr,hle,hdr,hrec,ms2,hmark,hnod2,hmk2⟩:=HL (P:=P) (w:=w) fn a.tmps ps x y (ro:=ro) (hro.more hk0);obtain⟨φ2,hle2,hl1,hv1,hst2⟩:=adz hI hn1 hgr hle hdr hrec;have hstep2:=hst2.2.1;have hI2:=hstep2 _ hI;have eH:(HP.ov b (fA d n1 .yld)).get=upd (HP.ov b d).get n1 .yld:=HP.cf b d n1 .yld;have hE2:=hE.mono hle2;have hBl:B≤l:=ξ hI.size hle;have hcx2:Ctx (⟨n1,l,{ state :=.ready,pending:=ö,fn,tmps:=a.tmps,params:=ps,assign:=x,body:=y,defers:=D },e,a.tmps⟩::Γ) φ2 w2:=λq hq=>by
  obtain rfl|hq:=c_.1 hq
  ·exact⟨⟨_,hl1,rfl⟩,hrec,hE2⟩
  ·exact(hcx.more hI0 (hs.trans hst2)) q hq
 have apartL:∀q∈Γ,q.l≠l:=λq hq ee=>by have h0:=hk0.keep _ _ (hcx q hq).2.1 rfl;have:=(δ.1 h0).1;omega
 have yok:=KK (fn:=fn) (D:=D) (n1:=n1) (e:=e) ckok Sx Sy hBl apartL hr.sz hsk hnb hps;have hgv:=mB hE2 g;have hval:RTs φ2 (bm e (nC g)::[.pv (.one (.clo n1))]) [a.eval g,.func (.yield l) #[] #[]]:=⟨hgv,by
  show den φ2 (.clo n1)=ä _;simp[den,hv1],apa⟩
 rw[eH]at hen;obtain⟨fv,xs,hus,first,caps,hfv,hargs⟩:=z7 hI2 hen hval;cases hus;have hI2':Inv B W φ2 (HP.ov b (fA d n1 .yld)).get w2:=by rw[eH];exact hI2
 obtain⟨⟨fnn,f1,f2,f3⟩,hcalls⟩:=ckok.iter _ _ yok _ _ _ _ _ _ _ _ hcall W φ2 w2 hG hI2' _ hargs hcx2;have hbody:¬fnn.body=none:=by cases hb:fnn.body <;> simp_all
 have f3:¬fnn.name = "runtime.NumGoroutine":=by simpa using f3
 refine⟨l,mark,w2,{ target :=.fn (.func gf) caps,args:=first ++ #[.func (.yield l) #[] #[]] },w2,gf,(first.toList++[Value.func (.yield l) #[] #[]]++caps.toList).toArray,w2,hrun, ?_,λ_ _=>trivial, ?_, ?_, ?_⟩
 ·simp[resolve,hfv];simp[Deferred.ofValue,Act.eval]
 ·have e2:first ++ #[Value.func (.yield l) #[] #[]]++caps=(first.toList++[Value.func (.yield l) #[] #[]]++caps.toList).toArray:=D_ Ψ
  simp[invoke,callFunc,p?,π,f1,e2];simp[f3,hbody]
 ·intro q;cases q
 ·refine DF ?_;refine hcalls.mono ?_;rintro _ w3 ⟨v,ψ,rfl,hst3,hrv⟩;rw[eH]at hst3;have J3:=hst3.2.1 _ hI2.self;have hl3:=J3.kp.keep _ _ hrec rfl;have hlt3:=(δ.1 hl3).1;refine⟨ö,_,run_endLoop hl3 Ψ,rfl,⟨ψ,⟨hs.1.trans (hle2.trans hst3.1),λW' hW=>?_,λk hk=>hs.2.2 k (hst2.2.2 k (hst3.2.2 k hk))⟩,hE2.mono hst3.1⟩,hr.sz,ms2++ms, ?_, ?_,λD' hD'=>?_⟩
  ·have hIw:=hs.2.1 _ hW;have J4:=hst3.2.1 _ (hstep2 _ hIw);refine⟨J4.below.grown (grownBy_putObj' w3 l _) J4.size (λk e=>by cases e;exact hBl),⟨J4.kp.dr,λk o hk ho=>?_⟩,J4.le,λk hk=>?_,by simpa using J4.size,λk=>(J4.obj k).loopT hl3 (World.putObj_heap_same hlt3) λb hb=>World.putObj_heap_other hb,J4.sep⟩
   ·have h1:=hIw.kp.keep _ _ hk ho;have:=(δ.1 h1).1;rw[World.putObj_heap_other Ω];exact J4.kp.keep _ _ hk ho
   ·obtain⟨z1,z2,z3,z4⟩:=J4.cz k hk;refine⟨z1,z2,z3,λg' l' hl'=>?_⟩;have hlw:φ.loc k g'=ä l':=hIw.le.loc k g' l' (by rw[←z1 g'];exact hl');have:=hIw.lt hlw;rw[World.putObj_heap_other Ω];exact z4 g' l' hl'
  ·show mark++a.defers=_;rw[hmark,hms,T_]
  ·rw[alg];refine⟨hnod2,hnod,λD1 h1 D2 h2 ed=>?_⟩;have:=(hmk2 D1 h1).1;have h3:=(δ.1 (hmk D2 h2).2).1;omega
  ·obtain h1|h1:=q'.1 hD'
   ·obtain⟨x1,x2,x3⟩:=hmk2 D' h1;refine⟨?_,by rw[World.putObj_heap_other x2];exact J3.kp.keep _ _ x3 rfl⟩;exact ξ hlo0 (ξ (hs.2.1 _ hI0.self).below.size x1)
   ·obtain⟨x1,x2⟩:=hmk D' h1;have x3:=(δ.1 x2).1;refine⟨x1, ?_⟩;rw[World.putObj_heap_other Ω];exact J3.kp.keep _ _ ((hst2.2.1 _ hI.self).kp.keep _ _ x2 rfl) rfl
end
variable [SymVal]
section
variable {P:å}{Gl:Glt}{B:Nat}{ck:Callk}{Γ:List Lq}{fuel nt:Nat}
def mA (hm:P.follows .mixedOrders=ü)(ckok:CkOk P Gl B ck Γ):∀c:Code,sg P Gl B ck Γ fuel nt c∧∀x y,c = .seq x y→sg P Gl B ck Γ fuel nt y:=by
 intro c;induction c with
 |skip =>refine⟨λro n lo W U h0 w0 p hG j r f C b e d n1 a w x e' d' n' h J=>?_,λ_ _ e=>by cases e⟩;simp only[cC,exec]at h;injection h with h1 h2 h3 h4;subst h1;subst h2;subst h3;exact wpIn_skip ⟨rfl,J⟩
 |label l =>refine⟨λro n lo W U h0 w0 p hG j r f C b e d n1 a w x e' d' n' h J=>?_,λ_ _ e=>by cases e⟩;simp only[cC,exec]at h;injection h with h1 h2 h3 h4;subst h1;subst h2;subst h3;exact wpIn_label ⟨rfl,J⟩
 |region id ops draw=>
  refine⟨λro n lo W U h0 w0 p hG j r f C b e d n1 a w x e' d' n' h J=>?_,λ_ _ e=>by cases e⟩;have conv:∀{e1:Env} {d1:DM} {n2:Pos},RX.ok .normal e1 d1 n2 = .ok x e' d' n'→∀ex a w,jY B lo U h0 w0 nt e1 (HP.ov b d1).get ex a w→Az B lo U h0 w0 nt x e' (HP.ov b d').get ex a w:=by
   intro e1 d1 n2 he ex a w hn;injection he with h1 h2 h3 h4;subst h1;subst h2;subst h3;cases ex with
   |normal=>exact⟨rfl,hn⟩
   |_=>exact hn.elim
  cases draw with
  |false=>
   simp[cC,exec]at h;split at h
   next e1 d1 n2 hrun=>exact wpIn_mono (Ow f.ops p hG ckok j hrun J) (conv h)
   ·cases h
  |true=>
   simp[cC,ac2]at h;split at h
   ·rename_i ps hps;simp[exec]at h;split at h
    ·rename_i rs d1 n2 hrv;split at h
     ·rename_i infs e1 d2 n3 hrt;cases hpo:dH infs ps with
      |false=>rw[hpo]at h;cases h
      |true =>rw[hpo,U']at h;exact wpIn_mono (Qe hm f.ops p hG ckok j hps rfl hrv hrt hpo J) (conv h)
     ·cases h
    ·cases h
   ·cases h
 |seq x y ihx ihy=>
  refine⟨λro n lo W U h0 w0 p hG j r f C b e d n1 a w X e' d' n' h J=>?_,λx' y' e=>by injection e with e1 e2;subst e2;exact ihy.1⟩;simp[cC,exec]at h;split at h
  next x1 e1 d1 n2 hx=>
   refine wpIn_seq (wpIn_mono (ihx.1 ro n lo W U h0 w0 p hG j r (bL.left f) C b e d n1 a w x1 e1 d1 n2 hx J) λex a w hn=>?_);have fin:x1 ≠ .normal→RX.ok x1 e1 d1 n2 = .ok X e' d' n':=λhx=>by
    split at h
    ·exact(hx rfl).elim
    ·exact h
   cases ex with
   |normal =>obtain⟨rfl,R⟩:=hn;exact ihy.1 ro n lo W U h0 w0 p hG j r (bL.right f) C b e1 d1 n2 a w X e' d' n' h R
   |exit id =>obtain⟨rfl,R⟩:=hn;have:=fin (λe=>by cases e);injection this with e1 e2 e3 e4;subst e1;subst e2;subst e3;exact⟨rfl,R⟩
   |ret =>obtain⟨rfl,R⟩:=hn;have:=fin (λe=>by cases e);injection this with e1 e2 e3 e4;subst e1;subst e2;subst e3;exact⟨rfl,R⟩
   |goto _=>exact hn.elim
   |panic _=>exact hn.elim
   |outgrown=>exact hn.elim
  ·cases h
 |cond cnd x y ihx ihy=>
  refine⟨λro n lo W U h0 w0 p hG j r f C b e d n1 a w X e' d' n' h J=>?_,λ_ _ e=>by cases e⟩;simp[cC,exec]at h;split at h
  next t ht=>
   obtain⟨φ,hs,hE⟩:=J.ex;have hv:=mB hE cnd;rw[ht]at hv;have hv:=Iv hv;cases t with
   |true=>exact wpIn_cond_true hv (ihx.1 ro n lo W U h0 w0 p hG j r (bL.left f) C b e d n1 a w X e' d' n' h J)
   |false=>exact wpIn_cond_false hv (ihy.1 ro n lo W U h0 w0 p hG j r (bL.right f) C b e d n1 a w X e' d' n' h J)
  ·cases h
 |block id x ih=>
  refine⟨λro n lo W U h0 w0 p hG j r f C b e d n1 a w X e' d' n' h J=>?_,λ_ _ e=>by cases e⟩;simp[cC,exec]at h;split at h
  next x1 e1 d1 n2 hx=>
   refine wpIn_block (wpIn_mono (ih.1 ro n lo W U h0 w0 p hG j r f C b e d n1 a w x1 e1 d1 n2 hx J) λex a w hn=>?_);cases ex with
   |normal =>obtain⟨rfl,R⟩:=hn;injection h with h1 h2 h3 h4;subst h1;subst h2;subst h3;exact⟨rfl,R⟩
   |exit id'=>
    obtain⟨rfl,R⟩:=hn;show if id'=id then _ else _
    simp only at h;cases hb:Nat.beq id' id with
    |true =>rw[hb]at h;rw[Θ (ν hb)];injection h with h1 h2 h3 h4;subst h1;subst h2;subst h3;exact⟨rfl,R⟩
    |false =>rw[hb]at h;rw[ω (J_ hb)];injection h with h1 h2 h3 h4;subst h1;subst h2;subst h3;exact⟨rfl,R⟩
   |ret =>obtain⟨rfl,R⟩:=hn;injection h with h1 h2 h3 h4;subst h1;subst h2;subst h3;exact⟨rfl,R⟩
   |goto _=>exact hn.elim
   |panic _=>exact hn.elim
   |outgrown=>exact hn.elim
  ·cases h
 |loop c ih=>
  refine⟨λro n lo W U h0 w0 p hG j r f C b e d n1 a w X e' d' n' h J=>?_,λ_ _ e=>by cases e⟩;rcases af5 (P:=P) (Gl:=Gl) (nt:=nt) c with⟨id,ops,y,x,dst,l,rfl,hco,hcc⟩|hcc
  ·rw[hcc]at h;have hplain:pQ (λe d n=>wJ (aQ ck b (.nxt x dst::l) e d n) (exec ck fuel (cC P Gl nt y) b)) fuel e d n1 = .ok X e' d' n'→(Code.loop (.seq (.region id ops ß) y)).wpIn (RF ro) n P (Az B lo U h0 w0 nt X e' (HP.ov b d').get) a w:=λh=>by
    refine wpIn_loop_rounds fuel (tM ih.1 p hG j r f C fuel e d n1 a w X e' d' n' ?_ J);rw[←h];congr 1;funext e d n;simp[cC,hco,exec];cases aQ ck b (.nxt x dst::l) e d n <;> rfl
   simp only[exec]at h;split at h
   ·rename_i it g hx;split at h
    ·rename_i m T sp hit;split at h
     ·rename_i es clock hmm;split at h
      ·rename_i y1 y2 yr;cases hchk:(Nat.ble T sp&&Nat.ble T clock&&(y1::y2::yr).all λx=>Nat.blt x.born T)with
       |false=>rw[hchk]at h;cases h
       |true=>
        rw[hchk,U']at h;simp only[θ,br]at hchk;obtain⟨⟨c1,c2⟩,c3⟩:=hchk;rw[r?]at h;split at h
        ·rename_i heach;have hX:X ≠ .normal∧wJ (aQ ck b l (aV (xa (dst.toList++GN l++sx (cC P Gl nt y)) (ul e)) dst Em) (fA d it .dead) n1) (exec ck fuel (cC P Gl nt y) b) = .ok X e' d' n':=by
          split at h
          ·cases h
          next hne=>refine⟨λe=>?_,h⟩;subst e;exact hne _ _ _ h
         refine wpIn_loop_rounds (GZ (dq (y1::y2::yr)) #[]+1) (N3 hco ckok (ih.2 _ _ rfl) p hG j r f C hx hit hmm c3 c2 heach hX.2 hX.1 _ [] sp a w c1 (akN _) ?_);obtain⟨φ,hs,hE⟩:=J.ex;have e1:upd (HP.ov b d).get it (.mit (ä m) T [] sp)=(HP.ov b d).get:=by
          funext k;simp only[upd];split
          next ek=>rw[←ek,hit]
          ·rfl
         rw[e1];exact⟨⟨φ,hs,hE.drop _⟩,J.sz,J.df⟩
        ·cases h
      ·exact hplain h
     ·cases h
    ·exact hplain h
    ·cases h
   ·cases h
  ·rw[hcc]at h;simp only[exec]at h;exact wpIn_loop_rounds fuel (tM ih.1 p hG j r f C fuel e d n1 a w X e' d' n' h J)
 |exit id =>refine⟨λro n lo W U h0 w0 p hG j r f C b e d n1 a w x e' d' n' h J=>?_,λ_ _ e=>by cases e⟩;simp only[cC,exec]at h;injection h with h1 h2 h3 h4;subst h1;subst h2;subst h3;exact wpIn_exit ⟨rfl,J⟩
 |ret =>refine⟨λro n lo W U h0 w0 p hG j r f C b e d n1 a w x e' d' n' h J=>?_,λ_ _ e=>by cases e⟩;simp only[cC,exec]at h;injection h with h1 h2 h3 h4;subst h1;subst h2;subst h3;exact wpIn_ret ⟨rfl,J⟩
 |rangeFunc g ps x y ihx ihy=>exact⟨WO ckok ihx.1 ihy.1,λ_ _ e=>by cases e⟩
 |scope x ih=>
  refine⟨λro n lo W U h0 w0 p hG j r f C b e d n1 a w X e' d' n' h J=>?_,λ_ _ e=>by cases e⟩;refine wy (wpIn_mono (ih.1 ro n lo W U h0 w0 p hG j r f C b e d n1 a w X e' d' n' h J) λex a w hn=>?_);cases ex with
  |goto _=>exact hn.elim
  |_=>exact hn
 |goto l=>exact⟨λro n lo W U h0 w0 p hG j r f C b e d n1 a w x e' d' n' h J=>(by cases h),λ_ _ e=>by cases e⟩
 |refuse s=>exact⟨λro n lo W U h0 w0 p hG j r f C b e d n1 a w x e' d' n' h J=>(by cases h),λ_ _ e=>by cases e⟩
end
variable [SymVal]
def iL (tmps:Array ø):ResultVar→Sem ø
 |.tmp t=>pure (tmps.getD t é)
 |.cell t f=>do loadVar f (←asAddr (tmps.getD t é))
section
variable {P:å}{Gl:Glt}{B:Nat}{W:W0}{φ U ψ:Gx}{h h0:Pos→EO}{w w0:æ}
def iB.defT {k:Pos}{o:EO}{w U:æ}{L:Nat}{r r':Option (List ê)}(hL:w.heap[L]? = ä (.deferred r))(hL':U.heap[L]? = ä (.deferred r'))(J:∀b,b≠L→U.heap[b]? = w.heap[b]?)(h:iB φ w B k o):iB φ U B k o:=by
 have ne:∀{b:Nat} {x:Obj},w.heap[b]? = ä x→(∀r,x ≠ .deferred r)→U.heap[b]? = ä x:=λ{b x} R hx=>by rw[J b λe=>by subst e;rw[hL]at R;injection R with R;exact hx r R.symm];exact R
 have ex:∀{b:Nat},(∃o,w.heap[b]? = ä o)→∃o,U.heap[b]? = ä o:=λ{b} ⟨o,R⟩=>by
  by_cases e:b=L
  ·subst e;exact⟨_,hL'⟩
  ·exact⟨o,by rw[J b e];exact R⟩
 cases o with
 |none=>exact h
 |row e s el len gen fz =>obtain⟨h0,C,hmm,h2,h3⟩:=h;refine⟨h0,C,hmm,h2,λg hg=>?_⟩;obtain⟨l,q1,⟨r1,r2,e7,fr,r3,r4⟩,j⟩:=h3 g hg;exact⟨l,q1,⟨r1,r2,e7,fr,ne r3 (λ_ e=>by cases e),r4⟩,j⟩
 |map es clock =>obtain⟨C,l,vs,q1,q2,j,P⟩:=h;exact⟨C,l,vs,q1,q2,ne j (λ_ e=>by cases e),P⟩
 |mit m T seen f=>
  obtain⟨C,l,q1,q2,j⟩:=h;refine⟨C,l,q1,q2, ?_⟩;cases m with
  |none=>exact ne j (λ_ e=>by cases e)
  |some m=>obtain⟨l',P,q5⟩:=j;exact⟨l',P,ne q5 (λ_ e=>by cases e)⟩
 |mitU m T bs st =>obtain⟨C,l,l',seen,f,n,q1,q2,j,P,q5⟩:=h;exact⟨C,l,l',seen,f,n,q1,q2,j,ne P (λ_ e=>by cases e),q5⟩
 |sit s p =>obtain⟨C,h2,l,q1,q2,j⟩:=h;exact⟨C,h2,l,q1,q2,ne j (λ_ e=>by cases e)⟩
 |clo fn first caps=>exact h
 |ifc t v=>exact h
 |emp=>exact h
 |dead=>exact λg l q=>⟨(h g l q).1,ex (h g l q).2⟩
 |cz=>exact λg l q=>⟨(h g l q).1,ex (h g l q).2⟩
 |yld =>obtain⟨C,l,q1,q2,j,r0,P⟩:=h;exact⟨C,l,q1,q2,j,r0,ne P (λ_ e=>by cases e)⟩
def XB (_:Inv B W U h0 w0)(C:cr B U h0 w0 ψ h w){D:Nat}{r r':Option (List ê)}(hD:w.heap[D]? = ä (.deferred r))(T:w0.heap.size≤D):cr B U h0 w0 ψ h (w.putObj D (.deferred r')):=by
 have R:=(δ.1 hD).1;refine⟨C.1,λW' g=>?_,C.2.2⟩;have J:=C.2.1 _ g;refine⟨J.below.grown (grownBy_putObj' w D _) J.size (λk e=>by cases e;exact ξ g.size T),⟨J.kp.dr,λk o j ho=>?_⟩,J.le,λk j=>?_,by simpa using J.size,λk=>(J.obj k).defT hD (World.putObj_heap_same R) λb hb=>World.putObj_heap_other hb,J.sep⟩
 ·have h1:=g.kp.keep _ _ j ho;have:=(δ.1 h1).1;rw[World.putObj_heap_other Ω];exact J.kp.keep _ _ j ho
 ·obtain⟨z1,z2,z3,z4⟩:=J.cz k j;refine⟨z1,z2,z3,λl p f=>?_⟩;have P:U.loc k l=ä p:=g.le.loc k l p (by rw[←z1 l];exact f);have:=g.lt P;rw[World.putObj_heap_other Ω];exact z4 l p f
def eV (g:Inv B W U h0 w0){fn:Func}{tmps:Array ø}{R:Ending→æ→Prop}{n:Nat}:∀(f:List Nat) (w:æ),cr B U h0 w0 ψ h w→f.Nodup→(∀D∈f,w0.heap.size≤D∧w.heap[D]? = ä (.deferred (ä []))) →
  (∀l,cr B U h0 w0 ψ h l→∃v,(results fn tmps).run P l = .ok v l∧R (.returned v) l) →
  LeavesInM (RF ö) n P fn tmps R (f.map λD=>{ target :=.collected D,args :=#[] }) .returning w
 |[],w,hs,_,_,hk=>hk w hs
 |D::f,w,hs,hnd,hall,hk=>by obtain⟨hB,J⟩:=hall D (m_ ..);obtain⟨C,r⟩:=aj7.1 hnd;refine⟨Ψ,.inl ⟨D,_,rfl,run_takeDeferred J, ?_⟩⟩;refine eV g f _ (XB g hs J hB) r (λT j=>?_) hk;obtain⟨h1,h2⟩:=hall T (e_ _ j);have p:T≠D:=λe=>C (by rw[←e];exact j);exact⟨h1,(World.putObj_heap_other p).trans h2⟩
variable{e:Env}{tmps:Array ø}{l:List PV}{vs:List ø}
def tn (hI:Inv B W φ h w)(hE:ER φ e tmps){T:ResultVar}{r:FR}(j:afZ P T=ä r){u:PV}(f:yO e h r=ä u):∃v,(iL tmps T).run P w = .ok v w∧denP φ u=ä v:=by
 cases T with
 |tmp t=>
  simp only[afZ]at j;split at j
  next p=>
   cases j;simp[yO]at f;split at f
   next v U=>cases f;have:=hE t p;rw[U]at this;exact⟨_,by simp[iL],this⟩
   ·cases f
  ·cases j
 |cell t ty=>
  simp only[afZ]at j;split at j
  next b hb=>
   split at j
   ·rename_i p;cases j;simp[yO]at f;split at f
    ·rename_i k g C U;have J:=hE t p.1;rw[U]at J;split at f
     ·rename_i cs hcs;obtain⟨l,hl,e⟩:=gV J;obtain⟨vs,q1,q2,q3,_⟩:=hI.rd hcs hl;have R:vs.length=ap P ty:=by rw[ba q1,q2]
      unfold Kr at f;cases b with
      |true =>cases f;refine⟨.agg vs.toArray, ?_,by show denP φ (.agg cs)=_;simp[denP,q1]⟩;have:=aj9 (P:=P) w ⟨l.b,C,ö⟩ vs q3;rw[R]at this;simp[iL,e,asAddr,loadVar,cF hb,aH p.2,this]
      |false=>
       simp only at f;split at f
       next c=>cases f;obtain⟨v,ws,rfl,z1,z2⟩:=bS q1;refine⟨v, ?_,z1⟩;have j:=q3 0 v rfl;rw[show((⟨l.b,C,ö⟩:Addr).add 0)=⟨l.b,C,ö⟩by simp[Addr.add]]at j;simp[iL,e,asAddr,loadVar,cF hb,run_load,j]
       ·cases f
     ·cases f
    ·cases f
   ·cases j
  ·cases j
def gY (j:Inv B W φ h w){e:Env}{tmps:Array ø}(p:ER φ e tmps):∀{f:List ResultVar} {g:List FR} {l:List PV},JP P f=ä g→eP e h g=ä l →
  ∃vs,(f.mapM (iL tmps)).run P w = .ok vs w∧cA φ l=ä vs
 |[],g,l,hc,hr=>by cases hc;cases hr;exact⟨[],Ψ,rfl⟩
 |rv::f,g,l,hc,hr=>by
  simp[JP]at hc;split at hc
  next a b h1 h2=>
   cases hc;simp[eP]at hr;split at hr
   ·rename_i u r;split at hr
    next us hus=>cases hr;obtain⟨v,J,C⟩:=tn j p h1 r;obtain⟨vs,q1,q2⟩:=gY j p h2 hus;refine⟨v::vs, ?_,bJ C q2⟩;rw[akk,π,J,χ,π,q1,χ];rfl
    ·cases hr
   ·cases hr
  ·cases hc
def JF:∀{l:List PV} {vs:List ø},cA φ l=ä vs→vs.length=l.length
 |[],vs,r=>by cases r;rfl
 |c::l,vs,r=>by obtain⟨v,ws,rfl,_,f⟩:=gk r;simp[JF f]
def nO (f:cA φ l=ä vs):RT φ (pF l) (if h:vs.length=1 then vs[0]else .tuple vs.toArray):=by
 have g:=JF f;match l,vs,f,g with
 |[],[],f,_=>exact⟨[],rfl,Ψ⟩
 |[u],[v],f,_ =>obtain⟨p,ws,e,j,r⟩:=gk f;cases e;have j:RT φ (.pv u) v:=j;simpa[pF]using j
 |u::u'::l,v::p::vs,f,_=>exact⟨v::p::vs,f,Ψ⟩
def fE (p:Inv B W φ h w)(r:ER φ e tmps){fn:Func}{f:List FR}(j:JP P fn.results.toList=ä f)(g:eP e h f=ä l):∃v,(results fn tmps).run P w = .ok v w∧RT φ (pF l) v:=by
 obtain⟨vs,J,C⟩:=gY p r j g;refine⟨_, ?_,nO C⟩;have e:results fn tmps=(do let vs ←fn.results.mapM (iL tmps);pure (if h:vs.size=1 then vs[0]else .tuple vs)):=by unfold results;congr 2
 rw[e,H?,π,akL,π,J,χ];simp
def FB:∀(l:List TV) (p:Pos) (e:Env) (q:Pos),(tB l p e).get .unk q=if p.num≤q.num∧q.num<p.num+l.length then l.getD (q.num-p.num) .unk else e.get .unk q
 |[],p,e,q=>by simp[tB];intro g r;omega
 |a::l,p,e,q=>by
  simp only[tB];rw[FB l p.succ (PM.set .unk p e a) q,PM.cf,Pos.Pr];simp only[upd];by_cases f:p=q
  ·subst f;rw[ω Ω,Θ rfl,Θ ⟨ε _,Ψ⟩,alL];rfl
  ·have j:p.num≠q.num:=λe=>f (Pos.inj e);rw[ω f];simp only[v_];by_cases g:p.num+1≤q.num∧q.num<p.num+1+l.length
   ·rw[Θ g,Θ ⟨Ω,Ω⟩,show q.num-p.num=(q.num-(p.num+1))+1 by omega,List.getD_cons_succ]
   ·rw[ω g,ω Ω]
def RTs.get:∀{l:List TV} {vs:List ø} (i:Nat),RTs φ l vs→i<l.length→RT φ (l.getD i .unk) (vs.getD i é)
 |a::l,vs,0,h,_=>by obtain⟨v,ws,rfl,g,f⟩:=h.cons;exact g
 |a::l,vs,i+1,h,hi=>by obtain⟨v,ws,rfl,g,f⟩:=h.cons;simp;exact RTs.get i f (by simpa using hi)
 |[],_,_,_,hi=>by simp at hi
def qe {l:List TV}(g:RTs φ l vs)(n:Nat):ER φ (tB l .e .leaf) (vs.toArray++Array.replicate n é):=λt j=>by
 have p:(pos t).num=t:=tv 64 t j;rw[FB,p];simp only[Pos.num,Y',Z',true_and,akB];split
 next hlt=>
  have f:t<vs.length:=by have:=g.len;omega
  have:=g.get t hlt;have e:(vs.toArray++Array.replicate n é).getD t é=vs.getD t undef:=by rw[u_,O',n? (by simpa using f)];simp
  rw[e];exact this
 ·exact trivial
def Yc {f:FuncId}{x:Fi}(hx:jU P Gl f=ä x):∃fn c rs,P.funcs[f]? = ä fn∧fn.body=ä c∧(fn.name == "runtime.NumGoroutine")=ß∧JP P fn.results.toList=ä rs∧x=⟨cC P Gl fn.ntmps c,rs,fn.ntmps⟩:=by
 unfold jU at hx;split at hx
 next fn hf=>
  split at hx
  next c hb=>
   split at hx
   ·cases hx
   ·rename_i hn;split at hx
    next rs hrs=>simp at hx;exact⟨fn,c,rs,hf,hb,by simpa using hn,hrs,hx.symm⟩
    ·cases hx
  ·cases hx
 ·cases hx
def φN:Gx:=⟨λ_ _=>ö,λ_=>ö,λ_=>ö⟩
def ajb (w:æ):Inv w.heap.size ⟨w,φN⟩ φN (HP.ov .nil .leaf).get w :=
 ⟨Below.refl _ _,Kp.refl _,Gx.le.refl _,λ_ h=>(by cases h),ε _,λ_=>⟨λ_=>rfl,rfl,rfl⟩,λ_ _ _ _ _ _ h=>(by cases h)⟩
end
