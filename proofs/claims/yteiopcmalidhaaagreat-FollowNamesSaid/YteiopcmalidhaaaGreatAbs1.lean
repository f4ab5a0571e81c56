/- Texts that are read twice. -/
import Derived.Test.YteiopcmalidhaaaGreatAbsR
import Derived.LoopN
import Derived.RangeFuncIn
import Derived.RangeFuncRecord
import Derived.Carry
import Derived.ProofKit
import Derived.OpenShut
set_option linter.all false
namespace Go.Proofs.YteiopcmalidhaaaGreat
namespace Abs
open Go Go.RowKit
section
variable {B:Bd}{w0:World}{J:Sb}{c:Gh}{h0:Nat}
def AP (c:Gh)(H:List HO)(s:Value):Prop :=
 s.ownBlock=none∨∃k,c.rv k=s∧((∃t e f v,c.heap[k]? = some (.row t e f)∧H[k]? = some (.row t e v)∧f<v)∨(∃t e v l,c.heap[k]? = some (.mrow t e v l)∧H[k]? = some .dead))
def adU (B:Bd)(c:Gh)(t:Ty)(e:TypeId)(l:List t.den)(s:Value):Prop :=
 ∃xs,c.w.ownsRow B e t.size s l.length xs∧Rep c.w c.St (chain (toD t) l) xs∧∀b,s.ownBlock=some b→∀o,¬c.St b o
def IN (B:Bd)(c:Gh)(H:List HO):LE→Value→Prop
 |.own t e,s=>(∃n g,c.w.ownsRow B e t.size s n g∧∀b,s.ownBlock=some b→∀o,n*t.size≤o→¬c.St b o)∧AP c H s
 |.mut t e f l,s=>adU B c t e l s∧AP c H s∧∀k v,f=some (k,v)→c.heap[k]? = some (.mrow t e v l)∧c.rv k=s
 |.frz t e f l,s=>adU B c t e l s∧AP c H s∧∀k v,f=some (k,v)→c.heap[k]? = some (.mrow t e v l)∧c.rv k=s
structure CInv (B:Bd)(c:Gh)(H:List HO)(L:List LE)(V:List Value):Prop where
 len:H.length=c.heap.length
 lv:L.length=V.length
 box:∀(k:Nat) (cells:List AV),H[k]? = some (.box cells)↔c.heap[k]? = some (.box cells)
 row:∀(k:Nat) t e v,H[k]? = some (.row t e v)→∃v0,c.heap[k]? = some (.row t e v0)∧v0≤v
 back:∀(k:Nat) t e v0,c.heap[k]? = some (.row t e v0)→∃v,H[k]? = some (.row t e v)∧v0≤v
 claim:∀(i:Nat) le s,L[i]? = some le→V[i]? = some s→IN B c H le s
 dist:∀(i j:Nat) s s' b,i≠j→V[i]? = some s→V[j]? = some s'→s.ownBlock=some b→s'.ownBlock≠some b
 mrow:∀(k:Nat) t e v l,H[k]? = some (.mrow t e v l)→c.heap[k]? = some (.mrow t e v l)
 mback:∀(k:Nat) t e v l,c.heap[k]? = some (.mrow t e v l)→H[k]? = some (.mrow t e v l)∨H[k]? = some HO.dead
 dead:∀(k:Nat),c.heap[k]? = some HO.dead→H[k]? = some HO.dead
structure Fin (c c':Gh)(h0:Nat)(L:List LE)(V:List Value):Prop where
 w:c'.w=c.w
 St:∀b o,c'.St b o↔(c.St b o∨∃(i:Nat) (t:Ty) (e:TypeId) (ko:Option (Nat×Nat)) (l:List t.den) (s:Value),L[i]? = some (.frz t e ko l)∧V[i]? = some s∧s.ownBlock=some b)
 blk:c'.blk=c.blk
 lp:c'.lp=c.lp
 box:∀(k:Nat) (cells:List AV),k<h0→c.heap[k]? = some (.box cells)→∃cells',c'.heap[k]? = some (.box cells')
 row:∀(k:Nat) t e v0,k<h0→c.heap[k]? = some (.row t e v0)→∃v,c'.heap[k]? = some (.row t e v)∧v0≤v∧(v=v0→c'.rv k=c.rv k)
 new:∀(i:Nat) le s,L[i]? = some le→V[i]? = some s→c'.heap[h0+i]? = some le.ho∧c'.rv (h0+i)=s
 mrow:∀(k:Nat) t e v l,k<h0→c.heap[k]? = some (.mrow t e v l)→(c'.heap[k]? = some (.mrow t e v l)∧c'.rv k=c.rv k)∨c'.heap[k]? = some HO.dead
 dead:∀(k:Nat),k<h0→c.heap[k]? = some HO.dead→c'.heap[k]? = some HO.dead
 j:c'.St.j=c.St.j
def aip (c:Gh)(h0:Nat)(L:List LE)(V:List Value)(a:AV)(v:Value):Prop :=
 ∀f j g,Fin c f h0 j g→L <+: j→V <+: g→RA f a [v]
def bL {f:Type}{l g:List f}(h:l <+: g){i:Nat}{x:f}(j:l[i]? = some x):g[i]? = some x:=by obtain⟨r,rfl⟩:=h;rw[ο (ak j)];exact j
variable{c' :Gh}{L:List LE}{V:List Value}{k:Nat}{H:List HO}
def Fin.st (h:Fin c c' h0 L V):c.St.le c'.St:=⟨λb o x=>(h.St b o).2 (.inl x),λb e cap n x=>by rw[h.j];exact x⟩
def Fin.cell (h:Fin c c' h0 L V):∀(a:Addr) v,c.St a.block a.off→a.spot=none→c.w.cell? a=some v→c'.w.cell? a=some v:=λa v _ _ x=>by rw[h.w];exact x
def Fin.mutAt (h:Fin c c' h0 L V){v:Nat}{Q:Value→Ty→Prop}(p:k<h0)(m:rG c k v (Q (c.rv k))):rG c' k v (Q (c'.rv k)):=by
 rcases m with⟨t,e,j,l,C,f,r⟩|hd
 ·rcases h.mrow k t e j l p C with⟨g,J⟩|g
  ·exact .inl ⟨t,e,j,l,g,f,λe=>by rw[J];exact r e⟩
  ·exact .inr g
 ·exact .inr (h.dead k p hd)
def Fin.keep {c':Gh}{L:List LE}{V:List Value}(h:Fin c c' h0 L V):∀{a:AV} {vs:List Value},a.under h0=true→RA c a vs→RA c' a vs
 |.unk,_,_,r=>r
 |.val t x,_,_,⟨v,e,r⟩=>⟨v,e,r.mono h.st h.cell⟩
 |.nil,_,_,r=>r
 |.own k v t l,_,J,⟨s,e,r,t',e',v',hr,hle,heq⟩=>by simp only[AV.under,ρ]at J;obtain⟨v2,R,l2,q2⟩:=h.row k t' e' v' J hr;exact⟨s,e,r.mono h.st h.cell,t',e',v2,R,Θ hle l2,λx=>(heq Ω).trans (q2 Ω).symm⟩
 |.ref t x,_,_,⟨ad,ds,e,hs,hd,hc⟩=>⟨ad,ds,e,hs,hd.mono h.st h.cell,λj u J=>⟨by rw[h.w];exact(hc j u J).1,h.st.s _ _ (hc j u J).2⟩⟩
 |.box k P,_,J,⟨cells,hk,e⟩=>by simp only[AV.under,ρ]at J;obtain⟨c2,R⟩:=h.box k cells J hk;exact⟨c2,R,by rw[h.blk];exact e⟩
 |.fn f U,_,J,⟨T,e,r,o⟩=>⟨T,e,h.keep (a:=U) J r,o⟩
 |.agg p,_,J,⟨T,e,r,o⟩=>⟨T,e,h.keep (a:=p) J r,o⟩
 |.tup p,_,J,⟨T,e,r,o⟩=>⟨T,e,h.keep (a:=p) J r,o⟩
 |.pnil,_,_,r=>r
 |.pcons a b,_,J,⟨v,r,e,ha,hb⟩=>by simp only[AV.under,κ]at J;exact⟨v,r,e,h.keep J.1 ha,h.keep J.2 hb⟩
 |.cond g a,vs,J,r=>by
  simp[RA]at r⊢;split
  next hg=>simp[hg]at r;exact h.keep (a:=a) J r
  next hg=>simp[hg]at r;exact r
 |.msl k v lo hi,_,J,⟨s,e,o1,m⟩=>by simp only[AV.under,ρ]at J;exact⟨s,e,o1,h.mutAt (Q:=λr t=>rH r t.size lo hi s) J m⟩
 |.yld j,_,J,⟨hd,e⟩=>by simp only[AV.under,ρ]at J;exact⟨h.dead j J hd,by rw[h.lp];exact e⟩
 |.fix C w,_,_,⟨e,h1,R⟩=>⟨e,λb o x=>h.st.s b o (h1 b o x),λa v x s y=>h.cell a v (h1 _ _ x) s (R a v x s y)⟩
 |.mpt k v i P,_,J,⟨s,e,o1,m⟩=>by simp only[AV.under,ρ]at J;exact⟨s,e,o1,h.mutAt (Q:=λr t=>ptS r t.size i P s) J m⟩
def Fin.keeps {c':Gh}{L:List LE}{V:List Value}(h:Fin c c' h0 L V):∀{l:List AV} {g:List Value},l.all (AV.under h0)=true→RAs c l g→RAs c' l g
 |[],[],_,_=>trivial
 |_::_,_::_,f,⟨a,b⟩=>by simp only[q?,κ]at f;exact⟨h.keep f.1 a,h.keeps f.2 b⟩
def CInv.push {p :List HO}(f:CInv B c H L V){le:LE}{s:Value}(hlen:p.length=H.length)(box:∀(k:Nat) (cells:List AV),p[k]? = some (.box cells)↔H[k]? = some (.box cells))
  (row:∀(k:Nat) t e v,p[k]? = some (.row t e v)→∃r,H[k]? = some (.row t e r)∧r≤v) (T:∀(k:Nat) t e v,H[k]? = some (.row t e v)→∃r,p[k]? = some (.row t e r)∧v≤r)
  (mrow:∀(k:Nat) t e v l,p[k]? = some (.mrow t e v l)→H[k]? = some (.mrow t e v l)) (U:∀(k:Nat) t e v l,H[k]? = some (.mrow t e v l)→p[k]? = some (.mrow t e v l)∨p[k]? = some HO.dead)
  (dead:∀(k:Nat),H[k]? = some HO.dead→p[k]? = some HO.dead) (hcl:IN B c p le s) (hfr:∀b,s.ownBlock=some b→∀(j:Nat) s',V[j]? = some s'→s'.ownBlock≠some b):CInv B c p (L++[le]) (V++[s]):=by
 have ht:∀s,AP c H s→AP c p s:=by
  intro s h;obtain h|⟨k,J,g⟩:=h
  ·exact .inl h
  ·refine .inr ⟨k,J, ?_⟩;rcases g with⟨t,e,v0,v,g1,g2,g3⟩|⟨t,e,v,l,g1,g2⟩
   ·obtain⟨r,g4,g5⟩:=T k t e v g2;exact .inl ⟨t,e,v0,r,g1,g4,Ω⟩
   ·exact .inr ⟨t,e,v,l,g1,dead k g2⟩
 have hcl':∀le s,IN B c H le s→IN B c p le s:=by
  intro le s h;cases le with
  |own t e=>exact⟨h.1,ht s h.2⟩
  | «mut» t e ko l=>exact⟨h.1,ht s h.2.1,h.2.2⟩
  |frz t e ko l=>exact⟨h.1,ht s h.2.1,h.2.2⟩
 refine⟨hlen.trans f.len,by simp[f.lv],λk cells=>(box k cells).trans (f.box k cells),λk t e v P=>?_,λk t e v0 P=>?_,λi le' s' hl hs=>?_,λi j s1 s2 b hij J g b1 b2=>?_,λk t e v l P=>f.mrow k t e v l (mrow k t e v l P),λk t e v l P=>?_,λk P=>dead k (f.dead k P)⟩
 ·obtain⟨r,J,g⟩:=row k t e v P;obtain⟨v0,h3,h4⟩:=f.row k t e r J;exact⟨v0,h3,Θ h4 g⟩
 ·obtain⟨r,J,g⟩:=f.back k t e v0 P;obtain⟨v2,h3,h4⟩:=T k t e r J;exact⟨v2,h3,Θ g h4⟩
 ·obtain hlt|hge:=d_ i L.length
  ·rw[ο hlt]at hl;rw[ο (by rw[←f.lv];exact hlt)]at hs;exact hcl' _ _ (f.claim i le' s' hl hs)
  ·rw[Q' hge]at hl;rw[Q' (by rw[←f.lv];exact hge)]at hs;have R:i-L.length=0:=by have:=ak hl;simp at this;omega
   rw[R]at hl;rw[←f.lv,R]at hs;simp at hl hs;subst hl;subst hs;exact hcl
 ·have C:∀(i:Nat) x,V.length≤i→(V++[s])[i]? = some x→x=s∧i=V.length:=λi x hi hx=>by
   rw[Q' hi]at hx;have R:i-V.length=0:=by have:=ak hx;simp at this;omega
   rw[R]at hx;simp at hx;exact⟨hx.symm,Ω⟩
  obtain hi|hi:=d_ i V.length
  ·rw[ο hi]at J;obtain hj|hj:=d_ j V.length
   ·rw[ο hj]at g;exact f.dist i j s1 s2 b hij J g b1 b2
   ·obtain⟨rfl,_⟩:=C j s2 hj g;exact hfr b b2 i s1 J b1
  ·obtain⟨rfl,hi'⟩:=C i s1 hi J;obtain hj|hj:=d_ j V.length
   ·rw[ο hj]at g;exact hfr b b1 j s2 g b2
   ·obtain⟨_,hj'⟩:=C j s2 hj g;omega
 ·obtain h|h:=f.mback k t e v l P
  ·exact U k t e v l h
  ·exact .inr (dead k h)
def CInv.fresh (hI:Inv B w0 J c)(hc:CInv B c H L V)(T:obk c k=(c.rv k).ownBlock)
  (hk:(∃t e v,c.heap[k]? = some (.row t e v)∧H[k]? = some (.row t e v))∨∃t e v l,H[k]? = some (.mrow t e v l)) :
  ∀b,(c.rv k).ownBlock=some b→∀(j:Nat) s',V[j]? = some s'→s'.ownBlock≠some b:=by
 intro b hb j s' hj g;have hjl:j<L.length:=by rw[hc.lv];exact ak hj
 have f:=hc.claim j L[j] s' (δ hjl) hj;have R:AP c H s':=by
  generalize L[j]=le at f;cases le with
  |own t e=>exact f.2
  | «mut» t e ko l=>exact f.2.1
  |frz t e ko l=>exact f.2.1
 obtain h|⟨C,h1,h2⟩:=R
 ·rw[h]at g;cases g
 ·have U:C≠k:=λe=>by
   subst e;rcases h2 with⟨t,e,v0,v,r,p,g3⟩|⟨t,e,v,l,r,p⟩
   ·rcases hk with⟨P,e',v',q1,q2⟩|⟨P,e',v',l',q2⟩
    ·rw[r]at q1;rw[p]at q2;injection q1 with q1;injection q2 with q2;injection q1 with _ _ q1;injection q2 with _ _ q2;omega
    ·rw[p]at q2;cases q2
   ·rcases hk with⟨P,e',v',q1,q2⟩|⟨P,e',v',l',q2⟩ <;> rw[p]at q2 <;> cases q2
  have:obk c C=(c.rv C).ownBlock:=by
   rcases h2 with⟨t,e,v0,v,r,p,g3⟩|⟨t,e,v,l,r,p⟩ <;> (unfold obk;rw[r])
  exact hI.sep C k b U (by rw[this,h1];exact g) (by rw[T];exact hb)
def Ta {v:Nat}{f:Option (Nat×Nat)}(h:acE k v f=true):f=some (k,v):=by
 cases f with
 |none=>cases h
 |some p =>obtain⟨j,g⟩:=p;simp only[acE,κ]at h;rw[ν h.1,ν h.2]
def kH {t:Ty}{k v:Nat}:∀{L:List LE} {i j:Nat},yU t k v i L=some j→∃n e l,j=i+n∧L[n]? = some (.mut t e (some (k,v)) l)
 |[],_,_,h=>by cases h
 |le::r,i,j,h=>by
  cases le with
  | «mut» J e P l=>
   simp only[yU]at h;split at h
   next hc=>simp at hc;obtain⟨C,f⟩:=hc;subst f;injection h with h;exact⟨0,e,l,Ω,by rw[Ta C];rfl⟩
   ·obtain⟨n,p,g,C,f⟩:=kH h;exact⟨n+1,p,g,Ω,by simpa using f⟩
  |own J e=>obtain⟨n,p,g,C,f⟩:=kH (L:=r) (i:=i+1) h;exact⟨n+1,p,g,Ω,by simpa using f⟩
  |frz J e P l=>obtain⟨n,p,g,C,f⟩:=kH (L:=r) (i:=i+1) h;exact⟨n+1,p,g,Ω,by simpa using f⟩
def kI {t:Ty}{k v:Nat}{l:List t.den}:∀{L:List LE},yV t k v L=some l→∃(n:Nat) (e:TypeId),L[n]? = some (.frz t e (some (k,v)) l)
 |[],h=>by cases h
 |le::r,h=>by
  cases le with
  |frz p e J C=>
   simp[yV]at h;split at h
   ·rename_i P;split at h
    next l2 hcast=>obtain⟨R,f⟩:=cast?_some hcast;cases R;have f:l2=C:=f;subst f;cases h;exact⟨0,e,by rw[Ta P];rfl⟩
    ·cases h
   ·obtain⟨n,j,g⟩:=kI h;exact⟨n+1,j,by simpa using g⟩
  |own p e=>obtain⟨n,j,g⟩:=kI (L:=r) h;exact⟨n+1,j,by simpa using g⟩
  | «mut» p e J C=>obtain⟨n,j,g⟩:=kI (L:=r) h;exact⟨n+1,j,by simpa using g⟩
def KC {w:World}{St:Sb}{p:Ty}{e:TypeId}{l:List p.den}{s v:Value}{f j:Nat}{xs:List Value}(J:w.ownsRow B e p.size s l.length xs)(T:Rep w St (chain (toD p) l) xs)(C:∀b o,s.ownBlock=some b→St b o)(h:rH s p.size f j v) :
  Rep w St (toD (.slice p) ((l.take j).drop f)) [v]:=by
 have whole:=zV J T rfl (λb o hb _=>C b o hb);rcases h with⟨rfl,rfl,rfl,rfl⟩|⟨g,n,cap,A,rfl,h2,h3,rfl,P⟩
 ·exact⟨none,0,0,rfl,by simp[len_chain],ζ _,.inl rfl⟩
 ·have hn:n=l.length∧n≤cap:=by
   rcases J.2 with⟨q,_⟩|⟨g',R,cur,q,_,_,q4,_⟩
   ·cases q
   ·injection q with _ q1 q2;omega
  obtain⟨rfl,U⟩:=hn;have r:((l.take j).drop f).length=j-f:=by simp;omega
  by_cases h0:j-f=0
  ·exact⟨A,j-f,cap-f,rfl,by rw[len_chain,r],Ω,.inl h0⟩
  ·have:=Sv whole h2 h3;rw[B' Ω]at this;obtain rfl|P:=P
   ·simpa[cN]using this
   ·omega
def w9 (hI:Inv B w0 J c){m:MK}{a a':AV}{v:Value}{H' :List HO}{L' :List LE}(U:CInv B c H L V)(h:conv h0 m a H L=some (a',H',L'))(hr:RA c a [v]) :
  ∃V',CInv B c H' L' V'∧L <+: L'∧V <+: V'∧aip c h0 L' V' a' v:=by
 have f:∀{α:Type} (l:List α) (x:α),(l++[x])[l.length]? = some x:=λl x=>by simp
 have pushNil:∀le,IN B c H le (.slice none 0 0)→CInv B c H (L++[le]) (V++[.slice none 0 0]):=λle hcl=>
  U.push rfl (λ_ _=>Iff.rfl) (λk t e v h=>⟨v,h,ζ _⟩) (λk t e v h=>⟨v,h,ζ _⟩) (λ_ _ _ _ _ h=>h) (λ_ _ _ _ _ h=>.inl h) (λ_ h=>h) hcl (λb hb=>by simp[Value.ownBlock]at hb)
 have pushM:∀(k ver:Nat) (t:Ty) (e:TypeId) (l:List t.den) (le:LE),H[k]? = some (.mrow t e ver l)→(∀H',AP c H' (c.rv k)→IN B c H' le (c.rv k))→CInv B c (H.set k .dead) (L++[le]) (V++[c.rv k]):=λk ver t e l le hH hcl=>by
  have hck:=U.mrow k t e ver l hH;have hklt:=ak hH;have C:∀j,j≠k→(H.set k HO.dead)[j]? = H[j]?:=λj p=>by rw[get_set,B' (λe=>p e.symm)]
  have new:(H.set k HO.dead)[k]? = some HO.dead:=by rw[get_set,β rfl,β hklt]
  have hob:obk c k=(c.rv k).ownBlock:=by unfold obk;rw[hck]
  refine U.push Ψ (λj cells=>?_) (λj t' e' v' p=>?_) (λj t' e' v' p=>?_) (λj t' e' v' l' p=>?_) (λj t' e' v' l' p=>?_) (λj p=>?_) (hcl _ (.inr ⟨k,rfl,.inr ⟨t,e,ver,l,hck,new⟩⟩)) (U.fresh hI hob (.inr ⟨t,e,ver,l,hH⟩))
  ·by_cases g:j=k
   ·subst g;rw[new,hH];simp
   ·rw[C j g]
  ·have g:j≠k:=λe=>by subst e;rw[new]at p;cases p
   rw[C j g]at p;exact⟨v',p,ζ _⟩
  ·have g:j≠k:=λe=>by subst e;rw[hH]at p;cases p
   exact⟨v',(C j g).trans p,ζ _⟩
  ·have g:j≠k:=λe=>by subst e;rw[new]at p;cases p
   rw[C j g]at p;exact p
  ·by_cases g:j=k
   ·subst g;exact .inr new
   ·exact .inl ((C j g).trans p)
  ·by_cases g:j=k
   ·subst g;exact new
   ·exact(C j g).trans p
 cases m with
 |dat t=>
  cases a with
  |msl k ver lo hi=>
   simp[conv]at h;split at h
   ·rename_i τ;split at h
    ·rename_i l hfz;cases h;obtain⟨n,e,hn⟩:=kI hfz;have hnl:=ak hn;have hnl2:n<V.length:=by rw[←U.lv];exact hnl
     have hnv:V[n]? = some V[n]:=δ hnl2;obtain⟨⟨xs,m1,m2,m3⟩,_,c2⟩:=U.claim n _ _ hn hnv;obtain⟨c3,c4⟩:=c2 k ver rfl;have r:=dX hr c3;refine⟨V,U,x_ _,x_ _,λc' Lf Vf P hL hV=>⟨v,rfl,(repv_cell rfl).2 ?_⟩⟩;refine KC (B:=B) (e:=e) (xs:=xs) (s:=V[n]) (by rw[P.w];exact m1) (m2.mono P.st P.cell) (λb o hb=>(P.St b o).2 (.inr ⟨n,τ,e,_,l,V[n],bL hL hn,bL hV hnv,hb⟩)) (by rw[←c4];exact r)
    ·split at h
     ·rename_i τ' e v' l hH;split at h
      ·rename_i q1;subst q1;split at h
       next l2 T=>obtain⟨et,R⟩:=cast?_some T;injection et with et;subst et;have R:l2=l:=R;subst R;cases h;have hck:=U.mrow k _ _ _ _ hH;have r:=dX hr hck;obtain⟨xs,m1,m2,m3⟩:=hI.mrow k _ _ _ _ hck;have mr:adU B c τ' e l2 (c.rv k):=⟨xs,m1,m2,m3⟩;refine⟨V++[c.rv k],pushM k v' τ' e l2 _ hH (λH' ht=>⟨mr,ht,λk' v'' he=>by injection he with he;injection he with he1 he2;subst he1;subst he2;exact⟨hck,rfl⟩⟩),R_ _ _,R_ _ _,λc' Lf Vf P hL hV=>⟨v,rfl,(repv_cell rfl).2 ?_⟩⟩;have hl:=bL hL (f L _);have hv:=bL hV (f V _);rw[←U.lv]at hv;exact KC (B:=B) (e:=e) (xs:=xs) (s:=c.rv k) (by rw[P.w];exact m1) (m2.mono P.st P.cell) (λb o hb=>(P.St b o).2 (.inr ⟨L.length,τ',e,_,l2,c.rv k,hl,hv,hb⟩)) r
       ·cases h
      ·cases h
     ·cases h
   ·cases h
  |_=>
   simp[conv]at h;split at h
   next x hx=>cases h;exact⟨V,U,x_ _,x_ _,λc' Lf Vf P _ _=>⟨v,rfl,(dat?_sound hx hr).mono P.st P.cell⟩⟩
   ·cases h
 |keep=>
  simp only[conv]at h;split at h
  next hu=>cases h;exact⟨V,U,x_ _,x_ _,λc' Lf Vf P _ _=>P.keep hu hr⟩
  ·cases h
 |drop =>cases h;exact⟨V,U,x_ _,x_ _,λc' Lf Vf P _ _=>⟨v,rfl⟩⟩
 | «mut» t e=>
  cases a with
  |nil =>cases h;have hv:[v]=[.slice none 0 0]:=hr;simp only[I',I_]at hv;subst hv;refine⟨V++[.slice none 0 0],pushNil (LE.mut t e none []) ⟨⟨[],M_ _ _ _ _,rfl,λb hb=>by simp[Value.ownBlock]at hb⟩,.inl rfl,λk v he=>by cases he⟩,R_ _ _,R_ _ _,λc' Lf Vf P hL hV=>?_⟩;have hl:=bL hL (f L _);have hv:=bL hV (f V _);rw[←U.lv]at hv;obtain⟨n1,n2⟩:=P.new _ _ _ hl hv;exact su (τ:=t) (e:=e) (l:=[]) n1 (by rw[n2];exact .inl ⟨rfl,rfl,rfl,rfl⟩)
  |msl k ver lo hi=>
   simp only[conv]at h;split at h
   ·rename_i i hfm;simp only[θ,χ]at h;obtain⟨rfl,rfl,rfl⟩:=h;obtain⟨n,e',l,hin,hn⟩:=kH hfm;have hin:i=n:=Ω
    subst hin;have hnl:=ak hn;have hnl2:i<V.length:=by rw[←U.lv];exact hnl
    have hnv:V[i]? = some V[i]:=δ hnl2;obtain⟨_,_,c2⟩:=U.claim i _ _ hn hnv;obtain⟨c3,c4⟩:=c2 k ver rfl;have r:=dX hr c3;refine⟨V,U,x_ _,x_ _,λc' Lf Vf P hL hV=>?_⟩;obtain⟨n1,n2⟩:=P.new _ _ _ (bL hL hn) (bL hV hnv);exact su (τ:=t) (e:=e') (l:=l) n1 (by rw[n2,←c4];exact r)
   ·split at h
    ·rename_i t2 e2 v2 l hH;split at h
     ·rename_i q1;split at h
      ·rename_i q2;split at h
       next l2 T=>obtain⟨et,R⟩:=cast?_some T;injection et with et;subst et;have R:l2=l:=R;subst R;subst q1;subst q2;simp only[θ,χ]at h;obtain⟨rfl,rfl,rfl⟩:=h;have hck:=U.mrow k _ _ _ _ hH;have r:=dX hr hck;obtain⟨xs,m1,m2,m3⟩:=hI.mrow k _ _ _ _ hck;have mr:adU B c t2 e2 l2 (c.rv k):=⟨xs,m1,m2,m3⟩;refine⟨V++[c.rv k],pushM k v2 t2 e2 l2 _ hH (λH' ht=>⟨mr,ht,λk' v'' he=>by injection he with he;injection he with he1 he2;subst he1;subst he2;exact⟨hck,rfl⟩⟩),R_ _ _,R_ _ _,λc' Lf Vf P hL hV=>?_⟩;have hl:=bL hL (f L _);have hv:=bL hV (f V _);rw[←U.lv]at hv;obtain⟨n1,n2⟩:=P.new _ _ _ hl hv;exact su (τ:=t2) (e:=e2) (l:=l2) n1 (by rw[n2];exact r)
       ·cases h
      ·cases h
     ·cases h
    ·cases h
  |_=>simp[conv]at h
 |own t e=>
  cases a with
  |nil =>simp only[conv,θ,χ]at h;obtain⟨rfl,rfl,rfl⟩:=h;have hv:[v]=[.slice none 0 0]:=hr;simp only[I',I_]at hv;subst hv;refine⟨V++[.slice none 0 0],pushNil (LE.own t e) ⟨⟨0,[],M_ _ _ _ _,λb hb=>by simp[Value.ownBlock]at hb⟩,.inl rfl⟩,R_ _ _,R_ _ _,λc' Lf Vf P hL hV=>?_⟩;have hl:=bL hL (f L _);have hv:=bL hV (f V _);rw[←U.lv]at hv;obtain⟨n1,n2⟩:=P.new _ _ _ hl hv;exact⟨_,rfl,(repv_cell rfl).2 ⟨none,0,0,rfl,rfl,ζ _,.inl rfl⟩,t,e,0,n1,ζ _,λ_=>n2.symm⟩
  |own k ver t1 l=>
   simp only[conv]at h;split at h
   ·rename_i t2 e2 v2 hH;split at h
    ·rename_i q1;split at h
     ·rename_i q2;split at h
      ·rename_i q3;split at h
       ·rename_i l2 T;obtain⟨et,R⟩:=cast?_some T;injection et with et;subst et;have R:l2=l:=R;subst R;subst q1;subst q2;subst q3;simp only[θ,χ]at h;obtain⟨rfl,rfl,rfl⟩:=h;obtain⟨s,es,hrep,t',e',v',hrow,hle,hcur⟩:=hr;simp only[I',I_]at es;subst es;obtain⟨v0,hc0,hv0⟩:=U.row k _ _ _ hH;rw[hc0]at hrow;injection hrow with hrow;injection hrow with r1 r2 r3;subst r1;subst r2;subst r3;have hve:v0=v2:=Ω
        subst hve;have hs:v=c.rv k:=hcur rfl;obtain⟨n,xs,hown,hsp⟩:=hI.row k _ _ _ hc0;have hklt:=ak hH;have hob:obk c k=(c.rv k).ownBlock:=by unfold obk;rw[hc0]
        have C:∀j,j≠k→(H.set k (.row t2 e2 (v0+1)))[j]? = H[j]?:=λj p=>by rw[get_set,B' (λe=>p e.symm)]
        have new:(H.set k (.row t2 e2 (v0+1)))[k]? = some (.row t2 e2 (v0+1)):=by rw[get_set,β rfl,β hklt]
        refine⟨V++[v], ?_,R_ _ _,R_ _ _,λc' Lf Vf P hL hV=>?_⟩
        ·rw[hs];refine U.push Ψ (λj cells=>?_) (λj t' e' v' p=>?_) (λj t' e' v' p=>?_) (λj t' e' v' l' p=>?_) (λj t' e' v' l' p=>?_) (λj p=>?_)
          ⟨⟨n,xs,hown,hsp⟩,.inr ⟨k,rfl,.inl ⟨t2,e2,v0,v0+1,hc0,new,Ω⟩⟩⟩ (U.fresh hI hob (.inl ⟨t2,e2,v0,hc0,hH⟩))
         ·by_cases g:j=k
          ·subst g;rw[new,hH];simp
          ·rw[C j g]
         ·by_cases g:j=k
          ·subst g;rw[new]at p;injection p with p;injection p with j1 j2 j3;subst j1;subst j2;subst j3;exact⟨v0,hH,Ω⟩
          ·rw[C j g]at p;exact⟨v',p,ζ _⟩
         ·by_cases g:j=k
          ·subst g;rw[hH]at p;injection p with p;injection p with j1 j2 j3;subst j1;subst j2;subst j3;exact⟨v0+1,new,Ω⟩
          ·exact⟨v',(C j g).trans p,ζ _⟩
         ·have g:j≠k:=λe=>by subst e;rw[new]at p;cases p
          rw[C j g]at p;exact p
         ·have g:j≠k:=λe=>by subst e;rw[hH]at p;cases p
          exact .inl ((C j g).trans p)
         ·have g:j≠k:=λe=>by subst e;rw[hH]at p;cases p
          exact(C j g).trans p
        ·have hl:=bL hL (f L _);have hv:=bL hV (f V _);rw[←U.lv]at hv;obtain⟨n1,n2⟩:=P.new _ _ _ hl hv;exact⟨v,rfl,hrep.mono P.st P.cell,t2,e2,0,n1,ζ _,λ_=>n2.symm⟩
       ·cases h
      ·cases h
     ·cases h
    ·cases h
   ·cases h
  |_=>simp[conv]at h
def T4 (c:Gh)(h0:Nat)(L:List LE)(V:List Value)(l:List AV)(j:List Value):Prop :=
 ∀c' g f,Fin c c' h0 g f→L <+: g→V <+: f→RAs c' l j
def BJ (hI:Inv B w0 J c):∀{T:List MK} {C f:List AV} {l:List Value} {H j:List HO} {L g:List LE} {V:List Value},CInv B c H L V→TE h0 T C H L=some (f,j,g)→RAs c C l →
  ∃P,CInv B c j g P∧L <+: g∧V <+: P∧T4 c h0 g P f l
 |[],[],f,[],H,j,L,g,V,r,h,_=>by cases h;exact⟨V,r,x_ _,x_ _,λ_ _ _ _ _ _=>trivial⟩
 |m::T,a::C,f,v::l,H,j,L,g,V,r,h,⟨hr,p⟩=>by
  simp[TE]at h;split at h
  next a1 H1 L1 h1=>
   split at h
   next as1 H2 L2 h2=>cases h;obtain⟨V1,c1,p1,q1,r1⟩:=w9 hI r h1 hr;obtain⟨V2,c2,R,q2,r2⟩:=BJ hI c1 h2 p;exact⟨V2,c2,p1.trans R,q1.trans q2,λc' Lf Vf U hL hV=>⟨r1 c' Lf Vf U (R.trans hL) (q2.trans hV),r2 c' Lf Vf U hL hV⟩⟩
   ·cases h
  ·cases h
def oE (hI:Inv B w0 J c){env:List AV}{p:List Value}(hE:RAs c env p):∀{l:List (Nat×MK)} {j g:List AV} {H H':List HO} {L r:List LE} {V:List Value},CInv B c H L V→Cq h0 env l j H L=some (g,H',r)→T4 c h0 L V j p →
  ∃V',CInv B c H' r V'∧L <+: r∧V <+: V'∧T4 c h0 r V' g p
 |[],j,g,H,H',L,r,V,hc,h,hp=>by cases h;exact⟨V,hc,x_ _,x_ _,hp⟩
 |(s,m)::l,j,g,H,H',L,r,V,hc,h,hp=>by
  simp only[Cq]at h;split at h
  next a1 H1 L1 h1=>
   obtain hlt|hge:=d_ s env.length
   ·obtain⟨v,hv,hr⟩:=hE.get s env[s] (δ hlt);have e1:env.getD s .unk=env[s]:=by simp[List.getD,δ hlt]
    rw[e1]at h1;obtain⟨V1,c1,C,q1,r1⟩:=w9 hI hc h1 hr;refine(oE hI hE c1 h ?_).imp λV2 ⟨c2,p2,q2,r2⟩=>⟨c2,C.trans p2,q1.trans q2,r2⟩;intro c' Lf U P T R;have f:=(hp c' Lf U P (C.trans T) (q1.trans R)).set s (r1 c' Lf U P T R);have:p.set s v=p:=fK hv;rw[this]at f;exact f
   ·have e1:env.getD s .unk = .unk:=by simp[List.getD,u_ hge]
    rw[e1]at h1;obtain⟨V1,c1,C,q1,r1⟩:=w9 hI (v:=undef) hc h1 ⟨_,rfl⟩;refine(oE hI hE c1 h ?_).imp λV2 ⟨c2,p2,q2,r2⟩=>⟨c2,C.trans p2,q1.trans q2,r2⟩;intro c' Lf U P T R;have f:=(hp c' Lf U P (C.trans T) (q1.trans R)).set s (r1 c' Lf U P T R);have hvl:=hE.length;have:p.set s undef=p:=List.set_eq_of_length_le Ω;rw[this]at f;exact f
  ·cases h
def wa (U:Inv B w0 J c):∀{l:List (Nat×List MK)} {C:List (Nat×List AV)} {H T:List HO} {L g:List LE} {V:List Value},CInv B c H L V→Cp h0 l H L=some (C,T,g) →
  ∃V',CInv B c T g V'∧L <+: g∧V <+: V'∧C.map (·.1)=l.map (·.1)∧∀p∈C,∃cells f t,c.heap[p.1]? = some (.box cells)∧c.w.heap[c.blk p.1]? = some (.cells f t (0,0))∧T4 c h0 g V' p.2 f.toList
 |[],C,H,T,L,g,V,P,h=>by cases h;exact⟨V,P,x_ _,x_ _,rfl,λp j=>by cases j⟩
 |(k,ms)::l,C,H,T,L,g,V,P,h=>by
  simp[Cp]at h;split at h
  next cells hk=>
   split at h
   ·rename_i R H1 L1 h1;split at h
    ·rename_i bs' H2 L2 h2;cases h;have r:=(P.box k cells).1 hk;obtain⟨f,t,g1,_,_,g4⟩:=U.box k cells r;obtain⟨V1,c1,p1,q1,r1⟩:=BJ U P h1 g4;obtain⟨V2,c2,p2,q2,e2,r2⟩:=wa U c1 h2;refine⟨V2,c2,p1.trans p2,q1.trans q2,by simp[e2],λp j=>?_⟩;obtain rfl|j:=C'.1 j
     ·exact⟨cells,f,t,r,g1,λc' Lf Vf hf hL hV=>r1 c' Lf Vf hf (p2.trans hL) (q2.trans hV)⟩
     ·exact r2 p j
    ·cases h
   ·cases h
  ·cases h
end
def xM:∀(f:List (Nat×List AV)) (H:List HO),(eT f H).length=H.length
 |[],_=>rfl
 |(k,cells)::r,H=>by rw[eT,xM r];simp
def lM:∀(f:List (Nat×List AV)) (H:List HO) (k:Nat),k ∉ f.map (·.1)→(eT f H)[k]? = H[k]?
 |[],_,_,_=>rfl
 |(k',cells)::r,H,k,h=>by simp only[b?,C',not_or]at h;rw[eT,lM r _ k h.2,get_set,B' (λe=>h.1 e.symm)]
def QC {a:Nat}{l:List Nat}(h:Eb (a::l)=true):a ∉ l∧Eb l=true:=by simpa[Eb]using h
def xL:∀(f:List (Nat×List AV)) (H:List HO),Eb (f.map (·.1))=true→∀p∈f,p.1<H.length→(eT f H)[p.1]? = some (.box p.2)
 |[],_,_,_,h,_=>by cases h
 |(k,cells)::r,H,hd,p,hp,hlt=>by
  obtain⟨j,g⟩:=QC hd;rw[eT];obtain rfl|hp:=C'.1 hp
  ·rw[lM r _ _ j,get_set,β rfl,β hlt]
  ·exact xL r _ g p hp (by simpa using hlt)
def vR {g:Nat}{f:List Nat}:∀(l:List HO) (i:Nat),yb g f i l=true→∀(j:Nat) ho,l[j]? = some ho→(i+j) ∉ f→ho.under g=true
 |[],_,_,j,ho,h,_=>by simp at h
 |x::l,i,h,j,ho,hj,hn=>by
  simp[yb]at h;cases j with
  |zero=>
   simp at hj;subst hj;obtain h|h:=h.1
   ·exact absurd (by simpa using h) hn
   ·exact h
  |succ j =>simp at hj;exact vR l (i+1) h.2 j ho hj (by rw[show i+1+j=i+(j+1)by omega];exact hn)
section
variable {P:Program}{B:Bd}{lo:Nat}{w0:World}{J:Sb}{fs:List (List AV×List Value)}{σ σ':Sg}{a:Act}{w:World}
def QQ {m:MS}(h:acx lo m σ=some σ')(hr:Rel fs lo B w0 J σ a w):Rel fs lo B w0 J σ' a w∧lo≤σ'.heap.length:=by
 obtain⟨c,w1,hw,hh,hI,hE,hdf,hfs⟩:=hr;unfold acx at h;split at h
 next hchk=>
  simp only[κ,ρ,T']at hchk;obtain⟨⟨⟨⟨k1,k2⟩,k3⟩,k4⟩,k5⟩:=hchk;split at h
  next bs H1 L1 hpre=>
   split at h
   ·rename_i env' H2 L2 henv;cases h;have c0:CInv B c σ.heap [] []:=⟨by rw[hh],rfl,λk cells=>by rw[hh],λk t e v r=>⟨v,by rw[hh];exact r,ζ _⟩,λk t e v r=>⟨v,by rw[←hh];exact r,ζ _⟩,λi le s hl=>by simp at hl,λi j s s' b _ hs=>by simp at hs,λk t e v l r=>by rw[hh];exact r,λk t e v l r=>.inl (by rw[←hh];exact r),λk r=>by rw[←hh];exact r⟩;obtain⟨V1,c1,_,_,hnames,hbs⟩:=wa hI c0 hpre;obtain⟨V2,c2,pL,pV,hpend⟩:=oE hI hE c1 henv (λc' _ _ _ _ _=>Cx (c:=c') hE.length.symm);let U:Nat→Value:=λi=>if i<m.h0 then(match c.heap[i]?,H2[i]? with|some (.row _ _ v0),some (.row _ _ v)=>if v=v0 then c.rv i else .slice none 0 0|_,_=>c.rv i)else V2.getD (i-m.h0) (.slice none 0 0)
    let heap':List HO:=eT bs (H2.take m.h0)++L2.map LE.ho;let St':Sb:=⟨λb o=>c.St b o∨∃(i:Nat) (t:Ty) (e:TypeId) (ko:Option (Nat×Nat)) (l:List t.den) (s:Value),L2[i]? = some (.frz t e ko l)∧V2[i]? = some s∧s.ownBlock=some b,c.St.j⟩;let c':Gh:={ heap:=heap',St:=St',blk:=c.blk,rv:=U,w:=c.w,lp:=c.lp };have hlen0:(eT bs (H2.take m.h0)).length=m.h0:=by rw[xM,l_,c2.len,hh];omega
    have gold:∀k,k<m.h0→heap'[k]? = (eT bs (H2.take m.h0))[k]?:=λk r=>by show(_++_)[k]? = _;rw[ο Ω]
    have gnew:∀i,heap'[m.h0+i]? = (L2.map LE.ho)[i]?:=λi=>by show(_++_)[m.h0+i]? = _;rw[Q' Ω,hlen0];congr 1;omega
    have R:∀k,k<m.h0→k ∉ bs.map (·.1)→heap'[k]? = H2[k]?:=λk r hn=>by rw[gold k r,lM _ _ _ hn,K',β r]
    have hnd:Eb (bs.map (·.1))=true:=by rw[hnames];exact k3
    have hbnd:∀p∈bs,p.1<m.h0:=λp hp=>by have:p.1∈bs.map (·.1):=s_.2 ⟨p,hp,rfl⟩;rw[hnames]at this;obtain⟨q,hq,e⟩:=s_.1 this;have:=k4 q hq;omega
    have gbox:∀p∈bs,heap'[p.1]? = some (.box p.2):=λp hp=>by rw[gold _ (hbnd p hp)];exact xL bs _ hnd p hp (by rw[l_,c2.len,hh];have:=hbnd p hp;omega)
    have notbox:∀(k:Nat) t e v0,c.heap[k]? = some (.row t e v0)→k ∉ bs.map (·.1):=λk t e v0 r hm=>by obtain⟨p,hp,e⟩:=s_.1 hm;obtain⟨cells,_,_,g1,_⟩:=hbs p hp;have e:p.1=k:=e;rw[e,r]at g1;cases g1
    have hrv:∀(k:Nat) t e v0 v,k<m.h0→c.heap[k]? = some (.row t e v0)→H2[k]? = some (.row t e v)→U k=if v=v0 then c.rv k else .slice none 0 0:=λk t e v0 v r h1 h2=>by simp[U,β r,h1,h2]
    have notboxM:∀(k:Nat) ho,c.heap[k]? = some ho→(∀cells,ho ≠ .box cells)→k ∉ bs.map (·.1):=λk ho r hnb hm=>by obtain⟨p,hp,e⟩:=s_.1 hm;obtain⟨cells,_,_,g1,_⟩:=hbs p hp;have e:p.1=k:=e;rw[e,r]at g1;injection g1 with g1;exact hnb cells g1
    have fin:Fin c c' m.h0 L2 V2:=by
     refine⟨rfl,λ_ _=>Iff.rfl,rfl,rfl,λk cells r hc=>?_,λk t e v0 r hc=>?_,λi le s hl hs=>?_,λk t e v l r hc=>?_,λk r hc=>?_,rfl⟩
     ·by_cases hm:k∈bs.map (·.1)
      ·obtain⟨p,hp,e⟩:=s_.1 hm;have e:p.1=k:=e;exact⟨p.2,e ▸ gbox p hp⟩
      ·exact⟨cells,(R k r hm).trans ((c2.box k cells).2 hc)⟩
     ·obtain⟨v,h1,h2⟩:=c2.back k t e v0 hc;exact⟨v,(R k r (notbox k t e v0 hc)).trans h1,h2,λe'=>by show U k=_;rw[hrv k t e v0 v r hc h1,β e']⟩
     ·refine⟨by rw[gnew];simp[hl], ?_⟩;show U (m.h0+i)=s;simp only[U];rw[B' Ω,show m.h0+i-m.h0=i by omega];simp[List.getD,hs]
     ·have hnb:=notboxM k _ hc (λcells e=>by cases e);obtain h1|h1:=c2.mback k t e v l hc
      ·refine .inl ⟨(R k r hnb).trans h1, ?_⟩;show U k=_;simp[U,β r,hc]
      ·exact .inr ((R k r hnb).trans h1)
     ·exact(R k r (notboxM k _ hc (λcells e=>by cases e))).trans (c2.dead k hc)
    have takenOf:∀(i:Nat) s,V2[i]? = some s→AP c H2 s:=λi s hs=>by
     have hil:i<L2.length:=by rw[c2.lv];exact ak hs
     have hcl:=c2.claim i L2[i] s (δ hil) hs;generalize L2[i]=le at hcl;cases le with
     |own t e=>exact hcl.2
     | «mut» t e ko l=>exact hcl.2.1
     |frz t e ko l=>exact hcl.2.1
    have hobk:∀k b,k<m.h0→obk c' k=some b→obk c k=some b∧(∀t e v0 v,c.heap[k]? = some (.row t e v0)→H2[k]? = some (.row t e v)→v=v0)∧H2[k]? ≠ some HO.dead:=by
     intro k b r f;cases C:c.heap[k]? with
     |none=>
      exfalso;have hkl:k<c.heap.length:=by rw[hh];omega
      rw[δ hkl]at C;cases C
     |some x=>
      cases x with
      |none=>
       exfalso;have hn:=notboxM k _ C (λcells e=>by cases e);have h2:=R k r hn;unfold obk at f;rw[show c'.heap[k]? = H2[k]? from h2]at f;cases hH:H2[k]? with
       |none=>rw[hH]at f;cases f
       |some y=>
        rw[hH]at f;cases y with
        |none=>cases f
        |box cells=>have:=(c2.box k cells).1 hH;rw[C]at this;cases this
        |row t e v=>obtain⟨v0,g,_⟩:=c2.row k t e v hH;rw[C]at g;cases g
        |mrow t e v l=>have:=c2.mrow k t e v l hH;rw[C]at this;cases this
        |dead=>cases f
      |box cells =>obtain⟨cells',h2⟩:=fin.box k cells r C;unfold obk at f⊢;rw[h2]at f;rw[C];exact⟨f,(λt e v0 v h=>by cases h),by rw[(c2.box k cells).2 C];intro e;cases e⟩
      |row t e v0=>
       obtain⟨v,h1,h2⟩:=c2.back k t e v0 C;have h3:c'.heap[k]? = some (.row t e v):=(R k r (notbox k t e v0 C)).trans h1;have h4:=hrv k t e v0 v r C h1;unfold obk at f⊢;rw[h3]at f;rw[C];have f:(U k).ownBlock=some b:=f;rw[h4]at f;by_cases hv:v=v0
       ·rw[β hv]at f;refine⟨f,λt' e' v0' v' g1 g2=>?_,by rw[h1];intro e;cases e⟩;rw[h1]at g2;injection g1 with g1;injection g2 with g2;injection g1 with _ _ g1;injection g2 with _ _ g2;omega
       ·rw[B' hv]at f;simp[Value.ownBlock]at f
      |mrow t e v l=>
       rcases fin.mrow k t e v l r C with⟨h1,h2⟩|h1
       ·unfold obk at f⊢;rw[h1]at f;rw[C];have f:(c'.rv k).ownBlock=some b:=f;rw[h2]at f;refine⟨f,(λt e v0 v h=>by cases h), ?_⟩;intro hd;have:=(R k r (notboxM k _ C (λcells e=>by cases e))).symm.trans h1;rw[hd]at this;cases this
       ·unfold obk at f;rw[h1]at f;cases f
      |dead =>have h1:=fin.dead k r C;unfold obk at f;rw[h1]at f;cases f
    have apartOf:∀(k i:Nat) (s:Value) (b:Nat),k<m.h0→obk c' k=some b→V2[i]? = some s→s.ownBlock≠some b:=by
     intro k i s b r h1 hs f;obtain⟨o1,o2,o3⟩:=hobk k b r h1;obtain c4|⟨k',g1,g2⟩:=takenOf i s hs
     ·rw[c4]at f;cases f
     ·have hok':obk c k'=some b:=by
       rcases g2 with⟨t,e,v0,v,q1,q2,q3⟩|⟨t,e,v,l,q1,q2⟩ <;> (unfold obk;rw[q1];exact(by rw[g1];exact f))
      by_cases hkk:k=k'
      ·subst hkk;rcases g2 with⟨t,e,v0,v,q1,q2,q3⟩|⟨t,e,v,l,q1,q2⟩
       ·have:=o2 t e v0 v q1 q2;omega
       ·exact o3 q2
      ·exact hI.sep k k' b hkk o1 hok'
    have hobn:∀i b,obk c' (m.h0+i)=some b→∃s,V2[i]? = some s∧s.ownBlock=some b∧∀t e ko l,L2[i]? ≠ some (.frz t e ko l):=by
     intro i b f;unfold obk at f;rw[show c'.heap[m.h0+i]? = _ from gnew i]at f;cases hl:L2[i]? with
     |none=>simp[hl]at f
     |some le=>
      have hil:i<V2.length:=by rw[←c2.lv];exact ak hl
      have hs:V2[i]? = some V2[i]:=δ hil;obtain⟨_,n2⟩:=fin.new i le V2[i] hl hs;simp[hl]at f;cases le with
      |own t e =>simp[LE.ho]at f;rw[n2]at f;exact⟨_,hs,f,λ_ _ _ _ e=>by cases e⟩
      | «mut» t e ko l =>simp[LE.ho]at f;rw[n2]at f;exact⟨_,hs,f,λ_ _ _ _ e=>by cases e⟩
      |frz t e ko l=>simp[LE.ho]at f
    have crossed:∀k i b,k<m.h0→obk c' k=some b→obk c' (m.h0+i)=some b→False:=by intro k i b r h1 h2;obtain⟨s,hs,f,_⟩:=hobn i b h2;exact apartOf k i s b r h1 hs f
    have frzOld:∀k b o,k<m.h0→obk c' k=some b→St' b o→c.St b o:=by
     intro k b o r f x;obtain x|⟨i,t,e,ko,l,s,q1,q2,q3⟩:=x
     ·exact x
     ·exact absurd q3 (apartOf k i s b r f q2)
    have frzNew:∀i b o,obk c' (m.h0+i)=some b→St' b o→c.St b o:=by
     intro i b o f x;obtain⟨s,hs,hsb,hnf⟩:=hobn i b f;obtain x|⟨j,t,e,ko,l,s',q1,q2,q3⟩:=x
     ·exact x
     ·by_cases hij:i=j
      ·subst hij;exact absurd q1 (hnf t e ko l)
      ·exact absurd q3 (c2.dist i j s s' b hij hs q2 hsb)
    have objOf:∀s b,(∃i:Nat,V2[i]? = some s)→s.ownBlock=some b→∃k,obk c k=some b:=by
     rintro s b ⟨i,hs⟩ f;obtain c4|⟨k',g1,g2⟩:=takenOf i s hs
     ·rw[c4]at f;cases f
     ·refine⟨k', ?_⟩;rcases g2 with⟨t,e,v0,v,q1,q2,q3⟩|⟨t,e,v,l,q1,q2⟩ <;> (unfold obk;rw[q1];exact(by rw[g1];exact f))
    have blkOf:∀s b,(∃i:Nat,V2[i]? = some s)→s.ownBlock=some b→b<c.w.heap.size∧B≤b∧¬B.F b:=by
     rintro s b ⟨i,hs⟩ f;obtain c4|⟨k',g1,g2⟩:=takenOf i s hs
     ·rw[c4]at f;cases f
     ·have hok:obk c k'=some b:=by
       rcases g2 with⟨t,e,v0,v,q1,q2,q3⟩|⟨t,e,v,l,q1,q2⟩ <;> (unfold obk;rw[q1];exact(by rw[g1];exact f))
      exact⟨(fF hI hok).1,(fF hI hok).2,hI.fo k' b hok⟩
    have inv:Inv B w1 J c':=by
     refine⟨hI.below,hI.size,λb o x=>?_,⟨λb o x=>.inl (hI.st0.s b o x),hI.st0.j⟩,λb o x=>?_,λk cells r=>?_,λk t e v r=>?_,λk k' b hne h1 h2=>?_,λk t e v l r=>?_,hI.drawn,λk b f=>(by
      obtain P|P:=d_ k m.h0
      ·exact hI.fo k b (hobk k b P f).1
      ·obtain⟨s,hs,hsb,_⟩:=hobn (k-m.h0) b (by rw[show m.h0+(k-m.h0)=k by omega];exact f);exact(blkOf s b ⟨_,hs⟩ hsb).2.2),hI.fl,hI.j0,λb e cap n x=>(hI.junk b e cap n x).imp id λq=>q.keep rfl (λo y=>(by
       obtain y|⟨i,t,e,ko,l,s,q1,q2,q3⟩:=y
       ·exact y
       ·obtain⟨k',z⟩:=objOf s b ⟨i,q2⟩ q3;exact absurd z (q.own k'))) λk y=>(by
       obtain P|P:=d_ k m.h0
       ·exact(hobk k b P y).1
       ·obtain⟨s,hs,hsb,_⟩:=hobn (k-m.h0) b (by rw[show m.h0+(k-m.h0)=k by omega];exact y);obtain⟨k',z⟩:=objOf s b ⟨_,hs⟩ hsb;exact absurd z (q.own k'))⟩
     ·obtain x|⟨i,t,e,ko,l,s,q1,q2,q3⟩:=x
      ·exact hI.bnd b o x
      ·exact(blkOf s b ⟨i,q2⟩ q3).1
     ·obtain x|⟨i,t,e,ko,l,s,q1,q2,q3⟩:=x
      ·exact hI.stN b o x
      ·exact .inr (blkOf s b ⟨i,q2⟩ q3).2
     ·have P:k<m.h0:=by
       obtain x|x:=d_ k m.h0
       ·exact x
       ·exfalso;have:=gnew (k-m.h0);rw[show m.h0+(k-m.h0)=k by omega]at this;rw[show c'.heap[k]? = _ from this]at r;cases hl:L2[k-m.h0]? with
        |none=>simp[hl]at r
        |some p=>cases p <;> simp[hl,LE.ho]at r
      have T:obk c' k=some (c.blk k):=by unfold obk;rw[r]
      by_cases hm:k∈bs.map (·.1)
      ·obtain⟨p,hp,e⟩:=s_.1 hm;have e:p.1=k:=e;subst e;have:=gbox p hp;rw[show c'.heap[p.1]? = _ from this]at r;cases r;obtain⟨cells0,arr,t,g1,g2,g3⟩:=hbs p hp;obtain⟨arr',t',q1,q2,q3,_⟩:=hI.box p.1 cells0 g1;rw[g2]at q1;exact⟨arr,t,g2,q2,λo x=>q3 o (frzOld p.1 _ o P T x),g3 c' L2 V2 fin pL pV⟩
      ·have hH:=(R k P hm).symm.trans r;have C:=(c2.box k cells).1 hH;obtain⟨arr,t,q1,q2,q3,q4⟩:=hI.box k cells C;have hu:=vR _ 0 k5 k (.box cells) (by rw[K',β P,←hh];exact C) (by rw[Z',←hnames];exact hm);exact⟨arr,t,q1,q2,λo x=>q3 o (frzOld k _ o P T x),fin.keeps hu q4⟩
     ·obtain P|P:=d_ k m.h0
      ·have hm:k ∉ bs.map (·.1):=λhm=>by
        obtain⟨p,hp,e'⟩:=s_.1 hm;have e':p.1=k:=e';have:=gbox p hp;rw[e']at this;rw[show c'.heap[k]? = _ from this]at r;cases r
       have hH:=(R k P hm).symm.trans r;obtain⟨v0,C,hle⟩:=c2.row k t e v hH;have h4:=hrv k t e v0 v P C hH;by_cases hv:v=v0
       ·have T:obk c' k=(U k).ownBlock:=by unfold obk;rw[r]
        rw[β hv]at h4;obtain⟨n,xs,q1,q2⟩:=hI.row k t e v0 C;refine⟨n,xs,by show c.w.ownsRow B e t.size (U k) n xs;rw[h4];exact q1,λb f o hle x=>?_⟩;have f:(U k).ownBlock=some b:=f;have hx:=frzOld k b o P (T.trans f) x;rw[h4]at f;exact q2 b f o hle hx
       ·rw[B' hv]at h4;exact⟨0,[],by show c.w.ownsRow B e t.size (U k) 0 [];rw[h4];exact M_ _ _ _ _,by show ∀b,(U k).ownBlock=some b→_;rw[h4];intro b f;simp[Value.ownBlock]at f⟩
      ·have hk':=r;have hg:=gnew (k-m.h0);rw[show m.h0+(k-m.h0)=k by omega]at hg;rw[show c'.heap[k]? = _ from hg]at r;cases hl:L2[k-m.h0]? with
       |none=>simp[hl]at r
       |some le=>
        have hil:k-m.h0<V2.length:=by rw[←c2.lv];exact ak hl
        have hs:V2[k-m.h0]? = some V2[k-m.h0]:=δ hil;obtain⟨_,n2⟩:=fin.new (k-m.h0) le _ hl hs;rw[show m.h0+(k-m.h0)=k by omega]at n2;have hcl:=c2.claim (k-m.h0) le _ hl hs;cases le with
        |own t1 e1=>
         simp only[A_,hl,aiV,LE.ho,θ,HO.row.injEq]at r;obtain⟨rfl,rfl,rfl⟩:=r;obtain⟨⟨n,xs,q1,q2⟩,_⟩:=hcl;refine⟨n,xs,by rw[n2];exact q1,λb f o hle x=>?_⟩;have T:obk c' k=(c'.rv k).ownBlock:=by unfold obk;rw[hk']
         have hx:=frzNew (k-m.h0) b o (by rw[show m.h0+(k-m.h0)=k by omega];exact T.trans f) x;rw[n2]at f;exact q2 b f o hle hx
        | «mut» t1 e1 ko l=>simp[hl,LE.ho]at r
        |frz t1 e1 ko l=>simp[hl,LE.ho]at r
     ·obtain P|P:=d_ k m.h0
      ·obtain hk1|hk1:=d_ k' m.h0
       ·exact hI.sep k k' b hne (hobk k b P h1).1 (hobk k' b hk1 h2).1
       ·exact crossed k (k'-m.h0) b P h1 (by rw[show m.h0+(k'-m.h0)=k' by omega];exact h2)
      ·obtain hk1|hk1:=d_ k' m.h0
       ·exact crossed k' (k-m.h0) b hk1 h2 (by rw[show m.h0+(k-m.h0)=k by omega];exact h1)
       ·obtain⟨s,hs,f,_⟩:=hobn (k-m.h0) b (by rw[show m.h0+(k-m.h0)=k by omega];exact h1);obtain⟨s',hs',hb',_⟩:=hobn (k'-m.h0) b (by rw[show m.h0+(k'-m.h0)=k' by omega];exact h2);exact c2.dist (k-m.h0) (k'-m.h0) s s' b Ω hs hs' f hb'
     ·have T:obk c' k=(c'.rv k).ownBlock:=by unfold obk;rw[r]
      obtain P|P:=d_ k m.h0
      ·have hm:k ∉ bs.map (·.1):=λhm=>by
        obtain⟨p,hp,e'⟩:=s_.1 hm;have e':p.1=k:=e';have:=gbox p hp;rw[e']at this;rw[show c'.heap[k]? = _ from this]at r;cases r
       have hH:=(R k P hm).symm.trans r;have C:=c2.mrow k t e v l hH;obtain⟨xs,q1,q2,q3⟩:=hI.mrow k t e v l C;have h4:c'.rv k=c.rv k:=by show U k=_;simp[U,β P,C]
       refine⟨xs,by rw[h4];exact q1,q2.mono fin.st fin.cell,λb f o x=>?_⟩;have hx:=frzOld k b o P (T.trans f) x;rw[h4]at f;exact q3 b f o hx
      ·have hg:=gnew (k-m.h0);rw[show m.h0+(k-m.h0)=k by omega]at hg;rw[show c'.heap[k]? = _ from hg]at r;cases hl:L2[k-m.h0]? with
       |none=>simp[hl]at r
       |some le=>
        have hil:k-m.h0<V2.length:=by rw[←c2.lv];exact ak hl
        have hs:V2[k-m.h0]? = some V2[k-m.h0]:=δ hil;obtain⟨_,n2⟩:=fin.new (k-m.h0) le _ hl hs;rw[show m.h0+(k-m.h0)=k by omega]at n2;have hcl:=c2.claim (k-m.h0) le _ hl hs;cases le with
        |own t1 e1=>simp[hl,LE.ho]at r
        |frz t1 e1 ko l1=>simp[hl,LE.ho]at r
        | «mut» t1 e1 ko l1 =>simp only[A_,hl,aiV,LE.ho,θ]at r;injection r with z1 z2 z3 z4;subst z1;subst z2;have z4:=ai2 z4;subst z4;obtain⟨⟨xs,q1,q2,q3⟩,_⟩:=hcl;refine⟨xs,by rw[n2];exact q1,q2.mono fin.st fin.cell,λb f o x=>?_⟩;have hx:=frzNew (k-m.h0) b o (by rw[show m.h0+(k-m.h0)=k by omega];exact T.trans f) x;rw[n2]at f;exact q3 b f o hx
    refine⟨⟨c',w1,hw,rfl,inv,hpend c' L2 V2 fin (x_ _) (x_ _),hdf,λfr hfr=>⟨fin.keeps (G6 k1 (hfs fr hfr).2) (hfs fr hfr).1,(hfs fr hfr).2⟩⟩, ?_⟩;show lo≤heap'.length;simp only[heap',P',hlen0];omega
   ·cases h
  ·cases h
 ·cases h
def we (fs:List (List AV×List Value))(lo:Nat)(B:Bd)(w0:World)(J:Sb)(k:KT)(r:AV):Exit→Act→World→Prop
 |.normal,a,w=>∃σ',k .normal σ'=some r∧Rel fs lo B w0 J σ' a w∧lo≤σ'.heap.length
 |.exit id,a,w=>∃σ',k (.exit id) σ'=some r∧Rel fs lo B w0 J σ' a w∧lo≤σ'.heap.length
 |.ret,a,w=>∃σ',k .ret σ'=some r∧Rel fs lo B w0 J σ' a w∧lo≤σ'.heap.length
 |_,_,_=>False
def qR {m:Option MS}{k:Sg→Option AV}{r:AV}(h:Eo lo m σ k=some r)(g:Rel fs lo B w0 J σ a w)(f:lo≤σ.heap.length):∃σ',k σ'=some r∧Rel fs lo B w0 J σ' a w∧lo≤σ'.heap.length:=by
 unfold Eo at h;split at h
 ·exact⟨σ,h,g,f⟩
 ·split at h
  next σ' hm=>obtain⟨l,j⟩:=QQ hm g;exact⟨σ',h,l,j⟩
  ·cases h
def aT (f:Option Nat)(c:Code):Prop:=f=none∨cj c=true
variable{ro:Option Nat}{c:Gh}{w1 w' :World}{l:Nat}
def aT.left {p q:Bool}(h:ro=none∨(p&&q)=true):ro=none∨p=true:=h.imp id λh=>(M?.1 h).1
def aT.right {p q:Bool}(h:ro=none∨(p&&q)=true):ro=none∨q=true:=h.imp id λh=>(M?.1 h).2
def aT.ops {i:Nat}{f:Array Oper}{g:Bool}(h:aT ro (.region i f g)):∀o∈f.toList,ff ro o:=λo j=>h.imp id λh c e=>by have:=T'.1 h o j;rw[e]at this;cases this
def Inv.turn (h:Inv B w1 J c)(hg:c.w.grownBy w' (some l))(hl:∀o,c.w.heap[l]? = some o→o.isCells=false) :
  Inv B w' J { c with w:=w' }∧Ev c { c with w:=w' }:=by
 have C:∀{b:Nat} {j:Array Value} {t:TypeId} {m:Nat×Nat},c.w.heap[b]? = some (.cells j t m)→w'.heap[b]? = some (.cells j t m):=λ{b j t m} U=>by refine(hg.block b (η.1 U).1 (λe=>?_)).trans U;injection e with e;rw[e]at U;cases hl _ U
 have R:∀(a:Addr) v,c.w.cell? a=some v→w'.cell? a=some v:=λa v p=>by
  have U:a.block≠l:=λe=>by
   unfold World.cell? at p;rw[e]at p;cases ho:c.w.heap[l]? with
   |none=>simp[ho]at p
   |some o=>
    rw[ho]at p;cases o with
    |cells j t m=>cases hl _ ho
    |_=>simp at p
  have hlt:a.block<c.w.heap.size:=by
   cases hx:c.w.heap[a.block]? with
   |none=>unfold World.cell? at p;rw[hx]at p;cases p
   |some x=>exact(η.1 hx).1
  exact(ais (hg.block a.block hlt (λe=>U (by injection e)))).trans p
 have ev:Ev c { c with w:=w' }:=⟨Sb.le.refl _,λa v _ _ p=>R a v p,λ_ cells x=>⟨cells,x,rfl⟩,λ_ t e v x=>⟨t,e,v,x,ζ _,λ_=>rfl⟩,λ_ _ _ v l x=>.inl ⟨v,l,x,ζ _,λ_=>rfl⟩,λ_ x=>x,λ_ _=>rfl⟩;refine⟨⟨Below.refl _ _,Θ h.size hg.size,λb o x=>k_ (h.bnd _ _ x) hg.size,h.st0,h.stN, ?_, ?_,h.sep, ?_,Og.refl _,h.fo,λb f=>k_ (h.fl b f) hg.size,h.j0,λb e cap n x=>(h.junk b e cap n x).imp id λq=>⟨q.lo,q.nf,q.le,(by
  obtain⟨j,z1,z2⟩:=q.cells;exact⟨j,C z1,z2⟩),q.free,q.own⟩⟩,ev⟩
 ·intro k cells hk;obtain⟨j,t,h1,h2,h3,h4⟩:=h.box k cells hk;exact⟨j,t,C h1,h2,h3,h4.mono ev⟩
 ·intro k t e v hk;obtain⟨n,xs,q,P⟩:=h.row k t e v hk;refine⟨n,xs,⟨q.1, ?_⟩,P⟩;obtain x|⟨g,cap,T,e1,e2,e3,r⟩:=q.2
  ·exact .inl x
  ·exact .inr ⟨g,cap,T,e1,e2,C e3,r⟩
 ·intro k t e v l hk;obtain⟨xs,q,hrep,P⟩:=h.mrow k t e v l hk;refine⟨xs,⟨q.1, ?_⟩,hrep.mono ev.st ev.cell,P⟩;obtain x|⟨g,cap,T,e1,e2,e3,r⟩:=q.2
  ·exact .inl x
  ·exact .inr ⟨g,cap,T,e1,e2,C e3,r⟩
def Inv.other (h:Inv B w1 J c){o:Obj}(p:c.w.grownBy w' (some l))(j:c.w.heap[l]? = some o)(g:o.isCells=false) :
  Inv B w' J { c with w:=w' }∧Ev c { c with w:=w' } :=
 h.turn p (λr f=>by rw[j]at f;injection f with f;rw[←f];exact g)
def Inv.base (h:Inv B w1 J c)(g:Below B w0 c.w)(f:Og B.F w0 c.w):Inv B w0 J c :=
 ⟨g,h.size,h.bnd,h.st0,h.stN,h.box,h.row,h.sep,h.mrow,f,h.fo,h.fl,h.j0,λb e cap n x=>(h.junk b e cap n x).imp id λq=>⟨q.lo,q.nf,q.le,q.cells,q.free,q.own⟩⟩
def Inv.name (h:Inv B w1 J c)(l:Nat) :
  let C:Gh:={ c with heap:=c.heap++[.dead],lp:=λi=>if i=c.heap.length then l else c.lp i }
  Inv B w1 J C∧Ev c C:=by
 intro C;have g:∀(k:Nat) (x:HO),C.heap[k]? = some x→x≠HO.dead→c.heap[k]? = some x:=by
  intro k x p P;have p:(c.heap++[HO.dead])[k]? = some x:=p;obtain hlt|hge:=d_ k c.heap.length
  ·rwa[ο hlt]at p
  ·rw[Q' hge]at p;have:x∈[HO.dead]:=Y_ p;exact absurd (E'.1 this) P
 have f:∀(k:Nat) (x:HO),c.heap[k]? = some x→C.heap[k]? = some x:=λk x p=>by show(c.heap++[HO.dead])[k]? = _;rw[ο (ak p)];exact p
 have ev:Ev c C:=⟨Sb.le.refl _,λ_ _ _ _ x=>x,λk cells x=>⟨cells,f k _ x,rfl⟩,λk t e v x=>⟨t,e,v,f k _ x,ζ _,λ_=>rfl⟩,λk t e v l x=>.inl ⟨v,l,f k _ x,ζ _,λ_=>rfl⟩,λk x=>f k _ x,λk x=>B' (Nat.ne_of_lt (ak x))⟩;have j:∀k b,obk C k=some b→obk c k=some b:=λk b r=>by
  unfold obk at r⊢;cases R:C.heap[k]? with
  |none=>rw[R]at r;cases r
  |some x=>
   rw[R]at r;by_cases hd:x=HO.dead
   ·subst hd;cases r
   ·rw[g k x R hd];exact r
 refine⟨⟨h.below,h.size,h.bnd,h.st0,h.stN,λk cells x=>?_,λk t e v x=>h.row k t e v (g k _ x Ψ),λk k' b P U T=>h.sep k k' b P (j k b U) (j k' b T),λk t e v l x=>h.mrow k t e v l (g k _ x Ψ),h.drawn,λk b r=>h.fo k b (j k b r),h.fl,h.j0,λb e cap n x=>(h.junk b e cap n x).imp id λq=>q.keep rfl (λ_ y=>y) λk y=>j k b y⟩,ev⟩;obtain⟨arr,t,U,T,h3,h4⟩:=h.box k cells (g k _ x Ψ);exact⟨arr,t,U,T,h3,h4.mono ev⟩
def vZ {w:World}(fn:FuncId)(tmps:Array Value)(ps:Array Tmp)(assign body:Code)(p:∀l,ro=some l→∃r,w.heap[l]? = some (.loop r)) :
  ∃(l:Nat) (mark:List Deferred) (f:World) (D:Nat),(Instr.enterLoop fn tmps ps assign body ro).run P w = .ok (l,mark) f∧w.grownBy f none∧w.heap.size≤l∧f.drawn=w.drawn ∧
   f.heap[l]? = some (.loop { state :=.ready,pending:=none,fn,tmps,params:=ps,assign,body,defers:=D }) ∧
   ∃j:List Nat,mark=j.map (λD=>{ target :=.collected D,args :=#[] })∧j.Nodup∧∀D∈j,w.heap.size≤D∧D≠l∧f.heap[D]? = some (.deferred (some [])):=by
 cases ro with
 |none=>
  refine⟨_,_,_,w.heap.size,run_enterLoop_outer fn tmps ps assign body,(i_ w _ none).trans (i_ _ _ none),Ω,rfl, ?_,[w.heap.size],rfl,Ψ,λD g=>?_⟩
  ·have:=World.alloc_heap_new (w.alloc (.deferred (some []))) (.loop { state :=.ready,pending:=none,fn,tmps,params:=ps,assign,body,defers:=w.heap.size });rw[aiu]at this;exact this
  ·simp only[E']at g;subst g;refine⟨ζ _,Ω, ?_⟩;rw[Below.heap_alloc _ _ _ (by rw[aiu];omega)];exact World.alloc_heap_new _ _
 |some C =>obtain⟨r0,J⟩:=p C rfl;refine⟨w.heap.size,[],w.alloc (.loop { state :=.ready,pending:=none,fn,tmps,params:=ps,assign,body,defers:=r0.defers }),r0.defers, ?_,i_ w _ none,ζ _,rfl,World.alloc_heap_new _ _,[],rfl,Ψ,λD g=>by cases g⟩;unfold Instr.enterLoop;simp[ξ,run_getLoop J,run_newObj_alloc,a_]
def nl {c:Gh}:∀{ps:List Nat} {args env f:List AV} {g:List Value} {tmps:Array Value},xK ps args env=some f→RAs c env tmps.toList→RAs c args g →
  g.length=ps.length∧RAs c f ((ps.zip g).foldl (λtmps (t,a)=>tmps.setIfInBounds t a) tmps).toList
 |[],[],env,f,[],tmps,h,j,_=>by cases h;exact⟨rfl,j⟩
 |t::ps,u::args,env,f,v::g,tmps,h,j,⟨p,l⟩=>by simp[xK]at h;obtain⟨C,r⟩:=nl (tmps:=tmps.setIfInBounds t v) h (by rw[Array.toList_setIfInBounds];exact j.set t p) l;exact⟨by simp[C],r⟩
 |[],_::_,_,_,_,_,h,_,_=>by cases h
 |_::_,[],_,_,_,_,h,_,_=>by cases h
def zD (ro:Option Nat)(w0:World):Prop:=∀l,ro=some l→∃r,w0.heap[l]? = some (.loop r)
def gh {Γ:List Lq}{ck:Callk}{S:Par}{fuel:Nat}(hm:P.follows .mixedOrders=true)(tk:TabOk P S.tab)(tsok:SpecsOk P S.T)(ckok:CkOk P ck Γ):∀(c:Code) (ro:Option Nat) (n:Nat) (fs:List (List AV×List Value)) (lo:Nat) (B:Bd) (w0:World) (J:Sb) (r:AV),zD ro w0→Ctx Γ fs B w0→aT ro c→∀(σ:Sg) (k:KT) (a:Act) (w:World),lo≤σ.heap.length →
  exec ck S lo fuel c σ k=some r→Rel fs lo B w0 J σ a w→c.wpIn (RF ro) n P (we fs lo B w0 J k r) a w:=by
 intro c;induction c with
 |skip=>intro ro n fs lo B w0 J r C p _ σ k a w f h hr;exact wpIn_skip ⟨σ,h,hr,f⟩
 |label l=>intro ro n fs lo B w0 J r C p _ σ k a w f h hr;exact wpIn_label ⟨σ,h,hr,f⟩
 |region id ops draw=>
  intro ro n fs lo B w0 J r C p U σ k a w f h hr;refine wpIn_mono (Jy U.ops hm tk tsok ckok p f (by simpa[exec]using h) hr) λe a w R=>?_;cases e with
  |normal=>exact R
  |_=>exact R.elim
 |seq x y ihx ihy=>
  intro ro n fs lo B w0 J r C p U σ k a w f h hr;simp[exec]at h;refine wpIn_seq (wpIn_mono (ihx ro n fs lo B w0 J r C p (aT.left U) σ _ a w f h hr) λe a w R=>?_);cases e with
  |normal =>obtain⟨σ',h1,h2,h3⟩:=R;simp[bc]at h1;obtain⟨σ2,g1,g2,g3⟩:=qR h1 h2 h3;exact ihy ro n fs lo B w0 J r C p (aT.right U) σ2 k a w g3 g1 g2
  |exit id=>exact R
  |ret=>exact R
  |goto l=>exact R.elim
  |panic ch=>exact R.elim
  |outgrown=>exact R.elim
 |cond cnd x y ihx ihy=>
  intro ro n fs lo B w0 J r C p U σ k a w f h hr;simp[exec]at h;split at h
  next b hb=>
   have hr':=hr;obtain⟨c,_,_,_,_,hE,_⟩:=hr';have hv:=qM hE cnd;rw[hb]at hv;have hev:=fM hv.val_inv;cases b with
   |true=>exact wpIn_cond_true hev (ihx ro n fs lo B w0 J r C p (aT.left U) σ k a w f h hr)
   |false=>exact wpIn_cond_false hev (ihy ro n fs lo B w0 J r C p (aT.right U) σ k a w f h hr)
  ·cases h
 |block id x ih=>
  intro ro n fs lo B w0 J r C p U σ k a w f h hr;simp[exec]at h;refine wpIn_block (wpIn_mono (ih ro n fs lo B w0 J r C p U σ _ a w f h hr) λe a w R=>?_);cases e with
  |normal=>exact R
  |exit id'=>
   obtain⟨σ',h1,h2⟩:=R;simp[am]at h1;show if id'=id then _ else _
   cases hb:Nat.beq id' id with
   |true =>rw[hb]at h1;rw[β (ν hb)];exact⟨σ',h1,h2⟩
   |false =>rw[hb]at h1;rw[B' (B_ hb)];exact⟨σ',h1,h2⟩
  |ret=>exact R
  |goto l=>exact R.elim
  |panic ch=>exact R.elim
  |outgrown=>exact R.elim
 |loop x ih=>
  intro ro n fs lo B w0 J r C p U σ k a w f h hr;simp[exec]at h;split at h
  next m hmm=>
   obtain⟨σ1,h1,h2,h3⟩:=qR h hr f;refine wpIn_loop_rounds fuel ?_;have key:∀j σ a w,lo≤σ.heap.length→aW lo m (λσ k=>exec ck S lo fuel x σ k) k j σ=some r→Rel fs lo B w0 J σ a w→Code.roundsIn (RF ro) n P x (we fs lo B w0 J k r) j a w:=by
    intro j;induction j with
    |zero=>intro σ a w _ h _;cases h
    |succ j ihn=>
     intro σ a w f h hr;rw[roundsIn_succ];refine wpIn_mono (ih ro n fs lo B w0 J r C p U σ _ a w f h hr) λe a w R=>?_;cases e with
     |normal =>obtain⟨σ',q1,q2,q3⟩:=R;simp[S6]at q1;obtain⟨σ2,g1,g2,g3⟩:=qR q1 q2 q3;exact ihn σ2 a w g3 g1 g2
     |exit id=>exact R
     |ret=>exact R
     |goto l=>exact R.elim
     |panic ch=>exact R.elim
     |outgrown=>exact R.elim
   exact key fuel σ1 a w h3 h1 h2
  ·refine wpIn_loop_rounds fuel ?_;have key:∀j σ a w,lo≤σ.heap.length→pE (λσ k=>exec ck S lo fuel x σ k) k j σ=some r→Rel fs lo B w0 J σ a w→Code.roundsIn (RF ro) n P x (we fs lo B w0 J k r) j a w:=by
    intro j;induction j with
    |zero=>intro σ a w _ h _;cases h
    |succ j ihn=>
     intro σ a w f h hr;rw[roundsIn_succ];refine wpIn_mono (ih ro n fs lo B w0 J r C p U σ _ a w f h hr) λe a w R=>?_;cases e with
     |normal =>obtain⟨σ',q1,q2,q3⟩:=R;exact ihn σ' a w q3 q1 q2
     |exit id=>exact R
     |ret=>exact R
     |goto l=>exact R.elim
     |panic ch=>exact R.elim
     |outgrown=>exact R.elim
   exact key fuel σ a w f h hr
 |exit id=>intro ro n fs lo B w0 J r C p _ σ k a w f h hr;exact wpIn_exit ⟨σ,h,hr,f⟩
 |ret=>intro ro n fs lo B w0 J r C p _ σ k a w f h hr;exact wpIn_ret ⟨σ,h,hr,f⟩
 |rangeFunc g ps x y _ _=>intro ro n fs lo B w0 J r C p _ σ k a w _ h _;cases h
 |scope x _=>intro ro n fs lo B w0 J r C p _ σ k a w _ h _;cases h
 |goto l=>intro ro n fs lo B w0 J r C p _ σ k a w _ h _;cases h
 |refuse s=>intro ro n fs lo B w0 J r C p _ σ k a w _ h _;cases h
end
def iG (f:Array Value):ResultVar→Sem Value
 |.tmp t=>pure (f.getD t undef)
 |.cell t g=>do loadVar g (←asAddr (f.getD t undef))
section
variable {P:Program}{tab:Tab}{B:Bd}{lo:Nat}{w0:World}{J:Sb}{fs:List (List AV×List Value)}{σ:Sg}{a:Act}{c:Gh}
def de {fn:Func}{g:Array Value}{R:Ending→World→Prop}{n:Nat}:∀(l:List Nat) (c:Gh) (r:World),Inv B r J c→l.Nodup→(∀D∈l,B≤D∧c.w.heap[D]? = some (.deferred (some []))) →
  (∀(f:Gh) (C:World),f.heap=c.heap→Inv B C J f→Ev c f→Below B c.w f.w→f.w.drawn=c.w.drawn→(∀k,k ∉ l→f.w.heap[k]? = c.w.heap[k]?)→∃v,(results fn g).run P f.w = .ok v f.w∧R (.returned v) f.w) →
  LeavesInM (RF none) n P fn g R (l.map λD=>{ target :=.collected D,args :=#[] }) .returning c.w
 |[],c,r,hI,_,_,h=>h c r rfl hI (Ev.refl c) (Below.refl _ _) rfl (λ_ _=>rfl)
 |D::l,c,r,hI,hnd,hall,h=>by
  obtain⟨hB,hD⟩:=hall D (S' ..);obtain⟨U,T⟩:=aiB.1 hnd;obtain⟨hI2,hE2⟩:=hI.other (grownBy_putObj' c.w D (.deferred none)) hD rfl;refine⟨Ψ,.inl ⟨D,_,rfl,run_takeDeferred hD, ?_⟩⟩;refine de l { c with w:=c.w.putObj D (.deferred none) } _ hI2 T (λD' p=>?_) (λf C q1 q2 q3 q4 q5 q6=>?_)
  ·obtain⟨h1,h2⟩:=hall D' (J' _ p);have j:D'≠D:=λe=>U (by rw[←e];exact p);exact⟨h1,(World.putObj_heap_other j).trans h2⟩
  ·refine h f C q1 q2 (hE2.trans q3) (Below.trans ((Below.refl B c.w).grown (grownBy_putObj' c.w D (.deferred none)) hI.size (λk e=>by cases e;exact hB)) q4) q5 (λk hk=>?_);rw[q6 k (λhm=>hk (J' _ hm))];have j:k≠D:=λe=>hk (by rw[e];exact S' ..);exact World.putObj_heap_other j
variable{u res:AV}{l args:List AV}{vs:List Value}{fi:FuncId→Option Fi}{hs:Hs}{fuel:Nat}{St' :Sb}{v:Value}{f:FuncId}{x:Fi}{tys:List Ty}
def sq (tk:TabOk P tab)(hI:Inv B w0 J c)(hh:c.heap=σ.heap)(hE:RAs c σ.env a.tmps.toList){rv:ResultVar}(h:xO tab σ rv=some u) :
  ∃v,(iG a.tmps rv).run P c.w = .ok v c.w∧RA c u [v]:=by
 cases rv with
 |tmp t=>
  have R:=qM hE (.tmp t);simp[Ql,Act.eval]at R;simp[xO]at h;split at h
  ·cases h
  ·cases h;exact⟨_,by simp[iG],R⟩
 |cell t ty=>
  have R:=qM hE (.tmp t);simp only[Ql,Act.eval]at R;simp only[xO]at h;split at h
  next k g hk=>
   rw[hk]at R;obtain⟨cells,hc,e⟩:=R;simp at e;split at h
   ·rename_i C p hc' ht;rw[hh]at hc;have:C=cells:=by
     simp[hc,HO.box.injEq]at hc';exact hc'.symm
    subst this;split at h
    ·rename_i x R;cases h;obtain⟨arr,t',h1,h2,h3⟩:=pU hI (by rw[hh];exact hc);have T:=pZ R ((h2.drop g).take p.size);obtain⟨v,r,f⟩:=cB tk ht c.w ⟨c.blk k,g,none⟩ _ T.size (λj u U=>by
      rw[cN,h3,←U,K'];have hj:j<p.size:=by
       obtain h|h:=d_ j p.size
       ·exact h
       ·rw[K',B' Ω]at U;cases U
      rw[β hj,b_])
     refine⟨v, ?_,v,rfl,fO T f⟩;simp[iG,e,asAddr,r]
    ·split at h
     ·rename_i hs;simp at hs;cases h;obtain⟨hst,l⟩:=hs;unfold abR at l;split at l
      ·rename_i n hn;simp only[κ]at l;obtain⟨arr,t',h1,h2,h3⟩:=pU hI (by rw[hh];exact hc);have h4:=(h2.drop g).take p.size;obtain⟨_,_,s3⟩:=fJ h4 l.2;have hsz:((arr.toList.drop g).take p.size).length=p.size:=by
        rw[←h4.length,ν l.1];obtain⟨i,z,q1,q2,q3,q4,_⟩:=tk.ty ty p ht;obtain⟨fs,i',z',f1,f2,f3,f4,f5,f6⟩:=tk.one ty n hn;rw[q1]at f4;injection f4 with f4;subst f4;rw[q3]at f5;injection f5 with f5;subst f5;rw[←f6,←Array.length_toList,q4];exact(dn (w:=c.w) (St:=c.St) p).size
       obtain⟨v,r,f⟩:=cB tk ht c.w ⟨c.blk k,g,none⟩ _ hsz (λj u U=>by
        rw[cN,h3,←U,K'];have hj:j<p.size:=by
         obtain h|h:=d_ j p.size
         ·exact h
         ·rw[K',B' Ω]at U;cases U
        rw[β hj,b_])
       have hv':v = .agg ((arr.toList.drop g).take p.size).toArray:=by rw[hst]at f;simpa using f
       subst hv';refine⟨_, ?_,_,rfl,RA.of_chain h4,e8 _,s3⟩;simp[iG,e,asAddr,r]
      ·cases l
     ·cases h
   ·cases h
  ·cases h
def gX (g:TabOk P tab)(p:Inv B w0 J c)(j:c.heap=σ.heap)(r:RAs c σ.env a.tmps.toList):∀{f:List ResultVar} {l:List AV},dv tab σ f=some l →
  ∃vs,(f.mapM (iG a.tmps)).run P c.w = .ok vs c.w∧RAs c l vs
 |[],l,h=>by cases h;exact⟨[],Ψ,ans⟩
 |rv::f,l,h=>by
  simp[dv]at h;split at h
  next u us h1 h2=>cases h;obtain⟨v,R,C⟩:=sq g p j r h1;obtain⟨vs,q1,q2⟩:=gX g p j r h2;refine⟨v::vs, ?_,C,q2⟩;rw[aiJ,ξ,R,Δ,ξ,q1,Δ];rfl
  ·cases h
def nA (h:RAs c l vs):RA c (jA l) [if h:vs.length=1 then vs[0]else .tuple vs.toArray]:=by
 match l,vs,h with
 |[],[],_=>exact⟨[],Ψ,rfl,rfl⟩
 |[u],[v],⟨g,_⟩=>simpa[jA]using g
 |u::u'::l,v::f::vs,h =>refine⟨v::f::vs,Ψ,RA.of_chain h,e8 _⟩
def dg (f:TabOk P tab)(j:Inv B w0 J c)(g:c.heap=σ.heap)(p:RAs c σ.env a.tmps.toList){fn:Func}(h:dv tab σ fn.results.toList=some l) :
  ∃v vs,(results fn a.tmps).run P c.w = .ok v c.w∧RAs c l vs∧v=(if h:vs.length=1 then vs[0]else .tuple vs.toArray):=by
 obtain⟨vs,C,r⟩:=gX f j g p h;refine⟨_,vs, ?_,r,rfl⟩;have e:results fn a.tmps=(do let vs ←fn.results.mapM (iG a.tmps);pure (if h:vs.size=1 then vs[0]else .tuple vs)):=by unfold results;congr 2
 rw[e,B?,ξ,ajc,ξ,C,Δ];simp
structure FiOk (P:Program)(f:FuncId)(x:Fi):Prop where
 fn:∃fn,P.funcs[f]? = some fn∧fn.body=some x.code∧fn.ntmps=x.ntmps∧fn.results.toList=x.results∧(fn.name == "runtime.NumGoroutine")=false
 tab:TabOk P x.S.tab
 aE:SpecsOk P x.S.T
def iU (h:RAs c l vs)(n:Nat):RAs c (l++List.replicate n .unk) (vs++List.replicate n undef) :=
 h.append (Cx Ψ)
def FM (P:Program)(hs:Hs):Prop:=∀f args j out g,hs f args j=some (true,out,g)→bE P f ∧
 ∀(B:Bd) (w0:World) (J:Sb) (c:Gh),Inv B w0 J c→c.heap=j→∀vs,RAs c args vs →
  Calls P f vs.toArray c.w λe p=>∃v l,e = .returned v∧l.heap=g∧g.length=j.length∧l.w=p∧Inv B w0 J l∧Ev c l∧RA l out [v]
def jC (hm:P.follows .mixedOrders=true){fi:FuncId→Option Fi}{hs:Hs}{fuel:Nat}(hfi:∀f x,fi f=some x→FiOk P f x)(hhs:FM P hs):∀d yk Γ,Pd P yk Γ→ry P (sM fi hs fuel d yk) Γ
 |d,yk,Γ,U,.yld j,args,g,k,r,h=>U j args g k r (by cases d <;> exact h)
 |0,yk,Γ,U,.fn f,args,g,k,r,h=>by cases h
 |d+1,yk,Γ,U,.fn f,args,g,k,r,h=>by
  simp[sM]at h;split at h
  next b out heap' hsf=>
   cases b with
   |false=>cases h
   |true =>obtain⟨T,h2⟩:=hhs f args g out heap' hsf;refine λfs B w0 J c hI hh vs hr hfs hcx=>⟨T,(h2 B w0 J c hI hh vs hr).mono ?_⟩;rintro e w' ⟨v,C,he,q1,q2,q3,q4,q5,q6⟩;exact⟨v,out,C,he,by rw[q1];exact h,q3,q4,q6,by rw[q1,q2];exact ζ _,λfr hfr=>(hfs fr hfr).1.mono q5⟩
  split at h
  next x hx=>
   obtain⟨⟨fn,f1,f2,f3,f4,f5⟩,tk,ts⟩:=hfi f x hx;refine λfs B w0 J c hI hh vs hr hfs hcx=>⟨⟨fn,f1,by simp[f2],f5⟩, ?_⟩;refine callsIn_wide.1 (callsIn_of_wp_marks (F:=RF none) (n:=0) f1 f2 trivial (wpIn_mono (gh hm tk ts ⟨jC hm hfi hhs d yk Γ U,jC hm hfi hhs d⟩ x.code none 0 fs g.length B w0 J r (λ_ e=>by cases e) hcx (.inl rfl) _ _ _ c.w (ζ _) h ⟨c,w0,rfl,hh,hI, ?_,tR.none B w0,hfs⟩) λe a w hn=>?_))
   ·have:=iU hr (x.ntmps-args.length);rw[f3];have hlen:=hr.length;simpa[hlen]using this
   ·have fin:∀p,(match dv x.S.tab p x.results with|some l=>k (jA l) p.heap|none=>none)=some r→Rel fs g.length B w0 J p a w∧g.length≤p.heap.length→LeavesInM (RF none) 0 P fn a.tmps (λe w=>∃v' out C,e = .returned v'∧k out C.heap=some r∧C.w=w∧Inv B w0 J C∧RA C out [v']∧g.length≤C.heap.length∧∀fr∈fs,RAs C fr.1 fr.2) a.defers .returning w:=by
     rintro p T ⟨⟨c1,w1,rfl,hh1,R,hE1,⟨hb1,ho1,ms,hms,hnod,hmk⟩,hfs1⟩,hle⟩;rw[hms];refine de ms c1 w1 R hnod (λD hD=>⟨(hmk D hD).1,R.drawn.keep D _ (hmk D hD).2.2.1 rfl⟩) (λC w2 g1 hI2 hE2 g4 g5 g6=>?_);have hh':C.heap=p.heap:=g1.trans hh1;have hE':=hE1.mono hE2;have ho':Og B.F w0 C.w:=⟨c_ _,λk o x y=>by
      rw[g6 k (λhm=>by have:=(hmk k hm).2.1;have:=(η.1 x).1;omega)];exact(ho1.trans R.drawn).keep k o x y,λk f=>by
      rw[g6 k (λhm=>(hmk k hm).2.2.2 f)];exact(ho1.trans R.drawn).kb k f⟩
     have hI':Inv B w0 J C:=hI2.base ((hb1.trans R.below).trans g4) ho';split at T
     next l hl=>rw[←f4]at hl;obtain⟨v,vs',q1,q2,q3⟩:=dg tk hI' hh' hE' hl;exact⟨v,q1,v,jA l,C,rfl,by rw[hh'];exact T,rfl,hI',by rw[q3];exact nA q2,by rw[hh'];exact hle,λfr hfr=>(hfs1 fr hfr).1.mono hE2⟩
     ·cases T
    cases e with
    |normal=>obtain⟨p,T,h2⟩:=hn;exact fin p T h2
    |ret=>obtain⟨p,T,h2⟩:=hn;exact fin p T h2
    |exit id=>obtain⟨p,T,_⟩:=hn;cases T
    |goto l=>exact hn.elim
    |panic ch=>exact hn.elim
    |outgrown=>exact hn.elim
  ·cases h
def Em (l:P.follows .mixedOrders=true)(j:∀f x,fi f=some x→FiOk P f x)(g:FM P hs)(d:Nat):CkOk P (bN fi hs fuel d) [] :=
 ⟨jC l j g d noY [] (λ_ _ _ _ _ h=>by cases h),jC l j g d⟩
def dS (R:Inv B w0 J c)(p:c.St.le St')(T:∀k b o t e v l,c.heap[k]? = some (.mrow t e v l)→(c.rv k).ownBlock=some b→St' b o){t:Ty}{x:t.den}(h:DR c.heap t u=some x)(r:RA c u [v]):RepV c.w St' t x v:=by
 have plain:∀{t:Ty} {u:AV} {x:t.den},one? t u=some x→RA c u [v]→RepV c.w St' t x v:=λh r=>(one?_sound h r).mono p (λ_ _ _ _ x=>x);unfold DR at h;split at h
 next k ver lo hi=>
  split at h
  next τ=>
   split at h
   ·rename_i C e v' l j;split at h
    ·rename_i q1;subst q1;split at h
     next l2 hc=>obtain⟨U,g⟩:=cast?_some hc;cases U;have g:l2=l:=g;subst g;cases h;have f:=dX r j;obtain⟨xs,m1,m2,m3⟩:=R.mrow k _ _ _ _ j;exact(repv_cell rfl).2 (KC (B:=B) (e:=e) (xs:=xs) m1 (m2.mono p (λ_ _ _ _ x=>x)) (λb o P=>T k b o _ _ _ _ j P) f)
     ·cases h
    ·cases h
   ·cases h
  ·cases h
 ·exact plain h r
def xd (f:Inv B w0 J c){St':Sb}(j:c.St.le St')(g:∀k b o t e v l,c.heap[k]? = some (.mrow t e v l)→(c.rv k).ownBlock=some b→St' b o):∀{t:Ty} {l:List AV} {x:t.den} {vs:List Value},Wz c.heap t l=some x→RAs c l vs→Rep c.w St' (toD t x) vs
 |.int k,[a],x,[v],h,r=>(repv_cell rfl).1 (dS f j g h r.1)
 |.bool,[a],x,[v],h,r=>(repv_cell rfl).1 (dS f j g h r.1)
 |.str,[a],x,[v],h,r=>(repv_cell rfl).1 (dS f j g h r.1)
 |.slice t,[a],x,[v],h,r=>(repv_cell rfl).1 (dS f j g h r.1)
 |.unit,[],x,[],h,r=>rfl
 |.cons a b,l,x,vs,h,r=>by
  simp[Wz]at h;split at h
  next y z U T=>have:x=(y,z):=(π h).symm;subst this;exact⟨_,_,(g? a.size vs).symm,xd f j g U (r.take _),xd f j g T (r.drop _)⟩
  ·cases h
 |.tree,[a,b,d,e],x,[P,C,p,v4],h,r=>by
  simp[Wz]at h;split at h
  next k t ls ks q1 q2 R q4=>have:x=Tree.mk k t ls ks:=(π h).symm;subst this;obtain⟨r1,r2,r3,r4,_⟩:=r;refine⟨[P],[C,p,v4],rfl,(repv_cell rfl).1 (dS f j g q1 r1),[C],[p,v4],rfl,(repv_cell rfl).1 (dS f j g q2 r2),[p],[v4],rfl,(repv_cell rfl).1 (dS f j g R r3),[v4],[],rfl, ?_,rfl⟩;rw[iD];exact(repv_cell rfl).1 (dS f j g q4 r4)
  ·cases h
def RH (f:Inv B w0 J c)(j:c.St.le St')(g:∀k b o t e v l,c.heap[k]? = some (.mrow t e v l)→(c.rv k).ownBlock=some b→St' b o){t:Ty}{x:t.den}(h:adb c.heap t u=some x)(r:RA c u [v]):RepV c.w St' t x v:=by
 cases u with
 |agg p=>
  simp only[adb]at h;split at h
  next hs=>obtain⟨R,e,C,P,_⟩:=r;simp at e;subst e;unfold RepV;rw[β hs];exact⟨R,rfl,xd f j g h (C.parts P)⟩
  ·cases h
 |_=>simp[adb]at h;exact dS f j g h r
def Ff (j:Inv B w0 J c){St':Sb}(C:c.St.le St')(p:∀k b o t e v l,c.heap[k]? = some (.mrow t e v l)→(c.rv k).ownBlock=some b→St' b o):∀{g:List Ty} {l f:List AV} {vs:List Value},ZX c.heap g l=some f→RAs c l vs→RAs (aZ c.w St') f vs
 |[],[],f,[],h,_=>by cases h;trivial
 |t::g,u::l,f,v::vs,h,⟨r,P⟩=>by
  simp[ZX]at h;split at h
  next x r' R hr'=>cases h;exact⟨⟨v,rfl,RH j C p R r⟩,Ff j C p hr' P⟩
  ·cases h
def xe {w:World}{St:Sb}:∀{f:List ((t:Ty)×t.den)} {vs:List Value},RepVs w St f vs→RAs (aZ w St) (f.map λd=>.val d.1 d.2) vs
 |[],[],_=>trivial
 |_::_,v::_,⟨h,hs⟩=>⟨⟨v,rfl,h⟩,xe hs⟩
def F8 (U:P.follows .mixedOrders=true)(hfi:∀f x,fi f=some x→FiOk P f x)(hhs:FM P hs){d:Nat}(hx:FiOk P f x)
  (h:exec (bN fi hs fuel d) x.S 0 fuel x.code ⟨args++List.replicate (x.ntmps-args.length) .unk,[]⟩ (bw x.S.tab x.results tys)=some res):bE P f∧∀w St,(∀b e cap n,¬St.j b e cap n)→(∀b o,St b o→b<w.heap.size)→∀vs,RAs (aZ w St) args vs→Calls P f vs.toArray w (RW w St res):=by
 obtain⟨⟨fn,f1,f2,f3,f4,f5⟩,tk,ts⟩:=hx;refine⟨⟨fn,f1,by simp[f2],f5⟩,λw St hJ hb vs hr=>?_⟩;have hI:Inv ⟨w.heap.size,λ_=>False⟩ w St (aZ w St):=⟨Below.refl _ _,ζ _,hb,Sb.le.refl _,λ_ _ x=>.inl x,λk cells J=>by simp[aZ]at J,λk t e v J=>by simp[aZ]at J,λk k' b _ J=>by simp[obk,aZ]at J,λk t e v l J=>by simp[aZ]at J,Og.refl _,λ_ _ _ f=>f,λ_ f=>f.elim,hJ,λ_ _ _ _ x=>.inl x⟩;have hrs:=hr;refine callsIn_wide.1 (callsIn_of_wp_marks (F:=RF none) (n:=0) f1 f2 trivial (wpIn_mono (gh U tk ts (Em U hfi hhs d) x.code none 0 [] 0 ⟨w.heap.size,λ_=>False⟩ w St res (λ_ e=>by cases e) (λ_ h=>by cases h) (.inl rfl) _ _ _ w (c_ _) h ⟨aZ w St,w,rfl,rfl,hI, ?_,tR.none _ _,λ_ hfr=>by cases hfr⟩) λe a w' T=>?_))
 ·have:=iU hrs (x.ntmps-args.length);rw[f3];have hlen:=hrs.length;simpa[hlen]using this
 ·have fin:∀g,(match dv x.S.tab g x.results with|some l=>(match ZX g.heap tys l with|some l=>some (jA l)|none=>none)|none=>none)=some res→Rel [] 0 ⟨w.heap.size,λ_=>False⟩ w St g a w'∧0≤g.heap.length→LeavesInM (RF none) 0 P fn a.tmps (RW w St res) a.defers .returning w':=by
   rintro g C ⟨⟨c1,w1,rfl,hh1,r,hE1,⟨hb1,ho1,ms,hms,hnod,R⟩,_⟩,_⟩;rw[hms];refine de ms c1 w1 r hnod (λD hD=>⟨(R D hD).1,r.drawn.keep D _ (R D hD).2.2.1 rfl⟩) (λc' w2 g1 hI2 hE2 g4 g5 g6=>?_);have hh':c'.heap=g.heap:=g1.trans hh1;have hE':=hE1.mono hE2;have ho':Og (λ_=>False) w c'.w:=⟨c_ _,λk o x y=>by
    rw[g6 k (λU=>by have:=(R k U).2.1;have:=(η.1 x).1;omega)];exact(ho1.trans r.drawn).keep k o x y,λk f=>by
    rw[g6 k (λU=>(R k U).2.2.2 f)];exact(ho1.trans r.drawn).kb k f⟩
   have p:Inv ⟨w.heap.size,λ_=>False⟩ w St c':=hI2.base ((hb1.trans r.below).trans g4) ho';split at C
   ·rename_i l hl;rw[←f4]at hl;obtain⟨v,vs',q1,q2,q3⟩:=dg tk p hh' hE' hl;split at C
    ·rename_i l' hl';cases C;rw[←hh']at hl';let Q:Nat→Prop:=λb=>∃e cap n,c'.St.j b e cap n∧Jk ⟨w.heap.size,λ_=>False⟩ c' b e cap n;let S2:Sb:=⟨λb o=>c'.St b o∨((w.heap.size≤b∧b<c'.w.heap.size)∧¬Q b),c'.St.j⟩;refine⟨v,q1,v,S2,rfl,p.below,p.drawn.dr,⟨λb o x=>.inl (p.st0.s b o x),p.st0.j⟩,λb o x=>?_,λb e cap n x=>?_,by rw[q3];exact nA (Ff p (St':=S2) ⟨λ_ _ x=>.inl x,λ_ _ _ _ x=>x⟩ (λk b o t e v l J hb=>Or.inr ⟨by obtain⟨xs,m1,_⟩:=p.mrow k t e v l J;exact m1.lt b hb,λ⟨_,_,_,_,q⟩=>q.own k (by unfold obk;rw[J];exact hb)⟩) hl' q2)⟩
     rotate_left 1
     ·refine(p.junk b e cap n x).imp id λq=>⟨q.lo,q.le,q.cells,λo y=>?_⟩;obtain y|y:=y
      ·exact q.free o y
      ·exact y.2 ⟨e,cap,n,x,q⟩
     obtain x|⟨x,_⟩:=x
     ·obtain y|y:=p.stN b o x
      ·exact .inl y
      ·exact .inr ⟨y.1,p.bnd b o x⟩
     ·exact .inr x
    ·cases C
   ·cases C
  cases e with
  |normal=>obtain⟨g,C,h2⟩:=T;exact fin g C h2
  |ret=>obtain⟨g,C,h2⟩:=T;exact fin g C h2
  |exit id=>obtain⟨g,C,_⟩:=T;cases C
  |goto l=>exact T.elim
  |panic ch=>exact T.elim
  |outgrown=>exact T.elim
def F9 (hm:P.follows .mixedOrders=true)(p:∀f x,fi f=some x→FiOk P f x)(l:FM P hs){d:Nat}(U:FiOk P f x)
  (h:sf fi hs d x tys fuel args=some res):bE P f∧∀w St,(∀b o,St b o→b<w.heap.size)→∀vs,RAs (aZ w St) args vs→Calls P f vs.toArray w (RW w St res):=by
 unfold sf at h;split at h
 next g=>
  obtain⟨h1,h2⟩:=F8 hm p l U h;refine⟨h1,λw St hb vs hr=>(h2 w { s:=St.s } (λ_ _ _ _ f=>f) hb vs (RAs.nj (c:=aZ w St) (c':=aZ w { s:=St.s }) rfl rfl rfl rfl rfl (λ_ _ x=>x) g hr)).mono ?_⟩;rintro e r ⟨v,St',e1,q1,q2,T,R,J,C⟩;refine⟨v,⟨St'.s,λb e cap n=>St'.j b e cap n∨St.j b e cap n⟩,e1,q1,q2,⟨T.s,λ_ _ _ _ x=>.inr x⟩,R,λb e cap n x=>?_,C.mono (Ob (St:=St') (c':=aZ r ⟨St'.s,λb e cap n=>St'.j b e cap n∨St.j b e cap n⟩) ⟨λ_ _ x=>x,λ_ _ _ _ x=>.inl x⟩)⟩;obtain x|x:=x
  ·have q:=(J b e cap n x).resolve_left λf=>f;exact .inr ⟨q.lo,q.le,q.cells,q.free⟩
  ·exact .inl x
 ·cases h
def bJ (r:P.follows .mixedOrders=true)(j:∀f x,fi f=some x→FiOk P f x)(g:FM P hs){d:Nat}(l:FiOk P f x){ds:List ((t:Ty)×t.den)}
  (h:sf fi hs d x tys fuel (ds.map λd=>.val d.1 d.2)=some res):MeetsD P f ds res :=
 let ⟨R,J⟩:=F9 r j g l h
 ⟨R,λw St C vs p=>J w St C vs (xe p)⟩
end
def veq:Value→Value→Bool
 |.int k n,.int j g=>decide (k=j)&&decide (n=g)
 |.bool b,.bool l=>decide (b=l)
 |.string s,.string f=>decide (s.data.toList=f.data.toList)
 |.slice none 0 0,.slice none 0 0=>true
 |_,_=>false
def aep {a b:Value}(h:veq a b=true):a=b:=by
 unfold veq at h;split at h
 ·simp only[κ,ρ]at h;obtain⟨rfl,rfl⟩:=h;rfl
 ·simp only[ρ]at h;subst h;rfl
 next s s'=>simp only[ρ]at h;obtain⟨⟨l⟩⟩:=s;obtain⟨⟨f⟩⟩:=s';simp only at h;subst h;rfl
 ·rfl
 ·cases h
def abg:List Value→List Value→Bool
 |[],[]=>true
 |a::l,b::m=>veq a b&&abg l m
 |_,_=>false
def R6:∀{l m:List Value},abg l m=true→l=m
 |[],[],_=>rfl
 |a::l,b::m,h=>by simp[abg]at h;rw[aep h.1,R6 h.2]
def adn (ty:TypeId→Option Ty):List Field→List Ty→Nat→Bool
 |[],[],_=>true
 |f::fs,a::as,off=>(match ty f.type with|some b=>decide (b.size=a.size)&&decide (b.isStruct=a.isStruct)&&(!a.nojk||decide (b=a))|none=>false)&&decide (f.offset=off)&&decide (0<a.size)&&decide (f.name ≠ "_")&&adn ty fs as (off+a.size)
 |_,_,_=>false
def TJ {p:TypeId→Option Ty}:∀{j:List Field} {l:List Ty} {g:Nat},adn p j l g=true→FOk p j l g
 |[],[],_,_=>trivial
 |f::j,a::l,g,h=>by
  simp[adn]at h;refine⟨?_,h.1.1.1.2,h.1.1.2,h.1.2,TJ h.2⟩;have q:=h.1.1.1.1;split at q
  next b C=>simp at q;refine⟨b,C,q.1.1,q.1.2,λr=>?_⟩;have:=q.2;rw[r]at this;simpa using this
  ·cases q
def ahb (P:Program)(f:Tab)(t:TypeId)(g:Ty):TypeDesc→Bool
 |.int k=>decide (g = .int k)
 |.bool=>decide (g = .bool)
 |.string=>decide (g = .str)
 |.slice e=>match g with
  |.slice a=>decide (f.ty e=some a)&&decide (f.elem t=some e)&&decide (0<a.size)
  |.jsl l=>decide (l=e)&&decide (f.elem t=some e)&&(match f.ty e with|some a=>decide (a.size=1)|none=>false)
  |_=>false
 |.struct j=>g.isStruct && !P.stoodInHeld t && !P.eqGuardType P.depth t&&adn f.ty j.toList g.fields 0
 |_=>false
def GO (P:Program)(g:Tab)(t:TypeId)(f:Ty):Bool :=
 match P.info? t,P.underlying t with
 |some i,some d=>decide (i.size=f.size)&&decide (i.bytes≤16384)&&(match i.zero with|some z=>abg z.cells.toList (zl f)&&(!f.isStruct||(match z with|.agg _=>true|_=>false))|none=>false)&&ahb P g t f d
 |_,_=>false
variable{P:Program}{t:TypeId}{n:Nat}{f:FuncId}
def adk {j:Tab}{g:Ty}(h:GO P j t g=true):∃i z,P.info? t=some i∧i.size=g.size∧i.zero=some z∧z.cells.toList=zl g∧i.bytes≤16384∧(g.isStruct=true→∃cs,z = .agg cs)∧T1 P j t g:=by
 unfold GO at h;split at h
 next i d hi l=>
  simp at h;obtain⟨⟨⟨h1,h2⟩,p⟩,f⟩:=h;split at p
  next z U=>
   simp at p;refine⟨i,z,hi,h1,U,R6 p.1,h2,λR=>?_, ?_⟩
   ·have:=p.2;rw[R]at this;simp at this;split at this
    ·exact⟨_,rfl⟩
    ·cases this
   ·unfold ahb at f;split at f
    ·have:=p_ f;subst this;exact l
    ·have:=p_ f;subst this;exact l
    ·have:=p_ f;subst this;exact l
    ·split at f
     next e J a=>simp at f;exact⟨_,l,f.1.1,f.1.2,f.2⟩
     ·rename_i e J e';simp at f;obtain⟨⟨rfl,q1⟩,q2⟩:=f;split at q2
      next a T=>exact⟨a,l,T,p_ q2,q1⟩
      ·cases q2
     ·cases f
    next C=>simp at f;have r:∃C,P.underlying t=some (.struct C)∧P.stoodInHeld t=false∧P.eqGuardType P.depth t=false∧FOk j.ty C.toList g.fields 0:=⟨C,l,f.1.1.2,f.1.2,TJ f.2⟩;have R:=f.1.1.1;cases g <;> simp[Ty.isStruct]at R <;> exact r
    ·cases f
  ·cases p
 ·cases h
def af1 (P:Program)(f:Tab)(t:TypeId)(n:Nat):Bool :=
 match P.info? t,P.underlying t with
 |some i,some d=>decide (i.size=n)&&(match i.zero with|some z=>decide (z.cells.size=n)|none=>false)&&((f.ty t).isSome || !decide (n=1)||sC d)
 |_,_=>false
def ado {f:Tab}(h:af1 P f t n=true):∃i z d,P.info? t=some i∧i.size=n∧i.zero=some z∧z.cells.size=n∧P.underlying t=some d∧(f.ty t=none→n=1→sC d=true):=by
 unfold af1 at h;split at h
 next i d r C=>
  simp at h;obtain⟨⟨J,g⟩,h3⟩:=h;split at g
  next z l=>refine⟨i,z,d,r,J,l,p_ g,C,λp j=>?_⟩;simpa[p,j]using h3
  ·cases g
 ·cases h
def af0 (P:Program)(t:TypeId)(i d:Nat):Bool :=
 match P.underlying t with
 |some (.struct fs)=>match fs[i]? with
  |some f=>decide (f.offset=d)&&(match P.info? f.type with|some j=>decide (0<j.size)|none=>false)
  |none=>false
 |_=>false
def adl {i d:Nat}(h:af0 P t i d=true):∃g f j,P.underlying t=some (.struct g)∧g[i]? = some f∧f.offset=d∧P.info? f.type=some j∧0<j.size:=by
 unfold af0 at h;split at h
 next g p=>
  split at h
  next f C=>
   simp at h;obtain⟨J,l⟩:=h;split at l
   next j r=>exact⟨g,f,j,p,C,J,r,p_ l⟩
   ·cases l
  ·cases h
 ·cases h
def af3 (P:Program)(t:TypeId)(n:Nat):Bool :=
 match P.underlying t,P.info? t with
 |some (.struct fs),some i=>Nat.beq fs.size n&&(List.range n).all (λk=>match fs[k]? with|some f=>Nat.beq f.offset k&&(match P.info? f.type with|some j=>Nat.beq j.size 1|none=>false)|none=>false)&&(match i.zero with|some z=>Nat.beq z.cells.size n|none=>false)
 |_,_=>false
def adq (h:af3 P t n=true):∃g i z,P.underlying t=some (.struct g)∧g.size=n∧(∀(k:Nat) f,g[k]? = some f→f.offset=k∧∃j,P.info? f.type=some j∧j.size=1)∧P.info? t=some i∧i.zero=some z∧z.cells.size=n:=by
 unfold af3 at h;split at h
 next g i R hi=>
  simp only[κ,T',F_]at h;obtain⟨⟨l,h2⟩,r⟩:=h;have l:=ν l;split at r
  next z J=>
   refine⟨g,i,z,R,l,λk f C=>?_,hi,J,ν r⟩;have T:k<n:=by rw[←l];exact(η.1 C).1
   have:=h2 k T;rw[C]at this;simp only[κ]at this;refine⟨ν this.1, ?_⟩;have p:=this.2;split at p
   next j U=>exact⟨j,U,ν p⟩
   ·cases p
  ·cases r
 ·cases h
def af2 (P:Program)(t:TypeId)(n:Nat):Bool :=
 match P.underlying t,P.info? t with
 |some (.array m e),some i=>Nat.beq m n&&(match P.info? e with|some j=>Nat.beq j.size 1|none=>false)&&(match i.zero with|some z=>Nat.beq z.cells.size n|none=>false)
 |_,_=>false
def adp (h:af2 P t n=true):∃e i z j,P.underlying t=some (.array n e)∧P.info? e=some j∧j.size=1∧P.info? t=some i∧i.zero=some z∧z.cells.size=n:=by
 unfold af2 at h;split at h
 next m e i r J=>
  simp only[κ]at h;obtain⟨⟨l,g⟩,f⟩:=h;have l:=ν l;split at g
  next j C=>
   split at f
   next z p=>exact⟨e,i,z,j,by rw[r,l],C,ν g,J,p,ν f⟩
   ·cases f
  ·cases g
 ·cases h
structure TabL where
 ty:List (TypeId×Ty)
 cells:List (TypeId×Nat)
 offs:List ((TypeId×Nat)×Nat)
 elem:List (TypeId×TypeId)
 one:List (TypeId×Nat)
 inp:List Nat:=[]
 arr:List (TypeId×Nat):=[]
def look {f:Type}:List (Nat×f)→Nat→Option f
 |[],_=>none
 |(k,v)::r,i=>match Nat.beq k i with
  |true=>some v
  |false=>look r i
def SW:List ((Nat×Nat)×Nat)→Nat→Nat→Option Nat
 |[],_,_=>none
 |((k,j),v)::r,i,q=>match Nat.beq k i&&Nat.beq j q with
  |true=>some v
  |false=>SW r i q
def l6 {f:Type}:∀{l:List (Nat×f)} {i:Nat} {v:f},look l i=some v→(i,v)∈l
 |[],_,_,h=>by cases h
 |(k,u)::r,i,v,h=>by
  simp[look]at h;split at h
  next hb=>have:=ν hb;simp at h;subst this;subst h;simp
  ·exact J' _ (l6 h)
def HV:∀{l:List ((Nat×Nat)×Nat)} {i q v:Nat},SW l i q=some v→((i,q),v)∈l
 |[],_,_,_,h=>by cases h
 |((k,j),u)::r,i,q,v,h=>by
  simp[SW]at h;split at h
  next hb=>simp only[κ]at hb;have g:=ν hb.1;have f:=ν hb.2;simp at h;subst g;subst f;subst h;simp
  ·exact J' _ (HV h)
def TabL.tab (l:TabL):Tab:=⟨look l.ty,look l.cells,SW l.offs,look l.elem,look l.one,λt=>l.inp.any (Nat.beq t),look l.arr⟩
def TabL.chk (P:Program)(l:TabL):Bool :=
 l.ty.all (λp=>GO P l.tab p.1 p.2)&&l.cells.all (λp=>af1 P l.tab p.1 p.2)&&l.offs.all (λp=>af0 P p.1.1 p.1.2 p.2)&&l.elem.all (λp=>match P.underlying p.1 with|some (.slice e)=>Nat.beq e p.2|_=>false)&&l.one.all (λp=>af3 P p.1 p.2)&&l.arr.all (λp=>af2 P p.1 p.2)
def TabL.ok {l:TabL}(h:l.chk P=true):TabOk P l.tab:=by
 simp only[TabL.chk,κ,T']at h;obtain⟨⟨⟨⟨⟨J,C⟩,r⟩,h4⟩,p⟩,j⟩:=h;refine⟨λt g f=>adk (J (t,g) (l6 f)),λt n f=>ado (C (t,n) (l6 f)),λt i d f=>adl (r ((t,i),d) (HV f)),λt e f=>?_,λt n f=>adq (p (t,n) (l6 f)),λt n f=>adp (j (t,n) (l6 f))⟩;have:=h4 (t,e) (l6 f);simp only at this;split at this
 next e' hu=>rw[hu,ν this]
 ·cases this
abbrev Ent:=List AV→Option (Bool×AV)
def sp0 (R:AV):Ent:=λargs=>match args with|[]=>some (true,R)|_=>none
def sp1 (a:Ty)(G:a.den→Bool)(R:a.den→AV):Ent:=λargs=>match args with
 |[x]=>match dat? a x with|some x=>some (G x,R x)|none=>none
 |_=>none
def sp3 (a b c:Ty)(G:a.den→b.den→c.den→Bool)(R:a.den→b.den→c.den→AV):Ent:=λargs=>match args with
 |[x,y,z]=>match dat? a x,dat? b y,dat? c z with|some x,some y,some z=>some (G x y z,R x y z)|_,_,_=>none
 |_=>none
def sp4 (a b c d:Ty)(G:a.den→b.den→c.den→d.den→Bool)(R:a.den→b.den→c.den→d.den→AV):Ent:=λargs=>match args with
 |[x,y,z,u]=>match dat? a x,dat? b y,dat? c z,dat? d u with|some x,some y,some z,some u=>some (G x y z u,R x y z u)|_,_,_,_=>none
 |_=>none
def ai (P:Program)(f:FuncId)(e:Ent):Prop:=∀args res,e args=some (true,res)→FL P f args res
def aey {R:AV}(h:MeetsD P f [] R):ai P f (sp0 R):=λargs res g=>by
 unfold sp0 at g;split at g
 ·cases g;exact pD (ds:=[]) trivial h
 ·cases g
def ol {a:Ty}{G:a.den→Bool}{R:a.den→AV}(h:∀x,G x=true→MeetsD P f [⟨a,x⟩] (R x)):ai P f (sp1 a G R):=λargs res g=>by
 unfold sp1 at g;split at g
 ·split at g
  next x j=>simp at g;obtain⟨l,rfl⟩:=g;exact pD (ds:=[⟨a,x⟩]) ⟨j,ans⟩ (h x l)
  ·cases g
 ·cases g
def Xn {a b c:Ty}{G:a.den→b.den→c.den→Bool}{R:a.den→b.den→c.den→AV}(h:∀x y z,G x y z=true→MeetsD P f [⟨a,x⟩,⟨b,y⟩,⟨c,z⟩] (R x y z)):ai P f (sp3 a b c G R):=λargs res g=>by
 unfold sp3 at g;split at g
 ·split at g
  next x y z p l j=>simp at g;obtain⟨r,rfl⟩:=g;exact pD (ds:=[⟨a,x⟩,⟨b,y⟩,⟨c,z⟩]) ⟨p,l,j,ans⟩ (h x y z r)
  ·cases g
 ·cases g
def Xm {a b c d:Ty}{G:a.den→b.den→c.den→d.den→Bool}{R:a.den→b.den→c.den→d.den→AV}(h:∀x y z u,G x y z u=true→MeetsD P f [⟨a,x⟩,⟨b,y⟩,⟨c,z⟩,⟨d,u⟩] (R x y z u)):ai P f (sp4 a b c d G R):=λargs res g=>by
 unfold sp4 at g;split at g
 ·split at g
  next x y z u p l j r=>simp at g;obtain⟨C,rfl⟩:=g;exact pD (ds:=[⟨a,x⟩,⟨b,y⟩,⟨c,z⟩,⟨d,u⟩]) ⟨p,l,j,r,ans⟩ (h x y z u C)
  ·cases g
 ·cases g
def K1 (l:List (Nat×Ent))(f:FuncId)(args:List AV):Option (Bool×AV):=match look l f with
 |some e=>e args
 |none=>none
def aE (l:List (Nat×Ent)):Specs:={ call:=K1 l }
abbrev Rnt:=List AV→List AV→Option (Bool×AV)
def aeF (l:List (Nat×Rnt))(f:FuncId)(cells au:List AV):Option (Bool×AV):=match look l f with
 |some e=>e cells au
 |none=>none
abbrev Bnt:=List AV→List AV→Option (Bool×List AV×AV)
def agf (l:List (Nat×Bnt))(f:FuncId)(cells au:List AV):Option (Bool×List AV×AV):=match look l f with
 |some e=>e cells au
 |none=>none
def Ja (l:List (Nat×Ent))(p:List (Nat×Rnt))(j:List (Nat×Bnt))(g:List (Nat×Rw))(r:List (Nat×Nw)):Specs:={ call:=K1 l,rd:=aeF p,wr:=λf=>(look j f).isSome||(look g f).isSome,bx:=agf j,rb:=look g,nw:=look r }
def dM (P:Program):List (Nat×Ent)→Prop
 |[]=>True
 |(f,e)::r=>ai P f e∧dM P r
def jW:FM P hs0:=λ_ _ _ _ _ h=>by cases h
def aej (P:Program)(f:FuncId)(e:Rnt):Prop:=∀cells au res,e cells au=some (true,res)→T3 P f cells au res
def adW (P:Program):List (Nat×Rnt)→Prop
 |[]=>True
 |(f,e)::r=>aej P f e∧adW P r
def abC {l:List (Nat×Rnt)}(h:adW P l):∀f cells au res,aeF l f cells au=some (true,res)→T3 P f cells au res:=λf cells au res j=>by
 unfold aeF at j;split at j
 next e hl=>
  have:∀{l:List (Nat×Rnt)},adW P l→look l f=some e→aej P f e:=by
   intro l;induction l with
   |nil=>intro _ h;cases h
   |cons p r J=>
    obtain⟨k,R⟩:=p;intro C g;simp[look]at g;split at g
    next hb=>have:=ν hb;simp at g;subst this;subst g;exact C.1
    ·exact J C.2 g
  exact this h hl cells au res j
 ·cases j
variable{l:List (Nat×Ent)}
def IB (h:dM P l):∀f args res,K1 l f args=some (true,res)→FL P f args res:=λf args res j=>by
 unfold K1 at j;split at j
 next e hl=>
  have:∀{l:List (Nat×Ent)},dM P l→look l f=some e→ai P f e:=by
   intro l;induction l with
   |nil=>intro _ h;cases h
   |cons p r J=>
    obtain⟨k,R⟩:=p;intro C g;simp[look]at g;split at g
    next hb=>have:=ν hb;simp at g;subst this;subst g;exact C.1
    ·exact J C.2 g
  exact this h hl args res j
 ·cases j
def af (h:dM P l):SpecsOk P (aE l):=⟨IB h,(λ_ _ _ _ h=>by cases h),(λ_ _ _ _ _ h=>by cases h),(λ_ _ h=>by cases h),(λ_ _ h=>by cases h)⟩
def aem (P:Program)(f:FuncId)(e:Bnt):Prop:=∀cells au g res,e cells au=some (true,g,res)→T2 P f cells au g res
def adX (P:Program):List (Nat×Bnt)→Prop
 |[]=>True
 |(f,e)::r=>aem P f e∧adX P r
def adB {l:List (Nat×Bnt)}(h:adX P l):∀f cells au g res,agf l f cells au=some (true,g,res)→T2 P f cells au g res:=λf cells au g res C=>by
 unfold agf at C;split at C
 next e hl=>
  have:∀{l:List (Nat×Bnt)},adX P l→look l f=some e→aem P f e:=by
   intro l;induction l with
   |nil=>intro _ h;cases h
   |cons p r R=>
    obtain⟨k,T⟩:=p;intro J j;simp[look]at j;split at j
    next hb=>have:=ν hb;simp at j;subst this;subst j;exact J.1
    ·exact R J.2 j
  exact this h hl cells au g res C
 ·cases C
def ahl (P:Program)(f:FuncId)(q:Rw):Prop:=∀l au g,q.F l au=some (true,g)→adS P f q.t q.e l au g
def agt (P:Program):List (Nat×Rw)→Prop
 |[]=>True
 |(f,q)::r=>ahl P f q∧agt P r
def NA {P:Program}{f:FuncId}{q:Rw}:∀{l:List (Nat×Rw)},agt P l→look l f=some q→ahl P f q
 |[],_,h=>by cases h
 |(k,e')::r,ha,hlk=>by
  simp[look]at hlk;split at hlk
  next hb=>have:=ν hb;simp at hlk;subst this;subst hlk;exact ha.1
  ·exact NA ha.2 hlk
def RZ (P:Program)(f:FuncId)(q:Nw):Prop:=∀args g,q.F args=some (true,g)→ago P f q.t q.e args g
def agu (P:Program):List (Nat×Nw)→Prop
 |[]=>True
 |(f,q)::r=>RZ P f q∧agu P r
def NB {P:Program}{f:FuncId}{q:Nw}:∀{l:List (Nat×Nw)},agu P l→look l f=some q→RZ P f q
 |[],_,h=>by cases h
 |(k,e')::r,ha,hlk=>by
  simp[look]at hlk;split at hlk
  next hb=>have:=ν hb;simp at hlk;subst this;subst hlk;exact ha.1
  ·exact NB ha.2 hlk
def zK {j:List (Nat×Rnt)}{r:List (Nat×Bnt)}{g:List (Nat×Rw)}{p:List (Nat×Nw)}(h:dM P l)(J:adW P j)(T:adX P r)(C:agt P g)(R:agu P p):SpecsOk P (Ja l j r g p):=⟨IB h,abC J,adB T,λ_ _ f=>NA C f,λ_ _ f=>NB R f⟩
open Go.ChangeShapes Go.WideShapes Go.ChangeAt
def D.ok:D→Prop
 |.sc (.int k n)=>(Lit.int k n).wf=true
 |.sc (.string s)=>s.size≤maxLen
 |.sc _=>True
 |.nil=>True
 |.cons a b=>a.ok∧b.ok
 |.sl d=>d.len≤maxLen∧d.ok
 |.jk _ _=>True
def Ty.good:Ty→Bool
 |.cons a b=>a.good&&b.good&&(match b with|.unit|.cons _ _=>true|_=>false)
 |.slice a=>a.good
 |.jsl _=>false
 |_=>true
def uT:∀{t:Ty},t.good=true→t.nojk=true
 |.int _,_|.bool,_|.str,_|.unit,_|.tree,_=>rfl
 |.jsl _,h=>by cases h
 |.slice t,h=>uT (t:=t) h
 |.cons a b,h=>by simp[Ty.good]at h;simp[Ty.nojk,uT h.1.1,uT h.1.2]
def tg:∀{t:Ty},t.good=true→∀a∈t.fields,a.nojk=true
 |.cons a b,h=>by
  simp[Ty.good]at h;intro x f;obtain rfl|f:=C'.1 f
  ·exact uT h.1.1
  ·exact tg h.1.2 x f
 |.tree,_=>by simp[Ty.fields,Ty.nojk]
 |.int _,_|.bool,_|.str,_|.unit,_|.slice _,_|.jsl _,_=>by simp[Ty.fields]
def rB:List Ty→Ty
 |[]=>.unit
 |a::r=>.cons a (rB r)
def xZ:∀{f:Ty},f.good=true→(f = .unit∨∃a b,f = .cons a b)→rB f.fields=f
 |.unit,_,_=>rfl
 |.cons a b,h,_=>by
  simp[Ty.good]at h;have g:b = .unit∨∃l j,b = .cons l j:=by
   have:=h.2;cases b <;> simp at this
   ·exact .inl rfl
   ·exact .inr ⟨_,_,rfl⟩
  show Ty.cons a (rB b.fields)=_;rw[xZ h.1.2 g]
section
variable {H:Type}{enc:TypeId×Value→H}{P:Program}{tab:Tab}{W:World}{St:Sb}{sp:Nat→Bool}
variable{t:TypeId}{τ:Ty}{v:Value}
def xa (f:TabOk P tab)(h:tab.ty t=some τ):P.cellsOf t=τ.size:=by obtain⟨i,z,j,g,_⟩:=f.ty t τ h;simp[Program.cellsOf,j,g]
def adr {a:Addr}(h:W.cell? a=some v):a.block<W.heap.size:=by have:=World.cells?_block (base:=0) (n:=1) (cs:=[v]) (cells?_one (c_ _) h) Ω;exact this
def RY (enc:TypeId×Value→H)(P:Program)(tab:Tab)(W:World)(St:Sb)(sp:Nat→Bool)(f:Nat):Prop :=
 ∀t τ g x,tab.ty t=some τ→DataW.trod enc P W 0 sp true f t g=some x→∃y:τ.den,Rep W St (toD τ y) g∧(toD τ y).ok
def sD (tk:TabOk P tab){g:Nat}(ih:RY enc P tab W St sp g){r:List Value}:∀(l:List Ty) (p:List Field) (j:Nat) (xs:List (DataW H×List MemPlace)),(∀a∈l,a.nojk=true)→FOk tab.ty p l j →
  p.mapM (λf=>DataW.trod enc P W 0 sp true g f.type ((r.drop f.offset).take (P.cellsOf f.type)))=some xs→r.length=j+(rB l).size →
  ∃y:(rB l).den,Rep W St (toD (rB l) y) (r.drop j)∧(toD (rB l) y).ok
 |[],[],j,_,_,_,_,R=>⟨(),by simp[rB,Ty.size]at R;simp[rB,toD,Rep];omega,ans⟩
 |a::l,f::p,j,xs,hn,hf,hm,R=>by
  obtain⟨⟨ab,U,_,_,T⟩,h2,h3,h4,h5⟩:=hf;rw[T (hn a (S' ..))]at U;rw[aiJ]at hm;cases J:DataW.trod enc P W 0 sp true g f.type ((r.drop f.offset).take (P.cellsOf f.type))with
  |none=>simp[J]at hm
  |some x=>
   cases hr:p.mapM (λf=>DataW.trod enc P W 0 sp true g f.type ((r.drop f.offset).take (P.cellsOf f.type)))with
   |none=>simp[J,hr]at hm
   |some C =>obtain⟨y,hy,oy⟩:=ih _ _ _ _ U J;obtain⟨z,hz,oz⟩:=sD tk ih l p (j+a.size) C (λb hb=>hn b (J' _ hb)) h5 hr (by simp[rB,Ty.size]at R;omega);rw[h2,xa tk U]at hy;refine⟨(y,z),⟨_,_, ?_,hy,hz⟩,oy,oz⟩;rw[←List.drop_drop,g?]
 |[],_::_,_,_,_,h,_,_=>h.elim
 |_::_,[],_,_,_,h,_,_=>h.elim
def OX {g:Type}{f:g→D}:∀{l j:List g},(chain f l).ok→(chain f j).ok→(chain f (l++j)).ok
 |[],_,_,h=>h
 |_::_,_,h,p=>⟨h.1,OX h.2 p⟩
def DQ (tk:TabOk P tab)(hSt:∀b o,b<W.heap.size→St b o){C:Nat}(ih:RY enc P tab W St sp C){e:TypeId}{a:Ty}(he:tab.ty e=some a)(ha:0<a.size){p:Addr}{len:Nat}
  (h:∀i,i<len→∃x,(W.cells? 0 (p.add (i*P.cellsOf e)) (P.cellsOf e)).bind (DataW.trod enc P W 0 sp true C e)=some x):∀n,n≤len →
  ∃(l:List a.den) (J:List Value),l.length=n∧Rep W St (chain (toD a) l) J∧(chain (toD a) l).ok∧(0<n→p.spot=none)∧∀(j:Nat) u,J[j]? = some u→W.cell? (p.add j)=some u∧St p.block (p.off+j)
 |0,_=>⟨[],[],rfl,rfl,ans,λh=>Ω,λj u T=>by simp at T⟩
 |n+1,hn=>by
  obtain⟨l,J,hl,hr,ok,hs,hc⟩:=DQ tk hSt ih he ha h n Ω;obtain⟨x,hx⟩:=h n Ω;cases U:W.cells? 0 (p.add (n*P.cellsOf e)) (P.cellsOf e)with
  |none=>simp[U]at hx
  |some cs=>
   rw[U]at hx;obtain⟨y,hy,oy⟩:=ih e a cs x he hx;obtain⟨_,hlen,f⟩:=World.cells?_some U;rw[xa tk he]at hlen f;have h0:∃v,W.cell? (p.add (n*a.size))=some v:=by have:=f 0 ha;rw[add_zero]at this;have g:cs[0]? = some cs[0]:=δ Ω;exact⟨_,this.trans g⟩
   have r:p.spot=none:=by
    by_cases R:0<n
    ·exact hs R
    ·obtain⟨v,hv⟩:=h0;have R:n=0:=Ω
     rw[R,aiv,add_zero]at hv;exact World.cell?_spot hv
   refine⟨l++[y],J++cs,by simp[hl],fC hr ⟨cs,[],Ψ,hy,rfl⟩,OX ok ⟨oy,ans⟩,λ_=>r,λj u T=>?_⟩;have hdl:=bh hr;rw[hl]at hdl;by_cases hjd:j<J.length
   ·rw[ο hjd]at T;exact hc j u T
   ·rw[Q' Ω]at T;have hjc:j-J.length<cs.length:=(N'.1 T).1;have:=f (j-J.length) Ω;rw[Cw,T,show n*a.size+(j-J.length)=j by omega]at this;refine⟨this,hSt _ _ ?_⟩;have:=adr this;rw[(gJ p r j).1]at this;exact this
def MZ (tk:TabOk P tab)(hg:∀t τ,tab.ty t=some τ→τ.good=true)(hSt:∀b o,b<W.heap.size→St b o):∀j,RY enc P tab W St sp j
 |0=>λt τ cs x _ h=>by simp[DataW.trod]at h
 |j+1=>λt τ cs x ht h=>by
  have ih:=MZ tk hg hSt j;obtain⟨i,z,hi,hs,_,_,_,_,r⟩:=tk.ty t τ ht;have p:=hg t τ ht;have g:∀R,P.underlying t=some (.struct R)→cs.length=τ.size∧∃T,R.toList.mapM (λf=>DataW.trod enc P W 0 sp true j f.type ((cs.drop f.offset).take (P.cellsOf f.type)))=some T:=λR U=>by
   unfold DataW.trod at h;rw[U]at h;simp only at h;split at h
   ·rename_i C;rw[xa tk ht]at C;refine⟨C, ?_⟩;cases J:R.toList.mapM (λf=>DataW.trod enc P W 0 sp true j f.type ((cs.drop f.offset).take (P.cellsOf f.type)))with
    |none=>rw[J]at h;cases h
    |some T=>exact⟨T,rfl⟩
   ·cases h
  cases τ with
  |jsl e=>cases p
  |int k=>
   have r:P.underlying t=some (.int k):=r;unfold DataW.trod at h;rw[r]at h;split at h <;> try (first|(simp at *;done)|cases h)
   rename_i k0 k' n hk;cases hk;split at h
   next hw=>obtain⟨rfl,hw⟩:=hw;exact⟨n,⟨rfl,rfl⟩,hw⟩
   ·cases h
  |bool=>
   have r:P.underlying t=some .bool:=r;unfold DataW.trod at h;rw[r]at h;split at h <;> try (first|(simp at *;done)|cases h)
   rename_i b _;exact⟨b,⟨rfl,rfl⟩,ans⟩
  |str=>
   have r:P.underlying t=some .string:=r;unfold DataW.trod at h;rw[r]at h;split at h <;> try (first|(simp at *;done)|cases h)
   rename_i s _;split at h
   next C=>refine⟨s.data.toList,⟨rfl,rfl⟩, ?_⟩;exact C
   ·cases h
  |slice a=>
   obtain⟨e,r,he,_,ha⟩:=r;unfold DataW.trod at h;rw[r]at h;split at h <;> try (first|(simp at *;done)|cases h)
   ·exact⟨[],⟨none,0,0,rfl,rfl,ζ _,.inl rfl⟩,c_ _,ans⟩
   ·rename_i e' ad len cap hk;cases hk;split at h
    ·rename_i hb;dsimp only at h;cases J:(List.range len).mapM (λi=>(W.cells? 0 (ad.add (i*P.cellsOf e)) (P.cellsOf e)).bind (DataW.trod enc P W 0 sp true j e))with
     |none=>rw[J]at h;cases h
     |some elems=>
      have hall:∀i,i<len→∃x,(W.cells? 0 (ad.add (i*P.cellsOf e)) (P.cellsOf e)).bind (DataW.trod enc P W 0 sp true j e)=some x:=λi hi=>by
       have h1:=mapM_some_get J i i (by simp[hi]);have h2:=mapM_some_length J;have h4:i<elems.length:=by simp at h2;omega
       exact⟨_,h1.trans (δ h4)⟩
      obtain⟨l,ds,C,hr,ok,hsp,hc⟩:=DQ tk hSt ih he ha hall len (ζ _);refine⟨l,⟨some ad,len,cap,rfl,by rw[len_chain,C],hb.2.1, ?_⟩,by rw[len_chain,C];omega,ok⟩;by_cases h0:len=0
      ·exact .inl h0
      ·exact .inr ⟨ad,ds,rfl,hsp Ω,hr,hc⟩
    ·cases h
  |unit =>obtain⟨R,U,_,_,hF⟩:=r;obtain⟨C,T,J⟩:=g R U;exact⟨(),by simp[Ty.size]at C;simp[toD,Rep,C],ans⟩
  |cons a b =>obtain⟨R,U,_,_,hF⟩:=r;obtain⟨C,T,J⟩:=g R U;have e:=xZ p (.inr ⟨a,b,rfl⟩);have:=sD tk ih _ _ 0 T (tg p) hF J (by rw[e,C];omega);rw[e]at this;simpa using this
  |tree=>
   obtain⟨R,U,_,_,hF⟩:=r;obtain⟨C,T,J⟩:=g R U;obtain⟨⟨k,s,ls,ks,u⟩,hy,oy⟩:=sD tk ih _ _ 0 T (tg p) hF J (by rw[C];rfl);refine⟨Tree.mk k s ls ks, ?_, ?_⟩
   ·simp[toD,rz,iD];simpa[rB,Ty.fields,toD]using hy
   ·simp[toD,rz,iD];simpa[rB,Ty.fields,toD]using oy
def Av {u:Value}(h:v.cells.toList=[u])(g:∀f,v ≠ .agg f):v=u:=by cases v <;> simp_all[Value.cells]
def Qm (R:TabOk P tab)(hg:∀t τ,tab.ty t=some τ→τ.good=true)(J:∀b o,b<W.heap.size→St b o){d:DataW H}{p:List MemPlace}{l:Nat}(U:tab.ty t=some τ)
  (h:DataW.Trod enc P W 0 sp true t v d p) (C:Value.okWide P W .any l t v):∃y:τ.den,RepV W St τ y v∧(toD τ y).ok:=by
 obtain⟨j,h⟩:=h;obtain⟨y,r,oy⟩:=MZ R hg J j t τ _ _ U h;refine⟨y, ?_,oy⟩;obtain⟨i,z,_,_,_,_,_,_,T⟩:=R.ty t τ U;unfold RepV;split
 next f=>obtain⟨fs,hf,_⟩:=f0 f T;obtain⟨cs,rfl,_⟩:=okWide_struct hf C;exact⟨cs.toList,Ψ,by simpa[Value.cells]using r⟩
 next f=>
  have f:τ.isStruct=false:=by simpa using f
  have hl:=r.size;rw[qu f]at hl;obtain⟨u,g⟩:=X?.1 hl;have:v=u:=Av g (λcs e=>by
   subst e;obtain⟨d',hd,hp⟩:=CN f T;unfold Value.okWide at C;rw[hd]at C;cases d' <;> simp[sC]at hp <;> simp[Cell.okWide,Cell.ok,hd]at C)
  subst this;rw[g]at r;exact r
def HH (tk:TabOk P tab)(hg:∀t τ,tab.ty t=some τ→τ.good=true)(C:∀b o,b<W.heap.size→St b o){base:Nat}:∀(r:List TypeId) (f:List Ty) (l:List Value) (J:List (DataW H)) (ps:List MemPlace),
  r.map tab.ty=f.map some→DataW.TrodAll enc P W 0 sp true r l J ps→(∀(j:Nat) t v,r[j]? = some t→l[j]? = some v→Value.okWide P W .any base t v) →
  ∃g:List ((t:Ty)×t.den),g.map (·.1)=f∧RepVs W St g l∧(∀x∈g,(toD x.1 x.2).ok)∧J.length=g.length
 |[],[],l,J,ps,_,h,_=>by obtain⟨rfl,rfl,rfl⟩:=trodAll_nil h;exact⟨[],rfl,ans,Ψ,rfl⟩
 |t::r,τ::f,l,J,ps,hm,h,hv=>by
  obtain⟨v,R,d,U,p,q,rfl,rfl,rfl,h1,h2⟩:=trodAll_cons h;simp at hm;obtain⟨y,hy,oy⟩:=Qm (St:=St) tk hg C hm.1 h1 (hv 0 t v rfl rfl);obtain⟨g,e,hr,ok,hl⟩:=HH tk hg C r f R U q hm.2 h2 (λj t' v' a b=>hv (j+1) t' v' (by simpa using a) (by simpa using b));refine⟨⟨τ,y⟩::g,by simp[e],⟨hy,hr⟩,λx T=>?_,by simp[hl]⟩;obtain rfl|T:=C'.1 T
  ·exact oy
  ·exact ok x T
 |[],_::_,_,_,_,h,_,_=>by simp at h
 |_::_,[],_,_,_,h,_,_=>by simp at h
def wc (R:laidOutB P=true){U:World}(T:Below W.heap.size W U):∀(f:List TypeId) (g:List Value) (j:List (DataW H)) (ps:List MemPlace),(∀t∈f,P.readableRec t=true∧t<P.types.size) →
  DataW.TrodAll enc P W 0 (λ_=>true) true f g j ps→(∀x∈ps,x.block<W.heap.size)→DataW.TrodAll enc P U 0 (λb=>decide (b<W.heap.size)) true f g j ps
 |[],g,j,ps,_,h,_=>by obtain⟨rfl,rfl,rfl⟩:=trodAll_nil h;exact trodAll_mk0
 |t::f,g,j,ps,hr,h,hlt=>by
  obtain⟨v,l,d,J,p,q,rfl,rfl,rfl,h1,h2⟩:=trodAll_cons h;exact trodAll_cons_mk (Below.trod R (hr t Ψ).1 (hr t Ψ).2 h1 T (λx r=>hlt x (S_ _ r)))
   (wc R T f l J q (λt' C=>hr t' (J' _ C)) h2 (λx r=>hlt x (aiN _ r)))
structure LawOk (C:Checked)(tab:Tab)(f:FuncId)(fn:Func)(τs:List Ty)(tb:TypeId):Prop where
 own:ownKnob C.prog.godebug=none
 noInit:C.prog.inits.idxOf? f=none
 func:C.prog.funcs[f]? = some fn
 laid:laidOutB C.prog=true
 params:fn.params.toList.map tab.ty=τs.map some
 results:fn.resultTypes = #[tb]
 tbool:C.prog.underlying tb=some .bool
 read:∀t∈fn.params.toList,C.prog.readableRec t=true∧t<C.prog.types.size
 good:∀t τ,tab.ty t=some τ→τ.good=true
 tab:TabOk C.prog tab
def QV {C:Checked}{tab:Tab}{f:FuncId}{fn:Func}{T:List Ty}{tb:TypeId}(k:LawOk C tab f fn T tb){s:ChangeSpec}{R:List PathCond}{apart:Bool}(J:s.vars=[])(hspec:∀(H:Type) (U:List (DataW H)),U.length=T.length→s.fn H U={ results:=[.lit (.bool true)],args:=U })
  (HT:∀xs:List ((t:Ty)×t.den),xs.map (·.1)=T→(∀x∈xs,(toD x.1 x.2).ok)→MeetsD C.prog f xs (.val .bool true))
  {os:Os} (r:os.Started) {H:Type} {enc:TypeId×Value→H} {a:Assume}
  (l:∃(w:World) (g:Tape) (i:Input),w.os=os∧(w.forCall g i).Shaped C.prog∧i.vars=[]∧Input.okWide C.prog (w.forCall g i) .any w.heap.size f i ∧
   s.pre6 enc C.prog fn R apart (w.forCall g i).memory i.args∧a.holds C.prog (lone (Frame.enter C.prog f i.args .normal) [] (w.forCall g i))) {fresh P:Bool} :
  ReturnsInHanded a C os f .any (s.pre6 enc C.prog fn R apart) (s.post enc C.prog fn apart fresh P false):=by
 refine returnsInHanded_of_change k.own r k.noInit k.func l ?_;intro W base args U gs before hval hW _ _;have hW':=hW;obtain⟨p,q,hA,hV,rfl,hfz,hnd⟩:=hW;rw[J]at hV;obtain⟨rfl,rfl⟩:=trodVars_none hV;have hlt:∀x∈p,x.block<W.heap.size:=λx hx=>by simpa using hW'.lt x (by simp[hx])
 obtain⟨xs,e,hr,ok,hl⟩:=HH (St:={ s:=λb _=>b<W.heap.size }) k.tab k.good (λ_ _ h=>h) (base:=base) fn.params.toList T args.toList U p k.params hA
  (λj t v a b=>hval j t v (by simpa using a) (by simpa using b))
 obtain⟨_,hm⟩:=HT xs e ok;have hm:=hm W { s:=λb _=>b<W.heap.size } (λ_ _ h=>h) args.toList hr;rw[show args.toList.toArray=args by simp]at hm;refine hm.mono λe' W' ⟨v,St',he,hb,_,_,_,_,hv⟩=>?_;subst he;have hv:v = .bool true:=by obtain⟨v',e1,hv⟩:=hv;cases e1;exact fM hv
 subst hv;have es:s.fn H (U++[])={ results:=[.lit (.bool true)],args:=U }:=by rw[m?];exact hspec H U (by rw[hl,←e,o_])
 refine⟨_,rfl,U,[],p++[],[],p,[],hW', ?_, ?_, ?_,hb.frame _,λh=>by cases h⟩
 ·rw[es,k.results];exact trodAll_mk1 (shut_bool k.tbool true)
 ·rw[es];exact wc k.laid hb _ _ _ _ k.read hA hlt
 ·rw[J,es];rfl
end
variable{P:Program}
def meets_of_ent {f:FuncId}{e:Ent}(h:ai P f e){g:List ((t:Ty)×t.den)}{res:AV}(p:e (g.map λd=>.val d.1 d.2)=some (true,res)):MeetsD P f g res:=by obtain⟨R,C,T,J⟩:=h _ _ p;exact⟨T,λw St r j l=>J w St r j (C (aZ w St) j (xe l))⟩
def abz {l:List TypeId}(h:(l.all λt=>P.readableRec t&&decide (t<P.types.size))=true):∀t∈l,P.readableRec t=true∧t<P.types.size:=λt f=>by have:=T'.1 h t f;simpa using this
section
variable {P:Program}{B:Bd}{w0:World}{J:Sb}{c:Gh}
def Inv.turned (P:Inv B w0 J c){k:Nat}{cells p:List AV}(hk:c.heap[k]? = some (.box cells)){w':World}{arr':Array Value}{t':TypeId}(hbel:Below B.b c.w w')(hdr:dz c.w≤dz w')
  (hoth:∀(b:Nat) (o:Obj),c.w.heap[b]? = some o→o.isCells=false→w'.heap[b]? = some o) (same:∀b,b<c.w.heap.size→b≠c.blk k→w'.heap[b]? = c.w.heap[b]?)
  (hnew:w'.heap[c.blk k]? = some (.cells arr' t' (0,0))) {S:Sb} (hS1:c.St.le S) (hS2:∀b o,S b o→c.St b o∨(c.w.heap.size≤b∧b<w'.heap.size)) (hj:∀b e cap n,S.j b e cap n→c.St.j b e cap n∨NJ c.w.heap.size w' S b e cap n)
  (hcells:RAs { c with w:=w',heap:=c.heap.set k (.box p),St:=S } p arr'.toList) :
  Inv B w0 J { c with w:=w',heap:=c.heap.set k (.box p),St:=S }∧Ev c { c with w:=w',heap:=c.heap.set k (.box p),St:=S }:=by
 obtain⟨arr,t,b1,b2,b3,b4⟩:=P.box k cells hk;have hlt:=ak hk;have hok:obk c k=some (c.blk k):=by unfold obk;rw[hk]
 have hbl:=(η.1 b1).1;have T:∀i,i≠k→(c.heap.set k (.box p))[i]? = c.heap[i]?:=λi C=>by rw[get_set,B' (λe=>C e.symm)]
 have new:(c.heap.set k (.box p))[k]? = some (.box p):=by rw[get_set,β rfl,β hlt]
 have ev:Ev c { c with w:=w',heap:=c.heap.set k (.box p),St:=S }:=by
  refine⟨hS1,λa v hst _ hc=>?_,λi cs x=>?_,λi t e v x=>?_,λi t e v l x=>?_,λi x=>?_,λ_ _=>rfl⟩
  ·exact(ais (same a.block (P.bnd _ _ hst) (λe=>b3 a.off (e ▸ hst)))).trans hc
  ·by_cases C:i=k
   ·subst C;exact⟨p,new,rfl⟩
   ·exact⟨cs,(T i C).trans x,rfl⟩
  ·have C:i≠k:=λe=>by subst e;rw[hk]at x;cases x
   exact⟨t,e,v,(T i C).trans x,ζ _,λ_=>rfl⟩
  ·have C:i≠k:=λe=>by subst e;rw[hk]at x;cases x
   exact .inl ⟨v,l,(T i C).trans x,ζ _,λ_=>rfl⟩
  ·have C:i≠k:=λe=>by subst e;rw[hk]at x;cases x
   exact(T i C).trans x
 have hob:∀i,obk { c with w:=w',heap:=c.heap.set k (.box p),St:=S } i=obk c i:=λi=>by
  by_cases C:i=k
  ·subst C;unfold obk;simp[new,hk]
  ·exact fA (T i C) rfl rfl
 have l8:∀i b,i≠k→obk c i=some b→w'.heap[b]? = c.w.heap[b]?:=λi b C hb=>
  same b (fF P hb).1 (λe=>P.sep i k b C hb (by rw[e];exact hok))
 have R:∀b o,b<c.w.heap.size→S b o→c.St b o:=λb o hb x=>by
  obtain x|x:=hS2 b o x
  ·exact x
  ·omega
 refine⟨⟨P.below.trans hbel,Θ P.size hbel.size, ?_,P.st0.trans hS1, ?_, ?_, ?_, ?_, ?_,P.drawn.trans ⟨hdr,hoth,λb f=>same b (P.fl b f) (λe=>P.fo k b (by rw[e];exact hok) f)⟩,λi b hb=>P.fo i b (by rw[hob i]at hb;exact hb),λb f=>k_ (P.fl b f) hbel.size,P.j0,λb e cap n x=>?_⟩,ev⟩
 rotate_right 1
 ·obtain x|x:=hj b e cap n x
  ·exact(P.junk b e cap n x).imp id λq=>q.keep (same b q.lt λe=>q.own k (by rw[e];exact hok)) (λo y=>R b o q.lt y) λi y=>by rw[hob i]at y;exact y
  ·exact .inr ⟨Θ P.size x.lo,λf=>by have:=P.fl b f;have:=x.lo;omega,x.le,x.cells,x.free,λi y=>by
    rw[hob i]at y;have:=(fF P y).1;have:=x.lo;omega⟩
 ·intro b o x;obtain x|x:=hS2 b o x
  ·exact k_ (P.bnd b o x) hbel.size
  ·exact x.2
 ·intro b o x;obtain x|x:=hS2 b o x
  ·exact P.stN b o x
  ·exact .inr ⟨Θ P.size x.1,λf=>by have:=P.fl b f;omega⟩
 ·intro i cs C;by_cases ei:i=k
  ·subst ei;have:=new.symm.trans C;cases this;exact⟨arr',t',hnew,b2,λo x=>b3 o (R _ o hbl x),hcells⟩
  ·have C:=(T i ei).symm.trans C;obtain⟨a1,t1,q1,q2,q3,q4⟩:=P.box i cs C;have U:obk c i=some (c.blk i):=by unfold obk;rw[C]
   exact⟨a1,t1,(l8 i _ ei U).trans q1,q2,λo x=>q3 o (R _ o (η.1 q1).1 x),q4.mono ev⟩
 ·intro i t1 e1 v1 C;have ei:i≠k:=λe=>by subst e;have:=new.symm.trans C;injection this with this;cases this
  have C:=(T i ei).symm.trans C;obtain⟨n1,xs1,q1,q2⟩:=P.row i t1 e1 v1 C;have U:obk c i=(c.rv i).ownBlock:=by unfold obk;rw[C]
  refine⟨n1,xs1,⟨q1.1, ?_⟩,λb hb o hle x=>q2 b hb o hle (R b o (fF P (U.trans hb)).1 x)⟩;obtain x|⟨g,cap,cur,r1,r2,r3,r⟩:=q1.2
  ·exact .inl x
  ·exact .inr ⟨g,cap,cur,r1,r2,(l8 i g ei (by rw[U,r1];rfl)).trans r3,r⟩
 ·intro i j b hij hb hb';rw[hob]at hb hb';exact P.sep i j b hij hb hb'
 ·intro i t1 e1 v1 l1 C;have ei:i≠k:=λe=>by subst e;have:=new.symm.trans C;injection this with this;cases this
  have C:=(T i ei).symm.trans C;obtain⟨xs1,q1,qr,q2⟩:=P.mrow i t1 e1 v1 l1 C;have U:obk c i=(c.rv i).ownBlock:=by unfold obk;rw[C]
  refine⟨xs1,⟨q1.1, ?_⟩,qr.mono ev.st ev.cell,λb hb o x=>q2 b hb o (R b o (fF P (U.trans hb)).1 x)⟩;obtain x|⟨g,cap,cur,r1,r2,r3,r⟩:=q1.2
  ·exact .inl x
  ·exact .inr ⟨g,cap,cur,r1,r2,(l8 i g ei (by rw[U,r1];rfl)).trans r3,r⟩
end
def FU:Nat:=1099511627776
section
variable {α U:Type}
def fN (m:Nat)(k:Nat→U):U:=match m with
 |0=>k 0
 |n+1=>k (n+1)
def fI (n:Int)(k:Int→U):U:=match n with
 |.ofNat m=>fN m λm=>k (.ofNat m)
 |.negSucc m=>fN m λm=>k (.negSucc m)
def fU (x:UInt8)(k:UInt8→U):U:=fN x.toNat λn=>k (UInt8.ofNat n)
def fL (f:α→(α→U)→U):List α→(List α→U)→U
 |[],k=>k []
 |x::l,k=>f x λy=>fL f l λg=>k (y::g)
def Tq (m:Nat)(k:Nat→U):fN m k=k m:=by cases m <;> rfl
def aec (n:Int)(k:Int→U):fI n k=k n:=by cases n <;> simp[fI,Tq]
def Zs (x:UInt8)(k:UInt8→U):fU x k=k x:=by simp[fU,Tq]
def EY {f:α→(α→U)→U}(g:∀x k,f x k=k x):∀(l:List α) (k:List α→U),fL f l k=k l
 |[],k=>rfl
 |x::l,k=>by rw[fL,g,EY g l]
def nf:(t:Ty)→t.den→(t.den→U)→U
 |.int _,n,k=>fI n k
 |.bool,b,k=>match b with
  |true=>k true
  |false=>k false
 |.str,s,k=>fL fU s k
 |.slice t,l,k=>fL (nf t) l k
 |.jsl _,n,k=>fN n k
 |.unit,_,k=>k ()
 |.cons a b,x,k=>nf a x.1 λy=>nf b x.2 λz=>k (y,z)
 |.tree,x,k=>match x with
  |.mk j t f g=>fI j λj=>fL fU t λt=>fL (fL fU) f λf=>fL (λx k=>k x) g λg=>k (.mk j t f g)
def HL:∀(t:Ty) (x:t.den) (k:t.den→U),nf t x k=k x
 |.int _,n,k=>aec n k
 |.bool,b,k=>by cases b <;> rfl
 |.str,s,k=>EY Zs s k
 |.slice t,l,k=>EY (HL t) l k
 |.jsl _,n,k=>Tq n k
 |.unit,_,_=>rfl
 |.cons a b,x,k=>by rw[nf,HL a,HL b]
 |.tree,.mk j t f g,k=>by simp[nf];rw[aec,EY Zs,EY (EY Zs),EY (λ_ _=>rfl)]
def jO (g:Bool)(v:α)(k:α→Option U):Option U:=cond g (k v) none
def wI (x:Option α)(k:α→Option U):Option U:=match x with
 |some a=>k a
 |none=>none
def aam (x:Option α)(d:α)(k:α→Option U):jO x.isSome (x.getD d) k=wI x k:=by cases x <;> rfl
variable{γ:Type}
def adC (f:U→γ)(c:Bool)(x y:Option U):Option.map f (cond c x y)=cond c (Option.map f x) (Option.map f y):=by cases c <;> rfl
def Yx (f:U→γ)(x:Option α)(k:α→Option U):Option.map f (wI x k)=wI x (λr=>Option.map f (k r)):=by cases x <;> rfl
def Wm (f:U→γ)(g:Bool)(v:α)(k:α→Option U):Option.map f (jO g v k)=jO g v (λr=>Option.map f (k r)):=by cases g <;> rfl
def Oa {f:U→γ}{x:Option U}{d:U}(h:x.isSome=true):Option.map f x=some (f (x.getD d)):=by
 cases x with
 |none=>cases h
 |some r=>rfl
end
def XD (f:Tab)(p:List ResultVar)(g:Ty)(e:TypeId):KT:=λr j=>
 match r with
 |.exit _=>none
 |_=>match dv f j p with
  |some [.own k v t l]=>match (j.heap[k]? : Option HO)with
   |some (.row t' e' v')=>if t'=t then if e'=e then if v'=v then match cast? (.slice t) (.slice g) l with
     |some l=>some (.val (.slice g) l)
     |none=>none
    else none else none else none
   |_=>none
  |_=>none
def Xy (l:FuncId→Option Fi)(j:Hs)(d:Nat)(x:Fi)(g:Ty)(e:TypeId)(f:Nat)(args:List AV):Option AV :=
 match args.all AV.nojk with
 |true=>exec (bN l j f d) x.S 0 f x.code ⟨args++List.replicate (x.ntmps-args.length) .unk,[]⟩ (XD x.S.tab x.results g e)
 |false=>none
section
variable {P:Program}{B:Bd}{w0:World}{J:Sb}{c:Gh}
def O7 {c:Gh}:∀{g:List ((t:Ty)×t.den)} {f:List Value},RepVs c.w c.St g f→RAs c (g.map λd=>.val d.1 d.2) f
 |[],[],_=>trivial
 |_::_,v::_,⟨h,j⟩=>⟨⟨v,rfl,h⟩,O7 j⟩
variable{τ:Ty}{e:TypeId}
def Inv.turnedRow (P:Inv B w0 J c){k v:Nat}(hk:c.heap[k]? = some (.row τ e v)){w':World}{St':Sb}{s':Value}{n':Nat}{xs':List Value}(hbel:Below B.b c.w w')(hdr:dz c.w≤dz w')
  (hoth:∀(b:Nat) (o:Obj),c.w.heap[b]? = some o→o.isCells=false→w'.heap[b]? = some o) (same:∀b,b<c.w.heap.size→(c.rv k).ownBlock≠some b→w'.heap[b]? = c.w.heap[b]?)
  (hst:c.St.le St') (hcell:∀(a:Addr) u,c.St a.block a.off→a.spot=none→c.w.cell? a=some u→w'.cell? a=some u) (hbnd:∀b o,St' b o→b<w'.heap.size)
  (hnew:∀b o,St' b o→c.St b o∨(B.b≤b∧¬(b<c.w.heap.size∧(c.rv k).ownBlock≠some b)))
  (hown:w'.ownsRow B e τ.size s' n' xs') (hfree:∀b,s'.ownBlock=some b→∀o,n'*τ.size≤o→¬St' b o) (hob:∀b,s'.ownBlock=some b→¬(b<c.w.heap.size∧(c.rv k).ownBlock≠some b))
  (hj:∀b e cap n,St'.j b e cap n→c.St.j b e cap n∨(B.b≤b∧¬(b<c.w.heap.size∧(c.rv k).ownBlock≠some b)∧NJ 0 w' St' b e cap n∧s'.ownBlock≠some b)) :
  Inv B w0 J { c with w:=w',heap:=c.heap.set k (.row τ e (v+1)),rv:=λi=>if i=k then s' else c.rv i,St:=St' }∧Ev c { c with w:=w',heap:=c.heap.set k (.row τ e (v+1)),rv:=λi=>if i=k then s' else c.rv i,St:=St' }:=by
 have hlt:=ak hk;have hok:obk c k=(c.rv k).ownBlock:=by unfold obk;rw[hk]
 have T:∀i,i≠k→(c.heap.set k (.row τ e (v+1)))[i]? = c.heap[i]?:=λi l=>by rw[get_set,B' (λe=>l e.symm)]
 have new:(c.heap.set k (.row τ e (v+1)))[k]? = some (.row τ e (v+1)):=by rw[get_set,β rfl,β hlt]
 have ev:Ev c { c with w:=w',heap:=c.heap.set k (.row τ e (v+1)),rv:=λi=>if i=k then s' else c.rv i,St:=St' }:=by
  refine⟨hst,hcell,λi cs x=>?_,λi t1 e1 v1 x=>?_,λi t1 e1 v1 l1 x=>?_,λi x=>?_,λ_ _=>rfl⟩
  ·have l:i≠k:=λe=>by subst e;rw[hk]at x;cases x
   exact⟨cs,(T i l).trans x,rfl⟩
  ·by_cases l:i=k
   ·subst l;rw[hk]at x;injection x with x;injection x with x1 x2 x3;exact⟨τ,e,v+1,new,Ω,λh=>Ω⟩
   ·exact⟨t1,e1,v1,(T i l).trans x,ζ _,λ_=>by simp[B' l]⟩
  ·have l:i≠k:=λe=>by subst e;rw[hk]at x;cases x
   exact .inl ⟨v1,l1,(T i l).trans x,ζ _,λ_=>by simp[B' l]⟩
  ·have l:i≠k:=λe=>by subst e;rw[hk]at x;cases x
   exact(T i l).trans x
 have hobk:obk { c with w:=w',heap:=c.heap.set k (.row τ e (v+1)),rv:=λi=>if i=k then s' else c.rv i,St:=St' } k=s'.ownBlock:=by unfold obk;simp[new]
 have R:∀i,i≠k→obk { c with w:=w',heap:=c.heap.set k (.row τ e (v+1)),rv:=λi=>if i=k then s' else c.rv i,St:=St' } i=obk c i:=λi l=>fA (T i l) rfl (by simp[B' l]);have other:∀i b,i≠k→obk c i=some b→b<c.w.heap.size∧(c.rv k).ownBlock≠some b:=λi b l C=>
  ⟨(fF P C).1,λx=>P.sep i k b l C (hok.trans x)⟩
 have l8:∀i b,i≠k→obk c i=some b→w'.heap[b]? = c.w.heap[b]?:=λi b l C=>same b (other i b l C).1 (other i b l C).2;have noNew:∀i b o,i≠k→obk c i=some b→St' b o→c.St b o:=λi b o l C x=>by
  obtain y|y:=hnew b o x
  ·exact y
  ·exact absurd (other i b l C) y.2
 refine⟨⟨P.below.trans hbel,Θ P.size hbel.size,hbnd,P.st0.trans hst, ?_, ?_, ?_, ?_, ?_,P.drawn.trans ⟨hdr,hoth,λb f=>same b (P.fl b f) (λx=>P.fo k b (hok.trans x) f)⟩, ?_,λb f=>k_ (P.fl b f) hbel.size,P.j0,λb e cap n x=>?_⟩,ev⟩
 rotate_right 1
 ·obtain x|⟨y1,y2,y3,y4⟩:=hj b e cap n x
  ·refine(P.junk b e cap n x).imp id λq=>?_;have hin:b<c.w.heap.size∧(c.rv k).ownBlock≠some b:=⟨q.lt,λy=>q.own k (hok.trans y)⟩;refine q.keep (same b hin.1 hin.2) (λo y=>?_) λi y=>?_
   ·obtain y|y:=hnew b o y
    ·exact y
    ·exact absurd hin y.2
   ·by_cases p:i=k
    ·subst p;rw[hobk]at y;exact absurd hin (hob b y)
    ·rw[R i p]at y;exact y
  ·refine .inr ⟨y1,λf=>y2 ⟨P.fl b f,λz=>P.fo k b (hok.trans z) f⟩,y3.le,y3.cells,y3.free,λi y=>?_⟩;by_cases p:i=k
   ·subst p;rw[hobk]at y;exact y4 y
   ·rw[R i p]at y;exact y2 (other i b p y)
 ·intro b o x;obtain y|⟨y1,y2⟩:=hnew b o x
  ·exact P.stN b o y
  ·exact .inr ⟨y1,λf=>y2 ⟨P.fl b f,λz=>P.fo k b (hok.trans z) f⟩⟩
 ·intro i cs l;have p:i≠k:=λe=>by subst e;have:=new.symm.trans l;injection this with this;cases this
  have l:=(T i p).symm.trans l;obtain⟨a1,t1,q1,q2,q3,q4⟩:=P.box i cs l;have U:obk c i=some (c.blk i):=by unfold obk;rw[l]
  exact⟨a1,t1,(l8 i _ p U).trans q1,q2,λo x=>q3 o (noNew i _ o p U x),q4.mono ev⟩
 ·intro i t1 e1 v1 l;by_cases p:i=k
  ·subst p;have:=new.symm.trans l;injection this with this;injection this with x1 x2 x3;subst x1;subst x2;exact⟨n',xs',by simpa using hown,by simpa using hfree⟩
  ·have l:=(T i p).symm.trans l;obtain⟨n1,xs1,q1,q2⟩:=P.row i t1 e1 v1 l;have U:obk c i=(c.rv i).ownBlock:=by unfold obk;rw[l]
   simp only[B' p];refine⟨n1,xs1,⟨q1.1, ?_⟩,λb C o hle x=>q2 b C o hle (noNew i b o p (U.trans C) x)⟩;obtain x|⟨g,cap,cur,r1,r2,r3,r⟩:=q1.2
   ·exact .inl x
   ·exact .inr ⟨g,cap,cur,r1,r2,(l8 i g p (by rw[U,r1];rfl)).trans r3,r⟩
 ·intro i j b hij C hb';by_cases p:i=k
  ·subst p;rw[hobk]at C;rw[R j (λe=>hij e.symm)]at hb';exact hob b C (other j b (λe=>hij e.symm) hb')
  ·rw[R i p]at C;by_cases ej:j=k
   ·subst ej;rw[hobk]at hb';exact hob b hb' (other i b p C)
   ·rw[R j ej]at hb';exact P.sep i j b hij C hb'
 ·intro i t1 e1 v1 l1 l;have p:i≠k:=λe=>by subst e;have:=new.symm.trans l;injection this with this;cases this
  have l:=(T i p).symm.trans l;obtain⟨xs1,q1,qr,q2⟩:=P.mrow i t1 e1 v1 l1 l;have U:obk c i=(c.rv i).ownBlock:=by unfold obk;rw[l]
  simp[B' p];refine⟨xs1,⟨q1.1, ?_⟩,qr.mono ev.st ev.cell,λb C o x=>q2 b C o (noNew i b o p (U.trans C) x)⟩;obtain x|⟨g,cap,cur,r1,r2,r3,r⟩:=q1.2
  ·exact .inl x
  ·exact .inr ⟨g,cap,cur,r1,r2,(l8 i g p (by rw[U,r1];rfl)).trans r3,r⟩
 ·intro i b C f;by_cases p:i=k
  ·subst p;rw[hobk]at C;exact hob b C ⟨P.fl b f,λz=>P.fo i b (hok.trans z) f⟩
  ·rw[R i p]at C;exact P.fo i b C f
def Ve (hm:P.follows .mixedOrders=true){fi:FuncId→Option Fi}{hs:Hs}(hfi:∀f x,fi f=some x→FiOk P f x)(hhs:FM P hs){d:Nat}{f:FuncId}{x:Fi}(hx:FiOk P f x){R:List AV→Option (Bool×List τ.den)}
  (h:∀args l',R args=some (true,l')→∃ds,FN args ds∧∃fuel,Xy fi hs d x τ e fuel (ds.map λd=>.val d.1 d.2)=some (.val (.slice τ) l')):RZ P f ⟨τ,e,R⟩:=by
 obtain⟨⟨fn,f1,f2,f3,f4,f5⟩,tk,ts⟩:=hx;intro args l' he;obtain⟨ds,hds,fuel,U⟩:=h args l' he;refine⟨⟨fn,f1,by simp[f2],f5⟩,λB w0 J c hI k v hk vs hrest=>?_⟩;have hok:obk c k=(c.rv k).ownBlock:=by unfold obk;rw[hk]
 unfold Xy at U;split at U
 rotate_left 1
 ·cases U
 rename_i hnj;let S0:Sb:={ s:=c.St.s };have hIs:Inv ⟨B.b,λb=>b<c.w.heap.size⟩ c.w S0 (aZ c.w S0):=by
  refine⟨Below.refl _ _,hI.size,hI.bnd,Sb.le.refl _,λ_ _ x=>.inl x,λi cs hi=>?_,λi t e v hi=>?_,λi j b hij hb hb'=>?_,λi t e v l hi=>?_,Og.refl _,λi b hb f=>?_,λb f=>f,λ_ _ _ _ f=>f,λ_ _ _ _ x=>.inl x⟩
  ·simp[aZ]at hi
  ·simp[aZ]at hi
  ·simp[obk,aZ]at hb
  ·simp[aZ]at hi
  ·simp[obk,aZ]at hb
 have hrest':RAs (aZ c.w S0) (ds.map λd=>.val d.1 d.2) vs:=RAs.nj (c:=aZ c.w c.St) (c':=aZ c.w S0) rfl rfl rfl rfl rfl (λ_ _ x=>x) hnj (O7 (c:=aZ c.w c.St) (show RepVs c.w c.St ds vs from RAs.dat (c:=c) hds hrest));refine callsIn_wide.1 (callsIn_of_wp_marks (F:=RF none) (n:=0) f1 f2 trivial (wpIn_mono (gh hm tk ts (Em hm hfi hhs d) x.code none 0 [([.fix c.St.s c.w],[undef])] 0 ⟨B.b,λb=>b<c.w.heap.size⟩ c.w S0 _ (λ_ e=>by cases e) (λ_ h=>by cases h) (.inl rfl) _ _ _ c.w (c_ _) U ⟨aZ c.w S0,c.w,rfl,rfl,hIs, ?_,tR.none _ _,λfr hfr=>?_⟩) λen a w' hn=>?_))
 ·have:=iU hrest' (x.ntmps-(ds.map λd=>AV.val d.1 d.2).length);rw[f3];have hlen:=hrest'.length;simpa[hlen,G?]using this
 ·rw[E'.1 hfr];exact⟨⟨⟨rfl,λ_ _ x=>x,λ_ _ _ _ y=>y⟩,ans⟩,rfl⟩
 ·have fin:∀g,(match dv x.S.tab g x.results with
     |some [.own k v t l]=>(match (g.heap[k]? : Option HO)with
      |some (.row t' e' v')=>if t'=t then if e'=e then if v'=v then(match cast? (.slice t) (.slice τ) l with
        |some l=>some (AV.val (.slice τ) l)
        |none=>none)
       else none else none else none
      |_=>none)
     |_=>none)=some (.val (.slice τ) l')→Rel [([.fix c.St.s c.w],[undef])] 0 ⟨B.b,λb=>b<c.w.heap.size⟩ c.w S0 g a w'∧0≤g.heap.length →
    LeavesInM (RF none) 0 P fn a.tmps (λen w'=>∃r c',en = .returned r∧c'.heap=c.heap.set k (.row τ e (v+1))∧c'.w=w'∧Inv B w0 J c'∧Ev c c'∧RA c' (.own k (v+1) τ l') [r]) a.defers .returning w':=by
   rintro g C ⟨⟨c1,w1,rfl,hh1,hI1,hE1,⟨hb1,ho1,ms,hms,hnod,hmk⟩,hfs1⟩,hle⟩;rw[hms];refine de ms c1 w1 hI1 hnod (λD hD=>⟨(hmk D hD).1,hI1.drawn.keep D _ (hmk D hD).2.2.1 rfl⟩) (λc' w2 g1 hI2 hE2 g4 g5 g6=>?_);have hh':c'.heap=g.heap:=g1.trans hh1;have hE':=hE1.mono hE2;have ho':Og (λb=>b<c.w.heap.size) c.w c'.w:=⟨c_ _,λk o x y=>by
    rw[g6 k (λhm=>by have:=(hmk k hm).2.1;have:=(η.1 x).1;omega)];exact(ho1.trans hI1.drawn).keep k o x y,λk f=>by
    rw[g6 k (λhm=>(hmk k hm).2.2.2 f)];exact(ho1.trans hI1.drawn).kb k f⟩
   have p:Inv ⟨B.b,λb=>b<c.w.heap.size⟩ c.w S0 c':=hI2.base ((hb1.trans hI1.below).trans g4) ho';obtain⟨_,_,hfx2⟩:=((hfs1 _ (E'.2 rfl)).1.mono hE2).1;split at C
   ·rename_i k' v1 t1 l1 hl;split at C
    ·rename_i t2 e2 v2 hk';split at C
     ·rename_i q1;subst q1;split at C
      ·rename_i q2;subst q2;split at C
       ·rename_i q3;subst q3;split at C
        ·rename_i l2 hc;obtain⟨et,hl2⟩:=cast?_some hc;injection et with et;subst et;have hl2:l2=l1:=hl2;subst hl2;simp only[θ]at C;injection C with _ C;subst C;rw[←f4]at hl;obtain⟨r,vs',p1,p2,p3⟩:=dg tk p hh' hE' hl;match vs',p2,p3 with
         |[r0],⟨⟨s2,es2,hrep2,t3,e3,v3,T,hle3,hcur3⟩,_⟩,p3=>
         cases es2;have p3:r=r0:=p3;subst p3;rw[←hh']at hk';rw[hk']at T;injection T with T;injection T with z1 z2 z3;have hr0:r=c'.rv k':=hcur3 z3.symm;obtain⟨n',xs',hown',hsp'⟩:=p.row k' _ _ _ hk';have hok':obk c' k'=(c'.rv k').ownBlock:=by unfold obk;rw[hk']
         let S1:Sb:=⟨c'.St.s,λb e cap n=>c.St.j b e cap n∨c'.St.j b e cap n⟩;obtain⟨i1,i2⟩:=hI.turnedRow hk (w':=c'.w) (St':=S1) (s':=c'.rv k') (n':=n') (xs':=xs') p.below p.drawn.dr p.drawn.keep (λb hb _=>p.drawn.kb b hb) ⟨p.st0.s,λ_ _ _ _ x=>.inl x⟩ hfx2 p.bnd (λb o x=>(p.stN b o x).imp id λy=>⟨y.1,λz=>y.2 z.1⟩) hown' hsp' (λb hb z=>p.fo k' b (hok'.trans hb) z.1) (λb e cap n x=>(show c.St.j b e cap n∨c'.St.j b e cap n from x).imp id λx=>let q:=(p.junk b e cap n x).resolve_left λf=>f;⟨q.lo,λz=>q.nf z.1,⟨c_ _,q.le,q.cells,q.free⟩,λy=>q.own k' (hok'.trans y)⟩);refine⟨r,p1,r,{ c with w:=c'.w,heap:=c.heap.set k (.row t2 e2 (v+1)),rv:=λi=>if i=k then c'.rv k' else c.rv i,St:=S1 },rfl,rfl,rfl,i1,i2,r,rfl,RepV.mono (St:=c'.St) (St':=S1) ⟨λ_ _ x=>x,λ_ _ _ _ x=>Or.inr x⟩ (λ_ _ _ _ y=>y) hrep2,t2,e2,v+1, ?_,ζ _,λ_=>?_⟩
         ·show(c.heap.set k _)[k]? = _;rw[get_set,β rfl,β (ak hk)]
         ·simp;exact hr0
        ·cases C
       ·cases C
      ·cases C
     ·cases C
    ·cases C
   ·cases C
  cases en with
  |normal=>obtain⟨g,C,h2⟩:=hn;exact fin g C h2
  |ret=>obtain⟨g,C,h2⟩:=hn;exact fin g C h2
  |exit id=>obtain⟨g,C,_⟩:=hn;cases C
  |goto l=>exact hn.elim
  |panic ch=>exact hn.elim
  |outgrown=>exact hn.elim
end
section
variable {α U:Type}
def cl (m:Bool)(t:Ty)(e:Option t.den)(k:t.den→Option U):Option U:=match m with
 |true=>jO e.isSome (e.getD (zero t)) k
 |false=>wI e λr=>nf t r k
def ce (m:Bool)(t:Ty)(g:Bool)(v:t.den)(k:t.den→Option U):Option U:=match m with
 |true=>jO g v k
 |false=>jO g v λr=>nf t r k
def fz (m:Bool)(t:Ty)(x:t.den)(k:t.den→U):U:=match m with
 |true=>k x
 |false=>nf t x k
def fm (m:Bool)(x:Nat)(k:Nat→U):U:=match m with
 |true=>k x
 |false=>fN x k
def ck (b:Bool)(k:Option U):Option U:=cond b k none
abbrev ii (c:Bool):Bool:=be c c
def q1 (n:Nat)(c:Bool):Bool:=match n with
 |0=>ii c
 |1=>ii c&&true
 |2=>(ii c&&true)&&true
 |_=>(ii c&&(ii c&&true))&&true
def q2 (n:Nat)(c:Bool):Bool:=match n with
 |0=>ii c
 |1=>ii c&&true
 |2=>ii c&&(ii c&&true)
 |_=>ii c&&(ii c&&(ii c&&true))
def nqT (c:Bool)(k:Option U):List Nat→Option U
 |[]=>k
 |n::r=>ck (q1 n c) (nqT c k r)
def nq (m:Bool)(l:List Nat)(c:Bool)(k:Option U):Option U:=match m with
 |true=>nqT c k l
 |false=>k
def nm (m:Bool)(n:Nat)(c z:Bool)(k:Option U):Option U:=match m with
 |true=>ck (q2 n c&&be c z) k
 |false=>ck (be c z) k
def Yy (c:Bool)(k:Option U):∀l,nqT c k l=k
 |[]=>rfl
 |n::r=>by
  have:q1 n c=true:=by unfold q1;split <;> simp[aL]
  rw[nqT,this,Yy c k r];rfl
def D6 (m c:Bool)(k:Option U)(l:List Nat):nq m l c k=k:=by cases m;rfl;exact Yy c k l
def SN (m:Bool)(n:Nat)(c z:Bool)(k:Option U):nm m n c z k=ck (be c z) k:=by
 have:q2 n c=true:=by unfold q2;split <;> simp[aL]
 cases m
 ·rfl
 ·rw[nm,this,r?]
abbrev te (x:Tree):Tree:=Tree.mk x.kind x.text x.leads x.kids
abbrev bd (i:Int)(n:Nat):Bool:=0≤i&&i<(n:Int)
abbrev b1 (i:Int)(n:Nat):Bool:=0≤i&&i≤(n:Int)
abbrev b2 (i j:Int)(n:Nat):Bool:=0≤i&&i≤j&&j≤(n:Int)
abbrev il (l:List α):Int:=(l.length:Int)
abbrev lm (n:Nat):Bool:=decide (n≤LIM)
abbrev ni (n:Nat):Int:=(n:Int)
abbrev sl (l:List α)(i j:Int):List α:=(List.take (Int.toNat j) l).drop (Int.toNat i)
def s0 (m:Bool)(t:Ty)(e:Option t.den)(k:t.den→Option U):cl m t e k=wI e k:=by
 cases m
 ·simp[cl,HL]
 ·simp[cl,aam]
def s1 (m:Bool)(t:Ty)(g:Bool)(v:t.den)(k:t.den→Option U):ce m t g v k=jO g v k:=by cases m <;> simp[ce,HL]
def s2 (m:Bool)(t:Ty)(x:t.den)(k:t.den→U):fz m t x k=k x:=by cases m <;> simp[fz,HL]
def s3 (m:Bool)(x:Nat)(k:Nat→U):fm m x k=k x:=by cases m <;> simp[fm,Tq]
variable{γ A0 A1 A2 A3:Type}
def s4 (f:U→γ)(b:Bool)(k:Option U):Option.map f (ck b k)=ck b (Option.map f k):=by cases b <;> rfl
def s5 (f:U→γ)(c:Bool)(x y:Option U):Option.map f (cond c x y)=cond c (Option.map f x) (Option.map f y):=adC f c x y
def s6 (f:U→γ)(x:Option α)(k:α→Option U):Option.map f (wI x k)=wI x (λr=>Option.map f (k r)):=Yx f x k
def s7 (f:U→γ)(g:Bool)(v:α)(k:α→Option U):Option.map f (jO g v k)=jO g v (λr=>Option.map f (k r)):=Wm f g v k
def s8 (f:α→U)(x:α):Option.map f (some x)=some (f x):=rfl
def s9 (f:α→U):Option.map f none=none:=rfl
abbrev sm (o:α→U):α→Option U:=λr=>some (o r)
def lp {S:Type}(z:S)(f:S→S)(n:Nat):S:=Nat.rec z (λ_ s=>f s) n
def co {S g:Type}{x:Nat→S}{e:g→S}{z:g}{f:g→g}(l:x 0=e z)(j:∀n s,x n=e s→x (n+1)=e (f s)):∀n,x n=e (lp z f n)
 |0=>l
 |n+1=>j n _ (co l j n)
def kLp (f:Nat)(m:MS)(e:Sg→KT→Option AV)(k:KT)(n:Nat):KT:=S6 f m (aW f m e k n) k
def xc (ck:Callk)(S:Par)(g u:Nat)(c:Code):Sg→KT→Option AV:=λf k=>exec ck S g u c f k
abbrev mp0 (o:α→U)(f:Option α):Option U:=Option.map o (f)
abbrev mp1 (o:α→U)(f:A0→Option α):A0→Option U:=λg=>Option.map o (f g)
abbrev mp2 (o:α→U)(f:A0→A1→Option α):A0→A1→Option U:=λj g=>Option.map o (f j g)
abbrev mp3 (o:α→U)(f:A0→A1→A2→Option α):A0→A1→A2→Option U:=λl j g=>Option.map o (f l j g)
abbrev mp4 (o:α→U)(f:A0→A1→A2→A3→Option α):A0→A1→A2→A3→Option U:=λp l j g=>Option.map o (f p l j g)
abbrev mp5 {g:Type}(o:α→U)(f:A0→A1→A2→A3→g→Option α):A0→A1→A2→A3→g→Option U:=λC r p l j=>Option.map o (f C r p l j)
abbrev mp6 {j g:Type}(o:α→U)(f:A0→A1→A2→A3→j→g→Option α):A0→A1→A2→A3→j→g→Option U:=λP J C r p l=>Option.map o (f P J C r p l)
abbrev mp7 {l j g:Type}(o:α→U)(f:A0→A1→A2→A3→l→j→g→Option α):A0→A1→A2→A3→l→j→g→Option U:=λT R P J C r p=>Option.map o (f T R P J C r p)
abbrev afj {T R P J C r j g:Type}(o:α→U)(f:A0→A1→A2→A3→T→R→P→J→C→r→j→g→Option α):A0→A1→A2→A3→T→R→P→J→C→r→j→g→Option U:=λa0 a1 a2 a3 a4 a5 a6 a7 a8 a9 p l=>Option.map o (f a0 a1 a2 a3 a4 a5 a6 a7 a8 a9 p l)
end
def ss:(∀{U:Type} (m:Bool) (t:Ty) (e:Option t.den) (k:t.den→Option U),cl m t e k=wI e k)∧(∀{U:Type} (m:Bool) (t:Ty) (g:Bool) (v:t.den) (k:t.den→Option U),ce m t g v k=jO g v k)∧(∀{U:Type} (m:Bool) (t:Ty) (x:t.den) (k:t.den→U),fz m t x k=k x)∧(∀{U:Type} (m:Bool) (x:Nat) (k:Nat→U),fm m x k=k x)∧(∀{U R:Type} (f:U→R) (b:Bool) (k:Option U),Option.map f (ck b k)=ck b (Option.map f k))∧(∀{U R:Type} (f:U→R) (c:Bool) (x y:Option U),Option.map f (bif c then x else y)=bif c then Option.map f x else Option.map f y)∧(∀{j U R:Type} (f:U→R) (x:Option j) (k:j→Option U),Option.map f (wI x k)=wI x (λr=>Option.map f (k r)))∧(∀{j U R:Type} (f:U→R) (g:Bool) (v:j) (k:j→Option U),Option.map f (jO g v k)=jO g v (λr=>Option.map f (k r)))∧(∀{U:Type} (m c:Bool) (k:Option U) (l:List Nat),nq m l c k=k)∧(∀{U:Type} (m:Bool) (n:Nat) (c z:Bool) (k:Option U),nm m n c z k=ck (be c z) k)∧(∀{j U:Type} (f:j→U) (x:j),Option.map f (some x)=some (f x))∧(∀{j U:Type} (f:j→U),Option.map f none=none)∧(∀{j U:Type} (o:j→U) (r:j),sm o r=some (o r))∧(∀{j U:Type} (o:j→U) (f:Option j),mp0 o f=Option.map o (f))∧(∀{j U p:Type} (o:j→U) (f:p→Option j) a0,mp1 o f a0=Option.map o (f a0))∧(∀{j U p C:Type} (o:j→U) (f:p→C→Option j) a0 a1,mp2 o f a0 a1=Option.map o (f a0 a1))∧(∀{j U p C J:Type} (o:j→U) (f:p→C→J→Option j) a0 a1 a2,mp3 o f a0 a1 a2=Option.map o (f a0 a1 a2))∧(∀{j U p C J P:Type} (o:j→U) (f:p→C→J→P→Option j) a0 a1 a2 a3,mp4 o f a0 a1 a2 a3=Option.map o (f a0 a1 a2 a3))∧(∀{j U p C J P T:Type} (o:j→U) (f:p→C→J→P→T→Option j) a0 a1 a2 a3 a4,mp5 o f a0 a1 a2 a3 a4=Option.map o (f a0 a1 a2 a3 a4))∧(∀{j U p C J P T A5:Type} (o:j→U) (f:p→C→J→P→T→A5→Option j) a0 a1 a2 a3 a4 a5,mp6 o f a0 a1 a2 a3 a4 a5=Option.map o (f a0 a1 a2 a3 a4 a5))∧(∀{j U p C J P T A5 A6:Type} (o:j→U) (f:p→C→J→P→T→A5→A6→Option j) a0 a1 a2 a3 a4 a5 a6,mp7 o f a0 a1 a2 a3 a4 a5 a6=Option.map o (f a0 a1 a2 a3 a4 a5 a6))∧(∀{j U p C J P T A5 A6 A7 A8 A9 A10 A11:Type} (o:j→U) (f:p→C→J→P→T→A5→A6→A7→A8→A9→A10→A11→Option j) a0 a1 a2 a3 a4 a5 a6 a7 a8 a9 a10 a11,afj o f a0 a1 a2 a3 a4 a5 a6 a7 a8 a9 a10 a11=Option.map o (f a0 a1 a2 a3 a4 a5 a6 a7 a8 a9 a10 a11)) :=
 ⟨s0,s1,s2,s3,s4,s5,s6,s7,D6,SN,s8,s9,λ_ _=>rfl,λ_ _=>rfl,λ_ _ _=>rfl,λ_ _ _ _=>rfl,λ_ _ _ _ _=>rfl,λ_ _ _ _ _ _=>rfl,λ_ _ _ _ _ _ _=>rfl,λ_ _ _ _ _ _ _ _=>rfl,λ_ _ _ _ _ _ _ _ _=>rfl,λ_ _ _ _ _ _ _ _ _ _ _ _ _ _=>rfl⟩
def Wd:(t:Ty)→List AV→Option t.den
 |.unit,[]=>some ()
 |.cons a b,x::l=>match dat? a x,Wd b l with|some x,some y=>some (x,y)|_,_=>none
 |_,_=>none
def abn:(t:Ty)→t.den→List ((t:Ty)×t.den)
 |.cons a b,x=>⟨a,x.1⟩::abn b x.2
 |_,_=>[]
abbrev Uf (t:Ty)(x:t.den):List AV:=(abn t x).map λd=>.val d.1 d.2
def Fg:∀{t:Ty} {args:List AV} {x:t.den},Wd t args=some x→FN args (abn t x)
 |.unit,[],_,_=>trivial
 |.cons a b,u::l,x,h=>by
  simp[Wd]at h;split at h
  next y z g f=>cases h;exact⟨g,Fg f⟩
  ·cases h
 |.int _,_,_,h|.bool,_,_,h|.str,_,_,h|.slice _,_,_,h|.tree,_,_,h|.unit,_::_,_,h|.cons _ _,[],_,h=>by simp[Wd]at h
def gK (fn:Func)(S:Par):Fi:=⟨S,fn.ntmps,fn.results.toList,fn.body.getD .skip⟩
def ux (fn:Func):Bool:=fn.body.isSome && !(fn.name == "runtime.NumGoroutine")
def To {P:Program}{f:FuncId}{fn:Func}{S:Par}(h:P.funcs[f]? = some fn)(g:ux fn=true)(l:TabOk P S.tab)(p:SpecsOk P S.T):FiOk P f (gK fn S):=by
 simp only[ux,κ,aiq]at g;refine⟨⟨fn,h, ?_,rfl,rfl,g.2⟩,l,p⟩;cases j:fn.body with
 |none=>rw[j]at g;simp at g
 |some c=>simp[gK,j]
section
variable {P:Program}{f:FuncId}{R:Type}
def evE (a:Ty)(o:R→AV)(z:R)(g:a.den→Option R):Ent:=λargs=>match Wd a args with
 |some y=>some ((g y).isSome,o ((g y).getD z))
 |none=>none
variable{fi:FuncId→Option Fi}{hs:Hs}{d:Nat}{a:Ty}{tys:List Ty}{o:R→AV}{fn:Func}{S:Par}{e:TypeId}
def afK (C:P.follows .mixedOrders=true)(p:∀f x,fi f=some x→FiOk P f x)(l:FM P hs){x:Fi}(r:FiOk P f x){z:R}{g:a.den→Option R}
  (h:∀y,sf fi hs d x tys FU (Uf a y)=Option.map o (g y)):ai P f (evE a o z g):=λargs res j=>by
 unfold evE at j;split at j
 next y hy=>simp at j;obtain⟨J,rfl⟩:=j;exact pD (Fg hy) (bJ C p l r ((h y).trans (Oa J)))
 ·cases j
def ag9 (r:P.follows .mixedOrders=true)(p:∀f x,fi f=some x→FiOk P f x)(l:FM P hs)(h1:P.funcs[f]? = some fn)(h3:TabOk P S.tab)(U:SpecsOk P S.T){z:R}{g:a.den→Option R}
  (T:Nat→a.den→Option AV) (J:∀y,T FU y=Option.map o (g y)) (h2:ux fn=true:=by kernel_rfl) (C:∀j y,sf fi hs d (gK fn S) tys j (Uf a y)=T j y:=by intro _ _;kernel_rfl):ai P f (evE a o z g) :=
 afK r p l (To h1 h2 h3 U) λy=>(C FU y).trans (J y)
def nwE (f a:Ty)(e:TypeId)(g:a.den→Option (List f.den)):Nw:=⟨f,e,λargs=>match Wd a args with
 |some y=>some ((g y).isSome,(g y).getD [])
 |none=>none⟩
def afh (T:P.follows .mixedOrders=true)(C:∀f x,fi f=some x→FiOk P f x)(p:FM P hs){x:Fi}(R:FiOk P f x){j:Ty}{g:a.den→Option (List j.den)}
  (h:∀y,Xy fi hs d x j e FU (Uf a y)=Option.map (λr=>.val (.slice j) r) (g y)):RZ P f (nwE j a e g) :=
 Ve T C p R (d:=d) λargs l' l=>by
  split at l
  next y J=>simp at l;obtain⟨h1,U⟩:=l;exact⟨abn a y,Fg J,FU,by rw[←U];exact(h y).trans (Oa h1)⟩
  ·cases l
def ag2 (J:P.follows .mixedOrders=true)(C:∀f x,fi f=some x→FiOk P f x)(p:FM P hs)(h1:P.funcs[f]? = some fn)(h3:TabOk P S.tab)(h4:SpecsOk P S.T){l:Ty}{g:a.den→Option (List l.den)}
  (T:Nat→a.den→Option AV) (U:∀y,T FU y=Option.map (λr=>.val (.slice l) r) (g y)) (h2:ux fn=true:=by kernel_rfl) (R:∀j y,Xy fi hs d (gK fn S) l e j (Uf a y)=T j y:=by intro _ _;kernel_rfl):RZ P f (nwE l a e g) :=
 afh J C p (To h1 h2 h3 h4) λy=>(R FU y).trans (U y)
end
