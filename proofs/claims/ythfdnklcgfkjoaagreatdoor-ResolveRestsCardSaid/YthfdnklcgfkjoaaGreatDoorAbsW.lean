/- A function's run is sound. -/
import Derived.Test.YthfdnklcgfkjoaaGreatDoorAbsR
import Derived.LoopN
import Derived.RangeFuncIn
import Derived.RangeFuncRecord
set_option linter.all false
namespace Go.Proofs.YthfdnklcgfkjoaaGreatDoor.Abs
open Go Go.RowKit
section
variable {B:Bd}{w0:World}{J:Sb}{c:Gh}{h0:Nat}
def Dg (c:Gh)(H:List HO)(s:Value):Prop :=
 s.ownBlock=none∨∃k,c.rv k=s∧((∃t e f v,c.heap[k]? = some (.row t e f)∧H[k]? = some (.row t e v)∧f<v)∨(∃t e v l,c.heap[k]? = some (.mrow t e v l)∧H[k]? = some .dead))
def alb (B:Bd)(c:Gh)(t:Ty)(e:TypeId)(l:List t.den)(s:Value):Prop :=
 ∃xs,c.w.ownsRow B e t.size s l.length xs∧Rep c.w c.St (chain (toD t) l) xs∧∀b,s.ownBlock=some b→∀o,¬c.St b o
def L6 (B:Bd)(c:Gh)(H:List HO):LE→Value→Prop
 |.own t e,s=>(∃n g,c.w.ownsRow B e t.size s n g∧∀b,s.ownBlock=some b→∀o,n*t.size≤o→¬c.St b o)∧Dg c H s
 |.mut t e f l,s=>alb B c t e l s∧Dg c H s∧∀k v,f=some (k,v)→c.heap[k]? = some (.mrow t e v l)∧c.rv k=s
 |.frz t e f l,s=>alb B c t e l s∧Dg c H s∧∀k v,f=some (k,v)→c.heap[k]? = some (.mrow t e v l)∧c.rv k=s
structure CInv (B:Bd)(c:Gh)(H:List HO)(L:List LE)(V:List Value):Prop where
 len:H.length=c.heap.length
 lv:L.length=V.length
 box:∀(k:Nat) (cells:List AV),H[k]? = some (.box cells)↔c.heap[k]? = some (.box cells)
 row:∀(k:Nat) t e v,H[k]? = some (.row t e v)→∃v0,c.heap[k]? = some (.row t e v0)∧v0≤v
 back:∀(k:Nat) t e v0,c.heap[k]? = some (.row t e v0)→∃v,H[k]? = some (.row t e v)∧v0≤v
 claim:∀(i:Nat) le s,L[i]? = some le→V[i]? = some s→L6 B c H le s
 dist:∀(i j:Nat) s s' b,i≠j→V[i]? = some s→V[j]? = some s'→s.ownBlock=some b→s'.ownBlock≠some b
 mrow:∀(k:Nat) t e v l,H[k]? = some (.mrow t e v l)→c.heap[k]? = some (.mrow t e v l)
 mback:∀(k:Nat) t e v l,c.heap[k]? = some (.mrow t e v l)→H[k]? = some (.mrow t e v l)∨H[k]? = some HO.dead
 dead:∀(k:Nat),c.heap[k]? = some HO.dead→H[k]? = some HO.dead
structure Fin (c c':Gh)(h0:Nat)(L:List LE)(V:List Value):Prop where
 w:c'.w=c.w
 St:∀b o,c'.St b o↔(c.St b o∨∃(i:Nat) (t:Ty) (e:TypeId) (ko:Option (Nat×Nat)) (l:List t.den) (s:Value),L[i]? = some (.frz t e ko l)∧V[i]? = some s∧s.ownBlock=some b)
 blk:c'.blk=c.blk
 lp:c'.lp=c.lp
 box:∀(k:Nat) (cells:List AV),k<h0→c.heap[k]? = some (.box cells)→∃cells',c'.heap[k]? = some (.box cells')
 row:∀(k:Nat) t e v0,k<h0→c.heap[k]? = some (.row t e v0)→∃v,c'.heap[k]? = some (.row t e v)∧v0≤v∧(v=v0→c'.rv k=c.rv k)
 new:∀(i:Nat) le s,L[i]? = some le→V[i]? = some s→c'.heap[h0+i]? = some le.ho∧c'.rv (h0+i)=s
 mrow:∀(k:Nat) t e v l,k<h0→c.heap[k]? = some (.mrow t e v l)→(c'.heap[k]? = some (.mrow t e v l)∧c'.rv k=c.rv k)∨c'.heap[k]? = some HO.dead
 dead:∀(k:Nat),k<h0→c.heap[k]? = some HO.dead→c'.heap[k]? = some HO.dead
 j:c'.St.j=c.St.j
def arI (c:Gh)(h0:Nat)(L:List LE)(V:List Value)(a:AV)(v:Value):Prop :=
 ∀f j g,Fin c f h0 j g→L <+: j→V <+: g→RA f a [v]
def bS {f:Type}{l g:List f}(h:l <+: g){i:Nat}{x:f}(j:l[i]? = some x):g[i]? = some x:=by obtain⟨r,rfl⟩:=h;rw[ω (aq j)];exact j
variable{c' :Gh}{L:List LE}{V:List Value}{k:Nat}{H:List HO}
def Fin.st (h:Fin c c' h0 L V):c.St.le c'.St:=⟨λb o x=>(h.St b o).2 (.inl x),λb e cap n x=>by rw[h.j];exact x⟩
def Fin.cell (h:Fin c c' h0 L V):∀(a:Addr) v,c.St a.block a.off→a.spot=none→c.w.cell? a=some v→c'.w.cell? a=some v:=λa v _ _ x=>by rw[h.w];exact x
def Fin.mutAt (h:Fin c c' h0 L V){v:Nat}{Q:Value→Ty→Prop}(p:k<h0)(m:sX c k v (Q (c.rv k))):sX c' k v (Q (c'.rv k)):=by
 rcases m with⟨t,e,j,l,C,f,r⟩|hd
 ·rcases h.mrow k t e j l p C with⟨g,J⟩|g
  ·exact .inl ⟨t,e,j,l,g,f,λe=>by rw[J];exact r e⟩
  ·exact .inr g
 ·exact .inr (h.dead k p hd)
def Fin.keep {c':Gh}{L:List LE}{V:List Value}(h:Fin c c' h0 L V):∀{a:AV} {vs:List Value},a.under h0=true→RA c a vs→RA c' a vs
 |.unk,_,_,r=>r
 |.val t x,_,_,⟨v,e,r⟩=>⟨v,e,r.mono h.st h.cell⟩
 |.nil,_,_,r=>r
 |.own k v t l,_,J,⟨s,e,r,t',e',v',hr,hle,heq⟩=>by simp only[AV.under,Δ]at J;obtain⟨v2,R,l2,q2⟩:=h.row k t' e' v' J hr;exact⟨s,e,r.mono h.st h.cell,t',e',v2,R,υ hle l2,λx=>(heq Ω).trans (q2 Ω).symm⟩
 |.ref t x,_,_,⟨ad,ds,e,hs,hd,hc⟩=>⟨ad,ds,e,hs,hd.mono h.st h.cell,λj u J=>⟨by rw[h.w];exact(hc j u J).1,h.st.s _ _ (hc j u J).2⟩⟩
 |.box k P,_,J,⟨cells,hk,e⟩=>by simp only[AV.under,Δ]at J;obtain⟨c2,R⟩:=h.box k cells J hk;exact⟨c2,R,by rw[h.blk];exact e⟩
 |.fn f U,_,J,⟨T,e,r,o⟩=>⟨T,e,h.keep (a:=U) J r,o⟩
 |.agg p,_,J,⟨T,e,r,o⟩=>⟨T,e,h.keep (a:=p) J r,o⟩
 |.tup p,_,J,⟨T,e,r,o⟩=>⟨T,e,h.keep (a:=p) J r,o⟩
 |.pnil,_,_,r=>r
 |.pcons a b,_,J,⟨v,r,e,ha,hb⟩=>by simp only[AV.under,ι]at J;exact⟨v,r,e,h.keep J.1 ha,h.keep J.2 hb⟩
 |.cond g a,vs,J,r=>by
  simp[RA]at r⊢;split
  next hg=>simp[hg]at r;exact h.keep (a:=a) J r
  next hg=>simp[hg]at r;exact r
 |.msl k v lo hi,_,J,⟨s,e,o1,m⟩=>by simp only[AV.under,Δ]at J;exact⟨s,e,o1,h.mutAt (Q:=λr t=>sZ r t.size lo hi s) J m⟩
 |.yld j,_,J,⟨hd,e⟩=>by simp only[AV.under,Δ]at J;exact⟨h.dead j J hd,by rw[h.lp];exact e⟩
 |.fix C w,_,_,⟨e,h1,R⟩=>⟨e,λb o x=>h.st.s b o (h1 b o x),λa v x s y=>h.cell a v (h1 _ _ x) s (R a v x s y)⟩
 |.mpt k v i P,_,J,⟨s,e,o1,m⟩=>by simp only[AV.under,Δ]at J;exact⟨s,e,o1,h.mutAt (Q:=λr t=>ptS r t.size i P s) J m⟩
def Fin.keeps {c':Gh}{L:List LE}{V:List Value}(h:Fin c c' h0 L V):∀{l:List AV} {g:List Value},l.all (AV.under h0)=true→RAs c l g→RAs c' l g
 |[],[],_,_=>trivial
 |_::_,_::_,f,⟨a,b⟩=>by simp only[n?,ι]at f;exact⟨h.keep f.1 a,h.keeps f.2 b⟩
def CInv.push {p :List HO}(f:CInv B c H L V){le:LE}{s:Value}(hlen:p.length=H.length)(box:∀(k:Nat) (cells:List AV),p[k]? = some (.box cells)↔H[k]? = some (.box cells))
  (row:∀(k:Nat) t e v,p[k]? = some (.row t e v)→∃r,H[k]? = some (.row t e r)∧r≤v) (T:∀(k:Nat) t e v,H[k]? = some (.row t e v)→∃r,p[k]? = some (.row t e r)∧v≤r)
  (mrow:∀(k:Nat) t e v l,p[k]? = some (.mrow t e v l)→H[k]? = some (.mrow t e v l)) (U:∀(k:Nat) t e v l,H[k]? = some (.mrow t e v l)→p[k]? = some (.mrow t e v l)∨p[k]? = some HO.dead)
  (dead:∀(k:Nat),H[k]? = some HO.dead→p[k]? = some HO.dead) (hcl:L6 B c p le s) (hfr:∀b,s.ownBlock=some b→∀(j:Nat) s',V[j]? = some s'→s'.ownBlock≠some b):CInv B c p (L++[le]) (V++[s]):=by
 have ht:∀s,Dg c H s→Dg c p s:=by
  intro s h;obtain h|⟨k,J,g⟩:=h
  ·exact .inl h
  ·refine .inr ⟨k,J, ?_⟩;rcases g with⟨t,e,v0,v,g1,g2,g3⟩|⟨t,e,v,l,g1,g2⟩
   ·obtain⟨r,g4,g5⟩:=T k t e v g2;exact .inl ⟨t,e,v0,r,g1,g4,Ω⟩
   ·exact .inr ⟨t,e,v,l,g1,dead k g2⟩
 have hcl':∀le s,L6 B c H le s→L6 B c p le s:=by
  intro le s h;cases le with
  |own t e=>exact⟨h.1,ht s h.2⟩
  | «mut» t e ko l=>exact⟨h.1,ht s h.2.1,h.2.2⟩
  |frz t e ko l=>exact⟨h.1,ht s h.2.1,h.2.2⟩
 refine⟨hlen.trans f.len,by simp[f.lv],λk cells=>(box k cells).trans (f.box k cells),λk t e v P=>?_,λk t e v0 P=>?_,λi le' s' hl hs=>?_,λi j s1 s2 b hij J g b1 b2=>?_,λk t e v l P=>f.mrow k t e v l (mrow k t e v l P),λk t e v l P=>?_,λk P=>dead k (f.dead k P)⟩
 ·obtain⟨r,J,g⟩:=row k t e v P;obtain⟨v0,h3,h4⟩:=f.row k t e r J;exact⟨v0,h3,υ h4 g⟩
 ·obtain⟨r,J,g⟩:=f.back k t e v0 P;obtain⟨v2,h3,h4⟩:=T k t e r J;exact⟨v2,h3,υ g h4⟩
 ·obtain hlt|hge:=T' i L.length
  ·rw[ω hlt]at hl;rw[ω (by rw[←f.lv];exact hlt)]at hs;exact hcl' _ _ (f.claim i le' s' hl hs)
  ·rw[P' hge]at hl;rw[P' (by rw[←f.lv];exact hge)]at hs;have R:i-L.length=0:=by have:=aq hl;simp at this;omega
   rw[R]at hl;rw[←f.lv,R]at hs;simp at hl hs;subst hl;subst hs;exact hcl
 ·have C:∀(i:Nat) x,V.length≤i→(V++[s])[i]? = some x→x=s∧i=V.length:=λi x hi hx=>by
   rw[P' hi]at hx;have R:i-V.length=0:=by have:=aq hx;simp at this;omega
   rw[R]at hx;simp at hx;exact⟨hx.symm,Ω⟩
  obtain hi|hi:=T' i V.length
  ·rw[ω hi]at J;obtain hj|hj:=T' j V.length
   ·rw[ω hj]at g;exact f.dist i j s1 s2 b hij J g b1 b2
   ·obtain⟨rfl,_⟩:=C j s2 hj g;exact hfr b b2 i s1 J b1
  ·obtain⟨rfl,hi'⟩:=C i s1 hi J;obtain hj|hj:=T' j V.length
   ·rw[ω hj]at g;exact hfr b b1 j s2 g b2
   ·obtain⟨_,hj'⟩:=C j s2 hj g;omega
 ·obtain h|h:=f.mback k t e v l P
  ·exact U k t e v l h
  ·exact .inr (dead k h)
def CInv.fresh (hI:Inv B w0 J c)(hc:CInv B c H L V)(T:obk c k=(c.rv k).ownBlock)
  (hk:(∃t e v,c.heap[k]? = some (.row t e v)∧H[k]? = some (.row t e v))∨∃t e v l,H[k]? = some (.mrow t e v l)) :
  ∀b,(c.rv k).ownBlock=some b→∀(j:Nat) s',V[j]? = some s'→s'.ownBlock≠some b:=by
 intro b hb j s' hj g;have hjl:j<L.length:=by rw[hc.lv];exact aq hj
 have f:=hc.claim j L[j] s' (ζ hjl) hj;have R:Dg c H s':=by
  generalize L[j]=le at f;cases le with
  |own t e=>exact f.2
  | «mut» t e ko l=>exact f.2.1
  |frz t e ko l=>exact f.2.1
 obtain h|⟨C,h1,h2⟩:=R
 ·rw[h]at g;cases g
 ·have U:C≠k:=λe=>by
   subst e;rcases h2 with⟨t,e,v0,v,r,p,g3⟩|⟨t,e,v,l,r,p⟩
   ·rcases hk with⟨P,e',v',q1,q2⟩|⟨P,e',v',l',q2⟩
    ·rw[r]at q1;rw[p]at q2;injection q1 with q1;injection q2 with q2;injection q1 with _ _ q1;injection q2 with _ _ q2;omega
    ·rw[p]at q2;cases q2
   ·rcases hk with⟨P,e',v',q1,q2⟩|⟨P,e',v',l',q2⟩ <;> rw[p]at q2 <;> cases q2
  have:obk c C=(c.rv C).ownBlock:=by
   rcases h2 with⟨t,e,v0,v,r,p,g3⟩|⟨t,e,v,l,r,p⟩ <;> (unfold obk;rw[r])
  exact hI.sep C k b U (by rw[this,h1];exact g) (by rw[T];exact hb)
def XS {v:Nat}{f:Option (Nat×Nat)}(h:ajN k v f=true):f=some (k,v):=by
 cases f with
 |none=>cases h
 |some p =>obtain⟨j,g⟩:=p;simp only[ajN,ι]at h;rw[κ h.1,κ h.2]
def lA {t:Ty}{k v:Nat}:∀{L:List LE} {i j:Nat},Bi t k v i L=some j→∃n e l,j=i+n∧L[n]? = some (.mut t e (some (k,v)) l)
 |[],_,_,h=>by cases h
 |le::r,i,j,h=>by
  cases le with
  | «mut» J e P l=>
   simp only[Bi]at h;split at h
   next hc=>simp at hc;obtain⟨C,f⟩:=hc;subst f;injection h with h;exact⟨0,e,l,Ω,by rw[XS C];rfl⟩
   ·obtain⟨n,p,g,C,f⟩:=lA h;exact⟨n+1,p,g,Ω,by simpa using f⟩
  |own J e=>obtain⟨n,p,g,C,f⟩:=lA (L:=r) (i:=i+1) h;exact⟨n+1,p,g,Ω,by simpa using f⟩
  |frz J e P l=>obtain⟨n,p,g,C,f⟩:=lA (L:=r) (i:=i+1) h;exact⟨n+1,p,g,Ω,by simpa using f⟩
def lB {t:Ty}{k v:Nat}{l:List t.den}:∀{L:List LE},Bj t k v L=some l→∃(n:Nat) (e:TypeId),L[n]? = some (.frz t e (some (k,v)) l)
 |[],h=>by cases h
 |le::r,h=>by
  cases le with
  |frz p e J C=>
   simp[Bj]at h;split at h
   ·rename_i P;split at h
    next l2 hcast=>obtain⟨R,f⟩:=cast?_some hcast;cases R;have f:l2=C:=f;subst f;cases h;exact⟨0,e,by rw[XS P];rfl⟩
    ·cases h
   ·obtain⟨n,j,g⟩:=lB h;exact⟨n+1,j,by simpa using g⟩
  |own p e=>obtain⟨n,j,g⟩:=lB (L:=r) h;exact⟨n+1,j,by simpa using g⟩
  | «mut» p e J C=>obtain⟨n,j,g⟩:=lB (L:=r) h;exact⟨n+1,j,by simpa using g⟩
def N0 {w:World}{St:Sb}{p:Ty}{e:TypeId}{l:List p.den}{s v:Value}{f j:Nat}{xs:List Value}(J:w.ownsRow B e p.size s l.length xs)(T:Rep w St (chain (toD p) l) xs)(C:∀b o,s.ownBlock=some b→St b o)(h:sZ s p.size f j v) :
  Rep w St (toD (.slice p) ((l.take j).drop f)) [v]:=by
 have whole:=Ce J T rfl (λb o hb _=>C b o hb);rcases h with⟨rfl,rfl,rfl,rfl⟩|⟨g,n,cap,A,rfl,h2,h3,rfl,P⟩
 ·exact⟨none,0,0,rfl,by simp[len_chain],δ _,.inl rfl⟩
 ·have hn:n=l.length∧n≤cap:=by
   rcases J.2 with⟨q,_⟩|⟨g',R,cur,q,_,_,q4,_⟩
   ·cases q
   ·injection q with _ q1 q2;omega
  obtain⟨rfl,U⟩:=hn;have r:((l.take j).drop f).length=j-f:=by simp;omega
  by_cases h0:j-f=0
  ·exact⟨A,j-f,cap-f,rfl,by rw[len_chain,r],Ω,.inl h0⟩
  ·have:=W4 whole h2 h3;rw[ο Ω]at this;obtain rfl|P:=P
   ·simpa[cH]using this
   ·omega
def yO (hI:Inv B w0 J c){m:MK}{a a':AV}{v:Value}{H' :List HO}{L' :List LE}(U:CInv B c H L V)(h:u0 h0 m a H L=some (a',H',L'))(hr:RA c a [v]) :
  ∃V',CInv B c H' L' V'∧L <+: L'∧V <+: V'∧arI c h0 L' V' a' v:=by
 have f:∀{α:Type} (l:List α) (x:α),(l++[x])[l.length]? = some x:=λl x=>by simp
 have pushNil:∀le,L6 B c H le (.slice none 0 0)→CInv B c H (L++[le]) (V++[.slice none 0 0]):=λle hcl=>
  U.push rfl (λ_ _=>Iff.rfl) (λk t e v h=>⟨v,h,δ _⟩) (λk t e v h=>⟨v,h,δ _⟩) (λ_ _ _ _ _ h=>h) (λ_ _ _ _ _ h=>.inl h) (λ_ h=>h) hcl (λb hb=>by simp[Value.ownBlock]at hb)
 have pushM:∀(k ver:Nat) (t:Ty) (e:TypeId) (l:List t.den) (le:LE),H[k]? = some (.mrow t e ver l)→(∀H',Dg c H' (c.rv k)→L6 B c H' le (c.rv k))→CInv B c (H.set k .dead) (L++[le]) (V++[c.rv k]):=λk ver t e l le hH hcl=>by
  have hck:=U.mrow k t e ver l hH;have hklt:=aq hH;have C:∀j,j≠k→(H.set k HO.dead)[j]? = H[j]?:=λj p=>by rw[get_set,ο (λe=>p e.symm)]
  have new:(H.set k HO.dead)[k]? = some HO.dead:=by rw[get_set,β rfl,β hklt]
  have hob:obk c k=(c.rv k).ownBlock:=by unfold obk;rw[hck]
  refine U.push Ψ (λj cells=>?_) (λj t' e' v' p=>?_) (λj t' e' v' p=>?_) (λj t' e' v' l' p=>?_) (λj t' e' v' l' p=>?_) (λj p=>?_) (hcl _ (.inr ⟨k,rfl,.inr ⟨t,e,ver,l,hck,new⟩⟩)) (U.fresh hI hob (.inr ⟨t,e,ver,l,hH⟩))
  ·by_cases g:j=k
   ·subst g;rw[new,hH];simp
   ·rw[C j g]
  ·have g:j≠k:=λe=>by subst e;rw[new]at p;cases p
   rw[C j g]at p;exact⟨v',p,δ _⟩
  ·have g:j≠k:=λe=>by subst e;rw[hH]at p;cases p
   exact⟨v',(C j g).trans p,δ _⟩
  ·have g:j≠k:=λe=>by subst e;rw[new]at p;cases p
   rw[C j g]at p;exact p
  ·by_cases g:j=k
   ·subst g;exact .inr new
   ·exact .inl ((C j g).trans p)
  ·by_cases g:j=k
   ·subst g;exact new
   ·exact(C j g).trans p
 cases m with
 |dat t=>
  cases a with
  |msl k ver lo hi=>
   simp[u0]at h;split at h
   ·rename_i τ;split at h
    ·rename_i l hfz;cases h;obtain⟨n,e,hn⟩:=lB hfz;have hnl:=aq hn;have hnl2:n<V.length:=by rw[←U.lv];exact hnl
     have hnv:V[n]? = some V[n]:=ζ hnl2;obtain⟨⟨xs,m1,m2,m3⟩,_,c2⟩:=U.claim n _ _ hn hnv;obtain⟨c3,c4⟩:=c2 k ver rfl;have r:=dK hr c3;refine⟨V,U,p_ _,p_ _,λc' Lf Vf P hL hV=>⟨v,rfl,(repv_cell rfl).2 ?_⟩⟩;refine N0 (B:=B) (e:=e) (xs:=xs) (s:=V[n]) (by rw[P.w];exact m1) (m2.mono P.st P.cell) (λb o hb=>(P.St b o).2 (.inr ⟨n,τ,e,_,l,V[n],bS hL hn,bS hV hnv,hb⟩)) (by rw[←c4];exact r)
    ·split at h
     ·rename_i τ' e v' l hH;split at h
      ·rename_i q1;subst q1;split at h
       next l2 T=>obtain⟨et,R⟩:=cast?_some T;injection et with et;subst et;have R:l2=l:=R;subst R;cases h;have hck:=U.mrow k _ _ _ _ hH;have r:=dK hr hck;obtain⟨xs,m1,m2,m3⟩:=hI.mrow k _ _ _ _ hck;have mr:alb B c τ' e l2 (c.rv k):=⟨xs,m1,m2,m3⟩;refine⟨V++[c.rv k],pushM k v' τ' e l2 _ hH (λH' ht=>⟨mr,ht,λk' v'' he=>by injection he with he;injection he with he1 he2;subst he1;subst he2;exact⟨hck,rfl⟩⟩),R_ _ _,R_ _ _,λc' Lf Vf P hL hV=>⟨v,rfl,(repv_cell rfl).2 ?_⟩⟩;have hl:=bS hL (f L _);have hv:=bS hV (f V _);rw[←U.lv]at hv;exact N0 (B:=B) (e:=e) (xs:=xs) (s:=c.rv k) (by rw[P.w];exact m1) (m2.mono P.st P.cell) (λb o hb=>(P.St b o).2 (.inr ⟨L.length,τ',e,_,l2,c.rv k,hl,hv,hb⟩)) r
       ·cases h
      ·cases h
     ·cases h
   ·cases h
  |_=>
   simp[u0]at h;split at h
   next x hx=>cases h;exact⟨V,U,p_ _,p_ _,λc' Lf Vf P _ _=>⟨v,rfl,(dat?_sound hx hr).mono P.st P.cell⟩⟩
   ·cases h
 |keep=>
  simp only[u0]at h;split at h
  next hu=>cases h;exact⟨V,U,p_ _,p_ _,λc' Lf Vf P _ _=>P.keep hu hr⟩
  ·cases h
 |drop =>cases h;exact⟨V,U,p_ _,p_ _,λc' Lf Vf P _ _=>⟨v,rfl⟩⟩
 | «mut» t e=>
  cases a with
  |nil =>cases h;have hv:[v]=[.slice none 0 0]:=hr;simp only[G',A_]at hv;subst hv;refine⟨V++[.slice none 0 0],pushNil (LE.mut t e none []) ⟨⟨[],D_ _ _ _ _,rfl,λb hb=>by simp[Value.ownBlock]at hb⟩,.inl rfl,λk v he=>by cases he⟩,R_ _ _,R_ _ _,λc' Lf Vf P hL hV=>?_⟩;have hl:=bS hL (f L _);have hv:=bS hV (f V _);rw[←U.lv]at hv;obtain⟨n1,n2⟩:=P.new _ _ _ hl hv;exact uc (τ:=t) (e:=e) (l:=[]) n1 (by rw[n2];exact .inl ⟨rfl,rfl,rfl,rfl⟩)
  |msl k ver lo hi=>
   simp only[u0]at h;split at h
   ·rename_i i hfm;simp only[η,π]at h;obtain⟨rfl,rfl,rfl⟩:=h;obtain⟨n,e',l,hin,hn⟩:=lA hfm;have hin:i=n:=Ω
    subst hin;have hnl:=aq hn;have hnl2:i<V.length:=by rw[←U.lv];exact hnl
    have hnv:V[i]? = some V[i]:=ζ hnl2;obtain⟨_,_,c2⟩:=U.claim i _ _ hn hnv;obtain⟨c3,c4⟩:=c2 k ver rfl;have r:=dK hr c3;refine⟨V,U,p_ _,p_ _,λc' Lf Vf P hL hV=>?_⟩;obtain⟨n1,n2⟩:=P.new _ _ _ (bS hL hn) (bS hV hnv);exact uc (τ:=t) (e:=e') (l:=l) n1 (by rw[n2,←c4];exact r)
   ·split at h
    ·rename_i t2 e2 v2 l hH;split at h
     ·rename_i q1;split at h
      ·rename_i q2;split at h
       next l2 T=>obtain⟨et,R⟩:=cast?_some T;injection et with et;subst et;have R:l2=l:=R;subst R;subst q1;subst q2;simp only[η,π]at h;obtain⟨rfl,rfl,rfl⟩:=h;have hck:=U.mrow k _ _ _ _ hH;have r:=dK hr hck;obtain⟨xs,m1,m2,m3⟩:=hI.mrow k _ _ _ _ hck;have mr:alb B c t2 e2 l2 (c.rv k):=⟨xs,m1,m2,m3⟩;refine⟨V++[c.rv k],pushM k v2 t2 e2 l2 _ hH (λH' ht=>⟨mr,ht,λk' v'' he=>by injection he with he;injection he with he1 he2;subst he1;subst he2;exact⟨hck,rfl⟩⟩),R_ _ _,R_ _ _,λc' Lf Vf P hL hV=>?_⟩;have hl:=bS hL (f L _);have hv:=bS hV (f V _);rw[←U.lv]at hv;obtain⟨n1,n2⟩:=P.new _ _ _ hl hv;exact uc (τ:=t2) (e:=e2) (l:=l2) n1 (by rw[n2];exact r)
       ·cases h
      ·cases h
     ·cases h
    ·cases h
  |_=>simp[u0]at h
 |own t e=>
  cases a with
  |nil =>simp only[u0,η,π]at h;obtain⟨rfl,rfl,rfl⟩:=h;have hv:[v]=[.slice none 0 0]:=hr;simp only[G',A_]at hv;subst hv;refine⟨V++[.slice none 0 0],pushNil (LE.own t e) ⟨⟨0,[],D_ _ _ _ _,λb hb=>by simp[Value.ownBlock]at hb⟩,.inl rfl⟩,R_ _ _,R_ _ _,λc' Lf Vf P hL hV=>?_⟩;have hl:=bS hL (f L _);have hv:=bS hV (f V _);rw[←U.lv]at hv;obtain⟨n1,n2⟩:=P.new _ _ _ hl hv;exact⟨_,rfl,(repv_cell rfl).2 ⟨none,0,0,rfl,rfl,δ _,.inl rfl⟩,t,e,0,n1,δ _,λ_=>n2.symm⟩
  |own k ver t1 l=>
   simp only[u0]at h;split at h
   ·rename_i t2 e2 v2 hH;split at h
    ·rename_i q1;split at h
     ·rename_i q2;split at h
      ·rename_i q3;split at h
       ·rename_i l2 T;obtain⟨et,R⟩:=cast?_some T;injection et with et;subst et;have R:l2=l:=R;subst R;subst q1;subst q2;subst q3;simp only[η,π]at h;obtain⟨rfl,rfl,rfl⟩:=h;obtain⟨s,es,hrep,t',e',v',hrow,hle,hcur⟩:=hr;simp only[G',A_]at es;subst es;obtain⟨v0,hc0,hv0⟩:=U.row k _ _ _ hH;rw[hc0]at hrow;injection hrow with hrow;injection hrow with r1 r2 r3;subst r1;subst r2;subst r3;have hve:v0=v2:=Ω
        subst hve;have hs:v=c.rv k:=hcur rfl;obtain⟨n,xs,hown,hsp⟩:=hI.row k _ _ _ hc0;have hklt:=aq hH;have hob:obk c k=(c.rv k).ownBlock:=by unfold obk;rw[hc0]
        have C:∀j,j≠k→(H.set k (.row t2 e2 (v0+1)))[j]? = H[j]?:=λj p=>by rw[get_set,ο (λe=>p e.symm)]
        have new:(H.set k (.row t2 e2 (v0+1)))[k]? = some (.row t2 e2 (v0+1)):=by rw[get_set,β rfl,β hklt]
        refine⟨V++[v], ?_,R_ _ _,R_ _ _,λc' Lf Vf P hL hV=>?_⟩
        ·rw[hs];refine U.push Ψ (λj cells=>?_) (λj t' e' v' p=>?_) (λj t' e' v' p=>?_) (λj t' e' v' l' p=>?_) (λj t' e' v' l' p=>?_) (λj p=>?_)
          ⟨⟨n,xs,hown,hsp⟩,.inr ⟨k,rfl,.inl ⟨t2,e2,v0,v0+1,hc0,new,Ω⟩⟩⟩ (U.fresh hI hob (.inl ⟨t2,e2,v0,hc0,hH⟩))
         ·by_cases g:j=k
          ·subst g;rw[new,hH];simp
          ·rw[C j g]
         ·by_cases g:j=k
          ·subst g;rw[new]at p;injection p with p;injection p with j1 j2 j3;subst j1;subst j2;subst j3;exact⟨v0,hH,Ω⟩
          ·rw[C j g]at p;exact⟨v',p,δ _⟩
         ·by_cases g:j=k
          ·subst g;rw[hH]at p;injection p with p;injection p with j1 j2 j3;subst j1;subst j2;subst j3;exact⟨v0+1,new,Ω⟩
          ·exact⟨v',(C j g).trans p,δ _⟩
         ·have g:j≠k:=λe=>by subst e;rw[new]at p;cases p
          rw[C j g]at p;exact p
         ·have g:j≠k:=λe=>by subst e;rw[hH]at p;cases p
          exact .inl ((C j g).trans p)
         ·have g:j≠k:=λe=>by subst e;rw[hH]at p;cases p
          exact(C j g).trans p
        ·have hl:=bS hL (f L _);have hv:=bS hV (f V _);rw[←U.lv]at hv;obtain⟨n1,n2⟩:=P.new _ _ _ hl hv;exact⟨v,rfl,hrep.mono P.st P.cell,t2,e2,0,n1,δ _,λ_=>n2.symm⟩
       ·cases h
      ·cases h
     ·cases h
    ·cases h
   ·cases h
  |_=>simp[u0]at h
def YC (c:Gh)(h0:Nat)(L:List LE)(V:List Value)(l:List AV)(j:List Value):Prop :=
 ∀c' g f,Fin c c' h0 g f→L <+: g→V <+: f→RAs c' l j
def D3 (hI:Inv B w0 J c):∀{T:List MK} {C f:List AV} {l:List Value} {H j:List HO} {L g:List LE} {V:List Value},CInv B c H L V→Yg h0 T C H L=some (f,j,g)→RAs c C l →
  ∃P,CInv B c j g P∧L <+: g∧V <+: P∧YC c h0 g P f l
 |[],[],f,[],H,j,L,g,V,r,h,_=>by cases h;exact⟨V,r,p_ _,p_ _,λ_ _ _ _ _ _=>trivial⟩
 |m::T,a::C,f,v::l,H,j,L,g,V,r,h,⟨hr,p⟩=>by
  simp[Yg]at h;split at h
  next a1 H1 L1 h1=>
   split at h
   next as1 H2 L2 h2=>cases h;obtain⟨V1,c1,p1,q1,r1⟩:=yO hI r h1 hr;obtain⟨V2,c2,R,q2,r2⟩:=D3 hI c1 h2 p;exact⟨V2,c2,p1.trans R,q1.trans q2,λc' Lf Vf U hL hV=>⟨r1 c' Lf Vf U (R.trans hL) (q2.trans hV),r2 c' Lf Vf U hL hV⟩⟩
   ·cases h
  ·cases h
def pM (hI:Inv B w0 J c){env:List AV}{p:List Value}(hE:RAs c env p):∀{l:List (Nat×MK)} {j g:List AV} {H H':List HO} {L r:List LE} {V:List Value},CInv B c H L V→EQ h0 env l j H L=some (g,H',r)→YC c h0 L V j p →
  ∃V',CInv B c H' r V'∧L <+: r∧V <+: V'∧YC c h0 r V' g p
 |[],j,g,H,H',L,r,V,hc,h,hp=>by cases h;exact⟨V,hc,p_ _,p_ _,hp⟩
 |(s,m)::l,j,g,H,H',L,r,V,hc,h,hp=>by
  simp only[EQ]at h;split at h
  next a1 H1 L1 h1=>
   obtain hlt|hge:=T' s env.length
   ·obtain⟨v,hv,hr⟩:=hE.get s env[s] (ζ hlt);have e1:env.getD s .unk=env[s]:=by simp[List.getD,ζ hlt]
    rw[e1]at h1;obtain⟨V1,c1,C,q1,r1⟩:=yO hI hc h1 hr;refine(pM hI hE c1 h ?_).imp λV2 ⟨c2,p2,q2,r2⟩=>⟨c2,C.trans p2,q1.trans q2,r2⟩;intro c' Lf U P T R;have f:=(hp c' Lf U P (C.trans T) (q1.trans R)).set s (r1 c' Lf U P T R);have:p.set s v=p:=fq hv;rw[this]at f;exact f
   ·have e1:env.getD s .unk = .unk:=by simp[List.getD,z_ hge]
    rw[e1]at h1;obtain⟨V1,c1,C,q1,r1⟩:=yO hI (v:=undef) hc h1 ⟨_,rfl⟩;refine(pM hI hE c1 h ?_).imp λV2 ⟨c2,p2,q2,r2⟩=>⟨c2,C.trans p2,q1.trans q2,r2⟩;intro c' Lf U P T R;have f:=(hp c' Lf U P (C.trans T) (q1.trans R)).set s (r1 c' Lf U P T R);have hvl:=hE.length;have:p.set s undef=p:=List.set_eq_of_length_le Ω;rw[this]at f;exact f
  ·cases h
def xU (U:Inv B w0 J c):∀{l:List (Nat×List MK)} {C:List (Nat×List AV)} {H T:List HO} {L g:List LE} {V:List Value},CInv B c H L V→EP h0 l H L=some (C,T,g) →
  ∃V',CInv B c T g V'∧L <+: g∧V <+: V'∧C.map (·.1)=l.map (·.1)∧∀p∈C,∃cells f t,c.heap[p.1]? = some (.box cells)∧c.w.heap[c.blk p.1]? = some (.cells f t (0,0))∧YC c h0 g V' p.2 f.toList
 |[],C,H,T,L,g,V,P,h=>by cases h;exact⟨V,P,p_ _,p_ _,rfl,λp j=>by cases j⟩
 |(k,ms)::l,C,H,T,L,g,V,P,h=>by
  simp[EP]at h;split at h
  next cells hk=>
   split at h
   ·rename_i R H1 L1 h1;split at h
    ·rename_i bs' H2 L2 h2;cases h;have r:=(P.box k cells).1 hk;obtain⟨f,t,g1,_,_,g4⟩:=U.box k cells r;obtain⟨V1,c1,p1,q1,r1⟩:=D3 U P h1 g4;obtain⟨V2,c2,p2,q2,e2,r2⟩:=xU U c1 h2;refine⟨V2,c2,p1.trans p2,q1.trans q2,by simp[e2],λp j=>?_⟩;obtain rfl|j:=N'.1 j
     ·exact⟨cells,f,t,r,g1,λc' Lf Vf hf hL hV=>r1 c' Lf Vf hf (p2.trans hL) (q2.trans hV)⟩
     ·exact r2 p j
    ·cases h
   ·cases h
  ·cases h
end
open Go Go.RowKit
def zH:∀(f:List (Nat×List AV)) (H:List HO),(ft f H).length=H.length
 |[],_=>rfl
 |(k,cells)::r,H=>by rw[ft,zH r];simp
def mA:∀(f:List (Nat×List AV)) (H:List HO) (k:Nat),k ∉ f.map (·.1)→(ft f H)[k]? = H[k]?
 |[],_,_,_=>rfl
 |(k',cells)::r,H,k,h=>by simp only[i?,N',not_or]at h;rw[ft,mA r _ k h.2,get_set,ο (λe=>h.1 e.symm)]
def U5 {a:Nat}{l:List Nat}(h:Ha (a::l)=true):a ∉ l∧Ha l=true:=by simpa[Ha]using h
def zG:∀(f:List (Nat×List AV)) (H:List HO),Ha (f.map (·.1))=true→∀p∈f,p.1<H.length→(ft f H)[p.1]? = some (.box p.2)
 |[],_,_,_,h,_=>by cases h
 |(k,cells)::r,H,hd,p,hp,hlt=>by
  obtain⟨j,g⟩:=U5 hd;rw[ft];obtain rfl|hp:=N'.1 hp
  ·rw[mA r _ _ j,get_set,β rfl,β hlt]
  ·exact zG r _ g p hp (by simpa using hlt)
def xJ {f:Nat}{pre:List Nat}:∀(l:List HO) (i:Nat),Ai f pre i l=true→∀(j:Nat) ho,l[j]? = some ho→(i+j) ∉ pre→ho.under f=true
 |[],_,_,j,ho,h,_=>by simp at h
 |x::l,i,h,j,ho,hj,hn=>by
  simp[Ai]at h;cases j with
  |zero=>
   simp at hj;subst hj;obtain h|h:=h.1
   ·exact absurd (by simpa using h) hn
   ·exact h
  |succ j =>simp at hj;exact xJ l (i+1) h.2 j ho hj (by rw[show i+1+j=i+(j+1)by omega];exact hn)
section
variable {P:Program}{B:Bd}{lo:Nat}{w0:World}{J:Sb}{fs:List (List AV×List Value)}{σ U:Sg}{a:Act}{w:World}
def Vd {m:MS}(h:ajx lo m σ=some U)(hr:Rel fs lo B w0 J σ a w):Rel fs lo B w0 J U a w∧lo≤U.heap.length:=by
 obtain⟨c,w1,hw,hh,hI,hE,hdf,hfs⟩:=hr;unfold ajx at h;split at h
 next hchk=>
  simp only[ι,Δ,d_]at hchk;obtain⟨⟨⟨⟨k1,k2⟩,k3⟩,k4⟩,k5⟩:=hchk;split at h
  next bs H1 L1 hpre=>
   split at h
   ·rename_i env' H2 L2 henv;cases h;have c0:CInv B c σ.heap [] []:=⟨by rw[hh],rfl,λk cells=>by rw[hh],λk t e v r=>⟨v,by rw[hh];exact r,δ _⟩,λk t e v r=>⟨v,by rw[←hh];exact r,δ _⟩,λi le s hl=>by simp at hl,λi j s s' b _ hs=>by simp at hs,λk t e v l r=>by rw[hh];exact r,λk t e v l r=>.inl (by rw[←hh];exact r),λk r=>by rw[←hh];exact r⟩;obtain⟨V1,c1,_,_,hnames,hbs⟩:=xU hI c0 hpre;obtain⟨V2,c2,pL,pV,hpend⟩:=pM hI hE c1 henv (λc' _ _ _ _ _=>EZ (c:=c') hE.length.symm);let rv':Nat→Value:=λi=>if i<m.h0 then(match c.heap[i]?,H2[i]? with|some (.row _ _ v0),some (.row _ _ v)=>if v=v0 then c.rv i else .slice none 0 0|_,_=>c.rv i)else V2.getD (i-m.h0) (.slice none 0 0)
    let heap':List HO:=ft bs (H2.take m.h0)++L2.map LE.ho;let St':Sb:=⟨λb o=>c.St b o∨∃(i:Nat) (t:Ty) (e:TypeId) (ko:Option (Nat×Nat)) (l:List t.den) (s:Value),L2[i]? = some (.frz t e ko l)∧V2[i]? = some s∧s.ownBlock=some b,c.St.j⟩;let c':Gh:={ heap:=heap',St:=St',blk:=c.blk,rv:=rv',w:=c.w,lp:=c.lp };have hlen0:(ft bs (H2.take m.h0)).length=m.h0:=by rw[zH,h_,c2.len,hh];omega
    have gold:∀k,k<m.h0→heap'[k]? = (ft bs (H2.take m.h0))[k]?:=λk r=>by show(_++_)[k]? = _;rw[ω Ω]
    have gnew:∀i,heap'[m.h0+i]? = (L2.map LE.ho)[i]?:=λi=>by show(_++_)[m.h0+i]? = _;rw[P' Ω,hlen0];congr 1;omega
    have R:∀k,k<m.h0→k ∉ bs.map (·.1)→heap'[k]? = H2[k]?:=λk r hn=>by rw[gold k r,mA _ _ _ hn,E',β r]
    have hnd:Ha (bs.map (·.1))=true:=by rw[hnames];exact k3
    have hbnd:∀p∈bs,p.1<m.h0:=λp hp=>by have:p.1∈bs.map (·.1):=y_.2 ⟨p,hp,rfl⟩;rw[hnames]at this;obtain⟨q,hq,e⟩:=y_.1 this;have:=k4 q hq;omega
    have gbox:∀p∈bs,heap'[p.1]? = some (.box p.2):=λp hp=>by rw[gold _ (hbnd p hp)];exact zG bs _ hnd p hp (by rw[h_,c2.len,hh];have:=hbnd p hp;omega)
    have notbox:∀(k:Nat) t e v0,c.heap[k]? = some (.row t e v0)→k ∉ bs.map (·.1):=λk t e v0 r hm=>by obtain⟨p,hp,e⟩:=y_.1 hm;obtain⟨cells,_,_,g1,_⟩:=hbs p hp;have e:p.1=k:=e;rw[e,r]at g1;cases g1
    have hrv:∀(k:Nat) t e v0 v,k<m.h0→c.heap[k]? = some (.row t e v0)→H2[k]? = some (.row t e v)→rv' k=if v=v0 then c.rv k else .slice none 0 0:=λk t e v0 v r h1 h2=>by simp[rv',β r,h1,h2]
    have notboxM:∀(k:Nat) ho,c.heap[k]? = some ho→(∀cells,ho ≠ .box cells)→k ∉ bs.map (·.1):=λk ho r hnb hm=>by obtain⟨p,hp,e⟩:=y_.1 hm;obtain⟨cells,_,_,g1,_⟩:=hbs p hp;have e:p.1=k:=e;rw[e,r]at g1;injection g1 with g1;exact hnb cells g1
    have fin:Fin c c' m.h0 L2 V2:=by
     refine⟨rfl,λ_ _=>Iff.rfl,rfl,rfl,λk cells r hc=>?_,λk t e v0 r hc=>?_,λi le s hl hs=>?_,λk t e v l r hc=>?_,λk r hc=>?_,rfl⟩
     ·by_cases hm:k∈bs.map (·.1)
      ·obtain⟨p,hp,e⟩:=y_.1 hm;have e:p.1=k:=e;exact⟨p.2,e ▸ gbox p hp⟩
      ·exact⟨cells,(R k r hm).trans ((c2.box k cells).2 hc)⟩
     ·obtain⟨v,h1,h2⟩:=c2.back k t e v0 hc;exact⟨v,(R k r (notbox k t e v0 hc)).trans h1,h2,λe'=>by show rv' k=_;rw[hrv k t e v0 v r hc h1,β e']⟩
     ·refine⟨by rw[gnew];simp[hl], ?_⟩;show rv' (m.h0+i)=s;simp only[rv'];rw[ο Ω,show m.h0+i-m.h0=i by omega];simp[List.getD,hs]
     ·have hnb:=notboxM k _ hc (λcells e=>by cases e);obtain h1|h1:=c2.mback k t e v l hc
      ·refine .inl ⟨(R k r hnb).trans h1, ?_⟩;show rv' k=_;simp[rv',β r,hc]
      ·exact .inr ((R k r hnb).trans h1)
     ·exact(R k r (notboxM k _ hc (λcells e=>by cases e))).trans (c2.dead k hc)
    have takenOf:∀(i:Nat) s,V2[i]? = some s→Dg c H2 s:=λi s hs=>by
     have hil:i<L2.length:=by rw[c2.lv];exact aq hs
     have hcl:=c2.claim i L2[i] s (ζ hil) hs;generalize L2[i]=le at hcl;cases le with
     |own t e=>exact hcl.2
     | «mut» t e ko l=>exact hcl.2.1
     |frz t e ko l=>exact hcl.2.1
    have hobk:∀k b,k<m.h0→obk c' k=some b→obk c k=some b∧(∀t e v0 v,c.heap[k]? = some (.row t e v0)→H2[k]? = some (.row t e v)→v=v0)∧H2[k]? ≠ some HO.dead:=by
     intro k b r f;cases C:c.heap[k]? with
     |none=>
      exfalso;have hkl:k<c.heap.length:=by rw[hh];omega
      rw[ζ hkl]at C;cases C
     |some x=>
      cases x with
      |none=>
       exfalso;have hn:=notboxM k _ C (λcells e=>by cases e);have h2:=R k r hn;unfold obk at f;rw[show c'.heap[k]? = H2[k]? from h2]at f;cases hH:H2[k]? with
       |none=>rw[hH]at f;cases f
       |some y=>
        rw[hH]at f;cases y with
        |none=>cases f
        |box cells=>have:=(c2.box k cells).1 hH;rw[C]at this;cases this
        |row t e v=>obtain⟨v0,g,_⟩:=c2.row k t e v hH;rw[C]at g;cases g
        |mrow t e v l=>have:=c2.mrow k t e v l hH;rw[C]at this;cases this
        |dead=>cases f
      |box cells =>obtain⟨cells',h2⟩:=fin.box k cells r C;unfold obk at f⊢;rw[h2]at f;rw[C];exact⟨f,(λt e v0 v h=>by cases h),by rw[(c2.box k cells).2 C];intro e;cases e⟩
      |row t e v0=>
       obtain⟨v,h1,h2⟩:=c2.back k t e v0 C;have h3:c'.heap[k]? = some (.row t e v):=(R k r (notbox k t e v0 C)).trans h1;have h4:=hrv k t e v0 v r C h1;unfold obk at f⊢;rw[h3]at f;rw[C];have f:(rv' k).ownBlock=some b:=f;rw[h4]at f;by_cases hv:v=v0
       ·rw[β hv]at f;refine⟨f,λt' e' v0' v' g1 g2=>?_,by rw[h1];intro e;cases e⟩;rw[h1]at g2;injection g1 with g1;injection g2 with g2;injection g1 with _ _ g1;injection g2 with _ _ g2;omega
       ·rw[ο hv]at f;simp[Value.ownBlock]at f
      |mrow t e v l=>
       rcases fin.mrow k t e v l r C with⟨h1,h2⟩|h1
       ·unfold obk at f⊢;rw[h1]at f;rw[C];have f:(c'.rv k).ownBlock=some b:=f;rw[h2]at f;refine⟨f,(λt e v0 v h=>by cases h), ?_⟩;intro hd;have:=(R k r (notboxM k _ C (λcells e=>by cases e))).symm.trans h1;rw[hd]at this;cases this
       ·unfold obk at f;rw[h1]at f;cases f
      |dead =>have h1:=fin.dead k r C;unfold obk at f;rw[h1]at f;cases f
    have apartOf:∀(k i:Nat) (s:Value) (b:Nat),k<m.h0→obk c' k=some b→V2[i]? = some s→s.ownBlock≠some b:=by
     intro k i s b r h1 hs f;obtain⟨o1,o2,o3⟩:=hobk k b r h1;obtain c4|⟨k',g1,g2⟩:=takenOf i s hs
     ·rw[c4]at f;cases f
     ·have hok':obk c k'=some b:=by
       rcases g2 with⟨t,e,v0,v,q1,q2,q3⟩|⟨t,e,v,l,q1,q2⟩ <;> (unfold obk;rw[q1];exact(by rw[g1];exact f))
      by_cases hkk:k=k'
      ·subst hkk;rcases g2 with⟨t,e,v0,v,q1,q2,q3⟩|⟨t,e,v,l,q1,q2⟩
       ·have:=o2 t e v0 v q1 q2;omega
       ·exact o3 q2
      ·exact hI.sep k k' b hkk o1 hok'
    have hobn:∀i b,obk c' (m.h0+i)=some b→∃s,V2[i]? = some s∧s.ownBlock=some b∧∀t e ko l,L2[i]? ≠ some (.frz t e ko l):=by
     intro i b f;unfold obk at f;rw[show c'.heap[m.h0+i]? = _ from gnew i]at f;cases hl:L2[i]? with
     |none=>simp[hl]at f
     |some le=>
      have hil:i<V2.length:=by rw[←c2.lv];exact aq hl
      have hs:V2[i]? = some V2[i]:=ζ hil;obtain⟨_,n2⟩:=fin.new i le V2[i] hl hs;simp[hl]at f;cases le with
      |own t e =>simp[LE.ho]at f;rw[n2]at f;exact⟨_,hs,f,λ_ _ _ _ e=>by cases e⟩
      | «mut» t e ko l =>simp[LE.ho]at f;rw[n2]at f;exact⟨_,hs,f,λ_ _ _ _ e=>by cases e⟩
      |frz t e ko l=>simp[LE.ho]at f
    have crossed:∀k i b,k<m.h0→obk c' k=some b→obk c' (m.h0+i)=some b→False:=by intro k i b r h1 h2;obtain⟨s,hs,f,_⟩:=hobn i b h2;exact apartOf k i s b r h1 hs f
    have frzOld:∀k b o,k<m.h0→obk c' k=some b→St' b o→c.St b o:=by
     intro k b o r f x;obtain x|⟨i,t,e,ko,l,s,q1,q2,q3⟩:=x
     ·exact x
     ·exact absurd q3 (apartOf k i s b r f q2)
    have frzNew:∀i b o,obk c' (m.h0+i)=some b→St' b o→c.St b o:=by
     intro i b o f x;obtain⟨s,hs,hsb,hnf⟩:=hobn i b f;obtain x|⟨j,t,e,ko,l,s',q1,q2,q3⟩:=x
     ·exact x
     ·by_cases hij:i=j
      ·subst hij;exact absurd q1 (hnf t e ko l)
      ·exact absurd q3 (c2.dist i j s s' b hij hs q2 hsb)
    have objOf:∀s b,(∃i:Nat,V2[i]? = some s)→s.ownBlock=some b→∃k,obk c k=some b:=by
     rintro s b ⟨i,hs⟩ f;obtain c4|⟨k',g1,g2⟩:=takenOf i s hs
     ·rw[c4]at f;cases f
     ·refine⟨k', ?_⟩;rcases g2 with⟨t,e,v0,v,q1,q2,q3⟩|⟨t,e,v,l,q1,q2⟩ <;> (unfold obk;rw[q1];exact(by rw[g1];exact f))
    have blkOf:∀s b,(∃i:Nat,V2[i]? = some s)→s.ownBlock=some b→b<c.w.heap.size∧B≤b∧¬B.F b:=by
     rintro s b ⟨i,hs⟩ f;obtain c4|⟨k',g1,g2⟩:=takenOf i s hs
     ·rw[c4]at f;cases f
     ·have hok:obk c k'=some b:=by
       rcases g2 with⟨t,e,v0,v,q1,q2,q3⟩|⟨t,e,v,l,q1,q2⟩ <;> (unfold obk;rw[q1];exact(by rw[g1];exact f))
      exact⟨(gi hI hok).1,(gi hI hok).2,hI.fo k' b hok⟩
    have inv:Inv B w1 J c':=by
     refine⟨hI.below,hI.size,λb o x=>?_,⟨λb o x=>.inl (hI.st0.s b o x),hI.st0.j⟩,λb o x=>?_,λk cells r=>?_,λk t e v r=>?_,λk k' b hne h1 h2=>?_,λk t e v l r=>?_,hI.drawn,λk b f=>(by
      obtain P|P:=T' k m.h0
      ·exact hI.fo k b (hobk k b P f).1
      ·obtain⟨s,hs,hsb,_⟩:=hobn (k-m.h0) b (by rw[show m.h0+(k-m.h0)=k by omega];exact f);exact(blkOf s b ⟨_,hs⟩ hsb).2.2),hI.fl,hI.j0,λb e cap n x=>(hI.junk b e cap n x).imp id λq=>q.keep rfl (λo y=>(by
       obtain y|⟨i,t,e,ko,l,s,q1,q2,q3⟩:=y
       ·exact y
       ·obtain⟨k',z⟩:=objOf s b ⟨i,q2⟩ q3;exact absurd z (q.own k'))) λk y=>(by
       obtain P|P:=T' k m.h0
       ·exact(hobk k b P y).1
       ·obtain⟨s,hs,hsb,_⟩:=hobn (k-m.h0) b (by rw[show m.h0+(k-m.h0)=k by omega];exact y);obtain⟨k',z⟩:=objOf s b ⟨_,hs⟩ hsb;exact absurd z (q.own k'))⟩
     ·obtain x|⟨i,t,e,ko,l,s,q1,q2,q3⟩:=x
      ·exact hI.bnd b o x
      ·exact(blkOf s b ⟨i,q2⟩ q3).1
     ·obtain x|⟨i,t,e,ko,l,s,q1,q2,q3⟩:=x
      ·exact hI.stN b o x
      ·exact .inr (blkOf s b ⟨i,q2⟩ q3).2
     ·have P:k<m.h0:=by
       obtain x|x:=T' k m.h0
       ·exact x
       ·exfalso;have:=gnew (k-m.h0);rw[show m.h0+(k-m.h0)=k by omega]at this;rw[show c'.heap[k]? = _ from this]at r;cases hl:L2[k-m.h0]? with
        |none=>simp[hl]at r
        |some p=>cases p <;> simp[hl,LE.ho]at r
      have T:obk c' k=some (c.blk k):=by unfold obk;rw[r]
      by_cases hm:k∈bs.map (·.1)
      ·obtain⟨p,hp,e⟩:=y_.1 hm;have e:p.1=k:=e;subst e;have:=gbox p hp;rw[show c'.heap[p.1]? = _ from this]at r;cases r;obtain⟨cells0,arr,t,g1,g2,g3⟩:=hbs p hp;obtain⟨arr',t',q1,q2,q3,_⟩:=hI.box p.1 cells0 g1;rw[g2]at q1;exact⟨arr,t,g2,q2,λo x=>q3 o (frzOld p.1 _ o P T x),g3 c' L2 V2 fin pL pV⟩
      ·have hH:=(R k P hm).symm.trans r;have C:=(c2.box k cells).1 hH;obtain⟨arr,t,q1,q2,q3,q4⟩:=hI.box k cells C;have hu:=xJ _ 0 k5 k (.box cells) (by rw[E',β P,←hh];exact C) (by rw[I',←hnames];exact hm);exact⟨arr,t,q1,q2,λo x=>q3 o (frzOld k _ o P T x),fin.keeps hu q4⟩
     ·obtain P|P:=T' k m.h0
      ·have hm:k ∉ bs.map (·.1):=λhm=>by
        obtain⟨p,hp,e'⟩:=y_.1 hm;have e':p.1=k:=e';have:=gbox p hp;rw[e']at this;rw[show c'.heap[k]? = _ from this]at r;cases r
       have hH:=(R k P hm).symm.trans r;obtain⟨v0,C,hle⟩:=c2.row k t e v hH;have h4:=hrv k t e v0 v P C hH;by_cases hv:v=v0
       ·have T:obk c' k=(rv' k).ownBlock:=by unfold obk;rw[r]
        rw[β hv]at h4;obtain⟨n,xs,q1,q2⟩:=hI.row k t e v0 C;refine⟨n,xs,by show c.w.ownsRow B e t.size (rv' k) n xs;rw[h4];exact q1,λb f o hle x=>?_⟩;have f:(rv' k).ownBlock=some b:=f;have hx:=frzOld k b o P (T.trans f) x;rw[h4]at f;exact q2 b f o hle hx
       ·rw[ο hv]at h4;exact⟨0,[],by show c.w.ownsRow B e t.size (rv' k) 0 [];rw[h4];exact D_ _ _ _ _,by show ∀b,(rv' k).ownBlock=some b→_;rw[h4];intro b f;simp[Value.ownBlock]at f⟩
      ·have hk':=r;have hg:=gnew (k-m.h0);rw[show m.h0+(k-m.h0)=k by omega]at hg;rw[show c'.heap[k]? = _ from hg]at r;cases hl:L2[k-m.h0]? with
       |none=>simp[hl]at r
       |some le=>
        have hil:k-m.h0<V2.length:=by rw[←c2.lv];exact aq hl
        have hs:V2[k-m.h0]? = some V2[k-m.h0]:=ζ hil;obtain⟨_,n2⟩:=fin.new (k-m.h0) le _ hl hs;rw[show m.h0+(k-m.h0)=k by omega]at n2;have hcl:=c2.claim (k-m.h0) le _ hl hs;cases le with
        |own t1 e1=>
         simp only[I?,hl,ar3,LE.ho,η,HO.row.injEq]at r;obtain⟨rfl,rfl,rfl⟩:=r;obtain⟨⟨n,xs,q1,q2⟩,_⟩:=hcl;refine⟨n,xs,by rw[n2];exact q1,λb f o hle x=>?_⟩;have T:obk c' k=(c'.rv k).ownBlock:=by unfold obk;rw[hk']
         have hx:=frzNew (k-m.h0) b o (by rw[show m.h0+(k-m.h0)=k by omega];exact T.trans f) x;rw[n2]at f;exact q2 b f o hle hx
        | «mut» t1 e1 ko l=>simp[hl,LE.ho]at r
        |frz t1 e1 ko l=>simp[hl,LE.ho]at r
     ·obtain P|P:=T' k m.h0
      ·obtain hk1|hk1:=T' k' m.h0
       ·exact hI.sep k k' b hne (hobk k b P h1).1 (hobk k' b hk1 h2).1
       ·exact crossed k (k'-m.h0) b P h1 (by rw[show m.h0+(k'-m.h0)=k' by omega];exact h2)
      ·obtain hk1|hk1:=T' k' m.h0
       ·exact crossed k' (k-m.h0) b hk1 h2 (by rw[show m.h0+(k-m.h0)=k by omega];exact h1)
       ·obtain⟨s,hs,f,_⟩:=hobn (k-m.h0) b (by rw[show m.h0+(k-m.h0)=k by omega];exact h1);obtain⟨s',hs',hb',_⟩:=hobn (k'-m.h0) b (by rw[show m.h0+(k'-m.h0)=k' by omega];exact h2);exact c2.dist (k-m.h0) (k'-m.h0) s s' b Ω hs hs' f hb'
     ·have T:obk c' k=(c'.rv k).ownBlock:=by unfold obk;rw[r]
      obtain P|P:=T' k m.h0
      ·have hm:k ∉ bs.map (·.1):=λhm=>by
        obtain⟨p,hp,e'⟩:=y_.1 hm;have e':p.1=k:=e';have:=gbox p hp;rw[e']at this;rw[show c'.heap[k]? = _ from this]at r;cases r
       have hH:=(R k P hm).symm.trans r;have C:=c2.mrow k t e v l hH;obtain⟨xs,q1,q2,q3⟩:=hI.mrow k t e v l C;have h4:c'.rv k=c.rv k:=by show rv' k=_;simp[rv',β P,C]
       refine⟨xs,by rw[h4];exact q1,q2.mono fin.st fin.cell,λb f o x=>?_⟩;have hx:=frzOld k b o P (T.trans f) x;rw[h4]at f;exact q3 b f o hx
      ·have hg:=gnew (k-m.h0);rw[show m.h0+(k-m.h0)=k by omega]at hg;rw[show c'.heap[k]? = _ from hg]at r;cases hl:L2[k-m.h0]? with
       |none=>simp[hl]at r
       |some le=>
        have hil:k-m.h0<V2.length:=by rw[←c2.lv];exact aq hl
        have hs:V2[k-m.h0]? = some V2[k-m.h0]:=ζ hil;obtain⟨_,n2⟩:=fin.new (k-m.h0) le _ hl hs;rw[show m.h0+(k-m.h0)=k by omega]at n2;have hcl:=c2.claim (k-m.h0) le _ hl hs;cases le with
        |own t1 e1=>simp[hl,LE.ho]at r
        |frz t1 e1 ko l1=>simp[hl,LE.ho]at r
        | «mut» t1 e1 ko l1 =>simp only[I?,hl,ar3,LE.ho,η]at r;injection r with z1 z2 z3 z4;subst z1;subst z2;have z4:=asa z4;subst z4;obtain⟨⟨xs,q1,q2,q3⟩,_⟩:=hcl;refine⟨xs,by rw[n2];exact q1,q2.mono fin.st fin.cell,λb f o x=>?_⟩;have hx:=frzNew (k-m.h0) b o (by rw[show m.h0+(k-m.h0)=k by omega];exact T.trans f) x;rw[n2]at f;exact q3 b f o hx
    refine⟨⟨c',w1,hw,rfl,inv,hpend c' L2 V2 fin (p_ _) (p_ _),hdf,λfr hfr=>⟨fin.keeps (vF k1 (hfs fr hfr).2) (hfs fr hfr).1,(hfs fr hfr).2⟩⟩, ?_⟩;show lo≤heap'.length;simp only[heap',a_,hlen0];omega
   ·cases h
  ·cases h
 ·cases h
def BT (fs:List (List AV×List Value))(lo:Nat)(B:Bd)(w0:World)(J:Sb)(k:KT)(r:AV):Exit→Act→World→Prop
 |.normal,a,w=>∃U,k .normal U=some r∧Rel fs lo B w0 J U a w∧lo≤U.heap.length
 |.exit id,a,w=>∃U,k (.exit id) U=some r∧Rel fs lo B w0 J U a w∧lo≤U.heap.length
 |.ret,a,w=>∃U,k .ret U=some r∧Rel fs lo B w0 J U a w∧lo≤U.heap.length
 |_,_,_=>False
def sh {m:Option MS}{k:Sg→Option AV}{r:AV}(h:Hp lo m σ k=some r)(g:Rel fs lo B w0 J σ a w)(f:lo≤σ.heap.length):∃U,k U=some r∧Rel fs lo B w0 J U a w∧lo≤U.heap.length:=by
 unfold Hp at h;split at h
 ·exact⟨σ,h,g,f⟩
 ·split at h
  next U hm=>obtain⟨l,j⟩:=Vd hm g;exact⟨U,h,l,j⟩
  ·cases h
def bV (f:Option Nat)(c:Code):Prop:=f=none∨cm c=true
variable{ro:Option Nat}{c:Gh}{w1 w' :World}{l:Nat}
def bV.left {p q:Bool}(h:ro=none∨(p&&q)=true):ro=none∨p=true:=h.imp id λh=>(O?.1 h).1
def bV.right {p q:Bool}(h:ro=none∨(p&&q)=true):ro=none∨q=true:=h.imp id λh=>(O?.1 h).2
def bV.ops {i:Nat}{f:Array Oper}{g:Bool}(h:bV ro (.region i f g)):∀o∈f.toList,gc ro o:=λo j=>h.imp id λh c e=>by have:=d_.1 h o j;rw[e]at this;cases this
def Inv.turn (h:Inv B w1 J c)(hg:c.w.grownBy w' (some l))(hl:∀o,c.w.heap[l]? = some o→o.isCells=false) :
  Inv B w' J { c with w:=w' }∧Ev c { c with w:=w' }:=by
 have C:∀{b:Nat} {j:Array Value} {t:TypeId} {m:Nat×Nat},c.w.heap[b]? = some (.cells j t m)→w'.heap[b]? = some (.cells j t m):=λ{b j t m} U=>by refine(hg.block b (θ.1 U).1 (λe=>?_)).trans U;injection e with e;rw[e]at U;cases hl _ U
 have R:∀(a:Addr) v,c.w.cell? a=some v→w'.cell? a=some v:=λa v p=>by
  have U:a.block≠l:=λe=>by
   unfold World.cell? at p;rw[e]at p;cases ho:c.w.heap[l]? with
   |none=>simp[ho]at p
   |some o=>
    rw[ho]at p;cases o with
    |cells j t m=>cases hl _ ho
    |_=>simp at p
  have hlt:a.block<c.w.heap.size:=by
   cases hx:c.w.heap[a.block]? with
   |none=>unfold World.cell? at p;rw[hx]at p;cases p
   |some x=>exact(θ.1 hx).1
  exact(X' (hg.block a.block hlt (λe=>U (by injection e)))).trans p
 have ev:Ev c { c with w:=w' }:=⟨Sb.le.refl _,λa v _ _ p=>R a v p,λ_ cells x=>⟨cells,x,rfl⟩,λ_ t e v x=>⟨t,e,v,x,δ _,λ_=>rfl⟩,λ_ _ _ v l x=>.inl ⟨v,l,x,δ _,λ_=>rfl⟩,λ_ x=>x,λ_ _=>rfl⟩;refine⟨⟨Below.refl _ _,υ h.size hg.size,λb o x=>J' (h.bnd _ _ x) hg.size,h.st0,h.stN, ?_, ?_,h.sep, ?_,Og.refl _,h.fo,λb f=>J' (h.fl b f) hg.size,h.j0,λb e cap n x=>(h.junk b e cap n x).imp id λq=>⟨q.lo,q.nf,q.le,(by
  obtain⟨j,z1,z2⟩:=q.cells;exact⟨j,C z1,z2⟩),q.free,q.own⟩⟩,ev⟩
 ·intro k cells hk;obtain⟨j,t,h1,h2,h3,h4⟩:=h.box k cells hk;exact⟨j,t,C h1,h2,h3,h4.mono ev⟩
 ·intro k t e v hk;obtain⟨n,xs,q,P⟩:=h.row k t e v hk;refine⟨n,xs,⟨q.1, ?_⟩,P⟩;obtain x|⟨g,cap,T,e1,e2,e3,r⟩:=q.2
  ·exact .inl x
  ·exact .inr ⟨g,cap,T,e1,e2,C e3,r⟩
 ·intro k t e v l hk;obtain⟨xs,q,hrep,P⟩:=h.mrow k t e v l hk;refine⟨xs,⟨q.1, ?_⟩,hrep.mono ev.st ev.cell,P⟩;obtain x|⟨g,cap,T,e1,e2,e3,r⟩:=q.2
  ·exact .inl x
  ·exact .inr ⟨g,cap,T,e1,e2,C e3,r⟩
def Inv.other (h:Inv B w1 J c){o:Obj}(p:c.w.grownBy w' (some l))(j:c.w.heap[l]? = some o)(g:o.isCells=false) :
  Inv B w' J { c with w:=w' }∧Ev c { c with w:=w' } :=
 h.turn p (λr f=>by rw[j]at f;injection f with f;rw[←f];exact g)
def Inv.base (h:Inv B w1 J c)(g:Below B w0 c.w)(f:Og B.F w0 c.w):Inv B w0 J c :=
 ⟨g,h.size,h.bnd,h.st0,h.stN,h.box,h.row,h.sep,h.mrow,f,h.fo,h.fl,h.j0,λb e cap n x=>(h.junk b e cap n x).imp id λq=>⟨q.lo,q.nf,q.le,q.cells,q.free,q.own⟩⟩
def Inv.name (h:Inv B w1 J c)(l:Nat) :
  let C:Gh:={ c with heap:=c.heap++[.dead],lp:=λi=>if i=c.heap.length then l else c.lp i }
  Inv B w1 J C∧Ev c C:=by
 intro C;have g:∀(k:Nat) (x:HO),C.heap[k]? = some x→x≠HO.dead→c.heap[k]? = some x:=by
  intro k x p P;have p:(c.heap++[HO.dead])[k]? = some x:=p;obtain hlt|hge:=T' k c.heap.length
  ·rwa[ω hlt]at p
  ·rw[P' hge]at p;have:x∈[HO.dead]:=M? p;exact absurd (F'.1 this) P
 have f:∀(k:Nat) (x:HO),c.heap[k]? = some x→C.heap[k]? = some x:=λk x p=>by show(c.heap++[HO.dead])[k]? = _;rw[ω (aq p)];exact p
 have ev:Ev c C:=⟨Sb.le.refl _,λ_ _ _ _ x=>x,λk cells x=>⟨cells,f k _ x,rfl⟩,λk t e v x=>⟨t,e,v,f k _ x,δ _,λ_=>rfl⟩,λk t e v l x=>.inl ⟨v,l,f k _ x,δ _,λ_=>rfl⟩,λk x=>f k _ x,λk x=>ο (Nat.ne_of_lt (aq x))⟩;have j:∀k b,obk C k=some b→obk c k=some b:=λk b r=>by
  unfold obk at r⊢;cases R:C.heap[k]? with
  |none=>rw[R]at r;cases r
  |some x=>
   rw[R]at r;by_cases hd:x=HO.dead
   ·subst hd;cases r
   ·rw[g k x R hd];exact r
 refine⟨⟨h.below,h.size,h.bnd,h.st0,h.stN,λk cells x=>?_,λk t e v x=>h.row k t e v (g k _ x Ψ),λk k' b P U T=>h.sep k k' b P (j k b U) (j k' b T),λk t e v l x=>h.mrow k t e v l (g k _ x Ψ),h.drawn,λk b r=>h.fo k b (j k b r),h.fl,h.j0,λb e cap n x=>(h.junk b e cap n x).imp id λq=>q.keep rfl (λ_ y=>y) λk y=>j k b y⟩,ev⟩;obtain⟨arr,t,U,T,h3,h4⟩:=h.box k cells (g k _ x Ψ);exact⟨arr,t,U,T,h3,h4.mono ev⟩
def pI {w:World}(fn:FuncId)(tmps:Array Value)(ps:Array Tmp)(assign body:Code)(p:∀l,ro=some l→∃r,w.heap[l]? = some (.loop r)) :
  ∃(l:Nat) (mark:List Deferred) (f:World) (D:Nat),(Instr.enterLoop fn tmps ps assign body ro).run P w = .ok (l,mark) f∧w.grownBy f none∧w.heap.size≤l∧f.drawn=w.drawn ∧
   f.heap[l]? = some (.loop { state :=.ready,pending:=none,fn,tmps,params:=ps,assign,body,defers:=D }) ∧
   ∃j:List Nat,mark=j.map (λD=>{ target :=.collected D,args :=#[] })∧j.Nodup∧∀D∈j,w.heap.size≤D∧D≠l∧f.heap[D]? = some (.deferred (some [])):=by
 cases ro with
 |none=>
  refine⟨_,_,_,w.heap.size,run_enterLoop_outer fn tmps ps assign body,(O' w _ none).trans (O' _ _ none),Ω,rfl, ?_,[w.heap.size],rfl,Ψ,λD g=>?_⟩
  ·have:=World.alloc_heap_new (w.alloc (.deferred (some []))) (.loop { state :=.ready,pending:=none,fn,tmps,params:=ps,assign,body,defers:=w.heap.size });rw[asq]at this;exact this
  ·simp only[F']at g;subst g;refine⟨δ _,Ω, ?_⟩;rw[Below.heap_alloc _ _ _ (by rw[asq];omega)];exact World.alloc_heap_new _ _
 |some C =>obtain⟨r0,J⟩:=p C rfl;refine⟨w.heap.size,[],w.alloc (.loop { state :=.ready,pending:=none,fn,tmps,params:=ps,assign,body,defers:=r0.defers }),r0.defers, ?_,O' w _ none,δ _,rfl,World.alloc_heap_new _ _,[],rfl,Ψ,λD g=>by cases g⟩;unfold Instr.enterLoop;simp[ν,run_getLoop J,run_newObj_alloc,Z']
def IZ {c:Gh}:∀{l:List AV} {u:AV} {f:List Value} {v:Value},RAs c (l++[u]) (f++[v])→RAs c l f∧RA c u [v]
 |[],_,[],_,⟨h,_⟩=>⟨awN,h⟩
 |[],u,x::f,v,h=>by have:=h.length;simp at this
 |x::l,u,[],v,h=>by have:=h.length;simp at this
 |_::_,_,_::_,_,⟨r,p⟩=>by obtain⟨j,g⟩:=IZ p;exact⟨⟨r,j⟩,g⟩
def jW {c:Gh}:∀{ps:List Nat} {args env f:List AV} {g:List Value} {tmps:Array Value},zF ps args env=some f→RAs c env tmps.toList→RAs c args g →
  g.length=ps.length∧RAs c f ((ps.zip g).foldl (λtmps (t,a)=>tmps.setIfInBounds t a) tmps).toList
 |[],[],env,f,[],tmps,h,j,_=>by cases h;exact⟨rfl,j⟩
 |t::ps,u::args,env,f,v::g,tmps,h,j,⟨p,l⟩=>by simp[zF]at h;obtain⟨C,r⟩:=jW (tmps:=tmps.setIfInBounds t v) h (by rw[Array.toList_setIfInBounds];exact j.set t p) l;exact⟨by simp[C],r⟩
 |[],_::_,_,_,_,_,h,_,_=>by cases h
 |_::_,[],_,_,_,_,h,_,_=>by cases h
def IY (ro:Option Nat)(w0:World):Prop:=∀l,ro=some l→∃r,w0.heap[l]? = some (.loop r)
def jp {Γ:List Lq}{ck:Callk}{S:Par}{fuel:Nat}(hm:P.follows .mixedOrders=true)(tk:TabOk P S.tab)(tsok:SpecsOk P S.T)(ckok:CkOk P ck Γ):∀(c:Code) (ro:Option Nat) (n:Nat) (fs:List (List AV×List Value)) (lo:Nat) (B:Bd) (w0:World) (J:Sb) (r:AV),IY ro w0→Ctx Γ fs B w0→bV ro c→∀(σ:Sg) (k:KT) (a:Act) (w:World),lo≤σ.heap.length →
  exec ck S lo fuel c σ k=some r→Rel fs lo B w0 J σ a w→c.wpIn (RF ro) n P (BT fs lo B w0 J k r) a w:=by
 intro c;induction c with
 |skip=>intro ro n fs lo B w0 J r hro hcx _ σ k a w hlo h hr;exact wpIn_skip ⟨σ,h,hr,hlo⟩
 |label l=>intro ro n fs lo B w0 J r hro hcx _ σ k a w hlo h hr;exact wpIn_label ⟨σ,h,hr,hlo⟩
 |region id ops draw=>
  intro ro n fs lo B w0 J r hro hcx hnd σ k a w hlo h hr;refine wpIn_mono (M0 hnd.ops hm tk tsok ckok hcx hlo (by simpa[exec]using h) hr) λe a w hn=>?_;cases e with
  |normal=>exact hn
  |_=>exact hn.elim
 |seq x y ihx ihy=>
  intro ro n fs lo B w0 J r hro hcx hnd σ k a w hlo h hr;simp[exec]at h;refine wpIn_seq (wpIn_mono (ihx ro n fs lo B w0 J r hro hcx (bV.left hnd) σ _ a w hlo h hr) λe a w hn=>?_);cases e with
  |normal =>obtain⟨U,h1,h2,h3⟩:=hn;simp[aP]at h1;obtain⟨σ2,g1,g2,g3⟩:=sh h1 h2 h3;exact ihy ro n fs lo B w0 J r hro hcx (bV.right hnd) σ2 k a w g3 g1 g2
  |exit id=>exact hn
  |ret=>exact hn
  |goto l=>exact hn.elim
  |panic ch=>exact hn.elim
  |outgrown=>exact hn.elim
 |cond cnd x y ihx ihy=>
  intro ro n fs lo B w0 J r hro hcx hnd σ k a w hlo h hr;simp[exec]at h;split at h
  next b hb=>
   have hr':=hr;obtain⟨c,_,_,_,_,hE,_⟩:=hr';have hv:=mT hE cnd;rw[hb]at hv;have hev:=gq hv.val_inv;cases b with
   |true=>exact wpIn_cond_true hev (ihx ro n fs lo B w0 J r hro hcx (bV.left hnd) σ k a w hlo h hr)
   |false=>exact wpIn_cond_false hev (ihy ro n fs lo B w0 J r hro hcx (bV.right hnd) σ k a w hlo h hr)
  ·cases h
 |block id x ih=>
  intro ro n fs lo B w0 J r hro hcx hnd σ k a w hlo h hr;simp[exec]at h;refine wpIn_block (wpIn_mono (ih ro n fs lo B w0 J r hro hcx hnd σ _ a w hlo h hr) λe a w hn=>?_);cases e with
  |normal=>exact hn
  |exit id'=>
   obtain⟨U,h1,h2⟩:=hn;simp[aj]at h1;show if id'=id then _ else _
   cases hb:Nat.beq id' id with
   |true =>rw[hb]at h1;rw[β (κ hb)];exact⟨U,h1,h2⟩
   |false =>rw[hb]at h1;rw[ο (E_ hb)];exact⟨U,h1,h2⟩
  |ret=>exact hn
  |goto l=>exact hn.elim
  |panic ch=>exact hn.elim
  |outgrown=>exact hn.elim
 |loop x ih=>
  intro ro n fs lo B w0 J r hro hcx hnd σ k a w hlo h hr;simp[exec]at h;split at h
  next m hmm=>
   obtain⟨σ1,h1,h2,h3⟩:=sh h hr hlo;refine wpIn_loop_rounds fuel ?_;have key:∀j σ a w,lo≤σ.heap.length→aI lo m (λσ k=>exec ck S lo fuel x σ k) k j σ=some r→Rel fs lo B w0 J σ a w→Code.roundsIn (RF ro) n P x (BT fs lo B w0 J k r) j a w:=by
    intro j;induction j with
    |zero=>intro σ a w _ h _;cases h
    |succ j ihn=>
     intro σ a w hlo h hr;rw[roundsIn_succ];refine wpIn_mono (ih ro n fs lo B w0 J r hro hcx hnd σ _ a w hlo h hr) λe a w hn=>?_;cases e with
     |normal =>obtain⟨U,q1,q2,q3⟩:=hn;simp[uG]at q1;obtain⟨σ2,g1,g2,g3⟩:=sh q1 q2 q3;exact ihn σ2 a w g3 g1 g2
     |exit id=>exact hn
     |ret=>exact hn
     |goto l=>exact hn.elim
     |panic ch=>exact hn.elim
     |outgrown=>exact hn.elim
   exact key fuel σ1 a w h3 h1 h2
  ·refine wpIn_loop_rounds fuel ?_;have key:∀j σ a w,lo≤σ.heap.length→qH (λσ k=>exec ck S lo fuel x σ k) k j σ=some r→Rel fs lo B w0 J σ a w→Code.roundsIn (RF ro) n P x (BT fs lo B w0 J k r) j a w:=by
    intro j;induction j with
    |zero=>intro σ a w _ h _;cases h
    |succ j ihn=>
     intro σ a w hlo h hr;rw[roundsIn_succ];refine wpIn_mono (ih ro n fs lo B w0 J r hro hcx hnd σ _ a w hlo h hr) λe a w hn=>?_;cases e with
     |normal =>obtain⟨U,q1,q2,q3⟩:=hn;exact ihn U a w q3 q1 q2
     |exit id=>exact hn
     |ret=>exact hn
     |goto l=>exact hn.elim
     |panic ch=>exact hn.elim
     |outgrown=>exact hn.elim
   exact key fuel σ a w hlo h hr
 |exit id=>intro ro n fs lo B w0 J r hro hcx _ σ k a w hlo h hr;exact wpIn_exit ⟨σ,h,hr,hlo⟩
 |ret=>intro ro n fs lo B w0 J r hro hcx _ σ k a w hlo h hr;exact wpIn_ret ⟨σ,h,hr,hlo⟩
 |rangeFunc g ps x y ihx ihy=>
  intro ro n fs lo B w0 J r hro hcx hnd σ k a w hlo h hr;simp only[exec]at h;split at h
  next f caps hg=>
   split at h
   ·rename_i hchk;simp only[ι]at hchk;obtain⟨⟨hsk,hnb⟩,hnc⟩:=hchk;obtain⟨c,w1,rfl,hh,hI,hE,⟨hdb,hdo,ms,hms,hnod,hmk⟩,hfs⟩:=hr;have hgv:=mT hE g;rw[hg]at hgv;obtain⟨cs,e,hcs,hch⟩:=hgv;simp at e;refine wpIn_rangeFunc λfn _=>?_;obtain⟨l,mark,w2,D,hrun,hgr,hle,hdr,hrec,ms2,hmark,hnod2,hmk2⟩:=pI (P:=P) (w:=c.w) fn a.tmps ps x y (ro:=ro) (λl hl=>by
     obtain⟨r0,h0⟩:=hro l hl;exact⟨r0,hI.drawn.keep _ _ (hdo.keep _ _ h0 rfl) rfl⟩)
    have og2:Og B.F c.w w2:=Og.of_grown hgr (λb e=>by cases e) (by rw[hdr];exact δ _) (λb f=>⟨hI.fl b f,Ψ⟩);have hgl:c.w.grownBy w2 (some l):=⟨hgr.1,hgr.2,hgr.3,hgr.4,λk hk _=>hgr.block k hk Ψ⟩;obtain⟨hI1,hE1⟩:=hI.turn hgl (λo ho=>by have:=(θ.1 ho).1;omega);obtain⟨hI2,hE2⟩:=hI1.name l;have hE2:=hE1.trans hE2;have hjl:σ.heap.length=c.heap.length:=by rw[hh]
    have hyl:RA { c with w:=w2,heap:=c.heap++[.dead],lp:=λi=>if i=c.heap.length then l else c.lp i } (.yld σ.heap.length) [.func (.yield l) #[] #[]]:=by
     refine⟨?_, ?_⟩
     ·show(c.heap++[HO.dead])[σ.heap.length]? = _;rw[hjl];simp
     ·show _=[Value.func (.yield (if σ.heap.length=c.heap.length then l else c.lp σ.heap.length)) #[] #[]];rw[β hjl]
    have hBl:B≤l:=υ hI.size hle;have hcx2:Ctx (⟨σ.heap.length,l,σ.env,a.tmps.toList,{ state :=.ready,pending:=none,fn,tmps:=a.tmps,params:=ps,assign:=x,body:=y,defers:=D }⟩::Γ) ((σ.env++[.yld σ.heap.length],a.tmps.toList++[.func (.yield l) #[] #[]])::fs) B w2:=by
     intro q hq;obtain rfl|hq:=N'.1 hq
     ·exact⟨c_ ..,hBl,hrec⟩
     ·exact hcx.more (λfr h=>C' _ h) (hdo.trans (hI.drawn.trans og2)) q hq
    have apartL:∀q∈Γ,q.l≠l:=λq hq e=>by have h0:=hI.drawn.keep _ _ (hdo.keep _ _ (hcx q hq).2.2 rfl) rfl;have:=(θ.1 h0).1;omega
    have yok:ON P (rP σ.heap.length ck.call σ.env ps.toList (λlo σ k=>exec ck S lo fuel x σ (AM (λσ k=>exec ck S lo fuel y σ k) k))) (⟨σ.heap.length,l,σ.env,a.tmps.toList,{ state :=.ready,pending:=none,fn,tmps:=a.tmps,params:=ps,assign:=x,body:=y,defers:=D }⟩::Γ):=by
     intro j' args heap kk r' hy fs' B' w0' St0' c' hI' hh' vs hargs hfs' hcx';unfold rP at hy;split at hy
     ·rename_i hj;have hj:=κ hj;subst hj;split at hy
      ·rename_i env' hset;intro l' hl' ro' n';obtain⟨hmem,hBl',hrecw⟩:=hcx' _ (c_ ..);simp only at hBl' hrecw;obtain⟨hE',hY'⟩:=IZ (hfs' _ hmem).1;have hll:l'=l:=by
        obtain⟨_,e1⟩:=hl';obtain⟨_,e2⟩:=hY';have e3:=e1.trans e2.symm;injection e3 with e3;injection e3 with e3;injection e3
       subst hll;have hlw:=hI'.drawn.keep _ _ hrecw rfl;obtain⟨hlen,hps⟩:=jW hset hE' hargs;refine⟨_,_,_,_,run_yield hlw (by simpa using hlen), ?_⟩;have hroo:IY (some l') w0':=λl0 hl0=>by cases hl0;exact⟨_,hrecw⟩
       have hE1':RAs c' env' ((ps.zip vs.toArray).foldl (λtmps (t,a)=>tmps.setIfInBounds t a) a.tmps).toList:=by rw[←Array.foldl_toList,Array.toList_zip];exact hps
       refine roundIn_of_wpIn trivial (wpIn_mono (ihx (some l') n' fs' heap.length B' w0' St0' r' hroo (λq hq=>hcx' q (C' _ hq)) (.inr hsk) ⟨env',heap⟩ _ _ _ (δ _) hy ⟨c',w0',rfl,hh',hI',hE1',sY.none _ _,hfs'⟩) λe1 a1 wx hn1=>?_);have bad:e1 ≠ .normal→False:=λhne=>by
        cases e1 with
        |normal=>exact hne rfl
        |exit id=>obtain⟨_,q1,_⟩:=hn1;cases q1
        |ret=>obtain⟨_,q1,_⟩:=hn1;cases q1
        |goto l=>exact hn1.elim
        |panic ch=>exact hn1.elim
        |outgrown=>exact hn1.elim
       by_cases hnorm:e1 = .normal
       rotate_left
       ·exact(bad hnorm).elim
       subst hnorm;obtain⟨σ1,hy1,⟨c1,w6,rfl,hh1,hI1',hE1a,⟨mb1,mo1,ms1,mdf1,mnd1,mk1⟩,hfs1⟩,hlo1⟩:=hn1;simp[AM]at hy1;have hlw1:=hI1'.drawn.keep _ _ (mo1.keep _ _ hrecw rfl) rfl;refine⟨_,run_beginRound hlw1 rfl, ?_⟩;have hlt:=(θ.1 hlw1).1;have hlt0:=(θ.1 hrecw).1;have hsz0:B'≤w0'.heap.size:=υ hBl' (c? hlt0);obtain⟨hIb,hEb⟩:=hI1'.other (grownBy_putObj' c1.w l' (.loop { state :=.busy,pending:=none,fn,tmps:=a.tmps,params:=ps,assign:=x,body:=y,defers:=D })) hlw1 rfl;have hbW:Below B' (w0'.putObj l' (.loop { state :=.busy,pending:=none,fn,tmps:=a.tmps,params:=ps,assign:=x,body:=y,defers:=D })) (c1.w.putObj l' (.loop { state :=.busy,pending:=none,fn,tmps:=a.tmps,params:=ps,assign:=x,body:=y,defers:=D })):=by
        have h0:=mb1.trans hI1'.below;refine⟨h0.os,h0.tape,h0.output,by simpa using h0.size,λk hk=>?_⟩;have hne:k≠l':=Ω
        rw[World.putObj_heap_other hne,World.putObj_heap_other hne];exact h0.block k hk
       have hoW:Og B'.F (w0'.putObj l' (.loop { state :=.busy,pending:=none,fn,tmps:=a.tmps,params:=ps,assign:=x,body:=y,defers:=D })) (c1.w.putObj l' (.loop { state :=.busy,pending:=none,fn,tmps:=a.tmps,params:=ps,assign:=x,body:=y,defers:=D })):=by
        refine⟨(mo1.trans hI1'.drawn).dr,λk o hk ho=>?_,λk f=>?_⟩
        rotate_left
        ·by_cases ek:k=l'
         ·subst ek;rw[World.putObj_heap_same hlt0,World.putObj_heap_same hlt]
         ·rw[World.putObj_heap_other ek,World.putObj_heap_other ek];exact(mo1.trans hI1'.drawn).kb k f
        by_cases ek:k=l'
        ·subst ek;rw[World.putObj_heap_same hlt0]at hk;rw[World.putObj_heap_same hlt];exact hk
        ·rw[World.putObj_heap_other ek]at hk⊢;exact(mo1.trans hI1'.drawn).keep _ _ hk ho
       refine wpIn_mono (ihy (some l') n' fs' heap.length B' (w0'.putObj l' (.loop { state :=.busy,pending:=none,fn,tmps:=a.tmps,params:=ps,assign:=x,body:=y,defers:=D })) St0' r' ?_ ?_ (.inr hnb) σ1 _ _ _ hlo1 hy1 ⟨{ c1 with w:=c1.w.putObj l' (.loop { state :=.busy,pending:=none,fn,tmps:=a.tmps,params:=ps,assign:=x,body:=y,defers:=D }) },_,rfl,hh1,hIb,hE1a.mono hEb,⟨hbW,hoW,ms1,mdf1,mnd1,λD' hD'=>?_⟩,λfr hfr=>⟨(hfs1 fr hfr).1.mono hEb,(hfs1 fr hfr).2⟩⟩) λe a2 w3 hn=>?_
       ·intro l0 hl0;cases hl0;exact⟨_,World.putObj_heap_same hlt0⟩
       ·intro q hq;obtain⟨x1,x2,x3⟩:=hcx' q (C' _ hq);refine⟨x1,x2, ?_⟩;rw[World.putObj_heap_other (apartL q hq)];exact x3
       ·obtain⟨x1,x2,x3,x4⟩:=mk1 D' hD';refine⟨x1,by simpa using x2, ?_,x4⟩;have hne:D'≠l':=Ω
        rw[World.putObj_heap_other hne];exact hI1'.drawn.keep _ _ x3 rfl
       ·cases e with
        |normal=>
         obtain⟨σ2,q1,⟨c3,w5,rfl,hh3,hI3,hE3,⟨m1,m2,_⟩,hfs3⟩,q3⟩:=hn;simp[adV]at q1;have hl3:=hI3.drawn.keep _ _ (m2.keep _ _ (World.putObj_heap_same hlt0) rfl) rfl;have hlt3:=(θ.1 hl3).1;obtain⟨hI4,hE4⟩:=hI3.other (grownBy_putObj' c3.w l' (.loop { state :=.ready,pending:=none,fn,tmps:=a.tmps,params:=ps,assign:=x,body:=y,defers:=D })) hl3 rfl;have hb4:Below B' w0' (c3.w.putObj l' (.loop { state :=.ready,pending:=none,fn,tmps:=a.tmps,params:=ps,assign:=x,body:=y,defers:=D })) :=
          ((((Below.refl B' w0').grown (grownBy_putObj' w0' l' _) hsz0 (λk e=>by cases e;exact hBl')).trans m1).trans hI3.below).grown (grownBy_putObj' c3.w l' _) hI3.size (λk e=>by cases e;exact hBl')
         refine⟨.bool true,_,run_endRound none hl3,.bool true,.val .bool true,_,rfl,by rw[←hh3]at q1;exact q1,rfl,hI4.base hb4 ⟨?_,λk o hk ho=>?_,λk f=>?_⟩,bZ _,by simpa[hh3]using q3,λfr hfr=>(hfs3 fr hfr).1.mono hE4⟩
         ·exact υ m2.dr hI3.drawn.dr
         ·by_cases ek:k=l'
          ·subst ek;rw[hrecw]at hk;cases hk;exact World.putObj_heap_same hlt3
          ·rw[World.putObj_heap_other ek];refine hI3.drawn.keep _ _ (m2.keep _ _ ?_ ho) ho;rw[World.putObj_heap_other ek];exact hk
         ·by_cases ek:k=l'
          ·subst ek;rw[World.putObj_heap_same hlt3,hrecw]
          ·rw[World.putObj_heap_other ek,hI3.drawn.kb k f,m2.kb k f,World.putObj_heap_other ek]
        |exit id=>obtain⟨_,q1,_⟩:=hn;cases q1
        |ret=>obtain⟨_,q1,_⟩:=hn;cases q1
        |goto l=>exact hn.elim
        |panic ch=>exact hn.elim
        |outgrown=>exact hn.elim
      ·cases hy
     ·exact ckok.call _ _ _ _ _ hy fs' B' w0' St0' c' hI' hh' vs hargs hfs' (λq hq=>hcx' q (C' _ hq))
    obtain⟨⟨fnn,f1,f2,f3⟩,hcalls⟩:=ckok.iter _ _ yok _ _ _ _ _ h ((σ.env++[.yld σ.heap.length],a.tmps.toList++[.func (.yield l) #[] #[]])::fs) B w2 J _ hI2 (by show c.heap++_=_;rw[hh]) (.func (.yield l) #[] #[]::cs) ⟨hyl,(hcs.parts hch).mono hE2⟩ (by
     intro fr hfr;obtain rfl|hfr:=N'.1 hfr
     ·refine⟨(hE.mono hE2).append ⟨hyl,awN⟩, ?_⟩;rw[List.all_append,ι];refine⟨vF (by simp[hjl]) (hE.under hnc), ?_⟩;simp[AV.under]
     ·exact⟨(hfs fr hfr).1.mono hE2,vF Ξ (hfs fr hfr).2⟩) hcx2
    have hbody:¬fnn.body=none:=by cases hb:fnn.body <;> simp_all
    have f3:¬fnn.name = "runtime.NumGoroutine":=by simpa using f3
    refine⟨l,mark,w2,{ target :=.fn (.func f) cs.toArray,args :=#[.func (.yield l) #[] #[]] },w2,f,(.func (.yield l) #[] #[]::cs).toArray,w2,hrun, ?_,λ_ _=>trivial, ?_,(λq=>by cases q),By (hcalls.mono ?_)⟩
    ·simp[resolve,e];simp[Deferred.ofValue,Act.eval]
    ·have e2 : #[Value.func (.yield l) #[] #[]]++cs.toArray=(Value.func (.yield l) #[] #[]::cs).toArray:=i_ Ψ;simp[invoke,callFunc,H_,ν,f1,e2];simp[f3,hbody]
    ·rintro _ w3 ⟨v,out,c3,rfl,hk,rfl,hI3,hR3,hle3,hfs3⟩;have hl3:=hI3.drawn.keep _ _ hrec rfl;obtain⟨hI4,hE4⟩:=hI3.other (grownBy_putObj' c3.w l (.loop { state :=.exhausted,pending:=none,fn,tmps:=a.tmps,params:=ps,assign:=x,body:=y,defers:=D })) hl3 rfl;have keep4:∀(k:Nat) (o:Obj),c.w.heap[k]? = some o→o.isCells=false→(c3.w.putObj l (.loop { state :=.exhausted,pending:=none,fn,tmps:=a.tmps,params:=ps,assign:=x,body:=y,defers:=D })).heap[k]? = some o:=λk o hk' ho=>by
      have hne:k≠l:=λek=>by have:=(θ.1 hk').1;omega
      rw[World.putObj_heap_other hne];exact hI3.drawn.keep _ _ (og2.keep _ _ hk' ho) ho
     have hszw:w0.heap.size≤c.w.heap.size:=(hdb.trans hI.below).size;refine⟨none,_,run_endLoop hl3 Ψ,⟨σ.env,c3.heap⟩,hk,⟨{ c3 with w:=c3.w.putObj l (.loop { state :=.exhausted,pending:=none,fn,tmps:=a.tmps,params:=ps,assign:=x,body:=y,defers:=D }) },_,rfl,rfl,hI4, ?_,⟨?_,⟨?_,λk o hk' ho=>?_,λk f=>?_⟩,ms2++ms, ?_, ?_, ?_⟩,λfr hfr=>⟨(hfs3 fr (C' _ hfr)).mono hE4,(hfs fr hfr).2⟩⟩, ?_⟩
     ·exact(IZ (hfs3 _ (c_ ..))).1.mono hE4
     ·exact(((hdb.trans hI.below).grown hgr hI.size (λk e=>by cases e)).trans hI3.below).grown (grownBy_putObj' c3.w l _) hI3.size (λk e=>by cases e;exact hBl)
     ·exact υ (hdo.trans (hI.drawn.trans og2)).dr hI3.drawn.dr
     ·exact keep4 k o ((hdo.trans hI.drawn).keep _ _ hk' ho) ho
     ·have hne:k≠l:=λek=>by have:=hI.fl k f;omega
      rw[World.putObj_heap_other hne,hI3.drawn.kb k f,og2.kb k f,hI.drawn.kb k f,hdo.kb k f]
     ·show mark++a.defers=_;rw[hmark,hms,ar5]
     ·rw[List.nodup_append];refine⟨hnod2,hnod,λD1 h1 D2 h2 ed=>?_⟩;have:=(hmk2 D1 h1).1;have h3:=(θ.1 (hI.drawn.keep _ _ (hmk D2 h2).2.2.1 rfl)).1;omega
     ·intro D' hD';obtain h1|h1:=Q'.1 hD'
      ·obtain⟨x1,x2,x3⟩:=hmk2 D' h1;exact⟨υ hI.size x1,υ hszw x1,by rw[World.putObj_heap_other x2];exact hI3.drawn.keep _ _ x3 rfl,λf=>by have:=hI.fl D' f;omega⟩
      ·obtain⟨x1,x2,x3,x4⟩:=hmk D' h1;exact⟨x1,x2,keep4 _ _ (hI.drawn.keep _ _ x3 rfl) rfl,x4⟩
     ·simp at hle3;show lo≤c3.heap.length;omega
   ·cases h
  ·cases h
 |scope x _=>intro ro n fs lo B w0 J r hro hcx _ σ k a w _ h _;cases h
 |goto l=>intro ro n fs lo B w0 J r hro hcx _ σ k a w _ h _;cases h
 |refuse s=>intro ro n fs lo B w0 J r hro hcx _ σ k a w _ h _;cases h
end
open Go Go.RowKit
def jf (f:Array Value):ResultVar→Sem Value
 |.tmp t=>pure (f.getD t undef)
 |.cell t g=>do loadVar g (←asAddr (f.getD t undef))
section
variable {P:Program}{tab:Tab}{B:Bd}{lo:Nat}{w0:World}{J:Sb}{fs:List (List AV×List Value)}{σ:Sg}{a:Act}{c:Gh}
def dS {fn:Func}{g:Array Value}{R:Ending→World→Prop}{n:Nat}:∀(l:List Nat) (c:Gh) (r:World),Inv B r J c→l.Nodup→(∀D∈l,B≤D∧c.w.heap[D]? = some (.deferred (some []))) →
  (∀(f:Gh) (C:World),f.heap=c.heap→Inv B C J f→Ev c f→Below B c.w f.w→f.w.drawn=c.w.drawn→(∀k,k ∉ l→f.w.heap[k]? = c.w.heap[k]?)→∃v,(results fn g).run P f.w = .ok v f.w∧R (.returned v) f.w) →
  LeavesInM (RF none) n P fn g R (l.map λD=>{ target :=.collected D,args :=#[] }) .returning c.w
 |[],c,r,hI,_,_,h=>h c r rfl hI (Ev.refl c) (Below.refl _ _) rfl (λ_ _=>rfl)
 |D::l,c,r,hI,hnd,hall,h=>by
  obtain⟨hB,hD⟩:=hall D (c_ ..);obtain⟨U,T⟩:=atn.1 hnd;obtain⟨hI2,hE2⟩:=hI.other (grownBy_putObj' c.w D (.deferred none)) hD rfl;refine⟨Ψ,.inl ⟨D,_,rfl,run_takeDeferred hD, ?_⟩⟩;refine dS l { c with w:=c.w.putObj D (.deferred none) } _ hI2 T (λD' p=>?_) (λf C q1 q2 q3 q4 q5 q6=>?_)
  ·obtain⟨h1,h2⟩:=hall D' (C' _ p);have j:D'≠D:=λe=>U (by rw[←e];exact p);exact⟨h1,(World.putObj_heap_other j).trans h2⟩
  ·refine h f C q1 q2 (hE2.trans q3) (Below.trans ((Below.refl B c.w).grown (grownBy_putObj' c.w D (.deferred none)) hI.size (λk e=>by cases e;exact hB)) q4) q5 (λk hk=>?_);rw[q6 k (λhm=>hk (C' _ hm))];have j:k≠D:=λe=>hk (by rw[e];exact c_ ..);exact World.putObj_heap_other j
variable{u res:AV}{l args:List AV}{vs:List Value}{fi:FuncId→Option Fi}{hs:Hs}{fuel:Nat}{St' :Sb}{v:Value}{f:FuncId}{x:Fi}{tys:List Ty}
def tY (tk:TabOk P tab)(hI:Inv B w0 J c)(hh:c.heap=σ.heap)(hE:RAs c σ.env a.tmps.toList){rv:ResultVar}(h:zL tab σ rv=some u) :
  ∃v,(jf a.tmps rv).run P c.w = .ok v c.w∧RA c u [v]:=by
 cases rv with
 |tmp t=>
  have R:=mT hE (.tmp t);simp[QP,Act.eval]at R;simp[zL]at h;split at h
  ·cases h
  ·cases h;exact⟨_,by simp[jf],R⟩
 |cell t ty=>
  have R:=mT hE (.tmp t);simp only[QP,Act.eval]at R;simp only[zL]at h;split at h
  next k g hk=>
   rw[hk]at R;obtain⟨cells,hc,e⟩:=R;simp at e;split at h
   ·rename_i C p hc' ht;rw[hh]at hc;have:C=cells:=by
     simp[hc,HO.box.injEq]at hc';exact hc'.symm
    subst this;split at h
    ·rename_i x R;cases h;obtain⟨arr,t',h1,h2,h3⟩:=qZ hI (by rw[hh];exact hc);have T:=ra R ((h2.drop g).take p.size);obtain⟨v,r,f⟩:=cO tk ht c.w ⟨c.blk k,g,none⟩ _ T.size (λj u U=>by
      rw[cH,h3,←U,E'];have hj:j<p.size:=by
       obtain h|h:=T' j p.size
       ·exact h
       ·rw[E',ο Ω]at U;cases U
      rw[β hj,U'])
     refine⟨v, ?_,v,rfl,gr T f⟩;simp[jf,e,asAddr,r]
    ·split at h
     ·rename_i hs;simp at hs;cases h;obtain⟨hst,l⟩:=hs;unfold aiS at l;split at l
      ·rename_i n hn;simp only[ι]at l;obtain⟨arr,t',h1,h2,h3⟩:=qZ hI (by rw[hh];exact hc);have h4:=(h2.drop g).take p.size;obtain⟨_,_,s3⟩:=gk h4 l.2;have hsz:((arr.toList.drop g).take p.size).length=p.size:=by
        rw[←h4.length,κ l.1];obtain⟨i,z,q1,q2,q3,q4,_⟩:=tk.ty ty p ht;obtain⟨fs,i',z',f1,f2,f3,f4,f5,f6⟩:=tk.one ty n hn;rw[q1]at f4;injection f4 with f4;subst f4;rw[q3]at f5;injection f5 with f5;subst f5;rw[←f6,←Array.length_toList,q4];exact(dl (w:=c.w) (St:=c.St) p).size
       obtain⟨v,r,f⟩:=cO tk ht c.w ⟨c.blk k,g,none⟩ _ hsz (λj u U=>by
        rw[cH,h3,←U,E'];have hj:j<p.size:=by
         obtain h|h:=T' j p.size
         ·exact h
         ·rw[E',ο Ω]at U;cases U
        rw[β hj,U'])
       have hv':v = .agg ((arr.toList.drop g).take p.size).toArray:=by rw[hst]at f;simpa using f
       subst hv';refine⟨_, ?_,_,rfl,RA.of_chain h4,fD _,s3⟩;simp[jf,e,asAddr,r]
      ·cases l
     ·cases h
   ·cases h
  ·cases h
def iF (g:TabOk P tab)(p:Inv B w0 J c)(j:c.heap=σ.heap)(r:RAs c σ.env a.tmps.toList):∀{f:List ResultVar} {l:List AV},eT tab σ f=some l →
  ∃vs,(f.mapM (jf a.tmps)).run P c.w = .ok vs c.w∧RAs c l vs
 |[],l,h=>by cases h;exact⟨[],Ψ,awN⟩
 |rv::f,l,h=>by
  simp[eT]at h;split at h
  next u us h1 h2=>cases h;obtain⟨v,R,C⟩:=tY g p j r h1;obtain⟨vs,q1,q2⟩:=iF g p j r h2;refine⟨v::vs, ?_,C,q2⟩;rw[arR,ν,R,Θ,ν,q1,Θ];rfl
  ·cases h
def oS (h:RAs c l vs):RA c (oT l) [if h:vs.length=1 then vs[0]else .tuple vs.toArray]:=by
 match l,vs,h with
 |[],[],_=>exact⟨[],Ψ,rfl,rfl⟩
 |[u],[v],⟨g,_⟩=>simpa[oT]using g
 |u::u'::l,v::f::vs,h =>refine⟨v::f::vs,Ψ,RA.of_chain h,fD _⟩
def eK (f:TabOk P tab)(j:Inv B w0 J c)(g:c.heap=σ.heap)(p:RAs c σ.env a.tmps.toList){fn:Func}(h:eT tab σ fn.results.toList=some l) :
  ∃v vs,(results fn a.tmps).run P c.w = .ok v c.w∧RAs c l vs∧v=(if h:vs.length=1 then vs[0]else .tuple vs.toArray):=by
 obtain⟨vs,C,r⟩:=iF f j g p h;refine⟨_,vs, ?_,r,rfl⟩;have e:results fn a.tmps=(do let vs ←fn.results.mapM (jf a.tmps);pure (if h:vs.size=1 then vs[0]else .tuple vs)):=by unfold results;congr 2
 rw[e,t?,ν,asp,ν,C,Θ];simp
structure FiOk (P:Program)(f:FuncId)(x:Fi):Prop where
 fn:∃fn,P.funcs[f]? = some fn∧fn.body=some x.code∧fn.ntmps=x.ntmps∧fn.results.toList=x.results∧(fn.name == "runtime.NumGoroutine")=false
 tab:TabOk P x.S.tab
 aA:SpecsOk P x.S.T
def lR (h:RAs c l vs)(n:Nat):RAs c (l++List.replicate n .unk) (vs++List.replicate n undef) :=
 h.append (EZ Ψ)
def Ed (P:Program)(hs:Hs):Prop:=∀f args j out g,hs f args j=some (true,out,g)→Callable P f ∧
 ∀(B:Bd) (w0:World) (J:Sb) (c:Gh),Inv B w0 J c→c.heap=j→∀vs,RAs c args vs →
  Calls P f vs.toArray c.w λe p=>∃v l,e = .returned v∧l.heap=g∧g.length=j.length∧l.w=p∧Inv B w0 J l∧Ev c l∧RA l out [v]
def kn (hm:P.follows .mixedOrders=true){fi:FuncId→Option Fi}{hs:Hs}{fuel:Nat}(hfi:∀f x,fi f=some x→FiOk P f x)(hhs:Ed P hs):∀d yk Γ,ON P yk Γ→sR P (qE fi hs fuel d yk) Γ
 |d,yk,Γ,T,.yld j,args,g,k,r,h=>T j args g k r (by cases d <;> exact h)
 |0,yk,Γ,T,.fn f,args,g,k,r,h=>by cases h
 |d+1,yk,Γ,T,.fn f,args,g,k,r,h=>by
  simp[qE]at h;split at h
  next b out heap' hsf=>
   cases b with
   |false=>cases h
   |true =>obtain⟨R,h2⟩:=hhs f args g out heap' hsf;refine λfs B w0 J c hI hh vs hr hfs hcx=>⟨R,(h2 B w0 J c hI hh vs hr).mono ?_⟩;rintro e w' ⟨v,C,he,q1,q2,q3,q4,q5,q6⟩;exact⟨v,out,C,he,by rw[q1];exact h,q3,q4,q6,by rw[q1,q2];exact δ _,λfr hfr=>(hfs fr hfr).1.mono q5⟩
  split at h
  next x hx=>
   obtain⟨⟨fn,f1,f2,f3,f4,f5⟩,tk,ts⟩:=hfi f x hx;refine λfs B w0 J c hI hh vs hr hfs hcx=>⟨⟨fn,f1,by simp[f2],f5⟩, ?_⟩;refine callsIn_wide.1 (callsIn_of_wp_marks (F:=RF none) (n:=0) f1 f2 trivial (wpIn_mono (jp hm tk ts ⟨kn hm hfi hhs d yk Γ T,kn hm hfi hhs d⟩ x.code none 0 fs g.length B w0 J r (λ_ e=>by cases e) hcx (.inl rfl) _ _ _ c.w (δ _) h ⟨c,w0,rfl,hh,hI, ?_,sY.none B w0,hfs⟩) λe a w hn=>?_))
   ·have:=lR hr (x.ntmps-args.length);rw[f3];have hlen:=hr.length;simpa[hlen]using this
   ·have fin:∀U,(match eT x.S.tab U x.results with|some l=>k (oT l) U.heap|none=>none)=some r→Rel fs g.length B w0 J U a w∧g.length≤U.heap.length→LeavesInM (RF none) 0 P fn a.tmps (λe w=>∃v' out C,e = .returned v'∧k out C.heap=some r∧C.w=w∧Inv B w0 J C∧RA C out [v']∧g.length≤C.heap.length∧∀fr∈fs,RAs C fr.1 fr.2) a.defers .returning w:=by
     rintro U R ⟨⟨c1,w1,rfl,hh1,p,hE1,⟨hb1,ho1,ms,hms,hnod,hmk⟩,hfs1⟩,hle⟩;rw[hms];refine dS ms c1 w1 p hnod (λD hD=>⟨(hmk D hD).1,p.drawn.keep D _ (hmk D hD).2.2.1 rfl⟩) (λC w2 g1 hI2 hE2 g4 g5 g6=>?_);have hh':C.heap=U.heap:=g1.trans hh1;have hE':=hE1.mono hE2;have ho':Og B.F w0 C.w:=⟨by rw[g5];exact(ho1.trans p.drawn).dr,λk o x y=>by
      rw[g6 k (λhm=>by have:=(hmk k hm).2.1;have:=(θ.1 x).1;omega)];exact(ho1.trans p.drawn).keep k o x y,λk f=>by
      rw[g6 k (λhm=>(hmk k hm).2.2.2 f)];exact(ho1.trans p.drawn).kb k f⟩
     have hI':Inv B w0 J C:=hI2.base ((hb1.trans p.below).trans g4) ho';split at R
     next l hl=>rw[←f4]at hl;obtain⟨v,vs',q1,q2,q3⟩:=eK tk hI' hh' hE' hl;exact⟨v,q1,v,oT l,C,rfl,by rw[hh'];exact R,rfl,hI',by rw[q3];exact oS q2,by rw[hh'];exact hle,λfr hfr=>(hfs1 fr hfr).1.mono hE2⟩
     ·cases R
    cases e with
    |normal=>obtain⟨U,R,h2⟩:=hn;exact fin U R h2
    |ret=>obtain⟨U,R,h2⟩:=hn;exact fin U R h2
    |exit id=>obtain⟨U,R,_⟩:=hn;cases R
    |goto l=>exact hn.elim
    |panic ch=>exact hn.elim
    |outgrown=>exact hn.elim
  ·cases h
def Hm (l:P.follows .mixedOrders=true)(j:∀f x,fi f=some x→FiOk P f x)(g:Ed P hs)(d:Nat):CkOk P (aL fi hs fuel d) [] :=
 ⟨kn l j g d noY [] (λ_ _ _ _ _ h=>by cases h),kn l j g d⟩
def eu (R:Inv B w0 J c)(p:c.St.le St')(T:∀k b o t e v l,c.heap[k]? = some (.mrow t e v l)→(c.rv k).ownBlock=some b→St' b o){t:Ty}{x:t.den}(h:GJ c.heap t u=some x)(r:RA c u [v]):RepV c.w St' t x v:=by
 have plain:∀{t:Ty} {u:AV} {x:t.den},one? t u=some x→RA c u [v]→RepV c.w St' t x v:=λh r=>(one?_sound h r).mono p (λ_ _ _ _ x=>x);unfold GJ at h;split at h
 next k ver lo hi=>
  split at h
  next τ=>
   split at h
   ·rename_i C e v' l j;split at h
    ·rename_i q1;subst q1;split at h
     next l2 hc=>obtain⟨U,g⟩:=cast?_some hc;cases U;have g:l2=l:=g;subst g;cases h;have f:=dK r j;obtain⟨xs,m1,m2,m3⟩:=R.mrow k _ _ _ _ j;exact(repv_cell rfl).2 (N0 (B:=B) (e:=e) (xs:=xs) m1 (m2.mono p (λ_ _ _ _ x=>x)) (λb o P=>T k b o _ _ _ _ j P) f)
     ·cases h
    ·cases h
   ·cases h
  ·cases h
 ·exact plain h r
def yT (f:Inv B w0 J c){St':Sb}(j:c.St.le St')(g:∀k b o t e v l,c.heap[k]? = some (.mrow t e v l)→(c.rv k).ownBlock=some b→St' b o):∀{t:Ty} {l:List AV} {x:t.den} {vs:List Value},abz c.heap t l=some x→RAs c l vs→Rep c.w St' (toD t x) vs
 |.int k,[a],x,[v],h,r=>(repv_cell rfl).1 (eu f j g h r.1)
 |.bool,[a],x,[v],h,r=>(repv_cell rfl).1 (eu f j g h r.1)
 |.str,[a],x,[v],h,r=>(repv_cell rfl).1 (eu f j g h r.1)
 |.slice t,[a],x,[v],h,r=>(repv_cell rfl).1 (eu f j g h r.1)
 |.unit,[],x,[],h,r=>rfl
 |.cons a b,l,x,vs,h,r=>by
  simp[abz]at h;split at h
  next y z U T=>have:x=(y,z):=(χ h).symm;subst this;exact⟨_,_,(W_ a.size vs).symm,yT f j g U (r.take _),yT f j g T (r.drop _)⟩
  ·cases h
 |.tree,[a,b,d,e],x,[P,C,p,v4],h,r=>by
  simp[abz]at h;split at h
  next k t ls ks q1 q2 R q4=>have:x=Tree.mk k t ls ks:=(χ h).symm;subst this;obtain⟨r1,r2,r3,r4,_⟩:=r;refine⟨[P],[C,p,v4],rfl,(repv_cell rfl).1 (eu f j g q1 r1),[C],[p,v4],rfl,(repv_cell rfl).1 (eu f j g q2 r2),[p],[v4],rfl,(repv_cell rfl).1 (eu f j g R r3),[v4],[],rfl, ?_,rfl⟩;rw[i9];exact(repv_cell rfl).1 (eu f j g q4 r4)
  ·cases h
def V3 (f:Inv B w0 J c)(j:c.St.le St')(g:∀k b o t e v l,c.heap[k]? = some (.mrow t e v l)→(c.rv k).ownBlock=some b→St' b o){t:Ty}{x:t.den}(h:akj c.heap t u=some x)(r:RA c u [v]):RepV c.w St' t x v:=by
 cases u with
 |agg p=>
  simp only[akj]at h;split at h
  next hs=>obtain⟨R,e,C,P,_⟩:=r;simp at e;subst e;unfold RepV;rw[β hs];exact⟨R,rfl,yT f j g h (C.parts P)⟩
  ·cases h
 |_=>simp[akj]at h;exact eu f j g h r
def Il (j:Inv B w0 J c){St':Sb}(C:c.St.le St')(p:∀k b o t e v l,c.heap[k]? = some (.mrow t e v l)→(c.rv k).ownBlock=some b→St' b o):∀{g:List Ty} {l f:List AV} {vs:List Value},ae4 c.heap g l=some f→RAs c l vs→RAs (aX c.w St') f vs
 |[],[],f,[],h,_=>by cases h;trivial
 |t::g,u::l,f,v::vs,h,⟨r,P⟩=>by
  simp[ae4]at h;split at h
  next x r' R hr'=>cases h;exact⟨⟨v,rfl,V3 j C p R r⟩,Il j C p hr' P⟩
  ·cases h
def yU {w:World}{St:Sb}:∀{f:List ((t:Ty)×t.den)} {vs:List Value},RepVs w St f vs→RAs (aX w St) (f.map λd=>.val d.1 d.2) vs
 |[],[],_=>trivial
 |_::_,v::_,⟨h,hs⟩=>⟨⟨v,rfl,h⟩,yU hs⟩
def Jl (hm:P.follows .mixedOrders=true)(hfi:∀f x,fi f=some x→FiOk P f x)(hhs:Ed P hs){d:Nat}(hx:FiOk P f x)
  (h:exec (aL fi hs fuel d) x.S 0 fuel x.code ⟨args++List.replicate (x.ntmps-args.length) .unk,[]⟩ (br x.S.tab x.results tys)=some res):Callable P f∧∀w St,(∀b e cap n,¬St.j b e cap n)→(∀b o,St b o→b<w.heap.size)→∀vs,RAs (aX w St) args vs→Calls P f vs.toArray w (I0 w St res):=by
 obtain⟨⟨fn,f1,f2,f3,f4,f5⟩,tk,ts⟩:=hx;refine⟨⟨fn,f1,by simp[f2],f5⟩,λw St hJ hb vs hr=>?_⟩;have hI:Inv ⟨w.heap.size,λ_=>False⟩ w St (aX w St):=⟨Below.refl _ _,δ _,hb,Sb.le.refl _,λ_ _ x=>.inl x,λk cells C=>by simp[aX]at C,λk t e v C=>by simp[aX]at C,λk k' b _ C=>by simp[obk,aX]at C,λk t e v l C=>by simp[aX]at C,Og.refl _,λ_ _ _ f=>f,λ_ f=>f.elim,hJ,λ_ _ _ _ x=>.inl x⟩;have hrs:=hr;refine callsIn_wide.1 (callsIn_of_wp_marks (F:=RF none) (n:=0) f1 f2 trivial (wpIn_mono (jp hm tk ts (Hm hm hfi hhs d) x.code none 0 [] 0 ⟨w.heap.size,λ_=>False⟩ w St res (λ_ e=>by cases e) (λ_ h=>by cases h) (.inl rfl) _ _ _ w (s_ _) h ⟨aX w St,w,rfl,rfl,hI, ?_,sY.none _ _,λ_ hfr=>by cases hfr⟩) λe a w' T=>?_))
 ·have:=lR hrs (x.ntmps-args.length);rw[f3];have hlen:=hrs.length;simpa[hlen]using this
 ·have fin:∀U,(match eT x.S.tab U x.results with|some l=>(match ae4 U.heap tys l with|some l=>some (oT l)|none=>none)|none=>none)=some res→Rel [] 0 ⟨w.heap.size,λ_=>False⟩ w St U a w'∧0≤U.heap.length→LeavesInM (RF none) 0 P fn a.tmps (I0 w St res) a.defers .returning w':=by
   rintro U r ⟨⟨c1,w1,rfl,hh1,p,hE1,⟨hb1,R,ms,hms,hnod,J⟩,_⟩,_⟩;rw[hms];refine dS ms c1 w1 p hnod (λD hD=>⟨(J D hD).1,p.drawn.keep D _ (J D hD).2.2.1 rfl⟩) (λc' w2 g1 hI2 hE2 g4 g5 g6=>?_);have hh':c'.heap=U.heap:=g1.trans hh1;have hE':=hE1.mono hE2;have ho':Og (λ_=>False) w c'.w:=⟨by rw[g5];exact(R.trans p.drawn).dr,λk o x y=>by
    rw[g6 k (λhm=>by have:=(J k hm).2.1;have:=(θ.1 x).1;omega)];exact(R.trans p.drawn).keep k o x y,λk f=>by
    rw[g6 k (λhm=>(J k hm).2.2.2 f)];exact(R.trans p.drawn).kb k f⟩
   have g:Inv ⟨w.heap.size,λ_=>False⟩ w St c':=hI2.base ((hb1.trans p.below).trans g4) ho';split at r
   ·rename_i l hl;rw[←f4]at hl;obtain⟨v,vs',q1,q2,q3⟩:=eK tk g hh' hE' hl;split at r
    ·rename_i l' hl';cases r;rw[←hh']at hl';let Q:Nat→Prop:=λb=>∃e cap n,c'.St.j b e cap n∧Jk ⟨w.heap.size,λ_=>False⟩ c' b e cap n;let S2:Sb:=⟨λb o=>c'.St b o∨((w.heap.size≤b∧b<c'.w.heap.size)∧¬Q b),c'.St.j⟩;refine⟨v,q1,v,S2,rfl,g.below,g.drawn.dr,⟨λb o x=>.inl (g.st0.s b o x),g.st0.j⟩,λb o x=>?_,λb e cap n x=>?_,by rw[q3];exact oS (Il g (St':=S2) ⟨λ_ _ x=>.inl x,λ_ _ _ _ x=>x⟩ (λk b o t e v l C hb=>Or.inr ⟨by obtain⟨xs,m1,_⟩:=g.mrow k t e v l C;exact m1.lt b hb,λ⟨_,_,_,_,q⟩=>q.own k (by unfold obk;rw[C];exact hb)⟩) hl' q2)⟩
     rotate_left 1
     ·refine(g.junk b e cap n x).imp id λq=>⟨q.lo,q.le,q.cells,λo y=>?_⟩;obtain y|y:=y
      ·exact q.free o y
      ·exact y.2 ⟨e,cap,n,x,q⟩
     obtain x|⟨x,_⟩:=x
     ·obtain y|y:=g.stN b o x
      ·exact .inl y
      ·exact .inr ⟨y.1,g.bnd b o x⟩
     ·exact .inr x
    ·cases r
   ·cases r
  cases e with
  |normal=>obtain⟨U,r,h2⟩:=T;exact fin U r h2
  |ret=>obtain⟨U,r,h2⟩:=T;exact fin U r h2
  |exit id=>obtain⟨U,r,_⟩:=T;cases r
  |goto l=>exact T.elim
  |panic ch=>exact T.elim
  |outgrown=>exact T.elim
def eM (hm:P.follows .mixedOrders=true)(p:∀f x,fi f=some x→FiOk P f x)(l:Ed P hs){d:Nat}(U:FiOk P f x)
  (h:eF fi hs d x tys fuel args=some res):Callable P f∧∀w St,(∀b o,St b o→b<w.heap.size)→∀vs,RAs (aX w St) args vs→Calls P f vs.toArray w (I0 w St res):=by
 unfold eF at h;split at h
 next g=>
  obtain⟨h1,h2⟩:=Jl hm p l U h;refine⟨h1,λw St hb vs hr=>(h2 w { s:=St.s } (λ_ _ _ _ f=>f) hb vs (RAs.nj (c:=aX w St) (c':=aX w { s:=St.s }) rfl rfl rfl rfl rfl (λ_ _ x=>x) g hr)).mono ?_⟩;rintro e r ⟨v,St',e1,q1,q2,T,R,J,C⟩;refine⟨v,⟨St'.s,λb e cap n=>St'.j b e cap n∨St.j b e cap n⟩,e1,q1,q2,⟨T.s,λ_ _ _ _ x=>.inr x⟩,R,λb e cap n x=>?_,C.mono (Sk (St:=St') (c':=aX r ⟨St'.s,λb e cap n=>St'.j b e cap n∨St.j b e cap n⟩) ⟨λ_ _ x=>x,λ_ _ _ _ x=>.inl x⟩)⟩;obtain x|x:=x
  ·have q:=(J b e cap n x).resolve_left λf=>f;exact .inr ⟨q.lo,q.le,q.cells,q.free⟩
  ·exact .inl x
 ·cases h
def aC (r:P.follows .mixedOrders=true)(j:∀f x,fi f=some x→FiOk P f x)(g:Ed P hs){d:Nat}(l:FiOk P f x){ds:List ((t:Ty)×t.den)}
  (h:eF fi hs d x tys fuel (ds.map λd=>.val d.1 d.2)=some res):MeetsD P f ds res :=
 let ⟨R,J⟩:=eM r j g l h
 ⟨R,λw St C vs p=>J w St C vs (yU p)⟩
end
def veq:Value→Value→Bool
 |.int k n,.int j g=>decide (k=j)&&decide (n=g)
 |.bool b,.bool l=>decide (b=l)
 |.string s,.string f=>decide (s.data.toList=f.data.toList)
 |.slice none 0 0,.slice none 0 0=>true
 |_,_=>false
def alG {a b:Value}(h:veq a b=true):a=b:=by
 unfold veq at h;split at h
 ·simp only[ι,Δ]at h;obtain⟨rfl,rfl⟩:=h;rfl
 ·simp only[Δ]at h;subst h;rfl
 next s s'=>simp only[Δ]at h;obtain⟨⟨l⟩⟩:=s;obtain⟨⟨f⟩⟩:=s';simp only at h;subst h;rfl
 ·rfl
 ·cases h
def agH:List Value→List Value→Bool
 |[],[]=>true
 |a::l,b::m=>veq a b&&agH l m
 |_,_=>false
def Wy:∀{l m:List Value},agH l m=true→l=m
 |[],[],_=>rfl
 |a::l,b::m,h=>by simp[agH]at h;rw[alG h.1,Wy h.2]
def akE (ty:TypeId→Option Ty):List Field→List Ty→Nat→Bool
 |[],[],_=>true
 |f::fs,a::as,off=>(match ty f.type with|some b=>decide (b.size=a.size)&&decide (b.isStruct=a.isStruct)&&(!a.nojk||decide (b=a))|none=>false)&&decide (f.offset=off)&&decide (0<a.size)&&decide (f.name ≠ "_")&&akE ty fs as (off+a.size)
 |_,_,_=>false
def Yn {p:TypeId→Option Ty}:∀{j:List Field} {l:List Ty} {g:Nat},akE p j l g=true→FOk p j l g
 |[],[],_,_=>trivial
 |f::j,a::l,g,h=>by
  simp[akE]at h;refine⟨?_,h.1.1.1.2,h.1.1.2,h.1.2,Yn h.2⟩;have q:=h.1.1.1.1;split at q
  next b C=>simp at q;refine⟨b,C,q.1.1,q.1.2,λr=>?_⟩;have:=q.2;rw[r]at this;simpa using this
  ·cases q
def aoH (P:Program)(f:Tab)(t:TypeId)(g:Ty):TypeDesc→Bool
 |.int k=>decide (g = .int k)
 |.bool=>decide (g = .bool)
 |.string=>decide (g = .str)
 |.slice e=>match g with
  |.slice a=>decide (f.ty e=some a)&&decide (f.elem t=some e)&&decide (0<a.size)
  |.jsl l=>decide (l=e)&&decide (f.elem t=some e)&&(match f.ty e with|some a=>decide (a.size=1)|none=>false)
  |_=>false
 |.struct j=>g.isStruct && !P.stoodInHeld t && !P.eqGuardType P.depth t&&akE f.ty j.toList g.fields 0
 |_=>false
def Jz (P:Program)(g:Tab)(t:TypeId)(f:Ty):Bool :=
 match P.info? t,P.underlying t with
 |some i,some d=>decide (i.size=f.size)&&decide (i.bytes≤16384)&&(match i.zero with|some z=>agH z.cells.toList (zl f)&&(!f.isStruct||(match z with|.agg _=>true|_=>false))|none=>false)&&aoH P g t f d
 |_,_=>false
variable{P:Program}{t:TypeId}{n:Nat}{a b:Ty}{f:FuncId}
def akC {j:Tab}{g:Ty}(h:Jz P j t g=true):∃i z,P.info? t=some i∧i.size=g.size∧i.zero=some z∧z.cells.toList=zl g∧i.bytes≤16384∧(g.isStruct=true→∃cs,z = .agg cs)∧Yz P j t g:=by
 unfold Jz at h;split at h
 next i d hi l=>
  simp at h;obtain⟨⟨⟨h1,h2⟩,p⟩,f⟩:=h;split at p
  next z U=>
   simp at p;refine⟨i,z,hi,h1,U,Wy p.1,h2,λR=>?_, ?_⟩
   ·have:=p.2;rw[R]at this;simp at this;split at this
    ·exact⟨_,rfl⟩
    ·cases this
   ·unfold aoH at f;split at f
    ·have:=f_ f;subst this;exact l
    ·have:=f_ f;subst this;exact l
    ·have:=f_ f;subst this;exact l
    ·split at f
     next e J a=>simp at f;exact⟨_,l,f.1.1,f.1.2,f.2⟩
     ·rename_i e J e';simp at f;obtain⟨⟨rfl,q1⟩,q2⟩:=f;split at q2
      next a T=>exact⟨a,l,T,f_ q2,q1⟩
      ·cases q2
     ·cases f
    next C=>simp at f;have r:∃C,P.underlying t=some (.struct C)∧P.stoodInHeld t=false∧P.eqGuardType P.depth t=false∧FOk j.ty C.toList g.fields 0:=⟨C,l,f.1.1.2,f.1.2,Yn f.2⟩;have R:=f.1.1.1;cases g <;> simp[Ty.isStruct]at R <;> exact r
    ·cases f
  ·cases p
 ·cases h
def anz (P:Program)(f:Tab)(t:TypeId)(n:Nat):Bool :=
 match P.info? t,P.underlying t with
 |some i,some d=>decide (i.size=n)&&(match i.zero with|some z=>decide (z.cells.size=n)|none=>false)&&((f.ty t).isSome || !decide (n=1)||ug d)
 |_,_=>false
def akF {f:Tab}(h:anz P f t n=true):∃i z d,P.info? t=some i∧i.size=n∧i.zero=some z∧z.cells.size=n∧P.underlying t=some d∧(f.ty t=none→n=1→ug d=true):=by
 unfold anz at h;split at h
 next i d r C=>
  simp at h;obtain⟨⟨J,g⟩,h3⟩:=h;split at g
  next z l=>refine⟨i,z,d,r,J,l,f_ g,C,λp j=>?_⟩;simpa[p,j]using h3
  ·cases g
 ·cases h
def anx (P:Program)(t:TypeId)(i d:Nat):Bool :=
 match P.underlying t with
 |some (.struct fs)=>match fs[i]? with
  |some f=>decide (f.offset=d)&&(match P.info? f.type with|some j=>decide (0<j.size)|none=>false)
  |none=>false
 |_=>false
def akD {i d:Nat}(h:anx P t i d=true):∃g f j,P.underlying t=some (.struct g)∧g[i]? = some f∧f.offset=d∧P.info? f.type=some j∧0<j.size:=by
 unfold anx at h;split at h
 next g p=>
  split at h
  next f C=>
   simp at h;obtain⟨J,l⟩:=h;split at l
   next j r=>exact⟨g,f,j,p,C,J,r,f_ l⟩
   ·cases l
  ·cases h
 ·cases h
def anB (P:Program)(t:TypeId)(n:Nat):Bool :=
 match P.underlying t,P.info? t with
 |some (.struct fs),some i=>Nat.beq fs.size n&&(List.range n).all (λk=>match fs[k]? with|some f=>Nat.beq f.offset k&&(match P.info? f.type with|some j=>Nat.beq j.size 1|none=>false)|none=>false)&&(match i.zero with|some z=>Nat.beq z.cells.size n|none=>false)
 |_,_=>false
def akH (h:anB P t n=true):∃g i z,P.underlying t=some (.struct g)∧g.size=n∧(∀(k:Nat) f,g[k]? = some f→f.offset=k∧∃j,P.info? f.type=some j∧j.size=1)∧P.info? t=some i∧i.zero=some z∧z.cells.size=n:=by
 unfold anB at h;split at h
 next g i R hi=>
  simp only[ι,d_,S_]at h;obtain⟨⟨l,h2⟩,r⟩:=h;have l:=κ l;split at r
  next z J=>
   refine⟨g,i,z,R,l,λk f C=>?_,hi,J,κ r⟩;have T:k<n:=by rw[←l];exact(θ.1 C).1
   have:=h2 k T;rw[C]at this;simp only[ι]at this;refine⟨κ this.1, ?_⟩;have p:=this.2;split at p
   next j U=>exact⟨j,U,κ p⟩
   ·cases p
  ·cases r
 ·cases h
def anA (P:Program)(t:TypeId)(n:Nat):Bool :=
 match P.underlying t,P.info? t with
 |some (.array m e),some i=>Nat.beq m n&&(match P.info? e with|some j=>Nat.beq j.size 1|none=>false)&&(match i.zero with|some z=>Nat.beq z.cells.size n|none=>false)
 |_,_=>false
def akG (h:anA P t n=true):∃e i z j,P.underlying t=some (.array n e)∧P.info? e=some j∧j.size=1∧P.info? t=some i∧i.zero=some z∧z.cells.size=n:=by
 unfold anA at h;split at h
 next m e i r J=>
  simp only[ι]at h;obtain⟨⟨l,g⟩,f⟩:=h;have l:=κ l;split at g
  next j C=>
   split at f
   next z p=>exact⟨e,i,z,j,by rw[r,l],C,κ g,J,p,κ f⟩
   ·cases f
  ·cases g
 ·cases h
structure TabL where
 ty:List (TypeId×Ty)
 cells:List (TypeId×Nat)
 offs:List ((TypeId×Nat)×Nat)
 elem:List (TypeId×TypeId)
 one:List (TypeId×Nat)
 inp:List Nat:=[]
 arr:List (TypeId×Nat):=[]
def look {f:Type}:List (Nat×f)→Nat→Option f
 |[],_=>none
 |(k,v)::r,i=>match Nat.beq k i with
  |true=>some v
  |false=>look r i
def XF:List ((Nat×Nat)×Nat)→Nat→Nat→Option Nat
 |[],_,_=>none
 |((k,j),v)::r,i,q=>match Nat.beq k i&&Nat.beq j q with
  |true=>some v
  |false=>XF r i q
def iO {f:Type}:∀{l:List (Nat×f)} {i:Nat} {v:f},look l i=some v→(i,v)∈l
 |[],_,_,h=>by cases h
 |(k,u)::r,i,v,h=>by
  simp[look]at h;split at h
  next hb=>have:=κ hb;simp at h;subst this;subst h;simp
  ·exact C' _ (iO h)
def KW:∀{l:List ((Nat×Nat)×Nat)} {i q v:Nat},XF l i q=some v→((i,q),v)∈l
 |[],_,_,_,h=>by cases h
 |((k,j),u)::r,i,q,v,h=>by
  simp[XF]at h;split at h
  next hb=>simp only[ι]at hb;have g:=κ hb.1;have f:=κ hb.2;simp at h;subst g;subst f;subst h;simp
  ·exact C' _ (KW h)
def TabL.tab (l:TabL):Tab:=⟨look l.ty,look l.cells,XF l.offs,look l.elem,look l.one,λt=>l.inp.any (Nat.beq t),look l.arr⟩
def TabL.chk (P:Program)(l:TabL):Bool :=
 l.ty.all (λp=>Jz P l.tab p.1 p.2)&&l.cells.all (λp=>anz P l.tab p.1 p.2)&&l.offs.all (λp=>anx P p.1.1 p.1.2 p.2)&&l.elem.all (λp=>match P.underlying p.1 with|some (.slice e)=>Nat.beq e p.2|_=>false)&&l.one.all (λp=>anB P p.1 p.2)&&l.arr.all (λp=>anA P p.1 p.2)
def TabL.ok {l:TabL}(h:l.chk P=true):TabOk P l.tab:=by
 simp only[TabL.chk,ι,d_]at h;obtain⟨⟨⟨⟨⟨J,C⟩,r⟩,h4⟩,p⟩,j⟩:=h;refine⟨λt g f=>akC (J (t,g) (iO f)),λt n f=>akF (C (t,n) (iO f)),λt i d f=>akD (r ((t,i),d) (KW f)),λt e f=>?_,λt n f=>akH (p (t,n) (iO f)),λt n f=>akG (j (t,n) (iO f))⟩;have:=h4 (t,e) (iO f);simp only at this;split at this
 next e' hu=>rw[hu,κ this]
 ·cases this
abbrev Ent:=List AV→Option (Bool×AV)
def sp0 (R:AV):Ent:=λargs=>match args with|[]=>some (true,R)|_=>none
def sp1 (a:Ty)(G:a.den→Bool)(R:a.den→AV):Ent:=λargs=>match args with
 |[x]=>match dat? a x with|some x=>some (G x,R x)|none=>none
 |_=>none
def sp2 (a b:Ty)(G:a.den→b.den→Bool)(R:a.den→b.den→AV):Ent:=λargs=>match args with
 |[x,y]=>match dat? a x,dat? b y with|some x,some y=>some (G x y,R x y)|_,_=>none
 |_=>none
def sp3 (a b c:Ty)(G:a.den→b.den→c.den→Bool)(R:a.den→b.den→c.den→AV):Ent:=λargs=>match args with
 |[x,y,z]=>match dat? a x,dat? b y,dat? c z with|some x,some y,some z=>some (G x y z,R x y z)|_,_,_=>none
 |_=>none
def sp4 (a b c d:Ty)(G:a.den→b.den→c.den→d.den→Bool)(R:a.den→b.den→c.den→d.den→AV):Ent:=λargs=>match args with
 |[x,y,z,u]=>match dat? a x,dat? b y,dat? c z,dat? d u with|some x,some y,some z,some u=>some (G x y z u,R x y z u)|_,_,_,_=>none
 |_=>none
def am (P:Program)(f:FuncId)(e:Ent):Prop:=∀args res,e args=some (true,res)→I1 P f args res
def d7 {G:a.den→Bool}{R:a.den→AV}(h:∀x,G x=true→MeetsD P f [⟨a,x⟩] (R x)):am P f (sp1 a G R):=λargs res g=>by
 unfold sp1 at g;split at g
 ·split at g
  next x j=>simp at g;obtain⟨l,rfl⟩:=g;exact qG (ds:=[⟨a,x⟩]) ⟨j,awN⟩ (h x l)
  ·cases g
 ·cases g
def yg {G:a.den→b.den→Bool}{R:a.den→b.den→AV}(h:∀x y,G x y=true→MeetsD P f [⟨a,x⟩,⟨b,y⟩] (R x y)):am P f (sp2 a b G R):=λargs res g=>by
 unfold sp2 at g;split at g
 ·split at g
  next x y l j=>simp at g;obtain⟨p,rfl⟩:=g;exact qG (ds:=[⟨a,x⟩,⟨b,y⟩]) ⟨l,j,awN⟩ (h x y p)
  ·cases g
 ·cases g
def acz {c:Ty}{G:a.den→b.den→c.den→Bool}{R:a.den→b.den→c.den→AV}(h:∀x y z,G x y z=true→MeetsD P f [⟨a,x⟩,⟨b,y⟩,⟨c,z⟩] (R x y z)):am P f (sp3 a b c G R):=λargs res g=>by
 unfold sp3 at g;split at g
 ·split at g
  next x y z p l j=>simp at g;obtain⟨r,rfl⟩:=g;exact qG (ds:=[⟨a,x⟩,⟨b,y⟩,⟨c,z⟩]) ⟨p,l,j,awN⟩ (h x y z r)
  ·cases g
 ·cases g
def acy {c d:Ty}{G:a.den→b.den→c.den→d.den→Bool}{R:a.den→b.den→c.den→d.den→AV}(h:∀x y z u,G x y z u=true→MeetsD P f [⟨a,x⟩,⟨b,y⟩,⟨c,z⟩,⟨d,u⟩] (R x y z u)):am P f (sp4 a b c d G R):=λargs res g=>by
 unfold sp4 at g;split at g
 ·split at g
  next x y z u p l j r=>simp at g;obtain⟨C,rfl⟩:=g;exact qG (ds:=[⟨a,x⟩,⟨b,y⟩,⟨c,z⟩,⟨d,u⟩]) ⟨p,l,j,r,awN⟩ (h x y z u C)
  ·cases g
 ·cases g
def agZ (g:FuncId)(a b:Ty)(G:a.den→b.den→Bool)(R:a.den→b.den→AV):Ent:=λargs=>match args with
 |[x,y,.fn g' .pnil]=>match Nat.beq g g' with
  |true=>match dat? a x,dat? b y with|some x,some y=>some (G x y,R x y)|_,_=>none
  |false=>none
 |_=>none
def EL {c r:Gh}{g:FuncId}{j:List Value}(h:RA c (.fn g .pnil) j):RA r (.fn g .pnil) j:=by obtain⟨p,e,f,l⟩:=h;exact⟨p,e,f,l⟩
def WL {g:FuncId}{G:a.den→b.den→Bool}{R:a.den→b.den→AV}
  (h:∀x y,G x y=true→Callable P f∧∀w St,(∀b o,St b o→b<w.heap.size)→∀l,RAs (aX w St) [.val a x,.val b y,.fn g .pnil] l→Calls P f l.toArray w (I0 w St (R x y))):am P f (agZ g a b G R):=λargs res j=>by
 unfold agZ at j;split at j
 next x0 y0 g'=>
  split at j
  next p=>
   have p:=κ p;subst p;split at j
   ·rename_i x y hx U;simp at j;obtain⟨h1,rfl⟩:=j;obtain⟨T,J⟩:=h x y h1;refine⟨λw St l=>RAs (aX w St) [.val a x,.val b y,.fn g .pnil] l,λc l hr=>?_,T,J⟩;match l,hr with
    |[C,r,v3],⟨r1,r2,r3,_⟩=>exact⟨⟨C,rfl,(dat?_sound (c:=c) hx r1:RepV c.w c.St a x C)⟩,⟨r,rfl,(dat?_sound (c:=c) U r2:RepV c.w c.St b y r)⟩,EL r3,awN⟩
   ·cases j
  ·cases j
 ·cases j
def OA (l:List (Nat×Ent))(f:FuncId)(args:List AV):Option (Bool×AV):=match look l f with
 |some e=>e args
 |none=>none
def aA (l:List (Nat×Ent)):Specs:={ call:=OA l }
abbrev Rnt:=List AV→List AV→Option (Bool×AV)
def ama (l:List (Nat×Rnt))(f:FuncId)(cells aQ:List AV):Option (Bool×AV):=match look l f with
 |some e=>e cells aQ
 |none=>none
abbrev Bnt:=List AV→List AV→Option (Bool×List AV×AV)
def anR (l:List (Nat×Bnt))(f:FuncId)(cells aQ:List AV):Option (Bool×List AV×AV):=match look l f with
 |some e=>e cells aQ
 |none=>none
def TY (l:List (Nat×Ent))(p:List (Nat×Rnt))(j:List (Nat×Bnt))(g:List (Nat×Rw))(r:List (Nat×Nw)):Specs:={ call:=OA l,rd:=ama p,wr:=λf=>(look j f).isSome||(look g f).isSome,bx:=anR j,rb:=look g,nw:=look r }
def aK (P:Program):List (Nat×Ent)→Prop
 |[]=>True
 |(f,e)::r=>am P f e∧aK P r
def bI:Ed P hs0:=λ_ _ _ _ _ h=>by cases h
def alC (P:Program)(f:FuncId)(e:Rnt):Prop:=∀cells aQ res,e cells aQ=some (true,res)→YB P f cells aQ res
def ald (P:Program):List (Nat×Rnt)→Prop
 |[]=>True
 |(f,e)::r=>alC P f e∧ald P r
def ahx {l:List (Nat×Rnt)}(h:ald P l):∀f cells aQ res,ama l f cells aQ=some (true,res)→YB P f cells aQ res:=λf cells aQ res j=>by
 unfold ama at j;split at j
 next e hl=>
  have:∀{l:List (Nat×Rnt)},ald P l→look l f=some e→alC P f e:=by
   intro l;induction l with
   |nil=>intro _ h;cases h
   |cons p r J=>
    obtain⟨k,R⟩:=p;intro C g;simp[look]at g;split at g
    next hb=>have:=κ hb;simp at g;subst this;subst g;exact C.1
    ·exact J C.2 g
  exact this h hl cells aQ res j
 ·cases j
variable{l:List (Nat×Ent)}
def LP (h:aK P l):∀f args res,OA l f args=some (true,res)→I1 P f args res:=λf args res j=>by
 unfold OA at j;split at j
 next e hl=>
  have:∀{l:List (Nat×Ent)},aK P l→look l f=some e→am P f e:=by
   intro l;induction l with
   |nil=>intro _ h;cases h
   |cons p r J=>
    obtain⟨k,R⟩:=p;intro C g;simp[look]at g;split at g
    next hb=>have:=κ hb;simp at g;subst this;subst g;exact C.1
    ·exact J C.2 g
  exact this h hl args res j
 ·cases j
def ah (h:aK P l):SpecsOk P (aA l):=⟨LP h,(λ_ _ _ _ h=>by cases h),(λ_ _ _ _ _ h=>by cases h),(λ_ _ h=>by cases h),(λ_ _ h=>by cases h)⟩
def alF (P:Program)(f:FuncId)(e:Bnt):Prop:=∀cells aQ g res,e cells aQ=some (true,g,res)→YA P f cells aQ g res
def alf (P:Program):List (Nat×Bnt)→Prop
 |[]=>True
 |(f,e)::r=>alF P f e∧alf P r
def akV {l:List (Nat×Bnt)}(h:alf P l):∀f cells aQ g res,anR l f cells aQ=some (true,g,res)→YA P f cells aQ g res:=λf cells aQ g res C=>by
 unfold anR at C;split at C
 next e hl=>
  have:∀{l:List (Nat×Bnt)},alf P l→look l f=some e→alF P f e:=by
   intro l;induction l with
   |nil=>intro _ h;cases h
   |cons p r R=>
    obtain⟨k,T⟩:=p;intro J j;simp[look]at j;split at j
    next hb=>have:=κ hb;simp at j;subst this;subst j;exact J.1
    ·exact R J.2 j
  exact this h hl cells aQ g res C
 ·cases C
def aoT (P:Program)(f:FuncId)(q:Rw):Prop:=∀l aQ g,q.F l aQ=some (true,g)→ak9 P f q.t q.e l aQ g
def an5 (P:Program):List (Nat×Rw)→Prop
 |[]=>True
 |(f,q)::r=>aoT P f q∧an5 P r
def Ro {P:Program}{f:FuncId}{q:Rw}:∀{l:List (Nat×Rw)},an5 P l→look l f=some q→aoT P f q
 |[],_,h=>by cases h
 |(k,e')::r,ha,hlk=>by
  simp[look]at hlk;split at hlk
  next hb=>have:=κ hb;simp at hlk;subst this;subst hlk;exact ha.1
  ·exact Ro ha.2 hlk
def Wp (P:Program)(f:FuncId)(q:Nw):Prop:=∀args g,q.F args=some (true,g)→an1 P f q.t q.e args g
def an6 (P:Program):List (Nat×Nw)→Prop
 |[]=>True
 |(f,q)::r=>Wp P f q∧an6 P r
def Rp {P:Program}{f:FuncId}{q:Nw}:∀{l:List (Nat×Nw)},an6 P l→look l f=some q→Wp P f q
 |[],_,h=>by cases h
 |(k,e')::r,ha,hlk=>by
  simp[look]at hlk;split at hlk
  next hb=>have:=κ hb;simp at hlk;subst this;subst hlk;exact ha.1
  ·exact Rp ha.2 hlk
def Ka {j:List (Nat×Rnt)}{r:List (Nat×Bnt)}{g:List (Nat×Rw)}{p:List (Nat×Nw)}(h:aK P l)(J:ald P j)(T:alf P r)(C:an5 P g)(R:an6 P p):SpecsOk P (TY l j r g p):=⟨LP h,ahx J,akV T,λ_ _ f=>Ro C f,λ_ _ f=>Rp R f⟩
abbrev Wq:=List AV→List HO→Option (Bool×AV×List HO)
def amZ (l:List (Nat×Wq)):Hs:=λf args g=>match look l f with
 |some h=>h args g
 |none=>none
def gW {f:Type}(cmp:f→f→Int)(l:List f):List f:=l.mergeSort λa b=>decide (cmp a b≤0)
def acC (j:Ty)(e:TypeId)(g:FuncId)(cmp:j.den→j.den→Int)(p:j.den→Bool):Wq:=λargs f=>match args with
 |[.msl k v lo hi,.fn g' .pnil]=>match Nat.beq g g' with
  |true=>match f[k]? with
   |some (.mrow τ' e' v' l)=>if v'=v then if e'=e then match cast? (.slice τ') (.slice j) l with
     |some l=>some (decide (l.length≤LIM)&&l.all p,.tup .pnil,f.set k (.mrow j e v (l.take lo++gW cmp ((l.take hi).drop lo)++l.drop hi)))
     |none=>none
    else none else none
   |_=>none
  |false=>none
 |_=>none
def OQ (P:Program)(f:FuncId)(h:Wq):Prop:=∀args j out g,h args j=some (true,out,g)→Callable P f ∧
 ∀(B:Bd) (p:World) (J:Sb) (c:Gh),Inv B p J c→c.heap=j→∀r,RAs c args r →
  Calls P f r.toArray c.w λe C=>∃v l,e = .returned v∧l.heap=g∧g.length=j.length∧l.w=C∧Inv B p J l∧Ev c l∧RA l out [v]
def ale (P:Program):List (Nat×Wq)→Prop
 |[]=>True
 |(f,h)::r=>OQ P f h∧ale P r
def ajU {l:List (Nat×Wq)}(h:ale P l):Ed P (amZ l):=λf args C out j J=>by
 unfold amZ at J;split at J
 next e hl=>
  have:∀{l:List (Nat×Wq)},ale P l→look l f=some e→OQ P f e:=by
   intro l;induction l with
   |nil=>intro _ h;cases h
   |cons p r T=>
    obtain⟨k,U⟩:=p;intro R g;simp[look]at g;split at g
    next hb=>have:=κ hb;simp at g;subst this;subst g;exact R.1
    ·exact T R.2 g
  exact this h hl args C out j J
 ·cases J
