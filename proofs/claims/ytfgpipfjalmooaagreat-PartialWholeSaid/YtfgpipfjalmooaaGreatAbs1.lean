/- Texts that are read twice. -/
import Derived.Test.YtfgpipfjalmooaaGreatAbsR
import Derived.LoopN
import Derived.RangeFuncIn
import Derived.RangeFuncRecord
import Derived.Carry
import Derived.ProofKit
import Derived.OpenShut
open Option renaming some→ä,none→ö
open Bool renaming true→ü,false→ß
open Go renaming World→æ,Value→ø,Program→å,TypeId→é,FuncId→è,undef→ê
set_option linter.all false
namespace Go.Proofs.YtfgpipfjalmooaaGreat
namespace Abs
open Go Go.RowKit
section
variable {B:Bd}{w0:æ}{J:Sb}{c:Gh}{h0:Nat}
def BY (c:Gh)(H:List HO)(s:ø):Prop :=
 s.ownBlock=ö∨∃k,c.rv k=s∧((∃t e f v,c.heap[k]? = ä (.row t e f)∧H[k]? = ä (.row t e v)∧f<v)∨(∃t e v l,c.heap[k]? = ä (.cu t e v l)∧H[k]? = ä .dead))
def agq (B:Bd)(c:Gh)(t:Ty)(e:é)(l:List t.den)(s:ø):Prop :=
 ∃xs,c.w.ownsRow B e t.size s l.length xs∧Rep c.w c.St (chain (toD t) l) xs∧∀b,s.ownBlock=ä b→∀o,¬c.St b o
def JZ (B:Bd)(c:Gh)(H:List HO):LE→ø→Prop
 |.own t e,s=>(∃n g,c.w.ownsRow B e t.size s n g∧∀b,s.ownBlock=ä b→∀o,n*t.size≤o→¬c.St b o)∧BY c H s
 |.mut t e f l,s=>agq B c t e l s∧BY c H s∧∀k v,f=ä (k,v)→c.heap[k]? = ä (.cu t e v l)∧c.rv k=s
 |.frz t e f l,s=>agq B c t e l s∧BY c H s∧∀k v,f=ä (k,v)→c.heap[k]? = ä (.cu t e v l)∧c.rv k=s
structure CInv (B:Bd)(c:Gh)(H:List HO)(L:List LE)(V:List ø):Prop where
 len:H.length=c.heap.length
 lv:L.length=V.length
 box:∀(k:Nat) (cells:List AV),H[k]? = ä (.box cells)↔c.heap[k]? = ä (.box cells)
 row:∀(k:Nat) t e v,H[k]? = ä (.row t e v)→∃v0,c.heap[k]? = ä (.row t e v0)∧v0≤v
 back:∀(k:Nat) t e v0,c.heap[k]? = ä (.row t e v0)→∃v,H[k]? = ä (.row t e v)∧v0≤v
 Rt:∀(i:Nat) le s,L[i]? = ä le→V[i]? = ä s→JZ B c H le s
 dist:∀(i j:Nat) s s' b,i≠j→V[i]? = ä s→V[j]? = ä s'→s.ownBlock=ä b→s'.ownBlock≠ä b
 cu:∀(k:Nat) t e v l,H[k]? = ä (.cu t e v l)→c.heap[k]? = ä (.cu t e v l)
 mback:∀(k:Nat) t e v l,c.heap[k]? = ä (.cu t e v l)→H[k]? = ä (.cu t e v l)∨H[k]? = ä HO.dead
 dead:∀(k:Nat),c.heap[k]? = ä HO.dead→H[k]? = ä HO.dead
structure Fin (c c':Gh)(h0:Nat)(L:List LE)(V:List ø):Prop where
 w:c'.w=c.w
 St:∀b o,c'.St b o↔(c.St b o∨∃(i:Nat) (t:Ty) (e:é) (ko:Option (Nat×Nat)) (l:List t.den) (s:ø),L[i]? = ä (.frz t e ko l)∧V[i]? = ä s∧s.ownBlock=ä b)
 kd:c'.kd=c.kd
 lp:c'.lp=c.lp
 box:∀(k:Nat) (cells:List AV),k<h0→c.heap[k]? = ä (.box cells)→∃cells',c'.heap[k]? = ä (.box cells')
 row:∀(k:Nat) t e v0,k<h0→c.heap[k]? = ä (.row t e v0)→∃v,c'.heap[k]? = ä (.row t e v)∧v0≤v∧(v=v0→c'.rv k=c.rv k)
 new:∀(i:Nat) le s,L[i]? = ä le→V[i]? = ä s→c'.heap[h0+i]? = ä le.ho∧c'.rv (h0+i)=s
 cu:∀(k:Nat) t e v l,k<h0→c.heap[k]? = ä (.cu t e v l)→(c'.heap[k]? = ä (.cu t e v l)∧c'.rv k=c.rv k)∨c'.heap[k]? = ä HO.dead
 dead:∀(k:Nat),k<h0→c.heap[k]? = ä HO.dead→c'.heap[k]? = ä HO.dead
 j:c'.St.j=c.St.j
def ajW (c:Gh)(h0:Nat)(L:List LE)(V:List ø)(a:AV)(v:ø):Prop :=
 ∀f j g,Fin c f h0 j g→L <+: j→V <+: g→RA f a [v]
def bI {f:Type}{l g:List f}(h:l <+: g){i:Nat}{x:f}(j:l[i]? = ä x):g[i]? = ä x:=by obtain⟨r,rfl⟩:=h;rw[I' (ar j)];exact j
variable{c' :Gh}{L:List LE}{V:List ø}{k:Nat}{H:List HO}
def Fin.st (h:Fin c c' h0 L V):c.St.le c'.St:=⟨λb o x=>(h.St b o).2 (.inl x),λb e cap n x=>by rw[h.j];exact x⟩
def Fin.cell (h:Fin c c' h0 L V):∀(a:Addr) v,c.St a.block a.off→a.spot=ö→c.w.cell? a=ä v→c'.w.cell? a=ä v:=λa v _ _ x=>by rw[h.w];exact x
def Fin.mutAt (h:Fin c c' h0 L V){v:Nat}{Q:ø→Ty→Prop}(p:k<h0)(m:sA c k v (Q (c.rv k))):sA c' k v (Q (c'.rv k)):=by
 rcases m with⟨t,e,j,l,C,f,r⟩|hd
 ·rcases h.cu k t e j l p C with⟨g,J⟩|g
  ·exact .inl ⟨t,e,j,l,g,f,λe=>by rw[J];exact r e⟩
  ·exact .inr g
 ·exact .inr (h.dead k p hd)
def Fin.keep {c':Gh}{L:List LE}{V:List ø}(h:Fin c c' h0 L V):∀{a:AV} {vs:List ø},a.under h0=ü→RA c a vs→RA c' a vs
 |.unk,_,_,r=>r
 |.val t x,_,_,⟨v,e,r⟩=>⟨v,e,r.mono h.st h.cell⟩
 |.nil,_,_,r=>r
 |.own k v t l,_,J,⟨s,e,r,t',e',v',hr,hle,heq⟩=>by simp only[AV.under,υ]at J;obtain⟨v2,R,l2,q2⟩:=h.row k t' e' v' J hr;exact⟨s,e,r.mono h.st h.cell,t',e',v2,R,ξ hle l2,λx=>(heq Ω).trans (q2 Ω).symm⟩
 |.ref t x,_,_,⟨ad,ds,e,hs,hd,hc⟩=>⟨ad,ds,e,hs,hd.mono h.st h.cell,λj u J=>⟨by rw[h.w];exact(hc j u J).1,h.st.s _ _ (hc j u J).2⟩⟩
 |.box k P,_,J,⟨cells,hk,e⟩=>by simp only[AV.under,υ]at J;obtain⟨c2,R⟩:=h.box k cells J hk;exact⟨c2,R,by rw[h.kd];exact e⟩
 |.fn f U,_,J,⟨T,e,r,o⟩=>⟨T,e,h.keep (a:=U) J r,o⟩
 |.agg p,_,J,⟨T,e,r,o⟩=>⟨T,e,h.keep (a:=p) J r,o⟩
 |.tup p,_,J,⟨T,e,r,o⟩=>⟨T,e,h.keep (a:=p) J r,o⟩
 |.pnil,_,_,r=>r
 |.pcons a b,_,J,⟨v,r,e,ha,hb⟩=>by simp only[AV.under,θ]at J;exact⟨v,r,e,h.keep J.1 ha,h.keep J.2 hb⟩
 |.cond g a,vs,J,r=>by
  simp[RA]at r⊢;split
  next hg=>simp[hg]at r;exact h.keep (a:=a) J r
  next hg=>simp[hg]at r;exact r
 |.msl k v lo hi,_,J,⟨s,e,o1,m⟩=>by simp only[AV.under,υ]at J;exact⟨s,e,o1,h.mutAt (Q:=λr t=>sT r t.size lo hi s) J m⟩
 |.yld j,_,J,⟨hd,e⟩=>by simp only[AV.under,υ]at J;exact⟨h.dead j J hd,by rw[h.lp];exact e⟩
 |.fix C w,_,_,⟨e,h1,R⟩=>⟨e,λb o x=>h.st.s b o (h1 b o x),λa v x s y=>h.cell a v (h1 _ _ x) s (R a v x s y)⟩
 |.mpt k v i P,_,J,⟨s,e,o1,m⟩=>by simp only[AV.under,υ]at J;exact⟨s,e,o1,h.mutAt (Q:=λr t=>ptS r t.size i P s) J m⟩
def Fin.keeps {c':Gh}{L:List LE}{V:List ø}(h:Fin c c' h0 L V):∀{l:List AV} {g:List ø},l.all (AV.under h0)=ü→RAs c l g→RAs c' l g
 |[],[],_,_=>trivial
 |_::_,_::_,f,⟨a,b⟩=>by simp only[C?,θ]at f;exact⟨h.keep f.1 a,h.keeps f.2 b⟩
def CInv.push {p :List HO}(f:CInv B c H L V){le:LE}{s:ø}(hlen:p.length=H.length)(box:∀(k:Nat) (cells:List AV),p[k]? = ä (.box cells)↔H[k]? = ä (.box cells))
  (row:∀(k:Nat) t e v,p[k]? = ä (.row t e v)→∃r,H[k]? = ä (.row t e r)∧r≤v) (T:∀(k:Nat) t e v,H[k]? = ä (.row t e v)→∃r,p[k]? = ä (.row t e r)∧v≤r)
  (cu:∀(k:Nat) t e v l,p[k]? = ä (.cu t e v l)→H[k]? = ä (.cu t e v l)) (U:∀(k:Nat) t e v l,H[k]? = ä (.cu t e v l)→p[k]? = ä (.cu t e v l)∨p[k]? = ä HO.dead)
  (dead:∀(k:Nat),H[k]? = ä HO.dead→p[k]? = ä HO.dead) (hcl:JZ B c p le s) (hfr:∀b,s.ownBlock=ä b→∀(j:Nat) s',V[j]? = ä s'→s'.ownBlock≠ä b):CInv B c p (L++[le]) (V++[s]):=by
 have ht:∀s,BY c H s→BY c p s:=by
  intro s h;obtain h|⟨k,J,g⟩:=h
  ·exact .inl h
  ·refine .inr ⟨k,J, ?_⟩;rcases g with⟨t,e,v0,v,g1,g2,g3⟩|⟨t,e,v,l,g1,g2⟩
   ·obtain⟨r,g4,g5⟩:=T k t e v g2;exact .inl ⟨t,e,v0,r,g1,g4,Ω⟩
   ·exact .inr ⟨t,e,v,l,g1,dead k g2⟩
 have hcl':∀le s,JZ B c H le s→JZ B c p le s:=by
  intro le s h;cases le with
  |own t e=>exact⟨h.1,ht s h.2⟩
  | «mut» t e ko l=>exact⟨h.1,ht s h.2.1,h.2.2⟩
  |frz t e ko l=>exact⟨h.1,ht s h.2.1,h.2.2⟩
 refine⟨hlen.trans f.len,by simp[f.lv],λk cells=>(box k cells).trans (f.box k cells),λk t e v P=>?_,λk t e v0 P=>?_,λi le' s' hl hs=>?_,λi j s1 s2 b hij J g b1 b2=>?_,λk t e v l P=>f.cu k t e v l (cu k t e v l P),λk t e v l P=>?_,λk P=>dead k (f.dead k P)⟩
 ·obtain⟨r,J,g⟩:=row k t e v P;obtain⟨v0,h3,h4⟩:=f.row k t e r J;exact⟨v0,h3,ξ h4 g⟩
 ·obtain⟨r,J,g⟩:=f.back k t e v0 P;obtain⟨v2,h3,h4⟩:=T k t e r J;exact⟨v2,h3,ξ g h4⟩
 ·obtain hlt|hge:=i_ i L.length
  ·rw[I' hlt]at hl;rw[I' (by rw[←f.lv];exact hlt)]at hs;exact hcl' _ _ (f.Rt i le' s' hl hs)
  ·rw[h_ hge]at hl;rw[h_ (by rw[←f.lv];exact hge)]at hs;have R:i-L.length=0:=by have:=ar hl;simp at this;omega
   rw[R]at hl;rw[←f.lv,R]at hs;simp at hl hs;subst hl;subst hs;exact hcl
 ·have C:∀(i:Nat) x,V.length≤i→(V++[s])[i]? = ä x→x=s∧i=V.length:=λi x hi hx=>by
   rw[h_ hi]at hx;have R:i-V.length=0:=by have:=ar hx;simp at this;omega
   rw[R]at hx;simp at hx;exact⟨hx.symm,Ω⟩
  obtain hi|hi:=i_ i V.length
  ·rw[I' hi]at J;obtain hj|hj:=i_ j V.length
   ·rw[I' hj]at g;exact f.dist i j s1 s2 b hij J g b1 b2
   ·obtain⟨rfl,_⟩:=C j s2 hj g;exact hfr b b2 i s1 J b1
  ·obtain⟨rfl,hi'⟩:=C i s1 hi J;obtain hj|hj:=i_ j V.length
   ·rw[I' hj]at g;exact hfr b b1 j s2 g b2
   ·obtain⟨_,hj'⟩:=C j s2 hj g;omega
 ·obtain h|h:=f.mback k t e v l P
  ·exact U k t e v l h
  ·exact .inr (dead k h)
def CInv.fresh (hI:Inv B w0 J c)(hc:CInv B c H L V)(T:obk c k=(c.rv k).ownBlock)
  (hk:(∃t e v,c.heap[k]? = ä (.row t e v)∧H[k]? = ä (.row t e v))∨∃t e v l,H[k]? = ä (.cu t e v l)) :
  ∀b,(c.rv k).ownBlock=ä b→∀(j:Nat) s',V[j]? = ä s'→s'.ownBlock≠ä b:=by
 intro b hb j s' hj g;have hjl:j<L.length:=by rw[hc.lv];exact ar hj
 have f:=hc.Rt j L[j] s' (ζ hjl) hj;have R:BY c H s':=by
  generalize L[j]=le at f;cases le with
  |own t e=>exact f.2
  | «mut» t e ko l=>exact f.2.1
  |frz t e ko l=>exact f.2.1
 obtain h|⟨C,h1,h2⟩:=R
 ·rw[h]at g;cases g
 ·have U:C≠k:=λe=>by
   subst e;rcases h2 with⟨t,e,v0,v,r,p,g3⟩|⟨t,e,v,l,r,p⟩
   ·rcases hk with⟨P,e',v',q1,q2⟩|⟨P,e',v',l',q2⟩
    ·rw[r]at q1;rw[p]at q2;injection q1 with q1;injection q2 with q2;injection q1 with _ _ q1;injection q2 with _ _ q2;omega
    ·rw[p]at q2;cases q2
   ·rcases hk with⟨P,e',v',q1,q2⟩|⟨P,e',v',l',q2⟩ <;> rw[p]at q2 <;> cases q2
  have:obk c C=(c.rv C).ownBlock:=by
   rcases h2 with⟨t,e,v0,v,r,p,g3⟩|⟨t,e,v,l,r,p⟩ <;> (unfold obk;rw[r])
  exact hI.sep C k b U (by rw[this,h1];exact g) (by rw[T];exact hb)
def UZ {v:Nat}{f:Option (Nat×Nat)}(h:ae6 k v f=ü):f=ä (k,v):=by
 cases f with
 |none=>cases h
 |some p =>obtain⟨j,g⟩:=p;simp only[ae6,θ]at h;rw[ν h.1,ν h.2]
def kI {t:Ty}{k v:Nat}:∀{L:List LE} {i j:Nat},zW t k v i L=ä j→∃n e l,j=i+n∧L[n]? = ä (.mut t e (ä (k,v)) l)
 |[],_,_,h=>by cases h
 |le::r,i,j,h=>by
  cases le with
  | «mut» J e P l=>
   simp only[zW]at h;split at h
   next hc=>simp at hc;obtain⟨C,f⟩:=hc;subst f;injection h with h;exact⟨0,e,l,Ω,by rw[UZ C];rfl⟩
   ·obtain⟨n,p,g,C,f⟩:=kI h;exact⟨n+1,p,g,Ω,by simpa using f⟩
  |own J e=>obtain⟨n,p,g,C,f⟩:=kI (L:=r) (i:=i+1) h;exact⟨n+1,p,g,Ω,by simpa using f⟩
  |frz J e P l=>obtain⟨n,p,g,C,f⟩:=kI (L:=r) (i:=i+1) h;exact⟨n+1,p,g,Ω,by simpa using f⟩
def kJ {t:Ty}{k v:Nat}{l:List t.den}:∀{L:List LE},zX t k v L=ä l→∃(n:Nat) (e:é),L[n]? = ä (.frz t e (ä (k,v)) l)
 |[],h=>by cases h
 |le::r,h=>by
  cases le with
  |frz p e J C=>
   simp[zX]at h;split at h
   ·rename_i P;split at h
    next l2 hcast=>obtain⟨R,f⟩:=cast?_some hcast;cases R;have f:l2=C:=f;subst f;cases h;exact⟨0,e,by rw[UZ P];rfl⟩
    ·cases h
   ·obtain⟨n,j,g⟩:=kJ h;exact⟨n+1,j,by simpa using g⟩
  |own p e=>obtain⟨n,j,g⟩:=kJ (L:=r) h;exact⟨n+1,j,by simpa using g⟩
  | «mut» p e J C=>obtain⟨n,j,g⟩:=kJ (L:=r) h;exact⟨n+1,j,by simpa using g⟩
def LT {w:æ}{St:Sb}{p:Ty}{e:é}{l:List p.den}{s v:ø}{f j:Nat}{xs:List ø}(J:w.ownsRow B e p.size s l.length xs)(T:Rep w St (chain (toD p) l) xs)(C:∀b o,s.ownBlock=ä b→St b o)(h:sT s p.size f j v) :
  Rep w St (toD (.slice p) ((l.take j).drop f)) [v]:=by
 have whole:=AR J T rfl (λb o hb _=>C b o hb);rcases h with⟨rfl,rfl,rfl,rfl⟩|⟨g,n,cap,A,rfl,h2,h3,rfl,P⟩
 ·exact⟨ö,0,0,rfl,by simp[len_chain],ε _,.inl rfl⟩
 ·have hn:n=l.length∧n≤cap:=by
   rcases J.2 with⟨q,_⟩|⟨g',R,cur,q,_,_,q4,_⟩
   ·cases q
   ·injection q with _ q1 q2;omega
  obtain⟨rfl,U⟩:=hn;have r:((l.take j).drop f).length=j-f:=by simp;omega
  by_cases h0:j-f=0
  ·exact⟨A,j-f,cap-f,rfl,by rw[len_chain,r],Ω,.inl h0⟩
  ·have:=Um whole h2 h3;rw[ω Ω]at this;obtain rfl|P:=P
   ·simpa[cV]using this
   ·omega
def xX (hI:Inv B w0 J c){m:MK}{a a':AV}{v:ø}{H' :List HO}{L' :List LE}(U:CInv B c H L V)(h:conv h0 m a H L=ä (a',H',L'))(hr:RA c a [v]) :
  ∃V',CInv B c H' L' V'∧L <+: L'∧V <+: V'∧ajW c h0 L' V' a' v:=by
 have f:∀{α:Type} (l:List α) (x:α),(l++[x])[l.length]? = ä x:=λl x=>by simp
 have pushNil:∀le,JZ B c H le (.slice ö 0 0)→CInv B c H (L++[le]) (V++[.slice ö 0 0]):=λle hcl=>
  U.push rfl (λ_ _=>Iff.rfl) (λk t e v h=>⟨v,h,ε _⟩) (λk t e v h=>⟨v,h,ε _⟩) (λ_ _ _ _ _ h=>h) (λ_ _ _ _ _ h=>.inl h) (λ_ h=>h) hcl (λb hb=>by simp[Value.ownBlock]at hb)
 have pushM:∀(k ver:Nat) (t:Ty) (e:é) (l:List t.den) (le:LE),H[k]? = ä (.cu t e ver l)→(∀H',BY c H' (c.rv k)→JZ B c H' le (c.rv k))→CInv B c (H.set k .dead) (L++[le]) (V++[c.rv k]):=λk ver t e l le hH hcl=>by
  have hck:=U.cu k t e ver l hH;have hklt:=ar hH;have C:∀j,j≠k→(H.set k HO.dead)[j]? = H[j]?:=λj p=>by rw[cf,ω (λe=>p e.symm)]
  have new:(H.set k HO.dead)[k]? = ä HO.dead:=by rw[cf,Θ rfl,Θ hklt]
  have hob:obk c k=(c.rv k).ownBlock:=by unfold obk;rw[hck]
  refine U.push Ψ (λj cells=>?_) (λj t' e' v' p=>?_) (λj t' e' v' p=>?_) (λj t' e' v' l' p=>?_) (λj t' e' v' l' p=>?_) (λj p=>?_) (hcl _ (.inr ⟨k,rfl,.inr ⟨t,e,ver,l,hck,new⟩⟩)) (U.fresh hI hob (.inr ⟨t,e,ver,l,hH⟩))
  ·by_cases g:j=k
   ·subst g;rw[new,hH];simp
   ·rw[C j g]
  ·have g:j≠k:=λe=>by subst e;rw[new]at p;cases p
   rw[C j g]at p;exact⟨v',p,ε _⟩
  ·have g:j≠k:=λe=>by subst e;rw[hH]at p;cases p
   exact⟨v',(C j g).trans p,ε _⟩
  ·have g:j≠k:=λe=>by subst e;rw[new]at p;cases p
   rw[C j g]at p;exact p
  ·by_cases g:j=k
   ·subst g;exact .inr new
   ·exact .inl ((C j g).trans p)
  ·by_cases g:j=k
   ·subst g;exact new
   ·exact(C j g).trans p
 cases m with
 |bb t=>
  cases a with
  |msl k ver lo hi=>
   simp[conv]at h;split at h
   ·rename_i τ;split at h
    ·rename_i l hfz;cases h;obtain⟨n,e,hn⟩:=kJ hfz;have hnl:=ar hn;have hnl2:n<V.length:=by rw[←U.lv];exact hnl
     have hnv:V[n]? = ä V[n]:=ζ hnl2;obtain⟨⟨xs,m1,m2,m3⟩,_,c2⟩:=U.Rt n _ _ hn hnv;obtain⟨c3,c4⟩:=c2 k ver rfl;have r:=fJ hr c3;refine⟨V,U,y_ _,y_ _,λc' Lf Vf P hL hV=>⟨v,rfl,(repv_cell rfl).2 ?_⟩⟩;refine LT (B:=B) (e:=e) (xs:=xs) (s:=V[n]) (by rw[P.w];exact m1) (m2.mono P.st P.cell) (λb o hb=>(P.St b o).2 (.inr ⟨n,τ,e,_,l,V[n],bI hL hn,bI hV hnv,hb⟩)) (by rw[←c4];exact r)
    ·split at h
     ·rename_i τ' e v' l hH;split at h
      ·rename_i q1;subst q1;split at h
       next l2 T=>obtain⟨et,R⟩:=cast?_some T;injection et with et;subst et;have R:l2=l:=R;subst R;cases h;have hck:=U.cu k _ _ _ _ hH;have r:=fJ hr hck;obtain⟨xs,m1,m2,m3⟩:=hI.cu k _ _ _ _ hck;have mr:agq B c τ' e l2 (c.rv k):=⟨xs,m1,m2,m3⟩;refine⟨V++[c.rv k],pushM k v' τ' e l2 _ hH (λH' ht=>⟨mr,ht,λk' v'' he=>by injection he with he;injection he with he1 he2;subst he1;subst he2;exact⟨hck,rfl⟩⟩),R_ _ _,R_ _ _,λc' Lf Vf P hL hV=>⟨v,rfl,(repv_cell rfl).2 ?_⟩⟩;have hl:=bI hL (f L _);have hv:=bI hV (f V _);rw[←U.lv]at hv;exact LT (B:=B) (e:=e) (xs:=xs) (s:=c.rv k) (by rw[P.w];exact m1) (m2.mono P.st P.cell) (λb o hb=>(P.St b o).2 (.inr ⟨L.length,τ',e,_,l2,c.rv k,hl,hv,hb⟩)) r
       ·cases h
      ·cases h
     ·cases h
   ·cases h
  |_=>
   simp[conv]at h;split at h
   next x hx=>cases h;exact⟨V,U,y_ _,y_ _,λc' Lf Vf P _ _=>⟨v,rfl,(bb?_sound hx hr).mono P.st P.cell⟩⟩
   ·cases h
 |keep=>
  simp only[conv]at h;split at h
  next hu=>cases h;exact⟨V,U,y_ _,y_ _,λc' Lf Vf P _ _=>P.keep hu hr⟩
  ·cases h
 |drop =>cases h;exact⟨V,U,y_ _,y_ _,λc' Lf Vf P _ _=>⟨v,rfl⟩⟩
 | «mut» t e=>
  cases a with
  |nil =>cases h;have hv:[v]=[.slice ö 0 0]:=hr;simp only[k_,P_]at hv;subst hv;refine⟨V++[.slice ö 0 0],pushNil (LE.mut t e ö []) ⟨⟨[],Y_ _ _ _ _,rfl,λb hb=>by simp[Value.ownBlock]at hb⟩,.inl rfl,λk v he=>by cases he⟩,R_ _ _,R_ _ _,λc' Lf Vf P hL hV=>?_⟩;have hl:=bI hL (f L _);have hv:=bI hV (f V _);rw[←U.lv]at hv;obtain⟨n1,n2⟩:=P.new _ _ _ hl hv;exact xB (τ:=t) (e:=e) (l:=[]) n1 (by rw[n2];exact .inl ⟨rfl,rfl,rfl,rfl⟩)
  |msl k ver lo hi=>
   simp only[conv]at h;split at h
   ·rename_i i hfm;simp only[ι,C']at h;obtain⟨rfl,rfl,rfl⟩:=h;obtain⟨n,e',l,hin,hn⟩:=kI hfm;have hin:i=n:=Ω
    subst hin;have hnl:=ar hn;have hnl2:i<V.length:=by rw[←U.lv];exact hnl
    have hnv:V[i]? = ä V[i]:=ζ hnl2;obtain⟨_,_,c2⟩:=U.Rt i _ _ hn hnv;obtain⟨c3,c4⟩:=c2 k ver rfl;have r:=fJ hr c3;refine⟨V,U,y_ _,y_ _,λc' Lf Vf P hL hV=>?_⟩;obtain⟨n1,n2⟩:=P.new _ _ _ (bI hL hn) (bI hV hnv);exact xB (τ:=t) (e:=e') (l:=l) n1 (by rw[n2,←c4];exact r)
   ·split at h
    ·rename_i t2 e2 v2 l hH;split at h
     ·rename_i q1;split at h
      ·rename_i q2;split at h
       next l2 T=>obtain⟨et,R⟩:=cast?_some T;injection et with et;subst et;have R:l2=l:=R;subst R;subst q1;subst q2;simp only[ι,C']at h;obtain⟨rfl,rfl,rfl⟩:=h;have hck:=U.cu k _ _ _ _ hH;have r:=fJ hr hck;obtain⟨xs,m1,m2,m3⟩:=hI.cu k _ _ _ _ hck;have mr:agq B c t2 e2 l2 (c.rv k):=⟨xs,m1,m2,m3⟩;refine⟨V++[c.rv k],pushM k v2 t2 e2 l2 _ hH (λH' ht=>⟨mr,ht,λk' v'' he=>by injection he with he;injection he with he1 he2;subst he1;subst he2;exact⟨hck,rfl⟩⟩),R_ _ _,R_ _ _,λc' Lf Vf P hL hV=>?_⟩;have hl:=bI hL (f L _);have hv:=bI hV (f V _);rw[←U.lv]at hv;obtain⟨n1,n2⟩:=P.new _ _ _ hl hv;exact xB (τ:=t2) (e:=e2) (l:=l2) n1 (by rw[n2];exact r)
       ·cases h
      ·cases h
     ·cases h
    ·cases h
  |_=>simp[conv]at h
 |own t e=>
  cases a with
  |nil =>simp only[conv,ι,C']at h;obtain⟨rfl,rfl,rfl⟩:=h;have hv:[v]=[.slice ö 0 0]:=hr;simp only[k_,P_]at hv;subst hv;refine⟨V++[.slice ö 0 0],pushNil (LE.own t e) ⟨⟨0,[],Y_ _ _ _ _,λb hb=>by simp[Value.ownBlock]at hb⟩,.inl rfl⟩,R_ _ _,R_ _ _,λc' Lf Vf P hL hV=>?_⟩;have hl:=bI hL (f L _);have hv:=bI hV (f V _);rw[←U.lv]at hv;obtain⟨n1,n2⟩:=P.new _ _ _ hl hv;exact⟨_,rfl,(repv_cell rfl).2 ⟨ö,0,0,rfl,rfl,ε _,.inl rfl⟩,t,e,0,n1,ε _,λ_=>n2.symm⟩
  |own k ver t1 l=>
   simp only[conv]at h;split at h
   ·rename_i t2 e2 v2 hH;split at h
    ·rename_i q1;split at h
     ·rename_i q2;split at h
      ·rename_i q3;split at h
       ·rename_i l2 T;obtain⟨et,R⟩:=cast?_some T;injection et with et;subst et;have R:l2=l:=R;subst R;subst q1;subst q2;subst q3;simp only[ι,C']at h;obtain⟨rfl,rfl,rfl⟩:=h;obtain⟨s,es,hrep,t',e',v',hrow,hle,hcur⟩:=hr;simp only[k_,P_]at es;subst es;obtain⟨v0,hc0,hv0⟩:=U.row k _ _ _ hH;rw[hc0]at hrow;injection hrow with hrow;injection hrow with r1 r2 r3;subst r1;subst r2;subst r3;have hve:v0=v2:=Ω
        subst hve;have hs:v=c.rv k:=hcur rfl;obtain⟨n,xs,hown,hsp⟩:=hI.row k _ _ _ hc0;have hklt:=ar hH;have hob:obk c k=(c.rv k).ownBlock:=by unfold obk;rw[hc0]
        have C:∀j,j≠k→(H.set k (.row t2 e2 (v0+1)))[j]? = H[j]?:=λj p=>by rw[cf,ω (λe=>p e.symm)]
        have new:(H.set k (.row t2 e2 (v0+1)))[k]? = ä (.row t2 e2 (v0+1)):=by rw[cf,Θ rfl,Θ hklt]
        refine⟨V++[v], ?_,R_ _ _,R_ _ _,λc' Lf Vf P hL hV=>?_⟩
        ·rw[hs];refine U.push Ψ (λj cells=>?_) (λj t' e' v' p=>?_) (λj t' e' v' p=>?_) (λj t' e' v' l' p=>?_) (λj t' e' v' l' p=>?_) (λj p=>?_)
          ⟨⟨n,xs,hown,hsp⟩,.inr ⟨k,rfl,.inl ⟨t2,e2,v0,v0+1,hc0,new,Ω⟩⟩⟩ (U.fresh hI hob (.inl ⟨t2,e2,v0,hc0,hH⟩))
         ·by_cases g:j=k
          ·subst g;rw[new,hH];simp
          ·rw[C j g]
         ·by_cases g:j=k
          ·subst g;rw[new]at p;injection p with p;injection p with j1 j2 j3;subst j1;subst j2;subst j3;exact⟨v0,hH,Ω⟩
          ·rw[C j g]at p;exact⟨v',p,ε _⟩
         ·by_cases g:j=k
          ·subst g;rw[hH]at p;injection p with p;injection p with j1 j2 j3;subst j1;subst j2;subst j3;exact⟨v0+1,new,Ω⟩
          ·exact⟨v',(C j g).trans p,ε _⟩
         ·have g:j≠k:=λe=>by subst e;rw[new]at p;cases p
          rw[C j g]at p;exact p
         ·have g:j≠k:=λe=>by subst e;rw[hH]at p;cases p
          exact .inl ((C j g).trans p)
         ·have g:j≠k:=λe=>by subst e;rw[hH]at p;cases p
          exact(C j g).trans p
        ·have hl:=bI hL (f L _);have hv:=bI hV (f V _);rw[←U.lv]at hv;obtain⟨n1,n2⟩:=P.new _ _ _ hl hv;exact⟨v,rfl,hrep.mono P.st P.cell,t2,e2,0,n1,ε _,λ_=>n2.symm⟩
       ·cases h
      ·cases h
     ·cases h
    ·cases h
   ·cases h
  |_=>simp[conv]at h
def VK (c:Gh)(h0:Nat)(L:List LE)(V:List ø)(l:List AV)(j:List ø):Prop :=
 ∀c' g f,Fin c c' h0 g f→L <+: g→V <+: f→RAs c' l j
def CL (hI:Inv B w0 J c):∀{T:List MK} {C f:List AV} {l:List ø} {H j:List HO} {L g:List LE} {V:List ø},CInv B c H L V→Vo h0 T C H L=ä (f,j,g)→RAs c C l →
  ∃P,CInv B c j g P∧L <+: g∧V <+: P∧VK c h0 g P f l
 |[],[],f,[],H,j,L,g,V,r,h,_=>by cases h;exact⟨V,r,y_ _,y_ _,λ_ _ _ _ _ _=>trivial⟩
 |m::T,a::C,f,v::l,H,j,L,g,V,r,h,⟨hr,p⟩=>by
  simp[Vo]at h;split at h
  next a1 H1 L1 h1=>
   split at h
   next as1 H2 L2 h2=>cases h;obtain⟨V1,c1,p1,q1,r1⟩:=xX hI r h1 hr;obtain⟨V2,c2,R,q2,r2⟩:=CL hI c1 h2 p;exact⟨V2,c2,p1.trans R,q1.trans q2,λc' Lf Vf U hL hV=>⟨r1 c' Lf Vf U (R.trans hL) (q2.trans hV),r2 c' Lf Vf U hL hV⟩⟩
   ·cases h
  ·cases h
def oN (hI:Inv B w0 J c){env:List AV}{p:List ø}(hE:RAs c env p):∀{l:List (Nat×MK)} {j g:List AV} {H H':List HO} {L r:List LE} {V:List ø},CInv B c H L V→DB h0 env l j H L=ä (g,H',r)→VK c h0 L V j p →
  ∃V',CInv B c H' r V'∧L <+: r∧V <+: V'∧VK c h0 r V' g p
 |[],j,g,H,H',L,r,V,hc,h,hp=>by cases h;exact⟨V,hc,y_ _,y_ _,hp⟩
 |(s,m)::l,j,g,H,H',L,r,V,hc,h,hp=>by
  simp only[DB]at h;split at h
  next a1 H1 L1 h1=>
   obtain hlt|hge:=i_ s env.length
   ·obtain⟨v,hv,hr⟩:=hE.get s env[s] (ζ hlt);have e1:env.getD s .unk=env[s]:=by simp[List.getD,ζ hlt]
    rw[e1]at h1;obtain⟨V1,c1,C,q1,r1⟩:=xX hI hc h1 hr;refine(oN hI hE c1 h ?_).imp λV2 ⟨c2,p2,q2,r2⟩=>⟨c2,C.trans p2,q1.trans q2,r2⟩;intro c' Lf U P T R;have f:=(hp c' Lf U P (C.trans T) (q1.trans R)).set s (r1 c' Lf U P T R);have:p.set s v=p:=pq hv;rw[this]at f;exact f
   ·have e1:env.getD s .unk = .unk:=by simp[List.getD,w_ hge]
    rw[e1]at h1;obtain⟨V1,c1,C,q1,r1⟩:=xX hI (v:=ê) hc h1 ⟨_,rfl⟩;refine(oN hI hE c1 h ?_).imp λV2 ⟨c2,p2,q2,r2⟩=>⟨c2,C.trans p2,q1.trans q2,r2⟩;intro c' Lf U P T R;have f:=(hp c' Lf U P (C.trans T) (q1.trans R)).set s (r1 c' Lf U P T R);have hvl:=hE.length;have:p.set s ê=p:=List.set_eq_of_length_le Ω;rw[this]at f;exact f
  ·cases h
def xe (U:Inv B w0 J c):∀{l:List (Nat×List MK)} {C:List (Nat×List AV)} {H T:List HO} {L g:List LE} {V:List ø},CInv B c H L V→DA h0 l H L=ä (C,T,g) →
  ∃V',CInv B c T g V'∧L <+: g∧V <+: V'∧C.map (·.1)=l.map (·.1)∧∀p∈C,∃cells f t,c.heap[p.1]? = ä (.box cells)∧c.w.heap[c.kd p.1]? = ä (.cells f t (0,0))∧VK c h0 g V' p.2 f.toList
 |[],C,H,T,L,g,V,P,h=>by cases h;exact⟨V,P,y_ _,y_ _,rfl,λp j=>by cases j⟩
 |(k,ms)::l,C,H,T,L,g,V,P,h=>by
  simp[DA]at h;split at h
  next cells hk=>
   split at h
   ·rename_i R H1 L1 h1;split at h
    ·rename_i bs' H2 L2 h2;cases h;have r:=(P.box k cells).1 hk;obtain⟨f,t,g1,_,_,g4⟩:=U.box k cells r;obtain⟨V1,c1,p1,q1,r1⟩:=CL U P h1 g4;obtain⟨V2,c2,p2,q2,e2,r2⟩:=xe U c1 h2;refine⟨V2,c2,p1.trans p2,q1.trans q2,by simp[e2],λp j=>?_⟩;obtain rfl|j:=c_.1 j
     ·exact⟨cells,f,t,r,g1,λc' Lf Vf hf hL hV=>r1 c' Lf Vf hf (p2.trans hL) (q2.trans hV)⟩
     ·exact r2 p j
    ·cases h
   ·cases h
  ·cases h
end
def yK:∀(f:List (Nat×List AV)) (H:List HO),(eK f H).length=H.length
 |[],_=>rfl
 |(k,cells)::r,H=>by rw[eK,yK r];simp
def lM:∀(f:List (Nat×List AV)) (H:List HO) (k:Nat),k ∉ f.map (·.1)→(eK f H)[k]? = H[k]?
 |[],_,_,_=>rfl
 |(k',cells)::r,H,k,h=>by simp only[c?,c_,not_or]at h;rw[eK,lM r _ k h.2,cf,ω (λe=>h.1 e.symm)]
def Ss {a:Nat}{l:List Nat}(h:FG (a::l)=ü):a ∉ l∧FG l=true:=by simpa[FG]using h
def yJ:∀(f:List (Nat×List AV)) (H:List HO),FG (f.map (·.1))=ü→∀p∈f,p.1<H.length→(eK f H)[p.1]? = ä (.box p.2)
 |[],_,_,_,h,_=>by cases h
 |(k,cells)::r,H,hd,p,hp,hlt=>by
  obtain⟨j,g⟩:=Ss hd;rw[eK];obtain rfl|hp:=c_.1 hp
  ·rw[lM r _ _ j,cf,Θ rfl,Θ hlt]
  ·exact yJ r _ g p hp (by simpa using hlt)
def wU {g:Nat}{f:List Nat}:∀(l:List HO) (i:Nat),zh g f i l=ü→∀(j:Nat) ho,l[j]? = ä ho→(i+j) ∉ f→ho.under g=ü
 |[],_,_,j,ho,h,_=>by simp at h
 |x::l,i,h,j,ho,hj,hn=>by
  simp[zh]at h;cases j with
  |zero=>
   simp at hj;subst hj;obtain h|h:=h.1
   ·exact absurd (by simpa using h) hn
   ·exact h
  |succ j =>simp at hj;exact wU l (i+1) h.2 j ho hj (by rw[show i+1+j=i+(j+1)by omega];exact hn)
section
variable {P:å}{B:Bd}{lo:Nat}{w0:æ}{J:Sb}{fs:List (List AV×List ø)}{σ σ':Sg}{a:Act}{w:æ}
def SE {m:MS}(h:aeQ lo m σ=ä σ')(hr:Rel fs lo B w0 J σ a w):Rel fs lo B w0 J σ' a w∧lo≤σ'.heap.length:=by
 obtain⟨c,w1,hw,hh,hI,hE,hdf,hfs⟩:=hr;unfold aeQ at h;split at h
 next hchk=>
  simp only[θ,υ,P']at hchk;obtain⟨⟨⟨⟨k1,k2⟩,k3⟩,k4⟩,k5⟩:=hchk;split at h
  next bs H1 L1 hpre=>
   split at h
   ·rename_i env' H2 L2 henv;cases h;have c0:CInv B c σ.heap [] []:=⟨by rw[hh],rfl,λk cells=>by rw[hh],λk t e v r=>⟨v,by rw[hh];exact r,ε _⟩,λk t e v r=>⟨v,by rw[←hh];exact r,ε _⟩,λi le s hl=>by simp at hl,λi j s s' b _ hs=>by simp at hs,λk t e v l r=>by rw[hh];exact r,λk t e v l r=>.inl (by rw[←hh];exact r),λk r=>by rw[←hh];exact r⟩;obtain⟨V1,c1,_,_,hnames,hbs⟩:=xe hI c0 hpre;obtain⟨V2,c2,pL,pV,hpend⟩:=oN hI hE c1 henv (λc' _ _ _ _ _=>DK (c:=c') hE.length.symm);let U:Nat→Value:=λi=>if i<m.h0 then(match c.heap[i]?,H2[i]? with|some (.row _ _ v0),ä (.row _ _ v)=>if v=v0 then c.rv i else .slice ö 0 0|_,_=>c.rv i)else V2.getD (i-m.h0) (.slice ö 0 0)
    let heap':List HO:=eK bs (H2.take m.h0)++L2.map LE.ho;let St':Sb:=⟨λb o=>c.St b o∨∃(i:Nat) (t:Ty) (e:é) (ko:Option (Nat×Nat)) (l:List t.den) (s:ø),L2[i]? = ä (.frz t e ko l)∧V2[i]? = ä s∧s.ownBlock=ä b,c.St.j⟩;let c':Gh:={ heap:=heap',St:=St',kd:=c.kd,rv:=U,w:=c.w,lp:=c.lp };have hlen0:(eK bs (H2.take m.h0)).length=m.h0:=by rw[yK,g_,c2.len,hh];omega
    have gold:∀k,k<m.h0→heap'[k]? = (eK bs (H2.take m.h0))[k]?:=λk r=>by show(_++_)[k]? = _;rw[I' Ω]
    have gnew:∀i,heap'[m.h0+i]? = (L2.map LE.ho)[i]?:=λi=>by show(_++_)[m.h0+i]? = _;rw[h_ Ω,hlen0];congr 1;omega
    have R:∀k,k<m.h0→k ∉ bs.map (·.1)→heap'[k]? = H2[k]?:=λk r hn=>by rw[gold k r,lM _ _ _ hn,b_,Θ r]
    have hnd:FG (bs.map (·.1))=true:=by rw[hnames];exact k3
    have hbnd:∀p∈bs,p.1<m.h0:=λp hp=>by have:p.1∈bs.map (·.1):=a_.2 ⟨p,hp,rfl⟩;rw[hnames]at this;obtain⟨q,hq,e⟩:=a_.1 this;have:=k4 q hq;omega
    have gbox:∀p∈bs,heap'[p.1]? = ä (.box p.2):=λp hp=>by rw[gold _ (hbnd p hp)];exact yJ bs _ hnd p hp (by rw[g_,c2.len,hh];have:=hbnd p hp;omega)
    have notbox:∀(k:Nat) t e v0,c.heap[k]? = ä (.row t e v0)→k ∉ bs.map (·.1):=λk t e v0 r hm=>by obtain⟨p,hp,e⟩:=a_.1 hm;obtain⟨cells,_,_,g1,_⟩:=hbs p hp;have e:p.1=k:=e;rw[e,r]at g1;cases g1
    have hrv:∀(k:Nat) t e v0 v,k<m.h0→c.heap[k]? = ä (.row t e v0)→H2[k]? = ä (.row t e v)→U k=if v=v0 then c.rv k else .slice ö 0 0:=λk t e v0 v r h1 h2=>by simp[U,Θ r,h1,h2]
    have notboxM:∀(k:Nat) ho,c.heap[k]? = ä ho→(∀cells,ho ≠ .box cells)→k ∉ bs.map (·.1):=λk ho r hnb hm=>by obtain⟨p,hp,e⟩:=a_.1 hm;obtain⟨cells,_,_,g1,_⟩:=hbs p hp;have e:p.1=k:=e;rw[e,r]at g1;injection g1 with g1;exact hnb cells g1
    have fin:Fin c c' m.h0 L2 V2:=by
     refine⟨rfl,λ_ _=>Iff.rfl,rfl,rfl,λk cells r hc=>?_,λk t e v0 r hc=>?_,λi le s hl hs=>?_,λk t e v l r hc=>?_,λk r hc=>?_,rfl⟩
     ·by_cases hm:k∈bs.map (·.1)
      ·obtain⟨p,hp,e⟩:=a_.1 hm;have e:p.1=k:=e;exact⟨p.2,e ▸ gbox p hp⟩
      ·exact⟨cells,(R k r hm).trans ((c2.box k cells).2 hc)⟩
     ·obtain⟨v,h1,h2⟩:=c2.back k t e v0 hc;exact⟨v,(R k r (notbox k t e v0 hc)).trans h1,h2,λe'=>by show U k=_;rw[hrv k t e v0 v r hc h1,Θ e']⟩
     ·refine⟨by rw[gnew];simp[hl], ?_⟩;show U (m.h0+i)=s;simp only[U];rw[ω Ω,show m.h0+i-m.h0=i by omega];simp[List.getD,hs]
     ·have hnb:=notboxM k _ hc (λcells e=>by cases e);obtain h1|h1:=c2.mback k t e v l hc
      ·refine .inl ⟨(R k r hnb).trans h1, ?_⟩;show U k=_;simp[U,Θ r,hc]
      ·exact .inr ((R k r hnb).trans h1)
     ·exact(R k r (notboxM k _ hc (λcells e=>by cases e))).trans (c2.dead k hc)
    have takenOf:∀(i:Nat) s,V2[i]? = ä s→BY c H2 s:=λi s hs=>by
     have hil:i<L2.length:=by rw[c2.lv];exact ar hs
     have hcl:=c2.Rt i L2[i] s (ζ hil) hs;generalize L2[i]=le at hcl;cases le with
     |own t e=>exact hcl.2
     | «mut» t e ko l=>exact hcl.2.1
     |frz t e ko l=>exact hcl.2.1
    have hobk:∀k b,k<m.h0→obk c' k=ä b→obk c k=ä b∧(∀t e v0 v,c.heap[k]? = ä (.row t e v0)→H2[k]? = ä (.row t e v)→v=v0)∧H2[k]? ≠ ä HO.dead:=by
     intro k b r f;cases C:c.heap[k]? with
     |none=>
      exfalso;have hkl:k<c.heap.length:=by rw[hh];omega
      rw[ζ hkl]at C;cases C
     |some x=>
      cases x with
      |none=>
       exfalso;have hn:=notboxM k _ C (λcells e=>by cases e);have h2:=R k r hn;unfold obk at f;rw[show c'.heap[k]? = H2[k]? from h2]at f;cases hH:H2[k]? with
       |none=>rw[hH]at f;cases f
       |some y=>
        rw[hH]at f;cases y with
        |none=>cases f
        |box cells=>have:=(c2.box k cells).1 hH;rw[C]at this;cases this
        |row t e v=>obtain⟨v0,g,_⟩:=c2.row k t e v hH;rw[C]at g;cases g
        |cu t e v l=>have:=c2.cu k t e v l hH;rw[C]at this;cases this
        |dead=>cases f
      |box cells =>obtain⟨cells',h2⟩:=fin.box k cells r C;unfold obk at f⊢;rw[h2]at f;rw[C];exact⟨f,(λt e v0 v h=>by cases h),by rw[(c2.box k cells).2 C];intro e;cases e⟩
      |row t e v0=>
       obtain⟨v,h1,h2⟩:=c2.back k t e v0 C;have h3:c'.heap[k]? = ä (.row t e v):=(R k r (notbox k t e v0 C)).trans h1;have h4:=hrv k t e v0 v r C h1;unfold obk at f⊢;rw[h3]at f;rw[C];have f:(U k).ownBlock=ä b:=f;rw[h4]at f;by_cases hv:v=v0
       ·rw[Θ hv]at f;refine⟨f,λt' e' v0' v' g1 g2=>?_,by rw[h1];intro e;cases e⟩;rw[h1]at g2;injection g1 with g1;injection g2 with g2;injection g1 with _ _ g1;injection g2 with _ _ g2;omega
       ·rw[ω hv]at f;simp[Value.ownBlock]at f
      |cu t e v l=>
       rcases fin.cu k t e v l r C with⟨h1,h2⟩|h1
       ·unfold obk at f⊢;rw[h1]at f;rw[C];have f:(c'.rv k).ownBlock=ä b:=f;rw[h2]at f;refine⟨f,(λt e v0 v h=>by cases h), ?_⟩;intro hd;have:=(R k r (notboxM k _ C (λcells e=>by cases e))).symm.trans h1;rw[hd]at this;cases this
       ·unfold obk at f;rw[h1]at f;cases f
      |dead =>have h1:=fin.dead k r C;unfold obk at f;rw[h1]at f;cases f
    have apartOf:∀(k i:Nat) (s:ø) (b:Nat),k<m.h0→obk c' k=ä b→V2[i]? = ä s→s.ownBlock≠ä b:=by
     intro k i s b r h1 hs f;obtain⟨o1,o2,o3⟩:=hobk k b r h1;obtain c4|⟨k',g1,g2⟩:=takenOf i s hs
     ·rw[c4]at f;cases f
     ·have hok':obk c k'=ä b:=by
       rcases g2 with⟨t,e,v0,v,q1,q2,q3⟩|⟨t,e,v,l,q1,q2⟩ <;> (unfold obk;rw[q1];exact(by rw[g1];exact f))
      by_cases hkk:k=k'
      ·subst hkk;rcases g2 with⟨t,e,v0,v,q1,q2,q3⟩|⟨t,e,v,l,q1,q2⟩
       ·have:=o2 t e v0 v q1 q2;omega
       ·exact o3 q2
      ·exact hI.sep k k' b hkk o1 hok'
    have hobn:∀i b,obk c' (m.h0+i)=ä b→∃s,V2[i]? = ä s∧s.ownBlock=ä b∧∀t e ko l,L2[i]? ≠ ä (.frz t e ko l):=by
     intro i b f;unfold obk at f;rw[show c'.heap[m.h0+i]? = _ from gnew i]at f;cases hl:L2[i]? with
     |none=>simp[hl]at f
     |some le=>
      have hil:i<V2.length:=by rw[←c2.lv];exact ar hl
      have hs:V2[i]? = ä V2[i]:=ζ hil;obtain⟨_,n2⟩:=fin.new i le V2[i] hl hs;simp[hl]at f;cases le with
      |own t e =>simp[LE.ho]at f;rw[n2]at f;exact⟨_,hs,f,λ_ _ _ _ e=>by cases e⟩
      | «mut» t e ko l =>simp[LE.ho]at f;rw[n2]at f;exact⟨_,hs,f,λ_ _ _ _ e=>by cases e⟩
      |frz t e ko l=>simp[LE.ho]at f
    have crossed:∀k i b,k<m.h0→obk c' k=ä b→obk c' (m.h0+i)=ä b→False:=by intro k i b r h1 h2;obtain⟨s,hs,f,_⟩:=hobn i b h2;exact apartOf k i s b r h1 hs f
    have frzOld:∀k b o,k<m.h0→obk c' k=ä b→St' b o→c.St b o:=by
     intro k b o r f x;obtain x|⟨i,t,e,ko,l,s,q1,q2,q3⟩:=x
     ·exact x
     ·exact absurd q3 (apartOf k i s b r f q2)
    have frzNew:∀i b o,obk c' (m.h0+i)=ä b→St' b o→c.St b o:=by
     intro i b o f x;obtain⟨s,hs,hsb,hnf⟩:=hobn i b f;obtain x|⟨j,t,e,ko,l,s',q1,q2,q3⟩:=x
     ·exact x
     ·by_cases hij:i=j
      ·subst hij;exact absurd q1 (hnf t e ko l)
      ·exact absurd q3 (c2.dist i j s s' b hij hs q2 hsb)
    have objOf:∀s b,(∃i:Nat,V2[i]? = ä s)→s.ownBlock=ä b→∃k,obk c k=ä b:=by
     rintro s b ⟨i,hs⟩ f;obtain c4|⟨k',g1,g2⟩:=takenOf i s hs
     ·rw[c4]at f;cases f
     ·refine⟨k', ?_⟩;rcases g2 with⟨t,e,v0,v,q1,q2,q3⟩|⟨t,e,v,l,q1,q2⟩ <;> (unfold obk;rw[q1];exact(by rw[g1];exact f))
    have blkOf:∀s b,(∃i:Nat,V2[i]? = ä s)→s.ownBlock=ä b→b<c.w.heap.size∧B≤b∧¬B.F b:=by
     rintro s b ⟨i,hs⟩ f;obtain c4|⟨k',g1,g2⟩:=takenOf i s hs
     ·rw[c4]at f;cases f
     ·have hok:obk c k'=ä b:=by
       rcases g2 with⟨t,e,v0,v,q1,q2,q3⟩|⟨t,e,v,l,q1,q2⟩ <;> (unfold obk;rw[q1];exact(by rw[g1];exact f))
      exact⟨(jP hI hok).1,(jP hI hok).2,hI.fo k' b hok⟩
    have inv:Inv B w1 J c':=by
     refine⟨hI.below,hI.size,λb o x=>?_,⟨λb o x=>.inl (hI.st0.s b o x),hI.st0.j⟩,λb o x=>?_,λk cells r=>?_,λk t e v r=>?_,λk k' b hne h1 h2=>?_,λk t e v l r=>?_,hI.drawn,λk b f=>(by
      obtain P|P:=i_ k m.h0
      ·exact hI.fo k b (hobk k b P f).1
      ·obtain⟨s,hs,hsb,_⟩:=hobn (k-m.h0) b (by rw[show m.h0+(k-m.h0)=k by omega];exact f);exact(blkOf s b ⟨_,hs⟩ hsb).2.2),hI.fl,hI.j0,λb e cap n x=>(hI.vh b e cap n x).imp id λq=>q.keep rfl (λo y=>(by
       obtain y|⟨i,t,e,ko,l,s,q1,q2,q3⟩:=y
       ·exact y
       ·obtain⟨k',z⟩:=objOf s b ⟨i,q2⟩ q3;exact absurd z (q.own k'))) λk y=>(by
       obtain P|P:=i_ k m.h0
       ·exact(hobk k b P y).1
       ·obtain⟨s,hs,hsb,_⟩:=hobn (k-m.h0) b (by rw[show m.h0+(k-m.h0)=k by omega];exact y);obtain⟨k',z⟩:=objOf s b ⟨_,hs⟩ hsb;exact absurd z (q.own k'))⟩
     ·obtain x|⟨i,t,e,ko,l,s,q1,q2,q3⟩:=x
      ·exact hI.to b o x
      ·exact(blkOf s b ⟨i,q2⟩ q3).1
     ·obtain x|⟨i,t,e,ko,l,s,q1,q2,q3⟩:=x
      ·exact hI.stN b o x
      ·exact .inr (blkOf s b ⟨i,q2⟩ q3).2
     ·have P:k<m.h0:=by
       obtain x|x:=i_ k m.h0
       ·exact x
       ·exfalso;have:=gnew (k-m.h0);rw[show m.h0+(k-m.h0)=k by omega]at this;rw[show c'.heap[k]? = _ from this]at r;cases hl:L2[k-m.h0]? with
        |none=>simp[hl]at r
        |some p=>cases p <;> simp[hl,LE.ho]at r
      have T:obk c' k=ä (c.kd k):=by unfold obk;rw[r]
      by_cases hm:k∈bs.map (·.1)
      ·obtain⟨p,hp,e⟩:=a_.1 hm;have e:p.1=k:=e;subst e;have:=gbox p hp;rw[show c'.heap[p.1]? = _ from this]at r;cases r;obtain⟨cells0,e7,t,g1,g2,g3⟩:=hbs p hp;obtain⟨arr',t',q1,q2,q3,_⟩:=hI.box p.1 cells0 g1;rw[g2]at q1;exact⟨e7,t,g2,q2,λo x=>q3 o (frzOld p.1 _ o P T x),g3 c' L2 V2 fin pL pV⟩
      ·have hH:=(R k P hm).symm.trans r;have C:=(c2.box k cells).1 hH;obtain⟨e7,t,q1,q2,q3,q4⟩:=hI.box k cells C;have hu:=wU _ 0 k5 k (.box cells) (by rw[b_,Θ P,←hh];exact C) (by rw[Z',←hnames];exact hm);exact⟨e7,t,q1,q2,λo x=>q3 o (frzOld k _ o P T x),fin.keeps hu q4⟩
     ·obtain P|P:=i_ k m.h0
      ·have hm:k ∉ bs.map (·.1):=λhm=>by
        obtain⟨p,hp,e'⟩:=a_.1 hm;have e':p.1=k:=e';have:=gbox p hp;rw[e']at this;rw[show c'.heap[k]? = _ from this]at r;cases r
       have hH:=(R k P hm).symm.trans r;obtain⟨v0,C,hle⟩:=c2.row k t e v hH;have h4:=hrv k t e v0 v P C hH;by_cases hv:v=v0
       ·have T:obk c' k=(U k).ownBlock:=by unfold obk;rw[r]
        rw[Θ hv]at h4;obtain⟨n,xs,q1,q2⟩:=hI.row k t e v0 C;refine⟨n,xs,by show c.w.ownsRow B e t.size (U k) n xs;rw[h4];exact q1,λb f o hle x=>?_⟩;have f:(U k).ownBlock=ä b:=f;have hx:=frzOld k b o P (T.trans f) x;rw[h4]at f;exact q2 b f o hle hx
       ·rw[ω hv]at h4;exact⟨0,[],by show c.w.ownsRow B e t.size (U k) 0 [];rw[h4];exact Y_ _ _ _ _,by show ∀b,(U k).ownBlock=ä b→_;rw[h4];intro b f;simp[Value.ownBlock]at f⟩
      ·have hk':=r;have hg:=gnew (k-m.h0);rw[show m.h0+(k-m.h0)=k by omega]at hg;rw[show c'.heap[k]? = _ from hg]at r;cases hl:L2[k-m.h0]? with
       |none=>simp[hl]at r
       |some le=>
        have hil:k-m.h0<V2.length:=by rw[←c2.lv];exact ar hl
        have hs:V2[k-m.h0]? = ä V2[k-m.h0]:=ζ hil;obtain⟨_,n2⟩:=fin.new (k-m.h0) le _ hl hs;rw[show m.h0+(k-m.h0)=k by omega]at n2;have hcl:=c2.Rt (k-m.h0) le _ hl hs;cases le with
        |own t1 e1=>
         simp only[F_,hl,akv,LE.ho,ι,HO.row.injEq]at r;obtain⟨rfl,rfl,rfl⟩:=r;obtain⟨⟨n,xs,q1,q2⟩,_⟩:=hcl;refine⟨n,xs,by rw[n2];exact q1,λb f o hle x=>?_⟩;have T:obk c' k=(c'.rv k).ownBlock:=by unfold obk;rw[hk']
         have hx:=frzNew (k-m.h0) b o (by rw[show m.h0+(k-m.h0)=k by omega];exact T.trans f) x;rw[n2]at f;exact q2 b f o hle hx
        | «mut» t1 e1 ko l=>simp[hl,LE.ho]at r
        |frz t1 e1 ko l=>simp[hl,LE.ho]at r
     ·obtain P|P:=i_ k m.h0
      ·obtain hk1|hk1:=i_ k' m.h0
       ·exact hI.sep k k' b hne (hobk k b P h1).1 (hobk k' b hk1 h2).1
       ·exact crossed k (k'-m.h0) b P h1 (by rw[show m.h0+(k'-m.h0)=k' by omega];exact h2)
      ·obtain hk1|hk1:=i_ k' m.h0
       ·exact crossed k' (k-m.h0) b hk1 h2 (by rw[show m.h0+(k-m.h0)=k by omega];exact h1)
       ·obtain⟨s,hs,f,_⟩:=hobn (k-m.h0) b (by rw[show m.h0+(k-m.h0)=k by omega];exact h1);obtain⟨s',hs',hb',_⟩:=hobn (k'-m.h0) b (by rw[show m.h0+(k'-m.h0)=k' by omega];exact h2);exact c2.dist (k-m.h0) (k'-m.h0) s s' b Ω hs hs' f hb'
     ·have T:obk c' k=(c'.rv k).ownBlock:=by unfold obk;rw[r]
      obtain P|P:=i_ k m.h0
      ·have hm:k ∉ bs.map (·.1):=λhm=>by
        obtain⟨p,hp,e'⟩:=a_.1 hm;have e':p.1=k:=e';have:=gbox p hp;rw[e']at this;rw[show c'.heap[k]? = _ from this]at r;cases r
       have hH:=(R k P hm).symm.trans r;have C:=c2.cu k t e v l hH;obtain⟨xs,q1,q2,q3⟩:=hI.cu k t e v l C;have h4:c'.rv k=c.rv k:=by show U k=_;simp[U,Θ P,C]
       refine⟨xs,by rw[h4];exact q1,q2.mono fin.st fin.cell,λb f o x=>?_⟩;have hx:=frzOld k b o P (T.trans f) x;rw[h4]at f;exact q3 b f o hx
      ·have hg:=gnew (k-m.h0);rw[show m.h0+(k-m.h0)=k by omega]at hg;rw[show c'.heap[k]? = _ from hg]at r;cases hl:L2[k-m.h0]? with
       |none=>simp[hl]at r
       |some le=>
        have hil:k-m.h0<V2.length:=by rw[←c2.lv];exact ar hl
        have hs:V2[k-m.h0]? = ä V2[k-m.h0]:=ζ hil;obtain⟨_,n2⟩:=fin.new (k-m.h0) le _ hl hs;rw[show m.h0+(k-m.h0)=k by omega]at n2;have hcl:=c2.Rt (k-m.h0) le _ hl hs;cases le with
        |own t1 e1=>simp[hl,LE.ho]at r
        |frz t1 e1 ko l1=>simp[hl,LE.ho]at r
        | «mut» t1 e1 ko l1 =>simp only[F_,hl,akv,LE.ho,ι]at r;injection r with z1 z2 z3 z4;subst z1;subst z2;have z4:=akD z4;subst z4;obtain⟨⟨xs,q1,q2,q3⟩,_⟩:=hcl;refine⟨xs,by rw[n2];exact q1,q2.mono fin.st fin.cell,λb f o x=>?_⟩;have hx:=frzNew (k-m.h0) b o (by rw[show m.h0+(k-m.h0)=k by omega];exact T.trans f) x;rw[n2]at f;exact q3 b f o hx
    refine⟨⟨c',w1,hw,rfl,inv,hpend c' L2 V2 fin (y_ _) (y_ _),hdf,λfr hfr=>⟨fin.keeps (Ic k1 (hfs fr hfr).2) (hfs fr hfr).1,(hfs fr hfr).2⟩⟩, ?_⟩;show lo≤heap'.length;simp only[heap',J',hlen0];omega
   ·cases h
  ·cases h
 ·cases h
def Az (fs:List (List AV×List ø))(lo:Nat)(B:Bd)(w0:æ)(J:Sb)(k:KT)(r:AV):Exit→Act→æ→Prop
 |.normal,a,w=>∃σ',k .normal σ'=ä r∧Rel fs lo B w0 J σ' a w∧lo≤σ'.heap.length
 |.exit id,a,w=>∃σ',k (.exit id) σ'=ä r∧Rel fs lo B w0 J σ' a w∧lo≤σ'.heap.length
 |.ret,a,w=>∃σ',k .ret σ'=ä r∧Rel fs lo B w0 J σ' a w∧lo≤σ'.heap.length
 |_,_,_=>False
def rz {m:Option MS}{k:Sg→Option AV}{r:AV}(h:FX lo m σ k=ä r)(g:Rel fs lo B w0 J σ a w)(f:lo≤σ.heap.length):∃σ',k σ'=ä r∧Rel fs lo B w0 J σ' a w∧lo≤σ'.heap.length:=by
 unfold FX at h;split at h
 ·exact⟨σ,h,g,f⟩
 ·split at h
  next σ' hm=>obtain⟨l,j⟩:=SE hm g;exact⟨σ',h,l,j⟩
  ·cases h
def bL (f:Option Nat)(c:Code):Prop:=f=ö∨cm c=ü
variable{ro:Option Nat}{c:Gh}{w1 w' :æ}{l:Nat}
def bL.left {p q:Bool}(h:ro=ö∨(p&&q)=ü):ro=ö∨p=true:=h.imp id λh=>(aj1.1 h).1
def bL.right {p q:Bool}(h:ro=ö∨(p&&q)=ü):ro=ö∨q=true:=h.imp id λh=>(aj1.1 h).2
def bL.ops {i:Nat}{ops:Array Oper}{f:Bool}(h:bL ro (.region i ops f)):∀o∈ops.toList,fw ro o:=λo g=>h.imp id λh c e=>by have:=P'.1 h o g;rw[e]at this;cases this
def Inv.lb (h:Inv B w1 J c)(hg:c.w.grownBy w' (ä l))(hl:∀o,c.w.heap[l]? = ä o→o.isCells=ß) :
  Inv B w' J { c with w:=w' }∧Ev c { c with w:=w' }:=by
 have C:∀{b:Nat} {j:Array ø} {t:é} {m:Nat×Nat},c.w.heap[b]? = ä (.cells j t m)→w'.heap[b]? = ä (.cells j t m):=λ{b j t m} U=>by refine(hg.block b (δ.1 U).1 (λe=>?_)).trans U;injection e with e;rw[e]at U;cases hl _ U
 have R:∀(a:Addr) v,c.w.cell? a=ä v→w'.cell? a=ä v:=λa v p=>by
  have U:a.block≠l:=λe=>by
   unfold World.cell? at p;rw[e]at p;cases ho:c.w.heap[l]? with
   |none=>simp[ho]at p
   |some o=>
    rw[ho]at p;cases o with
    |cells j t m=>cases hl _ ho
    |_=>simp at p
  have hlt:a.block<c.w.heap.size:=by
   cases hx:c.w.heap[a.block]? with
   |none=>unfold World.cell? at p;rw[hx]at p;cases p
   |some x=>exact(δ.1 hx).1
  exact(akq (hg.block a.block hlt (λe=>U (by injection e)))).trans p
 have ev:Ev c { c with w:=w' }:=⟨Sb.le.refl _,λa v _ _ p=>R a v p,λ_ cells x=>⟨cells,x,rfl⟩,λ_ t e v x=>⟨t,e,v,x,ε _,λ_=>rfl⟩,λ_ _ _ v l x=>.inl ⟨v,l,x,ε _,λ_=>rfl⟩,λ_ x=>x,λ_ _=>rfl⟩;refine⟨⟨Below.refl _ _,ξ h.size hg.size,λb o x=>d_ (h.to _ _ x) hg.size,h.st0,h.stN, ?_, ?_,h.sep, ?_,Og.refl _,h.fo,λb f=>d_ (h.fl b f) hg.size,h.j0,λb e cap n x=>(h.vh b e cap n x).imp id λq=>⟨q.lo,q.nf,q.le,(by
  obtain⟨j,z1,z2⟩:=q.cells;exact⟨j,C z1,z2⟩),q.free,q.own⟩⟩,ev⟩
 ·intro k cells hk;obtain⟨j,t,h1,h2,h3,h4⟩:=h.box k cells hk;exact⟨j,t,C h1,h2,h3,h4.mono ev⟩
 ·intro k t e v hk;obtain⟨n,xs,q,P⟩:=h.row k t e v hk;refine⟨n,xs,⟨q.1, ?_⟩,P⟩;obtain x|⟨g,cap,T,e1,e2,e3,r⟩:=q.2
  ·exact .inl x
  ·exact .inr ⟨g,cap,T,e1,e2,C e3,r⟩
 ·intro k t e v l hk;obtain⟨xs,q,hrep,P⟩:=h.cu k t e v l hk;refine⟨xs,⟨q.1, ?_⟩,hrep.mono ev.st ev.cell,P⟩;obtain x|⟨g,cap,T,e1,e2,e3,r⟩:=q.2
  ·exact .inl x
  ·exact .inr ⟨g,cap,T,e1,e2,C e3,r⟩
def Inv.other (h:Inv B w1 J c){o:Obj}(p:c.w.grownBy w' (ä l))(j:c.w.heap[l]? = ä o)(g:o.isCells=ß) :
  Inv B w' J { c with w:=w' }∧Ev c { c with w:=w' } :=
 h.lb p (λr f=>by rw[j]at f;injection f with f;rw[←f];exact g)
def Inv.base (h:Inv B w1 J c)(g:Below B w0 c.w)(f:Og B.F w0 c.w):Inv B w0 J c :=
 ⟨g,h.size,h.to,h.st0,h.stN,h.box,h.row,h.sep,h.cu,f,h.fo,h.fl,h.j0,λb e cap n x=>(h.vh b e cap n x).imp id λq=>⟨q.lo,q.nf,q.le,q.cells,q.free,q.own⟩⟩
def HV (ro:Option Nat)(w0:æ):Prop:=∀l,ro=ä l→∃r,w0.heap[l]? = ä (.loop r)
def mA {Γ:List Lq}{ck:Callk}{S:Par}{U:Nat}(hm:P.follows .mixedOrders=ü)(tk:TabOk P S.tab)(tsok:SpecsOk P S.T)(ckok:CkOk P ck Γ):∀(c:Code) (ro:Option Nat) (n:Nat) (fs:List (List AV×List ø)) (lo:Nat) (B:Bd) (w0:æ) (J:Sb) (r:AV),HV ro w0→Ctx Γ fs B w0→bL ro c→∀(σ:Sg) (k:KT) (a:Act) (w:æ),lo≤σ.heap.length →
  exec ck S lo U c σ k=ä r→Rel fs lo B w0 J σ a w→c.wpIn (RF ro) n P (Az fs lo B w0 J k r) a w:=by
 intro c;induction c with
 |skip=>intro ro n fs lo B w0 J r C p _ σ k a w f h hr;exact wpIn_skip ⟨σ,h,hr,f⟩
 |label l=>intro ro n fs lo B w0 J r C p _ σ k a w f h hr;exact wpIn_label ⟨σ,h,hr,f⟩
 |region id ops draw=>
  intro ro n fs lo B w0 J r C p hnd σ k a w f h hr;refine wpIn_mono (KW hnd.ops hm tk tsok ckok p f (by simpa[exec]using h) hr) λe a w R=>?_;cases e with
  |normal=>exact R
  |_=>exact R.elim
 |seq x y ihx ihy=>
  intro ro n fs lo B w0 J r C p hnd σ k a w f h hr;simp[exec]at h;refine wpIn_seq (wpIn_mono (ihx ro n fs lo B w0 J r C p (bL.left hnd) σ _ a w f h hr) λe a w R=>?_);cases e with
  |normal =>obtain⟨σ',h1,h2,h3⟩:=R;simp[aW]at h1;obtain⟨σ2,g1,g2,g3⟩:=rz h1 h2 h3;exact ihy ro n fs lo B w0 J r C p (bL.right hnd) σ2 k a w g3 g1 g2
  |exit id=>exact R
  |ret=>exact R
  |goto l=>exact R.elim
  |panic ch=>exact R.elim
  |outgrown=>exact R.elim
 |cond cnd x y ihx ihy=>
  intro ro n fs lo B w0 J r C p hnd σ k a w f h hr;simp[exec]at h;split at h
  next b hb=>
   have hr':=hr;obtain⟨c,_,_,_,_,hE,_⟩:=hr';have hv:=ru hE cnd;rw[hb]at hv;have hev:=fF hv.ey;cases b with
   |true=>exact wpIn_cond_true hev (ihx ro n fs lo B w0 J r C p (bL.left hnd) σ k a w f h hr)
   |false=>exact wpIn_cond_false hev (ihy ro n fs lo B w0 J r C p (bL.right hnd) σ k a w f h hr)
  ·cases h
 |block id x ih=>
  intro ro n fs lo B w0 J r C p hnd σ k a w f h hr;simp[exec]at h;refine wpIn_block (wpIn_mono (ih ro n fs lo B w0 J r C p hnd σ _ a w f h hr) λe a w R=>?_);cases e with
  |normal=>exact R
  |exit id'=>
   obtain⟨σ',h1,h2⟩:=R;simp[ak]at h1;show if id'=id then _ else _
   cases hb:Nat.beq id' id with
   |true =>rw[hb]at h1;rw[Θ (ν hb)];exact⟨σ',h1,h2⟩
   |false =>rw[hb]at h1;rw[ω (J_ hb)];exact⟨σ',h1,h2⟩
  |ret=>exact R
  |goto l=>exact R.elim
  |panic ch=>exact R.elim
  |outgrown=>exact R.elim
 |loop x ih=>
  intro ro n fs lo B w0 J r C p hnd σ k a w f h hr;simp[exec]at h;split at h
  next m hmm=>
   obtain⟨σ1,h1,h2,h3⟩:=rz h hr f;refine wpIn_loop_rounds U ?_;have key:∀j σ a w,lo≤σ.heap.length→aN lo m (λσ k=>exec ck S lo U x σ k) k j σ=ä r→Rel fs lo B w0 J σ a w→Code.roundsIn (RF ro) n P x (Az fs lo B w0 J k r) j a w:=by
    intro j;induction j with
    |zero=>intro σ a w _ h _;cases h
    |succ j ihn=>
     intro σ a w f h hr;rw[roundsIn_succ];refine wpIn_mono (ih ro n fs lo B w0 J r C p hnd σ _ a w f h hr) λe a w R=>?_;cases e with
     |normal =>obtain⟨σ',q1,q2,q3⟩:=R;simp[I4]at q1;obtain⟨σ2,g1,g2,g3⟩:=rz q1 q2 q3;exact ihn σ2 a w g3 g1 g2
     |exit id=>exact R
     |ret=>exact R
     |goto l=>exact R.elim
     |panic ch=>exact R.elim
     |outgrown=>exact R.elim
   exact key U σ1 a w h3 h1 h2
  ·refine wpIn_loop_rounds U ?_;have key:∀j σ a w,lo≤σ.heap.length→pQ (λσ k=>exec ck S lo U x σ k) k j σ=ä r→Rel fs lo B w0 J σ a w→Code.roundsIn (RF ro) n P x (Az fs lo B w0 J k r) j a w:=by
    intro j;induction j with
    |zero=>intro σ a w _ h _;cases h
    |succ j ihn=>
     intro σ a w f h hr;rw[roundsIn_succ];refine wpIn_mono (ih ro n fs lo B w0 J r C p hnd σ _ a w f h hr) λe a w R=>?_;cases e with
     |normal =>obtain⟨σ',q1,q2,q3⟩:=R;exact ihn σ' a w q3 q1 q2
     |exit id=>exact R
     |ret=>exact R
     |goto l=>exact R.elim
     |panic ch=>exact R.elim
     |outgrown=>exact R.elim
   exact key U σ a w f h hr
 |exit id=>intro ro n fs lo B w0 J r C p _ σ k a w f h hr;exact wpIn_exit ⟨σ,h,hr,f⟩
 |ret=>intro ro n fs lo B w0 J r C p _ σ k a w f h hr;exact wpIn_ret ⟨σ,h,hr,f⟩
 |rangeFunc g ps x y _ _=>intro ro n fs lo B w0 J r C p _ σ k a w _ h _;cases h
 |scope x _=>intro ro n fs lo B w0 J r C p _ σ k a w _ h _;cases h
 |goto l=>intro ro n fs lo B w0 J r C p _ σ k a w _ h _;cases h
 |refuse s=>intro ro n fs lo B w0 J r C p _ σ k a w _ h _;cases h
end
def iL (f:Array ø):ResultVar→Sem ø
 |.tmp t=>pure (f.getD t ê)
 |.cell t g=>do loadVar g (←asAddr (f.getD t ê))
section
variable {P:å}{tab:Tab}{B:Bd}{lo:Nat}{w0:æ}{J:Sb}{fs:List (List AV×List ø)}{σ:Sg}{a:Act}{c:Gh}
def eV {fn:Func}{g:Array ø}{R:Ending→æ→Prop}{n:Nat}:∀(l:List Nat) (c:Gh) (r:æ),Inv B r J c→l.Nodup→(∀D∈l,B≤D∧c.w.heap[D]? = ä (.deferred (ä []))) →
  (∀(f:Gh) (C:æ),f.heap=c.heap→Inv B C J f→Ev c f→Below B c.w f.w→f.w.drawn=c.w.drawn→(∀k,k ∉ l→f.w.heap[k]? = c.w.heap[k]?)→∃v,(results fn g).run P f.w = .ok v f.w∧R (.returned v) f.w) →
  LeavesInM (RF ö) n P fn g R (l.map λD=>{ target :=.collected D,args :=#[] }) .returning c.w
 |[],c,r,hI,_,_,h=>h c r rfl hI (Ev.refl c) (Below.refl _ _) rfl (λ_ _=>rfl)
 |D::l,c,r,hI,hnd,hall,h=>by
  obtain⟨hB,hD⟩:=hall D (m_ ..);obtain⟨U,T⟩:=aj7.1 hnd;obtain⟨hI2,hE2⟩:=hI.other (grownBy_putObj' c.w D (.deferred ö)) hD rfl;refine⟨Ψ,.inl ⟨D,_,rfl,run_takeDeferred hD, ?_⟩⟩;refine eV l { c with w:=c.w.putObj D (.deferred ö) } _ hI2 T (λD' p=>?_) (λf C q1 q2 q3 q4 q5 q6=>?_)
  ·obtain⟨h1,h2⟩:=hall D' (e_ _ p);have j:D'≠D:=λe=>U (by rw[←e];exact p);exact⟨h1,(World.putObj_heap_other j).trans h2⟩
  ·refine h f C q1 q2 (hE2.trans q3) (Below.trans ((Below.refl B c.w).grown (grownBy_putObj' c.w D (.deferred ö)) hI.size (λk e=>by cases e;exact hB)) q4) q5 (λk hk=>?_);rw[q6 k (λhm=>hk (e_ _ hm))];have j:k≠D:=λe=>hk (by rw[e];exact m_ ..);exact World.putObj_heap_other j
variable{u cz:AV}{l args:List AV}{vs:List ø}{fi:è→Option Fi}{hs:Hs}{U:Nat}{St' :Sb}{v:ø}{f:è}{x:Fi}{tys:List Ty}
def tn (tk:TabOk P tab)(hI:Inv B w0 J c)(hh:c.heap=σ.heap)(hE:RAs c σ.env a.tmps.toList){rv:ResultVar}(h:yO tab σ rv=ä u) :
  ∃v,(iL a.tmps rv).run P c.w = .ok v c.w∧RA c u [v]:=by
 cases rv with
 |tmp t=>
  have R:=ru hE (.tmp t);simp[R8,Act.eval]at R;simp[yO]at h;split at h
  ·cases h
  ·cases h;exact⟨_,by simp[iL],R⟩
 |cell t ty=>
  have R:=ru hE (.tmp t);simp only[R8,Act.eval]at R;simp only[yO]at h;split at h
  next k g hk=>
   rw[hk]at R;obtain⟨cells,hc,e⟩:=R;simp at e;split at h
   ·rename_i C p hc' ht;rw[hh]at hc;have:C=cells:=by
     simp[hc,HO.box.injEq]at hc';exact hc'.symm
    subst this;split at h
    ·rename_i x R;cases h;obtain⟨e7,t',h1,h2,h3⟩:=qi hI (by rw[hh];exact hc);have T:=ql R ((h2.drop g).take p.size);obtain⟨v,r,f⟩:=cE tk ht c.w ⟨c.kd k,g,ö⟩ _ T.size (λj u U=>by
      rw[cV,h3,←U,b_];have hj:j<p.size:=by
       obtain h|h:=i_ j p.size
       ·exact h
       ·rw[b_,ω Ω]at U;cases U
      rw[Θ hj,o_])
     refine⟨v, ?_,v,rfl,fG T f⟩;simp[iL,e,asAddr,r]
    ·split at h
     ·rename_i hs;simp at hs;cases h;obtain⟨hst,l⟩:=hs;unfold aek at l;split at l
      ·rename_i n hn;simp only[θ]at l;obtain⟨e7,t',h1,h2,h3⟩:=qi hI (by rw[hh];exact hc);have h4:=(h2.drop g).take p.size;obtain⟨_,_,s3⟩:=fD h4 l.2;have hsz:((e7.toList.drop g).take p.size).length=p.size:=by
        rw[←h4.length,ν l.1];obtain⟨i,z,q1,q2,q3,q4,_⟩:=tk.ty ty p ht;obtain⟨fs,i',z',f1,f2,f3,f4,f5,f6⟩:=tk.one ty n hn;rw[q1]at f4;injection f4 with f4;subst f4;rw[q3]at f5;injection f5 with f5;subst f5;rw[←f6,←Array.length_toList,q4];exact(fB (w:=c.w) (St:=c.St) p).size
       obtain⟨v,r,f⟩:=cE tk ht c.w ⟨c.kd k,g,ö⟩ _ hsz (λj u U=>by
        rw[cV,h3,←U,b_];have hj:j<p.size:=by
         obtain h|h:=i_ j p.size
         ·exact h
         ·rw[b_,ω Ω]at U;cases U
        rw[Θ hj,o_])
       have hv':v = .agg ((e7.toList.drop g).take p.size).toArray:=by rw[hst]at f;simpa using f
       subst hv';refine⟨_, ?_,_,rfl,RA.o6 h4,gJ _,s3⟩;simp[iL,e,asAddr,r]
      ·cases l
     ·cases h
   ·cases h
  ·cases h
def gY (g:TabOk P tab)(p:Inv B w0 J c)(j:c.heap=σ.heap)(r:RAs c σ.env a.tmps.toList):∀{f:List ResultVar} {l:List AV},eP tab σ f=ä l →
  ∃vs,(f.mapM (iL a.tmps)).run P c.w = .ok vs c.w∧RAs c l vs
 |[],l,h=>by cases h;exact⟨[],Ψ,apa⟩
 |rv::f,l,h=>by
  simp[eP]at h;split at h
  next u us h1 h2=>cases h;obtain⟨v,R,C⟩:=tn g p j r h1;obtain⟨vs,q1,q2⟩:=gY g p j r h2;refine⟨v::vs, ?_,C,q2⟩;rw[akk,π,R,χ,π,q1,χ];rfl
  ·cases h
def nO (h:RAs c l vs):RA c (pF l) [if h:vs.length=1 then vs[0]else .tuple vs.toArray]:=by
 match l,vs,h with
 |[],[],_=>exact⟨[],Ψ,rfl,rfl⟩
 |[u],[v],⟨g,_⟩=>simpa[pF]using g
 |u::u'::l,v::f::vs,h =>refine⟨v::f::vs,Ψ,RA.o6 h,gJ _⟩
def fE (f:TabOk P tab)(j:Inv B w0 J c)(g:c.heap=σ.heap)(p:RAs c σ.env a.tmps.toList){fn:Func}(h:eP tab σ fn.results.toList=ä l) :
  ∃v vs,(results fn a.tmps).run P c.w = .ok v c.w∧RAs c l vs∧v=(if h:vs.length=1 then vs[0]else .tuple vs.toArray):=by
 obtain⟨vs,C,r⟩:=gY f j g p h;refine⟨_,vs, ?_,r,rfl⟩;have e:results fn a.tmps=(do let vs ←fn.results.mapM (iL a.tmps);pure (if h:vs.size=1 then vs[0]else .tuple vs)):=by unfold results;congr 2
 rw[e,H?,π,akL,π,C,χ];simp
structure FiOk (P:å)(f:è)(x:Fi):Prop where
 fn:∃fn,P.funcs[f]? = ä fn∧fn.body=ä x.code∧fn.ntmps=x.ntmps∧fn.results.toList=x.results∧(fn.name == "runtime.NumGoroutine")=ß
 tab:TabOk P x.S.tab
 az:SpecsOk P x.S.T
def qe (h:RAs c l vs)(n:Nat):RAs c (l++List.replicate n .unk) (vs++List.replicate n ê) :=
 h.append (DK Ψ)
def Hl (P:å)(hs:Hs):Prop:=∀f args j out g,hs f args j=ä (ü,out,g)→bA P f ∧
 ∀(B:Bd) (w0:æ) (J:Sb) (c:Gh),Inv B w0 J c→c.heap=j→∀vs,RAs c args vs →
  Calls P f vs.toArray c.w λe p=>∃v l,e = .returned v∧l.heap=g∧g.length=j.length∧l.w=p∧Inv B w0 J l∧Ev c l∧RA l out [v]
def nQ (hm:P.follows .mixedOrders=ü){fi:è→Option Fi}{hs:Hs}{U:Nat}(hfi:∀f x,fi f=ä x→FiOk P f x)(hhs:Hl P hs):∀d yk Γ,TL P yk Γ→uD P (UL fi hs U d yk) Γ
 |d,yk,Γ,hyk,.yld j,args,g,k,r,h=>hyk j args g k r (by cases d <;> exact h)
 |0,yk,Γ,hyk,.fn f,args,g,k,r,h=>by cases h
 |d+1,yk,Γ,hyk,.fn f,args,g,k,r,h=>by
  simp[UL]at h;split at h
  next b out heap' hsf=>
   cases b with
   |false=>cases h
   |true =>obtain⟨T,h2⟩:=hhs f args g out heap' hsf;refine λfs B w0 J c hI hh vs hr hfs hcx=>⟨T,(h2 B w0 J c hI hh vs hr).mono ?_⟩;rintro e w' ⟨v,C,he,q1,q2,q3,q4,q5,q6⟩;exact⟨v,out,C,he,by rw[q1];exact h,q3,q4,q6,by rw[q1,q2];exact ε _,λfr hfr=>(hfs fr hfr).1.mono q5⟩
  split at h
  next x hx=>
   obtain⟨⟨fn,f1,f2,f3,f4,f5⟩,tk,ts⟩:=hfi f x hx;refine λfs B w0 J c hI hh vs hr hfs hcx=>⟨⟨fn,f1,by simp[f2],f5⟩, ?_⟩;refine callsIn_wide.1 (callsIn_of_wp_marks (F:=RF ö) (n:=0) f1 f2 trivial (wpIn_mono (mA hm tk ts ⟨nQ hm hfi hhs d yk Γ hyk,nQ hm hfi hhs d⟩ x.code ö 0 fs g.length B w0 J r (λ_ e=>by cases e) hcx (.inl rfl) _ _ _ c.w (ε _) h ⟨c,w0,rfl,hh,hI, ?_,uB.none B w0,hfs⟩) λe a w hn=>?_))
   ·have:=qe hr (x.ntmps-args.length);rw[f3];have hlen:=hr.length;simpa[hlen]using this
   ·have fin:∀p,(match eP x.S.tab p x.results with|some l=>k (pF l) p.heap|none=>ö)=ä r→Rel fs g.length B w0 J p a w∧g.length≤p.heap.length→LeavesInM (RF ö) 0 P fn a.tmps (λe w=>∃v' out C,e = .returned v'∧k out C.heap=ä r∧C.w=w∧Inv B w0 J C∧RA C out [v']∧g.length≤C.heap.length∧∀fr∈fs,RAs C fr.1 fr.2) a.defers .returning w:=by
     rintro p T ⟨⟨c1,w1,rfl,hh1,R,hE1,⟨hb1,ho1,ms,hms,hnod,hmk⟩,hfs1⟩,hle⟩;rw[hms];refine eV ms c1 w1 R hnod (λD hD=>⟨(hmk D hD).1,R.drawn.keep D _ (hmk D hD).2.2.1 rfl⟩) (λC w2 g1 hI2 hE2 g4 g5 g6=>?_);have hh':C.heap=p.heap:=g1.trans hh1;have hE':=hE1.mono hE2;have ho':Og B.F w0 C.w:=⟨Y' _,λk o x y=>by
      rw[g6 k (λhm=>by have:=(hmk k hm).2.1;have:=(δ.1 x).1;omega)];exact(ho1.trans R.drawn).keep k o x y,λk f=>by
      rw[g6 k (λhm=>(hmk k hm).2.2.2 f)];exact(ho1.trans R.drawn).kb k f⟩
     have hI':Inv B w0 J C:=hI2.base ((hb1.trans R.below).trans g4) ho';split at T
     next l hl=>rw[←f4]at hl;obtain⟨v,vs',q1,q2,q3⟩:=fE tk hI' hh' hE' hl;exact⟨v,q1,v,pF l,C,rfl,by rw[hh'];exact T,rfl,hI',by rw[q3];exact nO q2,by rw[hh'];exact hle,λfr hfr=>(hfs1 fr hfr).1.mono hE2⟩
     ·cases T
    cases e with
    |normal=>obtain⟨p,T,h2⟩:=hn;exact fin p T h2
    |ret=>obtain⟨p,T,h2⟩:=hn;exact fin p T h2
    |exit id=>obtain⟨p,T,_⟩:=hn;cases T
    |goto l=>exact hn.elim
    |panic ch=>exact hn.elim
    |outgrown=>exact hn.elim
  ·cases h
def FV (l:P.follows .mixedOrders=ü)(j:∀f x,fi f=ä x→FiOk P f x)(g:Hl P hs)(d:Nat):CkOk P (bo fi hs U d) [] :=
 ⟨nQ l j g d noY [] (λ_ _ _ _ _ h=>by cases h),nQ l j g d⟩
def dJ (R:Inv B w0 J c)(p:c.St.le St')(T:∀k b o t e v l,c.heap[k]? = ä (.cu t e v l)→(c.rv k).ownBlock=ä b→St' b o){t:Ty}{x:t.den}(h:Fo c.heap t u=ä x)(r:RA c u [v]):RepV c.w St' t x v:=by
 have plain:∀{t:Ty} {u:AV} {x:t.den},one? t u=ä x→RA c u [v]→RepV c.w St' t x v:=λh r=>(one?_sound h r).mono p (λ_ _ _ _ x=>x);unfold Fo at h;split at h
 next k ver lo hi=>
  split at h
  next τ=>
   split at h
   ·rename_i C e v' l j;split at h
    ·rename_i q1;subst q1;split at h
     next l2 hc=>obtain⟨U,g⟩:=cast?_some hc;cases U;have g:l2=l:=g;subst g;cases h;have f:=fJ r j;obtain⟨xs,m1,m2,m3⟩:=R.cu k _ _ _ _ j;exact(repv_cell rfl).2 (LT (B:=B) (e:=e) (xs:=xs) m1 (m2.mono p (λ_ _ _ _ x=>x)) (λb o P=>T k b o _ _ _ _ j P) f)
     ·cases h
    ·cases h
   ·cases h
  ·cases h
 ·exact plain h r
def x8 (f:Inv B w0 J c){St':Sb}(j:c.St.le St')(g:∀k b o t e v l,c.heap[k]? = ä (.cu t e v l)→(c.rv k).ownBlock=ä b→St' b o):∀{t:Ty} {l:List AV} {x:t.den} {vs:List ø},YN c.heap t l=ä x→RAs c l vs→Rep c.w St' (toD t x) vs
 |.int k,[a],x,[v],h,r=>(repv_cell rfl).1 (dJ f j g h r.1)
 |.bool,[a],x,[v],h,r=>(repv_cell rfl).1 (dJ f j g h r.1)
 |.str,[a],x,[v],h,r=>(repv_cell rfl).1 (dJ f j g h r.1)
 |.slice t,[a],x,[v],h,r=>(repv_cell rfl).1 (dJ f j g h r.1)
 |.unit,[],x,[],h,r=>rfl
 |.cons a b,l,x,vs,h,r=>by
  simp[YN]at h;split at h
  next y z hy hz=>have:x=(y,z):=(Δ h).symm;subst this;exact⟨_,_,(G? a.size vs).symm,x8 f j g hy (r.take _),x8 f j g hz (r.drop _)⟩
  ·cases h
 |.tree,[a,b,d,e],x,[P,C,p,v4],h,r=>by
  simp[YN]at h;split at h
  next k t ls ks q1 q2 q3 q4=>have:x=Tree.mk k t ls ks:=(Δ h).symm;subst this;obtain⟨r1,U,T,R,_⟩:=r;refine⟨[P],[C,p,v4],rfl,(repv_cell rfl).1 (dJ f j g q1 r1),[C],[p,v4],rfl,(repv_cell rfl).1 (dJ f j g q2 U),[p],[v4],rfl,(repv_cell rfl).1 (dJ f j g q3 T),[v4],[],rfl, ?_,rfl⟩;rw[iH];exact(repv_cell rfl).1 (dJ f j g q4 R)
  ·cases h
def Tw (f:Inv B w0 J c)(j:c.St.le St')(g:∀k b o t e v l,c.heap[k]? = ä (.cu t e v l)→(c.rv k).ownBlock=ä b→St' b o){t:Ty}{x:t.den}(h:afC c.heap t u=ä x)(r:RA c u [v]):RepV c.w St' t x v:=by
 cases u with
 |agg p=>
  simp only[afC]at h;split at h
  next hs=>obtain⟨R,e,C,P,_⟩:=r;simp at e;subst e;unfold RepV;rw[Θ hs];exact⟨R,rfl,x8 f j g h (C.parts P)⟩
  ·cases h
 |_=>simp[afC]at h;exact dJ f j g h r
def GT (j:Inv B w0 J c){St':Sb}(C:c.St.le St')(p:∀k b o t e v l,c.heap[k]? = ä (.cu t e v l)→(c.rv k).ownBlock=ä b→St' b o):∀{g:List Ty} {l f:List AV} {vs:List ø},ach c.heap g l=ä f→RAs c l vs→RAs (aG c.w St') f vs
 |[],[],f,[],h,_=>by cases h;trivial
 |t::g,u::l,f,v::vs,h,⟨r,P⟩=>by
  simp[ach]at h;split at h
  next x r' R hr'=>cases h;exact⟨⟨v,rfl,Tw j C p R r⟩,GT j C p hr' P⟩
  ·cases h
def x9 {w:æ}{St:Sb}:∀{f:List ((t:Ty)×t.den)} {vs:List ø},RepVs w St f vs→RAs (aG w St) (f.map λd=>.val d.1 d.2) vs
 |[],[],_=>trivial
 |_::_,v::_,⟨h,hs⟩=>⟨⟨v,rfl,h⟩,x9 hs⟩
def HB (hm:P.follows .mixedOrders=ü)(hfi:∀f x,fi f=ä x→FiOk P f x)(hhs:Hl P hs){d:Nat}(hx:FiOk P f x)
  (h:exec (bo fi hs U d) x.S 0 U x.code ⟨args++List.replicate (x.ntmps-args.length) .unk,[]⟩ (bq x.S.tab x.results tys)=ä cz):bA P f∧∀w St,(∀b e cap n,¬St.j b e cap n)→(∀b o,St b o→b<w.heap.size)→∀vs,RAs (aG w St) args vs→Calls P f vs.toArray w (Hj w St cz):=by
 obtain⟨⟨fn,f1,f2,f3,f4,f5⟩,tk,ts⟩:=hx;refine⟨⟨fn,f1,by simp[f2],f5⟩,λw St hJ hb vs hr=>?_⟩;have hI:Inv ⟨w.heap.size,λ_=>False⟩ w St (aG w St):=⟨Below.refl _ _,ε _,hb,Sb.le.refl _,λ_ _ x=>.inl x,λk cells J=>by simp[aG]at J,λk t e v J=>by simp[aG]at J,λk k' b _ J=>by simp[obk,aG]at J,λk t e v l J=>by simp[aG]at J,Og.refl _,λ_ _ _ f=>f,λ_ f=>f.elim,hJ,λ_ _ _ _ x=>.inl x⟩;have hrs:=hr;refine callsIn_wide.1 (callsIn_of_wp_marks (F:=RF ö) (n:=0) f1 f2 trivial (wpIn_mono (mA hm tk ts (FV hm hfi hhs d) x.code ö 0 [] 0 ⟨w.heap.size,λ_=>False⟩ w St cz (λ_ e=>by cases e) (λ_ h=>by cases h) (.inl rfl) _ _ _ w (Y' _) h ⟨aG w St,w,rfl,rfl,hI, ?_,uB.none _ _,λ_ hfr=>by cases hfr⟩) λe a w' T=>?_))
 ·have:=qe hrs (x.ntmps-args.length);rw[f3];have hlen:=hrs.length;simpa[hlen]using this
 ·have fin:∀g,(match eP x.S.tab g x.results with|some l=>(match ach g.heap tys l with|some l=>ä (pF l)|none=>ö)|none=>ö)=ä cz→Rel [] 0 ⟨w.heap.size,λ_=>False⟩ w St g a w'∧0≤g.heap.length→LeavesInM (RF ö) 0 P fn a.tmps (Hj w St cz) a.defers .returning w':=by
   rintro g C ⟨⟨c1,w1,rfl,hh1,r,hE1,⟨hb1,ho1,ms,hms,hnod,R⟩,_⟩,_⟩;rw[hms];refine eV ms c1 w1 r hnod (λD hD=>⟨(R D hD).1,r.drawn.keep D _ (R D hD).2.2.1 rfl⟩) (λc' w2 g1 hI2 hE2 g4 g5 g6=>?_);have hh':c'.heap=g.heap:=g1.trans hh1;have hE':=hE1.mono hE2;have ho':Og (λ_=>False) w c'.w:=⟨Y' _,λk o x y=>by
    rw[g6 k (λhm=>by have:=(R k hm).2.1;have:=(δ.1 x).1;omega)];exact(ho1.trans r.drawn).keep k o x y,λk f=>by
    rw[g6 k (λhm=>(R k hm).2.2.2 f)];exact(ho1.trans r.drawn).kb k f⟩
   have p:Inv ⟨w.heap.size,λ_=>False⟩ w St c':=hI2.base ((hb1.trans r.below).trans g4) ho';split at C
   ·rename_i l hl;rw[←f4]at hl;obtain⟨v,vs',q1,q2,q3⟩:=fE tk p hh' hE' hl;split at C
    ·rename_i l' hl';cases C;rw[←hh']at hl';let Q:Nat→Prop:=λb=>∃e cap n,c'.St.j b e cap n∧Jk ⟨w.heap.size,λ_=>False⟩ c' b e cap n;let S2:Sb:=⟨λb o=>c'.St b o∨((w.heap.size≤b∧b<c'.w.heap.size)∧¬Q b),c'.St.j⟩;refine⟨v,q1,v,S2,rfl,p.below,p.drawn.dr,⟨λb o x=>.inl (p.st0.s b o x),p.st0.j⟩,λb o x=>?_,λb e cap n x=>?_,by rw[q3];exact nO (GT p (St':=S2) ⟨λ_ _ x=>.inl x,λ_ _ _ _ x=>x⟩ (λk b o t e v l J hb=>Or.inr ⟨by obtain⟨xs,m1,_⟩:=p.cu k t e v l J;exact m1.lt b hb,λ⟨_,_,_,_,q⟩=>q.own k (by unfold obk;rw[J];exact hb)⟩) hl' q2)⟩
     rotate_left 1
     ·refine(p.vh b e cap n x).imp id λq=>⟨q.lo,q.le,q.cells,λo y=>?_⟩;obtain y|y:=y
      ·exact q.free o y
      ·exact y.2 ⟨e,cap,n,x,q⟩
     obtain x|⟨x,_⟩:=x
     ·obtain y|y:=p.stN b o x
      ·exact .inl y
      ·exact .inr ⟨y.1,p.to b o x⟩
     ·exact .inr x
    ·cases C
   ·cases C
  cases e with
  |normal=>obtain⟨g,C,h2⟩:=T;exact fin g C h2
  |ret=>obtain⟨g,C,h2⟩:=T;exact fin g C h2
  |exit id=>obtain⟨g,C,_⟩:=T;cases C
  |goto l=>exact T.elim
  |panic ch=>exact T.elim
  |outgrown=>exact T.elim
def iX (hm:P.follows .mixedOrders=ü)(p:∀f x,fi f=ä x→FiOk P f x)(l:Hl P hs){d:Nat}(hx:FiOk P f x)
  (h:mT fi hs d x tys U args=ä cz):bA P f∧∀w St,(∀b o,St b o→b<w.heap.size)→∀vs,RAs (aG w St) args vs→Calls P f vs.toArray w (Hj w St cz):=by
 unfold mT at h;split at h
 next g=>
  obtain⟨h1,h2⟩:=HB hm p l hx h;refine⟨h1,λw St hb vs hr=>(h2 w { s:=St.s } (λ_ _ _ _ f=>f) hb vs (RAs.nj (c:=aG w St) (c':=aG w { s:=St.s }) rfl rfl rfl rfl rfl (λ_ _ x=>x) g hr)).mono ?_⟩;rintro e r ⟨v,St',e1,q1,q2,T,R,J,C⟩;refine⟨v,⟨St'.s,λb e cap n=>St'.j b e cap n∨St.j b e cap n⟩,e1,q1,q2,⟨T.s,λ_ _ _ _ x=>.inr x⟩,R,λb e cap n x=>?_,C.mono (PS (St:=St') (c':=aG r ⟨St'.s,λb e cap n=>St'.j b e cap n∨St.j b e cap n⟩) ⟨λ_ _ x=>x,λ_ _ _ _ x=>.inl x⟩)⟩;obtain x|x:=x
  ·have q:=(J b e cap n x).resolve_left λf=>f;exact .inr ⟨q.lo,q.le,q.cells,q.free⟩
  ·exact .inl x
 ·cases h
def bi (r:P.follows .mixedOrders=ü)(j:∀f x,fi f=ä x→FiOk P f x)(g:Hl P hs){d:Nat}(l:FiOk P f x){ds:List ((t:Ty)×t.den)}
  (h:mT fi hs d x tys U (ds.map λd=>.val d.1 d.2)=ä cz):MeetsD P f ds cz :=
 let ⟨R,J⟩:=iX r j g l h
 ⟨R,λw St C vs p=>J w St C vs (x9 p)⟩
end
def veq:ø→ø→Bool
 |.int k n,.int j g=>decide (k=j)&&decide (n=g)
 |.bool b,.bool l=>decide (b=l)
 |.string s,.string f=>decide (s.data.toList=f.data.toList)
 |.slice ö 0 0,.slice ö 0 0=>ü
 |_,_=>ß
def agY {a b:ø}(h:veq a b=ü):a=b:=by
 unfold veq at h;split at h
 ·simp only[θ,υ]at h;obtain⟨rfl,rfl⟩:=h;rfl
 ·simp only[υ]at h;subst h;rfl
 next s s'=>simp only[υ]at h;obtain⟨⟨l⟩⟩:=s;obtain⟨⟨f⟩⟩:=s';simp only at h;subst h;rfl
 ·rfl
 ·cases h
def adD:List ø→List ø→Bool
 |[],[]=>ü
 |a::l,b::m=>veq a b&&adD l m
 |_,_=>ß
def TU:∀{l m:List ø},adD l m=ü→l=m
 |[],[],_=>rfl
 |a::l,b::m,h=>by simp[adD]at h;rw[agY h.1,TU h.2]
def afT (ty:é→Option Ty):List Field→List Ty→Nat→Bool
 |[],[],_=>ü
 |f::fs,a::as,off=>(match ty f.type with|some b=>decide (b.size=a.size)&&decide (b.an=a.an)&&(!a.j5||decide (b=a))|none=>ß)&&decide (f.offset=off)&&decide (0<a.size)&&decide (f.name ≠ "_")&&afT ty fs as (off+a.size)
 |_,_,_=>ß
def Vu {p:é→Option Ty}:∀{j:List Field} {l:List Ty} {g:Nat},afT p j l g=ü→FOk p j l g
 |[],[],_,_=>trivial
 |f::j,a::l,g,h=>by
  simp[afT]at h;refine⟨?_,h.1.1.1.2,h.1.1.2,h.1.2,Vu h.2⟩;have q:=h.1.1.1.1;split at q
  next b C=>simp at q;refine⟨b,C,q.1.1,q.1.2,λr=>?_⟩;have:=q.2;rw[r]at this;simpa using this
  ·cases q
def ajg (P:å)(f:Tab)(t:é)(g:Ty):TypeDesc→Bool
 |.int k=>decide (g = .int k)
 |.bool=>decide (g = .bool)
 |.string=>decide (g = .str)
 |.slice e=>match g with
  |.slice a=>decide (f.ty e=ä a)&&decide (f.elem t=ä e)&&decide (0<a.size)
  |.jsl l=>decide (l=e)&&decide (f.elem t=ä e)&&(match f.ty e with|some a=>decide (a.size=1)|none=>ß)
  |_=>ß
 |.struct j=>g.an && !P.stoodInHeld t && !P.eqGuardType P.depth t&&afT f.ty j.toList g.fields 0
 |_=>ß
def HS (P:å)(g:Tab)(t:é)(f:Ty):Bool :=
 match P.info? t,P.underlying t with
 |some i,ä d=>decide (i.size=f.size)&&decide (i.bytes≤16384)&&(match i.zero with|some z=>adD z.cells.toList (zl f)&&(!f.an||(match z with|.agg _=>ü|_=>ß))|none=>ß)&&ajg P g t f d
 |_,_=>ß
variable{P:å}{t:é}{n:Nat}{f:è}
def afR {j:Tab}{g:Ty}(h:HS P j t g=ü):∃i z,P.info? t=ä i∧i.size=g.size∧i.zero=ä z∧z.cells.toList=zl g∧i.bytes≤16384∧(g.an=ü→∃cs,z = .agg cs)∧VJ P j t g:=by
 unfold HS at h;split at h
 next i d hi l=>
  simp at h;obtain⟨⟨⟨h1,h2⟩,p⟩,f⟩:=h;split at p
  next z U=>
   simp at p;refine⟨i,z,hi,h1,U,TU p.1,h2,λR=>?_, ?_⟩
   ·have:=p.2;rw[R]at this;simp at this;split at this
    ·exact⟨_,rfl⟩
    ·cases this
   ·unfold ajg at f;split at f
    ·have:=t_ f;subst this;exact l
    ·have:=t_ f;subst this;exact l
    ·have:=t_ f;subst this;exact l
    ·split at f
     next e J a=>simp at f;exact⟨_,l,f.1.1,f.1.2,f.2⟩
     ·rename_i e J e';simp at f;obtain⟨⟨rfl,q1⟩,q2⟩:=f;split at q2
      next a T=>exact⟨a,l,T,t_ q2,q1⟩
      ·cases q2
     ·cases f
    next C=>simp at f;have r:∃C,P.underlying t=ä (.struct C)∧P.stoodInHeld t=ß∧P.eqGuardType P.depth t=ß∧FOk j.ty C.toList g.fields 0:=⟨C,l,f.1.1.2,f.1.2,Vu f.2⟩;have R:=f.1.1.1;cases g <;> simp[Ty.an]at R <;> exact r
    ·cases f
  ·cases p
 ·cases h
def ais (P:å)(f:Tab)(t:é)(n:Nat):Bool :=
 match P.info? t,P.underlying t with
 |some i,ä d=>decide (i.size=n)&&(match i.zero with|some z=>decide (z.cells.size=n)|none=>ß)&&((f.ty t).isSome || !decide (n=1)||tw d)
 |_,_=>ß
def afU {f:Tab}(h:ais P f t n=ü):∃i z d,P.info? t=ä i∧i.size=n∧i.zero=ä z∧z.cells.size=n∧P.underlying t=ä d∧(f.ty t=ö→n=1→tw d=ü):=by
 unfold ais at h;split at h
 next i d r C=>
  simp at h;obtain⟨⟨J,g⟩,h3⟩:=h;split at g
  next z l=>refine⟨i,z,d,r,J,l,t_ g,C,λp j=>?_⟩;simpa[p,j]using h3
  ·cases g
 ·cases h
def air (P:å)(t:é)(i d:Nat):Bool :=
 match P.underlying t with
 |some (.struct fs)=>match fs[i]? with
  |some f=>decide (f.offset=d)&&(match P.info? f.type with|some j=>decide (0<j.size)|none=>ß)
  |none=>ß
 |_=>ß
def afS {i d:Nat}(h:air P t i d=ü):∃g f j,P.underlying t=ä (.struct g)∧g[i]? = ä f∧f.offset=d∧P.info? f.type=ä j∧0<j.size:=by
 unfold air at h;split at h
 next g p=>
  split at h
  next f C=>
   simp at h;obtain⟨J,l⟩:=h;split at l
   next j r=>exact⟨g,f,j,p,C,J,r,t_ l⟩
   ·cases l
  ·cases h
 ·cases h
def aiu (P:å)(t:é)(n:Nat):Bool :=
 match P.underlying t,P.info? t with
 |some (.struct fs),ä i=>Nat.beq fs.size n&&(List.range n).all (λk=>match fs[k]? with|some f=>Nat.beq f.offset k&&(match P.info? f.type with|some j=>Nat.beq j.size 1|none=>ß)|none=>ß)&&(match i.zero with|some z=>Nat.beq z.cells.size n|none=>ß)
 |_,_=>ß
def afW (h:aiu P t n=ü):∃g i z,P.underlying t=ä (.struct g)∧g.size=n∧(∀(k:Nat) f,g[k]? = ä f→f.offset=k∧∃j,P.info? f.type=ä j∧j.size=1)∧P.info? t=ä i∧i.zero=ä z∧z.cells.size=n:=by
 unfold aiu at h;split at h
 next g i R hi=>
  simp only[θ,P',N_]at h;obtain⟨⟨l,h2⟩,r⟩:=h;have l:=ν l;split at r
  next z J=>
   refine⟨g,i,z,R,l,λk f C=>?_,hi,J,ν r⟩;have T:k<n:=by rw[←l];exact(δ.1 C).1
   have:=h2 k T;rw[C]at this;simp only[θ]at this;refine⟨ν this.1, ?_⟩;have p:=this.2;split at p
   next j U=>exact⟨j,U,ν p⟩
   ·cases p
  ·cases r
 ·cases h
def ait (P:å)(t:é)(n:Nat):Bool :=
 match P.underlying t,P.info? t with
 |some (.array m e),ä i=>Nat.beq m n&&(match P.info? e with|some j=>Nat.beq j.size 1|none=>ß)&&(match i.zero with|some z=>Nat.beq z.cells.size n|none=>ß)
 |_,_=>ß
def afV (h:ait P t n=ü):∃e i z j,P.underlying t=ä (.array n e)∧P.info? e=ä j∧j.size=1∧P.info? t=ä i∧i.zero=ä z∧z.cells.size=n:=by
 unfold ait at h;split at h
 next m e i r J=>
  simp only[θ]at h;obtain⟨⟨l,g⟩,f⟩:=h;have l:=ν l;split at g
  next j C=>
   split at f
   next z p=>exact⟨e,i,z,j,by rw[r,l],C,ν g,J,p,ν f⟩
   ·cases f
  ·cases g
 ·cases h
structure TabL where
 ty:List (é×Ty)
 cells:List (é×Nat)
 si:List ((é×Nat)×Nat)
 elem:List (é×é)
 one:List (é×Nat)
 inp:List Nat:=[]
 e7:List (é×Nat):=[]
def look {f:Type}:List (Nat×f)→Nat→Option f
 |[],_=>ö
 |(k,v)::r,i=>match Nat.beq k i with
  |true=>ä v
  |false=>look r i
def UN:List ((Nat×Nat)×Nat)→Nat→Nat→Option Nat
 |[],_,_=>ö
 |((k,j),v)::r,i,q=>match Nat.beq k i&&Nat.beq j q with
  |true=>ä v
  |false=>UN r i q
def l7 {f:Type}:∀{l:List (Nat×f)} {i:Nat} {v:f},look l i=ä v→(i,v)∈l
 |[],_,_,h=>by cases h
 |(k,u)::r,i,v,h=>by
  simp[look]at h;split at h
  next hb=>have:=ν hb;simp at h;subst this;subst h;simp
  ·exact e_ _ (l7 h)
def IW:∀{l:List ((Nat×Nat)×Nat)} {i q v:Nat},UN l i q=ä v→((i,q),v)∈l
 |[],_,_,_,h=>by cases h
 |((k,j),u)::r,i,q,v,h=>by
  simp[UN]at h;split at h
  next hb=>simp only[θ]at hb;have g:=ν hb.1;have f:=ν hb.2;simp at h;subst g;subst f;subst h;simp
  ·exact e_ _ (IW h)
def TabL.tab (l:TabL):Tab:=⟨look l.ty,look l.cells,UN l.si,look l.elem,look l.one,λt=>l.inp.any (Nat.beq t),look l.e7⟩
def TabL.xb (P:å)(l:TabL):Bool :=
 l.ty.all (λp=>HS P l.tab p.1 p.2)&&l.cells.all (λp=>ais P l.tab p.1 p.2)&&l.si.all (λp=>air P p.1.1 p.1.2 p.2)&&l.elem.all (λp=>match P.underlying p.1 with|some (.slice e)=>Nat.beq e p.2|_=>ß)&&l.one.all (λp=>aiu P p.1 p.2)&&l.e7.all (λp=>ait P p.1 p.2)
def TabL.ok {l:TabL}(h:l.xb P=ü):TabOk P l.tab:=by
 simp only[TabL.xb,θ,P']at h;obtain⟨⟨⟨⟨⟨J,C⟩,r⟩,h4⟩,p⟩,j⟩:=h;refine⟨λt g f=>afR (J (t,g) (l7 f)),λt n f=>afU (C (t,n) (l7 f)),λt i d f=>afS (r ((t,i),d) (IW f)),λt e f=>?_,λt n f=>afW (p (t,n) (l7 f)),λt n f=>afV (j (t,n) (l7 f))⟩;have:=h4 (t,e) (l7 f);simp only at this;split at this
 next e' hu=>rw[hu,ν this]
 ·cases this
abbrev Ent:=List AV→Option (Bool×AV)
def sp0 (R:AV):Ent:=λargs=>match args with|[]=>ä (ü,R)|_=>ö
def sp1 (a:Ty)(G:a.den→Bool)(R:a.den→AV):Ent:=λargs=>match args with
 |[x]=>match bb? a x with|some x=>ä (G x,R x)|none=>ö
 |_=>ö
def sp2 (a b:Ty)(G:a.den→b.den→Bool)(R:a.den→b.den→AV):Ent:=λargs=>match args with
 |[x,y]=>match bb? a x,bb? b y with|some x,ä y=>ä (G x y,R x y)|_,_=>ö
 |_=>ö
def sp3 (a b c:Ty)(G:a.den→b.den→c.den→Bool)(R:a.den→b.den→c.den→AV):Ent:=λargs=>match args with
 |[x,y,z]=>match bb? a x,bb? b y,bb? c z with|some x,ä y,ä z=>ä (G x y z,R x y z)|_,_,_=>ö
 |_=>ö
def sp4 (a b c d:Ty)(G:a.den→b.den→c.den→d.den→Bool)(R:a.den→b.den→c.den→d.den→AV):Ent:=λargs=>match args with
 |[x,y,z,u]=>match bb? a x,bb? b y,bb? c z,bb? d u with|some x,ä y,ä z,ä u=>ä (G x y z u,R x y z u)|_,_,_,_=>ö
 |_=>ö
def aj (P:å)(f:è)(e:Ent):Prop:=∀args cz,e args=ä (ü,cz)→Hk P f args cz
def ahf {R:AV}(h:MeetsD P f [] R):aj P f (sp0 R):=λargs cz g=>by
 unfold sp0 at g;split at g
 ·cases g;exact kW (ds:=[]) trivial h
 ·cases g
def qS {a:Ty}{G:a.den→Bool}{R:a.den→AV}(h:∀x,G x=ü→MeetsD P f [⟨a,x⟩] (R x)):aj P f (sp1 a G R):=λargs cz g=>by
 unfold sp1 at g;split at g
 ·split at g
  next x j=>simp at g;obtain⟨l,rfl⟩:=g;exact kW (ds:=[⟨a,x⟩]) ⟨j,apa⟩ (h x l)
  ·cases g
 ·cases g
def Kw {a b:Ty}{G:a.den→b.den→Bool}{R:a.den→b.den→AV}(h:∀x y,G x y=ü→MeetsD P f [⟨a,x⟩,⟨b,y⟩] (R x y)):aj P f (sp2 a b G R):=λargs cz g=>by
 unfold sp2 at g;split at g
 ·split at g
  next x y l j=>simp at g;obtain⟨p,rfl⟩:=g;exact kW (ds:=[⟨a,x⟩,⟨b,y⟩]) ⟨l,j,apa⟩ (h x y p)
  ·cases g
 ·cases g
def ZQ {a b c:Ty}{G:a.den→b.den→c.den→Bool}{R:a.den→b.den→c.den→AV}(h:∀x y z,G x y z=ü→MeetsD P f [⟨a,x⟩,⟨b,y⟩,⟨c,z⟩] (R x y z)):aj P f (sp3 a b c G R):=λargs cz g=>by
 unfold sp3 at g;split at g
 ·split at g
  next x y z p l j=>simp at g;obtain⟨r,rfl⟩:=g;exact kW (ds:=[⟨a,x⟩,⟨b,y⟩,⟨c,z⟩]) ⟨p,l,j,apa⟩ (h x y z r)
  ·cases g
 ·cases g
def ZP {a b c d:Ty}{G:a.den→b.den→c.den→d.den→Bool}{R:a.den→b.den→c.den→d.den→AV}(h:∀x y z u,G x y z u=ü→MeetsD P f [⟨a,x⟩,⟨b,y⟩,⟨c,z⟩,⟨d,u⟩] (R x y z u)):aj P f (sp4 a b c d G R):=λargs cz g=>by
 unfold sp4 at g;split at g
 ·split at g
  next x y z u p l j r=>simp at g;obtain⟨C,rfl⟩:=g;exact kW (ds:=[⟨a,x⟩,⟨b,y⟩,⟨c,z⟩,⟨d,u⟩]) ⟨p,l,j,r,apa⟩ (h x y z u C)
  ·cases g
 ·cases g
def ahb (g:è)(a b:Ty)(G:a.den→b.den→Bool)(R:a.den→b.den→AV):Ent:=λargs=>match args with
 |[x,y,.fn g' .pnil]=>match Nat.beq g g' with
  |true=>match bb? a x,bb? b y with|some x,ä y=>ä (G x y,R x y)|_,_=>ö
  |false=>ö
 |_=>ö
def Dw {c r:Gh}{g:è}{j:List ø}(h:RA c (.fn g .pnil) j):RA r (.fn g .pnil) j:=by obtain⟨p,e,f,l⟩:=h;exact⟨p,e,f,l⟩
def adO {g:è}{a b:Ty}{G:a.den→b.den→Bool}{R:a.den→b.den→AV}
  (h:∀x y,G x y=ü→bA P f∧∀w St,(∀b o,St b o→b<w.heap.size)→∀l,RAs (aG w St) [.val a x,.val b y,.fn g .pnil] l→Calls P f l.toArray w (Hj w St (R x y))):aj P f (ahb g a b G R):=λargs cz j=>by
 unfold ahb at j;split at j
 next x0 y0 g'=>
  split at j
  next p=>
   have p:=ν p;subst p;split at j
   ·rename_i x y hx hy;simp at j;obtain⟨h1,rfl⟩:=j;obtain⟨k1,U⟩:=h x y h1;refine⟨λw St l=>RAs (aG w St) [.val a x,.val b y,.fn g .pnil] l,λc l hr=>?_,k1,U⟩;match l,hr with
    |[C,r,v3],⟨r1,T,J,_⟩=>exact⟨⟨C,rfl,(bb?_sound (c:=c) hx r1:RepV c.w c.St a x C)⟩,⟨r,rfl,(bb?_sound (c:=c) hy T:RepV c.w c.St b y r)⟩,Dw J,apa⟩
   ·cases j
  ·cases j
 ·cases j
def Mm (l:List (Nat×Ent))(f:è)(args:List AV):Option (Bool×AV):=match look l f with
 |some e=>e args
 |none=>ö
def az (l:List (Nat×Ent)):Specs:={ call:=Mm l }
def Et (l:List (Nat×Ent))(_ _ _:List Nat)(f:List (Nat×Nw)):Specs:={ call:=Mm l,nw:=look f }
def bD (P:å):List (Nat×Ent)→Prop
 |[]=>True
 |(f,e)::r=>aj P f e∧bD P r
def d7:Hl P hs0:=λ_ _ _ _ _ h=>by cases h
variable{l:List (Nat×Ent)}
def JO (h:bD P l):∀f args cz,Mm l f args=ä (ü,cz)→Hk P f args cz:=λf args cz j=>by
 unfold Mm at j;split at j
 next e hl=>
  have:∀{l:List (Nat×Ent)},bD P l→look l f=ä e→aj P f e:=by
   intro l;induction l with
   |nil=>intro _ h;cases h
   |cons p r J=>
    obtain⟨k,R⟩:=p;intro C g;simp[look]at g;split at g
    next hb=>have:=ν hb;simp at g;subst this;subst g;exact C.1
    ·exact J C.2 g
  exact this h hl args cz j
 ·cases j
def ag (h:bD P l):SpecsOk P (az l):=⟨JO h,(λ_ _ h=>by cases h)⟩
def TN (P:å)(f:è)(q:Nw):Prop:=∀args g,q.F args=ä (ü,g)→aiL P f q.t q.e args g
def aiP (P:å):List (Nat×Nw)→Prop
 |[]=>True
 |(f,q)::r=>TN P f q∧aiP P r
def O4 {P:å}{f:è}{q:Nw}:∀{l:List (Nat×Nw)},aiP P l→look l f=ä q→TN P f q
 |[],_,h=>by cases h
 |(k,e')::r,ha,hlk=>by
  simp[look]at hlk;split at hlk
  next hb=>have:=ν hb;simp at hlk;subst this;subst hlk;exact ha.1
  ·exact O4 ha.2 hlk
def uX {f:List (Nat×Nw)}(h:bD P l)(_ _ _:True)(j:aiP P f):SpecsOk P (Et l [] [] [] f):=⟨JO h,λ_ _ g=>O4 j g⟩
open Go.ChangeShapes Go.WideShapes Go.ChangeAt
def D.ok:D→Prop
 |.sc (.int k n)=>(Lit.int k n).wf=ü
 |.sc (.string s)=>s.size≤maxLen
 |.sc _=>True
 |.nil=>True
 |.cons a b=>a.ok∧b.ok
 |.sl d=>d.len≤maxLen∧d.ok
 |.jk _ _=>True
def Ty.so:Ty→Bool
 |.cons a b=>a.so&&b.so&&(match b with|.unit|.cons _ _=>ü|_=>ß)
 |.slice a=>a.so
 |.jsl _=>ß
 |_=>ü
def vS:∀{t:Ty},t.so=ü→t.j5=ü
 |.int _,_|.bool,_|.str,_|.unit,_|.tree,_=>rfl
 |.jsl _,h=>by cases h
 |.slice t,h=>vS (t:=t) h
 |.cons a b,h=>by simp[Ty.so]at h;simp[Ty.j5,vS h.1.1,vS h.1.2]
def tZ:∀{t:Ty},t.so=ü→∀a∈t.fields,a.j5=ü
 |.cons a b,h=>by
  simp[Ty.so]at h;intro x f;obtain rfl|f:=c_.1 f
  ·exact vS h.1.1
  ·exact tZ h.1.2 x f
 |.tree,_=>by simp[Ty.fields,Ty.j5]
 |.int _,_|.bool,_|.str,_|.unit,_|.slice _,_|.jsl _,_=>by simp[Ty.fields]
def sr:List Ty→Ty
 |[]=>.unit
 |a::r=>.cons a (sr r)
def yY:∀{f:Ty},f.so=ü→(f = .unit∨∃a b,f = .cons a b)→sr f.fields=f
 |.unit,_,_=>rfl
 |.cons a b,h,_=>by
  simp[Ty.so]at h;have g:b = .unit∨∃l j,b = .cons l j:=by
   have:=h.2;cases b <;> simp at this
   ·exact .inl rfl
   ·exact .inr ⟨_,_,rfl⟩
  show Ty.cons a (sr b.fields)=_;rw[yY h.1.2 g]
section
variable {H:Type}{enc:é×ø→H}{P:å}{tab:Tab}{W:æ}{St:Sb}{sp:Nat→Bool}
variable{t:é}{τ:Ty}{v:ø}
def x7 (f:TabOk P tab)(h:tab.ty t=ä τ):P.cellsOf t=τ.size:=by obtain⟨i,z,j,g,_⟩:=f.ty t τ h;simp[Program.cellsOf,j,g]
def afX {a:Addr}(h:W.cell? a=ä v):a.block<W.heap.size:=by have:=World.cells?_block (base:=0) (n:=1) (cs:=[v]) (cells?_one (Y' _) h) Ω;exact this
def TM (enc:é×ø→H)(P:å)(tab:Tab)(W:æ)(St:Sb)(sp:Nat→Bool)(U:Nat):Prop :=
 ∀t τ f x,tab.ty t=ä τ→DataW.trod enc P W 0 sp ü U t f=ä x→∃y:τ.den,Rep W St (toD τ y) f∧(toD τ y).ok
def tA (tk:TabOk P tab){U:Nat}(ih:TM enc P tab W St sp U){p:List ø}:∀(j:List Ty) (l:List Field) (g:Nat) (xs:List (DataW H×List MemPlace)),(∀a∈j,a.j5=ü)→FOk tab.ty l j g →
  l.mapM (λf=>DataW.trod enc P W 0 sp ü U f.type ((p.drop f.offset).take (P.cellsOf f.type)))=ä xs→p.length=g+(sr j).size →
  ∃y:(sr j).den,Rep W St (toD (sr j) y) (p.drop g)∧(toD (sr j) y).ok
 |[],[],g,_,_,_,_,J=>⟨(),by simp[sr,Ty.size]at J;simp[sr,toD,Rep];omega,apa⟩
 |a::j,f::l,g,xs,hn,hf,hm,J=>by
  obtain⟨⟨ab,T,_,_,R⟩,h2,h3,h4,h5⟩:=hf;rw[R (hn a (m_ ..))]at T;rw[akk]at hm;cases C:DataW.trod enc P W 0 sp ü U f.type ((p.drop f.offset).take (P.cellsOf f.type))with
  |none=>simp[C]at hm
  |some x=>
   cases hr:l.mapM (λf=>DataW.trod enc P W 0 sp ü U f.type ((p.drop f.offset).take (P.cellsOf f.type)))with
   |none=>simp[C,hr]at hm
   |some r =>obtain⟨y,hy,oy⟩:=ih _ _ _ _ T C;obtain⟨z,hz,oz⟩:=tA tk ih j l (g+a.size) r (λb hb=>hn b (e_ _ hb)) h5 hr (by simp[sr,Ty.size]at J;omega);rw[h2,x7 tk T]at hy;refine⟨(y,z),⟨_,_, ?_,hy,hz⟩,oy,oz⟩;rw[←List.drop_drop,G?]
 |[],_::_,_,_,_,h,_,_=>h.elim
 |_::_,[],_,_,_,h,_,_=>h.elim
def Qu {g:Type}{f:g→D}:∀{l j:List g},(chain f l).ok→(chain f j).ok→(chain f (l++j)).ok
 |[],_,_,h=>h
 |_::_,_,h,p=>⟨h.1,Qu h.2 p⟩
def Fm (tk:TabOk P tab)(hSt:∀b o,b<W.heap.size→St b o){U:Nat}(ih:TM enc P tab W St sp U){e:é}{a:Ty}(he:tab.ty e=ä a)(ha:0<a.size){p:Addr}{len:Nat}
  (h:∀i,i<len→∃x,(W.cells? 0 (p.add (i*P.cellsOf e)) (P.cellsOf e)).bind (DataW.trod enc P W 0 sp ü U e)=ä x):∀n,n≤len →
  ∃(l:List a.den) (C:List ø),l.length=n∧Rep W St (chain (toD a) l) C∧(chain (toD a) l).ok∧(0<n→p.spot=ö)∧∀(j:Nat) u,C[j]? = ä u→W.cell? (p.add j)=ä u∧St p.block (p.off+j)
 |0,_=>⟨[],[],rfl,rfl,apa,λh=>Ω,λj u R=>by simp at R⟩
 |n+1,hn=>by
  obtain⟨l,C,hl,hr,ok,hs,hc⟩:=Fm tk hSt ih he ha h n Ω;obtain⟨x,hx⟩:=h n Ω;cases T:W.cells? 0 (p.add (n*P.cellsOf e)) (P.cellsOf e)with
  |none=>simp[T]at hx
  |some cs=>
   rw[T]at hx;obtain⟨y,hy,oy⟩:=ih e a cs x he hx;obtain⟨_,hlen,f⟩:=World.cells?_some T;rw[x7 tk he]at hlen f;have h0:∃v,W.cell? (p.add (n*a.size))=ä v:=by have:=f 0 ha;rw[add_zero]at this;have g:cs[0]? = ä cs[0]:=ζ Ω;exact⟨_,this.trans g⟩
   have r:p.spot=none:=by
    by_cases J:0<n
    ·exact hs J
    ·obtain⟨v,hv⟩:=h0;have J:n=0:=Ω
     rw[J,akj,add_zero]at hv;exact World.cell?_spot hv
   refine⟨l++[y],C++cs,by simp[hl],kN hr ⟨cs,[],Ψ,hy,rfl⟩,Qu ok ⟨oy,apa⟩,λ_=>r,λj u R=>?_⟩;have hdl:=bv hr;rw[hl]at hdl;by_cases hjd:j<C.length
   ·rw[I' hjd]at R;exact hc j u R
   ·rw[h_ Ω]at R;have hjc:j-C.length<cs.length:=(f_.1 R).1;have:=f (j-C.length) Ω;rw[DJ,R,show n*a.size+(j-C.length)=j by omega]at this;refine⟨this,hSt _ _ ?_⟩;have:=afX this;rw[(gM p r j).1]at this;exact this
def OA (tk:TabOk P tab)(hg:∀t τ,tab.ty t=ä τ→τ.so=ü)(hSt:∀b o,b<W.heap.size→St b o):∀U,TM enc P tab W St sp U
 |0=>λt τ cs x _ h=>by simp[DataW.trod]at h
 |U+1=>λt τ cs x ht h=>by
  have ih:=OA tk hg hSt U;obtain⟨i,z,hi,hs,_,_,_,_,p⟩:=tk.ty t τ ht;have j:=hg t τ ht;have g:∀J,P.underlying t=ä (.struct J)→cs.length=τ.size∧∃R,J.toList.mapM (λf=>DataW.trod enc P W 0 sp ü U f.type ((cs.drop f.offset).take (P.cellsOf f.type)))=ä R:=λJ T=>by
   unfold DataW.trod at h;rw[T]at h;simp only at h;split at h
   ·rename_i r;rw[x7 tk ht]at r;refine⟨r, ?_⟩;cases C:J.toList.mapM (λf=>DataW.trod enc P W 0 sp ü U f.type ((cs.drop f.offset).take (P.cellsOf f.type)))with
    |none=>rw[C]at h;cases h
    |some R=>exact⟨R,rfl⟩
   ·cases h
  cases τ with
  |jsl e=>cases j
  |int k=>
   have p:P.underlying t=ä (.int k):=p;unfold DataW.trod at h;rw[p]at h;split at h <;> try (first|(simp at *;done)|cases h)
   rename_i k0 k' n hk;cases hk;split at h
   next hw=>obtain⟨rfl,hw⟩:=hw;exact⟨n,⟨rfl,rfl⟩,hw⟩
   ·cases h
  |bool=>
   have p:P.underlying t=ä .bool:=p;unfold DataW.trod at h;rw[p]at h;split at h <;> try (first|(simp at *;done)|cases h)
   rename_i b _;exact⟨b,⟨rfl,rfl⟩,apa⟩
  |str=>
   have p:P.underlying t=ä .string:=p;unfold DataW.trod at h;rw[p]at h;split at h <;> try (first|(simp at *;done)|cases h)
   rename_i s _;split at h
   next r=>refine⟨s.data.toList,⟨rfl,rfl⟩, ?_⟩;exact r
   ·cases h
  |slice a=>
   obtain⟨e,p,he,_,ha⟩:=p;unfold DataW.trod at h;rw[p]at h;split at h <;> try (first|(simp at *;done)|cases h)
   ·exact⟨[],⟨ö,0,0,rfl,rfl,ε _,.inl rfl⟩,Y' _,apa⟩
   ·rename_i e' ad len cap hk;cases hk;split at h
    ·rename_i hb;dsimp only at h;cases C:(List.range len).mapM (λi=>(W.cells? 0 (ad.add (i*P.cellsOf e)) (P.cellsOf e)).bind (DataW.trod enc P W 0 sp ü U e))with
     |none=>rw[C]at h;cases h
     |some elems=>
      have hall:∀i,i<len→∃x,(W.cells? 0 (ad.add (i*P.cellsOf e)) (P.cellsOf e)).bind (DataW.trod enc P W 0 sp ü U e)=ä x:=λi hi=>by
       have h1:=mapM_some_get C i i (by simp[hi]);have h2:=mapM_some_length C;have h4:i<elems.length:=by simp at h2;omega
       exact⟨_,h1.trans (ζ h4)⟩
      obtain⟨l,ds,r,hr,ok,hsp,hc⟩:=Fm tk hSt ih he ha hall len (ε _);refine⟨l,⟨ä ad,len,cap,rfl,by rw[len_chain,r],hb.2.1, ?_⟩,by rw[len_chain,r];omega,ok⟩;by_cases h0:len=0
      ·exact .inl h0
      ·exact .inr ⟨ad,ds,rfl,hsp Ω,hr,hc⟩
    ·cases h
  |unit =>obtain⟨J,T,_,_,hF⟩:=p;obtain⟨r,R,C⟩:=g J T;exact⟨(),by simp[Ty.size]at r;simp[toD,Rep,r],apa⟩
  |cons a b =>obtain⟨J,T,_,_,hF⟩:=p;obtain⟨r,R,C⟩:=g J T;have e:=yY j (.inr ⟨a,b,rfl⟩);have:=tA tk ih _ _ 0 R (tZ j) hF C (by rw[e,r];omega);rw[e]at this;simpa using this
  |tree=>
   obtain⟨J,T,_,_,hF⟩:=p;obtain⟨r,R,C⟩:=g J T;obtain⟨⟨k,s,ls,ks,u⟩,hy,oy⟩:=tA tk ih _ _ 0 R (tZ j) hF C (by rw[r];rfl);refine⟨Tree.mk k s ls ks, ?_, ?_⟩
   ·simp[toD,sn,iH];simpa[sr,Ty.fields,toD]using hy
   ·simp[toD,sn,iH];simpa[sr,Ty.fields,toD]using oy
def Bz {u:ø}(h:v.cells.toList=[u])(g:∀f,v ≠ .agg f):v=u:=by cases v <;> simp_all[Value.cells]
def R9 (J:TabOk P tab)(hg:∀t τ,tab.ty t=ä τ→τ.so=ü)(C:∀b o,b<W.heap.size→St b o){d:DataW H}{p:List MemPlace}{j:Nat}(T:tab.ty t=ä τ)
  (h:DataW.Trod enc P W 0 sp ü t v d p) (r:Value.okWide P W .any j t v):∃y:τ.den,RepV W St τ y v∧(toD τ y).ok:=by
 obtain⟨U,h⟩:=h;obtain⟨y,l,oy⟩:=OA J hg C U t τ _ _ T h;refine⟨y, ?_,oy⟩;obtain⟨i,z,_,_,_,_,_,_,R⟩:=J.ty t τ T;unfold RepV;split
 next f=>obtain⟨fs,hf,_⟩:=fY f R;obtain⟨cs,rfl,_⟩:=okWide_struct hf r;exact⟨cs.toList,Ψ,by simpa[Value.cells]using l⟩
 next f=>
  have f:τ.an=false:=by simpa using f
  have hl:=l.size;rw[qV f]at hl;obtain⟨u,g⟩:=V?.1 hl;have:v=u:=Bz g (λcs e=>by
   subst e;obtain⟨d',hd,hp⟩:=Eb f R;unfold Value.okWide at r;rw[hd]at r;cases d' <;> simp[tw]at hp <;> simp[Cell.okWide,Cell.ok,hd]at r)
  subst this;rw[g]at l;exact l
def IL (tk:TabOk P tab)(hg:∀t τ,tab.ty t=ä τ→τ.so=ü)(C:∀b o,b<W.heap.size→St b o){base:Nat}:∀(r:List é) (f:List Ty) (l:List ø) (J:List (DataW H)) (ps:List MemPlace),
  r.map tab.ty=f.map ä→DataW.TrodAll enc P W 0 sp ü r l J ps→(∀(j:Nat) t v,r[j]? = ä t→l[j]? = ä v→Value.okWide P W .any base t v) →
  ∃g:List ((t:Ty)×t.den),g.map (·.1)=f∧RepVs W St g l∧(∀x∈g,(toD x.1 x.2).ok)∧J.length=g.length
 |[],[],l,J,ps,_,h,_=>by obtain⟨rfl,rfl,rfl⟩:=trodAll_nil h;exact⟨[],rfl,apa,Ψ,rfl⟩
 |t::r,τ::f,l,J,ps,hm,h,hv=>by
  obtain⟨v,R,d,U,p,q,rfl,rfl,rfl,h1,h2⟩:=trodAll_cons h;simp at hm;obtain⟨y,hy,oy⟩:=R9 (St:=St) tk hg C hm.1 h1 (hv 0 t v rfl rfl);obtain⟨g,e,hr,ok,hl⟩:=IL tk hg C r f R U q hm.2 h2 (λj t' v' a b=>hv (j+1) t' v' (by simpa using a) (by simpa using b));refine⟨⟨τ,y⟩::g,by simp[e],⟨hy,hr⟩,λx T=>?_,by simp[hl]⟩;obtain rfl|T:=c_.1 T
  ·exact oy
  ·exact ok x T
 |[],_::_,_,_,_,h,_,_=>by simp at h
 |_::_,[],_,_,_,h,_,_=>by simp at h
def xg (R:laidOutB P=ü){U:æ}(T:Below W.heap.size W U):∀(f:List é) (g:List ø) (j:List (DataW H)) (ps:List MemPlace),(∀t∈f,P.readableRec t=ü∧t<P.types.size) →
  DataW.TrodAll enc P W 0 (λ_=>ü) ü f g j ps→(∀x∈ps,x.block<W.heap.size)→DataW.TrodAll enc P U 0 (λb=>decide (b<W.heap.size)) ü f g j ps
 |[],g,j,ps,_,h,_=>by obtain⟨rfl,rfl,rfl⟩:=trodAll_nil h;exact trodAll_mk0
 |t::f,g,j,ps,hr,h,hlt=>by
  obtain⟨v,l,d,J,p,q,rfl,rfl,rfl,h1,h2⟩:=trodAll_cons h;exact trodAll_cons_mk (Below.trod R (hr t Ψ).1 (hr t Ψ).2 h1 T (λx r=>hlt x (S_ _ r)))
   (xg R T f l J q (λt' C=>hr t' (e_ _ C)) h2 (λx r=>hlt x (akn _ r)))
structure LawOk (C:Checked)(tab:Tab)(f:è)(fn:Func)(τs:List Ty)(tb:é):Prop where
 own:ownKnob C.prog.godebug=ö
 noInit:C.prog.inits.idxOf? f=ö
 func:C.prog.funcs[f]? = ä fn
 laid:laidOutB C.prog=ü
 params:fn.params.toList.map tab.ty=τs.map ä
 results:fn.resultTypes = #[tb]
 tbool:C.prog.underlying tb=ä .bool
 read:∀t∈fn.params.toList,C.prog.readableRec t=ü∧t<C.prog.types.size
 so:∀t τ,tab.ty t=ä τ→τ.so=ü
 tab:TabOk C.prog tab
def SJ {C:Checked}{tab:Tab}{f:è}{fn:Func}{T:List Ty}{tb:é}(k:LawOk C tab f fn T tb){s:ChangeSpec}{R:List PathCond}{apart:Bool}(J:s.vars=[])(hspec:∀(H:Type) (U:List (DataW H)),U.length=T.length→s.fn H U={ results:=[.lit (.bool ü)],args:=U })
  (IU:∀xs:List ((t:Ty)×t.den),xs.map (·.1)=T→(∀x∈xs,(toD x.1 x.2).ok)→MeetsD C.prog f xs (.val .bool ü))
  {os:Os} (r:os.Started) {H:Type} {enc:é×ø→H} {a:Assume}
  (l:∃(w:æ) (g:Tape) (i:Input),w.os=os∧(w.forCall g i).Shaped C.prog∧i.vars=[]∧Input.okWide C.prog (w.forCall g i) .any w.heap.size f i ∧
   s.pre6 enc C.prog fn R apart (w.forCall g i).memory i.args∧a.holds C.prog (lone (Frame.enter C.prog f i.args .normal) [] (w.forCall g i))) {fresh P:Bool} :
  ReturnsInHanded a C os f .any (s.pre6 enc C.prog fn R apart) (s.post enc C.prog fn apart fresh P ß):=by
 refine returnsInHanded_of_change k.own r k.noInit k.func l ?_;intro W base args U gs before hval hW _ _;have hW':=hW;obtain⟨p,q,hA,hV,rfl,hfz,hnd⟩:=hW;rw[J]at hV;obtain⟨rfl,rfl⟩:=trodVars_none hV;have hlt:∀x∈p,x.block<W.heap.size:=λx hx=>by simpa using hW'.lt x (by simp[hx])
 obtain⟨xs,e,hr,ok,hl⟩:=IL (St:={ s:=λb _=>b<W.heap.size }) k.tab k.so (λ_ _ h=>h) (base:=base) fn.params.toList T args.toList U p k.params hA
  (λj t v a b=>hval j t v (by simpa using a) (by simpa using b))
 obtain⟨_,hm⟩:=IU xs e ok;have hm:=hm W { s:=λb _=>b<W.heap.size } (λ_ _ h=>h) args.toList hr;rw[show args.toList.toArray=args by simp]at hm;refine hm.mono λe' W' ⟨v,St',he,hb,_,_,_,_,hv⟩=>?_;subst he;have hv:v = .bool true:=by obtain⟨v',e1,hv⟩:=hv;cases e1;exact fF hv
 subst hv;have es:s.fn H (U++[])={ results:=[.lit (.bool ü)],args:=U }:=by rw[Y?];exact hspec H U (by rw[hl,←e,G'])
 refine⟨_,rfl,U,[],p++[],[],p,[],hW', ?_, ?_, ?_,hb.frame _,λh=>by cases h⟩
 ·rw[es,k.results];exact trodAll_mk1 (shut_bool k.tbool ü)
 ·rw[es];exact xg k.laid hb _ _ _ _ k.read hA hlt
 ·rw[J,es];rfl
end
variable{P:å}
def meets_of_ent {f:è}{e:Ent}(h:aj P f e){g:List ((t:Ty)×t.den)}{cz:AV}(p:e (g.map λd=>.val d.1 d.2)=ä (ü,cz)):MeetsD P f g cz:=by obtain⟨R,C,T,J⟩:=h _ _ p;exact⟨T,λw St r j l=>J w St r j (C (aG w St) j (x9 l))⟩
def ad7 {l:List é}(h:(l.all λt=>P.readableRec t&&decide (t<P.types.size))=ü):∀t∈l,P.readableRec t=ü∧t<P.types.size:=λt f=>by have:=P'.1 h t f;simpa using this
section
variable {P:å}{B:Bd}{w0:æ}{J:Sb}{c:Gh}
end
def FU:Nat:=1099511627776
section
variable {α β:Type}
def fN (m:Nat)(k:Nat→β):β:=match m with
 |0=>k 0
 |n+1=>k (n+1)
def fI (n:Int)(k:Int→β):β:=match n with
 |.ofNat m=>fN m λm=>k (.ofNat m)
 |.negSucc m=>fN m λm=>k (.negSucc m)
def fU (x:UInt8)(k:UInt8→β):β:=fN x.toNat λn=>k (UInt8.ofNat n)
def fL (f:α→(α→β)→β):List α→(List α→β)→β
 |[],k=>k []
 |x::l,k=>f x λy=>fL f l λg=>k (y::g)
def Vb (m:Nat)(k:Nat→β):fN m k=k m:=by cases m <;> rfl
def agN (n:Int)(k:Int→β):fI n k=k n:=by cases n <;> simp[fI,Vb]
def abV (x:UInt8)(k:UInt8→β):fU x k=k x:=by simp[fU,Vb]
def GI {f:α→(α→β)→β}(g:∀x k,f x k=k x):∀(l:List α) (k:List α→β),fL f l k=k l
 |[],k=>rfl
 |x::l,k=>by rw[fL,g,GI g l]
def nf:(t:Ty)→t.den→(t.den→β)→β
 |.int _,n,k=>fI n k
 |.bool,b,k=>match b with
  |true=>k ü
  |false=>k ß
 |.str,s,k=>fL fU s k
 |.slice t,l,k=>fL (nf t) l k
 |.jsl _,n,k=>fN n k
 |.unit,_,k=>k ()
 |.cons a b,x,k=>nf a x.1 λy=>nf b x.2 λz=>k (y,z)
 |.tree,x,k=>match x with
  |.mk j t f g=>fI j λj=>fL fU t λt=>fL (fL fU) f λf=>fL (λx k=>k x) g λg=>k (.mk j t f g)
def IP:∀(t:Ty) (x:t.den) (k:t.den→β),nf t x k=k x
 |.int _,n,k=>agN n k
 |.bool,b,k=>by cases b <;> rfl
 |.str,s,k=>GI abV s k
 |.slice t,l,k=>GI (IP t) l k
 |.jsl _,n,k=>Vb n k
 |.unit,_,_=>rfl
 |.cons a b,x,k=>by rw[nf,IP a,IP b]
 |.tree,.mk j t f g,k=>by simp[nf];rw[agN,GI abV,GI (GI abV),GI (λ_ _=>rfl)]
def jJ (g:Bool)(v:α)(k:α→Option β):Option β:=cond g (k v) ö
def xG (x:Option α)(k:α→Option β):Option β:=match x with
 |some a=>k a
 |none=>ö
def acH (x:Option α)(d:α)(k:α→Option β):jJ x.isSome (x.getD d) k=xG x k:=by cases x <;> rfl
variable{γ:Type}
def af8 (f:β→γ)(c:Bool)(x y:Option β):Option.map f (cond c x y)=cond c (Option.map f x) (Option.map f y):=by cases c <;> rfl
def aaI (f:β→γ)(x:Option α)(k:α→Option β):Option.map f (xG x k)=xG x (λr=>Option.map f (k r)):=by cases x <;> rfl
def Yy (f:β→γ)(g:Bool)(v:α)(k:α→Option β):Option.map f (jJ g v k)=jJ g v (λr=>Option.map f (k r)):=by cases g <;> rfl
def PR {f:β→γ}{x:Option β}{d:β}(h:x.isSome=ü):Option.map f x=ä (f (x.getD d)):=by
 cases x with
 |none=>cases h
 |some r=>rfl
end
def aad (f:Tab)(p:List ResultVar)(g:Ty)(e:é):KT:=λr j=>
 match r with
 |.exit _=>ö
 |_=>match eP f j p with
  |some [.own k v t l]=>match (j.heap[k]? : Option HO)with
   |some (.row t' e' v')=>if t'=t then if e'=e then if v'=v then match cast? (.slice t) (.slice g) l with
     |some l=>ä (.val (.slice g) l)
     |none=>ö
    else ö else ö else ö
   |_=>ö
  |_=>ö
def aab (j:è→Option Fi)(g:Hs)(d:Nat)(x:Fi)(f:Ty)(e:é)(U:Nat)(args:List AV):Option AV :=
 match args.all AV.j5 with
 |true=>exec (bo j g U d) x.S 0 U x.code ⟨args++List.replicate (x.ntmps-args.length) .unk,[]⟩ (aad x.S.tab x.results f e)
 |false=>ö
section
variable {P:å}{B:Bd}{w0:æ}{J:Sb}{c:Gh}
def QG {c:Gh}:∀{g:List ((t:Ty)×t.den)} {f:List ø},RepVs c.w c.St g f→RAs c (g.map λd=>.val d.1 d.2) f
 |[],[],_=>trivial
 |_::_,v::_,⟨h,j⟩=>⟨⟨v,rfl,h⟩,QG j⟩
variable{τ:Ty}{e:é}
def Inv.turnedRow (P:Inv B w0 J c){k v:Nat}(hk:c.heap[k]? = ä (.row τ e v)){w':æ}{St':Sb}{s':ø}{n':Nat}{xs':List ø}(hbel:Below B.b c.w w')(hdr:dz c.w≤dz w')
  (hoth:∀(b:Nat) (o:Obj),c.w.heap[b]? = ä o→o.isCells=ß→w'.heap[b]? = ä o) (same:∀b,b<c.w.heap.size→(c.rv k).ownBlock≠ä b→w'.heap[b]? = c.w.heap[b]?)
  (hst:c.St.le St') (hcell:∀(a:Addr) u,c.St a.block a.off→a.spot=ö→c.w.cell? a=ä u→w'.cell? a=ä u) (hbnd:∀b o,St' b o→b<w'.heap.size)
  (hnew:∀b o,St' b o→c.St b o∨(B.b≤b∧¬(b<c.w.heap.size∧(c.rv k).ownBlock≠ä b)))
  (hown:w'.ownsRow B e τ.size s' n' xs') (hfree:∀b,s'.ownBlock=ä b→∀o,n'*τ.size≤o→¬St' b o) (hob:∀b,s'.ownBlock=ä b→¬(b<c.w.heap.size∧(c.rv k).ownBlock≠ä b))
  (hj:∀b e cap n,St'.j b e cap n→c.St.j b e cap n∨(B.b≤b∧¬(b<c.w.heap.size∧(c.rv k).ownBlock≠ä b)∧NJ 0 w' St' b e cap n∧s'.ownBlock≠ä b)) :
  Inv B w0 J { c with w:=w',heap:=c.heap.set k (.row τ e (v+1)),rv:=λi=>if i=k then s' else c.rv i,St:=St' }∧Ev c { c with w:=w',heap:=c.heap.set k (.row τ e (v+1)),rv:=λi=>if i=k then s' else c.rv i,St:=St' }:=by
 have hlt:=ar hk;have hok:obk c k=(c.rv k).ownBlock:=by unfold obk;rw[hk]
 have T:∀i,i≠k→(c.heap.set k (.row τ e (v+1)))[i]? = c.heap[i]?:=λi l=>by rw[cf,ω (λe=>l e.symm)]
 have new:(c.heap.set k (.row τ e (v+1)))[k]? = ä (.row τ e (v+1)):=by rw[cf,Θ rfl,Θ hlt]
 have ev:Ev c { c with w:=w',heap:=c.heap.set k (.row τ e (v+1)),rv:=λi=>if i=k then s' else c.rv i,St:=St' }:=by
  refine⟨hst,hcell,λi cs x=>?_,λi t1 e1 v1 x=>?_,λi t1 e1 v1 l1 x=>?_,λi x=>?_,λ_ _=>rfl⟩
  ·have l:i≠k:=λe=>by subst e;rw[hk]at x;cases x
   exact⟨cs,(T i l).trans x,rfl⟩
  ·by_cases l:i=k
   ·subst l;rw[hk]at x;injection x with x;injection x with x1 x2 x3;exact⟨τ,e,v+1,new,Ω,λh=>Ω⟩
   ·exact⟨t1,e1,v1,(T i l).trans x,ε _,λ_=>by simp[ω l]⟩
  ·have l:i≠k:=λe=>by subst e;rw[hk]at x;cases x
   exact .inl ⟨v1,l1,(T i l).trans x,ε _,λ_=>by simp[ω l]⟩
  ·have l:i≠k:=λe=>by subst e;rw[hk]at x;cases x
   exact(T i l).trans x
 have hobk:obk { c with w:=w',heap:=c.heap.set k (.row τ e (v+1)),rv:=λi=>if i=k then s' else c.rv i,St:=St' } k=s'.ownBlock:=by unfold obk;simp[new]
 have R:∀i,i≠k→obk { c with w:=w',heap:=c.heap.set k (.row τ e (v+1)),rv:=λi=>if i=k then s' else c.rv i,St:=St' } i=obk c i:=λi l=>gF (T i l) rfl (by simp[ω l]);have other:∀i b,i≠k→obk c i=ä b→b<c.w.heap.size∧(c.rv k).ownBlock≠ä b:=λi b l C=>
  ⟨(jP P C).1,λx=>P.sep i k b l C (hok.trans x)⟩
 have w7:∀i b,i≠k→obk c i=ä b→w'.heap[b]? = c.w.heap[b]?:=λi b l C=>same b (other i b l C).1 (other i b l C).2;have noNew:∀i b o,i≠k→obk c i=ä b→St' b o→c.St b o:=λi b o l C x=>by
  obtain y|y:=hnew b o x
  ·exact y
  ·exact absurd (other i b l C) y.2
 refine⟨⟨P.below.trans hbel,ξ P.size hbel.size,hbnd,P.st0.trans hst, ?_, ?_, ?_, ?_, ?_,P.drawn.trans ⟨hdr,hoth,λb f=>same b (P.fl b f) (λx=>P.fo k b (hok.trans x) f)⟩, ?_,λb f=>d_ (P.fl b f) hbel.size,P.j0,λb e cap n x=>?_⟩,ev⟩
 rotate_right 1
 ·obtain x|⟨y1,y2,y3,y4⟩:=hj b e cap n x
  ·refine(P.vh b e cap n x).imp id λq=>?_;have hin:b<c.w.heap.size∧(c.rv k).ownBlock≠ä b:=⟨q.lt,λy=>q.own k (hok.trans y)⟩;refine q.keep (same b hin.1 hin.2) (λo y=>?_) λi y=>?_
   ·obtain y|y:=hnew b o y
    ·exact y
    ·exact absurd hin y.2
   ·by_cases p:i=k
    ·subst p;rw[hobk]at y;exact absurd hin (hob b y)
    ·rw[R i p]at y;exact y
  ·refine .inr ⟨y1,λf=>y2 ⟨P.fl b f,λz=>P.fo k b (hok.trans z) f⟩,y3.le,y3.cells,y3.free,λi y=>?_⟩;by_cases p:i=k
   ·subst p;rw[hobk]at y;exact y4 y
   ·rw[R i p]at y;exact y2 (other i b p y)
 ·intro b o x;obtain y|⟨y1,y2⟩:=hnew b o x
  ·exact P.stN b o y
  ·exact .inr ⟨y1,λf=>y2 ⟨P.fl b f,λz=>P.fo k b (hok.trans z) f⟩⟩
 ·intro i cs l;have p:i≠k:=λe=>by subst e;have:=new.symm.trans l;injection this with this;cases this
  have l:=(T i p).symm.trans l;obtain⟨a1,t1,q1,q2,q3,q4⟩:=P.box i cs l;have U:obk c i=ä (c.kd i):=by unfold obk;rw[l]
  exact⟨a1,t1,(w7 i _ p U).trans q1,q2,λo x=>q3 o (noNew i _ o p U x),q4.mono ev⟩
 ·intro i t1 e1 v1 l;by_cases p:i=k
  ·subst p;have:=new.symm.trans l;injection this with this;injection this with x1 x2 x3;subst x1;subst x2;exact⟨n',xs',by simpa using hown,by simpa using hfree⟩
  ·have l:=(T i p).symm.trans l;obtain⟨n1,xs1,q1,q2⟩:=P.row i t1 e1 v1 l;have U:obk c i=(c.rv i).ownBlock:=by unfold obk;rw[l]
   simp only[ω p];refine⟨n1,xs1,⟨q1.1, ?_⟩,λb C o hle x=>q2 b C o hle (noNew i b o p (U.trans C) x)⟩;obtain x|⟨g,cap,cur,r1,r2,r3,r⟩:=q1.2
   ·exact .inl x
   ·exact .inr ⟨g,cap,cur,r1,r2,(w7 i g p (by rw[U,r1];rfl)).trans r3,r⟩
 ·intro i j b hij C hb';by_cases p:i=k
  ·subst p;rw[hobk]at C;rw[R j (λe=>hij e.symm)]at hb';exact hob b C (other j b (λe=>hij e.symm) hb')
  ·rw[R i p]at C;by_cases ej:j=k
   ·subst ej;rw[hobk]at hb';exact hob b hb' (other i b p C)
   ·rw[R j ej]at hb';exact P.sep i j b hij C hb'
 ·intro i t1 e1 v1 l1 l;have p:i≠k:=λe=>by subst e;have:=new.symm.trans l;injection this with this;cases this
  have l:=(T i p).symm.trans l;obtain⟨xs1,q1,qr,q2⟩:=P.cu i t1 e1 v1 l1 l;have U:obk c i=(c.rv i).ownBlock:=by unfold obk;rw[l]
  simp[ω p];refine⟨xs1,⟨q1.1, ?_⟩,qr.mono ev.st ev.cell,λb C o x=>q2 b C o (noNew i b o p (U.trans C) x)⟩;obtain x|⟨g,cap,cur,r1,r2,r3,r⟩:=q1.2
  ·exact .inl x
  ·exact .inr ⟨g,cap,cur,r1,r2,(w7 i g p (by rw[U,r1];rfl)).trans r3,r⟩
 ·intro i b C f;by_cases p:i=k
  ·subst p;rw[hobk]at C;exact hob b C ⟨P.fl b f,λz=>P.fo i b (hok.trans z) f⟩
  ·rw[R i p]at C;exact P.fo i b C f
def Xi (hm:P.follows .mixedOrders=ü){fi:è→Option Fi}{hs:Hs}(hfi:∀f x,fi f=ä x→FiOk P f x)(hhs:Hl P hs){d:Nat}{f:è}{x:Fi}(hx:FiOk P f x){R:List AV→Option (Bool×List τ.den)}
  (h:∀args l',R args=ä (ü,l')→∃ds,Hm args ds∧∃U,aab fi hs d x τ e U (ds.map λd=>.val d.1 d.2)=ä (.val (.slice τ) l')):TN P f ⟨τ,e,R⟩:=by
 obtain⟨⟨fn,f1,f2,f3,f4,f5⟩,tk,ts⟩:=hx;intro args l' he;obtain⟨ds,hds,U,hrun⟩:=h args l' he;refine⟨⟨fn,f1,by simp[f2],f5⟩,λB w0 J c hI k v hk vs hrest=>?_⟩;have hok:obk c k=(c.rv k).ownBlock:=by unfold obk;rw[hk]
 unfold aab at hrun;split at hrun
 rotate_left 1
 ·cases hrun
 rename_i hnj;let S0:Sb:={ s:=c.St.s };have hIs:Inv ⟨B.b,λb=>b<c.w.heap.size⟩ c.w S0 (aG c.w S0):=by
  refine⟨Below.refl _ _,hI.size,hI.to,Sb.le.refl _,λ_ _ x=>.inl x,λi cs hi=>?_,λi t e v hi=>?_,λi j b hij hb hb'=>?_,λi t e v l hi=>?_,Og.refl _,λi b hb f=>?_,λb f=>f,λ_ _ _ _ f=>f,λ_ _ _ _ x=>.inl x⟩
  ·simp[aG]at hi
  ·simp[aG]at hi
  ·simp[obk,aG]at hb
  ·simp[aG]at hi
  ·simp[obk,aG]at hb
 have hrest':RAs (aG c.w S0) (ds.map λd=>.val d.1 d.2) vs:=RAs.nj (c:=aG c.w c.St) (c':=aG c.w S0) rfl rfl rfl rfl rfl (λ_ _ x=>x) hnj (QG (c:=aG c.w c.St) (show RepVs c.w c.St ds vs from RAs.bb (c:=c) hds hrest));refine callsIn_wide.1 (callsIn_of_wp_marks (F:=RF ö) (n:=0) f1 f2 trivial (wpIn_mono (mA hm tk ts (FV hm hfi hhs d) x.code ö 0 [([.fix c.St.s c.w],[ê])] 0 ⟨B.b,λb=>b<c.w.heap.size⟩ c.w S0 _ (λ_ e=>by cases e) (λ_ h=>by cases h) (.inl rfl) _ _ _ c.w (Y' _) hrun ⟨aG c.w S0,c.w,rfl,rfl,hIs, ?_,uB.none _ _,λfr hfr=>?_⟩) λen a w' hn=>?_))
 ·have:=qe hrest' (x.ntmps-(ds.map λd=>AV.val d.1 d.2).length);rw[f3];have hlen:=hrest'.length;simpa[hlen,U?]using this
 ·rw[E'.1 hfr];exact⟨⟨⟨rfl,λ_ _ x=>x,λ_ _ _ _ y=>y⟩,apa⟩,rfl⟩
 ·have fin:∀g,(match eP x.S.tab g x.results with
     |some [.own k v t l]=>(match (g.heap[k]? : Option HO)with
      |some (.row t' e' v')=>if t'=t then if e'=e then if v'=v then(match cast? (.slice t) (.slice τ) l with
        |some l=>ä (AV.val (.slice τ) l)
        |none=>ö)
       else ö else ö else ö
      |_=>ö)
     |_=>ö)=ä (.val (.slice τ) l')→Rel [([.fix c.St.s c.w],[ê])] 0 ⟨B.b,λb=>b<c.w.heap.size⟩ c.w S0 g a w'∧0≤g.heap.length →
    LeavesInM (RF ö) 0 P fn a.tmps (λen w'=>∃r c',en = .returned r∧c'.heap=c.heap.set k (.row τ e (v+1))∧c'.w=w'∧Inv B w0 J c'∧Ev c c'∧RA c' (.own k (v+1) τ l') [r]) a.defers .returning w':=by
   rintro g C ⟨⟨c1,w1,rfl,hh1,hI1,hE1,⟨hb1,ho1,ms,hms,hnod,hmk⟩,hfs1⟩,hle⟩;rw[hms];refine eV ms c1 w1 hI1 hnod (λD hD=>⟨(hmk D hD).1,hI1.drawn.keep D _ (hmk D hD).2.2.1 rfl⟩) (λc' w2 g1 hI2 hE2 g4 g5 g6=>?_);have hh':c'.heap=g.heap:=g1.trans hh1;have hE':=hE1.mono hE2;have ho':Og (λb=>b<c.w.heap.size) c.w c'.w:=⟨Y' _,λk o x y=>by
    rw[g6 k (λhm=>by have:=(hmk k hm).2.1;have:=(δ.1 x).1;omega)];exact(ho1.trans hI1.drawn).keep k o x y,λk f=>by
    rw[g6 k (λhm=>(hmk k hm).2.2.2 f)];exact(ho1.trans hI1.drawn).kb k f⟩
   have p:Inv ⟨B.b,λb=>b<c.w.heap.size⟩ c.w S0 c':=hI2.base ((hb1.trans hI1.below).trans g4) ho';obtain⟨_,_,hfx2⟩:=((hfs1 _ (E'.2 rfl)).1.mono hE2).1;split at C
   ·rename_i k' v1 t1 l1 hl;split at C
    ·rename_i t2 e2 v2 hk';split at C
     ·rename_i q1;subst q1;split at C
      ·rename_i q2;subst q2;split at C
       ·rename_i q3;subst q3;split at C
        ·rename_i l2 hc;obtain⟨et,hl2⟩:=cast?_some hc;injection et with et;subst et;have hl2:l2=l1:=hl2;subst hl2;simp only[ι]at C;injection C with _ C;subst C;rw[←f4]at hl;obtain⟨r,vs',p1,p2,p3⟩:=fE tk p hh' hE' hl;match vs',p2,p3 with
         |[r0],⟨⟨s2,es2,hrep2,t3,e3,v3,T,hle3,hcur3⟩,_⟩,p3=>
         cases es2;have p3:r=r0:=p3;subst p3;rw[←hh']at hk';rw[hk']at T;injection T with T;injection T with z1 z2 z3;have hr0:r=c'.rv k':=hcur3 z3.symm;obtain⟨n',xs',hown',hsp'⟩:=p.row k' _ _ _ hk';have hok':obk c' k'=(c'.rv k').ownBlock:=by unfold obk;rw[hk']
         let S1:Sb:=⟨c'.St.s,λb e cap n=>c.St.j b e cap n∨c'.St.j b e cap n⟩;obtain⟨i1,i2⟩:=hI.turnedRow hk (w':=c'.w) (St':=S1) (s':=c'.rv k') (n':=n') (xs':=xs') p.below p.drawn.dr p.drawn.keep (λb hb _=>p.drawn.kb b hb) ⟨p.st0.s,λ_ _ _ _ x=>.inl x⟩ hfx2 p.to (λb o x=>(p.stN b o x).imp id λy=>⟨y.1,λz=>y.2 z.1⟩) hown' hsp' (λb hb z=>p.fo k' b (hok'.trans hb) z.1) (λb e cap n x=>(show c.St.j b e cap n∨c'.St.j b e cap n from x).imp id λx=>let q:=(p.vh b e cap n x).resolve_left λf=>f;⟨q.lo,λz=>q.nf z.1,⟨Y' _,q.le,q.cells,q.free⟩,λy=>q.own k' (hok'.trans y)⟩);refine⟨r,p1,r,{ c with w:=c'.w,heap:=c.heap.set k (.row t2 e2 (v+1)),rv:=λi=>if i=k then c'.rv k' else c.rv i,St:=S1 },rfl,rfl,rfl,i1,i2,r,rfl,RepV.mono (St:=c'.St) (St':=S1) ⟨λ_ _ x=>x,λ_ _ _ _ x=>Or.inr x⟩ (λ_ _ _ _ y=>y) hrep2,t2,e2,v+1, ?_,ε _,λ_=>?_⟩
         ·show(c.heap.set k _)[k]? = _;rw[cf,Θ rfl,Θ (ar hk)]
         ·simp;exact hr0
        ·cases C
       ·cases C
      ·cases C
     ·cases C
    ·cases C
   ·cases C
  cases en with
  |normal=>obtain⟨g,C,h2⟩:=hn;exact fin g C h2
  |ret=>obtain⟨g,C,h2⟩:=hn;exact fin g C h2
  |exit id=>obtain⟨g,C,_⟩:=hn;cases C
  |goto l=>exact hn.elim
  |panic ch=>exact hn.elim
  |outgrown=>exact hn.elim
end
section
variable {α β:Type}
def cl (m:Bool)(t:Ty)(e:Option t.den)(k:t.den→Option β):Option β:=match m with
 |true=>jJ e.isSome (e.getD (zero t)) k
 |false=>xG e λr=>nf t r k
def ce (m:Bool)(t:Ty)(g:Bool)(v:t.den)(k:t.den→Option β):Option β:=match m with
 |true=>jJ g v k
 |false=>jJ g v λr=>nf t r k
def fz (m:Bool)(t:Ty)(x:t.den)(k:t.den→β):β:=match m with
 |true=>k x
 |false=>nf t x k
def fm (m:Bool)(x:Nat)(k:Nat→β):β:=match m with
 |true=>k x
 |false=>fN x k
def ck (b:Bool)(k:Option β):Option β:=cond b k ö
abbrev ii (c:Bool):Bool:=aL c c
def q1 (n:Nat)(c:Bool):Bool:=match n with
 |0=>ii c
 |1=>ii c&&ü
 |2=>(ii c&&ü)&&ü
 |_=>(ii c&&(ii c&&ü))&&ü
def q2 (n:Nat)(c:Bool):Bool:=match n with
 |0=>ii c
 |1=>ii c&&ü
 |2=>ii c&&(ii c&&ü)
 |_=>ii c&&(ii c&&(ii c&&ü))
def nqT (c:Bool)(k:Option β):List Nat→Option β
 |[]=>k
 |n::r=>ck (q1 n c) (nqT c k r)
def nq (m:Bool)(l:List Nat)(c:Bool)(k:Option β):Option β:=match m with
 |true=>nqT c k l
 |false=>k
def nm (m:Bool)(n:Nat)(c z:Bool)(k:Option β):Option β:=match m with
 |true=>ck (q2 n c&&aL c z) k
 |false=>ck (aL c z) k
def aaJ (c:Bool)(k:Option β):∀l,nqT c k l=k
 |[]=>rfl
 |n::r=>by
  have:q1 n c=true:=by unfold q1;split <;> simp[aI]
  rw[nqT,this,aaJ c k r];rfl
def FD (m c:Bool)(k:Option β)(l:List Nat):nq m l c k=k:=by cases m;rfl;exact aaJ c k l
def UE (m:Bool)(n:Nat)(c z:Bool)(k:Option β):nm m n c z k=ck (aL c z) k:=by
 have:q2 n c=true:=by unfold q2;split <;> simp[aI]
 cases m
 ·rfl
 ·rw[nm,this,h?]
abbrev te (x:Tree):Tree:=Tree.mk x.kind x.text x.leads x.kids
abbrev bd (i:Int)(n:Nat):Bool:=0≤i&&i<(n:Int)
abbrev b1 (i:Int)(n:Nat):Bool:=0≤i&&i≤(n:Int)
abbrev b2 (i j:Int)(n:Nat):Bool:=0≤i&&i≤j&&j≤(n:Int)
abbrev il (l:List α):Int:=(l.length:Int)
abbrev lm (n:Nat):Bool:=decide (n≤LIM)
abbrev ni (n:Nat):Int:=(n:Int)
abbrev sl (l:List α)(i j:Int):List α:=(List.take (Int.toNat j) l).drop (Int.toNat i)
def s0 (m:Bool)(t:Ty)(e:Option t.den)(k:t.den→Option β):cl m t e k=xG e k:=by
 cases m
 ·simp[cl,IP]
 ·simp[cl,acH]
def s1 (m:Bool)(t:Ty)(g:Bool)(v:t.den)(k:t.den→Option β):ce m t g v k=jJ g v k:=by cases m <;> simp[ce,IP]
def s2 (m:Bool)(t:Ty)(x:t.den)(k:t.den→β):fz m t x k=k x:=by cases m <;> simp[fz,IP]
def s3 (m:Bool)(x:Nat)(k:Nat→β):fm m x k=k x:=by cases m <;> simp[fm,Vb]
variable{γ A0 A1 A2 A3:Type}
def s4 (f:β→γ)(b:Bool)(k:Option β):Option.map f (ck b k)=ck b (Option.map f k):=by cases b <;> rfl
def s5 (f:β→γ)(c:Bool)(x y:Option β):Option.map f (cond c x y)=cond c (Option.map f x) (Option.map f y):=af8 f c x y
def s6 (f:β→γ)(x:Option α)(k:α→Option β):Option.map f (xG x k)=xG x (λr=>Option.map f (k r)):=aaI f x k
def s7 (f:β→γ)(g:Bool)(v:α)(k:α→Option β):Option.map f (jJ g v k)=jJ g v (λr=>Option.map f (k r)):=Yy f g v k
def s8 (f:α→β)(x:α):Option.map f (ä x)=ä (f x):=rfl
def s9 (f:α→β):Option.map f ö=none:=rfl
abbrev sm (o:α→β):α→Option β:=λr=>ä (o r)
def lp {S:Type}(z:S)(f:S→S)(n:Nat):S:=Nat.rec z (λ_ s=>f s) n
def cq {S g:Type}{x:Nat→S}{e:g→S}{z:g}{f:g→g}(l:x 0=e z)(j:∀n s,x n=e s→x (n+1)=e (f s)):∀n,x n=e (lp z f n)
 |0=>l
 |n+1=>j n _ (cq l j n)
def kLp (f:Nat)(m:MS)(e:Sg→KT→Option AV)(k:KT)(n:Nat):KT:=I4 f m (aN f m e k n) k
def xc (ck:Callk)(S:Par)(g u:Nat)(c:Code):Sg→KT→Option AV:=λf k=>exec ck S g u c f k
abbrev mp0 (o:α→β)(f:Option α):Option β:=Option.map o (f)
abbrev mp1 (o:α→β)(f:A0→Option α):A0→Option β:=λg=>Option.map o (f g)
abbrev mp2 (o:α→β)(f:A0→A1→Option α):A0→A1→Option β:=λj g=>Option.map o (f j g)
abbrev mp3 (o:α→β)(f:A0→A1→A2→Option α):A0→A1→A2→Option β:=λl j g=>Option.map o (f l j g)
abbrev mp4 (o:α→β)(f:A0→A1→A2→A3→Option α):A0→A1→A2→A3→Option β:=λp l j g=>Option.map o (f p l j g)
abbrev mp5 {g:Type}(o:α→β)(f:A0→A1→A2→A3→g→Option α):A0→A1→A2→A3→g→Option β:=λC r p l j=>Option.map o (f C r p l j)
abbrev mp6 {j g:Type}(o:α→β)(f:A0→A1→A2→A3→j→g→Option α):A0→A1→A2→A3→j→g→Option β:=λP J C r p l=>Option.map o (f P J C r p l)
abbrev mp7 {l j g:Type}(o:α→β)(f:A0→A1→A2→A3→l→j→g→Option α):A0→A1→A2→A3→l→j→g→Option β:=λT R P J C r p=>Option.map o (f T R P J C r p)
abbrev ahM {T R P J C r j g:Type}(o:α→β)(f:A0→A1→A2→A3→T→R→P→J→C→r→j→g→Option α):A0→A1→A2→A3→T→R→P→J→C→r→j→g→Option β:=λa0 a1 a2 a3 a4 a5 a6 a7 a8 U p l=>Option.map o (f a0 a1 a2 a3 a4 a5 a6 a7 a8 U p l)
end
def ss:(∀{j:Type} (m:Bool) (t:Ty) (e:Option t.den) (k:t.den→Option j),cl m t e k=xG e k)∧(∀{j:Type} (m:Bool) (t:Ty) (g:Bool) (v:t.den) (k:t.den→Option j),ce m t g v k=jJ g v k)∧(∀{j:Type} (m:Bool) (t:Ty) (x:t.den) (k:t.den→j),fz m t x k=k x)∧(∀{j:Type} (m:Bool) (x:Nat) (k:Nat→j),fm m x k=k x)∧(∀{j T:Type} (f:j→T) (b:Bool) (k:Option j),Option.map f (ck b k)=ck b (Option.map f k))∧(∀{j T:Type} (f:j→T) (c:Bool) (x y:Option j),Option.map f (bif c then x else y)=bif c then Option.map f x else Option.map f y)∧(∀{p j T:Type} (f:j→T) (x:Option p) (k:p→Option j),Option.map f (xG x k)=xG x (λr=>Option.map f (k r)))∧(∀{p j T:Type} (f:j→T) (g:Bool) (v:p) (k:p→Option j),Option.map f (jJ g v k)=jJ g v (λr=>Option.map f (k r)))∧(∀{j:Type} (m c:Bool) (k:Option j) (l:List Nat),nq m l c k=k)∧(∀{j:Type} (m:Bool) (n:Nat) (c z:Bool) (k:Option j),nm m n c z k=ck (aL c z) k)∧(∀{p j:Type} (f:p→j) (x:p),Option.map f (ä x)=ä (f x))∧(∀{p j:Type} (f:p→j),Option.map f ö=ö)∧(∀{p j:Type} (o:p→j) (r:p),sm o r=ä (o r))∧(∀{p j:Type} (o:p→j) (f:Option p),mp0 o f=Option.map o (f))∧(∀{p j C:Type} (o:p→j) (f:C→Option p) a0,mp1 o f a0=Option.map o (f a0))∧(∀{p j C J:Type} (o:p→j) (f:C→J→Option p) a0 a1,mp2 o f a0 a1=Option.map o (f a0 a1))∧(∀{p j C J P:Type} (o:p→j) (f:C→J→P→Option p) a0 a1 a2,mp3 o f a0 a1 a2=Option.map o (f a0 a1 a2))∧(∀{p j C J P R:Type} (o:p→j) (f:C→J→P→R→Option p) a0 a1 a2 a3,mp4 o f a0 a1 a2 a3=Option.map o (f a0 a1 a2 a3))∧(∀{p j C J P R U:Type} (o:p→j) (f:C→J→P→R→U→Option p) a0 a1 a2 a3 a4,mp5 o f a0 a1 a2 a3 a4=Option.map o (f a0 a1 a2 a3 a4))∧(∀{p j C J P R U A5:Type} (o:p→j) (f:C→J→P→R→U→A5→Option p) a0 a1 a2 a3 a4 a5,mp6 o f a0 a1 a2 a3 a4 a5=Option.map o (f a0 a1 a2 a3 a4 a5))∧(∀{p j C J P R U A5 A6:Type} (o:p→j) (f:C→J→P→R→U→A5→A6→Option p) a0 a1 a2 a3 a4 a5 a6,mp7 o f a0 a1 a2 a3 a4 a5 a6=Option.map o (f a0 a1 a2 a3 a4 a5 a6))∧(∀{p j C J P R U A5 A6 A7 A8 A9 A10 A11:Type} (o:p→j) (f:C→J→P→R→U→A5→A6→A7→A8→A9→A10→A11→Option p) a0 a1 a2 a3 a4 a5 a6 a7 a8 a9 a10 a11,ahM o f a0 a1 a2 a3 a4 a5 a6 a7 a8 a9 a10 a11=Option.map o (f a0 a1 a2 a3 a4 a5 a6 a7 a8 a9 a10 a11)) :=
 ⟨s0,s1,s2,s3,s4,s5,s6,s7,FD,UE,s8,s9,λ_ _=>rfl,λ_ _=>rfl,λ_ _ _=>rfl,λ_ _ _ _=>rfl,λ_ _ _ _ _=>rfl,λ_ _ _ _ _ _=>rfl,λ_ _ _ _ _ _ _=>rfl,λ_ _ _ _ _ _ _ _=>rfl,λ_ _ _ _ _ _ _ _ _=>rfl,λ_ _ _ _ _ _ _ _ _ _ _ _ _ _=>rfl⟩
def Yl:(t:Ty)→List AV→Option t.den
 |.unit,[]=>ä ()
 |.cons a b,x::l=>match bb? a x,Yl b l with|some x,ä y=>ä (x,y)|_,_=>ö
 |_,_=>ö
def adT:(t:Ty)→t.den→List ((t:Ty)×t.den)
 |.cons a b,x=>⟨a,x.1⟩::adT b x.2
 |_,_=>[]
abbrev VX (t:Ty)(x:t.den):List AV:=(adT t x).map λd=>.val d.1 d.2
def GU:∀{t:Ty} {args:List AV} {x:t.den},Yl t args=ä x→Hm args (adT t x)
 |.unit,[],_,_=>trivial
 |.cons a b,u::l,x,h=>by
  simp[Yl]at h;split at h
  next y z g f=>cases h;exact⟨g,GU f⟩
  ·cases h
 |.int _,_,_,h|.bool,_,_,h|.str,_,_,h|.slice _,_,_,h|.tree,_,_,h|.unit,_::_,_,h|.cons _ _,[],_,h=>by simp[Yl]at h
def jU (fn:Func)(S:Par):Fi:=⟨S,fn.ntmps,fn.results.toList,fn.body.getD .skip⟩
def vt (fn:Func):Bool:=fn.body.isSome && !(fn.name == "runtime.NumGoroutine")
def Va {P:å}{f:è}{fn:Func}{S:Par}(h:P.funcs[f]? = ä fn)(g:vt fn=ü)(l:TabOk P S.tab)(p:SpecsOk P S.T):FiOk P f (jU fn S):=by
 simp only[vt,θ,akm]at g;refine⟨⟨fn,h, ?_,rfl,rfl,g.2⟩,l,p⟩;cases j:fn.body with
 |none=>rw[j]at g;simp at g
 |some c=>simp[jU,j]
section
variable {P:å}{f:è}{R:Type}
def evE (a:Ty)(o:R→AV)(z:R)(g:a.den→Option R):Ent:=λargs=>match Yl a args with
 |some y=>ä ((g y).isSome,o ((g y).getD z))
 |none=>ö
variable{fi:è→Option Fi}{hs:Hs}{d:Nat}{a:Ty}{tys:List Ty}{o:R→AV}{fn:Func}{S:Par}{e:é}
def aie (C:P.follows .mixedOrders=ü)(p:∀f x,fi f=ä x→FiOk P f x)(l:Hl P hs){x:Fi}(r:FiOk P f x){z:R}{g:a.den→Option R}
  (h:∀y,mT fi hs d x tys FU (VX a y)=Option.map o (g y)):aj P f (evE a o z g):=λargs cz j=>by
 unfold evE at j;split at j
 next y hy=>simp at j;obtain⟨J,rfl⟩:=j;exact kW (GU hy) (bi C p l r ((h y).trans (PR J)))
 ·cases j
def ajf (p:P.follows .mixedOrders=ü)(l:∀f x,fi f=ä x→FiOk P f x)(j:Hl P hs)(h1:P.funcs[f]? = ä fn)(h3:TabOk P S.tab)(J:SpecsOk P S.T){z:R}{g:a.den→Option R}
  (T:Nat→a.den→Option AV) (C:∀y,T FU y=Option.map o (g y)) (h2:vt fn=true:=by kernel_rfl) (r:∀U y,mT fi hs d (jU fn S) tys U (VX a y)=T U y:=by intro _ _;kernel_rfl):aj P f (evE a o z g) :=
 aie p l j (Va h1 h2 h3 J) λy=>(r FU y).trans (C y)
def nwE (f a:Ty)(e:é)(g:a.den→Option (List f.den)):Nw:=⟨f,e,λargs=>match Yl a args with
 |some y=>ä ((g y).isSome,(g y).getD [])
 |none=>ö⟩
def ahK (T:P.follows .mixedOrders=ü)(C:∀f x,fi f=ä x→FiOk P f x)(p:Hl P hs){x:Fi}(R:FiOk P f x){j:Ty}{g:a.den→Option (List j.den)}
  (h:∀y,aab fi hs d x j e FU (VX a y)=Option.map (λr=>.val (.slice j) r) (g y)):TN P f (nwE j a e g) :=
 Xi T C p R (d:=d) λargs l' l=>by
  split at l
  next y J=>simp at l;obtain⟨h1,U⟩:=l;exact⟨adT a y,GU J,FU,by rw[←U];exact(h y).trans (PR h1)⟩
  ·cases l
def ai7 (C:P.follows .mixedOrders=ü)(p:∀f x,fi f=ä x→FiOk P f x)(l:Hl P hs)(h1:P.funcs[f]? = ä fn)(h3:TabOk P S.tab)(h4:SpecsOk P S.T){j:Ty}{g:a.den→Option (List j.den)}
  (T:Nat→a.den→Option AV) (R:∀y,T FU y=Option.map (λr=>.val (.slice j) r) (g y)) (h2:vt fn=true:=by kernel_rfl) (J:∀U y,aab fi hs d (jU fn S) j e U (VX a y)=T U y:=by intro _ _;kernel_rfl):TN P f (nwE j a e g) :=
 ahK C p l (Va h1 h2 h3 h4) λy=>(J FU y).trans (R y)
end
