/- Parts. -/
import Derived.Test.YtfgpipfjalmooaaGreatKpD
import Derived.Deep.LoopGhost
import Derived.Laws.OwnMore
import Derived.Laws.AppendOwnNone
open Option renaming some→ä,none→ö
open Bool renaming true→ü,false→ß
open Go renaming World→æ,Value→ø,FuncId→å,undef→é,Oper→è
set_option linter.all false
noncomputable section
namespace Go.Proofs.YtfgpipfjalmooaaGreat
namespace Abs
open Go Go.Proofs Go.RowKit Go.Maps Go.Shelf Go.WideElems Go.MapKept Tryz
open Go.ChangeMaps (setBlock heap_setBlock_same)
open Go.ChangeShapes (lits)
attribute [local go_sem] Oper.semAt_some
def yf (n:Nat)(A:Option Addr)(l c:Nat)(W:æ):CallsIn Fence.wide n prog 29 #[.slice A l c] W λe f=>e = .returned (.func (.func 61) #[] #[.pointer (ä ⟨W.heap.size,0,ö⟩)])∧f=W.alloc (.cells #[.slice A l c] 24):=by
 refine callsIn_of_wp func29 rfl trivial ?_ rfl;simp[ntmps29]
 gi_wp2
 go_ret
 exact⟨rfl,rfl⟩
def aa4 (w:æ)(fn:å)(g l p:ø)(W0:æ)(f:W0=((((w.alloc (.map #[] 0)).alloc (.map #[] 0)).alloc (.cells #[.map (ä w.heap.size)] 63)).alloc (.cells #[.map (ä (w.heap.size+1))] 64)).alloc (.cells #[g] 24)) :
  W0.heap.size=w.heap.size+5∧W0.heap[w.heap.size+1+1+1+1]? = ä (.cells #[g] 24 (0,0))∧KpAt w fn g l p (W0.heap.size+1) W0.heap.size [] ((W0.alloc (.deferred (ä []))).alloc (.loop (ip fn g l p w.heap.size W0.heap.size .ready ö))):=by
 have hs0:W0.heap.size=w.heap.size+5:=by rw[f];simp
 have r:Below w.heap.size w W0:=by rw[f];exact(((((Below.refl _ w).alloc (ε _) _).alloc Ψ _).alloc (by simp <;> omega) _).alloc (by simp <;> omega) _).alloc (by simp <;> omega) _
 have T:bN W0 w.heap.size 0 (.map []):=by rw[f];exact((((World.ownsMap_made w prog 3 _).alloc _).alloc _).alloc _).alloc _
 have R:W0.ownsGroups prog 3 (w.heap.size+1+1) 3 .i64 (w.heap.size+1) 0 (.map []:DataW Unit):=by have:=World.ownsGroups_made (H:=Unit) (w.alloc (.map #[] 0)) prog 3 3 .i64;rw[X']at this;rw[f];exact iq (iq (iq this (κ _ _ _)) (κ _ _ _)) (κ _ _ _)
 have c1:W0.heap[w.heap.size+1+1]? = ä (.cells #[.map (ä w.heap.size)] 63 (0,0)):=by have:=World.alloc_heap_new ((w.alloc (.map #[] 0)).alloc (.map #[] 0)) (.cells #[.map (ä w.heap.size)] 63);rw[X',X']at this;rw[f];exact(Below.heap_alloc _ _ _ Ψ).trans ((Below.heap_alloc _ _ _ Ψ).trans this)
 have c2:W0.heap[w.heap.size+1+1+1]? = ä (.cells #[.map (ä (w.heap.size+1))] 64 (0,0)):=by have:=World.alloc_heap_new (((w.alloc (.map #[] 0)).alloc (.map #[] 0)).alloc (.cells #[.map (ä w.heap.size)] 63)) (.cells #[.map (ä (w.heap.size+1))] 64);rw[X',X',X']at this;rw[f];exact(Below.heap_alloc _ _ _ Ψ).trans this
 have U:W0.heap[w.heap.size+1+1+1+1]? = ä (.cells #[g] 24 (0,0)):=by have:=World.alloc_heap_new ((((w.alloc (.map #[] 0)).alloc (.map #[] 0)).alloc (.cells #[.map (ä w.heap.size)] 63)).alloc (.cells #[.map (ä (w.heap.size+1))] 64)) (.cells #[g] 24);rw[X',X',X',X']at this;rw[f];exact this
 refine⟨hs0,U, ?_⟩;have C:=World.alloc_heap_new (W0.alloc (.deferred (ä []))) (.loop (ip fn g l p w.heap.size W0.heap.size .ready ö));rw[X']at C;have P:=(Below.heap_alloc (W0.alloc (.deferred (ä []))) (.loop (ip fn g l p w.heap.size W0.heap.size .ready ö)) W0.heap.size Ψ).trans (World.alloc_heap_new W0 (.deferred (ä [])));have j:∀k,k<W0.heap.size→((W0.alloc (.deferred (ä []))).alloc (.loop (ip fn g l p w.heap.size W0.heap.size .ready ö))).heap[k]? = W0.heap[k]?:=λk J=>
  (Below.heap_alloc _ _ k Ξ).trans (Below.heap_alloc _ _ k J)
 refine⟨⟨(r.alloc Ω _).alloc Ξ _,by simp;omega,P,(j _ Ω).trans c1,(j _ Ω).trans c2,⟨0,_,ε _,(T.alloc _).alloc _,iy.nil.eq λx=>rfl⟩,⟨0,_,ε _,iq (iq R (κ _ _ _)) (κ _ _ _),sh.nil.eq λx=>rfl⟩⟩,C⟩
def mR (w:æ)(B:Nat)(A:Option Addr)(l:List Int):Prop:=0<l.length→∃b o,A=ä ⟨b,o,ö⟩∧b<B∧∀j (h:j<l.length),w.cell? ⟨b,o+j,ö⟩=ä (.int .i64 l[j])
structure GoodW (cs:List (List WK))(ws:List Int):Prop where
 n:cs.length≤1024
 m:∀c∈cs,c.length≤1048576
 t:cs.flatten.length≤500000
 wf:∀x∈cs.flatten,(Lit.int .i64 x.id).wf=ü∧(Lit.int .i64 x.rf).wf=ü
 wn:ws.length≤1024
 ww:∀x∈ws,(Lit.int .i64 x).wf=ü
open Go.ChangeMaps (setBlock heap_setBlock_same)
open Go.ChangeShapes (lits)
inductive RchK (all:List WK)(ws:List Int):Int→Prop
 |root {x:Int}:x∈ws→jH all x=ü→RchK all ws x
 |step {p x:Int}:RchK all ws p→x∈tV all p→RchK all ws x
structure WkI (all:List WK)(ws:List Int)(wk:List Int)(kp:Int→Bool):Prop where
 hw:∀x∈wk,RchK all ws x
 hk:∀x,kp x=ü→RchK all ws x
 rt:∀x∈ws,jH all x=ü→kp x=ü∨x∈wk
 cl:∀p,kp p=ü→∀x∈tV all p,kp x=ü∨x∈wk
def wB (all:List WK)(f:Int→Bool)(p:Int):List Int:=if f p then[]else tV all p
def Cn (all:List WK)(f:Int→Bool):Nat:=(all.filter λy=>y.fd == 2 && !f y.rf).length
def WkI.start (all:List WK)(ws:List Int):WkI all ws (ws.filter (jH all)) (λ_=>ß) :=
 ⟨λx f=>.root (C_.1 f).1 (C_.1 f).2,λ_ h=>by(cases h),λx f g=>.inr (C_.2 ⟨f,g⟩),λ_ h=>by(cases h)⟩
variable{all pre:List WK}{ws:List Int}{kp:Int→Bool}{R:Nat→Prop}{w W:æ}{D:Nat}{f:Int→List Int}
def WkI.pop {l:List Int}(h:WkI all ws l kp)(j:l≠[]):WkI all ws (l.dropLast++wB all kp (l.getLast j)) (λx=>x == l.getLast j||kp x):=by
 have J:=h.hw _ (List.getLast_mem j);have f:∀x∈l,x=l.getLast j∨x∈l.dropLast:=λx g=>by
  rw[←List.dropLast_concat_getLast j]at g;obtain e|e:=q'.1 g
  ·exact .inr e
  ·exact .inl (E'.1 e)
 refine⟨λx g=>?_,λx g=>?_,λx g P=>?_,λp C x g=>?_⟩
 ·obtain e|e:=q'.1 g
  ·exact h.hw x (List.dropLast_subset _ e)
  ·unfold wB at e;split at e
   ·cases e
   ·exact .step J e
 ·simp at g;obtain rfl|e:=g
  ·exact J
  ·exact h.hk x e
 ·simp;obtain e|e:=h.rt x g P
  ·exact .inl (.inr e)
  ·obtain e2|e2:=f x e
   ·exact .inl (.inl e2)
   ·exact .inr (.inl e2)
 ·simp at C⊢;by_cases r:kp p=ü
  ·obtain e|e:=h.cl p r x g
   ·exact .inl (.inr e)
   ·obtain e2|e2:=f x e
    ·exact .inl (.inl e2)
    ·exact .inr (.inl e2)
  ·obtain rfl|e:=C
   ·refine .inr (.inr ?_);unfold wB;rw[ω r];exact g
   ·exact absurd e r
def WkI.pop1 {f:List Int}{x:Int}(h:WkI all ws (f++[x]) kp):WkI all ws (f++wB all kp x) (λy=>y == x||kp y):=by have:=h.pop Ψ;simpa using this
def WkI.done (h:WkI all ws [] kp)(x:Int):kp x=ü↔RchK all ws x:=by
 refine⟨h.hk x,λj=>?_⟩;induction j with
 |root l f=>exact(h.rt _ l f).elim id λe=>(by cases e)
 |step _ f g=>exact(h.cl _ g _ f).elim id λe=>(by cases e)
def XA (all:List WK)(kp:Int→Bool)(id:Int):Cn all (λx=>x == id||kp x)+(wB all kp id).length=Cn all kp:=by
 unfold Cn wB tV;by_cases f:kp id=ü
 ·rw[Θ f];have:(all.filter λy=>y.fd == 2 && !(y.rf == id||kp y.rf))=all.filter λy=>y.fd == 2 && !kp y.rf:=by
   apply A?;intro y _;by_cases e:y.rf=id
   ·rw[e,f];simp
   ·rw[show(y.rf == id)=ß from S'.2 e];simp
  rw[this];rfl
 ·rw[ω f,G'];have g:kp id=false:=by simpa using f
  induction all with
  |nil=>rfl
  |cons y all l=>
   have j:∀(p:WK→Bool),((y::all).filter p).length=(if p y=ü then 1 else 0)+(all.filter p).length:=λp=>by rw[S?];split <;> simp <;> omega
   have J:=j (λy=>y.fd == 2 && !(y.rf == id||kp y.rf));have C:=j (λy=>y.fd == 2&&y.rf == id);have r:=j (λy=>y.fd == 2 && !kp y.rf);simp only at J C r l⊢;have P:(if (y.fd == 2 && !(y.rf == id||kp y.rf))=ü then 1 else 0)+(if (y.fd == 2&&y.rf == id)=ü then 1 else 0)=(if (y.fd == 2 && !kp y.rf)=ü then 1 else 0):=by
    by_cases e:y.rf=id
    ·rw[e,g];cases y.fd == 2 <;> simp
    ·rw[show(y.rf == id)=ß from S'.2 e];cases y.fd == 2 <;> cases kp y.rf <;> simp
   omega
def abj (all:List WK)(kp:Int→Bool)(id:Int)(q:Int):(if q=id then[]else wB all kp q)=wB all (λx=>x == id||kp x) q:=by
 unfold wB;by_cases e:q=id
 ·subst e;simp
 ·show _=if (q == id||kp q)=ü then[]else tV all q
  rw[ω e,show(q == id)=ß from S'.2 e];simp
def aa1 (all:List WK)(kp:Int→Bool):Cn all kp≤all.length:=H_ ..
def F3 (h:∃k,R k):∃k,R k∧∀j,R j→k≤j:=by
 obtain⟨k,r⟩:=h;induction k using Nat.strongRecOn with
 |_ k l=>
  by_cases g:∃j,j<k∧R j
  ·obtain⟨j,f,p⟩:=g;exact l j f p
  ·exact⟨k,r,λj f=>alp λh=>g ⟨j,h,f⟩⟩
def tN (R:Nat→Prop):Nat:=by
 classical
 exact if h:∃k,R k then Classical.choose (F3 h)else 0
def O9 (h:∃k,R k):R (tN R):=by
 classical
 unfold tN;rw[aki h];exact(al0 (F3 h)).1
def XC {k:Nat}(h:R k):tN R≤k:=by
 classical
 unfold tN;rw[aki ⟨k,h⟩];exact(al0 (F3 ⟨k,h⟩)).2 _ h
structure KqS (w:æ)(D S:Nat)(pre:List WK)(f:Int→List Int)(W:æ):Prop where
 below:Below w.heap.size w W
 sz:S≤W.heap.size
 lo:w.heap.size+5≤S
 dS:D<S
 K:W.heap[D]? = ä (.deferred (ä []))
 c1:W.heap[w.heap.size+1+1]? = ä (.cells #[.map (ä w.heap.size)] 63 (0,0))
 c2:W.heap[w.heap.size+1+1+1]? = ä (.cells #[.map (ä (w.heap.size+1))] 64 (0,0))
 defs:∃n J,bN W w.heap.size n J∧iy J (jH pre)
 ins:∃n D2,n≤pre.length∧W.ownsGroups Tryz.prog 3 (w.heap.size+1+1) 3 .i64 (w.heap.size+1) n D2∧sh D2 f∧gN W (w.heap.size+1) S
def KqS.of (h:KpS w D pre W)(P:w.heap.size+5≤W.heap.size):KqS w D W.heap.size pre (tV pre) W:=by obtain⟨C,J,R,l,j⟩:=h.defs;obtain⟨r,T,p,f,g⟩:=h.ins;exact⟨h.below,ε _,P,(δ.1 h.K).1,h.K,h.c1,h.c2,⟨C,J,l,j⟩,⟨r,T,p,f,g,gN.start f⟩⟩
def KqS.kept {w W C:æ}{D S:Nat}{pre:List WK}{f:Int→List Int}{row:Option Nat}(h:KqS w D S pre f W)(g:W.grownBy C row)(P:∀r,row=ä r→S≤r):KqS w D S pre f C:=by
 have lt:∀{k:Nat} {o:Obj},W.heap[k]? = ä o→k<W.heap.size:=λh=>(δ.1 h).1;have hlo:=h.lo;have hd:=h.dS;have ne:∀k,k<S→ä k≠row:=λk hk e=>by have:=P k e.symm;omega
 obtain⟨n1,J,T,l⟩:=h.defs;obtain⟨n2,D2,U,R,j,p⟩:=h.ins;obtain⟨g1,g2⟩:=Cv R p g (ne _ Ω) P;exact⟨h.below.grown g h.below.size λk e=>by have:=P k e;omega,ξ h.sz g.size,h.lo,h.dS,(g.block D (lt h.K) (ne D hd)).trans h.K,(g.block _ (lt h.c1) (ne _ Ω)).trans h.c1,(g.block _ (lt h.c2) (ne _ Ω)).trans h.c2,
  ⟨n1,J,T.kept g (ne _ Ω),l⟩,⟨n2,D2,U,g1,j,g2⟩⟩
def KqS.quiet {C :æ}{S:Nat}(h:KqS w D S pre f W)(g:W.grownBy C ö):KqS w D S pre f C:=h.kept g λr e=>by cases e
def KqS.eq {S:Nat}{g:Int→List Int}(h:KqS w D S pre f W)(e:∀x,f x=g x):KqS w D S pre g W:=by have:f=g:=funext e;rw[←this];exact h
def KqS.drop {S:Nat}(h:KqS w D S pre f W)(x:Int)(g:(Lit.int .i64 x).wf=ü)(ty:TypeId) :
  ∃C,(Builtin.delete_ #[64,3] ty #[.map (ä (w.heap.size+1)),.int .i64 x]).run prog W = .ok (.tuple #[]) C∧KqS w D S pre (λq=>if q=x then[]else f q) C∧W.grownBy C (ä (w.heap.size+1)):=by
 have lt:∀{k:Nat} {o:Obj},W.heap[k]? = ä o→k<W.heap.size:=λh=>(δ.1 h).1;obtain⟨n1,J,T,P⟩:=h.defs;obtain⟨n2,D2,hn2,l,r,R⟩:=h.ins;have hlo:=h.lo;obtain⟨C,j,g1,g2,p⟩:=Px l R x g ty;have ne:∀k,k≠w.heap.size+1→ä k≠ä (w.heap.size+1):=λk g e=>g (by injection e);have all:∀{k:Nat} {o:Obj},(∀es c,o ≠ .map es c)→W.heap[k]? = ä o→C.heap[k]? = ä o:=λ{k o} U g=>by
  by_cases e:k=w.heap.size+1
  ·subst e;obtain⟨es,c,hb,_⟩:=l;rw[hb]at g;cases g;exact(U _ _ rfl).elim
  ·exact(p.block k (lt g) (ne k e)).trans g
 exact⟨C,j,⟨h.below.grown p h.below.size λk e=>by injection e with e;omega,ξ h.sz p.size,h.lo,h.dS,all (λ_ _ e=>by cases e) h.K,all (λ_ _ e=>by cases e) h.c1,all (λ_ _ e=>by cases e) h.c2,
  ⟨n1,J,T.kept p (ne _ Ω),P⟩,⟨n2,_,hn2,g1,r.del x,g2⟩⟩,p⟩
section
variable {F:Fence}{T:Nat}{w:æ}{ops:Array è}{rest:List è}{o:è}{a:Act}{Q:Exit→Act→æ→Prop}
def i7 (hgd:o.guard=ö)(s x:Operand)(ho:o.op = .call { callee :=.builtin .append,args :=#[s,x],argTypes :=#[23,23] })(f C:Nat)(v u:ø)(l r:List Int)(hs:a.eval s=v)(hx:a.eval x=u)(p:w.ownsRow f 3 1 v l.length (intsI l))(hu:w.ownsInts C 3 .i64 u r)(h1:l.length+r.length≤4194304)(hb:f≤w.heap.size)
  (h:∀v' J,J.ownsRow f 3 1 v' (l++r).length (intsI (l++r))→w.grownBy J v.ownBlock→wpListIn F T prog ops Q rest (a.put o.dst v') J):wpListIn F T prog ops Q (o::rest) a w:=by
 obtain⟨i0,U,hz0,hz1,hz2⟩:=info_parts abn;have happ:intsI (l++r)=intsI l++r.map (.int .i64):=by simp[intsI]
 rcases hu.1.2 with⟨rfl,hz⟩|⟨g,cap,cur,rfl,_,hg,_,_,_,ht⟩
 ·have hz:r=[]:=Q' hz;subst hz;refine wpListIn_plain hgd λK hK=>?_;have R:=run_append_owned_none (P:=prog) (w:=w) f 23 o.type 3 i0 1 Zj U v l.length _ p;unfold Oper.wpIn;refine⟨by simp[Oper.about,ho,resolve,Target.leads,n_], ?_⟩;rw[Oper.semAt_plain F _ _ (by rw[ho];intro c hc';cases hc')];simp[execOp,ho,resolve,invoke,builtin,hs,hx,R,Result.andThen];refine hK _ _ (h v w (by simpa using p) ⟨rfl,rfl,rfl,ε _,λ_ _ _=>rfl⟩)
 ·refine wpListIn_append_own_at w hgd s x 23 ho f 3 i0 (.int .i64 0) 1 8 Zj U hz0 hz1 hz2 rfl Ϛ v l.length _ hs p ⟨g,0,ö⟩ r.length cap (r.map (.int .i64)) hx Ψ (λj y hj=>hu.1.cells rfl j y hj) (by simp[Value.oneCell']) (by unfold maxLen;omega) Ω hb ?_;intro v' J h2 h3 _ _;refine h v' J ?_ h3;rw[happ,J'];exact h2
end
def aef (w:æ)(x:Int)(f:(Lit.int .i64 x).wf=ü):(w.alloc (.cells #[.int .i64 x] 3)).ownsInts w.heap.size 3 .i64 (.slice (ä ⟨w.heap.size,0,ö⟩) 1 1) [x] :=
 ⟨⟨rfl,.inr ⟨_,1,_,rfl,ε _,World.alloc_heap_new _ _,ε _,by unfold maxLen;omega,rfl,rfl⟩⟩,by simpa using f⟩
variable{w W C :æ}{n D S B:Nat}{l ws:List Int}{pre:List WK}{kp K:Int→Bool}{y:WK}{J:DataW Unit}{A:Option Addr}{cs:List (List WK)}
def IK {f:Nat}{e:TypeId}{v:ø}{j:List ø}(h:w.ownsRow f e 1 v n j):∃A c,v = .slice A n c:=by
 rcases h.2 with⟨rfl,l⟩|⟨g,cap,p,rfl,_⟩
 ·exact⟨ö,0,by rw[l]⟩
 ·exact⟨_,_,rfl⟩
def aee {f g cap:Nat}(h:w.ownsRow f 3 1 (.slice (ä ⟨g,0,ö⟩) l.length cap) l.length (intsI l)):w.ownsRow f 3 1 (.slice (ä ⟨g,0,ö⟩) (l.length-1) cap) l.dropLast.length (intsI l.dropLast):=by
 rcases h.2 with⟨e,_⟩|⟨U,p,j,e,C,r,T,R,P,J⟩
 ·cases e
 ·cases e;rw[List.length_dropLast];refine⟨by simp[intsI],.inr ⟨g,cap,j,rfl,C,r,Ω,R,P, ?_⟩⟩;rw[show intsI l.dropLast=(intsI l).take (l.length-1)by unfold intsI;rw[List.dropLast_eq_take,List.map_take],←J,akE];congr 1;omega
def wu {F:Fence}{T:Nat}{j:Array è}{rest:List è}{o:è}{a:Act}{Q:Exit→Act→æ→Prop}{f:Int→List Int}(hg:o.guard=ö)(m x:Operand)(g:o.op=Op.call { callee:=Callee.builtin Builtin.delete,args :=#[m,x],argTypes :=#[64,3] })(h:KqS w D S pre f W)(k:Int)(U:(Lit.int .i64 k).wf=ü)
  (R:a.eval m = .map (ä (w.heap.size+1))) (P:a.eval x = .int .i64 k) (hK:∀C,KqS w D S pre (λq=>if q=k then[]else f q) C→W.grownBy C (ä (w.heap.size+1))→wpListIn F T prog j Q rest (a.put o.dst (.tuple #[])) C):wpListIn F T prog j Q (o::rest) a W:=by
 refine wpListIn_plain hg λK' r=>?_;obtain⟨C,l,r1,J⟩:=h.drop k U o.type;unfold Oper.wpIn;refine⟨by simp[Oper.about,g,resolve,Target.leads,n_], ?_⟩;rw[Oper.semAt_plain F _ _ (by rw[g];intro c p;cases p)];simp[execOp,g,resolve,invoke,builtin,R,P,l,Result.andThen];exact r _ _ (hK C r1 J)
def QO (D:DataW Unit)(kp:Int→Bool):Prop:=∀x:Int,Maps.has D (.int .i64 x)=kp x
def QO.nil:QO (.map []) (λ_=>ß):=λ_=>rfl
def QO.put {D:DataW Unit}{kp:Int→Bool}(h:QO D kp)(g:IsMap D)(p:Int)(f:WideAt.IsKeyLit (.int .i64 p))(d:DataW Unit):QO (D.put (.int .i64 p) d) (λx=>x == p||kp x):=λq=>by
 by_cases e:q=p
 ·subst e;rw[has_put_same g f];simp
 ·rw[has_put_other (λj=>e (by cases j;rfl)),h q];show kp q=(q == p||kp q);rw[show(q == p)=ß from S'.2 e];simp
def Pb {b:Nat}{D:DataW Unit}(g:bN w b n D)(hh:QO D kp):(intKeys D).Nodup∧∀x,x∈intKeys D↔kp x=true:=by
 obtain⟨C,hD,P,_⟩:=g.entries Lz;obtain⟨U,l,T⟩:=g.keysOf;obtain rfl:C=U:=by rw[hD]at l;simpa using l
 subst hD;have r:∀p∈C,∃x,p.1 = .int .i64 x:=λp P=>by obtain⟨v,hv⟩:=T p P;obtain⟨x,_,hx,_⟩:=Maps.keyOf_i64 Kn hv;exact⟨x,hx⟩
 refine⟨?_,λx=>?_⟩
 ·show(C.map λp=>Go.intOf p.1).Nodup;refine alf.2 (P.imp_of_mem λ{p q} f J R e=>R ?_);obtain⟨a,j⟩:=r p f;obtain⟨b,hb⟩:=r q J;rw[j,hb]at e⊢;exact l_ _ e
 ·rw[←hh x,has_eq,alt];show x∈(C.map λp=>Go.intOf p.1)↔_;rw[a_];constructor
  ·rintro⟨p,f,rfl⟩;obtain⟨a,j⟩:=r p f;exact⟨p,f,by rw[j];simp[Lit.sameKey,Go.intOf]⟩
  ·rintro⟨p,f,hs⟩;obtain⟨a,j⟩:=r p f;rw[j]at hs;exact⟨p,f,by rw[j];simpa[Lit.sameKey,Go.intOf]using hs⟩
def ot (f:List Int)(P:Int→Prop):Prop:=f.Pairwise (λx y=>x<y)∧∀x,x∈f↔P x
def QF {ss:List Int}{P:Int→Prop}(p:ss.Perm l)(r:l.Nodup)(C:∀x,x∈l↔P x):ot (ss.mergeSort λx y=>decide (x≤y)) P:=by
 have f:=(List.mergeSort_perm ss λx y=>decide (x≤y)).trans p;have j:=List.pairwise_mergeSort (le:=λx y:Int=>decide (x≤y)) (λa b c R J=>by simp at *;omega) (λa b=>by simp;omega) ss;have g:(ss.mergeSort λx y=>decide (x≤y)).Nodup:=f.nodup_iff.2 r;refine⟨?_,λx=>by rw[f.mem_iff,C]⟩;refine(j.and g).imp λ{a b} h=>?_;have R:a≤b:=by simpa using h.1
 have J:a≠b:=h.2;omega
def abl (all:List WK)(kp:Int→Bool)(id:Int):(wB all kp id).length≤all.length:=by
 unfold wB tV;split
 ·simp
 ·rw[G'];exact H_ ..
def abk {all:List WK}{id x:Int}(h:x∈wB all kp id):∃y∈all,y.id=x:=by
 unfold wB tV at h;split at h
 ·cases h
 ·obtain⟨y,f,e⟩:=a_.1 h;exact⟨y,(C_.1 f).1,e⟩
def KtR (w:æ)(D S:Nat)(pre:List WK)(ws:List Int)(k:Nat)(v:ø)(wr:æ):Prop :=
 ∃(f:List Int) (kp:Int→Bool) (j:Nat) (g:DataW Unit),k=f.length+Cn pre kp∧WkI pre ws f kp∧(∀x∈f,(Lit.int .i64 x).wf=ü)∧KqS w D S pre (wB pre kp) wr∧S+1≤wr.heap.size∧bN wr S j g∧iy g kp∧QO g kp∧j+k≤1000000∧wr.ownsRow (S+1) 3 1 v f.length (intsI f)
attribute [local go_sem] Oper.semAt_some
def wG (pre:List WK)(ws:List Int)(k:Nat):List Int:=(ws.take k).filter (jH pre)
def D4 (pre:List WK)(ws:List Int)(k:Nat)(h:k<ws.length):wG pre ws (k+1)=if jH pre ws[k]then wG pre ws k++[ws[k]]else wG pre ws k:=by unfold wG;rw[N' h,W?,S?,alA];split <;> simp
def Y9 (pre:List WK)(ws:List Int)(k:Nat):(wG pre ws k).length≤ws.length:=ξ (H_ ..) Ξ
def WtL (w:æ)(D S:Nat)(pre:List WK)(ws:List Int)(v i:ø)(wr:æ):Prop :=
 ∃k:Nat,k≤ws.length∧i = .int .i64 k∧KqS w D S pre (tV pre) wr∧S+1≤wr.heap.size∧bN wr S 0 (.map [])∧wr.ownsRow (S+1) 3 1 v (wG pre ws k).length (intsI (wG pre ws k))
def ahg (m:Nat):AnyZI.SortsIn prog sortZ_ren Fence.wide m :=
 ⟨λl g cap ss W r f j=>callsIn_wide.2 (AnyM.slices_Sort_int sortI l g cap ss W r f j),
  λp cap W=>callsIn_wide.2 (AnyM.slices_Sort_int_none sortI p cap W)⟩
def aa5 (n:Nat)(f:Option Nat)(W:æ):CallsIn Fence.wide n prog 31 #[.map f] W λe g=>e = .returned (.func (.func 63) #[] #[.pointer (ä ⟨W.heap.size,0,ö⟩)])∧g=W.alloc (.cells #[.map f] 63) :=
 AnyZI.keys_in keysZ Fence.wide n trivial rfl f W
def Pc (wr:æ)(S n:Nat)(D:DataW Unit)(f:bN wr S n D):SeqGives Fence.wide 4 prog 63 #[.pointer (ä ⟨wr.heap.size,0,ö⟩)] encZ (λss=>ss.Perm (intKeys D)) (Maps.size D) (wr.alloc (.cells #[.map (ä S)] 63)) :=
 AnyZI.keys_gives (ρ:=keysZ_ren) { keysZ with } Fence.wide 4 trivial rfl Ω wr.heap.size S n D _ Ψ Ψ (World.ownsMap.alloc f _)
def Ri (n:Nat)(p:n=7)(b:Nat)(W:æ)(P:List Int→Prop)(N:Nat)(R:N≤maxLen)(J:N*8≤140737488355328)(f:SeqGives Fence.wide 4 prog 63 #[.pointer (ä ⟨b,0,ö⟩)] encZ P N W) :
  CallsIn Fence.wide n prog 30 #[.func (.func 63) #[] #[.pointer (ä ⟨b,0,ö⟩)]] W λe j=>∃v ss,e = .returned v∧P ss∧j.ownsRow W.heap.size 3 1 v ss.length (intsI (ss.mergeSort λx y=>decide (x≤y)))∧Below W.heap.size W j:=by
 subst p;have l:=AnyZI.sorted_in sortZ Fence.wide 7 trivial trivial trivial trivial rfl Ω (ahg _) (enters_of func36 Φ rfl) 63 #[.pointer (ä ⟨b,0,ö⟩)] trivial (enters_of func63 Φ rfl) P N R J W f;change CallsIn _ _ prog 30 _ _ _ at l;refine l.mono ?_;rintro e j ⟨v,ss,rfl,C,g,_,r⟩;exact⟨v,ss,rfl,C,g,r⟩
set_option maxRecDepth 100000 in
set_option maxHeartbeats 1600000 in
def aeX (cs:List (List WK))(ws:List Int)(R:GoodW cs ws)(w:æ)(A A2:Option Addr)(cap j:Nat)(hcs:dO w w.heap.size A cs)(hws:mR w w.heap.size A2 ws):CallsIn Fence.wide 8 prog 10 #[.slice A cs.length cap,.slice A2 ws.length j] w λe w'=>∃v ks,e = .returned v∧ot ks (RchK cs.flatten ws)∧Below w.heap.size w w'∧w'.ownsRow w.heap.size 3 1 v ks.length (intsI ks):=by
 have hmm:=@run_makeMap prog;refine callsIn_of_wp_marks func10 rfl trivial ?_ rfl;simp only[ntmps10,l?,v_,J?,Nat.reduceAdd,Nat.reduceSub,P?,O?,K?,Q?,s_,aj3]
 gi_wp2
 refine⟨apa,(yf 7 A cs.length cap _).mono ?_⟩;rintro e W0 ⟨rfl,hW0⟩;simp only[X']at hW0⊢
 gi_wp2
 refine wpIn_rangeFunc ?_;intro fn hfn;obtain⟨hs0,hbx,hM⟩:=aa4 w fn (.slice A cs.length cap) (.slice A2 ws.length j) (.func (.func 61) #[] #[.pointer (ä ⟨w.heap.size+1+1+1+1,0,ö⟩)]) W0 hW0;have hb0:Below w.heap.size w W0:=by rw[hW0];exact(((((Below.refl _ w).alloc (ε _) _).alloc Ψ _).alloc (by simp <;> omega) _).alloc (by simp <;> omega) _).alloc (by simp <;> omega) _
 have hcs0:=dO.keep hcs hb0;have hb01:Below W0.heap.size W0 ((W0.alloc (.deferred (ä []))).alloc (.loop (ip fn (.slice A cs.length cap) (.slice A2 ws.length j) (.func (.func 61) #[] #[.pointer (ä ⟨w.heap.size+1+1+1+1,0,ö⟩)]) w.heap.size W0.heap.size .ready ö))):=((Below.refl _ W0).alloc (ε _) _).alloc Ψ _;obtain⟨W1,hW1⟩:∃W1,(W0.alloc (.deferred (ä []))).alloc (.loop (ip fn (.slice A cs.length cap) (.slice A2 ws.length j) (.func (.func 61) #[] #[.pointer (ä ⟨w.heap.size+1+1+1+1,0,ö⟩)]) w.heap.size W0.heap.size .ready ö))=W1:=⟨_,rfl⟩;rw[hW1]at hM hb01;have hrun:(Instr.enterLoop fn (kpT (.slice A cs.length cap) (.slice A2 ws.length j) (.func (.func 61) #[] #[.pointer (ä ⟨w.heap.size+1+1+1+1,0,ö⟩)]) w.heap.size) #[17] (ad5 f10.body) (ad4 f10.body) ö).run prog W0 = .ok (W0.heap.size+1,[{ target :=.collected W0.heap.size,args :=#[] }]) W1:=by rw[←hW1];exact run_enterLoop_outer _ _ _ _ _
 clear hW1 hW0;refine⟨W0.heap.size+1,[{ target :=.collected W0.heap.size,args :=#[] }],W1,{ target :=.fn (.func 61) #[.pointer (ä ⟨w.heap.size+1+1+1+1,0,ö⟩)],args :=#[.func (.yield (W0.heap.size+1)) #[] #[]] },W1,61,
  #[.func (.yield (W0.heap.size+1)) #[] #[],.pointer (ä ⟨w.heap.size+1+1+1+1,0,ö⟩)],W1,hrun, ?_,λ_ _=>trivial, ?_,λ_=>Ω, ?_⟩
 ·simp[resolve,go_sem]
 ·simp[invoke,go_sem,enters_of func61 Φ rfl]
 ·refine(ye Fence.wide 7 trivial rfl Ω (w.heap.size+1+1+1+1) w.heap.size A cap cs (by have:=R.n;omega) R.m W0 Ω Ω ((cell_of_box_a hbx).1) hcs0 (W0.heap.size+1) (KpAt w fn (.slice A cs.length cap) (.slice A2 ws.length j) (.func (.func 61) #[] #[.pointer (ä ⟨w.heap.size+1+1+1+1,0,ö⟩)]) (W0.heap.size+1) W0.heap.size) W1 hb01 (λs W C h hg=>h.quiet hg) ?_ hM).mono ?_
  ·intro pre x W hJ hlt hx;exact aeV 6 w fn _ _ _ _ _ Ω Ω Ω pre x W hJ (by have:=R.t;omega) (R.wf x hx).1 (R.wf x hx).2
  rintro e W2 ⟨⟨v0,rfl⟩,h2⟩;have hend:=run_endLoop (P:=prog) h2.L (by simp[ip]);have hS3:=LA (r':={ ip fn (.slice A cs.length cap) (.slice A2 ws.length j) (.func (.func 61) #[] #[.pointer (ä ⟨w.heap.size+1+1+1+1,0,ö⟩)]) w.heap.size W0.heap.size .ready ö with state :=.exhausted }) h2.S h2.L Ω Ω;refine⟨ö,_,hend, ?_⟩;have hs3:w.heap.size+5≤(W2.putObj (W0.heap.size+1) (.loop { ip fn (.slice A cs.length cap) (.slice A2 ws.length j) (.func (.func 61) #[] #[.pointer (ä ⟨w.heap.size+1+1+1+1,0,ö⟩)]) w.heap.size W0.heap.size .ready ö with state :=.exhausted })).heap.size:=by have:=(δ.1 h2.S.K).1;have h3:=(grownBy_putObj_a W2 (W0.heap.size+1) (.loop { ip fn (.slice A cs.length cap) (.slice A2 ws.length j) (.func (.func 61) #[] #[.pointer (ä ⟨w.heap.size+1+1+1+1,0,ö⟩)]) w.heap.size W0.heap.size .ready ö with state :=.exhausted })).size;omega
  generalize W2.putObj (W0.heap.size+1) _=W3 at hS3 hs3⊢;have T:=KqS.of hS3 hs3;clear h2 hend hM hrun hb01 hcs0 hb0 hbx hS3;have hD:W0.heap.size<W3.heap.size:=T.dS;obtain⟨D,hDe⟩:∃D,D=W0.heap.size:=⟨_,rfl⟩;rw[←hDe]at T hD⊢;obtain⟨S,hSe⟩:∃S,S=W3.heap.size:=⟨_,rfl⟩;rw[←hSe]at T hD;have hq4:=T.quiet (κ W3 (.map #[] 0) ö);have hk4:bN (W3.alloc (.map #[] 0)) S 0 (.map []):=by rw[hSe];exact World.ownsMap_made W3 prog 3 _
  have hs4:S+1≤(W3.alloc (.map #[] 0)).heap.size:=by simp;omega
  gi_wp2
  rw[←hSe];generalize W3.alloc (.map #[] 0)=W4 at hq4 hk4 hs4⊢;have hDA:Aside (D=w.heap.size+5):=by rw[hDe];exact hs0
  clear T hSe hs3 hDe hs0
  gi_loopw [9,11,57] (λv _ i wr=>WtL w D S cs.flatten ws v i wr) (λ_ _ i _=>ws.length-(Go.RowKit.intOf i).toNat)
  case atStart=>exact⟨0,Y' _,rfl,hq4,hs4,hk4,Y_ _ _ _ _⟩
  case round=>
   clear hq4 hk4 hs4;obtain⟨k,hk,rfl,T,hs,hkp,f⟩:=hrel;have hwn:=R.wn;by_cases hlt:k<ws.length
   ·obtain⟨wb,wo,rfl,hwb,hwc⟩:=hws Ω;have hwx:wr.cell? ⟨wb,wo+k,ö⟩=ä (.int .i64 ws[k]):=(T.below.cell (p:=⟨wb,wo+k,ö⟩) hwb).trans (hwc k hlt);have hc1:=(cell_of_box_a T.c1).1;obtain⟨n1,J,ho1,hd1⟩:=T.defs;have hlk:=eL wr ho1 hd1 ws[k] (R.ww _ (j_ hlt));have hwl:=Y9 cs.flatten ws k;by_cases hdk:jH cs.flatten ws[k]=ü
    ·rw[hdk]at hlk;have hnew:=aef wr ws[k] (R.ww _ (j_ hlt))
     gi_wp2_with (first
      |(gi_at_builtin;refine i7 rfl _ _ rfl (S+1) wr.heap.size u9 (.slice (ä ⟨wr.heap.size,0,ö⟩) 1 1) (wG cs.flatten ws k) [ws[k]] rfl rfl (f.alloc _) hnew Ξ Ξ ?_;intro v' w3 hown' U)
      |gi_in)
     have hg0:=κ wr (.cells #[.int .i64 ws[k]] 3) ö;have hq1:=T.quiet hg0;have hrr:∀r,u9.ownBlock=ä r→S+1≤r:=λr e=>(f.lt r e).1;have hq3:=hq1.kept U (λr e=>by have:=hrr r e;omega);have hk3:=(hkp.kept hg0 Ψ).kept U (λe=>by have:=hrr S e.symm;omega)
     go_roundw
     case rel =>refine⟨k+1,Ω,Ψ,hq3,ξ hs (ξ hg0.size U.size),hk3, ?_⟩;rw[D4 _ _ _ hlt,Θ hdk];exact hown'
     case measure=>simp[Go.RowKit.intOf];omega
    ·have hdk:jH cs.flatten ws[k]=false:=by simpa using hdk
     rw[hdk]at hlk
     gi_wp2
     go_roundw
     case rel =>refine⟨k+1,Ω,Ψ,T,hs,hkp, ?_⟩;rw[D4 _ _ _ hlt,hdk];exact f
     case measure=>simp[Go.RowKit.intOf];omega
   ·obtain rfl:k=ws.length:=Ω
    have hw0:wG cs.flatten ws ws.length=ws.filter (jH cs.flatten):=by unfold wG;rw[x_]
    rw[hw0]at f
    gi_wp2
    gi_loopw [9,12] (λv _ wr=>∃k,KtR w D S cs.flatten ws k v wr) (λv _ wr=>tN λk=>KtR w D S cs.flatten ws k v wr)
    case atStart =>refine⟨_,_,_,0,_,rfl,WkI.start _ _,λx hx=>R.ww x (C_.1 hx).1,T.eq λx=>by unfold wB;rw[ω Ψ],hs,hkp,iy.nil,QO.nil, ?_,f⟩;have h1:=aa1 cs.flatten (λ_=>ß);have h2:=H_ (jH cs.flatten) ws;have:=R.t;omega
    case round=>
     clear f hkp hs T;have hk0:=O9 hrel;obtain⟨k0,hk0e⟩:∃k0,k0=tN (λk=>KtR w D S cs.flatten ws k u9 wr):=⟨_,rfl⟩;rw[←hk0e]at hk0;obtain⟨wk,kp,n3,D3,hk,hwi,hwf,T,hs,ho3,hd3,hh3,hn3,f⟩:=hk0;obtain rfl|⟨xs,x,rfl⟩:=List.eq_nil_or_concat wk
     ·obtain⟨VA,vc,rfl⟩:=IK f;simp only[J?]at f;have hlo:=T.lo;have hbl:=ho3.lt;have hmax:Maps.size D3≤n3:=ho3.size_le;have hseq:=Pc wr S n3 D3 ho3;have cS:=Ri 7 Ω wr.heap.size (wr.alloc (.cells #[.map (ä S)] 63)) (λss=>ss.Perm (intKeys D3)) (Maps.size D3) (by unfold maxLen;omega) Ω hseq
      gi_wp2
      refine⟨apa,(aa5 7 (ä S) wr).mono ?_⟩;rintro e w' ⟨rfl,rfl⟩
      gi_wp2
      refine⟨apa,cS.mono ?_⟩;rintro e w' ⟨v,ss,rfl,hSS,hrowS,hb⟩
      gi_wp2
      have hDe:=hDA.out;have hK0:=T.K;have hDlt:D<wr.heap.size:=(δ.1 hK0).1;have hb0:Below w.heap.size wr (wr.alloc (.cells #[.map (ä S)] 63)):=(Below.refl _ wr).alloc T.below.size _;have hK1:w'.heap[D]? = ä (.deferred (ä [])):=(hb.block D Ξ).trans ((Below.heap_alloc wr _ D hDlt).trans hK0);have hbw:Below w.heap.size w w':=(T.below.trans hb0).trans (hb.mono Ξ);rw[hDe]at hK1;obtain⟨hnd,hmem⟩:=Pb ho3 hh3;have hasc:=QF hSS hnd (λx=>(hmem x).trans (hwi.done x));refine⟨Ψ,.inl ⟨_,_,rfl,run_takeDeferred hK1, ?_⟩⟩;refine⟨_,results_tmp rfl _ _ _,v,_,rfl,hasc,hbw.grown (grownBy_putObj_a _ _ _) hbw.size (λk e=>by injection e with e;omega), ?_⟩;rw[abs];exact(ownsRow_base_a hrowS Ξ).kept (grownBy_putObj_a _ _ _) (ownsRow_ne_a hrowS hK1 (λcur e=>by cases e))
     ·rw[List.concat_eq_append]at hk hwi hwf f;rw[J',alY]at hk f;have hlen:xs.length≤1000000:=Ω
      obtain⟨g,vc,rfl,hgb,hvc⟩:∃g c,u9 = .slice (ä ⟨g,0,ö⟩) (xs.length+1) c∧S+1≤g∧xs.length+1≤c:=by
       rcases f.2 with⟨_,h0⟩|⟨g,cap,cur,e,hb,_,h1,_⟩
       ·omega
       ·exact⟨g,cap,e,hb,h1⟩
      have hcl:wr.cell? ⟨g,xs.length,ö⟩=ä (.int .i64 x):=by rw[f.cellAt xs.length Ω];simp[intsI]
      have hxw:(Lit.int .i64 x).wf=true:=hwf x Ψ;have hrow1:=aee (l:=xs++[x]) (by simpa using f);rw[List.dropLast_concat,J',alY,Nat.add_sub_cancel]at hrow1;have hc2:=(cell_of_box_a T.c2).1;obtain⟨n2,D2,hn2,ho2,hd2,hrb⟩:=T.ins;have hlo:=T.lo;have ht:=R.t;have hin:=abl cs.flatten kp x;have hk1:xs.length+1+Cn cs.flatten kp=tN (λk=>KtR w D S cs.flatten ws k (Value.slice (ä { block:=g,off:=0 }) (xs.length+1) vc) wr):=by rw[←hk,←hk0e]
      have hkA:Aside (xs.length+1+Cn cs.flatten kp=tN (λk=>KtR w D S cs.flatten ws k (Value.slice (ä { block:=g,off:=0 }) (xs.length+1) vc) wr)):=hk1;clear hk1 hk0e
      gi_wp2_with (first
       |(gi_at_mapUpdate;refine cD _ rfl _ _ _ rfl S n3 D3 rfl ho3 hd3 (by unfold maxLen;omega) x rfl rfl hxw ?_;intro w3 ho4 hd4 U
         have hq3:=T.kept U (λr e=>by injection e with e;omega);have hc3:=(cell_of_box_a hq3.c2).1;have hrow3:=hrow1.kept U (.inr (λe=>by have e:ä g=ä S:=e;injection e with e;omega));obtain⟨ho5,hrb5⟩:=Cv ho2 hrb U (λe=>by injection e with e;omega) (λr e=>by injection e with e;omega);have hs3:=U.size)
       |(gi_at_lookup;refine wpListIn_lookup_groups _ rfl _ _ 64 rfl 3 23 3 .i64 Lz Q7 (YY _) (w.heap.size+1+1) (w.heap.size+1) n2 D2 rfl ho5 (by unfold maxLen;omega) _ _ rfl (keyOf_int_mk Kn hxw) ?_;intro u zs hat hoi hzl hback
         have hzs:=hd2.zs hat hoi)
       |(gi_at_builtin;refine i7 rfl _ _ rfl (S+1) (w.heap.size+1+1) (.slice (ä ⟨g,0,ö⟩) xs.length vc) u xs zs rfl rfl hrow3 hoi (by rw[hzs];omega) Ω ?_;intro v' w4 hown4 hg4
         have hq4:=hq3.kept hg4 (λr e=>by have e:ä g=ä r:=e;injection e with e;omega);have hc4:=(cell_of_box_a hq4.c2).1;have ho6:=ho4.kept hg4 (λe=>by have e:ä S=ä g:=e;injection e with e;omega);have hs4:=hg4.size)
       |(gi_at_delete;refine wu rfl _ _ rfl hq4 x hxw rfl rfl ?_;intro w5 hq5 hg5)
       |gi_in)
      subst hzs;have hlp:=XA cs.flatten kp x;have hrow5:=hown4.kept hg5 (by
       cases e:v'.ownBlock with
       |none=>exact .inl rfl
       |some gg=>exact .inr λe'=>by injection e' with e';have:=(hown4.lt gg e).1;omega)
      have ho7:=ho6.kept hg5 (λe=>by injection e with e;omega);have hnext:KtR w D S cs.flatten ws ((xs++wB cs.flatten kp x).length+Cn cs.flatten λy=>y == x||kp y) v' w5:=by
       refine⟨_,_,n3+1,_,rfl,hwi.pop1,λy hy=>?_,hq5.eq λq=>abj _ _ _ q, ?_,ho7,hd4,hh3.put hd3.1 x (Lz.key (keyOf_int_mk Kn hxw)) _, ?_,hrow5⟩
       ·obtain h|h:=q'.1 hy
        ·exact hwf y (by simp[h])
        ·obtain⟨z,hz,rfl⟩:=abk h;exact(R.wf z hz).1
       ·have:=hg5.size;omega
       ·rw[J'];omega
      simp only[Act.put]
      go_roundw
      case rel=>exact⟨_,hnext⟩
      case measure =>refine D? (XC hnext) ?_;have hk1:=hkA.out;rw[J'];omega
attribute [local go_sem] Oper.semAt_some
def jQ (pre:List WK)(x:Int):Bool:=pre.any λy=>y.id == x&&(y.fd == 1&&y.nn == 5)
def jR (K:Int→Bool)(pre:List WK)(x:Int):Bool:=pre.any λy=>y.rf == x&&(y.fd == 4&&(K y.id && !(y.rf == 0)))
def xI (pre:List WK)(y:WK)(x:Int):jQ (pre++[y]) x=(jQ pre x||(y.id == x&&(y.fd == 1&&y.nn == 5))):=by simp[jQ]
def xN (K:Int→Bool)(pre:List WK)(y:WK)(x:Int):jR K (pre++[y]) x=(jR K pre x||(y.rf == x&&(y.fd == 4&&(K y.id && !(y.rf == 0))))):=by simp[jR]
structure KEnv (W:æ)(m5 b5 m8 m9 b8 b9:Nat)(n:Nat)(K N M:Int→Bool):Prop where
 c5:W.heap[b5]? = ä (.cells #[.map (ä m5)] 63 (0,0))
 c8:W.heap[b8]? = ä (.cells #[.map (ä m8)] 63 (0,0))
 c9:W.heap[b9]? = ä (.cells #[.map (ä m9)] 63 (0,0))
 s5:∃k D,bN W m5 k D∧iy D K
 s8:∃k D,k≤n∧bN W m8 k D∧iy D N
 s9:∃k D,k≤n∧bN W m9 k D∧iy D M
def KEnv.kept {W C:æ}{p R l j P J n:Nat}{K N M:Int→Bool}{row:Option Nat}(h:KEnv W p R l j P J n K N M)(g:W.grownBy C row)(f:∀r,row=ä r→r≠p∧r≠R∧r≠l∧r≠j∧r≠P∧r≠J):KEnv C p R l j P J n K N M:=by
 have lt:∀{k:Nat} {o:Obj},W.heap[k]? = ä o→k<W.heap.size:=λh=>(δ.1 h).1;obtain⟨k5,D5,o5,d5⟩:=h.s5;obtain⟨k8,D8,n8,U,d8⟩:=h.s8;obtain⟨k9,D9,n9,T,d9⟩:=h.s9;exact⟨(g.block _ (lt h.c5) λe=>(f _ e.symm).2.1 rfl).trans h.c5,(g.block _ (lt h.c8) λe=>(f _ e.symm).2.2.2.2.1 rfl).trans h.c8,(g.block _ (lt h.c9) λe=>(f _ e.symm).2.2.2.2.2 rfl).trans h.c9,
  ⟨k5,D5,o5.kept g λe=>(f _ e.symm).1 rfl,d5⟩,⟨k8,D8,n8,U.kept g λe=>(f _ e.symm).2.2.1 rfl,d8⟩,⟨k9,D9,n9,T.kept g λe=>(f _ e.symm).2.2.2.1 rfl,d9⟩⟩
def KEnv.quiet {j J g f p l:Nat}{N M:Int→Bool}(h:KEnv W j J g f p l n K N M)(P:W.grownBy C ö):KEnv C j J g f p l n K N M:=h.kept P λr e=>by cases e
def KEnv.eq {r P p l J C j :Nat}{N M f g :Int→Bool}(h:KEnv W r P p l J C n K N M)(hn:n≤j)(eN:∀x,N x=f x)(eM:∀x,M x=g x):KEnv W r P p l J C j K f g:=by obtain rfl:N=f:=funext eN;obtain rfl:M=g:=funext eM;obtain⟨k8,D8,n8,T,d8⟩:=h.s8;obtain⟨U,D9,n9,R,d9⟩:=h.s9;exact⟨h.c5,h.c8,h.c9,h.s5,⟨k8,D8,Ω,T,d8⟩,⟨U,D9,Ω,R,d9⟩⟩
def tT (K N M:Int→Bool)(x:WK):Bool :=
 if x.fd=1∨x.fd=2 then K x.id||(!N x.id||M x.id)else if x.fd=3 then K x.id || !N x.id else if x.fd=4 then K x.id||M x.id else K x.id
set_option maxRecDepth 100000 in
set_option maxHeartbeats 1600000 in
def SO (W:æ)(m5 b5 m8 m9 b8 b9 n:Nat)(K N M:Int→Bool)(h:KEnv W m5 b5 m8 m9 b8 b9 n K N M)(x:WK)(T:(Lit.int .i64 x.id).wf=ü) :
  Calls prog 65 #[iz x,.pointer (ä ⟨b5,0,ö⟩),.pointer (ä ⟨b8,0,ö⟩),.pointer (ä ⟨b9,0,ö⟩)] W λe w'=>e = .returned (.bool (tT K N M x))∧w'=W.alloc (.cells #[.int .i64 x.id,.int .i64 x.fd,.int .i64 x.nn,.bool x.fl,.string x.tx,.int .i64 x.rf] 44):=by
 have j:=h.quiet (κ W (.cells #[.int .i64 x.id,.int .i64 x.fd,.int .i64 x.nn,.bool x.fl,.string x.tx,.int .i64 x.rf] 44) ö);have C:=World.alloc_heap_new W (.cells #[.int .i64 x.id,.int .i64 x.fd,.int .i64 x.nn,.bool x.fl,.string x.tx,.int .i64 x.rf] 44);obtain⟨l,p⟩:∃l,W.alloc (.cells #[.int .i64 x.id,.int .i64 x.fd,.int .i64 x.nn,.bool x.fl,.string x.tx,.int .i64 x.rf] 44)=l:=⟨_,rfl⟩;rw[p]at j C;have g:Aside (W.alloc (.cells #[.int .i64 x.id,.int .i64 x.fd,.int .i64 x.nn,.bool x.fl,.string x.tx,.int .i64 x.rf] 44)=l):=p;clear p;have c5:=(cell_of_box_a j.c5).1;have c8:=(cell_of_box_a j.c8).1;have c9:=(cell_of_box_a j.c9).1;have d0:l.cell? ⟨W.heap.size,0,ö⟩=ä (.int .i64 x.id):=by simp[World.cell?,C]
 have d1:l.cell? ⟨W.heap.size,1,ö⟩=ä (.int .i64 x.fd):=by simp[World.cell?,C]
 obtain⟨k5,D5,o5,s5⟩:=j.s5;obtain⟨k8,D8,_,o8,s8⟩:=j.s8;obtain⟨k9,D9,_,U,s9⟩:=j.s9;have l5:=eL l o5 s5 x.id T;have l8:=eL l o8 s8 x.id T;have l9:=eL l U s9 x.id T;unfold iz
 go_enter func65,ntmps65
 clear j C h o5 s5 o8 s8 U s9
 go_upto_region 1 with fail
 rw[g.out];generalize hK:K x.id=kb at l5;generalize hN:N x.id=nb at l8;generalize hM:M x.id=mb at l9;have f:tT K N M x=if x.fd=1∨x.fd=2 then kb||(!nb||mb)else if x.fd=3 then kb || !nb else if x.fd=4 then kb||mb else kb:=by unfold tT;rw[hK,hN,hM]
 have f:Aside (tT K N M x=if x.fd=1∨x.fd=2 then kb||(!nb||mb)else if x.fd=3 then kb || !nb else if x.fd=4 then kb||mb else kb):=f;clear hK hN hM;by_cases R:x.fd=1
 ·have b1:(x.fd == 1)=true:=M_.2 R;have f:Aside (tT K N M x=(kb||(!nb||mb))):=by have:=f.out;rw[Θ (.inl R)]at this;exact this
  clear R;cases kb <;> cases nb <;> cases mb <;> (go_wp2;go_ret;exact⟨by rw[f.out];rfl,g.out.symm⟩)
 have b1:(x.fd == 1)=false:=S'.2 R;by_cases P:x.fd=2
 ·have b2:(x.fd == 2)=true:=M_.2 P;have f:Aside (tT K N M x=(kb||(!nb||mb))):=by have:=f.out;rw[Θ (.inr P)]at this;exact this
  clear P;cases kb <;> cases nb <;> cases mb <;> (go_wp2;go_ret;exact⟨by rw[f.out];rfl,g.out.symm⟩)
 have b2:(x.fd == 2)=false:=S'.2 P;by_cases J:x.fd=3
 ·have b3:(x.fd == 3)=true:=M_.2 J;have f:Aside (tT K N M x=(kb || !nb)):=by have:=f.out;rw[ω Ω,Θ J]at this;exact this
  clear J;cases kb <;> cases nb <;> (go_wp2;go_ret;exact⟨by rw[f.out];rfl,g.out.symm⟩)
 have b3:(x.fd == 3)=false:=S'.2 J;by_cases r:x.fd=4
 ·have b4:(x.fd == 4)=true:=M_.2 r;have f:Aside (tT K N M x=(kb||mb)):=by have:=f.out;rw[ω Ω,ω Ω,Θ r]at this;exact this
  clear r;cases kb <;> cases mb <;> (go_wp2;go_ret;exact⟨by rw[f.out];rfl,g.out.symm⟩)
 have b4:(x.fd == 4)=false:=S'.2 r;have f:Aside (tT K N M x=kb):=by have:=f.out;rw[ω Ω,ω Ω,ω r]at this;exact this
 go_wp2
 go_ret
 exact⟨by rw[f.out];rfl,g.out.symm⟩
attribute [local go_sem] Oper.semAt_some
def keT (u:Nat→ø)(f g j:ø)(B S:Nat):Array Value :=#[f,g,é,é,.nilFunc,.pointer (ä ⟨B+1,0,ö⟩),é,u 7,.pointer (ä ⟨S+1+1,0,ö⟩),.pointer (ä ⟨S+1+1+1,0,ö⟩),é,.map (ä B),f,g,u 14,u 15,u 16,u 17,u 18,u 19,u 20,u 21,u 22,.map (ä S),.map (ä (S+1)),f,j,é,é,é,é,é,é,é,é,é,é,é,é,é,é,é,é,é,é,é,é,é,é,é,é,é,é,é,é,é,é,é,é,é]
def ahX (u:Nat→ø)(f g l j:ø)(B S:Nat):Array Value :=#[f,g,é,é,.nilFunc,.pointer (ä ⟨B+1,0,ö⟩),é,u 7,.pointer (ä ⟨S+1+1,0,ö⟩),.pointer (ä ⟨S+1+1+1,0,ö⟩),é,.map (ä B),f,g,u 14,u 15,u 16,u 17,u 18,u 19,u 20,u 21,u 22,.map (ä S),.map (ä (S+1)),f,l,j,é,é,é,é,é,é,é,é,é,é,é,é,é,é,é,é,é,é,é,é,é,é,é,é,é,é,é,é,é,é,é,é]
def kaA:Option Code→Code
 |some (.seq _ (.seq _ (.seq _ (.seq _ (.seq (.seq _ (.block _ (.rangeFunc _ _ a _))) _)))))=>a
 |_=>.skip
def kaB:Option Code→Code
 |some (.seq _ (.seq _ (.seq _ (.seq _ (.seq (.seq _ (.block _ (.rangeFunc _ _ _ b))) _)))))=>b
 |_=>.skip
def jW (u:Nat→ø)(fn:å)(j g l:ø)(B S D:Nat)(p:LoopState)(f:Option Code):Loop :=
 { state:=p,pending:=f,fn,tmps:=keT u j g l B S,params :=#[27],assign:=kaA f34.body,body:=kaB f34.body,defers:=D }
structure KeS (w:æ)(S D:Nat)(K:Int→Bool)(pre:List WK)(W:æ):Prop where
 below:Below w.heap.size w W
 sz:S+4≤W.heap.size
 lo:w.heap.size+2≤S
 dk:W.heap[D]? = ä (.deferred (ä []))
 env:KEnv W w.heap.size (w.heap.size+1) S (S+1) (S+1+1) (S+1+1+1) pre.length K (jQ pre) (jR K pre)
def KeS.kept {w W C:æ}{S D:Nat}{K:Int→Bool}{pre:List WK}{row:Option Nat}(h:KeS w S D K pre W)(f:W.grownBy C row)(g:∀r,row=ä r→S+4≤r∧r≠D):KeS w S D K pre C:=by
 have j:=h.lo;exact⟨h.below.grown f h.below.size λk e=>by have:=(g k e).1;omega,ξ h.sz f.size,h.lo,(f.block D (δ.1 h.dk).1 λe=>(g D e.symm).2 rfl).trans h.dk,
  h.env.kept f λr e=>by have:=(g r e).1;omega⟩
def KeS.quiet (h:KeS w S D K pre W)(f:W.grownBy C ö):KeS w S D K pre C:=h.kept f λr e=>by cases e
structure KeAt (u:Nat→ø)(w:æ)(fn:å)(va vb sv:ø)(l S D:Nat)(K:Int→Bool)(pre:List WK)(W:æ):Prop where
 st:KeS w S D K pre W
 lp:W.heap[l]? = ä (.loop (jW u fn va vb sv w.heap.size S D .ready ö))
def KeAt.quiet {u:Nat→ø}{w W C:æ}{fn:å}{g f j:ø}{l S D:Nat}{K:Int→Bool}{pre:List WK}(h:KeAt u w fn g f j l S D K pre W)(p:W.grownBy C ö):KeAt u w fn g f j l S D K pre C :=
 ⟨h.st.quiet p,(p.block l (δ.1 h.lp).1 Ψ).trans h.lp⟩
def LD {l:Nat}{r':Loop}(h:KeS w S D K pre W)(g:S+4≤l)(f:D≠l):KeS w S D K pre (W.putObj l (.loop r')) :=
 h.kept (grownBy_putObj_a _ _ _) λr e=>by cases e;exact⟨g,λe=>f e.symm⟩
def ahW {u:Nat→ø}{fn:å}{g f j:ø}{l:Nat}(h:KeS w S D K pre W)(C:W.heap[l]? = ä (.loop { jW u fn g f j w.heap.size S D .ready ö with state :=.busy }))(r:S+4≤l)(p:D≠l) :
  KeAt u w fn g f j l S D K pre (W.putObj l (.loop { { jW u fn g f j w.heap.size S D .ready ö with state :=.busy }with state:=if (ö:Option Code).isNone then .ready else .done,pending:=ö })) :=
 ⟨LD h r p,World.putObj_heap_same (δ.1 C).1⟩
def KeS.idle (h:KeS w S D K pre W)(g:(y.fd == 1&&y.nn == 5)=ß)(f:(y.fd == 4&&(K y.id && !(y.rf == 0)))=ß):KeS w S D K (pre++[y]) W :=
 ⟨h.below,h.sz,h.lo,h.dk,h.env.eq Ψ (λx=>by rw[xI,g];simp) (λx=>by rw[xN,f];simp)⟩
def T1 (x y:Int):(y == x)=(x == y):=by
 cases e:(x == y)with
 |true=>rw[M_.1 e];simp
 |false=>exact S'.2 λf=>(S'.1 e) f.symm
def KeS.node (h:KeS w S D K pre W)(g:(y.fd == 1&&y.nn == 5)=ü)(hn:n≤pre.length)(f:W.grownBy C (ä S))(R:bN C S (n+1) J)(P:iy J (λx=>x == y.id||jQ pre x))(hD:S+4≤D):KeS w S D K (pre++[y]) C:=by
 have T:=h.lo;have hf:(y.fd == 4)=false:=by rw[θ]at g;rw[M_.1 g.1];rfl
 have lt:∀{k:Nat} {o:Obj},W.heap[k]? = ä o→k<W.heap.size:=λh=>(δ.1 h).1;have ne:∀k,k≠S→ä k≠ä S:=λk U e=>U (by injection e);obtain⟨r,D5,l,d5⟩:=h.env.s5;obtain⟨p,D9,n9,j,d9⟩:=h.env.s9;refine⟨h.below.grown f h.below.size λk e=>by injection e with e;omega,ξ h.sz f.size,h.lo,(f.block D (lt h.dk) (ne D Ω)).trans h.dk,
  ⟨(f.block _ (lt h.env.c5) (ne _ Ω)).trans h.env.c5,(f.block _ (lt h.env.c8) (ne _ Ω)).trans h.env.c8,(f.block _ (lt h.env.c9) (ne _ Ω)).trans h.env.c9,⟨r,D5,l.kept f (ne _ Ω),d5⟩,
   ⟨n+1,J,by simp;omega,R,P.eq λx=>?_⟩,⟨p,D9,by simp;omega,j.kept f (ne _ Ω),d9.eq λx=>?_⟩⟩⟩
 ·rw[xI,g,T1 x y.id];simp[alW]
 ·rw[xN,hf];simp
def KeS.ref (h:KeS w S D K pre W)(g:(y.fd == 4&&(K y.id && !(y.rf == 0)))=ü)(hn:n≤pre.length)(f:W.grownBy C (ä (S+1)))(R:bN C (S+1) (n+1) J)(P:iy J (λx=>x == y.rf||jR K pre x))(hD:S+4≤D):KeS w S D K (pre++[y]) C:=by
 have T:=h.lo;have hf:(y.fd == 1)=false:=by rw[θ]at g;rw[M_.1 g.1];rfl
 have lt:∀{k:Nat} {o:Obj},W.heap[k]? = ä o→k<W.heap.size:=λh=>(δ.1 h).1;have ne:∀k,k≠S+1→ä k≠ä (S+1):=λk U e=>U (by injection e);obtain⟨r,D5,l,d5⟩:=h.env.s5;obtain⟨p,D8,n8,j,d8⟩:=h.env.s8;refine⟨h.below.grown f h.below.size λk e=>by injection e with e;omega,ξ h.sz f.size,h.lo,(f.block D (lt h.dk) (ne D Ω)).trans h.dk,
  ⟨(f.block _ (lt h.env.c5) (ne _ Ω)).trans h.env.c5,(f.block _ (lt h.env.c8) (ne _ Ω)).trans h.env.c8,(f.block _ (lt h.env.c9) (ne _ Ω)).trans h.env.c9,⟨r,D5,l.kept f (ne _ Ω),d5⟩,
   ⟨p,D8,by simp;omega,j.kept f (ne _ Ω),d8.eq λx=>?_⟩,⟨n+1,J,by simp;omega,R,P.eq λx=>?_⟩⟩⟩
 ·rw[xI,hf];simp
 ·rw[xN,g,T1 x y.rf];simp[alW]
set_option maxRecDepth 100000 in
set_option maxHeartbeats 1600000 in
def aeZ (u:Nat→ø)(m:Nat)(w:æ)(fn:å)(va U sv:ø)(l S D:Nat)(K:Int→Bool)(hl:S+4≤l)(hD:S+4≤D)(hDl:D≠l)(pre:List WK)(x:WK)(W:æ)(h:KeAt u w fn va U sv l S D K pre W)(hlen:pre.length<1048576)(hi:(Lit.int .i64 x.id).wf=ü)(hr:(Lit.int .i64 x.rf).wf=ü) :
  YieldAt Fence.wide m prog l #[iz x] W λe C=>e = .returned (.bool ü)∧KeAt u w fn va U sv l S D K (pre++[x]) C∧Below w.heap.size W C:=by
 refine⟨fn,ahX u va U sv (iz x) w.heap.size S,kaA f34.body,kaB f34.body,by simpa[jW,keT,ahX]using run_yield (P:=prog) (args :=#[iz x]) h.lp rfl,roundIn_of_wpIn trivial ?_⟩;have hS:=h.st;have hlL:l<W.heap.size:=(δ.1 h.lp).1;have hloS:=hS.lo;unfold ahX f34 kaA kaB;dsimp only;unfold iz
 gi_wp2_with gi_round_op_a
 have hb1:Below w.heap.size W (W.alloc (.cells #[.int .i64 x.id,.int .i64 x.fd,.int .i64 x.nn,.bool x.fl,.string x.tx,.int .i64 x.rf] 44)):=(Below.refl _ W).alloc hS.below.size _;have hS1:=hS.quiet (κ W (.cells #[.int .i64 x.id,.int .i64 x.fd,.int .i64 x.nn,.bool x.fl,.string x.tx,.int .i64 x.rf] 44) ö);have hL1:=(Below.heap_alloc W (.cells #[.int .i64 x.id,.int .i64 x.fd,.int .i64 x.nn,.bool x.fl,.string x.tx,.int .i64 x.rf] 44) l hlL).trans h.lp;have hx1:=World.alloc_heap_new W (.cells #[.int .i64 x.id,.int .i64 x.fd,.int .i64 x.nn,.bool x.fl,.string x.tx,.int .i64 x.rf] 44);have hs1:(W.alloc (.cells #[.int .i64 x.id,.int .i64 x.fd,.int .i64 x.nn,.bool x.fl,.string x.tx,.int .i64 x.rf] 44)).heap.size=W.heap.size+1:=by simp
 generalize W.alloc (.cells #[.int .i64 x.id,.int .i64 x.fd,.int .i64 x.nn,.bool x.fl,.string x.tx,.int .i64 x.rf] 44)=WA at hb1 hS1 hL1 hx1 hs1⊢;have hbr:=run_beginRound (P:=prog) hL1 rfl;refine⟨_,hbr, ?_⟩;have f:=LD (r':={ jW u fn va U sv w.heap.size S D .ready ö with state :=.busy }) hS1 hl hDl;have j:(WA.putObj l (.loop { jW u fn va U sv w.heap.size S D .ready ö with state :=.busy })).heap[l]? = _:=World.putObj_heap_same Ω;have g:(WA.putObj l (.loop { jW u fn va U sv w.heap.size S D .ready ö with state :=.busy })).heap[W.heap.size]? = _:=(World.putObj_heap_other Ω).trans hx1;have J:Below w.heap.size W (WA.putObj l (.loop { jW u fn va U sv w.heap.size S D .ready ö with state :=.busy })):=hb1.grown (grownBy_putObj_a _ _ _) hS1.below.size (λk e=>by cases e;omega);generalize hr0:({ jW u fn va U sv w.heap.size S D .ready ö with state :=.busy }:Loop)=rr at *;generalize WA.putObj l (.loop rr)=W2 at f j g J⊢;clear hbr hS1 hL1 hx1 hb1 hS h;have R:∀W4,KeS w S D K (pre++[x]) W4→W4.heap[l]? = ä (.loop rr)→Below w.heap.size W W4→∀a,roundPost prog l (λe C=>e=Ending.returned (.bool ü)∧KeAt u w fn va U sv l S D K (pre++[x]) C∧Below w.heap.size W C) .normal a W4:=λW4 h4 hL4 hb4 a=>by subst hr0;exact⟨_,_,run_endRound ö hL4,rfl,ahW h4 hL4 hl hDl,hb4.grown (grownBy_putObj_a _ _ _) h4.below.size (λk e=>by cases e;omega)⟩
 have hc5:=(cell_of_box_a f.env.c5).1;have hc8:=(cell_of_box_a f.env.c8).1;have hc9:=(cell_of_box_a f.env.c9).1;have d0:W2.cell? ⟨W.heap.size,0,ö⟩=ä (.int .i64 x.id):=by simp[World.cell?,g]
 have d1:W2.cell? ⟨W.heap.size,1,ö⟩=ä (.int .i64 x.fd):=by simp[World.cell?,g]
 have d2:W2.cell? ⟨W.heap.size,2,ö⟩=ä (.int .i64 x.nn):=by simp[World.cell?,g]
 have d5:W2.cell? ⟨W.heap.size,5,ö⟩=ä (.int .i64 x.rf):=by simp[World.cell?,g]
 obtain⟨n5,D5,o5,s5⟩:=f.env.s5;obtain⟨n8,D8,k8,o8,s8⟩:=f.env.s8;obtain⟨n9,D9,k9,o9,s9⟩:=f.env.s9;have hlk:=eL W2 o5 s5 x.id hi;have done:∀W3 r,W2.grownBy W3 (ä r)→r≠l→w.heap.size≤r→W3.heap[l]? = ä (.loop rr)∧Below w.heap.size W W3:=λW3 r hg hrl hrB=>
  ⟨(hg.block l (δ.1 j).1 (λe=>hrl (by injection e with e;exact e.symm))).trans j,J.grown hg f.below.size (λk e=>by injection e with e;omega)⟩
 by_cases e1:x.fd=1
 ·have b1:(x.fd == 1)=true:=M_.2 e1;have b4:(x.fd == 4)=false:=S'.2 Ω;by_cases e2:x.nn=5
  ·have b2:(x.nn == 5)=true:=M_.2 e2
   gi_wp2_with (first
    |(gi_at_mapUpdate;refine cD _ rfl _ _ _ rfl S n8 D8 rfl o8 s8 (by unfold maxLen;omega) x.id rfl rfl hi ?_;intro w3 ho3 hd3 p
      have hS3:=f.node (by rw[b1,b2];rfl) k8 p ho3 hd3 hD;have hx3:=(p.block _ (δ.1 g).1 (λe=>by injection e with e;omega)).trans g;have f1:w3.cell? ⟨W.heap.size,1,ö⟩=ä (.int .i64 x.fd):=by simp[World.cell?,hx3])
    |gi_round_op_a)
   obtain⟨q1,q2⟩:=done w3 S p Ω Ω;exact R w3 hS3 q1 q2 _
  ·have b2:(x.nn == 5)=false:=S'.2 e2
   gi_wp2_with gi_round_op_a
   exact R W2 (f.idle (by rw[b1,b2];rfl) (by rw[b4];rfl)) j J _
 ·have b1:(x.fd == 1)=false:=S'.2 e1;by_cases e2:x.fd=4
  ·have b4:(x.fd == 4)=true:=M_.2 e2;cases T:K x.id with
   |false=>
    rw[T]at hlk
    gi_wp2_with gi_round_op_a
    exact R W2 (f.idle (by rw[b1];rfl) (by rw[b4,T];rfl)) j J _
   |true=>
    rw[T]at hlk;by_cases e3:x.rf=0
    ·have b3:(x.rf == 0)=true:=M_.2 e3
     gi_wp2_with gi_round_op_a
     exact R W2 (f.idle (by rw[b1];rfl) (by rw[b4,T,b3];rfl)) j J _
    ·have b3:(x.rf == 0)=false:=S'.2 e3
     gi_wp2_with (first
      |(gi_at_mapUpdate;refine cD _ rfl _ _ _ rfl (S+1) n9 D9 rfl o9 s9 (by unfold maxLen;omega) x.rf rfl rfl hr ?_;intro w3 ho3 hd3 p)
      |gi_round_op_a)
     obtain⟨q1,q2⟩:=done w3 (S+1) p Ω Ω;exact R w3 (f.ref (by rw[b4,T,b3];rfl) k9 p ho3 hd3 hD) q1 q2 _
  ·have b4:(x.fd == 4)=false:=S'.2 e2
   gi_wp2_with gi_round_op_a
   exact R W2 (f.idle (by rw[b1];rfl) (by rw[b4];rfl)) j J _
attribute [local go_sem] Oper.semAt_some
def CO.mono {f b o:Nat}{c:List WK}(h:CO w B b o c)(hb:B≤f):CO w f b o c:=by
 obtain⟨s0,A1,P,m1,A2,J,m2,s3,A,r,l,q1,q2,j,g,T⟩:=h;exact⟨s0,A1,P,m1,A2,J,m2,s3,A,r,l,q1,q2,j,g,λh=>(by
  obtain⟨C,p,e,U,R⟩:=T h;exact⟨C,p,e,Ω,R⟩)⟩
def dO.mono {w:æ}{B g:Nat}{A:Option Addr}{cs:List (List WK)}(h:dO w B A cs)(p:B≤g):dO w g A cs:=λr=>by obtain⟨b,f,e,C,l⟩:=h r;exact⟨b,f,e,Ω,λk j=>(l k j).mono p⟩
def mR.keep {w' :æ}(h:mR w B A l)(C:Below B w w'):mR w' B A l:=λJ=>by obtain⟨b,o,e,f,r⟩:=h J;exact⟨b,o,e,f,λj g=>(C.cell (p:=⟨b,o+j,ö⟩) f).trans (r j g)⟩
def mR.mono {f :Nat}(h:mR w B A l)(r:B≤f):mR w f A l:=λj=>by obtain⟨b,o,e,p,g⟩:=h j;exact⟨b,o,e,Ω,g⟩
def kept_calls (cs:List (List WK))(ws:List Int)(l:GoodW cs ws)(w:æ)(A r:Option Addr)(cap f:Nat)(p:dO w w.heap.size A cs)(j:mR w w.heap.size r ws):Calls prog 10 #[.slice A cs.length cap,.slice r ws.length f] w λe C=>∃v g,e = .returned v∧ot g (RchK cs.flatten ws)∧Below w.heap.size w C∧C.ownsRow w.heap.size 3 1 v g.length (intsI g) :=
 (callsIn_wide (n:=8)).1 (aeX cs ws l w A r cap f p j)
def ahm (f:GoodW cs ws){x:Int}(h:RchK cs.flatten ws x):(Lit.int .i64 x).wf=true:=by
 cases h with
 |root l _=>exact f.ww x l
 |step _ j =>obtain⟨y,g,rfl⟩:=a_.1 j;exact(f.wf y (C_.1 g).1).1
def agc {g:List Int}(f:GoodW cs ws)(h:ot g (RchK cs.flatten ws)):g.length≤1048576:=by
 have l:g.Nodup:=h.1.imp λ{a b} h e=>Ω
 have j:=OO (b:=ws++cs.flatten.map (·.id)) l λx r=>by
  cases(h.2 x).1 r with
  |root l _=>exact q'.2 (.inl l)
  |step _ j =>obtain⟨y,p,rfl⟩:=a_.1 j;exact q'.2 (.inr (o? (C_.1 p).1))
 have:=f.wn;have:=f.t;rw[J',G']at j;omega
def abb (u:Nat→ø)(w wr:æ)(fn:å)(j r C:ø)(K:Int→Bool)(P:Below w.heap.size w wr)(J:w.heap.size+2≤wr.heap.size)(hc:wr.heap[w.heap.size+1]? = ä (.cells #[.map (ä w.heap.size)] 63 (0,0)))(hK:∃n D,bN wr w.heap.size n D∧iy D K)
  (W0:æ) (f:W0=((((wr.alloc (.map #[] 0)).alloc (.map #[] 0)).alloc (.cells #[.map (ä wr.heap.size)] 63)).alloc (.cells #[.map (ä (wr.heap.size+1))] 63)).alloc (.cells #[j] 24)) :
  W0.heap.size=wr.heap.size+5∧Below w.heap.size w W0∧W0.heap[wr.heap.size+1+1+1+1]? = ä (.cells #[j] 24 (0,0))∧KeAt u w fn j r C (W0.heap.size+1) wr.heap.size W0.heap.size K [] ((W0.alloc (.deferred (ä []))).alloc (.loop (jW u fn j r C w.heap.size wr.heap.size W0.heap.size .ready ö))):=by
 have hs0:W0.heap.size=wr.heap.size+5:=by rw[f];simp
 have l:Below wr.heap.size wr W0:=by rw[f];exact(((((Below.refl _ wr).alloc (ε _) _).alloc Ψ _).alloc (by simp <;> omega) _).alloc (by simp <;> omega) _).alloc (by simp <;> omega) _
 have g:=P.trans (l.mono Ω);have h8:bN W0 wr.heap.size 0 (.map []):=by rw[f];exact((((World.ownsMap_made wr prog 3 _).alloc _).alloc _).alloc _).alloc _
 have h9:bN W0 (wr.heap.size+1) 0 (.map []):=by have:=World.ownsMap_made (H:=Unit) (wr.alloc (.map #[] 0)) prog 3 (plainElem prog 4);rw[X']at this;rw[f];exact((this.alloc _).alloc _).alloc _
 have c8:W0.heap[wr.heap.size+1+1]? = ä (.cells #[.map (ä wr.heap.size)] 63 (0,0)):=by have:=World.alloc_heap_new ((wr.alloc (.map #[] 0)).alloc (.map #[] 0)) (.cells #[.map (ä wr.heap.size)] 63);rw[X',X']at this;rw[f];exact(Below.heap_alloc _ _ _ Ψ).trans ((Below.heap_alloc _ _ _ Ψ).trans this)
 have c9:W0.heap[wr.heap.size+1+1+1]? = ä (.cells #[.map (ä (wr.heap.size+1))] 63 (0,0)):=by have:=World.alloc_heap_new (((wr.alloc (.map #[] 0)).alloc (.map #[] 0)).alloc (.cells #[.map (ä wr.heap.size)] 63)) (.cells #[.map (ä (wr.heap.size+1))] 63);rw[X',X',X']at this;rw[f];exact(Below.heap_alloc _ _ _ Ψ).trans this
 have c3:W0.heap[wr.heap.size+1+1+1+1]? = ä (.cells #[j] 24 (0,0)):=by have:=World.alloc_heap_new ((((wr.alloc (.map #[] 0)).alloc (.map #[] 0)).alloc (.cells #[.map (ä wr.heap.size)] 63)).alloc (.cells #[.map (ä (wr.heap.size+1))] 63)) (.cells #[j] 24);rw[X',X',X',X']at this;rw[f];exact this
 have c5:=(l.block (w.heap.size+1) Ω).trans hc;have h5:∃n D,bN W0 w.heap.size n D∧iy D K:=by obtain⟨n,D,⟨es,clock,hb,Ft,U,hD⟩,hd⟩:=hK;exact⟨n,D,⟨es,clock,(l.block _ Ω).trans hb,Ft,U,hD⟩,hd⟩
 refine⟨hs0,g,c3, ?_⟩;have T:=World.alloc_heap_new (W0.alloc (.deferred (ä []))) (.loop (jW u fn j r C w.heap.size wr.heap.size W0.heap.size .ready ö));rw[X']at T;have R:=(Below.heap_alloc (W0.alloc (.deferred (ä []))) (.loop (jW u fn j r C w.heap.size wr.heap.size W0.heap.size .ready ö)) W0.heap.size Ψ).trans (World.alloc_heap_new W0 (.deferred (ä [])));have p:KEnv W0 w.heap.size (w.heap.size+1) wr.heap.size (wr.heap.size+1) (wr.heap.size+1+1) (wr.heap.size+1+1+1) 0 K (jQ []) (jR K []) :=
  ⟨c5,c8,c9,h5,⟨0,_,ε _,h8,iy.nil.eq λx=>rfl⟩,⟨0,_,ε _,h9,iy.nil.eq λx=>rfl⟩⟩
 exact⟨⟨(g.alloc g.size _).alloc (by have:=g.size;simp;omega) _,by simp;omega,J,R,(p.quiet (κ _ _ _)).quiet (κ _ _ _)⟩,T⟩
def KkL (w g:æ)(f:List Int)(v i:ø)(wr:æ):Prop :=
 ∃k:Nat,k≤f.length∧i = .int .i64 k∧Below w.heap.size w wr∧w.heap.size+2≤wr.heap.size∧wr.heap[w.heap.size+1]? = ä (.cells #[.map (ä w.heap.size)] 63 (0,0))∧(∃n D,n≤k∧bN wr w.heap.size n D∧iy D (λx=>(f.take k).contains x))∧wr.ownsRow (w.heap.size+2) 3 1 v f.length (intsI f)
set_option maxRecDepth 100000 in
set_option maxHeartbeats 1600000 in
def XL (cs:List (List WK))(ws:List Int)(J:GoodW cs ws)(w:æ)(A A2:Option Addr)(cap j:Nat)(hcs:dO w w.heap.size A cs)(hws:mR w w.heap.size A2 ws):CallsIn Fence.wide 9 prog 34 #[.slice A cs.length cap,.slice A2 ws.length j] w λe w'=>∃S p,e = .returned (.func (.func 65) #[] #[.pointer (ä ⟨w.heap.size+1,0,ö⟩),.pointer (ä ⟨S+1+1,0,ö⟩),.pointer (ä ⟨S+1+1+1,0,ö⟩)])∧ot p (RchK cs.flatten ws)∧Below w.heap.size w w'∧w.heap.size+2≤S∧S+4≤w'.heap.size ∧
   KEnv w' w.heap.size (w.heap.size+1) S (S+1) (S+1+1) (S+1+1+1) cs.flatten.length (λx=>p.contains x) (jQ cs.flatten) (jR (λx=>p.contains x) cs.flatten):=by
 have hmm:=@run_makeMap prog;refine callsIn_of_wp_marks func34 rfl trivial ?_ rfl;simp only[ntmps34,l?,v_,J?,Nat.reduceAdd,Nat.reduceSub,P?,O?,K?,Q?,s_,aj3];obtain⟨Wa,hWa⟩:∃Wa,(w.alloc (.map #[] 0)).alloc (.cells #[.map (ä w.heap.size)] 63)=Wa:=⟨_,rfl⟩;have hba:Below w.heap.size w Wa:=by rw[←hWa];exact((Below.refl _ w).alloc (ε _) _).alloc Ψ _
 have hsa:Wa.heap.size=w.heap.size+2:=by rw[←hWa];simp
 have hca:Wa.heap[w.heap.size+1]? = ä (.cells #[.map (ä w.heap.size)] 63 (0,0)):=by have:=World.alloc_heap_new (w.alloc (.map #[] 0)) (.cells #[.map (ä w.heap.size)] 63);rw[X']at this;rw[←hWa];exact this
 have hoa:bN Wa w.heap.size 0 (.map []):=by rw[←hWa];exact(World.ownsMap_made w prog 3 _).alloc _
 have hkc:=kept_calls cs ws J Wa A A2 cap j ((hcs.keep hba).mono Ω) ((hws.keep hba).mono Ω)
 gi_wp2
 refine⟨apa,(callsIn_wide.2 hkc).mono ?_⟩;rintro e W1 ⟨v,p,rfl,hasc,U,f⟩;have hbw1:Below w.heap.size w W1:=hba.trans (U.mono Ω);have hs1:=U.size;have hc1:=(U.block (w.heap.size+1) Ω).trans hca;have ho1:bN W1 w.heap.size 0 (.map []):=by obtain⟨es,clock,hb,Ft,hs,hD⟩:=hoa;exact⟨es,clock,(U.block _ Ω).trans hb,Ft,hs,hD⟩
 rw[hsa]at f;obtain⟨VA,vc,rfl⟩:=IK f;clear hkc hca hoa hWa
 gi_wp2
 gi_loopw [7,16] (λ_ i wr=>KkL w Wa p (.slice VA p.length vc) i wr) (λ_ i _=>p.length-(Go.RowKit.intOf i).toNat)
 case atStart=>exact⟨0,Y' _,rfl,hbw1,Ω,hc1,⟨0,_,ε _,ho1,iy.nil.eq λx=>by simp⟩,f⟩
 case round=>
  clear f hc1 ho1 hbw1 hs1 U;obtain⟨k,hk,rfl,hbw,hsz,hc,⟨n,D,hn,ho,hd⟩,f⟩:=hrel;have hcc:=(cell_of_box_a hc).1;by_cases hlt:k<p.length
  ·have hxw:=ahm J ((hasc.2 _).1 (j_ hlt));obtain⟨g,rfl,hgb⟩:∃g,VA=ä ⟨g,0,ö⟩∧w.heap.size+2≤g:=by
    rcases f.2 with⟨_,h0⟩|⟨g,cap',cur,e,hb,_⟩
    ·omega
    ·injection e with e1 _ _;exact⟨g,e1,hb⟩
   have hcl:wr.cell? ⟨g,k,ö⟩=ä (.int .i64 p[k]):=by rw[f.cellAt k Ω];simp[intsI,hlt]
   have hks:=agc J hasc
   gi_wp2_with (first
    |(gi_at_mapUpdate;refine cD _ rfl _ _ _ rfl w.heap.size n D rfl ho hd (by unfold maxLen;omega) p[k] rfl rfl hxw ?_;intro w3 ho3 hd3 hg3)
    |gi_in)
   go_roundw
   case rel =>refine⟨k+1,Ω,Ψ,hbw.grown hg3 hbw.size (λr e=>by injection e with e;omega),ξ hsz hg3.size,(hg3.block _ Ω (λe=>by injection e with e;omega)).trans hc,⟨n+1,_,Ω,ho3,hd3.eq λx=>?_⟩,f.kept hg3 (.inr λe=>by have e:ä g=ä w.heap.size:=e;injection e with e;omega)⟩;rw[N' hlt,List.contains_append];simp[alW];rfl
   case measure=>simp[Go.RowKit.intOf];omega
  ·obtain rfl:k=p.length:=Ω
   gi_wp2
   refine⟨apa,(yf 8 A cs.length cap _).mono ?_⟩;rintro e W0 ⟨rfl,hW0⟩;simp only[X']at hW0⊢
   gi_wp2
   refine wpIn_rangeFunc ?_;intro fn hfn;obtain⟨u,hue⟩:∃u:Nat→ø,u=λi=>if i=7 then u7 else if i=14 then .slice VA p.length vc else if i=15 then .int .i64 p.length else if i=16 then .int .i64 p.length else if i=17 then .bool ß else if i=18 then u18 else if i=19 then u19 else if i=20 then u20 else if i=21 then u21 else u22:=⟨_,rfl⟩
   have hK:∃n D,bN wr w.heap.size n D∧iy D (λx=>p.contains x):=⟨n,D,ho,hd.eq λx=>by rw[x_]⟩;obtain⟨hs0,hb0,hbx,hM⟩:=abb u w wr fn (.slice A cs.length cap) (.slice A2 ws.length j) (.func (.func 61) #[] #[.pointer (ä ⟨wr.heap.size+1+1+1+1,0,ö⟩)]) (λx=>p.contains x) hbw hsz hc hK W0 hW0;have hcs0:=dO.keep hcs hb0;have hb01:Below W0.heap.size W0 ((W0.alloc (.deferred (ä []))).alloc (.loop (jW u fn (.slice A cs.length cap) (.slice A2 ws.length j) (.func (.func 61) #[] #[.pointer (ä ⟨wr.heap.size+1+1+1+1,0,ö⟩)]) w.heap.size wr.heap.size W0.heap.size .ready ö))):=((Below.refl _ W0).alloc (ε _) _).alloc Ψ _;obtain⟨W2,hW2⟩:∃W2,(W0.alloc (.deferred (ä []))).alloc (.loop (jW u fn (.slice A cs.length cap) (.slice A2 ws.length j) (.func (.func 61) #[] #[.pointer (ä ⟨wr.heap.size+1+1+1+1,0,ö⟩)]) w.heap.size wr.heap.size W0.heap.size .ready ö))=W2:=⟨_,rfl⟩;rw[hW2]at hM hb01;have T:(Instr.enterLoop fn (keT u (.slice A cs.length cap) (.slice A2 ws.length j) (.func (.func 61) #[] #[.pointer (ä ⟨wr.heap.size+1+1+1+1,0,ö⟩)]) w.heap.size wr.heap.size) #[27] (kaA f34.body) (kaB f34.body) ö).run prog W0 = .ok (W0.heap.size+1,[{ target :=.collected W0.heap.size,args :=#[] }]) W2:=by rw[←hW2];exact run_enterLoop_outer _ _ _ _ _
   clear hW2 hW0 hmm;refine⟨W0.heap.size+1,[{ target :=.collected W0.heap.size,args :=#[] }],W2,{ target :=.fn (.func 61) #[.pointer (ä ⟨wr.heap.size+1+1+1+1,0,ö⟩)],args :=#[.func (.yield (W0.heap.size+1)) #[] #[]] },W2,61,
    #[.func (.yield (W0.heap.size+1)) #[] #[],.pointer (ä ⟨wr.heap.size+1+1+1+1,0,ö⟩)],W2,(by rw[hue]at T;exact T), ?_,λ_ _=>trivial, ?_,λ_=>Ω, ?_⟩
   ·simp[resolve,go_sem]
   ·simp[invoke,go_sem,enters_of func61 Φ rfl]
   ·refine(ye Fence.wide 8 trivial rfl Ω (wr.heap.size+1+1+1+1) w.heap.size A cap cs (by have:=J.n;omega) J.m W0 Ω Ω ((cell_of_box_a hbx).1) hcs0 (W0.heap.size+1) (KeAt u w fn (.slice A cs.length cap) (.slice A2 ws.length j) (.func (.func 61) #[] #[.pointer (ä ⟨wr.heap.size+1+1+1+1,0,ö⟩)]) (W0.heap.size+1) wr.heap.size W0.heap.size (λx=>p.contains x)) W2 hb01 (λs W C h hg=>h.quiet hg) ?_ hM).mono ?_
    ·intro pre x W hJ hlt hx;exact aeZ u 7 w fn _ _ _ _ _ _ _ Ω Ω Ω pre x W hJ (by have:=J.t;omega) (J.wf x hx).1 (J.wf x hx).2
    rintro e W3 ⟨⟨v0,rfl⟩,h2⟩;have hend:=run_endLoop (P:=prog) h2.lp (by simp[jW]);have R:=LD (r':={ jW u fn (.slice A cs.length cap) (.slice A2 ws.length j) (.func (.func 61) #[] #[.pointer (ä ⟨wr.heap.size+1+1+1+1,0,ö⟩)]) w.heap.size wr.heap.size W0.heap.size .ready ö with state :=.exhausted }) h2.st (l:=W0.heap.size+1) Ω Ω;refine⟨ö,_,hend, ?_⟩;generalize W3.putObj (W0.heap.size+1) _=W4 at R⊢;clear h2 hend hM T hb01 hcs0
    gi_wp2
    have hDk:=R.dk;rw[hs0]at hDk;have hg5:=grownBy_putObj_a W4 (wr.heap.size+5) (.deferred ö);refine⟨Ψ,.inl ⟨_,_,rfl,run_takeDeferred hDk, ?_⟩⟩;refine⟨_,results_tmp rfl _ _ _,wr.heap.size,p,rfl,hasc,R.below.grown hg5 R.below.size (λr e=>by injection e with e;omega),hsz,ξ R.sz hg5.size,R.env.kept hg5 (λr e=>by injection e with e;omega)⟩
