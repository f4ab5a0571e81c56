/- Parts. -/
import Derived.Test.YtfgpipfjalmooaaGreatKpD
import Derived.Deep.LoopGhost
import Derived.Laws.OwnMore
import Derived.Laws.AppendOwnNone
set_option linter.all false
noncomputable section
namespace Go.Proofs.YtfgpipfjalmooaaGreat
namespace Abs
open Go Go.Proofs Go.RowKit Go.Maps Go.Shelf Go.WideElems Go.MapKept Tryz
open Go.ChangeMaps (setBlock heap_setBlock_same)
open Go.ChangeShapes (lits)
attribute [local go_sem] Oper.semAt_some
def yU (n:Nat)(A:Option Addr)(l c:Nat)(W:World):CallsIn Fence.wide n prog 29 #[.slice A l c] W λe f=>e = .returned (.func (.func 61) #[] #[.pointer (some ⟨W.heap.size,0,none⟩)])∧f=W.alloc (.cells #[.slice A l c] 24):=by
 refine callsIn_of_wp func29 rfl trivial ?_ rfl;simp[ntmps29]
 gi_wp2
 go_ret
 exact⟨rfl,rfl⟩
def abu (w:World)(fn:FuncId)(g l p:Value)(W0:World)(f:W0=((((w.alloc (.map #[] 0)).alloc (.map #[] 0)).alloc (.cells #[.map (some w.heap.size)] 63)).alloc (.cells #[.map (some (w.heap.size+1))] 64)).alloc (.cells #[g] 24)) :
  W0.heap.size=w.heap.size+5∧W0.heap[w.heap.size+1+1+1+1]? = some (.cells #[g] 24 (0,0))∧KpAt w fn g l p (W0.heap.size+1) W0.heap.size [] ((W0.alloc (.deferred (some []))).alloc (.loop (iM fn g l p w.heap.size W0.heap.size .ready none))):=by
 have hs0:W0.heap.size=w.heap.size+5:=by rw[f];simp
 have r:Below w.heap.size w W0:=by rw[f];exact(((((Below.refl _ w).alloc (ζ _) _).alloc Ψ _).alloc (by simp <;> omega) _).alloc (by simp <;> omega) _).alloc (by simp <;> omega) _
 have T:bN W0 w.heap.size 0 (.map []):=by rw[f];exact((((World.ownsMap_made w prog 3 _).alloc _).alloc _).alloc _).alloc _
 have R:W0.ownsGroups prog 3 (w.heap.size+1+1) 3 .i64 (w.heap.size+1) 0 (.map []:DataW Unit):=by have:=World.ownsGroups_made (H:=Unit) (w.alloc (.map #[] 0)) prog 3 3 .i64;rw[U']at this;rw[f];exact iO (iO (iO this (ω _ _ _)) (ω _ _ _)) (ω _ _ _)
 have c1:W0.heap[w.heap.size+1+1]? = some (.cells #[.map (some w.heap.size)] 63 (0,0)):=by have:=World.alloc_heap_new ((w.alloc (.map #[] 0)).alloc (.map #[] 0)) (.cells #[.map (some w.heap.size)] 63);rw[U',U']at this;rw[f];exact(Below.heap_alloc _ _ _ Ψ).trans ((Below.heap_alloc _ _ _ Ψ).trans this)
 have c2:W0.heap[w.heap.size+1+1+1]? = some (.cells #[.map (some (w.heap.size+1))] 64 (0,0)):=by have:=World.alloc_heap_new (((w.alloc (.map #[] 0)).alloc (.map #[] 0)).alloc (.cells #[.map (some w.heap.size)] 63)) (.cells #[.map (some (w.heap.size+1))] 64);rw[U',U',U']at this;rw[f];exact(Below.heap_alloc _ _ _ Ψ).trans this
 have U:W0.heap[w.heap.size+1+1+1+1]? = some (.cells #[g] 24 (0,0)):=by have:=World.alloc_heap_new ((((w.alloc (.map #[] 0)).alloc (.map #[] 0)).alloc (.cells #[.map (some w.heap.size)] 63)).alloc (.cells #[.map (some (w.heap.size+1))] 64)) (.cells #[g] 24);rw[U',U',U',U']at this;rw[f];exact this
 refine⟨hs0,U, ?_⟩;have C:=World.alloc_heap_new (W0.alloc (.deferred (some []))) (.loop (iM fn g l p w.heap.size W0.heap.size .ready none));rw[U']at C;have P:=(Below.heap_alloc (W0.alloc (.deferred (some []))) (.loop (iM fn g l p w.heap.size W0.heap.size .ready none)) W0.heap.size Ψ).trans (World.alloc_heap_new W0 (.deferred (some [])));have j:∀k,k<W0.heap.size→((W0.alloc (.deferred (some []))).alloc (.loop (iM fn g l p w.heap.size W0.heap.size .ready none))).heap[k]? = W0.heap[k]?:=λk J=>
  (Below.heap_alloc _ _ k Ξ).trans (Below.heap_alloc _ _ k J)
 refine⟨⟨(r.alloc Ω _).alloc Ξ _,by simp;omega,P,(j _ Ω).trans c1,(j _ Ω).trans c2,⟨0,_,ζ _,(T.alloc _).alloc _,iV.nil.eq λx=>rfl⟩,⟨0,_,ζ _,iO (iO R (ω _ _ _)) (ω _ _ _),sY.nil.eq λx=>rfl⟩⟩,C⟩
def nG (w:World)(B:Nat)(A:Option Addr)(l:List Int):Prop:=0<l.length→∃b o,A=some ⟨b,o,none⟩∧b<B∧∀j (h:j<l.length),w.cell? ⟨b,o+j,none⟩=some (.int .i64 l[j])
structure GoodW (cs:List (List WK))(ws:List Int):Prop where
 n:cs.length≤1024
 m:∀c∈cs,c.length≤1048576
 t:cs.flatten.length≤500000
 wf:∀x∈cs.flatten,(Lit.int .i64 x.id).wf=true∧(Lit.int .i64 x.rf).wf=true
 wn:ws.length≤1024
 ww:∀x∈ws,(Lit.int .i64 x).wf=true
open Go.ChangeMaps (setBlock heap_setBlock_same)
open Go.ChangeShapes (lits)
inductive RchK (all:List WK)(ws:List Int):Int→Prop
 |root {x:Int}:x∈ws→fb all x=true→RchK all ws x
 |step {p x:Int}:RchK all ws p→x∈sy all p→RchK all ws x
structure WkI (all:List WK)(ws:List Int)(wk:List Int)(kp:Int→Bool):Prop where
 hw:∀x∈wk,RchK all ws x
 hk:∀x,kp x=true→RchK all ws x
 rt:∀x∈ws,fb all x=true→kp x=true∨x∈wk
 cl:∀p,kp p=true→∀x∈sy all p,kp x=true∨x∈wk
def xk (all:List WK)(f:Int→Bool)(p:Int):List Int:=if f p then[]else sy all p
def C8 (all:List WK)(f:Int→Bool):Nat:=(all.filter λy=>y.fd == 2 && !f y.rf).length
def WkI.start (all:List WK)(ws:List Int):WkI all ws (ws.filter (fb all)) (λ_=>false) :=
 ⟨λx f=>.root (v_.1 f).1 (v_.1 f).2,λ_ h=>by(cases h),λx f g=>.inr (v_.2 ⟨f,g⟩),λ_ h=>by(cases h)⟩
variable{all pre:List WK}{ws:List Int}{kp:Int→Bool}{R:Nat→Prop}{w W:World}{D:Nat}{f:Int→List Int}
def WkI.pop {l:List Int}(h:WkI all ws l kp)(j:l≠[]):WkI all ws (l.dropLast++xk all kp (l.getLast j)) (λx=>x == l.getLast j||kp x):=by
 have J:=h.hw _ (List.getLast_mem j);have f:∀x∈l,x=l.getLast j∨x∈l.dropLast:=λx g=>by
  rw[←List.dropLast_concat_getLast j]at g;obtain e|e:=χ.1 g
  ·exact .inr e
  ·exact .inl (ξ.1 e)
 refine⟨λx g=>?_,λx g=>?_,λx g P=>?_,λp C x g=>?_⟩
 ·obtain e|e:=χ.1 g
  ·exact h.hw x (List.dropLast_subset _ e)
  ·unfold xk at e;split at e
   ·cases e
   ·exact .step J e
 ·simp at g;obtain rfl|e:=g
  ·exact J
  ·exact h.hk x e
 ·simp;obtain e|e:=h.rt x g P
  ·exact .inl (.inr e)
  ·obtain e2|e2:=f x e
   ·exact .inl (.inl e2)
   ·exact .inr (.inl e2)
 ·simp at C⊢;by_cases r:kp p=true
  ·obtain e|e:=h.cl p r x g
   ·exact .inl (.inr e)
   ·obtain e2|e2:=f x e
    ·exact .inl (.inl e2)
    ·exact .inr (.inl e2)
  ·obtain rfl|e:=C
   ·refine .inr (.inr ?_);unfold xk;rw[Θ r];exact g
   ·exact absurd e r
def WkI.pop1 {f:List Int}{x:Int}(h:WkI all ws (f++[x]) kp):WkI all ws (f++xk all kp x) (λy=>y == x||kp y):=by have:=h.pop Ψ;simpa using this
def WkI.done (h:WkI all ws [] kp)(x:Int):kp x=true↔RchK all ws x:=by
 refine⟨h.hk x,λj=>?_⟩;induction j with
 |root l f=>exact(h.rt _ l f).elim id λe=>(by cases e)
 |step _ f g=>exact(h.cl _ g _ f).elim id λe=>(by cases e)
def Yh (all:List WK)(kp:Int→Bool)(id:Int):C8 all (λx=>x == id||kp x)+(xk all kp id).length=C8 all kp:=by
 unfold C8 xk sy;by_cases f:kp id=true
 ·rw[G' f];have:(all.filter λy=>y.fd == 2 && !(y.rf == id||kp y.rf))=all.filter λy=>y.fd == 2 && !kp y.rf:=by
   apply x?;intro y _;by_cases e:y.rf=id
   ·rw[e,f];simp
   ·rw[show(y.rf == id)=false from P'.2 e];simp
  rw[this];rfl
 ·rw[Θ f,e_];have g:kp id=false:=by simpa using f
  induction all with
  |nil=>rfl
  |cons y all l=>
   have j:∀(p:WK→Bool),((y::all).filter p).length=(if p y=true then 1 else 0)+(all.filter p).length:=λp=>by rw[S?];split <;> simp <;> omega
   have J:=j (λy=>y.fd == 2 && !(y.rf == id||kp y.rf));have C:=j (λy=>y.fd == 2&&y.rf == id);have r:=j (λy=>y.fd == 2 && !kp y.rf);simp only at J C r l⊢;have P:(if (y.fd == 2 && !(y.rf == id||kp y.rf))=true then 1 else 0)+(if (y.fd == 2&&y.rf == id)=true then 1 else 0)=(if (y.fd == 2 && !kp y.rf)=true then 1 else 0):=by
    by_cases e:y.rf=id
    ·rw[e,g];cases y.fd == 2 <;> simp
    ·rw[show(y.rf == id)=false from P'.2 e];cases y.fd == 2 <;> cases kp y.rf <;> simp
   omega
def abI (all:List WK)(kp:Int→Bool)(id:Int)(q:Int):(if q=id then[]else xk all kp q)=xk all (λx=>x == id||kp x) q:=by
 unfold xk;by_cases e:q=id
 ·subst e;simp
 ·show _=if (q == id||kp q)=true then[]else sy all q
  rw[Θ e,show(q == id)=false from P'.2 e];simp
def abr (all:List WK)(kp:Int→Bool):C8 all kp≤all.length:=F_ ..
def GJ (h:∃k,R k):∃k,R k∧∀j,R j→k≤j:=by
 obtain⟨k,r⟩:=h;induction k using Nat.strongRecOn with
 |_ k l=>
  by_cases g:∃j,j<k∧R j
  ·obtain⟨j,f,p⟩:=g;exact l j f p
  ·exact⟨k,r,λj f=>alC λh=>g ⟨j,h,f⟩⟩
def uy (R:Nat→Prop):Nat:=by
 classical
 exact if h:∃k,R k then Classical.choose (GJ h)else 0
def PG (h:∃k,R k):R (uy R):=by
 classical
 unfold uy;rw[akA h];exact(amf (GJ h)).1
def Yj {k:Nat}(h:R k):uy R≤k:=by
 classical
 unfold uy;rw[akA ⟨k,h⟩];exact(amf (GJ ⟨k,h⟩)).2 _ h
structure KqS (w:World)(D S:Nat)(pre:List WK)(f:Int→List Int)(W:World):Prop where
 below:Below w.heap.size w W
 sz:S≤W.heap.size
 lo:w.heap.size+5≤S
 dS:D<S
 K:W.heap[D]? = some (.deferred (some []))
 c1:W.heap[w.heap.size+1+1]? = some (.cells #[.map (some w.heap.size)] 63 (0,0))
 c2:W.heap[w.heap.size+1+1+1]? = some (.cells #[.map (some (w.heap.size+1))] 64 (0,0))
 defs:∃n J,bN W w.heap.size n J∧iV J (fb pre)
 ins:∃n D2,n≤pre.length∧W.ownsGroups Tryz.prog 3 (w.heap.size+1+1) 3 .i64 (w.heap.size+1) n D2∧sY D2 f∧hO W (w.heap.size+1) S
def KqS.of (h:KpS w D pre W)(C:w.heap.size+5≤W.heap.size):KqS w D W.heap.size pre (sy pre) W:=by obtain⟨n1,J,P,l,j⟩:=h.defs;obtain⟨r,R,p,f,g⟩:=h.ins;exact⟨h.below,ζ _,C,(δ.1 h.K).1,h.K,h.c1,h.c2,⟨n1,J,l,j⟩,⟨r,R,p,f,g,hO.start f⟩⟩
def KqS.kept {w W C:World}{D S:Nat}{pre:List WK}{f:Int→List Int}{row:Option Nat}(h:KqS w D S pre f W)(g:W.grownBy C row)(P:∀r,row=some r→S≤r):KqS w D S pre f C:=by
 have lt:∀{k:Nat} {o:Obj},W.heap[k]? = some o→k<W.heap.size:=λh=>(δ.1 h).1;have hlo:=h.lo;have hd:=h.dS;have ne:∀k,k<S→some k≠row:=λk hk e=>by have:=P k e.symm;omega
 obtain⟨n1,J,T,l⟩:=h.defs;obtain⟨n2,D2,U,R,j,p⟩:=h.ins;obtain⟨g1,g2⟩:=Dh R p g (ne _ Ω) P;exact⟨h.below.grown g h.below.size λk e=>by have:=P k e;omega,ν h.sz g.size,h.lo,h.dS,(g.block D (lt h.K) (ne D hd)).trans h.K,(g.block _ (lt h.c1) (ne _ Ω)).trans h.c1,(g.block _ (lt h.c2) (ne _ Ω)).trans h.c2,
  ⟨n1,J,T.kept g (ne _ Ω),l⟩,⟨n2,D2,U,g1,j,g2⟩⟩
def KqS.quiet {C :World}{S:Nat}(h:KqS w D S pre f W)(g:W.grownBy C none):KqS w D S pre f C:=h.kept g λr e=>by cases e
def KqS.eq {S:Nat}{g:Int→List Int}(h:KqS w D S pre f W)(e:∀x,f x=g x):KqS w D S pre g W:=by have:f=g:=funext e;rw[←this];exact h
def KqS.drop {S:Nat}(h:KqS w D S pre f W)(x:Int)(g:(Lit.int .i64 x).wf=true)(ty:TypeId) :
  ∃C,(Builtin.delete_ #[64,3] ty #[.map (some (w.heap.size+1)),.int .i64 x]).run prog W = .ok (.tuple #[]) C∧KqS w D S pre (λq=>if q=x then[]else f q) C∧W.grownBy C (some (w.heap.size+1)):=by
 have lt:∀{k:Nat} {o:Obj},W.heap[k]? = some o→k<W.heap.size:=λh=>(δ.1 h).1;obtain⟨n1,J,T,P⟩:=h.defs;obtain⟨n2,D2,hn2,l,r,R⟩:=h.ins;have hlo:=h.lo;obtain⟨C,j,g1,g2,p⟩:=Qk l R x g ty;have ne:∀k,k≠w.heap.size+1→some k≠some (w.heap.size+1):=λk g e=>g (by injection e);have all:∀{k:Nat} {o:Obj},(∀es c,o ≠ .map es c)→W.heap[k]? = some o→C.heap[k]? = some o:=λ{k o} U g=>by
  by_cases e:k=w.heap.size+1
  ·subst e;obtain⟨es,c,hb,_⟩:=l;rw[hb]at g;cases g;exact(U _ _ rfl).elim
  ·exact(p.block k (lt g) (ne k e)).trans g
 exact⟨C,j,⟨h.below.grown p h.below.size λk e=>by injection e with e;omega,ν h.sz p.size,h.lo,h.dS,all (λ_ _ e=>by cases e) h.K,all (λ_ _ e=>by cases e) h.c1,all (λ_ _ e=>by cases e) h.c2,
  ⟨n1,J,T.kept p (ne _ Ω),P⟩,⟨n2,_,hn2,g1,r.del x,g2⟩⟩,p⟩
section
variable {F:Fence}{T:Nat}{w:World}{ops:Array Oper}{cJ:List Oper}{o:Oper}{a:Act}{Q:Exit→Act→World→Prop}
def jD (hgd:o.guard=none)(s x:Operand)(ho:o.op = .call { callee :=.builtin .append,args :=#[s,x],argTypes :=#[23,23] })(f C:Nat)(v u:Value)(l r:List Int)(hs:a.eval s=v)(hx:a.eval x=u)(p:w.ownsRow f 3 1 v l.length (intsI l))(hu:w.ownsInts C 3 .i64 u r)(h1:l.length+r.length≤4194304)(hb:f≤w.heap.size)
  (h:∀v' J,J.ownsRow f 3 1 v' (l++r).length (intsI (l++r))→w.grownBy J v.ownBlock→wpListIn F T prog ops Q cJ (a.put o.dst v') J):wpListIn F T prog ops Q (o::cJ) a w:=by
 obtain⟨i0,U,hz0,hz1,hz2⟩:=info_parts abL;have happ:intsI (l++r)=intsI l++r.map (.int .i64):=by simp[intsI]
 rcases hu.1.2 with⟨rfl,hz⟩|⟨g,cap,cur,rfl,_,hg,_,_,_,ht⟩
 ·have hz:r=[]:=Q' hz;subst hz;refine wpListIn_plain hgd λK hK=>?_;have R:=run_append_owned_none (P:=prog) (w:=w) f 23 o.type 3 i0 1 ZO U v l.length _ p;unfold Oper.wpIn;refine⟨by simp[Oper.about,ho,resolve,Target.leads,j_], ?_⟩;rw[Oper.semAt_plain F _ _ (by rw[ho];intro c hc';cases hc')];simp[execOp,ho,resolve,invoke,builtin,hs,hx,R,Result.andThen];refine hK _ _ (h v w (by simpa using p) ⟨rfl,rfl,rfl,ζ _,λ_ _ _=>rfl⟩)
 ·refine wpListIn_append_own_at w hgd s x 23 ho f 3 i0 (.int .i64 0) 1 8 ZO U hz0 hz1 hz2 rfl Ϛ v l.length _ hs p ⟨g,0,none⟩ r.length cap (r.map (.int .i64)) hx Ψ (λj y hj=>hu.1.cells rfl j y hj) (by simp[Value.oneCell']) (by unfold maxLen;omega) Ω hb ?_;intro v' J h2 h3 _ _;refine h v' J ?_ h3;rw[happ,N'];exact h2
end
def aeD (w:World)(x:Int)(f:(Lit.int .i64 x).wf=true):(w.alloc (.cells #[.int .i64 x] 3)).ownsInts w.heap.size 3 .i64 (.slice (some ⟨w.heap.size,0,none⟩) 1 1) [x] :=
 ⟨⟨rfl,.inr ⟨_,1,_,rfl,ζ _,World.alloc_heap_new _ _,ζ _,by unfold maxLen;omega,rfl,rfl⟩⟩,by simpa using f⟩
variable{w W C :World}{n D S B:Nat}{l ws:List Int}{pre:List WK}{kp K:Int→Bool}{y:WK}{J:DataW Unit}{A:Option Addr}{cs:List (List WK)}
def Js {f:Nat}{e:TypeId}{v:Value}{j:List Value}(h:w.ownsRow f e 1 v n j):∃A c,v = .slice A n c:=by
 rcases h.2 with⟨rfl,l⟩|⟨g,cap,p,rfl,_⟩
 ·exact⟨none,0,by rw[l]⟩
 ·exact⟨_,_,rfl⟩
def aeC {f g cap:Nat}(h:w.ownsRow f 3 1 (.slice (some ⟨g,0,none⟩) l.length cap) l.length (intsI l)):w.ownsRow f 3 1 (.slice (some ⟨g,0,none⟩) (l.length-1) cap) l.dropLast.length (intsI l.dropLast):=by
 rcases h.2 with⟨e,_⟩|⟨U,p,j,e,C,r,T,R,P,J⟩
 ·cases e
 ·cases e;rw[List.length_dropLast];refine⟨by simp[intsI],.inr ⟨g,cap,j,rfl,C,r,Ω,R,P, ?_⟩⟩;rw[show intsI l.dropLast=(intsI l).take (l.length-1)by unfold intsI;rw[List.dropLast_eq_take,List.map_take],←J,akV];congr 1;omega
def xe {F:Fence}{T:Nat}{j:Array Oper}{cJ:List Oper}{o:Oper}{a:Act}{Q:Exit→Act→World→Prop}{f:Int→List Int}(hg:o.guard=none)(m x:Operand)(g:o.op=Op.call { callee:=Callee.builtin Builtin.delete,args :=#[m,x],argTypes :=#[64,3] })(h:KqS w D S pre f W)(k:Int)(U:(Lit.int .i64 k).wf=true)
  (R:a.eval m = .map (some (w.heap.size+1))) (P:a.eval x = .int .i64 k) (hK:∀C,KqS w D S pre (λq=>if q=k then[]else f q) C→W.grownBy C (some (w.heap.size+1))→wpListIn F T prog j Q cJ (a.put o.dst (.tuple #[])) C):wpListIn F T prog j Q (o::cJ) a W:=by
 refine wpListIn_plain hg λK' r=>?_;obtain⟨C,l,r1,J⟩:=h.drop k U o.type;unfold Oper.wpIn;refine⟨by simp[Oper.about,g,resolve,Target.leads,j_], ?_⟩;rw[Oper.semAt_plain F _ _ (by rw[g];intro c p;cases p)];simp[execOp,g,resolve,invoke,builtin,R,P,l,Result.andThen];exact r _ _ (hK C r1 J)
def Rq (D:DataW Unit)(kp:Int→Bool):Prop:=∀x:Int,Maps.has D (.int .i64 x)=kp x
def Rq.nil:Rq (.map []) (λ_=>false):=λ_=>rfl
def Rq.put {D:DataW Unit}{kp:Int→Bool}(h:Rq D kp)(g:IsMap D)(p:Int)(f:WideAt.IsKeyLit (.int .i64 p))(d:DataW Unit):Rq (D.put (.int .i64 p) d) (λx=>x == p||kp x):=λq=>by
 by_cases e:q=p
 ·subst e;rw[has_put_same g f];simp
 ·rw[has_put_other (λj=>e (by cases j;rfl)),h q];show kp q=(q == p||kp q);rw[show(q == p)=false from P'.2 e];simp
def PL {b:Nat}{D:DataW Unit}(g:bN w b n D)(hh:Rq D kp):(intKeys D).Nodup∧∀x,x∈intKeys D↔kp x=true:=by
 obtain⟨C,hD,P,_⟩:=g.entries Mb;obtain⟨U,l,T⟩:=g.keysOf;obtain rfl:C=U:=by rw[hD]at l;simpa using l
 subst hD;have r:∀p∈C,∃x,p.1 = .int .i64 x:=λp P=>by obtain⟨v,hv⟩:=T p P;obtain⟨x,_,hx,_⟩:=Maps.keyOf_i64 KZ hv;exact⟨x,hx⟩
 refine⟨?_,λx=>?_⟩
 ·show(C.map λp=>Go.intOf p.1).Nodup;refine ak2.2 (P.imp_of_mem λ{p q} f J R e=>R ?_);obtain⟨a,j⟩:=r p f;obtain⟨b,hb⟩:=r q J;rw[j,hb]at e⊢;exact i_ _ e
 ·rw[←hh x,has_eq,ak9];show x∈(C.map λp=>Go.intOf p.1)↔_;rw[l_];constructor
  ·rintro⟨p,f,rfl⟩;obtain⟨a,j⟩:=r p f;exact⟨p,f,by rw[j];simp[Lit.sameKey,Go.intOf]⟩
  ·rintro⟨p,f,hs⟩;obtain⟨a,j⟩:=r p f;rw[j]at hs;exact⟨p,f,by rw[j];simpa[Lit.sameKey,Go.intOf]using hs⟩
def iW (f:List Int)(P:Int→Prop):Prop:=f.Pairwise (λx y=>x<y)∧∀x,x∈f↔P x
def Rh {ss:List Int}{P:Int→Prop}(p:ss.Perm l)(r:l.Nodup)(C:∀x,x∈l↔P x):iW (ss.mergeSort λx y=>decide (x≤y)) P:=by
 have f:=(List.mergeSort_perm ss λx y=>decide (x≤y)).trans p;have j:=alZ (le:=λx y:Int=>decide (x≤y)) (λa b c R J=>by simp at *;omega) (λa b=>by simp;omega) ss;have g:(ss.mergeSort λx y=>decide (x≤y)).Nodup:=f.nodup_iff.2 r;refine⟨?_,λx=>by rw[f.mem_iff,C]⟩;refine(j.and g).imp λ{a b} h=>?_;have R:a≤b:=by simpa using h.1
 have J:a≠b:=h.2;omega
def abK (all:List WK)(kp:Int→Bool)(id:Int):(xk all kp id).length≤all.length:=by
 unfold xk sy;split
 ·simp
 ·rw[e_];exact F_ ..
def abJ {all:List WK}{id x:Int}(h:x∈xk all kp id):∃y∈all,y.id=x:=by
 unfold xk sy at h;split at h
 ·cases h
 ·obtain⟨y,f,e⟩:=l_.1 h;exact⟨y,(v_.1 f).1,e⟩
def KtR (w:World)(D S:Nat)(pre:List WK)(ws:List Int)(k:Nat)(v:Value)(wr:World):Prop :=
 ∃(f:List Int) (kp:Int→Bool) (j:Nat) (g:DataW Unit),k=f.length+C8 pre kp∧WkI pre ws f kp∧(∀x∈f,(Lit.int .i64 x).wf=true)∧KqS w D S pre (xk pre kp) wr∧S+1≤wr.heap.size∧bN wr S j g∧iV g kp∧Rq g kp∧j+k≤1000000∧wr.ownsRow (S+1) 3 1 v f.length (intsI f)
attribute [local go_sem] Oper.semAt_some
def xo (pre:List WK)(ws:List Int)(k:Nat):List Int:=(ws.take k).filter (fb pre)
def EJ (pre:List WK)(ws:List Int)(k:Nat)(h:k<ws.length):xo pre ws (k+1)=if fb pre ws[k]then xo pre ws k++[ws[k]]else xo pre ws k:=by unfold xo;rw[Z' h,n?,S?,alL];split <;> simp
def ZF (pre:List WK)(ws:List Int)(k:Nat):(xo pre ws k).length≤ws.length:=ν (F_ ..) Ξ
def WtL (w:World)(D S:Nat)(pre:List WK)(ws:List Int)(v i:Value)(wr:World):Prop :=
 ∃k:Nat,k≤ws.length∧i = .int .i64 k∧KqS w D S pre (sy pre) wr∧S+1≤wr.heap.size∧bN wr S 0 (.map [])∧wr.ownsRow (S+1) 3 1 v (xo pre ws k).length (intsI (xo pre ws k))
def ahw (m:Nat):AnyZI.SortsIn prog sortZ_ren Fence.wide m :=
 ⟨λl g cap ss W r f j=>callsIn_wide.2 (AnyM.slices_Sort_int sortI l g cap ss W r f j),
  λp cap W=>callsIn_wide.2 (AnyM.slices_Sort_int_none sortI p cap W)⟩
def abw (n:Nat)(f:Option Nat)(W:World):CallsIn Fence.wide n prog 31 #[.map f] W λe g=>e = .returned (.func (.func 63) #[] #[.pointer (some ⟨W.heap.size,0,none⟩)])∧g=W.alloc (.cells #[.map f] 63) :=
 AnyZI.keys_in keysZ Fence.wide n trivial rfl f W
def PN (wr:World)(S n:Nat)(D:DataW Unit)(f:bN wr S n D):SeqGives Fence.wide 4 prog 63 #[.pointer (some ⟨wr.heap.size,0,none⟩)] encZ (λss=>ss.Perm (intKeys D)) (Maps.size D) (wr.alloc (.cells #[.map (some S)] 63)) :=
 AnyZI.keys_gives (ρ:=keysZ_ren) { keysZ with } Fence.wide 4 trivial rfl Ω wr.heap.size S n D _ Ψ Ψ (World.ownsMap.alloc f _)
def RV (n:Nat)(p:n=7)(b:Nat)(W:World)(P:List Int→Prop)(N:Nat)(R:N≤maxLen)(J:N*8≤140737488355328)(f:SeqGives Fence.wide 4 prog 63 #[.pointer (some ⟨b,0,none⟩)] encZ P N W) :
  CallsIn Fence.wide n prog 30 #[.func (.func 63) #[] #[.pointer (some ⟨b,0,none⟩)]] W λe j=>∃v ss,e = .returned v∧P ss∧j.ownsRow W.heap.size 3 1 v ss.length (intsI (ss.mergeSort λx y=>decide (x≤y)))∧Below W.heap.size W j:=by
 subst p;have l:=AnyZI.sorted_in sortZ Fence.wide 7 trivial trivial trivial trivial rfl Ω (ahw _) (enters_of func36 Φ rfl) 63 #[.pointer (some ⟨b,0,none⟩)] trivial (enters_of func63 Φ rfl) P N R J W f;change CallsIn _ _ prog 30 _ _ _ at l;refine l.mono ?_;rintro e j ⟨v,ss,rfl,C,g,_,r⟩;exact⟨v,ss,rfl,C,g,r⟩
set_option maxRecDepth 100000 in
set_option maxHeartbeats 1600000 in
def afj (cs:List (List WK))(ws:List Int)(R:GoodW cs ws)(w:World)(A A2:Option Addr)(cap j:Nat)(hcs:dP w w.heap.size A cs)(hws:nG w w.heap.size A2 ws):CallsIn Fence.wide 8 prog 10 #[.slice A cs.length cap,.slice A2 ws.length j] w λe w'=>∃v ks,e = .returned v∧iW ks (RchK cs.flatten ws)∧Below w.heap.size w w'∧w'.ownsRow w.heap.size 3 1 v ks.length (intsI ks):=by
 have hmm:=@run_makeMap prog;refine callsIn_of_wp_marks func10 rfl trivial ?_ rfl;simp only[ntmps10,e?,w_,y?,Nat.reduceAdd,Nat.reduceSub,O?,N?,I?,P?,t_,ako]
 gi_wp2
 refine⟨apj,(yU 7 A cs.length cap _).mono ?_⟩;rintro e W0 ⟨rfl,hW0⟩;simp only[U']at hW0⊢
 gi_wp2
 refine wpIn_rangeFunc ?_;intro fn hfn;obtain⟨hs0,hbx,hM⟩:=abu w fn (.slice A cs.length cap) (.slice A2 ws.length j) (.func (.func 61) #[] #[.pointer (some ⟨w.heap.size+1+1+1+1,0,none⟩)]) W0 hW0;have hb0:Below w.heap.size w W0:=by rw[hW0];exact(((((Below.refl _ w).alloc (ζ _) _).alloc Ψ _).alloc (by simp <;> omega) _).alloc (by simp <;> omega) _).alloc (by simp <;> omega) _
 have hcs0:=dP.keep hcs hb0;have hb01:Below W0.heap.size W0 ((W0.alloc (.deferred (some []))).alloc (.loop (iM fn (.slice A cs.length cap) (.slice A2 ws.length j) (.func (.func 61) #[] #[.pointer (some ⟨w.heap.size+1+1+1+1,0,none⟩)]) w.heap.size W0.heap.size .ready none))):=((Below.refl _ W0).alloc (ζ _) _).alloc Ψ _;obtain⟨W1,hW1⟩:∃W1,(W0.alloc (.deferred (some []))).alloc (.loop (iM fn (.slice A cs.length cap) (.slice A2 ws.length j) (.func (.func 61) #[] #[.pointer (some ⟨w.heap.size+1+1+1+1,0,none⟩)]) w.heap.size W0.heap.size .ready none))=W1:=⟨_,rfl⟩;rw[hW1]at hM hb01;have hrun:(Instr.enterLoop fn (kpT (.slice A cs.length cap) (.slice A2 ws.length j) (.func (.func 61) #[] #[.pointer (some ⟨w.heap.size+1+1+1+1,0,none⟩)]) w.heap.size) #[17] (aes f10.body) (aer f10.body) none).run prog W0 = .ok (W0.heap.size+1,[{ target :=.collected W0.heap.size,args :=#[] }]) W1:=by rw[←hW1];exact run_enterLoop_outer _ _ _ _ _
 clear hW1 hW0;refine⟨W0.heap.size+1,[{ target :=.collected W0.heap.size,args :=#[] }],W1,{ target :=.fn (.func 61) #[.pointer (some ⟨w.heap.size+1+1+1+1,0,none⟩)],args :=#[.func (.yield (W0.heap.size+1)) #[] #[]] },W1,61,
  #[.func (.yield (W0.heap.size+1)) #[] #[],.pointer (some ⟨w.heap.size+1+1+1+1,0,none⟩)],W1,hrun, ?_,λ_ _=>trivial, ?_,λ_=>Ω, ?_⟩
 ·simp[resolve,go_sem]
 ·simp[invoke,go_sem,enters_of func61 Φ rfl]
 ·refine(yT Fence.wide 7 trivial rfl Ω (w.heap.size+1+1+1+1) w.heap.size A cap cs (by have:=R.n;omega) R.m W0 Ω Ω ((cell_of_box_a hbx).1) hcs0 (W0.heap.size+1) (KpAt w fn (.slice A cs.length cap) (.slice A2 ws.length j) (.func (.func 61) #[] #[.pointer (some ⟨w.heap.size+1+1+1+1,0,none⟩)]) (W0.heap.size+1) W0.heap.size) W1 hb01 (λs W C h hg=>h.quiet hg) ?_ hM).mono ?_
  ·intro pre x W hJ hlt hx;exact afi 6 w fn _ _ _ _ _ Ω Ω Ω pre x W hJ (by have:=R.t;omega) (R.wf x hx).1 (R.wf x hx).2
  rintro e W2 ⟨⟨v0,rfl⟩,h2⟩;have hend:=run_endLoop (P:=prog) h2.L (by simp[iM]);have hS3:=Mc (r':={ iM fn (.slice A cs.length cap) (.slice A2 ws.length j) (.func (.func 61) #[] #[.pointer (some ⟨w.heap.size+1+1+1+1,0,none⟩)]) w.heap.size W0.heap.size .ready none with state :=.exhausted }) h2.S h2.L Ω Ω;refine⟨none,_,hend, ?_⟩;have hs3:w.heap.size+5≤(W2.putObj (W0.heap.size+1) (.loop { iM fn (.slice A cs.length cap) (.slice A2 ws.length j) (.func (.func 61) #[] #[.pointer (some ⟨w.heap.size+1+1+1+1,0,none⟩)]) w.heap.size W0.heap.size .ready none with state :=.exhausted })).heap.size:=by have:=(δ.1 h2.S.K).1;have h3:=(grownBy_putObj_a W2 (W0.heap.size+1) (.loop { iM fn (.slice A cs.length cap) (.slice A2 ws.length j) (.func (.func 61) #[] #[.pointer (some ⟨w.heap.size+1+1+1+1,0,none⟩)]) w.heap.size W0.heap.size .ready none with state :=.exhausted })).size;omega
  generalize W2.putObj (W0.heap.size+1) _=W3 at hS3 hs3⊢;have T:=KqS.of hS3 hs3;clear h2 hend hM hrun hb01 hcs0 hb0 hbx hS3;have hD:W0.heap.size<W3.heap.size:=T.dS;obtain⟨D,hDe⟩:∃D,D=W0.heap.size:=⟨_,rfl⟩;rw[←hDe]at T hD⊢;obtain⟨S,hSe⟩:∃S,S=W3.heap.size:=⟨_,rfl⟩;rw[←hSe]at T hD;have hq4:=T.quiet (ω W3 (.map #[] 0) none);have hk4:bN (W3.alloc (.map #[] 0)) S 0 (.map []):=by rw[hSe];exact World.ownsMap_made W3 prog 3 _
  have hs4:S+1≤(W3.alloc (.map #[] 0)).heap.size:=by simp;omega
  gi_wp2
  rw[←hSe];generalize W3.alloc (.map #[] 0)=W4 at hq4 hk4 hs4⊢;have hDA:Aside (D=w.heap.size+5):=by rw[hDe];exact hs0
  clear T hSe hs3 hDe hs0
  gi_loopw [9,11,57] (λv _ i wr=>WtL w D S cs.flatten ws v i wr) (λ_ _ i _=>ws.length-(Go.RowKit.intOf i).toNat)
  case atStart=>exact⟨0,k_ _,rfl,hq4,hs4,hk4,V_ _ _ _ _⟩
  case round=>
   clear hq4 hk4 hs4;obtain⟨k,hk,rfl,T,hs,hkp,f⟩:=hrel;have hwn:=R.wn;by_cases hlt:k<ws.length
   ·obtain⟨wb,wo,rfl,hwb,hwc⟩:=hws Ω;have hwx:wr.cell? ⟨wb,wo+k,none⟩=some (.int .i64 ws[k]):=(T.below.cell (p:=⟨wb,wo+k,none⟩) hwb).trans (hwc k hlt);have hc1:=(cell_of_box_a T.c1).1;obtain⟨n1,J,ho1,hd1⟩:=T.defs;have hlk:=eS wr ho1 hd1 ws[k] (R.ww _ (a_ hlt));have hwl:=ZF cs.flatten ws k;by_cases hdk:fb cs.flatten ws[k]=true
    ·rw[hdk]at hlk;have hnew:=aeD wr ws[k] (R.ww _ (a_ hlt))
     gi_wp2_with (first
      |(gi_at_builtin;refine jD rfl _ _ rfl (S+1) wr.heap.size u9 (.slice (some ⟨wr.heap.size,0,none⟩) 1 1) (xo cs.flatten ws k) [ws[k]] rfl rfl (f.alloc _) hnew Ξ Ξ ?_;intro v' w3 hown' U)
      |gi_in)
     have hg0:=ω wr (.cells #[.int .i64 ws[k]] 3) none;have hq1:=T.quiet hg0;have hrr:∀r,u9.ownBlock=some r→S+1≤r:=λr e=>(f.lt r e).1;have hq3:=hq1.kept U (λr e=>by have:=hrr r e;omega);have hk3:=(hkp.kept hg0 Ψ).kept U (λe=>by have:=hrr S e.symm;omega)
     go_roundw
     case rel =>refine⟨k+1,Ω,Ψ,hq3,ν hs (ν hg0.size U.size),hk3, ?_⟩;rw[EJ _ _ _ hlt,G' hdk];exact hown'
     case measure=>simp[Go.RowKit.intOf];omega
    ·have hdk:fb cs.flatten ws[k]=false:=by simpa using hdk
     rw[hdk]at hlk
     gi_wp2
     go_roundw
     case rel =>refine⟨k+1,Ω,Ψ,T,hs,hkp, ?_⟩;rw[EJ _ _ _ hlt,hdk];exact f
     case measure=>simp[Go.RowKit.intOf];omega
   ·obtain rfl:k=ws.length:=Ω
    have hw0:xo cs.flatten ws ws.length=ws.filter (fb cs.flatten):=by unfold xo;rw[S_]
    rw[hw0]at f
    gi_wp2
    gi_loopw [9,12] (λv _ wr=>∃k,KtR w D S cs.flatten ws k v wr) (λv _ wr=>uy λk=>KtR w D S cs.flatten ws k v wr)
    case atStart =>refine⟨_,_,_,0,_,rfl,WkI.start _ _,λx hx=>R.ww x (v_.1 hx).1,T.eq λx=>by unfold xk;rw[Θ Ψ],hs,hkp,iV.nil,Rq.nil, ?_,f⟩;have h1:=abr cs.flatten (λ_=>false);have h2:=F_ (fb cs.flatten) ws;have:=R.t;omega
    case round=>
     clear f hkp hs T;have hk0:=PG hrel;obtain⟨k0,hk0e⟩:∃k0,k0=uy (λk=>KtR w D S cs.flatten ws k u9 wr):=⟨_,rfl⟩;rw[←hk0e]at hk0;obtain⟨wk,kp,n3,D3,hk,hwi,hwf,T,hs,ho3,hd3,hh3,hn3,f⟩:=hk0;obtain rfl|⟨xs,x,rfl⟩:=List.eq_nil_or_concat wk
     ·obtain⟨VA,vc,rfl⟩:=Js f;simp only[y?]at f;have hlo:=T.lo;have hbl:=ho3.lt;have hmax:Maps.size D3≤n3:=ho3.size_le;have hseq:=PN wr S n3 D3 ho3;have cS:=RV 7 Ω wr.heap.size (wr.alloc (.cells #[.map (some S)] 63)) (λss=>ss.Perm (intKeys D3)) (Maps.size D3) (by unfold maxLen;omega) Ω hseq
      gi_wp2
      refine⟨apj,(abw 7 (some S) wr).mono ?_⟩;rintro e w' ⟨rfl,rfl⟩
      gi_wp2
      refine⟨apj,cS.mono ?_⟩;rintro e w' ⟨v,ss,rfl,hSS,hrowS,hb⟩
      gi_wp2
      have hDe:=hDA.out;have hK0:=T.K;have hDlt:D<wr.heap.size:=(δ.1 hK0).1;have hb0:Below w.heap.size wr (wr.alloc (.cells #[.map (some S)] 63)):=(Below.refl _ wr).alloc T.below.size _;have hK1:w'.heap[D]? = some (.deferred (some [])):=(hb.block D Ξ).trans ((Below.heap_alloc wr _ D hDlt).trans hK0);have hbw:Below w.heap.size w w':=(T.below.trans hb0).trans (hb.mono Ξ);rw[hDe]at hK1;obtain⟨hnd,hmem⟩:=PL ho3 hh3;have hasc:=Rh hSS hnd (λx=>(hmem x).trans (hwi.done x));refine⟨Ψ,.inl ⟨_,_,rfl,run_takeDeferred hK1, ?_⟩⟩;refine⟨_,results_tmp rfl _ _ _,v,_,rfl,hasc,hbw.grown (grownBy_putObj_a _ _ _) hbw.size (λk e=>by injection e with e;omega), ?_⟩;rw[akG];exact(ownsRow_base_a hrowS Ξ).kept (grownBy_putObj_a _ _ _) (ownsRow_ne_a hrowS hK1 (λcur e=>by cases e))
     ·rw[List.concat_eq_append]at hk hwi hwf f;rw[N',amc]at hk f;have hlen:xs.length≤1000000:=Ω
      obtain⟨g,vc,rfl,hgb,hvc⟩:∃g c,u9 = .slice (some ⟨g,0,none⟩) (xs.length+1) c∧S+1≤g∧xs.length+1≤c:=by
       rcases f.2 with⟨_,h0⟩|⟨g,cap,cur,e,hb,_,h1,_⟩
       ·omega
       ·exact⟨g,cap,e,hb,h1⟩
      have hcl:wr.cell? ⟨g,xs.length,none⟩=some (.int .i64 x):=by rw[f.cellAt xs.length Ω];simp[intsI]
      have hxw:(Lit.int .i64 x).wf=true:=hwf x Ψ;have hrow1:=aeC (l:=xs++[x]) (by simpa using f);rw[List.dropLast_concat,N',amc,Nat.add_sub_cancel]at hrow1;have hc2:=(cell_of_box_a T.c2).1;obtain⟨n2,D2,hn2,ho2,hd2,hrb⟩:=T.ins;have hlo:=T.lo;have ht:=R.t;have hin:=abK cs.flatten kp x;have hk1:xs.length+1+C8 cs.flatten kp=uy (λk=>KtR w D S cs.flatten ws k (Value.slice (some { block:=g,off:=0 }) (xs.length+1) vc) wr):=by rw[←hk,←hk0e]
      have hkA:Aside (xs.length+1+C8 cs.flatten kp=uy (λk=>KtR w D S cs.flatten ws k (Value.slice (some { block:=g,off:=0 }) (xs.length+1) vc) wr)):=hk1;clear hk1 hk0e
      gi_wp2_with (first
       |(gi_at_mapUpdate;refine cx _ rfl _ _ _ rfl S n3 D3 rfl ho3 hd3 (by unfold maxLen;omega) x rfl rfl hxw ?_;intro w3 ho4 hd4 U
         have hq3:=T.kept U (λr e=>by injection e with e;omega);have hc3:=(cell_of_box_a hq3.c2).1;have hrow3:=hrow1.kept U (.inr (λe=>by have e:some g=some S:=e;injection e with e;omega));obtain⟨ho5,hrb5⟩:=Dh ho2 hrb U (λe=>by injection e with e;omega) (λr e=>by injection e with e;omega);have hs3:=U.size)
       |(gi_at_lookup;refine wpListIn_lookup_groups _ rfl _ _ 64 rfl 3 23 3 .i64 Mb RI (Zx _) (w.heap.size+1+1) (w.heap.size+1) n2 D2 rfl ho5 (by unfold maxLen;omega) _ _ rfl (keyOf_int_mk KZ hxw) ?_;intro u zs hat hoi hzl hback
         have hzs:=hd2.zs hat hoi)
       |(gi_at_builtin;refine jD rfl _ _ rfl (S+1) (w.heap.size+1+1) (.slice (some ⟨g,0,none⟩) xs.length vc) u xs zs rfl rfl hrow3 hoi (by rw[hzs];omega) Ω ?_;intro v' w4 hown4 hg4
         have hq4:=hq3.kept hg4 (λr e=>by have e:some g=some r:=e;injection e with e;omega);have hc4:=(cell_of_box_a hq4.c2).1;have ho6:=ho4.kept hg4 (λe=>by have e:some S=some g:=e;injection e with e;omega);have hs4:=hg4.size)
       |(gi_at_delete;refine xe rfl _ _ rfl hq4 x hxw rfl rfl ?_;intro w5 hq5 hg5)
       |gi_in)
      subst hzs;have hlp:=Yh cs.flatten kp x;have hrow5:=hown4.kept hg5 (by
       cases e:v'.ownBlock with
       |none=>exact .inl rfl
       |some gg=>exact .inr λe'=>by injection e' with e';have:=(hown4.lt gg e).1;omega)
      have ho7:=ho6.kept hg5 (λe=>by injection e with e;omega);have hnext:KtR w D S cs.flatten ws ((xs++xk cs.flatten kp x).length+C8 cs.flatten λy=>y == x||kp y) v' w5:=by
       refine⟨_,_,n3+1,_,rfl,hwi.pop1,λy hy=>?_,hq5.eq λq=>abI _ _ _ q, ?_,ho7,hd4,hh3.put hd3.1 x (Mb.key (keyOf_int_mk KZ hxw)) _, ?_,hrow5⟩
       ·obtain h|h:=χ.1 hy
        ·exact hwf y (by simp[h])
        ·obtain⟨z,hz,rfl⟩:=abJ h;exact(R.wf z hz).1
       ·have:=hg5.size;omega
       ·rw[N'];omega
      simp only[Act.put]
      go_roundw
      case rel=>exact⟨_,hnext⟩
      case measure =>refine D? (Yj hnext) ?_;have hk1:=hkA.out;rw[N'];omega
attribute [local go_sem] Oper.semAt_some
def fM (pre:List WK)(x:Int):Bool:=pre.any λy=>y.id == x&&(y.fd == 1&&y.nn == 5)
def fO (K:Int→Bool)(pre:List WK)(x:Int):Bool:=pre.any λy=>y.rf == x&&(y.fd == 4&&(K y.id && !(y.rf == 0)))
def yp (pre:List WK)(y:WK)(x:Int):fM (pre++[y]) x=(fM pre x||(y.id == x&&(y.fd == 1&&y.nn == 5))):=by simp[fM]
def yx (K:Int→Bool)(pre:List WK)(y:WK)(x:Int):fO K (pre++[y]) x=(fO K pre x||(y.rf == x&&(y.fd == 4&&(K y.id && !(y.rf == 0))))):=by simp[fO]
structure KEnv (W:World)(m5 b5 m8 m9 b8 b9:Nat)(n:Nat)(K N M:Int→Bool):Prop where
 c5:W.heap[b5]? = some (.cells #[.map (some m5)] 63 (0,0))
 c8:W.heap[b8]? = some (.cells #[.map (some m8)] 63 (0,0))
 c9:W.heap[b9]? = some (.cells #[.map (some m9)] 63 (0,0))
 s5:∃k D,bN W m5 k D∧iV D K
 s8:∃k D,k≤n∧bN W m8 k D∧iV D N
 s9:∃k D,k≤n∧bN W m9 k D∧iV D M
def KEnv.kept {W C:World}{p R l j P J n:Nat}{K N M:Int→Bool}{row:Option Nat}(h:KEnv W p R l j P J n K N M)(g:W.grownBy C row)(f:∀r,row=some r→r≠p∧r≠R∧r≠l∧r≠j∧r≠P∧r≠J):KEnv C p R l j P J n K N M:=by
 have lt:∀{k:Nat} {o:Obj},W.heap[k]? = some o→k<W.heap.size:=λh=>(δ.1 h).1;obtain⟨k5,D5,o5,d5⟩:=h.s5;obtain⟨k8,D8,n8,U,d8⟩:=h.s8;obtain⟨k9,D9,n9,T,d9⟩:=h.s9;exact⟨(g.block _ (lt h.c5) λe=>(f _ e.symm).2.1 rfl).trans h.c5,(g.block _ (lt h.c8) λe=>(f _ e.symm).2.2.2.2.1 rfl).trans h.c8,(g.block _ (lt h.c9) λe=>(f _ e.symm).2.2.2.2.2 rfl).trans h.c9,
  ⟨k5,D5,o5.kept g λe=>(f _ e.symm).1 rfl,d5⟩,⟨k8,D8,n8,U.kept g λe=>(f _ e.symm).2.2.1 rfl,d8⟩,⟨k9,D9,n9,T.kept g λe=>(f _ e.symm).2.2.2.1 rfl,d9⟩⟩
def KEnv.quiet {j J g f p l:Nat}{N M:Int→Bool}(h:KEnv W j J g f p l n K N M)(P:W.grownBy C none):KEnv C j J g f p l n K N M:=h.kept P λr e=>by cases e
def KEnv.eq {r P p l J C j :Nat}{N M f g :Int→Bool}(h:KEnv W r P p l J C n K N M)(hn:n≤j)(eN:∀x,N x=f x)(eM:∀x,M x=g x):KEnv W r P p l J C j K f g:=by obtain rfl:N=f:=funext eN;obtain rfl:M=g:=funext eM;obtain⟨k8,D8,n8,T,d8⟩:=h.s8;obtain⟨U,D9,n9,R,d9⟩:=h.s9;exact⟨h.c5,h.c8,h.c9,h.s5,⟨k8,D8,Ω,T,d8⟩,⟨U,D9,Ω,R,d9⟩⟩
def qM (K N M:Int→Bool)(x:WK):Bool :=
 if x.fd=1∨x.fd=2 then K x.id||(!N x.id||M x.id)else if x.fd=3 then K x.id || !N x.id else if x.fd=4 then K x.id||M x.id else K x.id
set_option maxRecDepth 100000 in
set_option maxHeartbeats 1600000 in
def TD (W:World)(m5 b5 m8 m9 b8 b9 n:Nat)(K N M:Int→Bool)(h:KEnv W m5 b5 m8 m9 b8 b9 n K N M)(x:WK)(T:(Lit.int .i64 x.id).wf=true) :
  Calls prog 65 #[Cq x,.pointer (some ⟨b5,0,none⟩),.pointer (some ⟨b8,0,none⟩),.pointer (some ⟨b9,0,none⟩)] W λe w'=>e = .returned (.bool (qM K N M x))∧w'=W.alloc (.cells #[.int .i64 x.id,.int .i64 x.fd,.int .i64 x.nn,.bool x.fl,.string x.tx,.int .i64 x.rf] 44):=by
 have j:=h.quiet (ω W (.cells #[.int .i64 x.id,.int .i64 x.fd,.int .i64 x.nn,.bool x.fl,.string x.tx,.int .i64 x.rf] 44) none);have C:=World.alloc_heap_new W (.cells #[.int .i64 x.id,.int .i64 x.fd,.int .i64 x.nn,.bool x.fl,.string x.tx,.int .i64 x.rf] 44);obtain⟨l,p⟩:∃l,W.alloc (.cells #[.int .i64 x.id,.int .i64 x.fd,.int .i64 x.nn,.bool x.fl,.string x.tx,.int .i64 x.rf] 44)=l:=⟨_,rfl⟩;rw[p]at j C;have g:Aside (W.alloc (.cells #[.int .i64 x.id,.int .i64 x.fd,.int .i64 x.nn,.bool x.fl,.string x.tx,.int .i64 x.rf] 44)=l):=p;clear p;have c5:=(cell_of_box_a j.c5).1;have c8:=(cell_of_box_a j.c8).1;have c9:=(cell_of_box_a j.c9).1;have d0:l.cell? ⟨W.heap.size,0,none⟩=some (.int .i64 x.id):=by simp[World.cell?,C]
 have d1:l.cell? ⟨W.heap.size,1,none⟩=some (.int .i64 x.fd):=by simp[World.cell?,C]
 obtain⟨k5,D5,o5,s5⟩:=j.s5;obtain⟨k8,D8,_,o8,s8⟩:=j.s8;obtain⟨k9,D9,_,U,s9⟩:=j.s9;have l5:=eS l o5 s5 x.id T;have l8:=eS l o8 s8 x.id T;have l9:=eS l U s9 x.id T;unfold Cq
 go_enter func65,ntmps65
 clear j C h o5 s5 o8 s8 U s9
 go_upto_region 1 with fail
 rw[g.out];generalize hK:K x.id=kb at l5;generalize hN:N x.id=nb at l8;generalize hM:M x.id=mb at l9;have f:qM K N M x=if x.fd=1∨x.fd=2 then kb||(!nb||mb)else if x.fd=3 then kb || !nb else if x.fd=4 then kb||mb else kb:=by unfold qM;rw[hK,hN,hM]
 have f:Aside (qM K N M x=if x.fd=1∨x.fd=2 then kb||(!nb||mb)else if x.fd=3 then kb || !nb else if x.fd=4 then kb||mb else kb):=f;clear hK hN hM;by_cases R:x.fd=1
 ·have b1:(x.fd == 1)=true:=M_.2 R;have f:Aside (qM K N M x=(kb||(!nb||mb))):=by have:=f.out;rw[G' (.inl R)]at this;exact this
  clear R;cases kb <;> cases nb <;> cases mb <;> (go_wp2;go_ret;exact⟨by rw[f.out];rfl,g.out.symm⟩)
 have b1:(x.fd == 1)=false:=P'.2 R;by_cases P:x.fd=2
 ·have b2:(x.fd == 2)=true:=M_.2 P;have f:Aside (qM K N M x=(kb||(!nb||mb))):=by have:=f.out;rw[G' (.inr P)]at this;exact this
  clear P;cases kb <;> cases nb <;> cases mb <;> (go_wp2;go_ret;exact⟨by rw[f.out];rfl,g.out.symm⟩)
 have b2:(x.fd == 2)=false:=P'.2 P;by_cases J:x.fd=3
 ·have b3:(x.fd == 3)=true:=M_.2 J;have f:Aside (qM K N M x=(kb || !nb)):=by have:=f.out;rw[Θ Ω,G' J]at this;exact this
  clear J;cases kb <;> cases nb <;> (go_wp2;go_ret;exact⟨by rw[f.out];rfl,g.out.symm⟩)
 have b3:(x.fd == 3)=false:=P'.2 J;by_cases r:x.fd=4
 ·have b4:(x.fd == 4)=true:=M_.2 r;have f:Aside (qM K N M x=(kb||mb)):=by have:=f.out;rw[Θ Ω,Θ Ω,G' r]at this;exact this
  clear r;cases kb <;> cases mb <;> (go_wp2;go_ret;exact⟨by rw[f.out];rfl,g.out.symm⟩)
 have b4:(x.fd == 4)=false:=P'.2 r;have f:Aside (qM K N M x=kb):=by have:=f.out;rw[Θ Ω,Θ Ω,Θ r]at this;exact this
 go_wp2
 go_ret
 exact⟨by rw[f.out];rfl,g.out.symm⟩
attribute [local go_sem] Oper.semAt_some
def keT (u:Nat→Value)(f g j:Value)(B S:Nat):Array Value :=#[f,g,undef,undef,.nilFunc,.pointer (some ⟨B+1,0,none⟩),undef,u 7,.pointer (some ⟨S+1+1,0,none⟩),.pointer (some ⟨S+1+1+1,0,none⟩),undef,.map (some B),f,g,u 14,u 15,u 16,u 17,u 18,u 19,u 20,u 21,u 22,.map (some S),.map (some (S+1)),f,j,undef,undef,undef,undef,undef,undef,undef,undef,undef,undef,undef,undef,undef,undef,undef,undef,undef,undef,undef,undef,undef,undef,undef,undef,undef,undef,undef,undef,undef,undef,undef,undef,undef]
def aie (u:Nat→Value)(f g l j:Value)(B S:Nat):Array Value :=#[f,g,undef,undef,.nilFunc,.pointer (some ⟨B+1,0,none⟩),undef,u 7,.pointer (some ⟨S+1+1,0,none⟩),.pointer (some ⟨S+1+1+1,0,none⟩),undef,.map (some B),f,g,u 14,u 15,u 16,u 17,u 18,u 19,u 20,u 21,u 22,.map (some S),.map (some (S+1)),f,l,j,undef,undef,undef,undef,undef,undef,undef,undef,undef,undef,undef,undef,undef,undef,undef,undef,undef,undef,undef,undef,undef,undef,undef,undef,undef,undef,undef,undef,undef,undef,undef,undef]
def kaA:Option Code→Code
 |some (.seq _ (.seq _ (.seq _ (.seq _ (.seq (.seq _ (.block _ (.rangeFunc _ _ a _))) _)))))=>a
 |_=>.skip
def kaB:Option Code→Code
 |some (.seq _ (.seq _ (.seq _ (.seq _ (.seq (.seq _ (.block _ (.rangeFunc _ _ _ b))) _)))))=>b
 |_=>.skip
def kG (u:Nat→Value)(fn:FuncId)(j g l:Value)(B S D:Nat)(p:LoopState)(f:Option Code):Loop :=
 { state:=p,pending:=f,fn,tmps:=keT u j g l B S,params :=#[27],assign:=kaA f34.body,body:=kaB f34.body,defers:=D }
structure KeS (w:World)(S D:Nat)(K:Int→Bool)(pre:List WK)(W:World):Prop where
 below:Below w.heap.size w W
 sz:S+4≤W.heap.size
 lo:w.heap.size+2≤S
 dk:W.heap[D]? = some (.deferred (some []))
 env:KEnv W w.heap.size (w.heap.size+1) S (S+1) (S+1+1) (S+1+1+1) pre.length K (fM pre) (fO K pre)
def KeS.kept {w W C:World}{S D:Nat}{K:Int→Bool}{pre:List WK}{row:Option Nat}(h:KeS w S D K pre W)(f:W.grownBy C row)(g:∀r,row=some r→S+4≤r∧r≠D):KeS w S D K pre C:=by
 have j:=h.lo;exact⟨h.below.grown f h.below.size λk e=>by have:=(g k e).1;omega,ν h.sz f.size,h.lo,(f.block D (δ.1 h.dk).1 λe=>(g D e.symm).2 rfl).trans h.dk,
  h.env.kept f λr e=>by have:=(g r e).1;omega⟩
def KeS.quiet (h:KeS w S D K pre W)(f:W.grownBy C none):KeS w S D K pre C:=h.kept f λr e=>by cases e
structure KeAt (u:Nat→Value)(w:World)(fn:FuncId)(va vb sv:Value)(l S D:Nat)(K:Int→Bool)(pre:List WK)(W:World):Prop where
 st:KeS w S D K pre W
 lp:W.heap[l]? = some (.loop (kG u fn va vb sv w.heap.size S D .ready none))
def KeAt.quiet {u:Nat→Value}{w W C:World}{fn:FuncId}{g f j:Value}{l S D:Nat}{K:Int→Bool}{pre:List WK}(h:KeAt u w fn g f j l S D K pre W)(p:W.grownBy C none):KeAt u w fn g f j l S D K pre C :=
 ⟨h.st.quiet p,(p.block l (δ.1 h.lp).1 Ψ).trans h.lp⟩
def Mf {l:Nat}{r':Loop}(h:KeS w S D K pre W)(g:S+4≤l)(f:D≠l):KeS w S D K pre (W.putObj l (.loop r')) :=
 h.kept (grownBy_putObj_a _ _ _) λr e=>by cases e;exact⟨g,λe=>f e.symm⟩
def aid {u:Nat→Value}{fn:FuncId}{g f j:Value}{l:Nat}(h:KeS w S D K pre W)(C:W.heap[l]? = some (.loop { kG u fn g f j w.heap.size S D .ready none with state :=.busy }))(r:S+4≤l)(p:D≠l) :
  KeAt u w fn g f j l S D K pre (W.putObj l (.loop { { kG u fn g f j w.heap.size S D .ready none with state :=.busy }with state:=if (none:Option Code).isNone then .ready else .done,pending:=none })) :=
 ⟨Mf h r p,World.putObj_heap_same (δ.1 C).1⟩
def KeS.idle (h:KeS w S D K pre W)(g:(y.fd == 1&&y.nn == 5)=false)(f:(y.fd == 4&&(K y.id && !(y.rf == 0)))=false):KeS w S D K (pre++[y]) W :=
 ⟨h.below,h.sz,h.lo,h.dk,h.env.eq Ψ (λx=>by rw[yp,g];simp) (λx=>by rw[yx,f];simp)⟩
def UM (x y:Int):(y == x)=(x == y):=by
 cases e:(x == y)with
 |true=>rw[M_.1 e];simp
 |false=>exact P'.2 λf=>(P'.1 e) f.symm
def KeS.node (h:KeS w S D K pre W)(g:(y.fd == 1&&y.nn == 5)=true)(hn:n≤pre.length)(f:W.grownBy C (some S))(R:bN C S (n+1) J)(P:iV J (λx=>x == y.id||fM pre x))(hD:S+4≤D):KeS w S D K (pre++[y]) C:=by
 have T:=h.lo;have hf:(y.fd == 4)=false:=by rw[η]at g;rw[M_.1 g.1];rfl
 have lt:∀{k:Nat} {o:Obj},W.heap[k]? = some o→k<W.heap.size:=λh=>(δ.1 h).1;have ne:∀k,k≠S→some k≠some S:=λk U e=>U (by injection e);obtain⟨r,D5,l,d5⟩:=h.env.s5;obtain⟨p,D9,n9,j,d9⟩:=h.env.s9;refine⟨h.below.grown f h.below.size λk e=>by injection e with e;omega,ν h.sz f.size,h.lo,(f.block D (lt h.dk) (ne D Ω)).trans h.dk,
  ⟨(f.block _ (lt h.env.c5) (ne _ Ω)).trans h.env.c5,(f.block _ (lt h.env.c8) (ne _ Ω)).trans h.env.c8,(f.block _ (lt h.env.c9) (ne _ Ω)).trans h.env.c9,⟨r,D5,l.kept f (ne _ Ω),d5⟩,
   ⟨n+1,J,by simp;omega,R,P.eq λx=>?_⟩,⟨p,D9,by simp;omega,j.kept f (ne _ Ω),d9.eq λx=>?_⟩⟩⟩
 ·rw[yp,g,UM x y.id];simp[ama]
 ·rw[yx,hf];simp
def KeS.ref (h:KeS w S D K pre W)(g:(y.fd == 4&&(K y.id && !(y.rf == 0)))=true)(hn:n≤pre.length)(f:W.grownBy C (some (S+1)))(R:bN C (S+1) (n+1) J)(P:iV J (λx=>x == y.rf||fO K pre x))(hD:S+4≤D):KeS w S D K (pre++[y]) C:=by
 have T:=h.lo;have hf:(y.fd == 1)=false:=by rw[η]at g;rw[M_.1 g.1];rfl
 have lt:∀{k:Nat} {o:Obj},W.heap[k]? = some o→k<W.heap.size:=λh=>(δ.1 h).1;have ne:∀k,k≠S+1→some k≠some (S+1):=λk U e=>U (by injection e);obtain⟨r,D5,l,d5⟩:=h.env.s5;obtain⟨p,D8,n8,j,d8⟩:=h.env.s8;refine⟨h.below.grown f h.below.size λk e=>by injection e with e;omega,ν h.sz f.size,h.lo,(f.block D (lt h.dk) (ne D Ω)).trans h.dk,
  ⟨(f.block _ (lt h.env.c5) (ne _ Ω)).trans h.env.c5,(f.block _ (lt h.env.c8) (ne _ Ω)).trans h.env.c8,(f.block _ (lt h.env.c9) (ne _ Ω)).trans h.env.c9,⟨r,D5,l.kept f (ne _ Ω),d5⟩,
   ⟨p,D8,by simp;omega,j.kept f (ne _ Ω),d8.eq λx=>?_⟩,⟨n+1,J,by simp;omega,R,P.eq λx=>?_⟩⟩⟩
 ·rw[yp,hf];simp
 ·rw[yx,g,UM x y.rf];simp[ama]
set_option maxRecDepth 100000 in
set_option maxHeartbeats 1600000 in
def afo (u:Nat→Value)(m:Nat)(w:World)(fn:FuncId)(va U sv:Value)(l S D:Nat)(K:Int→Bool)(hl:S+4≤l)(hD:S+4≤D)(hDl:D≠l)(pre:List WK)(x:WK)(W:World)(h:KeAt u w fn va U sv l S D K pre W)(hlen:pre.length<1048576)(hi:(Lit.int .i64 x.id).wf=true)(hr:(Lit.int .i64 x.rf).wf=true) :
  YieldAt Fence.wide m prog l #[Cq x] W λe C=>e = .returned (.bool true)∧KeAt u w fn va U sv l S D K (pre++[x]) C∧Below w.heap.size W C:=by
 refine⟨fn,aie u va U sv (Cq x) w.heap.size S,kaA f34.body,kaB f34.body,by simpa[kG,keT,aie]using run_yield (P:=prog) (args :=#[Cq x]) h.lp rfl,roundIn_of_wpIn trivial ?_⟩;have hS:=h.st;have hlL:l<W.heap.size:=(δ.1 h.lp).1;have hloS:=hS.lo;unfold aie f34 kaA kaB;dsimp only;unfold Cq
 gi_wp2_with gi_round_op_a
 have hb1:Below w.heap.size W (W.alloc (.cells #[.int .i64 x.id,.int .i64 x.fd,.int .i64 x.nn,.bool x.fl,.string x.tx,.int .i64 x.rf] 44)):=(Below.refl _ W).alloc hS.below.size _;have hS1:=hS.quiet (ω W (.cells #[.int .i64 x.id,.int .i64 x.fd,.int .i64 x.nn,.bool x.fl,.string x.tx,.int .i64 x.rf] 44) none);have hL1:=(Below.heap_alloc W (.cells #[.int .i64 x.id,.int .i64 x.fd,.int .i64 x.nn,.bool x.fl,.string x.tx,.int .i64 x.rf] 44) l hlL).trans h.lp;have hx1:=World.alloc_heap_new W (.cells #[.int .i64 x.id,.int .i64 x.fd,.int .i64 x.nn,.bool x.fl,.string x.tx,.int .i64 x.rf] 44);have hs1:(W.alloc (.cells #[.int .i64 x.id,.int .i64 x.fd,.int .i64 x.nn,.bool x.fl,.string x.tx,.int .i64 x.rf] 44)).heap.size=W.heap.size+1:=by simp
 generalize W.alloc (.cells #[.int .i64 x.id,.int .i64 x.fd,.int .i64 x.nn,.bool x.fl,.string x.tx,.int .i64 x.rf] 44)=WA at hb1 hS1 hL1 hx1 hs1⊢;have hbr:=run_beginRound (P:=prog) hL1 rfl;refine⟨_,hbr, ?_⟩;have f:=Mf (r':={ kG u fn va U sv w.heap.size S D .ready none with state :=.busy }) hS1 hl hDl;have j:(WA.putObj l (.loop { kG u fn va U sv w.heap.size S D .ready none with state :=.busy })).heap[l]? = _:=World.putObj_heap_same Ω;have g:(WA.putObj l (.loop { kG u fn va U sv w.heap.size S D .ready none with state :=.busy })).heap[W.heap.size]? = _:=(World.putObj_heap_other Ω).trans hx1;have J:Below w.heap.size W (WA.putObj l (.loop { kG u fn va U sv w.heap.size S D .ready none with state :=.busy })):=hb1.grown (grownBy_putObj_a _ _ _) hS1.below.size (λk e=>by cases e;omega);generalize hr0:({ kG u fn va U sv w.heap.size S D .ready none with state :=.busy }:Loop)=rr at *;generalize WA.putObj l (.loop rr)=W2 at f j g J⊢;clear hbr hS1 hL1 hx1 hb1 hS h;have R:∀W4,KeS w S D K (pre++[x]) W4→W4.heap[l]? = some (.loop rr)→Below w.heap.size W W4→∀a,roundPost prog l (λe C=>e=Ending.returned (.bool true)∧KeAt u w fn va U sv l S D K (pre++[x]) C∧Below w.heap.size W C) .normal a W4:=λW4 h4 hL4 hb4 a=>by subst hr0;exact⟨_,_,run_endRound none hL4,rfl,aid h4 hL4 hl hDl,hb4.grown (grownBy_putObj_a _ _ _) h4.below.size (λk e=>by cases e;omega)⟩
 have hc5:=(cell_of_box_a f.env.c5).1;have hc8:=(cell_of_box_a f.env.c8).1;have hc9:=(cell_of_box_a f.env.c9).1;have d0:W2.cell? ⟨W.heap.size,0,none⟩=some (.int .i64 x.id):=by simp[World.cell?,g]
 have d1:W2.cell? ⟨W.heap.size,1,none⟩=some (.int .i64 x.fd):=by simp[World.cell?,g]
 have d2:W2.cell? ⟨W.heap.size,2,none⟩=some (.int .i64 x.nn):=by simp[World.cell?,g]
 have d5:W2.cell? ⟨W.heap.size,5,none⟩=some (.int .i64 x.rf):=by simp[World.cell?,g]
 obtain⟨n5,D5,o5,s5⟩:=f.env.s5;obtain⟨n8,D8,k8,o8,s8⟩:=f.env.s8;obtain⟨n9,D9,k9,o9,s9⟩:=f.env.s9;have hlk:=eS W2 o5 s5 x.id hi;have done:∀W3 r,W2.grownBy W3 (some r)→r≠l→w.heap.size≤r→W3.heap[l]? = some (.loop rr)∧Below w.heap.size W W3:=λW3 r hg hrl hrB=>
  ⟨(hg.block l (δ.1 j).1 (λe=>hrl (by injection e with e;exact e.symm))).trans j,J.grown hg f.below.size (λk e=>by injection e with e;omega)⟩
 by_cases e1:x.fd=1
 ·have b1:(x.fd == 1)=true:=M_.2 e1;have b4:(x.fd == 4)=false:=P'.2 Ω;by_cases e2:x.nn=5
  ·have b2:(x.nn == 5)=true:=M_.2 e2
   gi_wp2_with (first
    |(gi_at_mapUpdate;refine cx _ rfl _ _ _ rfl S n8 D8 rfl o8 s8 (by unfold maxLen;omega) x.id rfl rfl hi ?_;intro w3 ho3 hd3 p
      have hS3:=f.node (by rw[b1,b2];rfl) k8 p ho3 hd3 hD;have hx3:=(p.block _ (δ.1 g).1 (λe=>by injection e with e;omega)).trans g;have f1:w3.cell? ⟨W.heap.size,1,none⟩=some (.int .i64 x.fd):=by simp[World.cell?,hx3])
    |gi_round_op_a)
   obtain⟨q1,q2⟩:=done w3 S p Ω Ω;exact R w3 hS3 q1 q2 _
  ·have b2:(x.nn == 5)=false:=P'.2 e2
   gi_wp2_with gi_round_op_a
   exact R W2 (f.idle (by rw[b1,b2];rfl) (by rw[b4];rfl)) j J _
 ·have b1:(x.fd == 1)=false:=P'.2 e1;by_cases e2:x.fd=4
  ·have b4:(x.fd == 4)=true:=M_.2 e2;cases T:K x.id with
   |false=>
    rw[T]at hlk
    gi_wp2_with gi_round_op_a
    exact R W2 (f.idle (by rw[b1];rfl) (by rw[b4,T];rfl)) j J _
   |true=>
    rw[T]at hlk;by_cases e3:x.rf=0
    ·have b3:(x.rf == 0)=true:=M_.2 e3
     gi_wp2_with gi_round_op_a
     exact R W2 (f.idle (by rw[b1];rfl) (by rw[b4,T,b3];rfl)) j J _
    ·have b3:(x.rf == 0)=false:=P'.2 e3
     gi_wp2_with (first
      |(gi_at_mapUpdate;refine cx _ rfl _ _ _ rfl (S+1) n9 D9 rfl o9 s9 (by unfold maxLen;omega) x.rf rfl rfl hr ?_;intro w3 ho3 hd3 p)
      |gi_round_op_a)
     obtain⟨q1,q2⟩:=done w3 (S+1) p Ω Ω;exact R w3 (f.ref (by rw[b4,T,b3];rfl) k9 p ho3 hd3 hD) q1 q2 _
  ·have b4:(x.fd == 4)=false:=P'.2 e2
   gi_wp2_with gi_round_op_a
   exact R W2 (f.idle (by rw[b1];rfl) (by rw[b4];rfl)) j J _
attribute [local go_sem] Oper.semAt_some
def DB.mono {f b o:Nat}{c:List WK}(h:DB w B b o c)(hb:B≤f):DB w f b o c:=by
 obtain⟨s0,A1,n1,m1,U,J,m2,s3,A,r,l,q1,q2,j,g,R⟩:=h;exact⟨s0,A1,n1,m1,U,J,m2,s3,A,r,l,q1,q2,j,g,λh=>(by
  obtain⟨C,p,e,T,P⟩:=R h;exact⟨C,p,e,Ω,P⟩)⟩
def dP.mono {w:World}{B g:Nat}{A:Option Addr}{cs:List (List WK)}(h:dP w B A cs)(p:B≤g):dP w g A cs:=λr=>by obtain⟨b,f,e,C,l⟩:=h r;exact⟨b,f,e,Ω,λk j=>(l k j).mono p⟩
def nG.keep {w' :World}(h:nG w B A l)(C:Below B w w'):nG w' B A l:=λJ=>by obtain⟨b,o,e,f,r⟩:=h J;exact⟨b,o,e,f,λj g=>(C.cell (p:=⟨b,o+j,none⟩) f).trans (r j g)⟩
def nG.mono {f :Nat}(h:nG w B A l)(r:B≤f):nG w f A l:=λj=>by obtain⟨b,o,e,p,g⟩:=h j;exact⟨b,o,e,Ω,g⟩
def kept_calls (cs:List (List WK))(ws:List Int)(l:GoodW cs ws)(w:World)(A r:Option Addr)(cap f:Nat)(p:dP w w.heap.size A cs)(j:nG w w.heap.size r ws):Calls prog 10 #[.slice A cs.length cap,.slice r ws.length f] w λe C=>∃v g,e = .returned v∧iW g (RchK cs.flatten ws)∧Below w.heap.size w C∧C.ownsRow w.heap.size 3 1 v g.length (intsI g) :=
 (callsIn_wide (n:=8)).1 (afj cs ws l w A r cap f p j)
def ahB (f:GoodW cs ws){x:Int}(h:RchK cs.flatten ws x):(Lit.int .i64 x).wf=true:=by
 cases h with
 |root l _=>exact f.ww x l
 |step _ j =>obtain⟨y,g,rfl⟩:=l_.1 j;exact(f.wf y (v_.1 g).1).1
def agA {g:List Int}(f:GoodW cs ws)(h:iW g (RchK cs.flatten ws)):g.length≤1048576:=by
 have l:g.Nodup:=h.1.imp λ{a b} h e=>Ω
 have j:=mA (b:=ws++cs.flatten.map (·.id)) l λx r=>by
  cases(h.2 x).1 r with
  |root l _=>exact χ.2 (.inl l)
  |step _ j =>obtain⟨y,p,rfl⟩:=l_.1 j;exact χ.2 (.inr (z? (v_.1 p).1))
 have:=f.wn;have:=f.t;rw[N',e_]at j;omega
def abz (u:Nat→Value)(w wr:World)(fn:FuncId)(j r C:Value)(K:Int→Bool)(P:Below w.heap.size w wr)(J:w.heap.size+2≤wr.heap.size)(hc:wr.heap[w.heap.size+1]? = some (.cells #[.map (some w.heap.size)] 63 (0,0)))(hK:∃n D,bN wr w.heap.size n D∧iV D K)
  (W0:World) (f:W0=((((wr.alloc (.map #[] 0)).alloc (.map #[] 0)).alloc (.cells #[.map (some wr.heap.size)] 63)).alloc (.cells #[.map (some (wr.heap.size+1))] 63)).alloc (.cells #[j] 24)) :
  W0.heap.size=wr.heap.size+5∧Below w.heap.size w W0∧W0.heap[wr.heap.size+1+1+1+1]? = some (.cells #[j] 24 (0,0))∧KeAt u w fn j r C (W0.heap.size+1) wr.heap.size W0.heap.size K [] ((W0.alloc (.deferred (some []))).alloc (.loop (kG u fn j r C w.heap.size wr.heap.size W0.heap.size .ready none))):=by
 have hs0:W0.heap.size=wr.heap.size+5:=by rw[f];simp
 have l:Below wr.heap.size wr W0:=by rw[f];exact(((((Below.refl _ wr).alloc (ζ _) _).alloc Ψ _).alloc (by simp <;> omega) _).alloc (by simp <;> omega) _).alloc (by simp <;> omega) _
 have g:=P.trans (l.mono Ω);have h8:bN W0 wr.heap.size 0 (.map []):=by rw[f];exact((((World.ownsMap_made wr prog 3 _).alloc _).alloc _).alloc _).alloc _
 have h9:bN W0 (wr.heap.size+1) 0 (.map []):=by have:=World.ownsMap_made (H:=Unit) (wr.alloc (.map #[] 0)) prog 3 (plainElem prog 4);rw[U']at this;rw[f];exact((this.alloc _).alloc _).alloc _
 have c8:W0.heap[wr.heap.size+1+1]? = some (.cells #[.map (some wr.heap.size)] 63 (0,0)):=by have:=World.alloc_heap_new ((wr.alloc (.map #[] 0)).alloc (.map #[] 0)) (.cells #[.map (some wr.heap.size)] 63);rw[U',U']at this;rw[f];exact(Below.heap_alloc _ _ _ Ψ).trans ((Below.heap_alloc _ _ _ Ψ).trans this)
 have c9:W0.heap[wr.heap.size+1+1+1]? = some (.cells #[.map (some (wr.heap.size+1))] 63 (0,0)):=by have:=World.alloc_heap_new (((wr.alloc (.map #[] 0)).alloc (.map #[] 0)).alloc (.cells #[.map (some wr.heap.size)] 63)) (.cells #[.map (some (wr.heap.size+1))] 63);rw[U',U',U']at this;rw[f];exact(Below.heap_alloc _ _ _ Ψ).trans this
 have c3:W0.heap[wr.heap.size+1+1+1+1]? = some (.cells #[j] 24 (0,0)):=by have:=World.alloc_heap_new ((((wr.alloc (.map #[] 0)).alloc (.map #[] 0)).alloc (.cells #[.map (some wr.heap.size)] 63)).alloc (.cells #[.map (some (wr.heap.size+1))] 63)) (.cells #[j] 24);rw[U',U',U',U']at this;rw[f];exact this
 have c5:=(l.block (w.heap.size+1) Ω).trans hc;have h5:∃n D,bN W0 w.heap.size n D∧iV D K:=by obtain⟨n,D,⟨es,clock,hb,Ft,U,hD⟩,hd⟩:=hK;exact⟨n,D,⟨es,clock,(l.block _ Ω).trans hb,Ft,U,hD⟩,hd⟩
 refine⟨hs0,g,c3, ?_⟩;have T:=World.alloc_heap_new (W0.alloc (.deferred (some []))) (.loop (kG u fn j r C w.heap.size wr.heap.size W0.heap.size .ready none));rw[U']at T;have R:=(Below.heap_alloc (W0.alloc (.deferred (some []))) (.loop (kG u fn j r C w.heap.size wr.heap.size W0.heap.size .ready none)) W0.heap.size Ψ).trans (World.alloc_heap_new W0 (.deferred (some [])));have p:KEnv W0 w.heap.size (w.heap.size+1) wr.heap.size (wr.heap.size+1) (wr.heap.size+1+1) (wr.heap.size+1+1+1) 0 K (fM []) (fO K []) :=
  ⟨c5,c8,c9,h5,⟨0,_,ζ _,h8,iV.nil.eq λx=>rfl⟩,⟨0,_,ζ _,h9,iV.nil.eq λx=>rfl⟩⟩
 exact⟨⟨(g.alloc g.size _).alloc (by have:=g.size;simp;omega) _,by simp;omega,J,R,(p.quiet (ω _ _ _)).quiet (ω _ _ _)⟩,T⟩
def KkL (w g:World)(f:List Int)(v i:Value)(wr:World):Prop :=
 ∃k:Nat,k≤f.length∧i = .int .i64 k∧Below w.heap.size w wr∧w.heap.size+2≤wr.heap.size∧wr.heap[w.heap.size+1]? = some (.cells #[.map (some w.heap.size)] 63 (0,0))∧(∃n D,n≤k∧bN wr w.heap.size n D∧iV D (λx=>(f.take k).contains x))∧wr.ownsRow (w.heap.size+2) 3 1 v f.length (intsI f)
set_option maxRecDepth 100000 in
set_option maxHeartbeats 1600000 in
def Yu (cs:List (List WK))(ws:List Int)(J:GoodW cs ws)(w:World)(A A2:Option Addr)(cap j:Nat)(hcs:dP w w.heap.size A cs)(hws:nG w w.heap.size A2 ws):CallsIn Fence.wide 9 prog 34 #[.slice A cs.length cap,.slice A2 ws.length j] w λe w'=>∃S p,e = .returned (.func (.func 65) #[] #[.pointer (some ⟨w.heap.size+1,0,none⟩),.pointer (some ⟨S+1+1,0,none⟩),.pointer (some ⟨S+1+1+1,0,none⟩)])∧iW p (RchK cs.flatten ws)∧Below w.heap.size w w'∧w.heap.size+2≤S∧S+4≤w'.heap.size ∧
   KEnv w' w.heap.size (w.heap.size+1) S (S+1) (S+1+1) (S+1+1+1) cs.flatten.length (λx=>p.contains x) (fM cs.flatten) (fO (λx=>p.contains x) cs.flatten):=by
 have hmm:=@run_makeMap prog;refine callsIn_of_wp_marks func34 rfl trivial ?_ rfl;simp only[ntmps34,e?,w_,y?,Nat.reduceAdd,Nat.reduceSub,O?,N?,I?,P?,t_,ako];obtain⟨Wa,hWa⟩:∃Wa,(w.alloc (.map #[] 0)).alloc (.cells #[.map (some w.heap.size)] 63)=Wa:=⟨_,rfl⟩;have hba:Below w.heap.size w Wa:=by rw[←hWa];exact((Below.refl _ w).alloc (ζ _) _).alloc Ψ _
 have hsa:Wa.heap.size=w.heap.size+2:=by rw[←hWa];simp
 have hca:Wa.heap[w.heap.size+1]? = some (.cells #[.map (some w.heap.size)] 63 (0,0)):=by have:=World.alloc_heap_new (w.alloc (.map #[] 0)) (.cells #[.map (some w.heap.size)] 63);rw[U']at this;rw[←hWa];exact this
 have hoa:bN Wa w.heap.size 0 (.map []):=by rw[←hWa];exact(World.ownsMap_made w prog 3 _).alloc _
 have hkc:=kept_calls cs ws J Wa A A2 cap j ((hcs.keep hba).mono Ω) ((hws.keep hba).mono Ω)
 gi_wp2
 refine⟨apj,(callsIn_wide.2 hkc).mono ?_⟩;rintro e W1 ⟨v,p,rfl,hasc,U,f⟩;have hbw1:Below w.heap.size w W1:=hba.trans (U.mono Ω);have hs1:=U.size;have hc1:=(U.block (w.heap.size+1) Ω).trans hca;have ho1:bN W1 w.heap.size 0 (.map []):=by obtain⟨es,clock,hb,Ft,hs,hD⟩:=hoa;exact⟨es,clock,(U.block _ Ω).trans hb,Ft,hs,hD⟩
 rw[hsa]at f;obtain⟨VA,vc,rfl⟩:=Js f;clear hkc hca hoa hWa
 gi_wp2
 gi_loopw [7,16] (λ_ i wr=>KkL w Wa p (.slice VA p.length vc) i wr) (λ_ i _=>p.length-(Go.RowKit.intOf i).toNat)
 case atStart=>exact⟨0,k_ _,rfl,hbw1,Ω,hc1,⟨0,_,ζ _,ho1,iV.nil.eq λx=>by simp⟩,f⟩
 case round=>
  clear f hc1 ho1 hbw1 hs1 U;obtain⟨k,hk,rfl,hbw,hsz,hc,⟨n,D,hn,ho,hd⟩,f⟩:=hrel;have hcc:=(cell_of_box_a hc).1;by_cases hlt:k<p.length
  ·have hxw:=ahB J ((hasc.2 _).1 (a_ hlt));obtain⟨g,rfl,hgb⟩:∃g,VA=some ⟨g,0,none⟩∧w.heap.size+2≤g:=by
    rcases f.2 with⟨_,h0⟩|⟨g,cap',cur,e,hb,_⟩
    ·omega
    ·injection e with e1 _ _;exact⟨g,e1,hb⟩
   have hcl:wr.cell? ⟨g,k,none⟩=some (.int .i64 p[k]):=by rw[f.cellAt k Ω];simp[intsI,hlt]
   have hks:=agA J hasc
   gi_wp2_with (first
    |(gi_at_mapUpdate;refine cx _ rfl _ _ _ rfl w.heap.size n D rfl ho hd (by unfold maxLen;omega) p[k] rfl rfl hxw ?_;intro w3 ho3 hd3 hg3)
    |gi_in)
   go_roundw
   case rel =>refine⟨k+1,Ω,Ψ,hbw.grown hg3 hbw.size (λr e=>by injection e with e;omega),ν hsz hg3.size,(hg3.block _ Ω (λe=>by injection e with e;omega)).trans hc,⟨n+1,_,Ω,ho3,hd3.eq λx=>?_⟩,f.kept hg3 (.inr λe=>by have e:some g=some w.heap.size:=e;injection e with e;omega)⟩;rw[Z' hlt,List.contains_append];simp[ama];rfl
   case measure=>simp[Go.RowKit.intOf];omega
  ·obtain rfl:k=p.length:=Ω
   gi_wp2
   refine⟨apj,(yU 8 A cs.length cap _).mono ?_⟩;rintro e W0 ⟨rfl,hW0⟩;simp only[U']at hW0⊢
   gi_wp2
   refine wpIn_rangeFunc ?_;intro fn hfn;obtain⟨u,hue⟩:∃u:Nat→Value,u=λi=>if i=7 then u7 else if i=14 then .slice VA p.length vc else if i=15 then .int .i64 p.length else if i=16 then .int .i64 p.length else if i=17 then .bool false else if i=18 then u18 else if i=19 then u19 else if i=20 then u20 else if i=21 then u21 else u22:=⟨_,rfl⟩
   have hK:∃n D,bN wr w.heap.size n D∧iV D (λx=>p.contains x):=⟨n,D,ho,hd.eq λx=>by rw[S_]⟩;obtain⟨hs0,hb0,hbx,hM⟩:=abz u w wr fn (.slice A cs.length cap) (.slice A2 ws.length j) (.func (.func 61) #[] #[.pointer (some ⟨wr.heap.size+1+1+1+1,0,none⟩)]) (λx=>p.contains x) hbw hsz hc hK W0 hW0;have hcs0:=dP.keep hcs hb0;have hb01:Below W0.heap.size W0 ((W0.alloc (.deferred (some []))).alloc (.loop (kG u fn (.slice A cs.length cap) (.slice A2 ws.length j) (.func (.func 61) #[] #[.pointer (some ⟨wr.heap.size+1+1+1+1,0,none⟩)]) w.heap.size wr.heap.size W0.heap.size .ready none))):=((Below.refl _ W0).alloc (ζ _) _).alloc Ψ _;obtain⟨W2,hW2⟩:∃W2,(W0.alloc (.deferred (some []))).alloc (.loop (kG u fn (.slice A cs.length cap) (.slice A2 ws.length j) (.func (.func 61) #[] #[.pointer (some ⟨wr.heap.size+1+1+1+1,0,none⟩)]) w.heap.size wr.heap.size W0.heap.size .ready none))=W2:=⟨_,rfl⟩;rw[hW2]at hM hb01;have T:(Instr.enterLoop fn (keT u (.slice A cs.length cap) (.slice A2 ws.length j) (.func (.func 61) #[] #[.pointer (some ⟨wr.heap.size+1+1+1+1,0,none⟩)]) w.heap.size wr.heap.size) #[27] (kaA f34.body) (kaB f34.body) none).run prog W0 = .ok (W0.heap.size+1,[{ target :=.collected W0.heap.size,args :=#[] }]) W2:=by rw[←hW2];exact run_enterLoop_outer _ _ _ _ _
   clear hW2 hW0 hmm;refine⟨W0.heap.size+1,[{ target :=.collected W0.heap.size,args :=#[] }],W2,{ target :=.fn (.func 61) #[.pointer (some ⟨wr.heap.size+1+1+1+1,0,none⟩)],args :=#[.func (.yield (W0.heap.size+1)) #[] #[]] },W2,61,
    #[.func (.yield (W0.heap.size+1)) #[] #[],.pointer (some ⟨wr.heap.size+1+1+1+1,0,none⟩)],W2,(by rw[hue]at T;exact T), ?_,λ_ _=>trivial, ?_,λ_=>Ω, ?_⟩
   ·simp[resolve,go_sem]
   ·simp[invoke,go_sem,enters_of func61 Φ rfl]
   ·refine(yT Fence.wide 8 trivial rfl Ω (wr.heap.size+1+1+1+1) w.heap.size A cap cs (by have:=J.n;omega) J.m W0 Ω Ω ((cell_of_box_a hbx).1) hcs0 (W0.heap.size+1) (KeAt u w fn (.slice A cs.length cap) (.slice A2 ws.length j) (.func (.func 61) #[] #[.pointer (some ⟨wr.heap.size+1+1+1+1,0,none⟩)]) (W0.heap.size+1) wr.heap.size W0.heap.size (λx=>p.contains x)) W2 hb01 (λs W C h hg=>h.quiet hg) ?_ hM).mono ?_
    ·intro pre x W hJ hlt hx;exact afo u 7 w fn _ _ _ _ _ _ _ Ω Ω Ω pre x W hJ (by have:=J.t;omega) (J.wf x hx).1 (J.wf x hx).2
    rintro e W3 ⟨⟨v0,rfl⟩,h2⟩;have hend:=run_endLoop (P:=prog) h2.lp (by simp[kG]);have R:=Mf (r':={ kG u fn (.slice A cs.length cap) (.slice A2 ws.length j) (.func (.func 61) #[] #[.pointer (some ⟨wr.heap.size+1+1+1+1,0,none⟩)]) w.heap.size wr.heap.size W0.heap.size .ready none with state :=.exhausted }) h2.st (l:=W0.heap.size+1) Ω Ω;refine⟨none,_,hend, ?_⟩;generalize W3.putObj (W0.heap.size+1) _=W4 at R⊢;clear h2 hend hM T hb01 hcs0
    gi_wp2
    have hDk:=R.dk;rw[hs0]at hDk;have hg5:=grownBy_putObj_a W4 (wr.heap.size+5) (.deferred none);refine⟨Ψ,.inl ⟨_,_,rfl,run_takeDeferred hDk, ?_⟩⟩;refine⟨_,results_tmp rfl _ _ _,wr.heap.size,p,rfl,hasc,R.below.grown hg5 R.below.size (λr e=>by injection e with e;omega),hsz,ν R.sz hg5.size,R.env.kept hg5 (λr e=>by injection e with e;omega)⟩
