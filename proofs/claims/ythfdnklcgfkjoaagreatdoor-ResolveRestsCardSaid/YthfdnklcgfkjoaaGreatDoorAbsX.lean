/- From the arguments' readings to typed. -/
import Derived.Test.YthfdnklcgfkjoaaGreatDoorAbsW
import Derived.Carry
import Derived.ProofKit
import Derived.OpenShut
set_option linter.all false
namespace Go.Proofs.YthfdnklcgfkjoaaGreatDoor.Abs
open Go Go.RowKit Go.ChangeShapes Go.WideShapes Go.ChangeAt
def D.ok:D→Prop
 |.sc (.int k n)=>(Lit.int k n).wf=true
 |.sc (.string s)=>s.size≤maxLen
 |.sc _=>True
 |.nil=>True
 |.cons a b=>a.ok∧b.ok
 |.sl d=>d.len≤maxLen∧d.ok
 |.jk _ _=>True
def Ty.good:Ty→Bool
 |.cons a b=>a.good&&b.good&&(match b with|.unit|.cons _ _=>true|_=>false)
 |.slice a=>a.good
 |.jsl _=>false
 |_=>true
def wR:∀{t:Ty},t.good=true→t.nojk=true
 |.int _,_|.bool,_|.str,_|.unit,_|.tree,_=>rfl
 |.jsl _,h=>by cases h
 |.slice t,h=>wR (t:=t) h
 |.cons a b,h=>by simp[Ty.good]at h;simp[Ty.nojk,wR h.1.1,wR h.1.2]
def uL:∀{t:Ty},t.good=true→∀a∈t.fields,a.nojk=true
 |.cons a b,h=>by
  simp[Ty.good]at h;intro x f;obtain rfl|f:=N'.1 f
  ·exact wR h.1.1
  ·exact uL h.1.2 x f
 |.tree,_=>by simp[Ty.fields,Ty.nojk]
 |.int _,_|.bool,_|.str,_|.unit,_|.slice _,_|.jsl _,_=>by simp[Ty.fields]
def sU:List Ty→Ty
 |[]=>.unit
 |a::r=>.cons a (sU r)
def z8:∀{f:Ty},f.good=true→(f = .unit∨∃a b,f = .cons a b)→sU f.fields=f
 |.unit,_,_=>rfl
 |.cons a b,h,_=>by
  simp[Ty.good]at h;have g:b = .unit∨∃l j,b = .cons l j:=by
   have:=h.2;cases b <;> simp at this
   ·exact .inl rfl
   ·exact .inr ⟨_,_,rfl⟩
  show Ty.cons a (sU b.fields)=_;rw[z8 h.1.2 g]
section
variable {H:Type}{enc:TypeId×Value→H}{P:Program}{tab:Tab}{W:World}{St:Sb}{J:Nat→Bool}
variable{t:TypeId}{τ:Ty}{v:Value}
def yS (f:TabOk P tab)(h:tab.ty t=some τ):P.cellsOf t=τ.size:=by obtain⟨i,z,j,g,_⟩:=f.ty t τ h;simp[Program.cellsOf,j,g]
def EU {a:Addr}(h:W.cell? a=some v):a.block<W.heap.size:=by have:=World.cells?_block (base:=0) (n:=1) (cs:=[v]) (cells?_one (s_ _) h) Ω;exact this
def Wo (enc:TypeId×Value→H)(P:Program)(tab:Tab)(W:World)(St:Sb)(J:Nat→Bool)(f:Nat):Prop :=
 ∀t τ g x,tab.ty t=some τ→DataW.trod enc P W 0 J true f t g=some x→∃y:τ.den,Rep W St (toD τ y) g∧(toD τ y).ok
def uh (tk:TabOk P tab){g:Nat}(ih:Wo enc P tab W St J g){r:List Value}:∀(l:List Ty) (p:List Field) (j:Nat) (xs:List (DataW H×List MemPlace)),(∀a∈l,a.nojk=true)→FOk tab.ty p l j →
  p.mapM (λf=>DataW.trod enc P W 0 J true g f.type ((r.drop f.offset).take (P.cellsOf f.type)))=some xs→r.length=j+(sU l).size →
  ∃y:(sU l).den,Rep W St (toD (sU l) y) (r.drop j)∧(toD (sU l) y).ok
 |[],[],j,_,_,_,_,T=>⟨(),by simp[sU,Ty.size]at T;simp[sU,toD,Rep];omega,awN⟩
 |a::l,f::p,j,xs,hn,hf,hm,T=>by
  obtain⟨⟨ab,h1,_,_,U⟩,h2,h3,h4,h5⟩:=hf;rw[U (hn a (c_ ..))]at h1;rw[arR]at hm;cases R:DataW.trod enc P W 0 J true g f.type ((r.drop f.offset).take (P.cellsOf f.type))with
  |none=>simp[R]at hm
  |some x=>
   cases hr:p.mapM (λf=>DataW.trod enc P W 0 J true g f.type ((r.drop f.offset).take (P.cellsOf f.type)))with
   |none=>simp[R,hr]at hm
   |some C =>obtain⟨y,hy,oy⟩:=ih _ _ _ _ h1 R;obtain⟨z,hz,oz⟩:=uh tk ih l p (j+a.size) C (λb hb=>hn b (C' _ hb)) h5 hr (by simp[sU,Ty.size]at T;omega);rw[h2,yS tk h1]at hy;refine⟨(y,z),⟨_,_, ?_,hy,hz⟩,oy,oz⟩;rw[←List.drop_drop,W_]
 |[],_::_,_,_,_,h,_,_=>h.elim
 |_::_,[],_,_,_,h,_,_=>h.elim
def S7 {g:Type}{f:g→D}:∀{l j:List g},(chain f l).ok→(chain f j).ok→(chain f (l++j)).ok
 |[],_,_,h=>h
 |_::_,_,h,p=>⟨h.1,S7 h.2 p⟩
def GI (tk:TabOk P tab)(hSt:∀b o,b<W.heap.size→St b o){C:Nat}(ih:Wo enc P tab W St J C){e:TypeId}{a:Ty}(he:tab.ty e=some a)(ha:0<a.size){p:Addr}{len:Nat}
  (h:∀i,i<len→∃x,(W.cells? 0 (p.add (i*P.cellsOf e)) (P.cellsOf e)).bind (DataW.trod enc P W 0 J true C e)=some x):∀n,n≤len →
  ∃(l:List a.den) (R:List Value),l.length=n∧Rep W St (chain (toD a) l) R∧(chain (toD a) l).ok∧(0<n→p.spot=none)∧∀(j:Nat) u,R[j]? = some u→W.cell? (p.add j)=some u∧St p.block (p.off+j)
 |0,_=>⟨[],[],rfl,rfl,awN,λh=>Ω,λj u U=>by simp at U⟩
 |n+1,hn=>by
  obtain⟨l,R,hl,hr,ok,hs,hc⟩:=GI tk hSt ih he ha h n Ω;obtain⟨x,hx⟩:=h n Ω;cases hcs:W.cells? 0 (p.add (n*P.cellsOf e)) (P.cellsOf e)with
  |none=>simp[hcs]at hx
  |some cs=>
   rw[hcs]at hx;obtain⟨y,hy,oy⟩:=ih e a cs x he hx;obtain⟨_,hlen,f⟩:=World.cells?_some hcs;rw[yS tk he]at hlen f;have h0:∃v,W.cell? (p.add (n*a.size))=some v:=by have:=f 0 ha;rw[add_zero]at this;have g:cs[0]? = some cs[0]:=ζ Ω;exact⟨_,this.trans g⟩
   have r:p.spot=none:=by
    by_cases T:0<n
    ·exact hs T
    ·obtain⟨v,hv⟩:=h0;have T:n=0:=Ω
     rw[T,Q?,add_zero]at hv;exact World.cell?_spot hv
   refine⟨l++[y],R++cs,by simp[hl],dx hr ⟨cs,[],Ψ,hy,rfl⟩,S7 ok ⟨oy,awN⟩,λ_=>r,λj u U=>?_⟩;have hdl:=ba hr;rw[hl]at hdl;by_cases hjd:j<R.length
   ·rw[ω hjd]at U;exact hc j u U
   ·rw[P' Ω]at U;have hjc:j-R.length<cs.length:=(g_.1 U).1;have:=f (j-R.length) Ω;rw[EY,U,show n*a.size+(j-R.length)=j by omega]at this;refine⟨this,hSt _ _ ?_⟩;have:=EU this;rw[(ip p r j).1]at this;exact this
def QQ (tk:TabOk P tab)(hg:∀t τ,tab.ty t=some τ→τ.good=true)(hSt:∀b o,b<W.heap.size→St b o):∀j,Wo enc P tab W St J j
 |0=>λt τ cs x _ h=>by simp[DataW.trod]at h
 |j+1=>λt τ cs x ht h=>by
  have ih:=QQ tk hg hSt j;obtain⟨i,z,hi,hs,_,_,_,_,r⟩:=tk.ty t τ ht;have p:=hg t τ ht;have g:∀T,P.underlying t=some (.struct T)→cs.length=τ.size∧∃U,T.toList.mapM (λf=>DataW.trod enc P W 0 J true j f.type ((cs.drop f.offset).take (P.cellsOf f.type)))=some U:=λT hf=>by
   unfold DataW.trod at h;rw[hf]at h;simp only at h;split at h
   ·rename_i C;rw[yS tk ht]at C;refine⟨C, ?_⟩;cases R:T.toList.mapM (λf=>DataW.trod enc P W 0 J true j f.type ((cs.drop f.offset).take (P.cellsOf f.type)))with
    |none=>rw[R]at h;cases h
    |some U=>exact⟨U,rfl⟩
   ·cases h
  cases τ with
  |jsl e=>cases p
  |int k=>
   have r:P.underlying t=some (.int k):=r;unfold DataW.trod at h;rw[r]at h;split at h <;> try (first|(simp at *;done)|cases h)
   rename_i k0 k' n hk;cases hk;split at h
   next hw=>obtain⟨rfl,hw⟩:=hw;exact⟨n,⟨rfl,rfl⟩,hw⟩
   ·cases h
  |bool=>
   have r:P.underlying t=some .bool:=r;unfold DataW.trod at h;rw[r]at h;split at h <;> try (first|(simp at *;done)|cases h)
   rename_i b _;exact⟨b,⟨rfl,rfl⟩,awN⟩
  |str=>
   have r:P.underlying t=some .string:=r;unfold DataW.trod at h;rw[r]at h;split at h <;> try (first|(simp at *;done)|cases h)
   rename_i s _;split at h
   next C=>refine⟨s.data.toList,⟨rfl,rfl⟩, ?_⟩;exact C
   ·cases h
  |slice a=>
   obtain⟨e,r,he,_,ha⟩:=r;unfold DataW.trod at h;rw[r]at h;split at h <;> try (first|(simp at *;done)|cases h)
   ·exact⟨[],⟨none,0,0,rfl,rfl,δ _,.inl rfl⟩,s_ _,awN⟩
   ·rename_i e' ad len cap hk;cases hk;split at h
    ·rename_i hb;dsimp only at h;cases R:(List.range len).mapM (λi=>(W.cells? 0 (ad.add (i*P.cellsOf e)) (P.cellsOf e)).bind (DataW.trod enc P W 0 J true j e))with
     |none=>rw[R]at h;cases h
     |some elems=>
      have hall:∀i,i<len→∃x,(W.cells? 0 (ad.add (i*P.cellsOf e)) (P.cellsOf e)).bind (DataW.trod enc P W 0 J true j e)=some x:=λi hi=>by
       have h1:=mapM_some_get R i i (by simp[hi]);have h2:=mapM_some_length R;have h4:i<elems.length:=by simp at h2;omega
       exact⟨_,h1.trans (ζ h4)⟩
      obtain⟨l,ds,C,hr,ok,hsp,hc⟩:=GI tk hSt ih he ha hall len (δ _);refine⟨l,⟨some ad,len,cap,rfl,by rw[len_chain,C],hb.2.1, ?_⟩,by rw[len_chain,C];omega,ok⟩;by_cases h0:len=0
      ·exact .inl h0
      ·exact .inr ⟨ad,ds,rfl,hsp Ω,hr,hc⟩
    ·cases h
  |unit =>obtain⟨T,hf,_,_,hF⟩:=r;obtain⟨C,U,R⟩:=g T hf;exact⟨(),by simp[Ty.size]at C;simp[toD,Rep,C],awN⟩
  |cons a b =>obtain⟨T,hf,_,_,hF⟩:=r;obtain⟨C,U,R⟩:=g T hf;have e:=z8 p (.inr ⟨a,b,rfl⟩);have:=uh tk ih _ _ 0 U (uL p) hF R (by rw[e,C];omega);rw[e]at this;simpa using this
  |tree=>
   obtain⟨T,hf,_,_,hF⟩:=r;obtain⟨C,U,R⟩:=g T hf;obtain⟨⟨k,s,ls,ks,u⟩,hy,oy⟩:=uh tk ih _ _ 0 U (uL p) hF R (by rw[C];rfl);refine⟨Tree.mk k s ls ks, ?_, ?_⟩
   ·simp[toD,sS,i9];simpa[sU,Ty.fields,toD]using hy
   ·simp[toD,sS,i9];simpa[sU,Ty.fields,toD]using oy
def CQ {u:Value}(h:v.cells.toList=[u])(g:∀f,v ≠ .agg f):v=u:=by cases v <;> simp_all[Value.cells]
def UL (T:TabOk P tab)(hg:∀t τ,tab.ty t=some τ→τ.good=true)(R:∀b o,b<W.heap.size→St b o){d:DataW H}{p:List MemPlace}{l:Nat}(ht:tab.ty t=some τ)
  (h:DataW.Trod enc P W 0 J true t v d p) (C:Value.okWide P W .any l t v):∃y:τ.den,RepV W St τ y v∧(toD τ y).ok:=by
 obtain⟨j,h⟩:=h;obtain⟨y,r,oy⟩:=QQ T hg R j t τ _ _ ht h;refine⟨y, ?_,oy⟩;obtain⟨i,z,_,_,_,_,_,_,U⟩:=T.ty t τ ht;unfold RepV;split
 next f=>obtain⟨fs,hf,_⟩:=gL f U;obtain⟨cs,rfl,_⟩:=okWide_struct hf C;exact⟨cs.toList,Ψ,by simpa[Value.cells]using r⟩
 next f=>
  have f:τ.isStruct=false:=by simpa using f
  have hl:=r.size;rw[rJ f]at hl;obtain⟨u,g⟩:=F?.1 hl;have:v=u:=CQ g (λcs e=>by
   subst e;obtain⟨d',hd,hp⟩:=Fl f U;unfold Value.okWide at C;rw[hd]at C;cases d' <;> simp[ug]at hp <;> simp[Cell.okWide,Cell.ok,hd]at C)
  subst this;rw[g]at r;exact r
def KK (tk:TabOk P tab)(hg:∀t τ,tab.ty t=some τ→τ.good=true)(C:∀b o,b<W.heap.size→St b o){base:Nat}:∀(r:List TypeId) (f:List Ty) (l:List Value) (R:List (DataW H)) (ps:List MemPlace),
  r.map tab.ty=f.map some→DataW.TrodAll enc P W 0 J true r l R ps→(∀(j:Nat) t v,r[j]? = some t→l[j]? = some v→Value.okWide P W .any base t v) →
  ∃g:List ((t:Ty)×t.den),g.map (·.1)=f∧RepVs W St g l∧(∀x∈g,(toD x.1 x.2).ok)∧R.length=g.length
 |[],[],l,R,ps,_,h,_=>by obtain⟨rfl,rfl,rfl⟩:=trodAll_nil h;exact⟨[],rfl,awN,Ψ,rfl⟩
 |t::r,τ::f,l,R,ps,hm,h,hv=>by
  obtain⟨v,T,d,ds',p,q,rfl,rfl,rfl,h1,h2⟩:=trodAll_cons h;simp at hm;obtain⟨y,hy,oy⟩:=UL (St:=St) tk hg C hm.1 h1 (hv 0 t v rfl rfl);obtain⟨g,e,hr,ok,hl⟩:=KK tk hg C r f T ds' q hm.2 h2 (λj t' v' a b=>hv (j+1) t' v' (by simpa using a) (by simpa using b));refine⟨⟨τ,y⟩::g,by simp[e],⟨hy,hr⟩,λx U=>?_,by simp[hl]⟩;obtain rfl|U:=N'.1 U
  ·exact oy
  ·exact ok x U
 |[],_::_,_,_,_,h,_,_=>by simp at h
 |_::_,[],_,_,_,h,_,_=>by simp at h
def xV (R:laidOutB P=true){U:World}(T:Below W.heap.size W U):∀(f:List TypeId) (g:List Value) (j:List (DataW H)) (ps:List MemPlace),(∀t∈f,P.readableRec t=true∧t<P.types.size) →
  DataW.TrodAll enc P W 0 (λ_=>true) true f g j ps→(∀x∈ps,x.block<W.heap.size)→DataW.TrodAll enc P U 0 (λb=>decide (b<W.heap.size)) true f g j ps
 |[],g,j,ps,_,h,_=>by obtain⟨rfl,rfl,rfl⟩:=trodAll_nil h;exact trodAll_mk0
 |t::f,g,j,ps,hr,h,hlt=>by
  obtain⟨v,l,d,J,p,q,rfl,rfl,rfl,h1,h2⟩:=trodAll_cons h;exact trodAll_cons_mk (Below.trod R (hr t Ψ).1 (hr t Ψ).2 h1 T (λx r=>hlt x (T_ _ r)))
   (xV R T f l J q (λt' C=>hr t' (C' _ C)) h2 (λx r=>hlt x (arW _ r)))
structure LawOk (C:Checked)(tab:Tab)(f:FuncId)(fn:Func)(τs:List Ty)(tb:TypeId):Prop where
 own:ownKnob C.prog.godebug=none
 noInit:C.prog.inits.idxOf? f=none
 func:C.prog.funcs[f]? = some fn
 laid:laidOutB C.prog=true
 params:fn.params.toList.map tab.ty=τs.map some
 results:fn.resultTypes = #[tb]
 tbool:C.prog.underlying tb=some .bool
 read:∀t∈fn.params.toList,C.prog.readableRec t=true∧t<C.prog.types.size
 good:∀t τ,tab.ty t=some τ→τ.good=true
 tab:TabOk C.prog tab
end
variable{P:Program}
def meets_of_ent {f:FuncId}{e:Ent}(h:am P f e){xs:List ((t:Ty)×t.den)}{res:AV}(l:e (xs.map λd=>.val d.1 d.2)=some (true,res)):MeetsD P f xs res:=by obtain⟨R,r,J,C⟩:=h _ _ l;exact⟨J,λw St p g j=>C w St p g (r (aX w St) g (yU j))⟩
def ahv {l:List TypeId}(h:(l.all λt=>P.readableRec t&&decide (t<P.types.size))=true):∀t∈l,P.readableRec t=true∧t<P.types.size:=λt f=>by have:=d_.1 h t f;simpa using this
