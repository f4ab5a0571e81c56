/- A region is sound. -/
import Derived.Test.YtfgpipfjalmooaaGreatAbsK
import Derived.RangeFuncCalls
import Derived.RangeFuncLeaves
import Derived.OrdersIn
import Derived.LoopNIn
open Option renaming some→ä,none→ö
open Bool renaming true→ü,false→ß
open Go renaming World→æ,Value→ø,Program→å,Operand→é,execOp→è,Oper→ê,Exit→ë
set_option linter.all false
namespace Go.Proofs.YtfgpipfjalmooaaGreat
namespace Abs
open Go Go.RowKit
def RF (f:Option Nat):Fence:={ Fence.wide with round:=f }
variable{P:å}{ro:Option Nat}{n:Nat}{w:æ}
def DF {f:FuncId}{args:Array ø}{R:Ending→æ→Prop}(h:Calls P f args w R):CallsIn (RF ro) n P f args w R:=by have g:CallsIn Fence.wide n P f args w R:=callsIn_wide.2 h;exact g
def fw (ro:Option Nat)(o:ê):Prop:=ro=ö∨∀c,o.op ≠ .defer c
def wW {o:ê}{a:Act}{K:Act→æ→Prop}{Q:ë→Act→æ→Prop}(g:fw ro o)(h:o.wp P a w K Q):o.wpIn (RF ro) n P a w K Q:=by
 refine⟨λ_ _=>trivial, ?_⟩;have e:o.semAt (RF ro).round a.eval=è a.eval o:=by
  obtain rfl|g:=g
  ·rfl
  ·exact Oper.semAt_eq _ _ _ g
 rw[e];unfold Oper.wp at h;generalize (è a.eval o).run P w=r at h⊢;cases r with
 |ok x j=>
  cases x <;> simp[Oper.upon,Oper.uponIn]at h⊢;case value=>exact h
  case skip=>exact h
  case defer=>exact h
  case enter=>exact⟨(λq=>by cases q),DF h⟩
  case row =>refine⟨(λq=>by cases q),λc p _=>?_⟩;obtain⟨v,f,r1,l⟩:=h c p;exact⟨v,f,r1,stepsIn_wide.2 l⟩
 |halt x j=>cases x <;> simp[Oper.upon,Oper.uponIn]at h⊢ <;> exact h
def uB (B:Bd)(g f:æ)(l:List Deferred):Prop :=
 Below B g f∧Og B.F g f∧∃j:List Nat,l=j.map (λD=>{ target :=.collected D,args :=#[] })∧j.Nodup∧∀D∈j,B≤D∧g.heap.size≤D∧f.heap[D]? = ä (.deferred (ä []))∧¬B.F D
def uB.none (B:Bd)(w:æ):uB B w w []:=⟨Below.refl _ _,Og.refl _,[],rfl,ajZ,λ_ h=>by cases h⟩
def uB.put {B:Bd}{g f:æ}{a:Act}(h:uB B g f a.defers)(d:Option Nat)(v:ø):uB B g f (a.put d v).defers:=by cases d <;> exact h
def Rel (r:List (List AV×List ø))(p:Nat)(B:Bd)(l:æ)(U:Sb)(g:Sg)(a:Act)(w:æ):Prop :=
 ∃(c:Gh) (j:æ),c.w=w∧c.heap=g.heap∧Inv B j U c∧RAs c g.env a.tmps.toList∧uB B l j a.defers∧∀f∈r,RAs c f.1 f.2∧f.1.all (AV.under p)=ü
section
variable {P:å}{tab:Tab}{T:Specs}{B:Bd}{lo:Nat}{w0:æ}{U:Sb}{c:Gh}{o:ê}{a:Act}{fs:List (List AV×List ø)}{σ:Sg}{w:æ}
def Ah (v:ø):RA c (Bx v) [v]:=by
 unfold Bx;split
 ·exact fx _ _
 ·exact dF _
 next s=>obtain⟨⟨l⟩⟩:=s;exact E3 l
 ·rfl
 ·exact⟨_,rfl⟩
def oO:∀l:List ø,RAs c (l.map Bx) l
 |[]=>trivial
 |v::l=>⟨Ah v,oO l⟩
def CM:∀{f:List AV} {l:List ø},f.all AV.single=ü→RAs c f l→∀u∈l,u.oneCell'=ü
 |[],[],_,_,_,h=>by cases h
 |_::_,v::_,h,⟨j,g⟩,u,hu=>by
  simp only[C?,θ]at h;obtain rfl|hu:=c_.1 hu
  ·exact(yH j h.1).2
  ·exact CM h.2 g u hu
def HM (v:ø):RA c (L9 v) [v]:=by
 unfold L9;split
 next g=>
  split
  next f=>exact⟨g.toList,Ψ,RA.o6 (oO _),gJ _,CM (c:=c) f (oO _)⟩
  ·exact⟨_,rfl⟩
 ·exact Ah _
def ru (h:RAs c σ.env a.tmps.toList)(x:é):RA c (R8 σ.env x) [a.eval x]:=by
 cases x with
 |tmp t=>
  simp only[R8,Act.eval];obtain hlt|hge:=i_ t σ.env.length
  ·obtain⟨v,l,p⟩:=h.get t σ.env[t] (ζ hlt);have j:σ.env.getD t .unk=σ.env[t]:=by simp[List.getD,ζ hlt]
   have r:a.tmps.getD t undef=v:=by
    have:a.tmps[t]? = ä v:=by simpa using l
    simp[u_,this]
   rw[j,r];exact p
  ·have j:σ.env.getD t .unk = .unk:=by simp[List.getD,w_ hge]
   rw[j];exact⟨_,rfl⟩
 |const v=>exact HM v
 |func f=>exact⟨[],rfl,rfl,rfl⟩
 |global g=>exact⟨_,rfl⟩
def vn (h:RAs c σ.env a.tmps.toList):∀l:List é,RAs c (l.map (R8 σ.env)) (l.map a.eval)
 |[]=>trivial
 |x::l=>⟨ru h x,vn h l⟩
variable{v:ø}{g b:Bool}{op:Op}{vs:List ø}{vals:List AV}{fresh:Nat}{ho ho' :HO}{out:AV}
def dW (h:RAs c σ.env a.tmps.toList){f:Option Nat}{u:AV}(g:RA c u [v]):RAs c (tq σ.env f u) (a.put f v).tmps.toList:=by
 cases f with
 |none=>exact h
 |some d =>simp[tq,Act.put];exact h.set d g
def BZ {g:Bool}(f:g=ü):∀{l:List AV} {vs:List ø},(pj g l).1=ü→RAs c l vs→RAs c (pj g l).2 vs
 |[],[],_,_=>trivial
 |u::l,v::vs,h,⟨r,p⟩=>by
  simp[pj]at h;refine⟨?_,BZ f h.2 p⟩;have j:=h.1;cases u with
  |cond J C =>simp only[oC,f,uO]at j;subst j;simpa[oC,RA]using r
  |_=>exact r
def Ks (f:g=ü){u:AV}(h:(oC g u).1=ü)(r:RA c u [v]):RA c (oC g u).2 [v]:=by
 cases u with
 |cond l j =>simp only[oC,f,uO]at h;subst h;simpa[oC,RA]using r
 |_=>exact r
def wO (f:g=ü){l:List AV}(h:(gU op g l).1=ü)(r:RAs c l vs):RAs c (gU op g l).2 vs:=by
 unfold gU at *;split
 next x y z u l'=>
  simp only at h;match vs,r with
  |v::vs,⟨r1,j⟩=>exact⟨Ks f h r1,j⟩
 next hne=>
  split at h
  ·exact(hne _ _ _ _ _ rfl rfl).elim
  ·exact BZ f h r
def afp (l:cW T o.op=ü)(h:ab2 tab T o g vals fresh ho=ä (b,out,ho')):ho'=ho:=by
 have j:∀{x:Bool×AV×HO},ä x=ä (b,out,ho')→x.2.2=ho→ho'=ho:=λp C=>by simp at p;rw[p]at C;exact C
 have f:∀{q:Prop},(ö:Option (Bool×AV×HO))=ä (b,out,ho')→q:=λp=>by cases p
 unfold ab2 at h;generalize o.op=op at h l;cases op;case call cl=>
  simp[cW]at h l;generalize cl.callee=ce at h l;cases ce with
  |builtin J=>
   cases J;case append=>simp at l
   all_goals simp only at h
   all_goals (repeat' split at h)
   all_goals first|exact f h|exact j h rfl
  |value x=>
   simp at h l;rw[l]at h;simp only at h
   repeat' split at h
   all_goals first|exact f h|exact j h rfl
  |invoke r m=>exact f h
 case alloc=>simp[cW]at l
 case box=>simp[cW]at l
 case buildSlice=>simp[cW]at l
 case store=>simp[cW]at l
 case unOp u t x=>
  cases u <;> simp only at h;all_goals (repeat' split at h)
  all_goals first|exact f h|exact j h rfl
 case slice t x lo hi mx=>
  cases mx <;> simp only at h;all_goals (repeat' split at h)
  all_goals first|exact f h|exact j h rfl
 all_goals simp only at h
 all_goals (repeat' split at h)
 all_goals first|exact f h|exact j h rfl
def afo (T:Specs)(j:cW T o.op=ü)(h:ab1 tab o vals ho=ä (b,out,ho')):ho'=ho:=by
 have g:∀{x:Bool×AV×HO},ä x=ä (b,out,ho')→x.2.2=ho→ho'=ho:=λl p=>by simp at l;rw[l]at p;exact p
 have f:∀{q:Prop},(ö:Option (Bool×AV×HO))=ä (b,out,ho')→q:=λl=>by cases l
 unfold ab1 at h;split at h
 ·generalize o.op=op at h j;cases op;case call cl=>
   simp[cW]at h j;generalize cl.callee=ce at h j;cases ce with
   |builtin C=>
    cases C;case append=>simp at j
    all_goals simp only at h
    all_goals (repeat' split at h)
    all_goals first|exact f h|exact g h rfl
   |value x=>exact f h
   |invoke r m=>exact f h
  case store=>simp[cW]at j
  case slice t x lo hi mx=>
   cases mx <;> simp only at h;all_goals (repeat' split at h)
   all_goals first|exact f h|exact g h rfl
  all_goals simp only at h
  all_goals (repeat' split at h)
  all_goals first|exact f h|exact g h rfl
 ·exact f h
def ab0 (f:cW T o.op=ü)(h:eff tab T o g vals fresh ho=ä (b,out,ho')):ho'=ho:=by
 unfold eff at h;split at h
 next r hm=>cases h;exact afo T f hm
 ·exact afp f h
def BU {k:Nat}(P:co T op vals fresh=ä k)(R:RAs c vals vs)(hf:fresh<c.heap.length):k<c.heap.length:=by
 have g:∀{k j:Nat} {v:ø},RA c (.box k j) [v]→k<c.heap.length:=λh=>by obtain⟨cells,h,_⟩:=h;exact ar h
 have f:∀{k n:Nat} {t:Ty} {l:List t.den} {v:ø},RA c (.own k n t l) [v]→k<c.heap.length:=λh=>by obtain⟨s,_,_,t',e',v',h,_⟩:=h;exact ar h
 have J:∀{k v:Nat} {Q:Ty→Prop},sA c k v Q→k<c.heap.length:=λh=>by rcases h with⟨_,_,_,_,h,_⟩|h <;> exact ar h
 have p:∀{k n lo U:Nat} {v:ø},RA c (.msl k n lo U) [v]→k<c.heap.length:=λh=>by obtain⟨s,_,_,h⟩:=h;exact J h
 have r:∀{k n i j:Nat} {v:ø},RA c (.mpt k n i j) [v]→k<c.heap.length:=λh=>by obtain⟨s,_,_,h⟩:=h;exact J h
 unfold co at P
 repeat' split at P
 all_goals first|(cases P;done)|(simp at P;omega)|skip
 all_goals
  cases P;first
   |(match vs,R with
    |v::_,⟨C,_⟩=>first|exact g C|exact f C|exact p C|exact r C)
   |(match vs,R with
    |_::v::_,⟨_,C,_⟩=>first|exact g C|exact f C)
def Jg {f:Type}{l:List f}{k:Nat}{d:f}(h:k<l.length):l[k]? = ä (l.getD k d):=by rw[ζ h];simp[List.getD,ζ h]
def Eq {ro:Option Nat}{n:Nat}(tk:TabOk P tab)(ts:SpecsOk P T){J:Array ê}{i:Nat}(hi:J[i]? = ä o){d:Dl}(C:wP tab T J.toList fresh o σ=ä d)(hc:d.xb=ü)(hf:fresh<σ.heap.length)(hnd:fw ro o)
  (hr:Rel fs lo B w0 U σ a w) {Q:ë→Act→æ→Prop} {K:Act→æ→Prop} (hK:∀a' w',Rel fs lo B w0 U (d.ke σ) a' w'→K a' w'):wpOpIn (RF ro) n P J Q i K a w:=by
 obtain⟨c,w1,rfl,hh,hI,hE,hdf,p⟩:=hr;have f:∀v,uB B w0 w1 (a.put o.dst v).defers:=λv=>hdf.put o.dst v;have hraw:RAs c (di σ.env o) (o.op.operands.toList.map a.eval):=vn hE o.op.operands.toList;unfold wpOpIn;simp[hi];unfold wP at C;split at C
 next g hg=>
  unfold gOf at hg;cases hgd:o.guard with
  |none=>
   simp only[hgd,ι]at hg;subst hg;have hw:Region.wanted o (yielded J a.tmps)=true:=by simp[Region.wanted,hgd]
   rw[Θ hw];refine wW hnd ?_;simp[T2,lG]at C;split at C
   ·rename_i cb out ho' he;cases C;simp only at hc;subst hc;have hho:∀k,co T o.op (di σ.env o) fresh=ä k→c.heap[k]? = ä (Pp σ.heap (co T o.op (di σ.env o) fresh)):=λk hk=>by
     have:=BU hk hraw (by rw[hh];exact hf);rw[hk];simp[Pp];rw[hh]at this⊢;exact Jg this
    refine Jv tk ts hI rfl hraw hho he K Q (λv c' h1 h2 h3 h4=>hK _ _ ⟨c',w1,rfl, ?_,h2,dW (σ:=⟨σ.env,c'.heap⟩) (hE.mono h3) h4,f v,λfr r=>⟨(p fr r).1.mono h3,(p fr r).2⟩⟩);rw[h1];simp[Dl.ke,EC,aS];cases hrd:cW T o.op with
    |true=>
     have:=ab0 hrd he;subst this;simp;cases l:co T o.op (di σ.env o) fresh with
     |none=>simp only;exact hh
     |some k =>have h5:=hho k l;simp[l]at h5⊢;rw[pq h5];exact hh
    |false=>
     simp;cases l:co T o.op (di σ.env o) fresh with
     |none=>simp only;exact hh
     |some k=>simp[hh]
   ·cases C
  |some jw=>
   obtain⟨j,want⟩:=jw;simp[hgd]at hg;split at hg
   ·rename_i gb R;cases hg;have hwant:Region.wanted o (yielded J a.tmps)=gb:=by
     unfold zT at R;split at R
     ·rename_i dd hdd;have hval:∀u,σ.env.getD dd .unk=u→u ≠ .unk→∃v,a.tmps[dd]? = ä v∧RA c u [v]:=λu hu hne=>by
       obtain hlt|hge:=i_ dd σ.env.length
       ·obtain⟨v,hv,hr⟩:=hE.get dd σ.env[dd] (ζ hlt);have:σ.env.getD dd .unk=σ.env[dd]:=by simp[List.getD,ζ hlt]
        exact⟨v,by simpa using hv,by rw[←hu,this];exact hr⟩
       ·exact(hne (by rw[←hu];simp[List.getD,w_ hge])).elim
      have hyd:yielded J a.tmps j=match a.tmps[dd]? with|some (.bool b)=>ä b|_=>none:=by
       have hdd:(J[j]?).bind (·.dst)=ä dd:=by simpa using hdd
       unfold yielded;rw[hdd];rfl
      simp[Region.wanted,hgd,hyd];split at R
      next b hb=>obtain⟨v,hv,hr⟩:=hval _ hb Ψ;have:=fF hr.ey;subst this;cases R;rw[hv];cases want <;> cases b <;> rfl
      ·rename_i cc b hb;obtain⟨v,hv,hr⟩:=hval _ hb Ψ;cases R;rw[hv];simp only[RA]at hr;cases cc with
       |true =>simp only[i?]at hr;have:=fF (RA.ey (c:=c) hr);subst this;cases want <;> cases b <;> rfl
       |false =>simp only[akG,akZ,k_,P_]at hr;subst hr;rfl
      ·cases R
     ·cases R
    simp only[T2]at C;split at C
    ·rename_i hrd;split at C
     ·rename_i cb out ho' he;simp only[ι]at C;subst C;simp only[θ]at hc;rw[hwant];cases hgt:gb with
      |false=>
       simp only[akG,akZ];refine⟨λ_ _=>trivial, ?_⟩;refine hK _ _ ⟨c,w1,rfl, ?_,hI,dW hE ?_,f _,p⟩
       ·simpa[Dl.ke,EC]using hh
       ·simp[RA,hgt]
      |true=>
       simp only[i?];refine wW hnd ?_;subst hgt;have hs:=wO (op:=o.op) rfl hc.1 hraw;have hc2:cb=true:=by simpa[uO]using hc.2
       subst hc2;simp only[lG]at he;have hho:∀k,co T o.op (gU o.op ü (di σ.env o)).2 fresh=ä k→c.heap[k]? = ä (Pp σ.heap (co T o.op (gU o.op ü (di σ.env o)).2 fresh)):=λk hk=>by have:=BU hk hs (by rw[hh];exact hf);rw[hk];simp only[Pp];rw[hh]at this⊢;exact Jg this
       refine Jv tk ts hI rfl hs hho he K Q (λv c' h1 h2 h3 h4=>hK _ _ ⟨c',w1,rfl, ?_,h2,dW (σ:=⟨σ.env,c'.heap⟩) (hE.mono h3) (by simpa[RA]using h4),f v,λfr r=>⟨(p fr r).1.mono h3,(p fr r).2⟩⟩);rw[h1];have:=ab0 hrd he;subst this;simp only[Dl.ke,EC,aS];cases l:co T o.op (gU o.op ü (di σ.env o)).2 fresh with
       |none=>simp only;exact hh
       |some k =>have h5:=hho k l;simp only[l]at h5⊢;rw[pq h5];exact hh
     ·cases C
    ·split at C
     ·rename_i out he;simp only[ι]at C;subst C;simp only at hc;rw[hwant];cases hgt:gb with
      |false=>
       simp only[akG,akZ];refine⟨λ_ _=>trivial, ?_⟩;refine hK _ _ ⟨c,w1,rfl, ?_,hI,dW hE ?_,f _,p⟩
       ·simpa[Dl.ke,EC]using hh
       ·simp[RA,hgt]
      |true =>simp only[i?];refine wW hnd ?_;subst hgt;have hs:=wO (op:=o.op) rfl hc hraw;refine To tk hI hs he K Q (λv c' h1 h2 h3 h4=>hK _ _ ⟨c',w1,rfl, ?_,h2,dW (σ:=⟨σ.env,c'.heap⟩) (hE.mono h3) (by simpa[RA]using h4),f v,λfr r=>⟨(p fr r).1.mono h3,(p fr r).2⟩⟩);rw[h1];exact hh
     ·cases C
   ·cases hg
 ·cases C
end
section
variable {P:å}{tab:Tab}{B:Bd}{w0:æ}{U:Sb}{c:Gh}{o:ê}{a:Act}{σ:Sg}
def aeP (hi:Inv B w0 U c){k v p f:Nat}{s:ø}{J:Ty}{e:TypeId}{l:List J.den}(hk:c.heap[k]? = ä (.cu J e v l))(h:sT (c.rv k) J.size p f s) :
  ∃A cp T,s = .slice A ((l.take f).drop p).length cp∧Rep c.w c.St (chain (toD J) ((l.take f).drop p)) T∧T.length=((l.take f).drop p).length*J.size ∧
   (((l.take f).drop p).length=0∨∃ad,A=ä ad∧∀j u,T[j]? = ä u→c.w.cell? (ad.add j)=ä u):=by
 rcases h with⟨h1,rfl,rfl,rfl⟩|⟨g,n,cap,A,h1,h2,h3,rfl,h5⟩
 ·exact⟨ö,0,[],Ψ,rfl,Ψ,.inl Ψ⟩
 ·obtain⟨rfl,cur,xs,hg,hnc,hcm,hcs,P,R,_,hB⟩:=iK hi hk h1;have r:((l.take f).drop p).length=f-p:=by simp;omega
  have r1:=xZ p Ξ (rV f h3 R);refine⟨A,cap-p,_,by rw[r],r1,bv r1, ?_⟩;rw[r];obtain rfl|⟨h5,h6⟩:=h5
  ·refine .inr ⟨_,rfl,λj u C=>?_⟩;rw[o_,b_]at C;split at C
   ·rw[←P,b_]at C;split at C
    ·rw[cV];simp[World.cell?,hg];simpa using C
    ·cases C
   ·cases C
  ·exact .inl Ω
def aaQ (tk:TabOk P tab)(hi:Inv B w0 U c)(hh:c.heap=σ.heap)(hE:RAs c σ.env a.tmps.toList){fresh:Nat}{out:AV}{f:List HO}(h:OW tab o σ fresh=ä (ü,out,f)) :
  o.guard=ö∧f.length=σ.heap.length∧Ok P B w0 U o a c f out:=by
 have j:RAs c (di σ.env o) (o.op.operands.toList.map a.eval):=vn hE o.op.operands.toList;unfold OW at h;split at h
 next cl hop hgd=>
  refine⟨hgd, ?_⟩;rw[hop]at j;have R:∀b,cl.callee = .builtin b→RAs c (di σ.env o) (cl.args.toList.map a.eval):=λb g=>by simpa[Op.operands,Call.operands,g]using j
  have two:∀(l:List é),l.length=2→∃p q,l=[p,q]:=λl hl=>by
   match l,hl with
   |[p,q],_=>exact⟨p,q,rfl⟩
  split at h
  next g=>
   replace R:=R _ g;generalize di σ.env o=vals at h R;split at h
   ·rename_i s k v lo hi' t1 t2 htys;have hty:cl.argTypes = #[t1,t2]:=D_ (by simpa using htys);obtain⟨p,q,hpq⟩:=two cl.args.toList (by have:=R.length;simpa using this.symm);have r:cl.args = #[p,q]:=D_ (by simpa using hpq);rw[hpq]at R;obtain⟨u,u',e1,h1,h2⟩:=fV (v:=a.eval p) (v':=a.eval q) R;cases e1;split at h
    ·rename_i e12;subst e12;split at h
     ·rename_i e τ τ' e' v' l hel ht hk;split at h
      ·rename_i q1;subst q1;split at h
       ·rename_i l2 hc;obtain⟨et,J⟩:=cast?_some hc;cases et;have J:l2=l:=J;subst J;rw[←hh]at hk;have T:=aeP hi hk (fJ h2 hk);split at h
        ·rename_i k2 v2 t2 l3;split at h
         ·rename_i t3 e3 v3 hk2;split at h
          ·rename_i q2;split at h
           ·rename_i q3;split at h
            ·rename_i q4;split at h
             next l4 hc4=>obtain⟨et,C⟩:=cast?_some hc4;cases et;have C:l4=l3:=C;subst C;subst q2;subst q3;subst q4;simp only[ι,C',υ]at h;obtain⟨k1,rfl,rfl⟩:=h;rw[←hh]at hk2;refine⟨Ψ, ?_⟩;rw[←hh];exact wX hi tk hop g r hty h1 T ht hel hk2 k1
             ·cases h
            ·cases h
           ·cases h
          ·cases h
         ·cases h
        ·split at h
         next hf=>simp only[ι,C',υ]at h;obtain⟨k1,rfl,rfl⟩:=h;rw[←hh]at hf;refine⟨Ψ, ?_⟩;rw[←hh];exact nP hi tk hop g r hty h1 T ht hel hf k1
         ·cases h
        ·cases h
       ·cases h
      ·cases h
     ·cases h
    ·cases h
   ·cases h
  ·cases h
 ·cases h
end
def RA.under {c:Gh}:∀{a:AV} {C:List ø},RA c a C→a.nF=ü→a.under c.heap.length=ü
 |.unk,_,_,_=>rfl
 |.val _ _,_,_,_=>rfl
 |.nil,_,_,_=>rfl
 |.own k v t l,_,⟨s,_,_,T,U,R,h,_⟩,_=>by simpa[AV.under]using ar h
 |.ref _ _,_,_,_=>rfl
 |.box k off,_,⟨cells,h,_⟩,_=>by simpa[AV.under]using ar h
 |.fn f caps,_,⟨g,_,r,_⟩,h=>RA.under (a:=caps) r h
 |.agg p,_,⟨g,_,r,_⟩,h=>RA.under (a:=p) r h
 |.tup p,_,⟨g,_,r,_⟩,h=>RA.under (a:=p) r h
 |.pnil,_,_,_=>rfl
 |.pcons a b,_,⟨v,r,_,P,J⟩,h=>by simp only[AV.nF,θ]at h;simp only[AV.under,θ];exact⟨RA.under P h.1,RA.under J h.2⟩
 |.msl k v lo hi,_,⟨s,_,_,m⟩,_=>by simp only[AV.under,υ];rcases m with⟨_,_,_,_,h,_⟩|h <;> exact ar h
 |.yld j,_,⟨h,_⟩,_=>by simpa[AV.under]using ar h
 |.fix _ _,_,_,_=>rfl
 |.mpt k v i off,_,⟨s,_,_,m⟩,_=>by simp only[AV.under,υ];rcases m with⟨_,_,_,_,h,_⟩|h <;> exact ar h
def RAs.under {c:Gh}:∀{l:List AV} {f:List ø},RAs c l f→l.all AV.nF=ü→l.all (AV.under c.heap.length)=ü
 |[],[],_,_=>rfl
 |a::l,v::f,⟨r,g⟩,h=>by simp only[C?,θ]at h⊢;exact⟨r.under h.1,g.under h.2⟩
def fX {n m:Nat}(h:n≤m):∀{a:AV},a.under n=ü→a.under m=ü
 |.unk,_=>rfl
 |.val _ _,_=>rfl
 |.nil,_=>rfl
 |.own k _ _ _,x=>by simp only[AV.under,υ]at *;omega
 |.ref _ _,_=>rfl
 |.box k _,x=>by simp only[AV.under,υ]at *;omega
 |.fn _ c,x=>fX h (a:=c) x
 |.agg p,x=>fX h (a:=p) x
 |.tup p,x=>fX h (a:=p) x
 |.pnil,_=>rfl
 |.pcons a b,x=>by simp only[AV.under,θ]at *;exact⟨fX h x.1,fX h x.2⟩
 |.cond _ a,x=>fX h (a:=a) x
 |.msl k _ _ _,x=>by simp only[AV.under,υ]at *;omega
 |.yld k,x=>by simp only[AV.under,υ]at *;omega
 |.fix _ _,_=>rfl
 |.mpt k _ _ _,x=>by simp only[AV.under,υ]at *;omega
def Ic {n m:Nat}(h:n≤m){l:List AV}(x:l.all (AV.under n)=ü):l.all (AV.under m)=true:=by rw[P']at *;exact λa f=>fX h (x a f)
structure Lq where
 j:Nat
 l:Nat
 env:List AV
 tmps:List ø
 lrec:Loop
def Ctx (f:List Lq)(p:List (List AV×List ø))(B:Bd)(g:æ):Prop :=
 ∀q∈f,(q.env++[.yld q.j],q.tmps++[.func (.yield q.l) #[] #[]])∈p∧B≤q.l∧g.heap[q.l]? = ä (.loop q.lrec)
def Ctx.more {j:List Lq}{r f:List (List AV×List ø)}{B:Bd}{p l:æ}(h:Ctx j r B p)(J:∀P∈r,P∈f)(C:Og B.F p l):Ctx j f B l:=λq g=>
 ⟨J _ (h q g).1,(h q g).2.1,C.keep _ _ (h q g).2.2 rfl⟩
def MC (C:List (List AV×List ø))(B:Bd)(j:æ)(U:Sb)(p:Nat)(k:AV→List HO→Option AV)(r:AV):Ending→æ→Prop:=λe l=>
 ∃v out f,e = .returned v∧k out f.heap=ä r∧f.w=l∧Inv B j U f∧RA f out [v]∧p≤f.heap.length∧∀g∈C,RAs f g.1 g.2
def JY (P:å)(t:Tgt)(c:Gh)(r:List ø)(R:Ending→æ→Prop):Prop :=
 match t with
 |.fn f=>bA P f∧Calls P f r.toArray c.w R
 |.yld j=>∀l,RA c (.yld j) [.func (.yield l) #[] #[]]→∀(ro:Option Nat) (n:Nat),∃f g assign p,(Instr.yield l r.toArray).run P c.w = .ok (.round l f g assign p) c.w∧RoundIn (RF ro) n P l f g assign p c.w R
def uD (P:å)(call:Ck)(C:List Lq):Prop:=∀t args f k r,call t args f k=ä r →
 ∀(j:List (List AV×List ø)) (B:Bd) (g:æ) (U:Sb) (c:Gh),Inv B g U c→c.heap=f→∀p,RAs c args p→(∀l∈j,RAs c l.1 l.2∧l.1.all (AV.under f.length)=ü)→Ctx C j B g →
  JY P t c p (MC j B g U f.length k r)
def TL (P:å)(R:Yk)(J:List Lq):Prop:=∀j args f k r,R j args f k=ä r →
 ∀(l:List (List AV×List ø)) (B:Bd) (g:æ) (U:Sb) (c:Gh),Inv B g U c→c.heap=f→∀C,RAs c args C→(∀p∈l,RAs c p.1 p.2∧p.1.all (AV.under f.length)=ü)→Ctx J l B g →
  JY P (.yld j) c C (MC l B g U f.length k r)
structure CkOk (P:å)(ck:Callk)(Γ:List Lq):Prop where
 call:uD P ck.call Γ
 iter:∀yk' Γ',TL P yk' Γ'→uD P (ck.iter yk') Γ'
section
variable {P:å}{tab:Tab}{T:Specs}{ck:Callk}{B:Bd}{lo:Nat}{w0:æ}{U:Sb}{a:Act}{fs:List (List AV×List ø)}{σ:Sg}{w:æ}{Γ:List Lq}
def Ol (env:List AV)(f:Option Nat)(u:AV):(tq env f u).length=env.length:=by cases f <;> simp[tq]
def sY (f:List HO)(wr:Option (Nat×HO)):(EC f wr).length=f.length:=by
 cases wr with
 |none=>rfl
 |some p=>obtain⟨k,g⟩:=p;simp[EC]
def jY (fs:List (List AV×List ø))(lo:Nat)(B:Bd)(w0:æ)(U:Sb)(g:Nat)(k:Sg→Option AV)(r:AV):ë→Act→æ→Prop
 |.normal,a,w=>∃f,k f=ä r∧Rel fs lo B w0 U f a w∧g≤f.heap.length
 |_,_,_=>False
variable{ro:Option Nat}{n:Nat}{ops:Array ê}{o:ê}
def CI (ckok:CkOk P ck Γ)(hcx:Ctx Γ fs B w0){i:Nat}(hi:ops[i]? = ä o){t:Tgt}{args:List AV}(he:cI o σ.env=ä (t,args)){k:AV→List HO→Option AV}{r:AV}(hck:ck.call t args σ.heap k=ä r)
  (hlo:lo≤σ.heap.length) (hnd:fw ro o) (hr:Rel fs lo B w0 U σ a w) {Q:ë→Act→æ→Prop} {K:Act→æ→Prop}
  (hK:∀out heap' a' w',k out heap'=ä r→σ.heap.length≤heap'.length→Rel fs lo B w0 U ⟨tq σ.env o.dst out,heap'⟩ a' w'→K a' w'):wpOpIn (RF ro) n P ops Q i K a w:=by
 obtain⟨c,w1,rfl,hh,hI,hE,hdf,hfs⟩:=hr;have hcx':Ctx Γ ((σ.env,a.tmps.toList)::fs) B w1:=hcx.more (λfr h=>e_ _ h) hdf.2.1;have post:∀v w',MC ((σ.env,a.tmps.toList)::fs) B w1 U σ.heap.length k r (.returned v) w'→K (a.put o.dst v) w':=by rintro v w' ⟨v',out,c',e,hk,rfl,hI',hR',hle,hfs'⟩;cases e;exact hK out c'.heap _ _ hk hle ⟨c',w1,rfl,rfl,hI',dW (σ:=⟨σ.env,c'.heap⟩) (hfs' (σ.env,a.tmps.toList) Ψ) hR',hdf.put o.dst v,λfr hfr=>⟨hfs' fr (by simp[hfr]),(hfs fr hfr).2⟩⟩
 have frames:σ.env.all AV.nF=ü→∀fr∈(σ.env,a.tmps.toList)::fs,RAs c fr.1 fr.2∧fr.1.all (AV.under σ.heap.length)=true:=λhnc fr hfr=>by
  obtain rfl|hfr:=c_.1 hfr
  ·exact⟨hE,by rw[←hh];exact hE.under hnc⟩
  ·exact⟨(hfs fr hfr).1,Ic hlo (hfs fr hfr).2⟩
 have hv:RAs c (di σ.env o) (o.op.operands.toList.map a.eval):=vn hE o.op.operands.toList;unfold cI at he;split at he
 next cl hop hgd=>
  have hw:Region.wanted o (yielded ops a.tmps)=true:=by simp[Region.wanted,hgd]
  split at he
  next x f' caps args' hcl hraw=>
   split at he
   ·rename_i hnc;cases he;rw[hraw,hop]at hv;have hv:RAs c (.fn f' caps::args') (a.eval x::cl.args.toList.map a.eval):=by simpa[Op.operands,Call.operands,hcl]using hv
    obtain⟨hfn,hargs⟩:=hv;obtain⟨cs,e,hcs,hch⟩:=hfn;simp at e;obtain⟨⟨fn,f1,f2,f3⟩,hcalls⟩:=ckok.call _ _ _ _ _ hck ((σ.env,a.tmps.toList)::fs) B w1 U c hI hh _ (hargs.append (hcs.parts hch)) (frames hnc) hcx';have hbody:¬fn.body=none:=by cases hb:fn.body <;> simp_all
    have f3:¬fn.name = "runtime.NumGoroutine":=by simpa using f3
    have hrun:(è a.eval o).run P c.w = .ok (.enter f' (cl.args.toList.map a.eval++cs).toArray) c.w:=by have e2:cl.args.map a.eval++cs.toArray=(cl.args.toList.map a.eval++cs).toArray:=D_ Ψ;unfold è;simp[hop,resolve,hcl,e,Deferred.ofValue,π,n_,invoke,callFunc,p?,f1,e2];simp[f3,hbody]
    unfold wpOpIn;simp[hi];rw[Θ hw];refine wW hnd ?_;unfold Oper.wp;rw[hrun];refine hcalls.mono ?_;rintro e w' h;obtain⟨v,_,_,rfl,_⟩:=id h;exact post v w' h
   ·cases he
  next x j args' hcl hraw=>
   split at he
   ·rename_i hnc;simp only[ι,C']at he;obtain⟨rfl,rfl⟩:=he;rw[hraw,hop]at hv;have hv:RAs c (.yld j::args') (a.eval x::cl.args.toList.map a.eval):=by simpa[Op.operands,Call.operands,hcl]using hv
    obtain⟨hfn,hargs⟩:=hv;have hfn':=hfn;obtain⟨_,e⟩:=hfn;simp at e;rw[e]at hfn';obtain⟨f,tmps,assign,body,hy,hround⟩:=ckok.call _ _ _ _ _ hck ((σ.env,a.tmps.toList)::fs) B w1 U c hI hh _ hargs (frames hnc) hcx' _ hfn' ro (n-1);have hrun:(è a.eval o).run P c.w = .ok (.round (c.lp j) f tmps assign body) c.w:=by have e2:cl.args.map a.eval=(cl.args.toList.map a.eval).toArray:=D_ Ψ;unfold è;simp[hop,resolve,hcl,e,Deferred.ofValue,π,n_,invoke,e2,hy]
    unfold wpOpIn;simp[hi];rw[Θ hw];refine⟨λ_ _=>trivial, ?_⟩;have es:o.semAt (RF ro).round a.eval=è a.eval o:=by
     obtain rfl|hd:=hnd
     ·rfl
     ·exact Oper.semAt_eq _ _ _ hd
    rw[es,hrun,Oper.uponIn_round];refine⟨(λq=>by cases q),hround.mono ?_⟩;rintro e w' h;obtain⟨v,_,_,rfl,_⟩:=id h;exact post v w' h
   ·cases he
  ·cases he
 ·cases he
def Cl (tk:TabOk P tab){i fresh:Nat}(hi:ops[i]? = ä o){out:AV}{f:List HO}(h:OW tab o σ fresh=ä (ü,out,f))(C:fw ro o)
  (hr:Rel fs lo B w0 U σ a w) {Q:ë→Act→æ→Prop} {K:Act→æ→Prop} (hK:∀a' w',f.length=σ.heap.length→Rel fs lo B w0 U ⟨tq σ.env o.dst out,f⟩ a' w'→K a' w'):wpOpIn (RF ro) n P ops Q i K a w:=by
 obtain⟨c,T,rfl,hh,hI,hE,R,l⟩:=hr;have g:∀v,uB B w0 T (a.put o.dst v).defers:=λv=>R.put o.dst v;obtain⟨J,j,r⟩:=aaQ (P:=P) tk hI hh hE h;unfold wpOpIn;simp[hi];have hw:Region.wanted o (yielded ops a.tmps)=true:=by simp[Region.wanted,J]
 rw[Θ hw];refine wW C ?_;exact r K Q (λv c' h1 h2 h3 h4=>hK _ _ j ⟨c',T,rfl,h1,h2,dW (σ:=⟨σ.env,c'.heap⟩) (hE.mono h3) h4,g v,λfr p=>⟨(l fr p).1.mono h3,(l fr p).2⟩⟩)
def bt {ro:Option Nat}{n:Nat}(tk:TabOk P tab)(ts:SpecsOk P T)(j:CkOk P ck Γ)(hcx:Ctx Γ fs B w0){ops:Array ê}(R:∀o∈ops.toList,fw ro o){C:Nat}{k:Sg→Option AV}{r:AV}:∀(l:List ê) (i:Nat) (σ:Sg) (a:Act) (w:æ),ops.toList.drop i=l→C+ops.size≤σ.heap.length→lo≤σ.heap.length →
  aQ tab T ck ops.toList C i l σ k=ä r→Rel fs lo B w0 U σ a w→wpOpsIn (RF ro) n P ops (jY fs lo B w0 U (C+ops.size) k r) (List.range' i (ops.size-i)) a w
 |[],i,σ,a,w,hd,hb,hlo,h,hr=>by
  have hsz:ops.size-i=0:=by have:=l_ List.length hd;simpa using this
  rw[hsz];exact⟨σ,h,hr,hb⟩
 |o::l,i,σ,a,w,hd,hb,hlo,h,hr=>by
  have hlt:i<ops.size:=by have:=l_ List.length hd;simp at this;omega
  have J:ops[i]? = ä o:=by
   have:(ops.toList.drop i)[0]? = ä o:=by rw[hd];rfl
   rw[o_]at this;simpa using this
  have hd':ops.toList.drop (i+1)=l:=by rw[←List.drop_drop,hd];rfl
  have hno:fw ro o:=R o (z_.2 (q? J));rw[show ops.size-i=(ops.size-(i+1))+1 by omega,e?,wpOpsIn_cons];simp[aQ]at h;split at h
  next d hstep=>
   cases hc:d.xb with
   |false=>rw[hc]at h;cases h
   |true =>rw[hc]at h;exact Eq tk ts J hstep hc Ω hno hr λa' w' p=>bt tk ts j hcx R l (i+1) (d.ke σ) a' w' hd' (by simpa[Dl.ke,sY]using hb) (by simpa[Dl.ke,sY]using hlo) h p
  ·split at h
   ·rename_i b out g hm;cases b with
    |false=>cases h
    |true=>exact Cl tk J hm hno hr λa' w' hl p=>bt tk ts j hcx R l (i+1) ⟨tq σ.env o.dst out,g⟩ a' w' hd' (by simpa[hl]using hb) (by simpa[hl]using hlo) h p
   split at h
   next f args he=>exact CI j hcx J he h hlo hno hr λout g a' w' hk hle p=>bt tk ts j hcx R l (i+1) ⟨tq σ.env o.dst out,g⟩ a' w' hd' (ξ hb hle) (ξ hlo hle) hk p
   ·cases h
def Yw {c:Gh}{u:AV}{v:ø}(h:RA c u [v]):RA c (clr u) [v]:=by
 cases u with
 |cond _ _=>exact⟨_,rfl⟩
 |_=>exact h
def G1 {c:Gh}:∀{l:List AV} {f:List ø},RAs c l f→RAs c (l.map clr) f
 |[],[],_=>trivial
 |_::_,_::_,⟨a,b⟩=>⟨Yw a,G1 b⟩
def Rel.clr (h:Rel fs lo B w0 U σ a w):Rel fs lo B w0 U ⟨σ.env.map Abs.clr,σ.heap⟩ a w:=by obtain⟨c,f,g,j,l,p,r⟩:=h;exact⟨c,f,g,j,l,G1 p,r⟩
def Rel.more (h:Rel fs lo B w0 U σ a w)(n:Nat):Rel fs lo B w0 U ⟨σ.env,σ.heap++List.replicate n .none⟩ a w:=by
 obtain⟨c,w1,hw,hh,j,hE,hdf,T⟩:=h;have g:∀(k:Nat) (x:HO),(c.heap++List.replicate n HO.none)[k]? = ä x→x≠HO.none→c.heap[k]? = ä x:=by
  intro k x r P;obtain hlt|hge:=i_ k c.heap.length
  ·rwa[I' hlt]at r
  ·rw[h_ hge,alK]at r;split at r
   ·exact(P (Δ r).symm).elim
   ·cases r
 have f:∀(k:Nat) (x:HO),c.heap[k]? = ä x→(c.heap++List.replicate n HO.none)[k]? = ä x:=λk x r=>by rw[I' (ar r)];exact r
 let C:Gh:={ c with heap:=c.heap++List.replicate n .none };have ev:Ev c C:=⟨Sb.le.refl _,λ_ _ _ _ x=>x,λk cells x=>⟨cells,f k _ x,rfl⟩,λk t e v x=>⟨t,e,v,f k _ x,ε _,λ_=>rfl⟩,λk t e v l x=>.inl ⟨v,l,f k _ x,ε _,λ_=>rfl⟩,λk x=>f k _ x,λ_ _=>rfl⟩;have J:∀k,obk C k=obk c k:=λk=>by
  unfold obk;cases R:c.heap[k]? with
  |some x=>rw[show C.heap[k]? = ä x from f k x R]
  |none=>
   have:C.heap[k]? = ö∨C.heap[k]? = ä .none:=by
    cases p:C.heap[k]? with
    |none=>exact .inl rfl
    |some x=>
     refine .inr ?_;cases x with
     |none=>rfl
     |box cells=>have:=g k _ p Ψ;rw[R]at this;cases this
     |row t e v=>have:=g k _ p Ψ;rw[R]at this;cases this
     |cu t e v l=>have:=g k _ p Ψ;rw[R]at this;cases this
     |dead=>have:=g k _ p Ψ;rw[R]at this;cases this
   obtain h|h:=this <;> rw[h]
 refine⟨C,w1,hw,by simp[C,hh],⟨j.below,j.size,j.to,j.st0,j.stN,λk cells x=>?_,λk t e v x=>j.row k t e v (g k _ x Ψ),λk k' b P h1 h2=>?_,λk t e v l x=>j.cu k t e v l (g k _ x Ψ),j.drawn,λk b hb=>j.fo k b (by rw[J]at hb;exact hb),j.fl,j.j0,λb e cap n x=>(j.vh b e cap n x).imp id λq=>q.keep rfl (λ_ y=>y) λk y=>by rw[J]at y;exact y⟩,hE.mono ev,hdf,λfr hfr=>⟨(T fr hfr).1.mono ev,(T fr hfr).2⟩⟩
 ·obtain⟨e7,t,h1,h2,h3,h4⟩:=j.box k cells (g k _ x Ψ);exact⟨e7,t,h1,h2,h3,h4.mono ev⟩
 ·rw[J]at h1 h2;exact j.sep k k' b P h1 h2
def Rel.drewW (h:Rel fs lo B w0 U σ a w):Rel fs lo B w0 U σ a { w with drawn:=w.drawn+1 }:=by obtain⟨c,r,rfl,C,J,P,j,f⟩:=h;obtain⟨R,p⟩:=J.drew;exact⟨{ c with w:=c.w.drew },r,rfl,C,R,P.mono p,j,λl g=>⟨(f l g).1.mono p,(f l g).2⟩⟩
end
def e8:∀(l:List ê) (f:List Nat) (i:Nat),i<f.length→(aK l f).getD i 0=f.getD i 0
 |[],f,i,_=>by simp[aK]
 |o::l,f,i,h=>by rw[aK,e8 l _ i Ξ];simp[List.getD,I' h]
def ua {g:List Nat}:∀(l:List Edge) (s q:Nat),(l.foldl (λs e=>if Region.binds .any e then s ||| 2^e.on ||| g.getD e.on 0 else s) s).testBit q=ü →
  s.testBit q=ü∨∃e∈l,Region.binds .any e=ü∧(q=e.on∨(g.getD e.on 0).testBit q=ü)
 |[],s,q,h=>.inl h
 |e::l,s,q,h=>by
  simp at h;obtain f|⟨C,p,j,r⟩:=ua l _ q h
  ·split at f
   ·rename_i j;simp at f;rcases f with(f|f)|f
    ·exact .inl f
    ·refine .inr ⟨e,Ψ,j,.inl ?_⟩;rw[Nat.testBit_two_pow]at f;exact(t_ f).symm
    ·exact .inr ⟨e,Ψ,j,.inr f⟩
   ·exact .inl f
  ·exact .inr ⟨C,by simp[p],j,r⟩
def iv:∀(l:List ê) (f:List Nat) (i:Nat) (o:ê),l[i]? = ä o→bU f.length l=ü→∀q,((aK l f).getD (f.length+i) 0).testBit q=ü →
  ∃e∈o.after.toList,Region.binds .any e=ü∧(q=e.on∨((aK l f).getD e.on 0).testBit q=ü)
 |[],f,i,o,h,_,_,_=>by simp at h
 |x::l,f,0,o,h,hok,q,hq=>by
  simp at h;subst h;simp only[bU,θ,P']at hok;rw[aK,e8 l _ _ Ψ]at hq;simp only[akU,List.getD,h_ (ε _),alL,ake,alo]at hq;obtain h1|⟨e,p,r,g⟩:=ua _ _ _ hq
  ·simp at h1
  ·refine⟨e,p,r,g.imp id λg=>?_⟩;have j:e.on<f.length:=by have:=hok.1 e p;simpa[r]using this
   rw[aK,e8 l _ _ Ξ];have:=j;simpa[List.getD,I' this]using g
 |x::l,f,i+1,o,h,hok,q,hq=>by
  simp[bU]at hok;simp at h;have:=iv l (f++[x.after.toList.foldl (λs e=>if Region.binds .any e then s ||| 2^e.on ||| f.getD e.on 0 else s) 0]) i o h (by simpa using hok.2) q (by
   rw[aK]at hq;rw[show(f++[x.after.toList.foldl (λs e=>if Region.binds .any e then s ||| 2^e.on ||| f.getD e.on 0 else s) 0]).length+i=f.length+(i+1)by simp;omega];exact hq)
  rw[aK];exact this
section
variable {P:å}{tab:Tab}{T:Specs}{ck:Callk}{B:Bd}{lo:Nat}{w0:æ}{U:Sb}{fs:List (List AV×List ø)}
def aX (g:List Dl)(L:List Nat)(f:Sg):Sg:=L.foldl (λs j=>match g[j]? with|some d=>d.ke s|none=>s) f
def oh (d:Dl)(f:Sg):(d.ke f).env.length=f.env.length:=Ol _ _ _
def kO (d:Dl)(f:Sg):(d.ke f).heap.length=f.heap.length:=sY _ _
def bM (g:List Dl)(j:Nat)(L:List Nat)(f:Sg):aX g (j::L) f=aX g L (match g[j]? with|some d=>d.ke f|none=>f):=rfl
def xd (f:List Dl)(L j:List Nat)(g:Sg):aX f (L++j) g=aX f j (aX f L g):=by simp[aX]
def bu (g:List Dl):∀(L:List Nat) (f:Sg),(aX g L f).heap.length=f.heap.length
 |[],f=>rfl
 |j::L,f=>by
  rw[bM,bu g L];split
  ·exact kO _ _
  ·rfl
def gK {f:Type}(l:List f)(i j:Nat)(x d:f):(l.set i x).getD j d=if i=j then(if i<l.length then x else d)else l.getD j d:=by
 simp only[List.getD,List.getElem?_set];split
 ·split <;> simp
 ·rfl
def eZ (l:List Dl)(t:Nat)(p:Nat→Bool)(C:∀j d,l[j]? = ä d→d.dst=ä t→p j=ü):∀(L:List Nat) (r f:Sg),r.env.getD t .unk=f.env.getD t .unk→r.env.length=f.env.length →
  (aX l L r).env.getD t .unk=(aX l (L.filter p) f).env.getD t .unk
 |[],r,f,h,_=>h
 |j::L,r,f,h,hl=>by
  rw[bM];cases P:l[j]? with
  |none=>
   simp only;cases g:p j with
   |true=>rw[akg g,bM,P];exact eZ l t p C L r f h hl
   |false=>rw[akh (by simp[g])];exact eZ l t p C L r f h hl
  |some d=>
   simp only;cases g:p j with
   |true=>
    rw[akg g,bM,P];refine eZ l t p C L _ _ ?_ (by simp[oh,hl]);simp only[Dl.ke,tq];cases T:d.dst with
    |none=>exact h
    |some R=>simp only[gK,hl,h]
   |false=>
    rw[akh (by simp[g])];refine eZ l t p C L _ _ ?_ (by simp[oh,hl]);simp only[Dl.ke,tq];cases T:d.dst with
    |none=>exact h
    |some R=>
     have J:R≠t:=λe=>by subst e;have:=C j d P T;rw[g]at this;cases this
     simp only[gK,ω J,h]
def dy (l:List Dl)(k:Nat)(p:Nat→Bool)(C:∀j d J,l[j]? = ä d→d.wr=ä (k,J)→p j=ü):∀(L:List Nat) (r f:Sg),r.heap.getD k .none=f.heap.getD k .none→r.heap.length=f.heap.length →
  (aX l L r).heap.getD k .none=(aX l (L.filter p) f).heap.getD k .none
 |[],r,f,h,_=>h
 |j::L,r,f,h,hl=>by
  rw[bM];cases R:l[j]? with
  |none=>
   simp only;cases g:p j with
   |true=>rw[akg g,bM,R];exact dy l k p C L r f h hl
   |false=>rw[akh (by simp[g])];exact dy l k p C L r f h hl
  |some d=>
   simp only;cases g:p j with
   |true=>
    rw[akg g,bM,R];refine dy l k p C L _ _ ?_ (by simp[kO,hl]);simp only[Dl.ke,EC];cases U:d.wr with
    |none=>exact h
    |some x=>obtain⟨T,J⟩:=x;simp only[gK,hl,h]
   |false=>
    rw[akh (by simp[g])];refine dy l k p C L _ _ ?_ (by simp[kO,hl]);simp only[Dl.ke,EC];cases U:d.wr with
    |none=>exact h
    |some x=>
     obtain⟨T,J⟩:=x;have P:T≠k:=λe=>by subst e;have:=C j d J R U;rw[g]at this;cases this
     simp only[gK,ω P,h]
def qO {J:List ê}{r:Nat}:∀(l:List ê) (i:Nat) (C:Sg) (p:List Dl) (U:List (Option Nat)),Ed tab T J r i l C=ä (p,U)→p.length=U.length∧p.length≤l.length∧l.length≤p.length+1 ∧
  ∀j (R:j<p.length),∃o,l[j]? = ä o∧wP tab T J (r+(i+j)) o (aX p (List.range j) C)=ä p[j] ∧
   U[j]? = ä (match gOf (aX p (List.range j) C).env J o with|some g=>lG T o (r+(i+j)) g (di (aX p (List.range j) C).env o)|none=>ö)
 |[],i,C,p,U,h=>by cases h;exact⟨rfl,Ψ,Ψ,λj R=>by simp at R⟩
 |o::l,i,C,p,U,h=>by
  simp[Ed]at h;split at h
  next d hd=>
   split at h
   ·rename_i P ts' hr;cases h;obtain⟨h1,h2,h3,h4⟩:=qO l (i+1) (d.ke C) P ts' hr;refine⟨by simp[h1],by simp;omega,by simp;omega,λj R=>?_⟩;cases j with
    |zero=>exact⟨o,rfl,hd,rfl⟩
    |succ j=>
     obtain⟨o',g1,g2,g3⟩:=h4 j (by simpa using R);have f:aX (d::P) (List.range (j+1)) C=aX P (List.range j) (d.ke C):=by rw[alR,bM];simp[ake,aX,List.foldl_map,akf,Nat.succ_eq_add_one]
     refine⟨o',by simpa using g1, ?_, ?_⟩
     ·rw[f,show i+(j+1)=i+1+j by omega];simpa using g2
     ·rw[f,show i+(j+1)=i+1+j by omega];simpa using g3
   ·cases h
  ·split at h
   ·cases h;exact⟨rfl,Ψ,Ψ,λj R=>by simp at R⟩
   ·cases h
def N1 {U:List ê}{R:Nat}{k:Sg→Option AV}{r:AV}:∀(l:List ê) (i:Nat) (C:Sg) (j:List Dl) (ts:List (Option Nat)),Ed tab T U R i l C=ä (j,ts)→aQ tab T ck U R i l C k=ä r →
  (∀d∈j,d.xb=ü)∧(j.length=l.length→k (aX j (List.range j.length) C)=ä r) ∧
  (l.length=j.length+1→∃o,l[j.length]? = ä o∧((∃fr out g,OW tab o (aX j (List.range j.length) C) fr=ä (ü,out,g)∧k ⟨tq (aX j (List.range j.length) C).env o.dst out,g⟩=ä r) ∨
   ∃f args,cI o (aX j (List.range j.length) C).env=ä (f,args) ∧
   ck.call f args (aX j (List.range j.length) C).heap (λcz g=>k ⟨tq (aX j (List.range j.length) C).env o.dst cz,g⟩)=ä r))
 |[],i,C,j,ts,h,p=>by cases h;exact⟨Ψ,λ_=>p,λh=>by simp at h⟩
 |o::l,i,C,j,ts,h,p=>by
  simp[Ed]at h;simp[aQ]at p;split at h
  next d hd=>
   simp[hd]at p;split at h
   ·rename_i P ts' htr;cases h;cases hc:d.xb with
    |false=>rw[hc]at p;cases p
    |true=>
     rw[hc]at p;obtain⟨h1,h2,h3⟩:=N1 l (i+1) (d.ke C) P ts' htr p;have J:aX (d::P) (List.range (P.length+1)) C=aX P (List.range P.length) (d.ke C):=by rw[alR,bM];simp[ake,aX,List.foldl_map,akf,Nat.succ_eq_add_one]
     refine⟨λx hx=>?_,λhl=>?_,λhl=>?_⟩
     ·obtain rfl|hx:=c_.1 hx
      ·exact hc
      ·exact h1 x hx
     ·simp;rw[J];exact h2 (by simpa using hl)
     ·simp;rw[J];obtain⟨o',q1,q2⟩:=h3 (by simpa using hl);exact⟨o',by simpa using q1,q2⟩
   ·cases h
  next hd=>
   simp[hd]at p;split at h
   ·cases h;refine⟨Ψ,λhl=>by simp at hl,λ_=>?_⟩;split at p
    ·rename_i b out g hm;cases b with
     |false=>cases p
     |true=>exact⟨o,rfl,.inl ⟨_,out,g,hm,p⟩⟩
    ·split at p
     next f args he=>exact⟨o,rfl,.inr ⟨f,args,he,p⟩⟩
     ·cases p
   ·cases h
end
variable{q:Nat→Bool}{m:Nat}
def vV {i:Nat}(r:i≤m)(l:∀j,j<m→q j=ü→j<i):(List.range m).filter q=(List.range i).filter q:=by
 have f:List.range m=List.range i++List.range' i (m-i):=by have:=List.range'_append_1 (s:=0) (m:=i) (n:=m-i);rw[show 0+i=i by omega,show i+(m-i)=m by omega]at this;rw[ajY,ajY,this]
 rw[f,W?];have:(List.range' i (m-i)).filter q=[]:=by rw[alS];intro j p;rw[List.mem_range'_1]at p;intro g;have:=l j Ω g;omega
 rw[this,Y?]
def CA {p :Nat→Bool}{i:Nat}(g:i<m)(r:∀j,j<m→q j=ü→j<i)(f:∀j,j<m→p j=(q j||decide (j=i))):(List.range m).filter p=(List.range m).filter q++[i]:=by
 rw[vV (alP g) r,vV (i:=i+1) Ω (λj l h=>by
  rw[f j l,aj8,υ]at h;obtain h|h:=h
  ·have:=r j l h;omega
  ·omega),List.range_succ,W?]
 congr 1
 ·apply A?;intro j l;rw[N_]at l;rw[f j Ω];simp;omega
 ·simp[f i g]
def CB {f :Nat→Bool}(h:∀j,j<m→q j=f j):(List.range m).filter q=(List.range m).filter f:=by apply A?;intro j g;rw[N_]at g;exact h j g
def PP {g:Type}{l f:List g}{d:g}(j:l.length=f.length)(h:∀i,l.getD i d=f.getD i d):l=f:=by apply List.ext_getElem j;intro i r p;have:=h i;simpa[List.getD,ζ r,ζ p]using this
section
variable {P:å}{tab:Tab}{T:Specs}{ck:Callk}{B:Bd}{lo:Nat}{w0:æ}{U:Sb}{fs:List (List AV×List ø)}
variable{o:ê}{i:Nat}{D:Nat→Bool}
def Wq {j:List ê}{fresh:Nat}{p:Sg}{d:Dl}(h:wP tab T j fresh o p=ä d) :
  d.dst=o.dst∧∀k l,d.wr=ä (k,l)→cW T o.op=ß∧(match gOf p.env j o with|some g=>lG T o fresh g (di p.env o)|none=>ö)=ä k:=by
 unfold wP at h;split at h
 next g hg=>
  unfold T2 at h;split at h
  ·split at h
   ·cases h;refine⟨rfl,λk l f=>?_⟩;simp only at f;split at f
    ·cases f
    ·rename_i r;split at f
     next k' C=>cases f;rw[hg];exact⟨by simpa using r,C⟩
     ·cases f
   ·cases h
  ·split at h
   ·split at h
    ·cases h;exact⟨rfl,λk l f=>by cases f⟩
    ·cases h
   ·split at h
    ·cases h;exact⟨rfl,λk l f=>by cases f⟩
    ·cases h
 ·cases h
def zx {f:List ê}{t:Nat}(h:Operand.tmp t∈o.op.operands.toList):t∈eo f o:=by unfold eo;rw[q'];exact .inl (List.mem_filterMap.2 ⟨_,h,rfl⟩)
def WX {f:List ê}{e g:List AV}(h:∀t∈eo f o,e.getD t .unk=g.getD t .unk):di e o=di g o:=by
 unfold di;apply aj5;intro x j;cases x with
 |tmp t=>exact h t (zx j)
 |_=>rfl
def X6 {f:List ê}{e l:List AV}(h:∀t∈eo f o,e.getD t .unk=l.getD t .unk):gOf e f o=gOf l f o:=by
 unfold gOf;cases r:o.guard with
 |none=>rfl
 |some p=>
  obtain⟨j,g⟩:=p;simp only;have:zT e f j g=zT l f j g:=by
   unfold zT;split
   next d hd=>have:=h d (by unfold eo;rw[q'];exact .inr (by simp[r,hd]));rw[this]
   ·rfl
  rw[this]
structure Drawn (tab:Tab)(T:Specs)(ops:Array ê)(base:Nat)(J:Sg)(ds:List Dl)(ts:List (Option Nat)):Prop where
 tr:Ed tab T ops.toList base 0 ops.toList J=ä (ds,ts)
 ok:L4 T ops.toList ts (aK ops.toList [])=ü
variable {ops:Array ê}{base:Nat}{J:Sg}{ds:List Dl}{ts:List (Option Nat)}
def Drawn.pair (h:Drawn tab T ops base J ds ts){j:Nat}(f:i<j)(g:j<ops.size):if j<ts.length then fy T ops.toList (aK ops.toList []) ts i j=ü else((aK ops.toList []).getD j 0).testBit i=true:=by
 have:=h.ok;simp[L4]at this;have:=this.2 j (by simpa using g) i f;split
 next hlt=>simpa[hlt]using this
 next hlt=>simpa[hlt]using this
def Drawn.edges (h:Drawn tab T ops base J ds ts):bU 0 ops.toList=true:=by have:=h.ok;simp[L4]at this;exact this.1
def DC (ops:Array ê)(D:Nat→Bool):Prop:=∀j,D j=ü→∀i,((aK ops.toList []).getD j 0).testBit i=ü→D i=ü
def CN {T:Specs}{l:List ê}{g f:ê}{C r:Option Nat}(h:apart T l g f C r=ü) :
  (∀d,g.dst=ä d→f.dst≠ä d)∧(∀d,g.dst=ä d→d ∉ eo l f)∧(∀d,f.dst=ä d→d ∉ eo l g)∧(∀k,C=ä k→r=ä k→cW T g.op=ü∧cW T f.op=ü):=by
 simp[apart]at h;obtain⟨⟨⟨P,J⟩,h3⟩,h4⟩:=h;refine⟨λd e p=>?_,λd e j=>?_,λd e j=>?_,λk e p=>?_⟩
 ·simp[IU,e,p]at P
 ·rw[e]at J;simp[j]at J
 ·rw[e]at h3;simp[j]at h3
 ·subst e;subst p;simpa[IU]using h4
def Drawn.order (h:Drawn tab T ops base J ds ts)(hdc:DC ops D){j:Nat}(hi:i<ds.length)(hj:j<ds.length)(hne:j≠i){P oj:ê}(hoi:ops[i]? = ä P)(hoj:ops[j]? = ä oj)(hDi:D i=ß)
  (R:∀q,((aK ops.toList []).getD i 0).testBit q=ü→D q=ü)
  (g:(∃t,oj.dst=ä t∧(t∈eo ops.toList P∨P.dst=ä t))∨(∃k,ts.getD i ö=ä k∧ts.getD j ö=ä k∧cW T oj.op=ß)∨(∃k,ts.getD i ö=ä k∧ts.getD j ö=ä k∧cW T P.op=ß)):D j=decide (j<i):=by
 obtain⟨t1,t2,t3,_⟩:=qO _ _ _ _ _ h.tr;have hsz:ds.length≤ops.size:=by simpa using t2
 have g1:ops.toList[i]? = ä P:=by simpa using hoi
 have g2:ops.toList[j]? = ä oj:=by simpa using hoj
 obtain hlt|hge:=i_ j i
 ·have f:=h.pair hlt Ω;rw[Θ Ω]at f;simp[fy,g1,g2]at f;obtain f|f:=f
  ·rw[R j f];simp[hlt]
  ·exfalso;obtain⟨a1,a2,a3,U⟩:=CN f;rcases g with⟨t,e,p|p⟩|⟨k,C,r,l⟩|⟨k,C,r,l⟩
   ·exact a2 t e p
   ·exact a1 t e p
   ·have:=(U k r C).1;rw[l]at this;cases this
   ·have:=(U k r C).2;rw[l]at this;cases this
 ·have hgt:i<j:=Ω
  have f:=h.pair hgt Ω;rw[Θ Ω]at f;simp[fy,g1,g2]at f;have hD:D j=false:=by
   obtain f|f:=f
   ·cases hDj:D j with
    |false=>rfl
    |true=>have:=hdc j hDj i f;rw[hDi]at this;cases this
   ·exfalso;obtain⟨a1,a2,a3,U⟩:=CN f;rcases g with⟨t,e,p|p⟩|⟨k,C,r,l⟩|⟨k,C,r,l⟩
    ·exact a3 t e p
    ·exact a1 t p e
    ·have:=(U k C r).2;rw[l]at this;cases this
    ·have:=(U k C r).1;rw[l]at this;cases this
  rw[hD];simp;omega
def stD (ds:List Dl)(D:Nat→Bool)(J:Sg):Sg:=aX ds ((List.range ds.length).filter D) J
def Drawn.at_ (h:Drawn tab T ops base J ds ts)(R:i<ds.length):∃o,ops[i]? = ä o∧wP tab T ops.toList (base+i) o (aX ds (List.range i) J)=ä ds[i] ∧
  ts.getD i ö=(match gOf (aX ds (List.range i) J).env ops.toList o with|some g=>lG T o (base+i) g (di (aX ds (List.range i) J).env o)|none=>ö)∧ds[i].dst=o.dst∧(∀k f,ds[i].wr=ä (k,f)→cW T o.op=ß∧ts.getD i ö=ä k):=by
 obtain⟨t1,t2,t3,P⟩:=qO _ _ _ _ _ h.tr;obtain⟨o,U,j,p⟩:=P i R;simp at j p;have r:ts.getD i ö=(match gOf (aX ds (List.range i) J).env ops.toList o with|some g=>lG T o (base+i) g (di (aX ds (List.range i) J).env o)|none=>ö):=by rw[List.getD,p];exact rfl
 obtain⟨d1,C⟩:=Wq j;exact⟨o,by simpa using U,j,r,d1,λk f l=>⟨(C k f l).1,by rw[r];exact(C k f l).2⟩⟩
def Drawn.step (h:Drawn tab T ops base J ds ts)(hdc:DC ops D)(hi:i<ds.length)(P:D i=ß)(r:∀q,((aK ops.toList []).getD i 0).testBit q=ü→D q=ü) :
  ∃o,ops[i]? = ä o∧wP tab T ops.toList (base+i) o (stD ds D J)=ä ds[i]:=by
 obtain⟨o,ho,U,R,hdst,hwr⟩:=h.at_ hi;refine⟨o,ho, ?_⟩;have henv:∀t∈eo ops.toList o,(stD ds D J).env.getD t .unk=(aX ds (List.range i) J).env.getD t .unk:=by
  intro t ht;have p1:=eZ ds t (λj=>match ds[j]? with|some d=>decide (d.dst=ä t)|none=>ß) (λj d h1 h2=>by simp[h1,h2]) ((List.range ds.length).filter D) J J rfl rfl;have p2:=eZ ds t (λj=>match ds[j]? with|some d=>decide (d.dst=ä t)|none=>ß) (λj d h1 h2=>by simp[h1,h2]) (List.range i) J J rfl rfl;unfold stD;rw[p1,p2,F?];congr 3;rw[vV (i:=i) (alP hi) ?_]
  ·apply A?;intro j C;rw[N_]at C;have p:j<ds.length:=Ω
   simp only[ζ p];cases hdt:decide (ds[j].dst=ä t)with
   |false=>simp
   |true =>obtain⟨oj,l,_,_,hd,_⟩:=h.at_ p;have hm:=h.order hdc hi p Ω ho l P r (.inl ⟨t,by rw[←hd];exact t_ hdt,.inl ht⟩);rw[hm];simp[C]
  ·intro j C f;simp only[ζ C,θ]at f;obtain hlt|heq|hgt:=z? j i
   ·exact hlt
   ·subst heq;rw[P]at f;exact absurd f.2 Ψ
   ·exfalso;obtain⟨oj,l,_,_,hd,_⟩:=h.at_ C;have hm:=h.order hdc hi C Ω ho l P r (.inl ⟨t,by rw[←hd];exact t_ f.1,.inl ht⟩);rw[hm]at f;simp at f;omega
 have e1:=X6 (o:=o) henv;have e2:=WX (o:=o) henv;unfold wP at U⊢;rw[e1,e2];split at U
 next g hg=>
  simp[hg]at R⊢;have hheap:Pp (stD ds D J).heap (lG T o (base+i) g (di (aX ds (List.range i) J).env o))=Pp (aX ds (List.range i) J).heap (lG T o (base+i) g (di (aX ds (List.range i) J).env o)):=by
   cases htch:lG T o (base+i) g (di (aX ds (List.range i) J).env o)with
   |none=>rfl
   |some k=>
    rw[htch]at R;simp only[Pp];have p1:=dy ds k (λj=>match ds[j]? with|some d=>(match d.wr with|some x=>decide (x.1=k)|none=>ß)|none=>ß) (λj d ho h1 h2=>by simp[h1,h2]) ((List.range ds.length).filter D) J J rfl rfl;have p2:=dy ds k (λj=>match ds[j]? with|some d=>(match d.wr with|some x=>decide (x.1=k)|none=>ß)|none=>ß) (λj d ho h1 h2=>by simp[h1,h2]) (List.range i) J J rfl rfl;unfold stD;rw[p1,p2,F?];congr 3;rw[vV (i:=i) (alP hi) ?_]
    ·apply A?;intro j C;rw[N_]at C;have p:j<ds.length:=Ω
     simp[ζ p];cases hw:ds[j].wr with
     |none=>simp
     |some x=>
      obtain⟨k',ho'⟩:=x;simp only;cases hk:decide (k'=k)with
      |false=>simp
      |true =>have hk:=t_ hk;subst hk;obtain⟨oj,l,_,_,_,hwj⟩:=h.at_ p;obtain⟨w1,w2⟩:=hwj k' ho' hw;have hm:=h.order hdc hi p Ω ho l P r (.inr (.inl ⟨k',R,w2,w1⟩));rw[hm];simp[C]
    ·intro j C f;simp[ζ C]at f;obtain hlt|heq|hgt:=z? j i
     ·exact hlt
     ·subst heq;rw[P]at f;exact absurd f.2 Ψ
     ·exfalso;cases hw:ds[j].wr with
      |none=>rw[hw]at f;simp at f
      |some x =>obtain⟨k',ho'⟩:=x;rw[hw]at f;have hk:k'=k:=t_ f.1;subst hk;obtain⟨oj,l,_,_,_,hwj⟩:=h.at_ C;obtain⟨w1,w2⟩:=hwj k' ho' hw;have hm:=h.order hdc hi C Ω ho l P r (.inr (.inl ⟨k',R,w2,w1⟩));rw[hm]at f;simp at f;omega
  rw[hheap];exact U
 ·cases U
def Drawn.next (h:Drawn tab T ops base J ds ts){D' :Nat→Bool}(hdc:DC ops D)(hi:i<ds.length)(C:D i=ß)(hpre:∀q,((aK ops.toList []).getD i 0).testBit q=ü→D q=ü)
  (hD':∀j,D' j=(D j||decide (j=i))):stD ds D' J=ds[i].ke (stD ds D J):=by
 obtain⟨o,ho,_,_,hdst,hwr⟩:=h.at_ hi;have henv:(stD ds D' J).env=(ds[i].ke (stD ds D J)).env:=by
  have hlen:∀L:List Nat,(aX ds L J).env.length=J.env.length:=λL=>by
   suffices ∀(L:List Nat) (σ:Sg),(aX ds L σ).env.length=σ.env.length from this L J;intro L;induction L with
   |nil=>intro σ;rfl
   |cons j L ih=>intro σ;rw[bM,ih];split;exact oh _ _;rfl
  refine PP (d :=.unk) (by rw[oh];unfold stD;rw[hlen,hlen]) (λt=>?_);let p:Nat→Bool:=λj=>match ds[j]? with|some d=>decide (d.dst=ä t)|none=>ß
  have p1:=eZ ds t p (λj d h1 h2=>by simp[p,h1,h2]) ((List.range ds.length).filter D') J J rfl rfl;have p2:=eZ ds t p (λj d h1 h2=>by simp[p,h1,h2]) ((List.range ds.length).filter D) J J rfl rfl;rw[F?]at p1 p2;unfold stD;by_cases f:ds[i].dst=ä t
  ·have hsn:(List.range ds.length).filter (λj=>p j&&D' j)=(List.range ds.length).filter (λj=>p j&&D j)++[i]:=by
    refine CA hi (λj P g=>?_) (λj P=>?_)
    ·simp[p,ζ P]at g;have l:j≠i:=λe=>by subst e;rw[C]at g;exact absurd g.2 Ψ
     obtain⟨oj,hoj,_,_,hd,_⟩:=h.at_ P;have hm:=h.order hdc hi P l ho hoj C hpre (.inl ⟨t,by rw[←hd];exact g.1,.inr (by rw[←hdst];exact f)⟩);rw[hm]at g;simpa using g.2
    ·rw[hD'];by_cases e:j=i
     ·subst e;simp[p,hi,f,C]
     ·simp[e]
   rw[p1,hsn,xd];simp only[bM,ζ hi];show(ds[i].ke _).env.getD t .unk=_;simp only[Dl.ke,tq,f,gK,hlen,i?]
  ·have hsm:(List.range ds.length).filter (λj=>p j&&D' j)=(List.range ds.length).filter (λj=>p j&&D j):=by
    refine CB λj P=>?_;rw[hD'];by_cases e:j=i
    ·subst e;simp[p,hi,f]
    ·simp[e]
   rw[p1,hsm,←p2];simp only[Dl.ke,tq];cases hd:ds[i].dst with
   |none=>rfl
   |some t' =>have l:t'≠t:=λe=>f (by rw[hd,e]);simp only[gK,ω l]
 have r:(stD ds D' J).heap=(ds[i].ke (stD ds D J)).heap:=by
  refine PP (d :=.none) (by rw[kO];unfold stD;rw[bu,bu]) (λk=>?_);let p:Nat→Bool:=λj=>match ds[j]? with|some d=>(match d.wr with|some x=>decide (x.1=k)|none=>ß)|none=>ß
  have p1:=dy ds k p (λj d ho h1 h2=>by simp[p,h1,h2]) ((List.range ds.length).filter D') J J rfl rfl;have p2:=dy ds k p (λj d ho h1 h2=>by simp[p,h1,h2]) ((List.range ds.length).filter D) J J rfl rfl;rw[F?]at p1 p2;unfold stD;by_cases f:∃ho',ds[i].wr=ä (k,ho')
  ·obtain⟨ho',hw⟩:=f;have hsn:(List.range ds.length).filter (λj=>p j&&D' j)=(List.range ds.length).filter (λj=>p j&&D j)++[i]:=by
    refine CA hi (λj P g=>?_) (λj P=>?_)
    ·simp[p,ζ P]at g;have l:j≠i:=λe=>by subst e;rw[C]at g;exact absurd g.2 Ψ
     obtain⟨oj,hoj,_,_,_,hwj⟩:=h.at_ P;cases R:ds[j].wr with
     |none=>rw[R]at g;simp at g
     |some x =>obtain⟨k',U⟩:=x;rw[R]at g;have hk:k'=k:=t_ g.1;subst hk;obtain⟨w1,w2⟩:=hwj k' U R;have hm:=h.order hdc hi P l ho hoj C hpre (.inr (.inl ⟨k',(hwr k' ho' hw).2,w2,w1⟩));rw[hm]at g;simpa using g.2
    ·rw[hD'];by_cases e:j=i
     ·subst e;simp[p,hi,hw,C]
     ·simp[e]
   rw[p1,hsn,xd];simp only[bM,ζ hi];show(ds[i].ke _).heap.getD k .none=_;simp only[Dl.ke,EC,hw,gK,bu,i?]
  ·have hsm:(List.range ds.length).filter (λj=>p j&&D' j)=(List.range ds.length).filter (λj=>p j&&D j):=by
    refine CB λj P=>?_;rw[hD'];by_cases e:j=i
    ·subst e;have:p j=false:=by
      simp only[p,ζ P];cases R:ds[j].wr with
      |none=>rfl
      |some x =>obtain⟨k',U⟩:=x;simp only[akd];exact λe=>f ⟨U,by rw[R,e]⟩
     simp[this]
    ·simp[e]
   rw[p1,hsm,←p2];simp only[Dl.ke,EC];cases hd:ds[i].wr with
   |none=>rfl
   |some x =>obtain⟨k',U⟩:=x;have l:k'≠k:=λe=>f ⟨U,by rw[hd,e]⟩;simp only[gK,ω l]
 cases hs:stD ds D' J with
 |mk e1 h1=>
  cases hs2:ds[i].ke (stD ds D J)with
  |mk e2 h2 =>rw[hs,hs2]at henv r;simp only at henv r;rw[henv,r]
end
section
variable {P:å}{tab:Tab}{T:Specs}{ck:Callk}{B:Bd}{lo:Nat}{w0:æ}{U:Sb}{fs:List (List AV×List ø)}
variable {Γ:List Lq}{ops:Array ê}{base:Nat}{J:Sg}{ds:List Dl}{ts:List (Option Nat)}
variable{C:Array Bool}{i n:Nat}{ro:Option Nat}{a:Act}{w:æ}{k:Sg→Option AV}
def t8 {j:Nat}(f:i<C.size):(C.setIfInBounds i ü).getD j ß=(C.getD j ß||decide (j=i)):=by
 simp;by_cases h:i=j
 ·subst h;simp[f]
 ·have:¬j=i:=λe=>h e.symm;simp[h,this]
def kS (n j:Nat):(Array.replicate n ß).getD j ß=false:=by simp only[u_,alI];split <;> rfl
def dx (r:C.size=ops.size)(h:i∈Region.ready .any ops C) :
  i<ops.size∧C.getD i ß=ß∧∃o,ops[i]? = ä o∧∀e∈o.after,Region.binds .any e=ü→C.getD e.on ß=true:=by
 rw[ak3]at h;obtain⟨p,o,g,l⟩:=h;have f:i<ops.size:=(δ.1 g).1;refine⟨f, ?_,o,g,l⟩;have j:i<C.size:=Ω
 simpa[u_,j]using p
def L6 (P:bU 0 ops.toList=ü)(R:C.size=ops.size)(r:DC ops (λj=>C.getD j ß))(h:i∈Region.ready .any ops C) :
  (∀q,((aK ops.toList []).getD i 0).testBit q=ü→C.getD q ß=ü)∧DC ops (λj=>(C.setIfInBounds i ü).getD j ß):=by
 obtain⟨U,hDi,o,T,l⟩:=dx R h;have J:∀q,((aK ops.toList []).getD i 0).testBit q=ü→C.getD q ß=true:=by
  intro q J;obtain⟨e,he,hb,g⟩:=iv ops.toList [] i o (by simpa using T) P q (by simpa using J);have p:=l e (by simpa using he) hb;obtain rfl|g:=g
  ·exact p
  ·exact r e.on p q g
 refine⟨J,λj f q g=>?_⟩;have f:(C.setIfInBounds i ü).getD j ß=true:=f;show(C.setIfInBounds i ü).getD q ß=ü;rw[t8 Ω]at f⊢;simp only[aj8,υ]at f⊢;obtain f|rfl:=f
 ·exact .inl (r j f q g)
 ·exact .inl (J q g)
def EY (J:bU 0 ops.toList=ü)(hs:C.size=ops.size)(hr:Region.ready .any ops C=[]):∀i,i<ops.size→C.getD i ß=true:=by
 intro i;induction i using Nat.strongRecOn with
 |_ i U=>
  intro R;cases hD:C.getD i ß with
  |true=>rfl
  |false=>
   exfalso;have:i∈Region.ready .any ops C:=by
    rw[ak3];have hl:i<C.size:=Ω
    refine⟨by simpa[u_,hl]using hD,ops[i],by simp[R],λe g P=>?_⟩;have r:e.on<i:=by
     have:∀(l:List ê) (k j:Nat) (o:ê),bU k l=ü→l[j]? = ä o→∀e∈o.after.toList,Region.binds .any e=ü→e.on<k+j:=by
      intro l;induction l with
      |nil=>intro k j o _ h;simp at h
      |cons x l p=>
       intro k j o f h e g T;simp only[bU,θ,P']at f;cases j with
       |zero =>simp at h;subst h;have:=f.1 e g;simpa[T]using this
       |succ j =>simp at h;have:=p (k+1) j o f.2 h e g T;omega
     have:=this ops.toList 0 i ops[i] J (by simp[R]) e (by simpa using g) P;omega
    exact U e.on r Ω
   rw[hr]at this;cases this
def xo {Q:ë→Act→æ→Prop}(h:Region.ready .any ops C=[])(j:Q .normal a w):∀f,wpAnyIn (RF ro) n P .any ops Q f C a w
 |0=>⟨h,j⟩
 |_+1=>⟨λ_=>j,λi g=>by rw[h]at g;cases g⟩
def T4 (ds:List Dl){D:Nat→Bool}(h:∀i,i<ds.length→D i=ü)(J:Sg):stD ds D J=aX ds (List.range ds.length) J:=by unfold stD;congr 1;rw[List.filter_eq_self];intro i f;exact h i (N_.1 f)
def GO (hnd:∀o∈ops.toList,fw ro o)(tk:TabOk P tab)(tsok:SpecsOk P T)(ckok:CkOk P ck Γ)(hcx:Ctx Γ fs B w0)(h:Drawn tab T ops base J ds ts)(hb:base+ops.size≤J.heap.length)(hlo:lo≤J.heap.length){r:AV}
  (hrun:aQ tab T ck ops.toList base 0 ops.toList J k=ä r):∀(p:Nat) (C:Array Bool) (a:Act) (w:æ),C.size=ops.size→DC ops (λj=>C.getD j ß) →
   ((List.range ops.size).filter λj=>!C.getD j ß).length≤p→(ds.length<ops.size→C.getD ds.length ß=ß) →
   Rel fs lo B w0 U (stD ds (λj=>C.getD j ß) J) a w→wpAnyIn (RF ro) n P .any ops (jY fs lo B w0 U (base+ops.size) k r) p C a w:=by
 obtain⟨t1,t2,t3,_⟩:=qO _ _ _ _ _ h.tr;obtain⟨r1,r2,r3⟩:=N1 _ _ _ _ _ h.tr hrun;simp at t2 t3 r2 r3;have hheap:∀D,(stD ds D J).heap.length=J.heap.length:=λD=>by unfold stD;exact bu _ _ _
 have fin:∀(C:Array Bool) (a:Act) (w:æ),C.size=ops.size→Region.ready .any ops C=[]→(ds.length<ops.size→C.getD ds.length ß=ß)→Rel fs lo B w0 U (stD ds (λj=>C.getD j ß) J) a w→jY fs lo B w0 U (base+ops.size) k r .normal a w:=by
  intro C a w hs hr hl g;have R:=EY h.edges hs hr;have hm:ds.length=ops.size:=by
   obtain hlt|hge:=i_ ds.length ops.size
   ·have:=R _ hlt;rw[hl hlt]at this;cases this
   ·omega
  rw[T4 ds (λi hi=>R i Ω)]at g;exact⟨_,r2 hm,g,by rw[bu];exact hb⟩
 intro p;induction p with
 |zero=>
  intro C a w hs hdc hcount hl g;have hr:Region.ready .any ops C=[]:=by
   rw[akp];intro i hi;obtain⟨hlt,hDi,_⟩:=dx hs hi;have:i∈(List.range ops.size).filter λj=>!C.getD j false:=by rw[C_];exact⟨N_.2 hlt,by simp[hDi]⟩
   rw[Q' (Nat.le_zero.1 hcount)]at this;cases this
  exact⟨hr,fin C a w hs hr hl g⟩
 |succ p ih=>
  intro C a w hs hdc hcount hl g;refine⟨λhr=>fin C a w hs hr hl g,λi hi=>?_⟩;obtain⟨hlt,hDi,o',ho',_⟩:=dx hs hi;obtain⟨hpre,hdc'⟩:=L6 h.edges hs hdc hi;have hD':∀j,(C.setIfInBounds i ü).getD j ß=(C.getD j ß||decide (j=i)):=λj=>t8 Ω;obtain him|him:=i_ i ds.length
  ·obtain⟨o,ho,hst⟩:=h.step hdc him hDi hpre;refine Eq tk tsok ho hst (r1 _ (j_ him)) (by rw[hheap];omega) (hnd _ (z_.2 (q? ho))) g λa' w' l=>?_;rw[←h.next hdc him hDi hpre hD']at l;refine ih (C.setIfInBounds i ü) a' w' (by simpa using hs) hdc' ?_ (λhlt'=>?_) l
   ·have hlen:((List.range ops.size).filter λj=>!(C.setIfInBounds i ü).getD j ß).length<((List.range ops.size).filter λj=>!C.getD j ß).length:=by
     have e:((List.range ops.size).filter λj=>!(C.setIfInBounds i ü).getD j ß)=(((List.range ops.size).filter λj=>!C.getD j ß)).filter (λj=>decide (j≠i)):=by rw[F?];apply A?;intro j _;rw[hD'];by_cases e:j=i <;> simp[e]
     rw[e];refine ajX.2 ⟨i, ?_,Ψ⟩;rw[C_];exact⟨N_.2 hlt,by simp[hDi]⟩
    omega
   ·rw[hD',hl hlt'];simp;omega
  ·
   have hi':i=ds.length:=Ω
   have R:∀j,j<ds.length→C.getD j ß=true:=λj hj=>by have hp:=h.pair (i:=j) (j:=i) Ω hlt;rw[ω Ω]at hp;exact hpre j hp
   rw[T4 ds R]at g;obtain⟨o,q1,q2⟩:=r3 Ω;have ho:ops[i]? = ä o:=by rw[hi'];simpa using q1
   have hfull:Region.ready .any ops (C.setIfInBounds i ü)=[]:=by
    rw[akp];intro j hj;obtain⟨hjl,hDj,_⟩:=dx (by simpa using hs) hj;rw[hD']at hDj;simp only[Bool.or_eq_false_iff,akd]at hDj;obtain x|x:=i_ j ds.length
    ·rw[R j x]at hDj;cases hDj.1
    ·omega
   rcases q2 with⟨fr,out,heap',m1,m2⟩|⟨f,args,q2,q3⟩
   ·refine Cl tk ho m1 (hnd _ (z_.2 (q? ho))) g λa' w' hl l=>?_;exact xo hfull ⟨_,m2,l,by rw[hl,bu];exact hb⟩ p
   ·refine CI ckok hcx ho q2 q3 (by rw[bu];exact hlo) (hnd _ (z_.2 (q? ho))) g λout heap' a' w' hk hle l=>?_;exact xo hfull ⟨_,hk,l,ξ (by rw[bu];exact hb) hle⟩ p
def KW (J:∀o∈ops.toList,fw ro o)(hm:P.follows .mixedOrders=ü)(tk:TabOk P tab)(l:SpecsOk P T)(p:CkOk P ck Γ)(R:Ctx Γ fs B w0){id:Nat}{f:Bool}{g:Sg}{r:AV}(hlo:lo≤g.heap.length)
  (h:vi tab T ck ops.toList f g k=ä r) (hr:Rel fs lo B w0 U g a w):(Code.region id ops f).wpIn (RF ro) n P (jY fs lo B w0 U lo k r) a w:=by
 have C:∀{Q:ë→Act→æ→Prop} {a:Act} {w:æ} {f:Bool},(Code.region id ops f).wpIn (RF ro) n P Q a w→(∀e a w,Q e a w→jY fs lo B w0 U lo k r e a w)→(Code.region id ops f).wpIn (RF ro) n P (jY fs lo B w0 U lo k r) a w:=λh1 h2=>wpIn_mono h1 h2;have conv:∀e a w,jY fs lo B w0 U (g.heap.length+ops.size) (ahY k) r e a w→jY fs lo B w0 U lo k r e a w:=by
  intro e a w hn;cases e with
  |normal =>obtain⟨σ',h1,h2,h3⟩:=hn;exact⟨_,h1,h2.clr,by simp only;omega⟩
  |_=>exact hn.elim
 have hlen:ops.toList.length=ops.size:=by simp
 cases f with
 |false=>
  simp[vi]at h;refine C (wpIn_region ?_) conv
  have:=bt (n:=n) tk l p R J ops.toList 0 ⟨g.env,g.heap++List.replicate ops.toList.length .none⟩ a w Ψ Ψ Ξ h (hr.more _);rw[ajY];simpa using this
 |true=>
  simp[vi]at h;split at h
  next ds ts htr=>
   split at h
   ·rename_i hok;have hd:Drawn tab T ops g.heap.length ⟨g.env,g.heap++List.replicate ops.toList.length .none⟩ ds ts:=⟨htr,hok⟩;refine C (wpIn_region_any hm ?_) conv
    refine GO J tk l p R hd Ψ Ξ h ops.size (Array.replicate ops.size ß) a _ Ψ ?_ ?_ ?_ ?_
    ·intro j hj;have hj:(Array.replicate ops.size ß).getD j ß=true:=hj;rw[kS]at hj;cases hj
    ·exact ξ (H_ _ _) Ψ
    ·intro _;exact kS _ _
    ·have e:stD ds (λj=>(Array.replicate ops.size ß).getD j ß) ⟨g.env,g.heap++List.replicate ops.toList.length .none⟩=⟨g.env,g.heap++List.replicate ops.toList.length .none⟩:=by
      unfold stD;have:(List.range ds.length).filter (λj=>(Array.replicate ops.size ß).getD j ß)=[]:=by rw[alS];intro j _;rw[kS];simp
      rw[this];rfl
     rw[e];exact(hr.more _).drewW
   ·cases h
  ·cases h
end
