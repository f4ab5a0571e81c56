/- A region is sound. -/
import Derived.Test.YteiopcmalidhaaaGreatAbsK
import Derived.RangeFuncCalls
import Derived.RangeFuncLeaves
import Derived.OrdersIn
import Derived.LoopNIn
set_option linter.all false
namespace Go.Proofs.YteiopcmalidhaaaGreat
namespace Abs
open Go Go.RowKit
def RF (f:Option Nat):Fence:={ Fence.wide with round:=f }
variable{P:Program}{ro:Option Nat}{n:Nat}{w:World}
def Cr {f:FuncId}{args:Array Value}{R:Ending→World→Prop}(h:Calls P f args w R):CallsIn (RF ro) n P f args w R:=by have g:CallsIn Fence.wide n P f args w R:=callsIn_wide.2 h;exact g
def ff (ro:Option Nat)(o:Oper):Prop:=ro=none∨∀c,o.op ≠ .defer c
def sE {o:Oper}{a:Act}{K:Act→World→Prop}{Q:Exit→Act→World→Prop}(g:ff ro o)(h:o.wp P a w K Q):o.wpIn (RF ro) n P a w K Q:=by
 refine⟨λ_ _=>trivial, ?_⟩;have e:o.semAt (RF ro).round a.eval=execOp a.eval o:=by
  obtain rfl|g:=g
  ·rfl
  ·exact Oper.semAt_eq _ _ _ g
 rw[e];unfold Oper.wp at h;generalize (execOp a.eval o).run P w=r at h⊢;cases r with
 |ok x j=>
  cases x <;> simp[Oper.upon,Oper.uponIn]at h⊢;case value=>exact h
  case skip=>exact h
  case defer=>exact h
  case enter=>exact⟨(λq=>by cases q),Cr h⟩
  case row =>refine⟨(λq=>by cases q),λc l _=>?_⟩;obtain⟨v,f,r1,r2⟩:=h c l;exact⟨v,f,r1,stepsIn_wide.2 r2⟩
 |halt x j=>cases x <;> simp[Oper.upon,Oper.uponIn]at h⊢ <;> exact h
def tR (B:Bd)(g f:World)(l:List Deferred):Prop :=
 Below B g f∧Og B.F g f∧∃j:List Nat,l=j.map (λD=>{ target :=.collected D,args :=#[] })∧j.Nodup∧∀D∈j,B≤D∧g.heap.size≤D∧f.heap[D]? = some (.deferred (some []))∧¬B.F D
def tR.none (B:Bd)(w:World):tR B w w []:=⟨Below.refl _ _,Og.refl _,[],rfl,R?,λ_ h=>by cases h⟩
def tR.put {B:Bd}{g f:World}{a:Act}(h:tR B g f a.defers)(d:Option Nat)(v:Value):tR B g f (a.put d v).defers:=by cases d <;> exact h
def Rel (r:List (List AV×List Value))(p:Nat)(B:Bd)(l:World)(U:Sb)(g:Sg)(a:Act)(w:World):Prop :=
 ∃(c:Gh) (j:World),c.w=w∧c.heap=g.heap∧Inv B j U c∧RAs c g.env a.tmps.toList∧tR B l j a.defers∧∀f∈r,RAs c f.1 f.2∧f.1.all (AV.under p)=true
section
variable {P:Program}{tab:Tab}{T:Specs}{B:Bd}{lo:Nat}{w0:World}{U:Sb}{c:Gh}{o:Oper}{a:Act}{fs:List (List AV×List Value)}{σ:Sg}{w:World}
def zh (v:Value):RA c (Au v) [v]:=by
 unfold Au;split
 ·exact cU _ _
 ·exact bZ _
 next s=>obtain⟨⟨l⟩⟩:=s;exact zQ l
 ·rfl
 ·exact⟨_,rfl⟩
def oF:∀l:List Value,RAs c (l.map Au) l
 |[]=>trivial
 |v::l=>⟨zh v,oF l⟩
def BK:∀{f:List AV} {l:List Value},f.all AV.single=true→RAs c f l→∀u∈l,u.oneCell'=true
 |[],[],_,_,_,h=>by cases h
 |_::_,v::_,h,⟨j,g⟩,u,hu=>by
  simp only[q?,κ]at h;obtain rfl|hu:=C'.1 hu
  ·exact(xI j h.1).2
  ·exact BK h.2 g u hu
def GJ (v:Value):RA c (KS v) [v]:=by
 unfold KS;split
 next g=>
  split
  next f=>exact⟨g.toList,Ψ,RA.of_chain (oF _),e8 _,BK (c:=c) f (oF _)⟩
  ·exact⟨_,rfl⟩
 ·exact zh _
def qM (h:RAs c σ.env a.tmps.toList)(x:Operand):RA c (Ql σ.env x) [a.eval x]:=by
 cases x with
 |tmp t=>
  simp only[Ql,Act.eval];obtain hlt|hge:=d_ t σ.env.length
  ·obtain⟨v,l,p⟩:=h.get t σ.env[t] (δ hlt);have j:σ.env.getD t .unk=σ.env[t]:=by simp[List.getD,δ hlt]
   have r:a.tmps.getD t undef=v:=by
    have:a.tmps[t]? = some v:=by simpa using l
    simp[n_,this]
   rw[j,r];exact p
  ·have j:σ.env.getD t .unk = .unk:=by simp[List.getD,u_ hge]
   rw[j];exact⟨_,rfl⟩
 |const v=>exact GJ v
 |func f=>exact⟨[],rfl,rfl,rfl⟩
 |global g=>exact⟨_,rfl⟩
def ut (h:RAs c σ.env a.tmps.toList):∀l:List Operand,RAs c (l.map (Ql σ.env)) (l.map a.eval)
 |[]=>trivial
 |x::l=>⟨qM h x,ut h l⟩
variable{v:Value}{g b:Bool}{op:Op}{vs:List Value}{vals:List AV}{fresh:Nat}{ho ho' :HO}{out:AV}
def dx (h:RAs c σ.env a.tmps.toList){f:Option Nat}{u:AV}(g:RA c u [v]):RAs c (sw σ.env f u) (a.put f v).tmps.toList:=by
 cases f with
 |none=>exact h
 |some d =>simp[sw,Act.put];exact h.set d g
def AQ {g:Bool}(f:g=true):∀{l:List AV} {vs:List Value},(oY g l).1=true→RAs c l vs→RAs c (oY g l).2 vs
 |[],[],_,_=>trivial
 |u::l,v::vs,h,⟨r,p⟩=>by
  simp[oY]at h;refine⟨?_,AQ f h.2 p⟩;have j:=h.1;cases u with
  |cond J C =>simp only[oe,f,ua]at j;subst j;simpa[oe,RA]using r
  |_=>exact r
def I8 (f:g=true){u:AV}(h:(oe g u).1=true)(r:RA c u [v]):RA c (oe g u).2 [v]:=by
 cases u with
 |cond l j =>simp only[oe,f,ua]at h;subst h;simpa[oe,RA]using r
 |_=>exact r
def vK (f:g=true){l:List AV}(h:(gU op g l).1=true)(r:RAs c l vs):RAs c (gU op g l).2 vs:=by
 unfold gU at *;split
 next x y z u l'=>
  simp only at h;match vs,r with
  |v::vs,⟨r1,r2⟩=>exact⟨I8 f h r1,r2⟩
 next hne=>
  split at h
  ·exact(hne _ _ _ _ _ rfl rfl).elim
  ·exact AQ f h r
def acU (l:cT T o.op=true)(h:ZE tab T o g vals fresh ho=some (b,out,ho')):ho'=ho:=by
 have j:∀{x:Bool×AV×HO},some x=some (b,out,ho')→x.2.2=ho→ho'=ho:=λp C=>by simp at p;rw[p]at C;exact C
 have f:∀{q:Prop},(none:Option (Bool×AV×HO))=some (b,out,ho')→q:=λp=>by cases p
 unfold ZE at h;generalize o.op=op at h l;cases op;case call cl=>
  simp[cT]at h l;generalize cl.callee=ce at h l;cases ce with
  |builtin J=>
   cases J;case append=>simp at l
   all_goals simp only at h
   all_goals (repeat' split at h)
   all_goals first|exact f h|exact j h rfl
  |value x=>
   simp at h l;rw[l.1,l.2]at h;simp only at h
   repeat' split at h
   all_goals first|exact f h|exact j h rfl
  |invoke r m=>exact f h
 case alloc=>simp[cT]at l
 case box=>simp[cT]at l
 case buildSlice=>simp[cT]at l
 case makeSlice=>simp[cT]at l
 case store=>simp[cT]at l
 case unOp u t x=>
  cases u <;> simp only at h;all_goals (repeat' split at h)
  all_goals first|exact f h|exact j h rfl
 case makeFunc fn first cap=>
  cases fn <;> simp only at h;all_goals (repeat' split at h)
  all_goals first|exact f h|exact j h rfl
 case slice t x lo hi mx=>
  cases mx <;> simp only at h;all_goals (repeat' split at h)
  all_goals first|exact f h|exact j h rfl
 all_goals simp only at h
 all_goals (repeat' split at h)
 all_goals first|exact f h|exact j h rfl
def acT (T:Specs)(j:cT T o.op=true)(h:ZD tab o vals ho=some (b,out,ho')):ho'=ho:=by
 have g:∀{x:Bool×AV×HO},some x=some (b,out,ho')→x.2.2=ho→ho'=ho:=λl p=>by simp at l;rw[l]at p;exact p
 have f:∀{q:Prop},(none:Option (Bool×AV×HO))=some (b,out,ho')→q:=λl=>by cases l
 unfold ZD at h;split at h
 ·generalize o.op=op at h j;cases op;case call cl=>
   simp[cT]at h j;generalize cl.callee=ce at h j;cases ce with
   |builtin C=>
    cases C;case append=>simp at j
    all_goals simp only at h
    all_goals (repeat' split at h)
    all_goals first|exact f h|exact g h rfl
   |value x=>exact f h
   |invoke r m=>exact f h
  case store=>simp[cT]at j
  case slice t x lo hi mx=>
   cases mx <;> simp only at h;all_goals (repeat' split at h)
   all_goals first|exact f h|exact g h rfl
  all_goals simp only at h
  all_goals (repeat' split at h)
  all_goals first|exact f h|exact g h rfl
 ·exact f h
def ZC (f:cT T o.op=true)(h:eff tab T o g vals fresh ho=some (b,out,ho')):ho'=ho:=by
 unfold eff at h;split at h
 next r hm=>cases h;exact acT T f hm
 ·exact acU f h
def AL {k:Nat}(P:bu T op vals fresh=some k)(R:RAs c vals vs)(hf:fresh<c.heap.length):k<c.heap.length:=by
 have g:∀{k j:Nat} {v:Value},RA c (.box k j) [v]→k<c.heap.length:=λh=>by obtain⟨cells,h,_⟩:=h;exact ak h
 have f:∀{k n:Nat} {t:Ty} {l:List t.den} {v:Value},RA c (.own k n t l) [v]→k<c.heap.length:=λh=>by obtain⟨s,_,_,t',e',v',h,_⟩:=h;exact ak h
 have J:∀{k v:Nat} {Q:Ty→Prop},rG c k v Q→k<c.heap.length:=λh=>by rcases h with⟨_,_,_,_,h,_⟩|h <;> exact ak h
 have p:∀{k n lo U:Nat} {v:Value},RA c (.msl k n lo U) [v]→k<c.heap.length:=λh=>by obtain⟨s,_,_,h⟩:=h;exact J h
 have r:∀{k n i j:Nat} {v:Value},RA c (.mpt k n i j) [v]→k<c.heap.length:=λh=>by obtain⟨s,_,_,h⟩:=h;exact J h
 unfold bu at P
 repeat' split at P
 all_goals first|(cases P;done)|(simp at P;omega)|skip
 all_goals
  cases P;first
   |(match vs,R with
    |v::_,⟨C,_⟩=>first|exact g C|exact f C|exact p C|exact r C)
   |(match vs,R with
    |_::v::_,⟨_,C,_⟩=>first|exact g C|exact f C)
def Ia {f:Type}{l:List f}{k:Nat}{d:f}(h:k<l.length):l[k]? = some (l.getD k d):=by rw[δ h];simp[List.getD,δ h]
def C0 {ro:Option Nat}{n:Nat}(tk:TabOk P tab)(ts:SpecsOk P T){J:Array Oper}{i:Nat}(hi:J[i]? = some o){d:Dl}(C:vL tab T J.toList fresh o σ=some d)(hc:d.chk=true)(hf:fresh<σ.heap.length)(hnd:ff ro o)
  (hr:Rel fs lo B w0 U σ a w) {Q:Exit→Act→World→Prop} {K:Act→World→Prop} (hK:∀a' w',Rel fs lo B w0 U (d.app σ) a' w'→K a' w'):wpOpIn (RF ro) n P J Q i K a w:=by
 obtain⟨c,w1,rfl,hh,hI,hE,hdf,p⟩:=hr;have f:∀v,tR B w0 w1 (a.put o.dst v).defers:=λv=>hdf.put o.dst v;have hraw:RAs c (cH σ.env o) (o.op.operands.toList.map a.eval):=ut hE o.op.operands.toList;unfold wpOpIn;simp[hi];unfold vL at C;split at C
 next g hg=>
  unfold gOf at hg;cases hgd:o.guard with
  |none=>
   simp only[hgd,θ]at hg;subst hg;have hw:Region.wanted o (yielded J a.tmps)=true:=by simp[Region.wanted,hgd]
   rw[β hw];refine sE hnd ?_;simp[Sf,lE]at C;split at C
   ·rename_i cb out ho' he;cases C;simp only at hc;subst hc;have hho:∀k,bu T o.op (cH σ.env o) fresh=some k→c.heap[k]? = some (NQ σ.heap (bu T o.op (cH σ.env o) fresh)):=λk hk=>by
     have:=AL hk hraw (by rw[hh];exact hf);rw[hk];simp[NQ];rw[hh]at this⊢;exact Ia this
    refine Il tk ts hI rfl hraw hho he K Q (λv c' h1 h2 h3 h4=>hK _ _ ⟨c',w1,rfl, ?_,h2,dx (σ:=⟨σ.env,c'.heap⟩) (hE.mono h3) h4,f v,λfr r=>⟨(p fr r).1.mono h3,(p fr r).2⟩⟩);rw[h1];simp[Dl.app,C8,aw];cases hrd:cT T o.op with
    |true=>
     have:=ZC hrd he;subst this;simp;cases l:bu T o.op (cH σ.env o) fresh with
     |none=>simp only;exact hh
     |some k =>have h5:=hho k l;simp[l]at h5⊢;rw[fK h5];exact hh
    |false=>
     simp;cases l:bu T o.op (cH σ.env o) fresh with
     |none=>simp only;exact hh
     |some k=>simp[hh]
   ·cases C
  |some jw=>
   obtain⟨j,want⟩:=jw;simp[hgd]at hg;split at hg
   ·rename_i gb R;cases hg;have hwant:Region.wanted o (yielded J a.tmps)=gb:=by
     unfold yR at R;split at R
     ·rename_i dd hdd;have hval:∀u,σ.env.getD dd .unk=u→u ≠ .unk→∃v,a.tmps[dd]? = some v∧RA c u [v]:=λu hu hne=>by
       obtain hlt|hge:=d_ dd σ.env.length
       ·obtain⟨v,hv,hr⟩:=hE.get dd σ.env[dd] (δ hlt);have:σ.env.getD dd .unk=σ.env[dd]:=by simp[List.getD,δ hlt]
        exact⟨v,by simpa using hv,by rw[←hu,this];exact hr⟩
       ·exact(hne (by rw[←hu];simp[List.getD,u_ hge])).elim
      have hyd:yielded J a.tmps j=match a.tmps[dd]? with|some (.bool b)=>some b|_=>none:=by
       have hdd:(J[j]?).bind (·.dst)=some dd:=by simpa using hdd
       unfold yielded;rw[hdd];rfl
      simp[Region.wanted,hgd,hyd];split at R
      next b hb=>obtain⟨v,hv,hr⟩:=hval _ hb Ψ;have:=fM hr.val_inv;subst this;cases R;rw[hv];cases want <;> cases b <;> rfl
      ·rename_i cc b hb;obtain⟨v,hv,hr⟩:=hval _ hb Ψ;cases R;rw[hv];simp only[RA]at hr;cases cc with
       |true =>simp only[h?]at hr;have:=fM (RA.val_inv (c:=c) hr);subst this;cases want <;> cases b <;> rfl
       |false =>simp only[ai5,ajp,I',I_]at hr;subst hr;rfl
      ·cases R
     ·cases R
    simp only[Sf]at C;split at C
    ·rename_i hrd;split at C
     ·rename_i cb out ho' he;simp only[θ]at C;subst C;simp only[κ]at hc;rw[hwant];cases hgt:gb with
      |false=>
       simp only[ai5,ajp];refine⟨λ_ _=>trivial, ?_⟩;refine hK _ _ ⟨c,w1,rfl, ?_,hI,dx hE ?_,f _,p⟩
       ·simpa[Dl.app,C8]using hh
       ·simp[RA,hgt]
      |true=>
       simp only[h?];refine sE hnd ?_;subst hgt;have hs:=vK (op:=o.op) rfl hc.1 hraw;have hc2:cb=true:=by simpa[ua]using hc.2
       subst hc2;simp only[lE]at he;have hho:∀k,bu T o.op (gU o.op true (cH σ.env o)).2 fresh=some k→c.heap[k]? = some (NQ σ.heap (bu T o.op (gU o.op true (cH σ.env o)).2 fresh)):=λk hk=>by have:=AL hk hs (by rw[hh];exact hf);rw[hk];simp only[NQ];rw[hh]at this⊢;exact Ia this
       refine Il tk ts hI rfl hs hho he K Q (λv c' h1 h2 h3 h4=>hK _ _ ⟨c',w1,rfl, ?_,h2,dx (σ:=⟨σ.env,c'.heap⟩) (hE.mono h3) (by simpa[RA]using h4),f v,λfr r=>⟨(p fr r).1.mono h3,(p fr r).2⟩⟩);rw[h1];have:=ZC hrd he;subst this;simp only[Dl.app,C8,aw];cases l:bu T o.op (gU o.op true (cH σ.env o)).2 fresh with
       |none=>simp only;exact hh
       |some k =>have h5:=hho k l;simp only[l]at h5⊢;rw[fK h5];exact hh
     ·cases C
    ·split at C
     ·rename_i out he;simp only[θ]at C;subst C;simp only at hc;rw[hwant];cases hgt:gb with
      |false=>
       simp only[ai5,ajp];refine⟨λ_ _=>trivial, ?_⟩;refine hK _ _ ⟨c,w1,rfl, ?_,hI,dx hE ?_,f _,p⟩
       ·simpa[Dl.app,C8]using hh
       ·simp[RA,hgt]
      |true =>simp only[h?];refine sE hnd ?_;subst hgt;have hs:=vK (op:=o.op) rfl hc hraw;refine Ru tk hI hs he K Q (λv c' h1 h2 h3 h4=>hK _ _ ⟨c',w1,rfl, ?_,h2,dx (σ:=⟨σ.env,c'.heap⟩) (hE.mono h3) (by simpa[RA]using h4),f v,λfr r=>⟨(p fr r).1.mono h3,(p fr r).2⟩⟩);rw[h1];exact hh
     ·cases C
   ·cases hg
 ·cases C
end
section
variable {P:Program}{tab:Tab}{B:Bd}{w0:World}{U:Sb}{c:Gh}{o:Oper}{a:Act}{σ:Sg}
variable{τ:Ty}{e:TypeId}
def acw (hi:Inv B w0 U c){k v p f:Nat}{s:Value}{l:List τ.den}(hk:c.heap[k]? = some (.mrow τ e v l))(h:rH (c.rv k) τ.size p f s) :
  ∃A cp R,s = .slice A ((l.take f).drop p).length cp∧Rep c.w c.St (chain (toD τ) ((l.take f).drop p)) R∧R.length=((l.take f).drop p).length*τ.size ∧
   (((l.take f).drop p).length=0∨∃ad,A=some ad∧∀j u,R[j]? = some u→c.w.cell? (ad.add j)=some u):=by
 rcases h with⟨h1,rfl,rfl,rfl⟩|⟨g,n,cap,A,h1,h2,h3,rfl,T⟩
 ·exact⟨none,0,[],Ψ,rfl,Ψ,.inl Ψ⟩
 ·obtain⟨rfl,cur,xs,hg,hnc,hcm,hcs,J,P,_,hB⟩:=d9 hi hk h1;have r:((l.take f).drop p).length=f-p:=by simp;omega
  have r1:=rm p Ξ (iW f h3 P);refine⟨A,cap-p,_,by rw[r],r1,bh r1, ?_⟩;rw[r];obtain rfl|⟨T,h6⟩:=T
  ·refine .inr ⟨_,rfl,λj u C=>?_⟩;rw[b_,K']at C;split at C
   ·rw[←J,K']at C;split at C
    ·rw[cN];simp[World.cell?,hg];simpa using C
    ·cases C
   ·cases C
  ·exact .inl Ω
def G7 (hi:Inv B w0 U c){k v lo m:Nat}{l p:List τ.den}(hk:c.heap[k]? = some (.mrow τ e v l)){g n cap:Nat}(hr:c.rv k = .slice (some ⟨g,0,none⟩) n cap){f:Array Value}
  (hg:c.w.heap[g]? = some (.cells f e (0,0))) (hm:p.length=m) (J:lo+m≤l.length) {r:List Value} (R:Rep c.w c.St (chain (toD τ) p) r) :
  lo*τ.size+r.length≤f.size ∧
  let c':Gh:={ c with heap:=c.heap.set k (.mrow τ e v (l.take lo++p++l.drop (lo+m))),w:=c.w.setRow g (f.toList.take (lo*τ.size)++r++f.toList.drop (lo*τ.size+r.length)).toArray,St:=c.St,rv:=λi=>if i=k then c.rv k else c.rv i }
  Inv B w0 U c'∧Ev c c':=by
 obtain⟨hn,cur',xs,P,hnc,hcm,T,htk,C,hns,hB⟩:=d9 hi hk hr;rw[hg]at P;cases P;subst hn;have hcl:=bh R;rw[hm]at hcl;have h1:lo*τ.size+m*τ.size≤l.length*τ.size:=by rw[←Nat.add_mul];exact g_ _ J
 have h2:l.length*τ.size≤cap*τ.size:=g_ _ hnc;have hcl2:f.toList.length=cap*τ.size:=by rw[ω,T]
 refine⟨by rw[T];omega,LH hi hk hr hg Ξ Ξ ?_⟩;have r1:=iW lo Ω C;have r3:=rm (lo+m) J C;have:=fC (fC r1 R) r3;have e:((f.toList.take (lo*τ.size)++r++f.toList.drop (lo*τ.size+r.length)).toArray.toList.take (l.length*τ.size))=xs.take (lo*τ.size)++r++xs.drop ((lo+m)*τ.size):=by
  rw[←htk,Q_];apply X_;intro j;simp only[K',List.getElem?_append,b_,l_,P',hcl2,hcl];by_cases q1:j<lo*τ.size
  ·repeat (first|rw[β Ω]|rw[B' Ω])
  ·by_cases q2:j<lo*τ.size+m*τ.size
   ·repeat (first|rw[β Ω]|rw[B' Ω])
    congr 1;omega
   ·by_cases q3:j<l.length*τ.size
    ·repeat (first|rw[β Ω]|rw[B' Ω])
     congr 1;omega
    ·repeat (first|rw[β Ω]|rw[B' Ω])
 rw[e];exact this
def YG (tk:TabOk P tab)(hi:Inv B w0 U c)(hh:c.heap=σ.heap)(hE:RAs c σ.env a.tmps.toList){fresh:Nat}{out:AV}{heap':List HO}(h:Nq tab o σ fresh=some (true,out,heap')) :
  o.guard=none∧heap'.length=σ.heap.length∧Ok P B w0 U o a c heap' out:=by
 have hraw:RAs c (cH σ.env o) (o.op.operands.toList.map a.eval):=ut hE o.op.operands.toList;unfold Nq at h;split at h
 next cl hop hgd=>
  refine⟨hgd, ?_⟩;rw[hop]at hraw;have hv:∀b,cl.callee = .builtin b→RAs c (cH σ.env o) (cl.args.toList.map a.eval):=λb J=>by simpa[Op.operands,Call.operands,J]using hraw
  have two:∀(l:List Operand),l.length=2→∃p q,l=[p,q]:=λl hl=>by
   match l,hl with
   |[p,q],_=>exact⟨p,q,rfl⟩
  split at h
  next J=>
   replace hv:=hv _ J;generalize cH σ.env o=vals at h hv;split at h
   ·rename_i s k v lo r t1 t2 htys;have R:cl.argTypes = #[t1,t2]:=m_ (by simpa using htys);obtain⟨p,q,hpq⟩:=two cl.args.toList (by have:=hv.length;simpa using this.symm);have C:cl.args = #[p,q]:=m_ (by simpa using hpq);rw[hpq]at hv;obtain⟨u,u',e1,h1,h2⟩:=eD (v:=a.eval p) (v':=a.eval q) hv;cases e1;split at h
    ·rename_i e12;subst e12;split at h
     ·rename_i e τ f e' v' l hel ht hk;split at h
      ·rename_i q1;subst q1;split at h
       ·rename_i l2 hc;obtain⟨et,hl2⟩:=cast?_some hc;cases et;have hl2:l2=l:=hl2;subst hl2;rw[←hh]at hk;have src:=acw hi hk (dX h2 hk);split at h
        ·rename_i k2 v2 t2 l3;split at h
         ·rename_i t3 e3 v3 hk2;split at h
          ·rename_i q2;split at h
           ·rename_i q3;split at h
            ·rename_i q4;split at h
             next l4 hc4=>obtain⟨et,hl4⟩:=cast?_some hc4;cases et;have hl4:l4=l3:=hl4;subst hl4;subst q2;subst q3;subst q4;simp only[θ,χ,ρ]at h;obtain⟨k1,rfl,rfl⟩:=h;rw[←hh]at hk2;refine⟨Ψ, ?_⟩;rw[←hh];exact vT hi tk hop J C R h1 src ht hel hk2 k1
             ·cases h
            ·cases h
           ·cases h
          ·cases h
         ·cases h
        ·split at h
         next hf=>simp only[θ,χ,ρ]at h;obtain⟨k1,rfl,rfl⟩:=h;rw[←hh]at hf;refine⟨Ψ, ?_⟩;rw[←hh];exact nB hi tk hop J C R h1 src ht hel hf k1
         ·cases h
        ·cases h
       ·cases h
      ·cases h
     ·cases h
    ·cases h
   ·cases h
  next J=>
   replace hv:=hv _ J;generalize cH σ.env o=vals at h hv;split at h
   ·rename_i k v lo r x t1 t2 htys;have R:cl.argTypes = #[t1,t2]:=m_ (by simpa using htys);obtain⟨p,q,hpq⟩:=two cl.args.toList (by have:=hv.length;simpa using this.symm);have C:cl.args = #[p,q]:=m_ (by simpa using hpq);rw[hpq]at hv;obtain⟨u,u',e1,h1,h2⟩:=eD (v:=a.eval p) (v':=a.eval q) hv;cases e1;split at h
    ·rename_i e12;subst e12;split at h
     ·rename_i e τ l' f e' v' l hel hl hk;split at h
      ·rename_i q1;subst q1;split at h
       ·rename_i q2;subst q2;split at h
        ·rename_i l2 hc;obtain⟨et,hl2⟩:=cast?_some hc;injection et with et;subst et;have hl2:l2=l:=hl2;subst hl2;cases h;refine⟨Ψ, ?_⟩;rw[←hh]at hk⊢;obtain⟨ht,hxv⟩:=eP hl h2;obtain⟨i,z,_,_,_,_,_,_,hu⟩:=tk.ty t1 _ ht;obtain⟨e2,u1,u2,u3,hpos⟩:=hu;have:e2=e':=by rw[hel]at u3;exact(π u3).symm
         subst this;obtain⟨A,cp,ds,ex,hrx,hdl,hsrc⟩:=xF hxv;have hlive:=dX h1 hk;have hmin:Nat.min l'.length (r-lo)≤l'.length:=Nat.min_le_left _ _;have hmin2:Nat.min l'.length (r-lo)≤r-lo:=Nat.min_le_right _ _;generalize hN:Nat.min l'.length (r-lo)=N at *;have hrt:=iW N hmin hrx;have hrl:=bh hrt;have hTl:(l'.take N).length=N:=by simp;omega
         rw[hTl]at hrl;have hfc:(Builtin.firstCells f.size N (a.eval q)).run P c.w = .ok (ds.take (N*f.size)).toArray c.w:=by
          rw[ex];obtain h0|⟨ad,rfl,hcell⟩:=hsrc
          ·have hN0:N=0:=Ω
           subst hN0;cases A with
           |none=>rw[run_firstCells_none];simp
           |some ad=>exact aiW (P:=P) c.w f.size 0 ad _ cp _ Ψ (λj u hu=>by simp at hu)
          ·exact aiW (P:=P) c.w f.size N ad _ cp _ hrl (λj u hu=>by
            rw[K']at hu;split at hu
            ·exact hcell j u hu
            ·cases hu)
         have hexec:∀w',(∀A' n' cap',a.eval p = .slice A' n' cap'→n'=r-lo→(match A' with|some ad=>(storeCells ad (ds.take (N*f.size))).run P c.w = .ok () w'|none=>w'=c.w))→(execOp a.eval o).run P c.w = .ok (.value (.int .i64 (N:Int))) w':=by
          intro w' hw;obtain⟨A',cap',hs⟩:=CZ hlive;have T:=hw A' _ cap' hs rfl;unfold execOp;have hlen:Builtin.lenOf (a.eval q)=Sem.pure l'.length:=by rw[ex];rfl
          cases A' with
          |none =>simp only at T;subst T;simp[hop,resolve,J,C,R,invoke,builtin,Builtin.copy_,hs,ε u1,hlen,az tk u2,hN,hfc,goInt]
          |some ad =>simp only at T;simp[hop,resolve,J,C,R,invoke,builtin,Builtin.copy_,hs,ε u1,hlen,az tk u2,hN,hfc,T,goInt]
         have hlive':=hlive;rcases hlive with⟨g1,g2,g3,g4⟩|⟨g,n,cap,A',g1,g2,g3,g4,g5⟩
         ·have hN0:N=0:=Ω
          subst hN0;have e0:l2.take lo++l'.take 0++l2.drop (lo+0)=l2:=by simp
          rw[e0,fK hk];exact ao hi (hexec c.w (λA' n' cap' hs hn=>by rw[g4]at hs;cases hs;rfl)) (cU _ _)
         ·obtain⟨hn,cur,xs,hg,hnc,hcm,hcs,htk,hrp,hns,hB⟩:=d9 hi hk g1;subst hn;obtain⟨hfit,hI,hEv⟩:=G7 hi hk g1 hg hTl (lo:=lo) Ω hrt;have T:=j? (P:=P) g (lo*f.size) e2 (ds.take (N*f.size)) 0 cur c.w hg (by simpa using hfit) (λu hu=>hrt.one u hu);simp only[F?]at T;refine db (hexec _ (λA2 n2 cap2 hs hn2=>?_)) rfl hI hEv (cU _ _);rw[g4]at hs;injection hs with q1 q2 q3;subst q1;obtain rfl|⟨g5,g6⟩:=g5
          ·exact T
          ·have hN0:N=0:=Ω
           subst hN0;have e0:c.w.setRow g (cur.toList.take (lo*f.size)++ds.take (0*f.size)++cur.toList.drop (lo*f.size+(ds.take (0*f.size)).length)).toArray=c.w:=by
            have:(cur.toList.take (lo*f.size)++ds.take (0*f.size)++cur.toList.drop (lo*f.size+(ds.take (0*f.size)).length)).toArray=cur:=by simp
            rw[this];exact setRow_self c.w g cur e2 (0,0) hg
           rw[e0];cases A' with
           |none=>rfl
           |some ad=>simp[storeCells]
        ·cases h
       ·cases h
      ·cases h
     ·cases h
    ·cases h
   ·cases h
  next J=>
   replace hv:=hv _ J;generalize cH σ.env o=vals at h hv;split at h
   ·rename_i k v lo r;have hal:∃x,cl.args = #[x]:=by
     have:=hv.length;simp at this;exact ajn.1 this.symm
    obtain⟨p,C⟩:=hal;rw[C]at hv;obtain⟨u,e1,h1⟩:=cP (v:=a.eval p) hv;simp only[I',I_]at e1;subst e1;cases R:cl.argTypes[0]? with
    |none=>rw[R]at h;cases h
    |some t1=>
     rw[R]at h;simp only[Option.bind_some]at h;split at h
     ·rename_i e τ f e' v' l hel ht hk;split at h
      ·rename_i q1;subst q1;split at h
       ·rename_i q2;subst q2;split at h
        ·rename_i l2 hc;obtain⟨et,hl2⟩:=cast?_some hc;injection et with et;subst et;have hl2:l2=l:=hl2;subst hl2;simp only[θ,χ,ajF]at h;obtain⟨rfl,rfl⟩:=h;refine⟨Ψ, ?_⟩;rw[←hh]at hk⊢;obtain⟨i,z,_,_,_,_,_,_,hu⟩:=tk.ty t1 _ ht;obtain⟨e2,u1,u2,u3,hpos⟩:=hu;have:e2=e':=by rw[hel]at u3;exact(π u3).symm
         subst this;obtain⟨ie,ze,t1',t2,t3,t4,t5,_⟩:=tk.ty e2 f u2;have hlive:=dX h1 hk;rcases hlive with⟨g1,g2,g3,g4⟩|⟨g,n,cap,A',g1,g2,g3,g4,g5⟩
         ·subst g2;subst g3;have e0:l2.take 0++List.replicate (0-0) (zero f)++l2.drop 0=l2:=by simp
          rw[e0,fK hk];refine ao hi (v :=.tuple #[]) ?_ ⟨[],rfl,rfl,rfl⟩;unfold execOp;simp[hop,resolve,J,C,R,invoke,builtin,Builtin.clear_,g4,ε u1]
         ·obtain⟨hn,cur,xs,hg,hnc,hcm,hcs,htk,hrp,hns,hB⟩:=d9 hi hk g1;subst hn;have hz:=Ht (w:=c.w) (St:=c.St) t4 hpos (r-lo);obtain⟨hfit,hI,hEv⟩:=G7 hi hk g1 hg (akj (n:=r-lo) (a:=zero f)) (lo:=lo) Ω hz;rw[show lo+(r-lo)=r by omega]at hI hEv;by_cases h0:r-lo=0
          ·have e0:l2.take lo++List.replicate (r-lo) (zero f)++l2.drop r=l2:=by
            rw[h0,show r=lo by omega];simp
           rw[e0,fK hk];refine ao hi (v :=.tuple #[]) ?_ ⟨[],rfl,rfl,rfl⟩;unfold execOp;rw[h0]at g4;cases A' <;> simp[hop,resolve,J,C,R,invoke,builtin,Builtin.clear_,g4,ε u1]
          ·have hA:A'=some ⟨g,lo*f.size,none⟩:=by
            obtain g5|g5:=g5
            ·exact g5
            ·omega
           subst hA;have T:=j? (P:=P) g (lo*f.size) e2 (Builtin.zeroCells ze.cells (r-lo)).toList 0 cur c.w hg (by simpa using hfit) (λu hu=>hz.one u hu);simp only[F?]at T;refine db (v :=.tuple #[]) ?_ rfl hI hEv ⟨[],rfl,rfl,rfl⟩;obtain⟨m,hm⟩:∃m,r-lo=m+1:=⟨r-lo-1,Ω⟩;unfold execOp;rw[hm]at g4 T⊢;simp[hop,resolve,J,C,R,invoke,builtin,Builtin.clear_,g4,ε u1,zeroValue,typeInfo,t1',t3,T]
        ·cases h
       ·cases h
      ·cases h
     ·cases h
   ·cases h
  ·cases h
 ·cases h
end
def RA.under {c:Gh}:∀{a:AV} {C:List Value},RA c a C→a.noCond=true→a.under c.heap.length=true
 |.unk,_,_,_=>rfl
 |.val _ _,_,_,_=>rfl
 |.nil,_,_,_=>rfl
 |.own k v t l,_,⟨s,_,_,T,U,R,h,_⟩,_=>by simpa[AV.under]using ak h
 |.ref _ _,_,_,_=>rfl
 |.box k off,_,⟨cells,h,_⟩,_=>by simpa[AV.under]using ak h
 |.fn f caps,_,⟨g,_,r,_⟩,h=>RA.under (a:=caps) r h
 |.agg p,_,⟨g,_,r,_⟩,h=>RA.under (a:=p) r h
 |.tup p,_,⟨g,_,r,_⟩,h=>RA.under (a:=p) r h
 |.pnil,_,_,_=>rfl
 |.pcons a b,_,⟨v,r,_,P,J⟩,h=>by simp only[AV.noCond,κ]at h;simp only[AV.under,κ];exact⟨RA.under P h.1,RA.under J h.2⟩
 |.msl k v lo hi,_,⟨s,_,_,m⟩,_=>by simp only[AV.under,ρ];rcases m with⟨_,_,_,_,h,_⟩|h <;> exact ak h
 |.yld j,_,⟨h,_⟩,_=>by simpa[AV.under]using ak h
 |.fix _ _,_,_,_=>rfl
 |.mpt k v i off,_,⟨s,_,_,m⟩,_=>by simp only[AV.under,ρ];rcases m with⟨_,_,_,_,h,_⟩|h <;> exact ak h
def RAs.under {c:Gh}:∀{l:List AV} {f:List Value},RAs c l f→l.all AV.noCond=true→l.all (AV.under c.heap.length)=true
 |[],[],_,_=>rfl
 |a::l,v::f,⟨r,g⟩,h=>by simp only[q?,κ]at h⊢;exact⟨r.under h.1,g.under h.2⟩
def fZ {n m:Nat}(h:n≤m):∀{a:AV},a.under n=true→a.under m=true
 |.unk,_=>rfl
 |.val _ _,_=>rfl
 |.nil,_=>rfl
 |.own k _ _ _,x=>by simp only[AV.under,ρ]at *;omega
 |.ref _ _,_=>rfl
 |.box k _,x=>by simp only[AV.under,ρ]at *;omega
 |.fn _ c,x=>fZ h (a:=c) x
 |.agg p,x=>fZ h (a:=p) x
 |.tup p,x=>fZ h (a:=p) x
 |.pnil,_=>rfl
 |.pcons a b,x=>by simp only[AV.under,κ]at *;exact⟨fZ h x.1,fZ h x.2⟩
 |.cond _ a,x=>fZ h (a:=a) x
 |.msl k _ _ _,x=>by simp only[AV.under,ρ]at *;omega
 |.yld k,x=>by simp only[AV.under,ρ]at *;omega
 |.fix _ _,_=>rfl
 |.mpt k _ _ _,x=>by simp only[AV.under,ρ]at *;omega
def G6 {n m:Nat}(h:n≤m){l:List AV}(x:l.all (AV.under n)=true):l.all (AV.under m)=true:=by rw[T']at *;exact λa f=>fZ h (x a f)
structure Lq where
 j:Nat
 l:Nat
 env:List AV
 tmps:List Value
 lrec:Loop
def Ctx (f:List Lq)(p:List (List AV×List Value))(B:Bd)(g:World):Prop :=
 ∀q∈f,(q.env++[.yld q.j],q.tmps++[.func (.yield q.l) #[] #[]])∈p∧B≤q.l∧g.heap[q.l]? = some (.loop q.lrec)
def Ctx.more {j:List Lq}{r f:List (List AV×List Value)}{B:Bd}{p l:World}(h:Ctx j r B p)(J:∀P∈r,P∈f)(C:Og B.F p l):Ctx j f B l:=λq g=>
 ⟨J _ (h q g).1,(h q g).2.1,C.keep _ _ (h q g).2.2 rfl⟩
def FP (C:List (List AV×List Value))(B:Bd)(j:World)(U:Sb)(p:Nat)(k:AV→List HO→Option AV)(r:AV):Ending→World→Prop:=λe l=>
 ∃v out f,e = .returned v∧k out f.heap=some r∧f.w=l∧Inv B j U f∧RA f out [v]∧p≤f.heap.length∧∀g∈C,RAs f g.1 g.2
def IM (P:Program)(t:Tgt)(c:Gh)(r:List Value)(R:Ending→World→Prop):Prop :=
 match t with
 |.fn f=>bE P f∧Calls P f r.toArray c.w R
 |.yld j=>∀l,RA c (.yld j) [.func (.yield l) #[] #[]]→∀(ro:Option Nat) (n:Nat),∃f g assign p,(Instr.yield l r.toArray).run P c.w = .ok (.round l f g assign p) c.w∧RoundIn (RF ro) n P l f g assign p c.w R
def ry (P:Program)(call:Ck)(C:List Lq):Prop:=∀t args f k r,call t args f k=some r →
 ∀(j:List (List AV×List Value)) (B:Bd) (g:World) (U:Sb) (c:Gh),Inv B g U c→c.heap=f→∀p,RAs c args p→(∀l∈j,RAs c l.1 l.2∧l.1.all (AV.under f.length)=true)→Ctx C j B g →
  IM P t c p (FP j B g U f.length k r)
def Pd (P:Program)(R:Yk)(J:List Lq):Prop:=∀j args f k r,R j args f k=some r →
 ∀(l:List (List AV×List Value)) (B:Bd) (g:World) (U:Sb) (c:Gh),Inv B g U c→c.heap=f→∀C,RAs c args C→(∀p∈l,RAs c p.1 p.2∧p.1.all (AV.under f.length)=true)→Ctx J l B g →
  IM P (.yld j) c C (FP l B g U f.length k r)
structure CkOk (P:Program)(ck:Callk)(Γ:List Lq):Prop where
 call:ry P ck.call Γ
 iter:∀yk' Γ',Pd P yk' Γ'→ry P (ck.iter yk') Γ'
section
variable {P:Program}{tab:Tab}{T:Specs}{ck:Callk}{B:Bd}{lo:Nat}{w0:World}{U:Sb}{a:Act}{fs:List (List AV×List Value)}{σ:Sg}{w:World}{Γ:List Lq}
def MG (env:List AV)(f:Option Nat)(u:AV):(sw env f u).length=env.length:=by cases f <;> simp[sw]
def rZ (f:List HO)(wr:Option (Nat×HO)):(C8 f wr).length=f.length:=by
 cases wr with
 |none=>rfl
 |some p=>obtain⟨k,g⟩:=p;simp[C8]
def jZ (fs:List (List AV×List Value))(lo:Nat)(B:Bd)(w0:World)(U:Sb)(g:Nat)(k:Sg→Option AV)(r:AV):Exit→Act→World→Prop
 |.normal,a,w=>∃f,k f=some r∧Rel fs lo B w0 U f a w∧g≤f.heap.length
 |_,_,_=>False
variable{ro:Option Nat}{n:Nat}{ops:Array Oper}{o:Oper}
def BF (ckok:CkOk P ck Γ)(hcx:Ctx Γ fs B w0){i:Nat}(hi:ops[i]? = some o){t:Tgt}{args:List AV}(he:cL o σ.env=some (t,args)){k:AV→List HO→Option AV}{r:AV}(hck:ck.call t args σ.heap k=some r)
  (hlo:lo≤σ.heap.length) (hnd:ff ro o) (hr:Rel fs lo B w0 U σ a w) {Q:Exit→Act→World→Prop} {K:Act→World→Prop}
  (hK:∀out heap' a' w',k out heap'=some r→σ.heap.length≤heap'.length→Rel fs lo B w0 U ⟨sw σ.env o.dst out,heap'⟩ a' w'→K a' w'):wpOpIn (RF ro) n P ops Q i K a w:=by
 obtain⟨c,w1,rfl,hh,hI,hE,hdf,hfs⟩:=hr;have hcx':Ctx Γ ((σ.env,a.tmps.toList)::fs) B w1:=hcx.more (λfr h=>J' _ h) hdf.2.1;have post:∀v w',FP ((σ.env,a.tmps.toList)::fs) B w1 U σ.heap.length k r (.returned v) w'→K (a.put o.dst v) w':=by rintro v w' ⟨v',out,c',e,hk,rfl,hI',hR',hle,hfs'⟩;cases e;exact hK out c'.heap _ _ hk hle ⟨c',w1,rfl,rfl,hI',dx (σ:=⟨σ.env,c'.heap⟩) (hfs' (σ.env,a.tmps.toList) Ψ) hR',hdf.put o.dst v,λfr hfr=>⟨hfs' fr (by simp[hfr]),(hfs fr hfr).2⟩⟩
 have frames:σ.env.all AV.noCond=true→∀fr∈(σ.env,a.tmps.toList)::fs,RAs c fr.1 fr.2∧fr.1.all (AV.under σ.heap.length)=true:=λhnc fr hfr=>by
  obtain rfl|hfr:=C'.1 hfr
  ·exact⟨hE,by rw[←hh];exact hE.under hnc⟩
  ·exact⟨(hfs fr hfr).1,G6 hlo (hfs fr hfr).2⟩
 have hv:RAs c (cH σ.env o) (o.op.operands.toList.map a.eval):=ut hE o.op.operands.toList;unfold cL at he;split at he
 next cl hop hgd=>
  have hw:Region.wanted o (yielded ops a.tmps)=true:=by simp[Region.wanted,hgd]
  split at he
  next x f' caps args' hcl hraw=>
   split at he
   ·rename_i hnc;cases he;rw[hraw,hop]at hv;have hv:RAs c (.fn f' caps::args') (a.eval x::cl.args.toList.map a.eval):=by simpa[Op.operands,Call.operands,hcl]using hv
    obtain⟨hfn,hargs⟩:=hv;obtain⟨cs,e,hcs,hch⟩:=hfn;simp at e;obtain⟨⟨fn,f1,f2,f3⟩,hcalls⟩:=ckok.call _ _ _ _ _ hck ((σ.env,a.tmps.toList)::fs) B w1 U c hI hh _ (hargs.append (hcs.parts hch)) (frames hnc) hcx';have hbody:¬fn.body=none:=by cases hb:fn.body <;> simp_all
    have f3:¬fn.name = "runtime.NumGoroutine":=by simpa using f3
    have hrun:(execOp a.eval o).run P c.w = .ok (.enter f' (cl.args.toList.map a.eval++cs).toArray) c.w:=by have e2:cl.args.map a.eval++cs.toArray=(cl.args.toList.map a.eval++cs).toArray:=m_ Ψ;unfold execOp;simp[hop,resolve,hcl,e,Deferred.ofValue,ξ,a_,invoke,callFunc,P_,f1,e2];simp[f3,hbody]
    unfold wpOpIn;simp[hi];rw[β hw];refine sE hnd ?_;unfold Oper.wp;rw[hrun];refine hcalls.mono ?_;rintro e w' h;obtain⟨v,_,_,rfl,_⟩:=id h;exact post v w' h
   ·cases he
  next x j args' hcl hraw=>
   split at he
   ·rename_i hnc;simp only[θ,χ]at he;obtain⟨rfl,rfl⟩:=he;rw[hraw,hop]at hv;have hv:RAs c (.yld j::args') (a.eval x::cl.args.toList.map a.eval):=by simpa[Op.operands,Call.operands,hcl]using hv
    obtain⟨hfn,hargs⟩:=hv;have hfn':=hfn;obtain⟨_,e⟩:=hfn;simp at e;rw[e]at hfn';obtain⟨f,tmps,assign,body,hy,hround⟩:=ckok.call _ _ _ _ _ hck ((σ.env,a.tmps.toList)::fs) B w1 U c hI hh _ hargs (frames hnc) hcx' _ hfn' ro (n-1);have hrun:(execOp a.eval o).run P c.w = .ok (.round (c.lp j) f tmps assign body) c.w:=by have e2:cl.args.map a.eval=(cl.args.toList.map a.eval).toArray:=m_ Ψ;unfold execOp;simp[hop,resolve,hcl,e,Deferred.ofValue,ξ,a_,invoke,e2,hy]
    unfold wpOpIn;simp[hi];rw[β hw];refine⟨λ_ _=>trivial, ?_⟩;have es:o.semAt (RF ro).round a.eval=execOp a.eval o:=by
     obtain rfl|hd:=hnd
     ·rfl
     ·exact Oper.semAt_eq _ _ _ hd
    rw[es,hrun,Oper.uponIn_round];refine⟨(λq=>by cases q),hround.mono ?_⟩;rintro e w' h;obtain⟨v,_,_,rfl,_⟩:=id h;exact post v w' h
   ·cases he
  ·cases he
 ·cases he
def Bi (tk:TabOk P tab){i fresh:Nat}(hi:ops[i]? = some o){out:AV}{f:List HO}(h:Nq tab o σ fresh=some (true,out,f))(C:ff ro o)
  (hr:Rel fs lo B w0 U σ a w) {Q:Exit→Act→World→Prop} {K:Act→World→Prop} (hK:∀a' w',f.length=σ.heap.length→Rel fs lo B w0 U ⟨sw σ.env o.dst out,f⟩ a' w'→K a' w'):wpOpIn (RF ro) n P ops Q i K a w:=by
 obtain⟨c,T,rfl,hh,hI,hE,R,l⟩:=hr;have g:∀v,tR B w0 T (a.put o.dst v).defers:=λv=>R.put o.dst v;obtain⟨J,j,r⟩:=YG (P:=P) tk hI hh hE h;unfold wpOpIn;simp[hi];have hw:Region.wanted o (yielded ops a.tmps)=true:=by simp[Region.wanted,J]
 rw[β hw];refine sE C ?_;exact r K Q (λv c' h1 h2 h3 h4=>hK _ _ j ⟨c',T,rfl,h1,h2,dx (σ:=⟨σ.env,c'.heap⟩) (hE.mono h3) h4,g v,λfr p=>⟨(l fr p).1.mono h3,(l fr p).2⟩⟩)
def bp {ro:Option Nat}{n:Nat}(tk:TabOk P tab)(ts:SpecsOk P T)(j:CkOk P ck Γ)(hcx:Ctx Γ fs B w0){ops:Array Oper}(R:∀o∈ops.toList,ff ro o){C:Nat}{k:Sg→Option AV}{r:AV}:∀(l:List Oper) (i:Nat) (σ:Sg) (a:Act) (w:World),ops.toList.drop i=l→C+ops.size≤σ.heap.length→lo≤σ.heap.length →
  aF tab T ck ops.toList C i l σ k=some r→Rel fs lo B w0 U σ a w→wpOpsIn (RF ro) n P ops (jZ fs lo B w0 U (C+ops.size) k r) (List.range' i (ops.size-i)) a w
 |[],i,σ,a,w,hd,hb,hlo,h,hr=>by
  have hsz:ops.size-i=0:=by have:=Y' List.length hd;simpa using this
  rw[hsz];exact⟨σ,h,hr,hb⟩
 |o::l,i,σ,a,w,hd,hb,hlo,h,hr=>by
  have hlt:i<ops.size:=by have:=Y' List.length hd;simp at this;omega
  have J:ops[i]? = some o:=by
   have:(ops.toList.drop i)[0]? = some o:=by rw[hd];rfl
   rw[b_]at this;simpa using this
  have hd':ops.toList.drop (i+1)=l:=by rw[←List.drop_drop,hd];rfl
  have hno:ff ro o:=R o (q_.2 (y? J));rw[show ops.size-i=(ops.size-(i+1))+1 by omega,U_,wpOpsIn_cons];simp[aF]at h;split at h
  next d hstep=>
   cases hc:d.chk with
   |false=>rw[hc]at h;cases h
   |true =>rw[hc]at h;exact C0 tk ts J hstep hc Ω hno hr λa' w' p=>bp tk ts j hcx R l (i+1) (d.app σ) a' w' hd' (by simpa[Dl.app,rZ]using hb) (by simpa[Dl.app,rZ]using hlo) h p
  ·split at h
   ·rename_i b out g hm;cases b with
    |false=>cases h
    |true=>exact Bi tk J hm hno hr λa' w' hl p=>bp tk ts j hcx R l (i+1) ⟨sw σ.env o.dst out,g⟩ a' w' hd' (by simpa[hl]using hb) (by simpa[hl]using hlo) h p
   split at h
   next f args he=>exact BF j hcx J he h hlo hno hr λout g a' w' hk hle p=>bp tk ts j hcx R l (i+1) ⟨sw σ.env o.dst out,g⟩ a' w' hd' (Θ hb hle) (Θ hlo hle) hk p
   ·cases h
def Wk {c:Gh}{u:AV}{v:Value}(h:RA c u [v]):RA c (clr u) [v]:=by
 cases u with
 |cond _ _=>exact⟨_,rfl⟩
 |_=>exact h
def Fp {c:Gh}:∀{l:List AV} {f:List Value},RAs c l f→RAs c (l.map clr) f
 |[],[],_=>trivial
 |_::_,_::_,⟨a,b⟩=>⟨Wk a,Fp b⟩
def Rel.clr (h:Rel fs lo B w0 U σ a w):Rel fs lo B w0 U ⟨σ.env.map Abs.clr,σ.heap⟩ a w:=by obtain⟨c,f,g,j,l,p,r⟩:=h;exact⟨c,f,g,j,l,Fp p,r⟩
def Rel.more (h:Rel fs lo B w0 U σ a w)(n:Nat):Rel fs lo B w0 U ⟨σ.env,σ.heap++List.replicate n .none⟩ a w:=by
 obtain⟨c,w1,hw,hh,j,hE,hdf,T⟩:=h;have g:∀(k:Nat) (x:HO),(c.heap++List.replicate n HO.none)[k]? = some x→x≠HO.none→c.heap[k]? = some x:=by
  intro k x r P;obtain hlt|hge:=d_ k c.heap.length
  ·rwa[ο hlt]at r
  ·rw[Q' hge,ajf]at r;split at r
   ·exact(P (π r).symm).elim
   ·cases r
 have f:∀(k:Nat) (x:HO),c.heap[k]? = some x→(c.heap++List.replicate n HO.none)[k]? = some x:=λk x r=>by rw[ο (ak r)];exact r
 let C:Gh:={ c with heap:=c.heap++List.replicate n .none };have ev:Ev c C:=⟨Sb.le.refl _,λ_ _ _ _ x=>x,λk cells x=>⟨cells,f k _ x,rfl⟩,λk t e v x=>⟨t,e,v,f k _ x,ζ _,λ_=>rfl⟩,λk t e v l x=>.inl ⟨v,l,f k _ x,ζ _,λ_=>rfl⟩,λk x=>f k _ x,λ_ _=>rfl⟩;have J:∀k,obk C k=obk c k:=λk=>by
  unfold obk;cases R:c.heap[k]? with
  |some x=>rw[show C.heap[k]? = some x from f k x R]
  |none=>
   have:C.heap[k]? = none∨C.heap[k]? = some .none:=by
    cases p:C.heap[k]? with
    |none=>exact .inl rfl
    |some x=>
     refine .inr ?_;cases x with
     |none=>rfl
     |box cells=>have:=g k _ p Ψ;rw[R]at this;cases this
     |row t e v=>have:=g k _ p Ψ;rw[R]at this;cases this
     |mrow t e v l=>have:=g k _ p Ψ;rw[R]at this;cases this
     |dead=>have:=g k _ p Ψ;rw[R]at this;cases this
   obtain h|h:=this <;> rw[h]
 refine⟨C,w1,hw,by simp[C,hh],⟨j.below,j.size,j.bnd,j.st0,j.stN,λk cells x=>?_,λk t e v x=>j.row k t e v (g k _ x Ψ),λk k' b P h1 h2=>?_,λk t e v l x=>j.mrow k t e v l (g k _ x Ψ),j.drawn,λk b hb=>j.fo k b (by rw[J]at hb;exact hb),j.fl,j.j0,λb e cap n x=>(j.junk b e cap n x).imp id λq=>q.keep rfl (λ_ y=>y) λk y=>by rw[J]at y;exact y⟩,hE.mono ev,hdf,λfr hfr=>⟨(T fr hfr).1.mono ev,(T fr hfr).2⟩⟩
 ·obtain⟨arr,t,h1,h2,h3,h4⟩:=j.box k cells (g k _ x Ψ);exact⟨arr,t,h1,h2,h3,h4.mono ev⟩
 ·rw[J]at h1 h2;exact j.sep k k' b P h1 h2
def Rel.drewW (h:Rel fs lo B w0 U σ a w):Rel fs lo B w0 U σ a { w with drawn:=w.drawn+1 }:=by obtain⟨c,r,rfl,C,J,P,j,f⟩:=h;obtain⟨R,p⟩:=J.drew;exact⟨{ c with w:=c.w.drew },r,rfl,C,R,P.mono p,j,λl g=>⟨(f l g).1.mono p,(f l g).2⟩⟩
end
def fb:∀(l:List Oper) (f:List Nat) (i:Nat),i<f.length→(aJ l f).getD i 0=f.getD i 0
 |[],f,i,_=>by simp[aJ]
 |o::l,f,i,h=>by rw[aJ,fb l _ i Ξ];simp[List.getD,ο h]
def tn {g:List Nat}:∀(l:List Edge) (s q:Nat),(l.foldl (λs e=>if Region.binds .any e then s ||| 2^e.on ||| g.getD e.on 0 else s) s).testBit q=true →
  s.testBit q=true∨∃e∈l,Region.binds .any e=true∧(q=e.on∨(g.getD e.on 0).testBit q=true)
 |[],s,q,h=>.inl h
 |e::l,s,q,h=>by
  simp at h;obtain f|⟨C,p,j,r⟩:=tn l _ q h
  ·split at f
   ·rename_i j;simp at f;rcases f with(f|f)|f
    ·exact .inl f
    ·refine .inr ⟨e,Ψ,j,.inl ?_⟩;rw[Nat.testBit_two_pow]at f;exact(p_ f).symm
    ·exact .inr ⟨e,Ψ,j,.inr f⟩
   ·exact .inl f
  ·exact .inr ⟨C,by simp[p],j,r⟩
def iv:∀(l:List Oper) (f:List Nat) (i:Nat) (o:Oper),l[i]? = some o→b0 f.length l=true→∀q,((aJ l f).getD (f.length+i) 0).testBit q=true →
  ∃e∈o.after.toList,Region.binds .any e=true∧(q=e.on∨((aJ l f).getD e.on 0).testBit q=true)
 |[],f,i,o,h,_,_,_=>by simp at h
 |x::l,f,0,o,h,hok,q,hq=>by
  simp at h;subst h;simp only[b0,κ,T']at hok;rw[aJ,fb l _ _ Ψ]at hq;simp only[F?,List.getD,Q' (ζ _),ai0,aiH,s?]at hq;obtain h1|⟨e,p,r,g⟩:=tn _ _ _ hq
  ·simp at h1
  ·refine⟨e,p,r,g.imp id λg=>?_⟩;have j:e.on<f.length:=by have:=hok.1 e p;simpa[r]using this
   rw[aJ,fb l _ _ Ξ];have:=j;simpa[List.getD,ο this]using g
 |x::l,f,i+1,o,h,hok,q,hq=>by
  simp[b0]at hok;simp at h;have:=iv l (f++[x.after.toList.foldl (λs e=>if Region.binds .any e then s ||| 2^e.on ||| f.getD e.on 0 else s) 0]) i o h (by simpa using hok.2) q (by
   rw[aJ]at hq;rw[show(f++[x.after.toList.foldl (λs e=>if Region.binds .any e then s ||| 2^e.on ||| f.getD e.on 0 else s) 0]).length+i=f.length+(i+1)by simp;omega];exact hq)
  rw[aJ];exact this
section
variable {P:Program}{tab:Tab}{T:Specs}{ck:Callk}{B:Bd}{lo:Nat}{w0:World}{U:Sb}{fs:List (List AV×List Value)}
def ba (g:List Dl)(L:List Nat)(f:Sg):Sg:=L.foldl (λs j=>match g[j]? with|some d=>d.app s|none=>s) f
def nX (d:Dl)(f:Sg):(d.app f).env.length=f.env.length:=MG _ _ _
def kK (d:Dl)(f:Sg):(d.app f).heap.length=f.heap.length:=rZ _ _
def bP (g:List Dl)(j:Nat)(L:List Nat)(f:Sg):ba g (j::L) f=ba g L (match g[j]? with|some d=>d.app f|none=>f):=rfl
def v8 (f:List Dl)(L j:List Nat)(g:Sg):ba f (L++j) g=ba f j (ba f L g):=by simp[ba]
def bA (g:List Dl):∀(L:List Nat) (f:Sg),(ba g L f).heap.length=f.heap.length
 |[],f=>rfl
 |j::L,f=>by
  rw[bP,bA g L];split
  ·exact kK _ _
  ·rfl
def gH {f:Type}(l:List f)(i j:Nat)(x d:f):(l.set i x).getD j d=if i=j then(if i<l.length then x else d)else l.getD j d:=by
 simp only[List.getD,ajM];split
 ·split <;> simp
 ·rfl
def fa (l:List Dl)(t:Nat)(p:Nat→Bool)(C:∀j d,l[j]? = some d→d.dst=some t→p j=true):∀(L:List Nat) (r f:Sg),r.env.getD t .unk=f.env.getD t .unk→r.env.length=f.env.length →
  (ba l L r).env.getD t .unk=(ba l (L.filter p) f).env.getD t .unk
 |[],r,f,h,_=>h
 |j::L,r,f,h,hl=>by
  rw[bP];cases P:l[j]? with
  |none=>
   simp only;cases g:p j with
   |true=>rw[Z_ g,bP,P];exact fa l t p C L r f h hl
   |false=>rw[k? (by simp[g])];exact fa l t p C L r f h hl
  |some d=>
   simp only;cases g:p j with
   |true=>
    rw[Z_ g,bP,P];refine fa l t p C L _ _ ?_ (by simp[nX,hl]);simp only[Dl.app,sw];cases T:d.dst with
    |none=>exact h
    |some R=>simp only[gH,hl,h]
   |false=>
    rw[k? (by simp[g])];refine fa l t p C L _ _ ?_ (by simp[nX,hl]);simp only[Dl.app,sw];cases T:d.dst with
    |none=>exact h
    |some R=>
     have J:R≠t:=λe=>by subst e;have:=C j d P T;rw[g]at this;cases this
     simp only[gH,B' J,h]
def dL (l:List Dl)(k:Nat)(p:Nat→Bool)(C:∀j d J,l[j]? = some d→d.wr=some (k,J)→p j=true):∀(L:List Nat) (r f:Sg),r.heap.getD k .none=f.heap.getD k .none→r.heap.length=f.heap.length →
  (ba l L r).heap.getD k .none=(ba l (L.filter p) f).heap.getD k .none
 |[],r,f,h,_=>h
 |j::L,r,f,h,hl=>by
  rw[bP];cases R:l[j]? with
  |none=>
   simp only;cases g:p j with
   |true=>rw[Z_ g,bP,R];exact dL l k p C L r f h hl
   |false=>rw[k? (by simp[g])];exact dL l k p C L r f h hl
  |some d=>
   simp only;cases g:p j with
   |true=>
    rw[Z_ g,bP,R];refine dL l k p C L _ _ ?_ (by simp[kK,hl]);simp only[Dl.app,C8];cases U:d.wr with
    |none=>exact h
    |some x=>obtain⟨T,J⟩:=x;simp only[gH,hl,h]
   |false=>
    rw[k? (by simp[g])];refine dL l k p C L _ _ ?_ (by simp[kK,hl]);simp only[Dl.app,C8];cases U:d.wr with
    |none=>exact h
    |some x=>
     obtain⟨T,J⟩:=x;have P:T≠k:=λe=>by subst e;have:=C j d J R U;rw[g]at this;cases this
     simp only[gH,B' P,h]
def qm {J:List Oper}{r:Nat}:∀(l:List Oper) (i:Nat) (C:Sg) (p:List Dl) (U:List (Option Nat)),CP tab T J r i l C=some (p,U)→p.length=U.length∧p.length≤l.length∧l.length≤p.length+1 ∧
  ∀j (R:j<p.length),∃o,l[j]? = some o∧vL tab T J (r+(i+j)) o (ba p (List.range j) C)=some p[j] ∧
   U[j]? = some (match gOf (ba p (List.range j) C).env J o with|some g=>lE T o (r+(i+j)) g (cH (ba p (List.range j) C).env o)|none=>none)
 |[],i,C,p,U,h=>by cases h;exact⟨rfl,Ψ,Ψ,λj R=>by simp at R⟩
 |o::l,i,C,p,U,h=>by
  simp[CP]at h;split at h
  next d hd=>
   split at h
   ·rename_i P ts' hr;cases h;obtain⟨h1,h2,h3,h4⟩:=qm l (i+1) (d.app C) P ts' hr;refine⟨by simp[h1],by simp;omega,by simp;omega,λj R=>?_⟩;cases j with
    |zero=>exact⟨o,rfl,hd,rfl⟩
    |succ j=>
     obtain⟨o',g1,g2,g3⟩:=h4 j (by simpa using R);have f:ba (d::P) (List.range (j+1)) C=ba P (List.range j) (d.app C):=by rw[akg,bP];simp[aiH,ba,List.foldl_map,S?,Nat.succ_eq_add_one]
     refine⟨o',by simpa using g1, ?_, ?_⟩
     ·rw[f,show i+(j+1)=i+1+j by omega];simpa using g2
     ·rw[f,show i+(j+1)=i+1+j by omega];simpa using g3
   ·cases h
  ·split at h
   ·cases h;exact⟨rfl,Ψ,Ψ,λj R=>by simp at R⟩
   ·cases h
def Mh {U:List Oper}{R:Nat}{k:Sg→Option AV}{r:AV}:∀(l:List Oper) (i:Nat) (C:Sg) (j:List Dl) (ts:List (Option Nat)),CP tab T U R i l C=some (j,ts)→aF tab T ck U R i l C k=some r →
  (∀d∈j,d.chk=true)∧(j.length=l.length→k (ba j (List.range j.length) C)=some r) ∧
  (l.length=j.length+1→∃o,l[j.length]? = some o∧((∃fr out g,Nq tab o (ba j (List.range j.length) C) fr=some (true,out,g)∧k ⟨sw (ba j (List.range j.length) C).env o.dst out,g⟩=some r) ∨
   ∃f args,cL o (ba j (List.range j.length) C).env=some (f,args) ∧
   ck.call f args (ba j (List.range j.length) C).heap (λres g=>k ⟨sw (ba j (List.range j.length) C).env o.dst res,g⟩)=some r))
 |[],i,C,j,ts,h,p=>by cases h;exact⟨Ψ,λ_=>p,λh=>by simp at h⟩
 |o::l,i,C,j,ts,h,p=>by
  simp[CP]at h;simp[aF]at p;split at h
  next d hd=>
   simp[hd]at p;split at h
   ·rename_i P ts' htr;cases h;cases hc:d.chk with
    |false=>rw[hc]at p;cases p
    |true=>
     rw[hc]at p;obtain⟨h1,h2,h3⟩:=Mh l (i+1) (d.app C) P ts' htr p;have J:ba (d::P) (List.range (P.length+1)) C=ba P (List.range P.length) (d.app C):=by rw[akg,bP];simp[aiH,ba,List.foldl_map,S?,Nat.succ_eq_add_one]
     refine⟨λx hx=>?_,λhl=>?_,λhl=>?_⟩
     ·obtain rfl|hx:=C'.1 hx
      ·exact hc
      ·exact h1 x hx
     ·simp;rw[J];exact h2 (by simpa using hl)
     ·simp;rw[J];obtain⟨o',q1,q2⟩:=h3 (by simpa using hl);exact⟨o',by simpa using q1,q2⟩
   ·cases h
  next hd=>
   simp[hd]at p;split at h
   ·cases h;refine⟨Ψ,λhl=>by simp at hl,λ_=>?_⟩;split at p
    ·rename_i b out g hm;cases b with
     |false=>cases p
     |true=>exact⟨o,rfl,.inl ⟨_,out,g,hm,p⟩⟩
    ·split at p
     next f args he=>exact⟨o,rfl,.inr ⟨f,args,he,p⟩⟩
     ·cases p
   ·cases h
end
variable{q:Nat→Bool}{m:Nat}
def uY {i:Nat}(r:i≤m)(l:∀j,j<m→q j=true→j<i):(List.range m).filter q=(List.range i).filter q:=by
 have f:List.range m=List.range i++List.range' i (m-i):=by have:=List.range'_append_1 (s:=0) (m:=i) (n:=m-i);rw[show 0+i=i by omega,show i+(m-i)=m by omega]at this;rw[I?,I?,this]
 rw[f,aiE];have:(List.range' i (m-i)).filter q=[]:=by rw[Y?];intro j p;rw[List.mem_range'_1]at p;intro g;have:=l j Ω g;omega
 rw[this,m?]
def Bu {p :Nat→Bool}{i:Nat}(g:i<m)(r:∀j,j<m→q j=true→j<i)(f:∀j,j<m→p j=(q j||decide (j=i))):(List.range m).filter p=(List.range m).filter q++[i]:=by
 rw[uY (akf g) r,uY (i:=i+1) Ω (λj l h=>by
  rw[f j l,aiC,ρ]at h;obtain h|h:=h
  ·have:=r j l h;omega
  ·omega),ajj,aiE]
 congr 1
 ·apply l?;intro j l;rw[F_]at l;rw[f j Ω];simp;omega
 ·simp[f i g]
def Bv {f :Nat→Bool}(h:∀j,j<m→q j=f j):(List.range m).filter q=(List.range m).filter f:=by apply l?;intro j g;rw[F_]at g;exact h j g
def N8 {g:Type}{l f:List g}{d:g}(j:l.length=f.length)(h:∀i,l.getD i d=f.getD i d):l=f:=by apply ajg j;intro i r p;have:=h i;simpa[List.getD,δ r,δ p]using this
section
variable {P:Program}{tab:Tab}{T:Specs}{ck:Callk}{B:Bd}{lo:Nat}{w0:World}{U:Sb}{fs:List (List AV×List Value)}
variable{o:Oper}{i:Nat}{D:Nat→Bool}
def Uy {j:List Oper}{fresh:Nat}{p:Sg}{d:Dl}(h:vL tab T j fresh o p=some d) :
  d.dst=o.dst∧∀k l,d.wr=some (k,l)→cT T o.op=false∧(match gOf p.env j o with|some g=>lE T o fresh g (cH p.env o)|none=>none)=some k:=by
 unfold vL at h;split at h
 next g hg=>
  unfold Sf at h;split at h
  ·split at h
   ·cases h;refine⟨rfl,λk l f=>?_⟩;simp only at f;split at f
    ·cases f
    ·rename_i r;split at f
     next k' C=>cases f;rw[hg];exact⟨by simpa using r,C⟩
     ·cases f
   ·cases h
  ·split at h
   ·split at h
    ·cases h;exact⟨rfl,λk l f=>by cases f⟩
    ·cases h
   ·split at h
    ·cases h;exact⟨rfl,λk l f=>by cases f⟩
    ·cases h
 ·cases h
def yw {f:List Oper}{t:Nat}(h:Operand.tmp t∈o.op.operands.toList):t∈eA f o:=by unfold eA;rw[O'];exact .inl (List.mem_filterMap.2 ⟨_,h,rfl⟩)
def UW {f:List Oper}{e g:List AV}(h:∀t∈eA f o,e.getD t .unk=g.getD t .unk):cH e o=cH g o:=by
 unfold cH;apply List.map_congr_left;intro x j;cases x with
 |tmp t=>exact h t (yw j)
 |_=>rfl
def V0 {f:List Oper}{e l:List AV}(h:∀t∈eA f o,e.getD t .unk=l.getD t .unk):gOf e f o=gOf l f o:=by
 unfold gOf;cases r:o.guard with
 |none=>rfl
 |some p=>
  obtain⟨j,g⟩:=p;simp only;have:yR e f j g=yR l f j g:=by
   unfold yR;split
   next d hd=>have:=h d (by unfold eA;rw[O'];exact .inr (by simp[r,hd]));rw[this]
   ·rfl
  rw[this]
structure Drawn (tab:Tab)(T:Specs)(ops:Array Oper)(base:Nat)(J:Sg)(ds:List Dl)(ts:List (Option Nat)):Prop where
 tr:CP tab T ops.toList base 0 ops.toList J=some (ds,ts)
 ok:KN T ops.toList ts (aJ ops.toList [])=true
variable {ops:Array Oper}{base:Nat}{J:Sg}{ds:List Dl}{ts:List (Option Nat)}
def Drawn.pair (h:Drawn tab T ops base J ds ts){j:Nat}(f:i<j)(g:j<ops.size):if j<ts.length then fE T ops.toList (aJ ops.toList []) ts i j=true else((aJ ops.toList []).getD j 0).testBit i=true:=by
 have:=h.ok;simp[KN]at this;have:=this.2 j (by simpa using g) i f;split
 next hlt=>simpa[hlt]using this
 next hlt=>simpa[hlt]using this
def Drawn.edges (h:Drawn tab T ops base J ds ts):b0 0 ops.toList=true:=by have:=h.ok;simp[KN]at this;exact this.1
def DC (ops:Array Oper)(D:Nat→Bool):Prop:=∀j,D j=true→∀i,((aJ ops.toList []).getD j 0).testBit i=true→D i=true
def BN {T:Specs}{l:List Oper}{g f:Oper}{C r:Option Nat}(h:apart T l g f C r=true) :
  (∀d,g.dst=some d→f.dst≠some d)∧(∀d,g.dst=some d→d ∉ eA l f)∧(∀d,f.dst=some d→d ∉ eA l g)∧(∀k,C=some k→r=some k→cT T g.op=true∧cT T f.op=true):=by
 simp[apart]at h;obtain⟨⟨⟨P,J⟩,h3⟩,h4⟩:=h;refine⟨λd e p=>?_,λd e j=>?_,λd e j=>?_,λk e p=>?_⟩
 ·simp[HT,e,p]at P
 ·rw[e]at J;simp[j]at J
 ·rw[e]at h3;simp[j]at h3
 ·subst e;subst p;simpa[HT]using h4
def Drawn.order (h:Drawn tab T ops base J ds ts)(hdc:DC ops D){j:Nat}(hi:i<ds.length)(hj:j<ds.length)(hne:j≠i){P oj:Oper}(hoi:ops[i]? = some P)(hoj:ops[j]? = some oj)(hDi:D i=false)
  (R:∀q,((aJ ops.toList []).getD i 0).testBit q=true→D q=true)
  (g:(∃t,oj.dst=some t∧(t∈eA ops.toList P∨P.dst=some t))∨(∃k,ts.getD i none=some k∧ts.getD j none=some k∧cT T oj.op=false)∨(∃k,ts.getD i none=some k∧ts.getD j none=some k∧cT T P.op=false)):D j=decide (j<i):=by
 obtain⟨t1,t2,t3,_⟩:=qm _ _ _ _ _ h.tr;have hsz:ds.length≤ops.size:=by simpa using t2
 have g1:ops.toList[i]? = some P:=by simpa using hoi
 have g2:ops.toList[j]? = some oj:=by simpa using hoj
 obtain hlt|hge:=d_ j i
 ·have f:=h.pair hlt Ω;rw[β Ω]at f;simp[fE,g1,g2]at f;obtain f|f:=f
  ·rw[R j f];simp[hlt]
  ·exfalso;obtain⟨a1,a2,a3,U⟩:=BN f;rcases g with⟨t,e,p|p⟩|⟨k,C,r,l⟩|⟨k,C,r,l⟩
   ·exact a2 t e p
   ·exact a1 t e p
   ·have:=(U k r C).1;rw[l]at this;cases this
   ·have:=(U k r C).2;rw[l]at this;cases this
 ·have hgt:i<j:=Ω
  have f:=h.pair hgt Ω;rw[β Ω]at f;simp[fE,g1,g2]at f;have hD:D j=false:=by
   obtain f|f:=f
   ·cases hDj:D j with
    |false=>rfl
    |true=>have:=hdc j hDj i f;rw[hDi]at this;cases this
   ·exfalso;obtain⟨a1,a2,a3,U⟩:=BN f;rcases g with⟨t,e,p|p⟩|⟨k,C,r,l⟩|⟨k,C,r,l⟩
    ·exact a3 t e p
    ·exact a1 t p e
    ·have:=(U k C r).2;rw[l]at this;cases this
    ·have:=(U k C r).1;rw[l]at this;cases this
  rw[hD];simp;omega
def stD (ds:List Dl)(D:Nat→Bool)(J:Sg):Sg:=ba ds ((List.range ds.length).filter D) J
def Drawn.at_ (h:Drawn tab T ops base J ds ts)(R:i<ds.length):∃o,ops[i]? = some o∧vL tab T ops.toList (base+i) o (ba ds (List.range i) J)=some ds[i] ∧
  ts.getD i none=(match gOf (ba ds (List.range i) J).env ops.toList o with|some g=>lE T o (base+i) g (cH (ba ds (List.range i) J).env o)|none=>none)∧ds[i].dst=o.dst∧(∀k f,ds[i].wr=some (k,f)→cT T o.op=false∧ts.getD i none=some k):=by
 obtain⟨t1,t2,t3,P⟩:=qm _ _ _ _ _ h.tr;obtain⟨o,U,j,p⟩:=P i R;simp at j p;have r:ts.getD i none=(match gOf (ba ds (List.range i) J).env ops.toList o with|some g=>lE T o (base+i) g (cH (ba ds (List.range i) J).env o)|none=>none):=by rw[List.getD,p];exact rfl
 obtain⟨d1,C⟩:=Uy j;exact⟨o,by simpa using U,j,r,d1,λk f l=>⟨(C k f l).1,by rw[r];exact(C k f l).2⟩⟩
def Drawn.step (h:Drawn tab T ops base J ds ts)(hdc:DC ops D)(hi:i<ds.length)(P:D i=false)(r:∀q,((aJ ops.toList []).getD i 0).testBit q=true→D q=true) :
  ∃o,ops[i]? = some o∧vL tab T ops.toList (base+i) o (stD ds D J)=some ds[i]:=by
 obtain⟨o,ho,U,R,hdst,hwr⟩:=h.at_ hi;refine⟨o,ho, ?_⟩;have henv:∀t∈eA ops.toList o,(stD ds D J).env.getD t .unk=(ba ds (List.range i) J).env.getD t .unk:=by
  intro t ht;have p1:=fa ds t (λj=>match ds[j]? with|some d=>decide (d.dst=some t)|none=>false) (λj d h1 h2=>by simp[h1,h2]) ((List.range ds.length).filter D) J J rfl rfl;have p2:=fa ds t (λj=>match ds[j]? with|some d=>decide (d.dst=some t)|none=>false) (λj d h1 h2=>by simp[h1,h2]) (List.range i) J J rfl rfl;unfold stD;rw[p1,p2,u?];congr 3;rw[uY (i:=i) (akf hi) ?_]
  ·apply l?;intro j C;rw[F_]at C;have p:j<ds.length:=Ω
   simp only[δ p];cases hdt:decide (ds[j].dst=some t)with
   |false=>simp
   |true =>obtain⟨oj,l,_,_,hd,_⟩:=h.at_ p;have hm:=h.order hdc hi p Ω ho l P r (.inl ⟨t,by rw[←hd];exact p_ hdt,.inl ht⟩);rw[hm];simp[C]
  ·intro j C f;simp only[δ C,κ]at f;obtain hlt|heq|hgt:=d? j i
   ·exact hlt
   ·subst heq;rw[P]at f;exact absurd f.2 Ψ
   ·exfalso;obtain⟨oj,l,_,_,hd,_⟩:=h.at_ C;have hm:=h.order hdc hi C Ω ho l P r (.inl ⟨t,by rw[←hd];exact p_ f.1,.inl ht⟩);rw[hm]at f;simp at f;omega
 have e1:=V0 (o:=o) henv;have e2:=UW (o:=o) henv;unfold vL at U⊢;rw[e1,e2];split at U
 next g hg=>
  simp[hg]at R⊢;have hheap:NQ (stD ds D J).heap (lE T o (base+i) g (cH (ba ds (List.range i) J).env o))=NQ (ba ds (List.range i) J).heap (lE T o (base+i) g (cH (ba ds (List.range i) J).env o)):=by
   cases htch:lE T o (base+i) g (cH (ba ds (List.range i) J).env o)with
   |none=>rfl
   |some k=>
    rw[htch]at R;simp only[NQ];have p1:=dL ds k (λj=>match ds[j]? with|some d=>(match d.wr with|some x=>decide (x.1=k)|none=>false)|none=>false) (λj d ho h1 h2=>by simp[h1,h2]) ((List.range ds.length).filter D) J J rfl rfl;have p2:=dL ds k (λj=>match ds[j]? with|some d=>(match d.wr with|some x=>decide (x.1=k)|none=>false)|none=>false) (λj d ho h1 h2=>by simp[h1,h2]) (List.range i) J J rfl rfl;unfold stD;rw[p1,p2,u?];congr 3;rw[uY (i:=i) (akf hi) ?_]
    ·apply l?;intro j C;rw[F_]at C;have p:j<ds.length:=Ω
     simp[δ p];cases hw:ds[j].wr with
     |none=>simp
     |some x=>
      obtain⟨k',ho'⟩:=x;simp only;cases hk:decide (k'=k)with
      |false=>simp
      |true =>have hk:=p_ hk;subst hk;obtain⟨oj,l,_,_,_,hwj⟩:=h.at_ p;obtain⟨w1,w2⟩:=hwj k' ho' hw;have hm:=h.order hdc hi p Ω ho l P r (.inr (.inl ⟨k',R,w2,w1⟩));rw[hm];simp[C]
    ·intro j C f;simp[δ C]at f;obtain hlt|heq|hgt:=d? j i
     ·exact hlt
     ·subst heq;rw[P]at f;exact absurd f.2 Ψ
     ·exfalso;cases hw:ds[j].wr with
      |none=>rw[hw]at f;simp at f
      |some x =>obtain⟨k',ho'⟩:=x;rw[hw]at f;have hk:k'=k:=p_ f.1;subst hk;obtain⟨oj,l,_,_,_,hwj⟩:=h.at_ C;obtain⟨w1,w2⟩:=hwj k' ho' hw;have hm:=h.order hdc hi C Ω ho l P r (.inr (.inl ⟨k',R,w2,w1⟩));rw[hm]at f;simp at f;omega
  rw[hheap];exact U
 ·cases U
def Drawn.next (h:Drawn tab T ops base J ds ts){D' :Nat→Bool}(hdc:DC ops D)(hi:i<ds.length)(C:D i=false)(hpre:∀q,((aJ ops.toList []).getD i 0).testBit q=true→D q=true)
  (hD':∀j,D' j=(D j||decide (j=i))):stD ds D' J=ds[i].app (stD ds D J):=by
 obtain⟨o,ho,_,_,hdst,hwr⟩:=h.at_ hi;have henv:(stD ds D' J).env=(ds[i].app (stD ds D J)).env:=by
  have hlen:∀L:List Nat,(ba ds L J).env.length=J.env.length:=λL=>by
   suffices ∀(L:List Nat) (σ:Sg),(ba ds L σ).env.length=σ.env.length from this L J;intro L;induction L with
   |nil=>intro σ;rfl
   |cons j L ih=>intro σ;rw[bP,ih];split;exact nX _ _;rfl
  refine N8 (d :=.unk) (by rw[nX];unfold stD;rw[hlen,hlen]) (λt=>?_);let p:Nat→Bool:=λj=>match ds[j]? with|some d=>decide (d.dst=some t)|none=>false
  have p1:=fa ds t p (λj d h1 h2=>by simp[p,h1,h2]) ((List.range ds.length).filter D') J J rfl rfl;have p2:=fa ds t p (λj d h1 h2=>by simp[p,h1,h2]) ((List.range ds.length).filter D) J J rfl rfl;rw[u?]at p1 p2;unfold stD;by_cases f:ds[i].dst=some t
  ·have hsn:(List.range ds.length).filter (λj=>p j&&D' j)=(List.range ds.length).filter (λj=>p j&&D j)++[i]:=by
    refine Bu hi (λj P g=>?_) (λj P=>?_)
    ·simp[p,δ P]at g;have l:j≠i:=λe=>by subst e;rw[C]at g;exact absurd g.2 Ψ
     obtain⟨oj,hoj,_,_,hd,_⟩:=h.at_ P;have hm:=h.order hdc hi P l ho hoj C hpre (.inl ⟨t,by rw[←hd];exact g.1,.inr (by rw[←hdst];exact f)⟩);rw[hm]at g;simpa using g.2
    ·rw[hD'];by_cases e:j=i
     ·subst e;simp[p,hi,f,C]
     ·simp[e]
   rw[p1,hsn,v8];simp only[bP,δ hi];show(ds[i].app _).env.getD t .unk=_;simp only[Dl.app,sw,f,gH,hlen,h?]
  ·have hsm:(List.range ds.length).filter (λj=>p j&&D' j)=(List.range ds.length).filter (λj=>p j&&D j):=by
    refine Bv λj P=>?_;rw[hD'];by_cases e:j=i
    ·subst e;simp[p,hi,f]
    ·simp[e]
   rw[p1,hsm,←p2];simp only[Dl.app,sw];cases hd:ds[i].dst with
   |none=>rfl
   |some t' =>have l:t'≠t:=λe=>f (by rw[hd,e]);simp only[gH,B' l]
 have r:(stD ds D' J).heap=(ds[i].app (stD ds D J)).heap:=by
  refine N8 (d :=.none) (by rw[kK];unfold stD;rw[bA,bA]) (λk=>?_);let p:Nat→Bool:=λj=>match ds[j]? with|some d=>(match d.wr with|some x=>decide (x.1=k)|none=>false)|none=>false
  have p1:=dL ds k p (λj d ho h1 h2=>by simp[p,h1,h2]) ((List.range ds.length).filter D') J J rfl rfl;have p2:=dL ds k p (λj d ho h1 h2=>by simp[p,h1,h2]) ((List.range ds.length).filter D) J J rfl rfl;rw[u?]at p1 p2;unfold stD;by_cases f:∃ho',ds[i].wr=some (k,ho')
  ·obtain⟨ho',hw⟩:=f;have hsn:(List.range ds.length).filter (λj=>p j&&D' j)=(List.range ds.length).filter (λj=>p j&&D j)++[i]:=by
    refine Bu hi (λj P g=>?_) (λj P=>?_)
    ·simp[p,δ P]at g;have l:j≠i:=λe=>by subst e;rw[C]at g;exact absurd g.2 Ψ
     obtain⟨oj,hoj,_,_,_,hwj⟩:=h.at_ P;cases R:ds[j].wr with
     |none=>rw[R]at g;simp at g
     |some x =>obtain⟨k',U⟩:=x;rw[R]at g;have hk:k'=k:=p_ g.1;subst hk;obtain⟨w1,w2⟩:=hwj k' U R;have hm:=h.order hdc hi P l ho hoj C hpre (.inr (.inl ⟨k',(hwr k' ho' hw).2,w2,w1⟩));rw[hm]at g;simpa using g.2
    ·rw[hD'];by_cases e:j=i
     ·subst e;simp[p,hi,hw,C]
     ·simp[e]
   rw[p1,hsn,v8];simp only[bP,δ hi];show(ds[i].app _).heap.getD k .none=_;simp only[Dl.app,C8,hw,gH,bA,h?]
  ·have hsm:(List.range ds.length).filter (λj=>p j&&D' j)=(List.range ds.length).filter (λj=>p j&&D j):=by
    refine Bv λj P=>?_;rw[hD'];by_cases e:j=i
    ·subst e;have:p j=false:=by
      simp only[p,δ P];cases R:ds[j].wr with
      |none=>rfl
      |some x =>obtain⟨k',U⟩:=x;simp only[aiG];exact λe=>f ⟨U,by rw[R,e]⟩
     simp[this]
    ·simp[e]
   rw[p1,hsm,←p2];simp only[Dl.app,C8];cases hd:ds[i].wr with
   |none=>rfl
   |some x =>obtain⟨k',U⟩:=x;have l:k'≠k:=λe=>f ⟨U,by rw[hd,e]⟩;simp only[gH,B' l]
 cases hs:stD ds D' J with
 |mk e1 h1=>
  cases hs2:ds[i].app (stD ds D J)with
  |mk e2 h2 =>rw[hs,hs2]at henv r;simp only at henv r;rw[henv,r]
end
section
variable {P:Program}{tab:Tab}{T:Specs}{ck:Callk}{B:Bd}{lo:Nat}{w0:World}{U:Sb}{fs:List (List AV×List Value)}
variable {Γ:List Lq}{ops:Array Oper}{base:Nat}{J:Sg}{ds:List Dl}{ts:List (Option Nat)}
variable{C:Array Bool}{i n:Nat}{ro:Option Nat}{a:Act}{w:World}{k:Sg→Option AV}
def tm {j:Nat}(f:i<C.size):(C.setIfInBounds i true).getD j false=(C.getD j false||decide (j=i)):=by
 simp;by_cases h:i=j
 ·subst h;simp[f]
 ·have:¬j=i:=λe=>h e.symm;simp[h,this]
def kQ (n j:Nat):(Array.replicate n false).getD j false=false:=by simp only[n_,akc];split <;> rfl
def dK (r:C.size=ops.size)(h:i∈Region.ready .any ops C) :
  i<ops.size∧C.getD i false=false∧∃o,ops[i]? = some o∧∀e∈o.after,Region.binds .any e=true→C.getD e.on false=true:=by
 rw[akd]at h;obtain⟨p,o,g,l⟩:=h;have f:i<ops.size:=(η.1 g).1;refine⟨f, ?_,o,g,l⟩;have j:i<C.size:=Ω
 simpa[n_,j]using p
def KP (P:b0 0 ops.toList=true)(R:C.size=ops.size)(r:DC ops (λj=>C.getD j false))(h:i∈Region.ready .any ops C) :
  (∀q,((aJ ops.toList []).getD i 0).testBit q=true→C.getD q false=true)∧DC ops (λj=>(C.setIfInBounds i true).getD j false):=by
 obtain⟨U,hDi,o,T,l⟩:=dK R h;have J:∀q,((aJ ops.toList []).getD i 0).testBit q=true→C.getD q false=true:=by
  intro q J;obtain⟨e,he,hb,g⟩:=iv ops.toList [] i o (by simpa using T) P q (by simpa using J);have p:=l e (by simpa using he) hb;obtain rfl|g:=g
  ·exact p
  ·exact r e.on p q g
 refine⟨J,λj f q g=>?_⟩;have f:(C.setIfInBounds i true).getD j false=true:=f;show(C.setIfInBounds i true).getD q false=true;rw[tm Ω]at f⊢;simp only[aiC,ρ]at f⊢;obtain f|rfl:=f
 ·exact .inl (r j f q g)
 ·exact .inl (J q g)
def Do (J:b0 0 ops.toList=true)(hs:C.size=ops.size)(hr:Region.ready .any ops C=[]):∀i,i<ops.size→C.getD i false=true:=by
 intro i;induction i using Nat.strongRecOn with
 |_ i U=>
  intro R;cases hD:C.getD i false with
  |true=>rfl
  |false=>
   exfalso;have:i∈Region.ready .any ops C:=by
    rw[akd];have hl:i<C.size:=Ω
    refine⟨by simpa[n_,hl]using hD,ops[i],by simp[R],λe g P=>?_⟩;have r:e.on<i:=by
     have:∀(l:List Oper) (k j:Nat) (o:Oper),b0 k l=true→l[j]? = some o→∀e∈o.after.toList,Region.binds .any e=true→e.on<k+j:=by
      intro l;induction l with
      |nil=>intro k j o _ h;simp at h
      |cons x l p=>
       intro k j o f h e g T;simp only[b0,κ,T']at f;cases j with
       |zero =>simp at h;subst h;have:=f.1 e g;simpa[T]using this
       |succ j =>simp at h;have:=p (k+1) j o f.2 h e g T;omega
     have:=this ops.toList 0 i ops[i] J (by simp[R]) e (by simpa using g) P;omega
    exact U e.on r Ω
   rw[hr]at this;cases this
def wm {Q:Exit→Act→World→Prop}(h:Region.ready .any ops C=[])(j:Q .normal a w):∀f,wpAnyIn (RF ro) n P .any ops Q f C a w
 |0=>⟨h,j⟩
 |_+1=>⟨λ_=>j,λi g=>by rw[h]at g;cases g⟩
def Si (ds:List Dl){D:Nat→Bool}(h:∀i,i<ds.length→D i=true)(J:Sg):stD ds D J=ba ds (List.range ds.length) J:=by unfold stD;congr 1;rw[List.filter_eq_self];intro i f;exact h i (F_.1 f)
def Fc (hnd:∀o∈ops.toList,ff ro o)(tk:TabOk P tab)(tsok:SpecsOk P T)(ckok:CkOk P ck Γ)(hcx:Ctx Γ fs B w0)(h:Drawn tab T ops base J ds ts)(hb:base+ops.size≤J.heap.length)(hlo:lo≤J.heap.length){r:AV}
  (hrun:aF tab T ck ops.toList base 0 ops.toList J k=some r):∀(p:Nat) (C:Array Bool) (a:Act) (w:World),C.size=ops.size→DC ops (λj=>C.getD j false) →
   ((List.range ops.size).filter λj=>!C.getD j false).length≤p→(ds.length<ops.size→C.getD ds.length false=false) →
   Rel fs lo B w0 U (stD ds (λj=>C.getD j false) J) a w→wpAnyIn (RF ro) n P .any ops (jZ fs lo B w0 U (base+ops.size) k r) p C a w:=by
 obtain⟨t1,t2,t3,_⟩:=qm _ _ _ _ _ h.tr;obtain⟨r1,r2,r3⟩:=Mh _ _ _ _ _ h.tr hrun;simp at t2 t3 r2 r3;have hheap:∀D,(stD ds D J).heap.length=J.heap.length:=λD=>by unfold stD;exact bA _ _ _
 have fin:∀(C:Array Bool) (a:Act) (w:World),C.size=ops.size→Region.ready .any ops C=[]→(ds.length<ops.size→C.getD ds.length false=false)→Rel fs lo B w0 U (stD ds (λj=>C.getD j false) J) a w→jZ fs lo B w0 U (base+ops.size) k r .normal a w:=by
  intro C a w hs hr hl g;have R:=Do h.edges hs hr;have hm:ds.length=ops.size:=by
   obtain hlt|hge:=d_ ds.length ops.size
   ·have:=R _ hlt;rw[hl hlt]at this;cases this
   ·omega
  rw[Si ds (λi hi=>R i Ω)]at g;exact⟨_,r2 hm,g,by rw[bA];exact hb⟩
 intro p;induction p with
 |zero=>
  intro C a w hs hdc hcount hl g;have hr:Region.ready .any ops C=[]:=by
   rw[aiP];intro i hi;obtain⟨hlt,hDi,_⟩:=dK hs hi;have:i∈(List.range ops.size).filter λj=>!C.getD j false:=by rw[C?];exact⟨F_.2 hlt,by simp[hDi]⟩
   rw[U' (Nat.le_zero.1 hcount)]at this;cases this
  exact⟨hr,fin C a w hs hr hl g⟩
 |succ p ih=>
  intro C a w hs hdc hcount hl g;refine⟨λhr=>fin C a w hs hr hl g,λi hi=>?_⟩;obtain⟨hlt,hDi,o',ho',_⟩:=dK hs hi;obtain⟨hpre,hdc'⟩:=KP h.edges hs hdc hi;have hD':∀j,(C.setIfInBounds i true).getD j false=(C.getD j false||decide (j=i)):=λj=>tm Ω;obtain him|him:=d_ i ds.length
  ·obtain⟨o,ho,hst⟩:=h.step hdc him hDi hpre;refine C0 tk tsok ho hst (r1 _ (e_ him)) (by rw[hheap];omega) (hnd _ (q_.2 (y? ho))) g λa' w' l=>?_;rw[←h.next hdc him hDi hpre hD']at l;refine ih (C.setIfInBounds i true) a' w' (by simpa using hs) hdc' ?_ (λhlt'=>?_) l
   ·have hlen:((List.range ops.size).filter λj=>!(C.setIfInBounds i true).getD j false).length<((List.range ops.size).filter λj=>!C.getD j false).length:=by
     have e:((List.range ops.size).filter λj=>!(C.setIfInBounds i true).getD j false)=(((List.range ops.size).filter λj=>!C.getD j false)).filter (λj=>decide (j≠i)):=by rw[u?];apply l?;intro j _;rw[hD'];by_cases e:j=i <;> simp[e]
     rw[e];refine air.2 ⟨i, ?_,Ψ⟩;rw[C?];exact⟨F_.2 hlt,by simp[hDi]⟩
    omega
   ·rw[hD',hl hlt'];simp;omega
  ·
   have hi':i=ds.length:=Ω
   have R:∀j,j<ds.length→C.getD j false=true:=λj hj=>by have hp:=h.pair (i:=j) (j:=i) Ω hlt;rw[B' Ω]at hp;exact hpre j hp
   rw[Si ds R]at g;obtain⟨o,q1,q2⟩:=r3 Ω;have ho:ops[i]? = some o:=by rw[hi'];simpa using q1
   have hfull:Region.ready .any ops (C.setIfInBounds i true)=[]:=by
    rw[aiP];intro j hj;obtain⟨hjl,hDj,_⟩:=dK (by simpa using hs) hj;rw[hD']at hDj;simp only[ajs,aiG]at hDj;obtain x|x:=d_ j ds.length
    ·rw[R j x]at hDj;cases hDj.1
    ·omega
   rcases q2 with⟨fr,out,heap',m1,m2⟩|⟨f,args,q2,q3⟩
   ·refine Bi tk ho m1 (hnd _ (q_.2 (y? ho))) g λa' w' hl l=>?_;exact wm hfull ⟨_,m2,l,by rw[hl,bA];exact hb⟩ p
   ·refine BF ckok hcx ho q2 q3 (by rw[bA];exact hlo) (hnd _ (q_.2 (y? ho))) g λout heap' a' w' hk hle l=>?_;exact wm hfull ⟨_,hk,l,Θ (by rw[bA];exact hb) hle⟩ p
def Jy (J:∀o∈ops.toList,ff ro o)(hm:P.follows .mixedOrders=true)(tk:TabOk P tab)(l:SpecsOk P T)(p:CkOk P ck Γ)(R:Ctx Γ fs B w0){id:Nat}{f:Bool}{g:Sg}{r:AV}(hlo:lo≤g.heap.length)
  (h:um tab T ck ops.toList f g k=some r) (hr:Rel fs lo B w0 U g a w):(Code.region id ops f).wpIn (RF ro) n P (jZ fs lo B w0 U lo k r) a w:=by
 have C:∀{Q:Exit→Act→World→Prop} {a:Act} {w:World} {f:Bool},(Code.region id ops f).wpIn (RF ro) n P Q a w→(∀e a w,Q e a w→jZ fs lo B w0 U lo k r e a w)→(Code.region id ops f).wpIn (RF ro) n P (jZ fs lo B w0 U lo k r) a w:=λh1 h2=>wpIn_mono h1 h2;have conv:∀e a w,jZ fs lo B w0 U (g.heap.length+ops.size) (afq k) r e a w→jZ fs lo B w0 U lo k r e a w:=by
  intro e a w hn;cases e with
  |normal =>obtain⟨σ',h1,h2,h3⟩:=hn;exact⟨_,h1,h2.clr,by simp only;omega⟩
  |_=>exact hn.elim
 have hlen:ops.toList.length=ops.size:=by simp
 cases f with
 |false=>
  simp[um]at h;refine C (wpIn_region ?_) conv
  have:=bp (n:=n) tk l p R J ops.toList 0 ⟨g.env,g.heap++List.replicate ops.toList.length .none⟩ a w Ψ Ψ Ξ h (hr.more _);rw[I?];simpa using this
 |true=>
  simp[um]at h;split at h
  next ds ts htr=>
   split at h
   ·rename_i hok;have hd:Drawn tab T ops g.heap.length ⟨g.env,g.heap++List.replicate ops.toList.length .none⟩ ds ts:=⟨htr,hok⟩;refine C (wpIn_region_any hm ?_) conv
    refine Fc J tk l p R hd Ψ Ξ h ops.size (Array.replicate ops.size false) a _ Ψ ?_ ?_ ?_ ?_
    ·intro j hj;have hj:(Array.replicate ops.size false).getD j false=true:=hj;rw[kQ]at hj;cases hj
    ·exact Θ (w? _ _) Ψ
    ·intro _;exact kQ _ _
    ·have e:stD ds (λj=>(Array.replicate ops.size false).getD j false) ⟨g.env,g.heap++List.replicate ops.toList.length .none⟩=⟨g.env,g.heap++List.replicate ops.toList.length .none⟩:=by
      unfold stD;have:(List.range ds.length).filter (λj=>(Array.replicate ops.size false).getD j false)=[]:=by rw[Y?];intro j _;rw[kQ];simp
      rw[this];rfl
     rw[e];exact(hr.more _).drewW
   ·cases h
  ·cases h
end
