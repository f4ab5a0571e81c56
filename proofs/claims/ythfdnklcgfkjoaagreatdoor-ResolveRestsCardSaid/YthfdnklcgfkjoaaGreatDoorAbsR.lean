/- A region is sound. -/
import Derived.Test.YthfdnklcgfkjoaaGreatDoorAbsK
import Derived.RangeFuncCalls
import Derived.RangeFuncLeaves
import Derived.OrdersIn
import Derived.LoopNIn
set_option linter.all false
namespace Go.Proofs.YthfdnklcgfkjoaaGreatDoor.Abs
open Go Go.RowKit
def RF (f:Option Nat):Fence:={ Fence.wide with round:=f }
variable{P:Program}{ro:Option Nat}{n:Nat}{w:World}
def By {f:FuncId}{args:Array Value}{R:Ending→World→Prop}(h:Calls P f args w R):CallsIn (RF ro) n P f args w R:=by have g:CallsIn Fence.wide n P f args w R:=callsIn_wide.2 h;exact g
def gc (ro:Option Nat)(o:Oper):Prop:=ro=none∨∀c,o.op ≠ .defer c
def xL {o:Oper}{a:Act}{K:Act→World→Prop}{Q:Exit→Act→World→Prop}(g:gc ro o)(h:o.wp P a w K Q):o.wpIn (RF ro) n P a w K Q:=by
 refine⟨λ_ _=>trivial, ?_⟩;have e:o.semAt (RF ro).round a.eval=execOp a.eval o:=by
  obtain rfl|g:=g
  ·rfl
  ·exact Oper.semAt_eq _ _ _ g
 rw[e];unfold Oper.wp at h;generalize (execOp a.eval o).run P w=r at h⊢;cases r with
 |ok x j=>
  cases x <;> simp[Oper.upon,Oper.uponIn]at h⊢;case value=>exact h
  case skip=>exact h
  case defer=>exact h
  case enter=>exact⟨(λq=>by cases q),By h⟩
  case row =>refine⟨(λq=>by cases q),λc l _=>?_⟩;obtain⟨v,f,r1,r2⟩:=h c l;exact⟨v,f,r1,stepsIn_wide.2 r2⟩
 |halt x j=>cases x <;> simp[Oper.upon,Oper.uponIn]at h⊢ <;> exact h
def sY (B:Bd)(U f:World)(j:List Deferred):Prop :=
 Below B U f∧Og B.F U f∧∃g:List Nat,j=g.map (λD=>{ target :=.collected D,args :=#[] })∧g.Nodup∧∀D∈g,B≤D∧U.heap.size≤D∧f.heap[D]? = some (.deferred (some []))∧¬B.F D
def sY.none (B:Bd)(w:World):sY B w w []:=⟨Below.refl _ _,Og.refl _,[],rfl,asQ,λ_ h=>by cases h⟩
def sY.put {B:Bd}{U f:World}{a:Act}(h:sY B U f a.defers)(d:Option Nat)(v:Value):sY B U f (a.put d v).defers:=by cases d <;> exact h
def Rel (p:List (List AV×List Value))(l:Nat)(B:Bd)(U:World)(J:Sb)(g:Sg)(a:Act)(w:World):Prop :=
 ∃(c:Gh) (j:World),c.w=w∧c.heap=g.heap∧Inv B j J c∧RAs c g.env a.tmps.toList∧sY B U j a.defers∧∀f∈p,RAs c f.1 f.2∧f.1.all (AV.under l)=true
section
variable {P:Program}{tab:Tab}{T:Specs}{B:Bd}{lo:Nat}{U:World}{J:Sb}{c:Gh}{o:Oper}{a:Act}{fs:List (List AV×List Value)}{σ:Sg}{w:World}
def Bs (v:Value):RA c (CO v) [v]:=by
 unfold CO;split
 ·exact di _ _
 ·exact bZ _
 next s=>obtain⟨⟨l⟩⟩:=s;exact Cb l
 ·rfl
 ·exact⟨_,rfl⟩
def pO:∀l:List Value,RAs c (l.map CO) l
 |[]=>trivial
 |v::l=>⟨Bs v,pO l⟩
def D4:∀{f:List AV} {l:List Value},f.all AV.single=true→RAs c f l→∀u∈l,u.oneCell'=true
 |[],[],_,_,_,h=>by cases h
 |_::_,v::_,h,⟨j,g⟩,u,hu=>by
  simp only[n?,ι]at h;obtain rfl|hu:=N'.1 hu
  ·exact(zD j h.1).2
  ·exact D4 h.2 g u hu
def Jv (v:Value):RA c (Ol v) [v]:=by
 unfold Ol;split
 next g=>
  split
  next f=>exact⟨g.toList,Ψ,RA.of_chain (pO _),fD _,D4 (c:=c) f (pO _)⟩
  ·exact⟨_,rfl⟩
 ·exact Bs _
def mT (h:RAs c σ.env a.tmps.toList)(x:Operand):RA c (QP σ.env x) [a.eval x]:=by
 cases x with
 |tmp t=>
  simp only[QP,Act.eval];obtain hlt|hge:=T' t σ.env.length
  ·obtain⟨v,l,p⟩:=h.get t σ.env[t] (ζ hlt);have j:σ.env.getD t .unk=σ.env[t]:=by simp[List.getD,ζ hlt]
   have r:a.tmps.getD t undef=v:=by
    have:a.tmps[t]? = some v:=by simpa using l
    simp[n_,this]
   rw[j,r];exact p
  ·have j:σ.env.getD t .unk = .unk:=by simp[List.getD,z_ hge]
   rw[j];exact⟨_,rfl⟩
 |const v=>exact Jv v
 |func f=>exact⟨[],rfl,rfl,rfl⟩
 |global g=>exact⟨_,rfl⟩
def we (h:RAs c σ.env a.tmps.toList):∀l:List Operand,RAs c (l.map (QP σ.env)) (l.map a.eval)
 |[]=>trivial
 |x::l=>⟨mT h x,we h l⟩
variable{v:Value}{g b:Bool}{op:Op}{vs:List Value}{vals:List AV}{fresh:Nat}{ho ho' :HO}{out:AV}
def eL (h:RAs c σ.env a.tmps.toList){f:Option Nat}{u:AV}(g:RA c u [v]):RAs c (ud σ.env f u) (a.put f v).tmps.toList:=by
 cases f with
 |none=>exact h
 |some d =>simp[ud,Act.put];exact h.set d g
def Dk {g:Bool}(f:g=true):∀{l:List AV} {vs:List Value},(qb g l).1=true→RAs c l vs→RAs c (qb g l).2 vs
 |[],[],_,_=>trivial
 |u::l,v::vs,h,⟨r,p⟩=>by
  simp[qb]at h;refine⟨?_,Dk f h.2 p⟩;have j:=h.1;cases u with
  |cond J C =>simp only[pu,f,pZ]at j;subst j;simpa[pu,RA]using r
  |_=>exact r
def Mu (f:g=true){u:AV}(h:(pu g u).1=true)(r:RA c u [v]):RA c (pu g u).2 [v]:=by
 cases u with
 |cond l j =>simp only[pu,f,pZ]at h;subst h;simpa[pu,RA]using r
 |_=>exact r
def xD (f:g=true){l:List AV}(h:(iC op g l).1=true)(r:RAs c l vs):RAs c (iC op g l).2 vs:=by
 unfold iC at *;split
 next x y z u l'=>
  simp only at h;match vs,r with
  |v::vs,⟨r1,r2⟩=>exact⟨Mu f h r1,r2⟩
 next hne=>
  split at h
  ·exact(hne _ _ _ _ _ rfl rfl).elim
  ·exact Dk f h r
def aj4 (l:dh T o.op=true)(h:aeO tab T o g vals fresh ho=some (b,out,ho')):ho'=ho:=by
 have j:∀{x:Bool×AV×HO},some x=some (b,out,ho')→x.2.2=ho→ho'=ho:=λp C=>by simp at p;rw[p]at C;exact C
 have f:∀{q:Prop},(none:Option (Bool×AV×HO))=some (b,out,ho')→q:=λp=>by cases p
 unfold aeO at h;generalize o.op=op at h l;cases op;case call cl=>
  simp[dh]at h l;generalize cl.callee=ce at h l;cases ce with
  |builtin J=>
   cases J;case append=>simp at l
   all_goals simp only at h
   all_goals (repeat' split at h)
   all_goals first|exact f h|exact j h rfl
  |value x=>
   simp at h l;rw[l.1,l.2]at h;simp only at h
   repeat' split at h
   all_goals first|exact f h|exact j h rfl
  |invoke r m=>exact f h
 case alloc=>simp[dh]at l
 case box=>simp[dh]at l
 case buildSlice=>simp[dh]at l
 case makeSlice=>simp[dh]at l
 case store=>simp[dh]at l
 case unOp u t x=>
  cases u <;> simp only at h;all_goals (repeat' split at h)
  all_goals first|exact f h|exact j h rfl
 case makeFunc fn first cap=>
  cases fn <;> simp only at h;all_goals (repeat' split at h)
  all_goals first|exact f h|exact j h rfl
 case slice t x lo hi mx=>
  cases mx <;> simp only at h;all_goals (repeat' split at h)
  all_goals first|exact f h|exact j h rfl
 all_goals simp only at h
 all_goals (repeat' split at h)
 all_goals first|exact f h|exact j h rfl
def aj3 (T:Specs)(j:dh T o.op=true)(h:aeN tab o vals ho=some (b,out,ho')):ho'=ho:=by
 have g:∀{x:Bool×AV×HO},some x=some (b,out,ho')→x.2.2=ho→ho'=ho:=λl p=>by simp at l;rw[l]at p;exact p
 have f:∀{q:Prop},(none:Option (Bool×AV×HO))=some (b,out,ho')→q:=λl=>by cases l
 unfold aeN at h;split at h
 ·generalize o.op=op at h j;cases op;case call cl=>
   simp[dh]at h j;generalize cl.callee=ce at h j;cases ce with
   |builtin C=>
    cases C;case append=>simp at j
    all_goals simp only at h
    all_goals (repeat' split at h)
    all_goals first|exact f h|exact g h rfl
   |value x=>exact f h
   |invoke r m=>exact f h
  case store=>simp[dh]at j
  case slice t x lo hi mx=>
   cases mx <;> simp only at h;all_goals (repeat' split at h)
   all_goals first|exact f h|exact g h rfl
  all_goals simp only at h
  all_goals (repeat' split at h)
  all_goals first|exact f h|exact g h rfl
 ·exact f h
def aeM (f:dh T o.op=true)(h:eff tab T o g vals fresh ho=some (b,out,ho')):ho'=ho:=by
 unfold eff at h;split at h
 next r hm=>cases h;exact aj3 T f hm
 ·exact aj4 f h
def Dc {k:Nat}(P:bH T op vals fresh=some k)(R:RAs c vals vs)(hf:fresh<c.heap.length):k<c.heap.length:=by
 have g:∀{k j:Nat} {v:Value},RA c (.box k j) [v]→k<c.heap.length:=λh=>by obtain⟨cells,h,_⟩:=h;exact aq h
 have f:∀{k n:Nat} {t:Ty} {l:List t.den} {v:Value},RA c (.own k n t l) [v]→k<c.heap.length:=λh=>by obtain⟨s,_,_,t',e',v',h,_⟩:=h;exact aq h
 have J:∀{k v:Nat} {Q:Ty→Prop},sX c k v Q→k<c.heap.length:=λh=>by rcases h with⟨_,_,_,_,h,_⟩|h <;> exact aq h
 have p:∀{k n lo U:Nat} {v:Value},RA c (.msl k n lo U) [v]→k<c.heap.length:=λh=>by obtain⟨s,_,_,h⟩:=h;exact J h
 have r:∀{k n i j:Nat} {v:Value},RA c (.mpt k n i j) [v]→k<c.heap.length:=λh=>by obtain⟨s,_,_,h⟩:=h;exact J h
 unfold bH at P
 repeat' split at P
 all_goals first|(cases P;done)|(simp at P;omega)|skip
 all_goals
  cases P;first
   |(match vs,R with
    |v::_,⟨C,_⟩=>first|exact g C|exact f C|exact p C|exact r C)
   |(match vs,R with
    |_::v::_,⟨_,C,_⟩=>first|exact g C|exact f C)
def Ld {f:Type}{l:List f}{k:Nat}{d:f}(h:k<l.length):l[k]? = some (l.getD k d):=by rw[ζ h];simp[List.getD,ζ h]
def FB {ro:Option Nat}{n:Nat}(tk:TabOk P tab)(ts:SpecsOk P T){R:Array Oper}{i:Nat}(hi:R[i]? = some o){d:Dl}(C:xE tab T R.toList fresh o σ=some d)(hc:d.chk=true)(hf:fresh<σ.heap.length)(hnd:gc ro o)
  (hr:Rel fs lo B U J σ a w) {Q:Exit→Act→World→Prop} {K:Act→World→Prop} (hK:∀a' w',Rel fs lo B U J (d.app σ) a' w'→K a' w'):wpOpIn (RF ro) n P R Q i K a w:=by
 obtain⟨c,w1,rfl,hh,hI,hE,hdf,p⟩:=hr;have f:∀v,sY B U w1 (a.put o.dst v).defers:=λv=>hdf.put o.dst v;have hraw:RAs c (cS σ.env o) (o.op.operands.toList.map a.eval):=we hE o.op.operands.toList;unfold wpOpIn;simp[hi];unfold xE at C;split at C
 next g hg=>
  unfold gOf at hg;cases hgd:o.guard with
  |none=>
   simp only[hgd,η]at hg;subst hg;have hw:Region.wanted o (yielded R a.tmps)=true:=by simp[Region.wanted,hgd]
   rw[β hw];refine xL hnd ?_;simp[WH,mg]at C;split at C
   ·rename_i cb out ho' he;cases C;simp only at hc;subst hc;have hho:∀k,bH T o.op (cS σ.env o) fresh=some k→c.heap[k]? = some (RL σ.heap (bH T o.op (cS σ.env o) fresh)):=λk hk=>by
     have:=Dc hk hraw (by rw[hh];exact hf);rw[hk];simp[RL];rw[hh]at this⊢;exact Ld this
    refine Lr tk ts hI rfl hraw hho he K Q (λv c' h1 h2 h3 h4=>hK _ _ ⟨c',w1,rfl, ?_,h2,eL (σ:=⟨σ.env,c'.heap⟩) (hE.mono h3) h4,f v,λfr r=>⟨(p fr r).1.mono h3,(p fr r).2⟩⟩);rw[h1];simp[Dl.app,FW,aH];cases hrd:dh T o.op with
    |true=>
     have:=aeM hrd he;subst this;simp;cases l:bH T o.op (cS σ.env o) fresh with
     |none=>simp only;exact hh
     |some k =>have h5:=hho k l;simp[l]at h5⊢;rw[fq h5];exact hh
    |false=>
     simp;cases l:bH T o.op (cS σ.env o) fresh with
     |none=>simp only;exact hh
     |some k=>simp[hh]
   ·cases C
  |some jw=>
   obtain⟨j,want⟩:=jw;simp[hgd]at hg;split at hg
   ·rename_i gb hgb;cases hg;have hwant:Region.wanted o (yielded R a.tmps)=gb:=by
     unfold Bc at hgb;split at hgb
     ·rename_i dd hdd;have hval:∀u,σ.env.getD dd .unk=u→u ≠ .unk→∃v,a.tmps[dd]? = some v∧RA c u [v]:=λu hu hne=>by
       obtain hlt|hge:=T' dd σ.env.length
       ·obtain⟨v,hv,hr⟩:=hE.get dd σ.env[dd] (ζ hlt);have:σ.env.getD dd .unk=σ.env[dd]:=by simp[List.getD,ζ hlt]
        exact⟨v,by simpa using hv,by rw[←hu,this];exact hr⟩
       ·exact(hne (by rw[←hu];simp[List.getD,z_ hge])).elim
      have hyd:yielded R a.tmps j=match a.tmps[dd]? with|some (.bool b)=>some b|_=>none:=by
       have hdd:(R[j]?).bind (·.dst)=some dd:=by simpa using hdd
       unfold yielded;rw[hdd];rfl
      simp[Region.wanted,hgd,hyd];split at hgb
      next b hb=>obtain⟨v,hv,hr⟩:=hval _ hb Ψ;have:=gq hr.val_inv;subst this;cases hgb;rw[hv];cases want <;> cases b <;> rfl
      ·rename_i cc b hb;obtain⟨v,hv,hr⟩:=hval _ hb Ψ;cases hgb;rw[hv];simp only[RA]at hr;cases cc with
       |true =>simp only[h?]at hr;have:=gq (RA.val_inv (c:=c) hr);subst this;cases want <;> cases b <;> rfl
       |false =>simp only[ash,asK,G',A_]at hr;subst hr;rfl
      ·cases hgb
     ·cases hgb
    simp only[WH]at C;split at C
    ·rename_i hrd;split at C
     ·rename_i cb out ho' he;simp only[η]at C;subst C;simp only[ι]at hc;rw[hwant];cases hgt:gb with
      |false=>
       simp only[ash,asK];refine⟨λ_ _=>trivial, ?_⟩;refine hK _ _ ⟨c,w1,rfl, ?_,hI,eL hE ?_,f _,p⟩
       ·simpa[Dl.app,FW]using hh
       ·simp[RA,hgt]
      |true=>
       simp only[h?];refine xL hnd ?_;subst hgt;have hs:=xD (op:=o.op) rfl hc.1 hraw;have hc2:cb=true:=by simpa[pZ]using hc.2
       subst hc2;simp only[mg]at he;have hho:∀k,bH T o.op (iC o.op true (cS σ.env o)).2 fresh=some k→c.heap[k]? = some (RL σ.heap (bH T o.op (iC o.op true (cS σ.env o)).2 fresh)):=λk hk=>by have:=Dc hk hs (by rw[hh];exact hf);rw[hk];simp only[RL];rw[hh]at this⊢;exact Ld this
       refine Lr tk ts hI rfl hs hho he K Q (λv c' h1 h2 h3 h4=>hK _ _ ⟨c',w1,rfl, ?_,h2,eL (σ:=⟨σ.env,c'.heap⟩) (hE.mono h3) (by simpa[RA]using h4),f v,λfr r=>⟨(p fr r).1.mono h3,(p fr r).2⟩⟩);rw[h1];have:=aeM hrd he;subst this;simp only[Dl.app,FW,aH];cases l:bH T o.op (iC o.op true (cS σ.env o)).2 fresh with
       |none=>simp only;exact hh
       |some k =>have h5:=hho k l;simp only[l]at h5⊢;rw[fq h5];exact hh
     ·cases C
    ·split at C
     ·rename_i out he;simp only[η]at C;subst C;simp only at hc;rw[hwant];cases hgt:gb with
      |false=>
       simp only[ash,asK];refine⟨λ_ _=>trivial, ?_⟩;refine hK _ _ ⟨c,w1,rfl, ?_,hI,eL hE ?_,f _,p⟩
       ·simpa[Dl.app,FW]using hh
       ·simp[RA,hgt]
      |true =>simp only[h?];refine xL hnd ?_;subst hgt;have hs:=xD (op:=o.op) rfl hc hraw;refine VO tk hI hs he K Q (λv c' h1 h2 h3 h4=>hK _ _ ⟨c',w1,rfl, ?_,h2,eL (σ:=⟨σ.env,c'.heap⟩) (hE.mono h3) (by simpa[RA]using h4),f v,λfr r=>⟨(p fr r).1.mono h3,(p fr r).2⟩⟩);rw[h1];exact hh
     ·cases C
   ·cases hg
 ·cases C
end
open Go Go.RowKit
section
variable {P:Program}{tab:Tab}{B:Bd}{U:World}{J:Sb}{c:Gh}{o:Oper}{a:Act}{σ:Sg}
variable{τ:Ty}{e:TypeId}
def ajw (hi:Inv B U J c){k v p f:Nat}{s:Value}{l:List τ.den}(hk:c.heap[k]? = some (.mrow τ e v l))(h:sZ (c.rv k) τ.size p f s) :
  ∃A cp T,s = .slice A ((l.take f).drop p).length cp∧Rep c.w c.St (chain (toD τ) ((l.take f).drop p)) T∧T.length=((l.take f).drop p).length*τ.size ∧
   (((l.take f).drop p).length=0∨∃ad,A=some ad∧∀j u,T[j]? = some u→c.w.cell? (ad.add j)=some u):=by
 rcases h with⟨h1,rfl,rfl,rfl⟩|⟨g,n,cap,A,h1,h2,h3,rfl,h5⟩
 ·exact⟨none,0,[],Ψ,rfl,Ψ,.inl Ψ⟩
 ·obtain⟨rfl,cur,xs,hg,hnc,hcm,hcs,P,R,_,hB⟩:=dH hi hk h1;have r:((l.take f).drop p).length=f-p:=by simp;omega
  have r1:=jt p Ξ (fJ f h3 R);refine⟨A,cap-p,_,by rw[r],r1,ba r1, ?_⟩;rw[r];obtain rfl|⟨h5,h6⟩:=h5
  ·refine .inr ⟨_,rfl,λj u C=>?_⟩;rw[U',E']at C;split at C
   ·rw[←P,E']at C;split at C
    ·rw[cH];simp[World.cell?,hg];simpa using C
    ·cases C
   ·cases C
  ·exact .inl Ω
def JV (hi:Inv B U J c){k v lo m:Nat}{l p:List τ.den}(hk:c.heap[k]? = some (.mrow τ e v l)){g n cap:Nat}(hr:c.rv k = .slice (some ⟨g,0,none⟩) n cap){f:Array Value}
  (hg:c.w.heap[g]? = some (.cells f e (0,0))) (hm:p.length=m) (P:lo+m≤l.length) {r:List Value} (T:Rep c.w c.St (chain (toD τ) p) r) :
  lo*τ.size+r.length≤f.size ∧
  let c':Gh:={ c with heap:=c.heap.set k (.mrow τ e v (l.take lo++p++l.drop (lo+m))),w:=c.w.setRow g (f.toList.take (lo*τ.size)++r++f.toList.drop (lo*τ.size+r.length)).toArray,St:=c.St,rv:=λi=>if i=k then c.rv k else c.rv i }
  Inv B U J c'∧Ev c c':=by
 obtain⟨hn,cur',xs,R,hnc,hcm,hcs,htk,C,hns,hB⟩:=dH hi hk hr;rw[hg]at R;cases R;subst hn;have hcl:=ba T;rw[hm]at hcl;have h1:lo*τ.size+m*τ.size≤l.length*τ.size:=by rw[←Nat.add_mul];exact Y' _ P
 have h2:l.length*τ.size≤cap*τ.size:=Y' _ hnc;have hcl2:f.toList.length=cap*τ.size:=by rw[ρ,hcs]
 refine⟨by rw[hcs];omega,Pm hi hk hr hg Ξ Ξ ?_⟩;have r1:=fJ lo Ω C;have r3:=jt (lo+m) P C;have:=dx (dx r1 T) r3;have e:((f.toList.take (lo*τ.size)++r++f.toList.drop (lo*τ.size+r.length)).toArray.toList.take (l.length*τ.size))=xs.take (lo*τ.size)++r++xs.drop ((lo+m)*τ.size):=by
  rw[←htk,F_];apply V_;intro j;simp only[E',arZ,U',h_,a_,hcl2,hcl];by_cases q1:j<lo*τ.size
  ·repeat (first|rw[β Ω]|rw[ο Ω])
  ·by_cases q2:j<lo*τ.size+m*τ.size
   ·repeat (first|rw[β Ω]|rw[ο Ω])
    congr 1;omega
   ·by_cases q3:j<l.length*τ.size
    ·repeat (first|rw[β Ω]|rw[ο Ω])
     congr 1;omega
    ·repeat (first|rw[β Ω]|rw[ο Ω])
 rw[e];exact this
def adH (tk:TabOk P tab)(hi:Inv B U J c)(hh:c.heap=σ.heap)(hE:RAs c σ.env a.tmps.toList){fresh:Nat}{out:AV}{heap':List HO}(h:Rc tab o σ fresh=some (true,out,heap')) :
  o.guard=none∧heap'.length=σ.heap.length∧Ok P B U J o a c heap' out:=by
 have hraw:RAs c (cS σ.env o) (o.op.operands.toList.map a.eval):=we hE o.op.operands.toList;unfold Rc at h;split at h
 next cl hop hgd=>
  refine⟨hgd, ?_⟩;rw[hop]at hraw;have hv:∀b,cl.callee = .builtin b→RAs c (cS σ.env o) (cl.args.toList.map a.eval):=λb R=>by simpa[Op.operands,Call.operands,R]using hraw
  have two:∀(l:List Operand),l.length=2→∃p q,l=[p,q]:=λl hl=>by
   match l,hl with
   |[p,q],_=>exact⟨p,q,rfl⟩
  split at h
  next R=>
   replace hv:=hv _ R;generalize cS σ.env o=vals at h hv;split at h
   ·rename_i s k v lo r t1 t2 htys;have T:cl.argTypes = #[t1,t2]:=i_ (by simpa using htys);obtain⟨p,q,hpq⟩:=two cl.args.toList (by have:=hv.length;simpa using this.symm);have C:cl.args = #[p,q]:=i_ (by simpa using hpq);rw[hpq]at hv;obtain⟨u,u',e1,h1,h2⟩:=eX (v:=a.eval p) (v':=a.eval q) hv;cases e1;split at h
    ·rename_i e12;subst e12;split at h
     ·rename_i e τ f e' v' l hel ht hk;split at h
      ·rename_i q1;subst q1;split at h
       ·rename_i l2 hc;obtain⟨et,hl2⟩:=cast?_some hc;cases et;have hl2:l2=l:=hl2;subst hl2;rw[←hh]at hk;have src:=ajw hi hk (dK h2 hk);split at h
        ·rename_i k2 v2 t2 l3;split at h
         ·rename_i t3 e3 v3 hk2;split at h
          ·rename_i q2;split at h
           ·rename_i q3;split at h
            ·rename_i q4;split at h
             next l4 hc4=>obtain⟨et,hl4⟩:=cast?_some hc4;cases et;have hl4:l4=l3:=hl4;subst hl4;subst q2;subst q3;subst q4;simp only[η,π,Δ]at h;obtain⟨k1,rfl,rfl⟩:=h;rw[←hh]at hk2;refine⟨Ψ, ?_⟩;rw[←hh];exact xM hi tk hop R C T h1 src ht hel hk2 k1
             ·cases h
            ·cases h
           ·cases h
          ·cases h
         ·cases h
        ·split at h
         next hf=>simp only[η,π,Δ]at h;obtain⟨k1,rfl,rfl⟩:=h;rw[←hh]at hf;refine⟨Ψ, ?_⟩;rw[←hh];exact oU hi tk hop R C T h1 src ht hel hf k1
         ·cases h
        ·cases h
       ·cases h
      ·cases h
     ·cases h
    ·cases h
   ·cases h
  next R=>
   replace hv:=hv _ R;generalize cS σ.env o=vals at h hv;split at h
   ·rename_i k v lo r x t1 t2 htys;have T:cl.argTypes = #[t1,t2]:=i_ (by simpa using htys);obtain⟨p,q,hpq⟩:=two cl.args.toList (by have:=hv.length;simpa using this.symm);have C:cl.args = #[p,q]:=i_ (by simpa using hpq);rw[hpq]at hv;obtain⟨u,u',e1,h1,h2⟩:=eX (v:=a.eval p) (v':=a.eval q) hv;cases e1;split at h
    ·rename_i e12;subst e12;split at h
     ·rename_i e τ l' f e' v' l hel hl hk;split at h
      ·rename_i q1;subst q1;split at h
       ·rename_i q2;subst q2;split at h
        ·rename_i l2 hc;obtain⟨et,hl2⟩:=cast?_some hc;injection et with et;subst et;have hl2:l2=l:=hl2;subst hl2;cases h;refine⟨Ψ, ?_⟩;rw[←hh]at hk⊢;obtain⟨ht,hxv⟩:=fk hl h2;obtain⟨i,z,_,_,_,_,_,_,hu⟩:=tk.ty t1 _ ht;obtain⟨e2,u1,u2,u3,hpos⟩:=hu;have:e2=e':=by rw[hel]at u3;exact(χ u3).symm
         subst this;obtain⟨A,cp,ds,ex,hrx,hdl,hsrc⟩:=zy hxv;have hlive:=dK h1 hk;have hmin:Nat.min l'.length (r-lo)≤l'.length:=Nat.min_le_left _ _;have hmin2:Nat.min l'.length (r-lo)≤r-lo:=Nat.min_le_right _ _;generalize hN:Nat.min l'.length (r-lo)=N at *;have hrt:=fJ N hmin hrx;have hrl:=ba hrt;have hTl:(l'.take N).length=N:=by simp;omega
         rw[hTl]at hrl;have hfc:(Builtin.firstCells f.size N (a.eval q)).run P c.w = .ok (ds.take (N*f.size)).toArray c.w:=by
          rw[ex];obtain h0|⟨ad,rfl,hcell⟩:=hsrc
          ·have hN0:N=0:=Ω
           subst hN0;cases A with
           |none=>rw[run_firstCells_none];simp
           |some ad=>exact ar7 (P:=P) c.w f.size 0 ad _ cp _ Ψ (λj u hu=>by simp at hu)
          ·exact ar7 (P:=P) c.w f.size N ad _ cp _ hrl (λj u hu=>by
            rw[E']at hu;split at hu
            ·exact hcell j u hu
            ·cases hu)
         have hexec:∀w',(∀A' n' cap',a.eval p = .slice A' n' cap'→n'=r-lo→(match A' with|some ad=>(storeCells ad (ds.take (N*f.size))).run P c.w = .ok () w'|none=>w'=c.w))→(execOp a.eval o).run P c.w = .ok (.value (.int .i64 (N:Int))) w':=by
          intro w' hw;obtain⟨A',cap',hs⟩:=FA hlive;have hst:=hw A' _ cap' hs rfl;unfold execOp;have hlen:Builtin.lenOf (a.eval q)=Sem.pure l'.length:=by rw[ex];rfl
          cases A' with
          |none =>simp only at hst;subst hst;simp[hop,resolve,R,C,T,invoke,builtin,Builtin.copy_,hs,ε u1,hlen,aJ tk u2,hN,hfc,goInt]
          |some ad =>simp only at hst;simp[hop,resolve,R,C,T,invoke,builtin,Builtin.copy_,hs,ε u1,hlen,aJ tk u2,hN,hfc,hst,goInt]
         have hlive':=hlive;rcases hlive with⟨g1,g2,g3,g4⟩|⟨g,n,cap,A',g1,g2,g3,g4,g5⟩
         ·have hN0:N=0:=Ω
          subst hN0;have e0:l2.take lo++l'.take 0++l2.drop (lo+0)=l2:=by simp
          rw[e0,fq hk];exact av hi (hexec c.w (λA' n' cap' hs hn=>by rw[g4]at hs;cases hs;rfl)) (di _ _)
         ·obtain⟨hn,cur,xs,hg,hnc,hcm,hcs,htk,hrp,hns,hB⟩:=dH hi hk g1;subst hn;obtain⟨hfit,hI,hEv⟩:=JV hi hk g1 hg hTl (lo:=lo) Ω hrt;have hst:=u? (P:=P) g (lo*f.size) e2 (ds.take (N*f.size)) 0 cur c.w hg (by simpa using hfit) (λu hu=>hrt.one u hu);simp only[arQ]at hst;refine du (hexec _ (λA2 n2 cap2 hs hn2=>?_)) rfl hI hEv (di _ _);rw[g4]at hs;injection hs with q1 q2 q3;subst q1;obtain rfl|⟨g5,g6⟩:=g5
          ·exact hst
          ·have hN0:N=0:=Ω
           subst hN0;have e0:c.w.setRow g (cur.toList.take (lo*f.size)++ds.take (0*f.size)++cur.toList.drop (lo*f.size+(ds.take (0*f.size)).length)).toArray=c.w:=by
            have:(cur.toList.take (lo*f.size)++ds.take (0*f.size)++cur.toList.drop (lo*f.size+(ds.take (0*f.size)).length)).toArray=cur:=by simp
            rw[this];exact setRow_self c.w g cur e2 (0,0) hg
           rw[e0];cases A' with
           |none=>rfl
           |some ad=>simp[storeCells]
        ·cases h
       ·cases h
      ·cases h
     ·cases h
    ·cases h
   ·cases h
  next R=>
   replace hv:=hv _ R;generalize cS σ.env o=vals at h hv;split at h
   ·rename_i k v lo r;have hal:∃x,cl.args = #[x]:=by
     have:=hv.length;simp at this;exact asH.1 this.symm
    obtain⟨p,C⟩:=hal;rw[C]at hv;obtain⟨u,e1,h1⟩:=db (v:=a.eval p) hv;simp only[G',A_]at e1;subst e1;cases T:cl.argTypes[0]? with
    |none=>rw[T]at h;cases h
    |some t1=>
     rw[T]at h;simp only[Option.bind_some]at h;split at h
     ·rename_i e τ f e' v' l hel ht hk;split at h
      ·rename_i q1;subst q1;split at h
       ·rename_i q2;subst q2;split at h
        ·rename_i l2 hc;obtain⟨et,hl2⟩:=cast?_some hc;injection et with et;subst et;have hl2:l2=l:=hl2;subst hl2;simp only[η,π,as5]at h;obtain⟨rfl,rfl⟩:=h;refine⟨Ψ, ?_⟩;rw[←hh]at hk⊢;obtain⟨i,z,_,_,_,_,_,_,hu⟩:=tk.ty t1 _ ht;obtain⟨e2,u1,u2,u3,hpos⟩:=hu;have:e2=e':=by rw[hel]at u3;exact(χ u3).symm
         subst this;obtain⟨ie,ze,t1',t2,t3,t4,t5,_⟩:=tk.ty e2 f u2;have hlive:=dK h1 hk;rcases hlive with⟨g1,g2,g3,g4⟩|⟨g,n,cap,A',g1,g2,g3,g4,g5⟩
         ·subst g2;subst g3;have e0:l2.take 0++List.replicate (0-0) (zero f)++l2.drop 0=l2:=by simp
          rw[e0,fq hk];refine av hi (v :=.tuple #[]) ?_ ⟨[],rfl,rfl,rfl⟩;unfold execOp;simp[hop,resolve,R,C,T,invoke,builtin,Builtin.clear_,g4,ε u1]
         ·obtain⟨hn,cur,xs,hg,hnc,hcm,hcs,htk,hrp,hns,hB⟩:=dH hi hk g1;subst hn;have hz:=Kt (w:=c.w) (St:=c.St) t4 hpos (r-lo);obtain⟨hfit,hI,hEv⟩:=JV hi hk g1 hg (atH (n:=r-lo) (a:=zero f)) (lo:=lo) Ω hz;rw[show lo+(r-lo)=r by omega]at hI hEv;by_cases h0:r-lo=0
          ·have e0:l2.take lo++List.replicate (r-lo) (zero f)++l2.drop r=l2:=by
            rw[h0,show r=lo by omega];simp
           rw[e0,fq hk];refine av hi (v :=.tuple #[]) ?_ ⟨[],rfl,rfl,rfl⟩;unfold execOp;rw[h0]at g4;cases A' <;> simp[hop,resolve,R,C,T,invoke,builtin,Builtin.clear_,g4,ε u1]
          ·have hA:A'=some ⟨g,lo*f.size,none⟩:=by
            obtain g5|g5:=g5
            ·exact g5
            ·omega
           subst hA;have hst:=u? (P:=P) g (lo*f.size) e2 (Builtin.zeroCells ze.cells (r-lo)).toList 0 cur c.w hg (by simpa using hfit) (λu hu=>hz.one u hu);simp only[arQ]at hst;refine du (v :=.tuple #[]) ?_ rfl hI hEv ⟨[],rfl,rfl,rfl⟩;obtain⟨m,hm⟩:∃m,r-lo=m+1:=⟨r-lo-1,Ω⟩;unfold execOp;rw[hm]at g4 hst⊢;simp[hop,resolve,R,C,T,invoke,builtin,Builtin.clear_,g4,ε u1,zeroValue,typeInfo,t1',t3,hst]
        ·cases h
       ·cases h
      ·cases h
     ·cases h
   ·cases h
  ·cases h
 ·cases h
end
open Go Go.RowKit
def RA.under {c:Gh}:∀{a:AV} {C:List Value},RA c a C→a.noCond=true→a.under c.heap.length=true
 |.unk,_,_,_=>rfl
 |.val _ _,_,_,_=>rfl
 |.nil,_,_,_=>rfl
 |.own k v t l,_,⟨s,_,_,T,U,R,h,_⟩,_=>by simpa[AV.under]using aq h
 |.ref _ _,_,_,_=>rfl
 |.box k off,_,⟨cells,h,_⟩,_=>by simpa[AV.under]using aq h
 |.fn f caps,_,⟨g,_,r,_⟩,h=>RA.under (a:=caps) r h
 |.agg p,_,⟨g,_,r,_⟩,h=>RA.under (a:=p) r h
 |.tup p,_,⟨g,_,r,_⟩,h=>RA.under (a:=p) r h
 |.pnil,_,_,_=>rfl
 |.pcons a b,_,⟨v,r,_,P,J⟩,h=>by simp only[AV.noCond,ι]at h;simp only[AV.under,ι];exact⟨RA.under P h.1,RA.under J h.2⟩
 |.msl k v lo hi,_,⟨s,_,_,m⟩,_=>by simp only[AV.under,Δ];rcases m with⟨_,_,_,_,h,_⟩|h <;> exact aq h
 |.yld j,_,⟨h,_⟩,_=>by simpa[AV.under]using aq h
 |.fix _ _,_,_,_=>rfl
 |.mpt k v i off,_,⟨s,_,_,m⟩,_=>by simp only[AV.under,Δ];rcases m with⟨_,_,_,_,h,_⟩|h <;> exact aq h
def RAs.under {c:Gh}:∀{l:List AV} {f:List Value},RAs c l f→l.all AV.noCond=true→l.all (AV.under c.heap.length)=true
 |[],[],_,_=>rfl
 |a::l,v::f,⟨r,g⟩,h=>by simp only[n?,ι]at h⊢;exact⟨r.under h.1,g.under h.2⟩
def gK {n m:Nat}(h:n≤m):∀{a:AV},a.under n=true→a.under m=true
 |.unk,_=>rfl
 |.val _ _,_=>rfl
 |.nil,_=>rfl
 |.own k _ _ _,x=>by simp only[AV.under,Δ]at *;omega
 |.ref _ _,_=>rfl
 |.box k _,x=>by simp only[AV.under,Δ]at *;omega
 |.fn _ c,x=>gK h (a:=c) x
 |.agg p,x=>gK h (a:=p) x
 |.tup p,x=>gK h (a:=p) x
 |.pnil,_=>rfl
 |.pcons a b,x=>by simp only[AV.under,ι]at *;exact⟨gK h x.1,gK h x.2⟩
 |.cond _ a,x=>gK h (a:=a) x
 |.msl k _ _ _,x=>by simp only[AV.under,Δ]at *;omega
 |.yld k,x=>by simp only[AV.under,Δ]at *;omega
 |.fix _ _,_=>rfl
 |.mpt k _ _ _,x=>by simp only[AV.under,Δ]at *;omega
def vF {n m:Nat}(h:n≤m){l:List AV}(x:l.all (AV.under n)=true):l.all (AV.under m)=true:=by rw[d_]at *;exact λa f=>gK h (x a f)
structure Lq where
 j:Nat
 l:Nat
 env:List AV
 tmps:List Value
 lrec:Loop
def Ctx (f:List Lq)(g:List (List AV×List Value))(B:Bd)(U:World):Prop :=
 ∀q∈f,(q.env++[.yld q.j],q.tmps++[.func (.yield q.l) #[] #[]])∈g∧B≤q.l∧U.heap[q.l]? = some (.loop q.lrec)
def Ctx.more {j:List Lq}{p f:List (List AV×List Value)}{B:Bd}{U l:World}(h:Ctx j p B U)(C:∀J∈p,J∈f)(r:Og B.F U l):Ctx j f B l:=λq g=>
 ⟨C _ (h q g).1,(h q g).2.1,r.keep _ _ (h q g).2.2 rfl⟩
def JD (p:List (List AV×List Value))(B:Bd)(U:World)(J:Sb)(l:Nat)(k:AV→List HO→Option AV)(r:AV):Ending→World→Prop:=λe j=>
 ∃v out f,e = .returned v∧k out f.heap=some r∧f.w=j∧Inv B U J f∧RA f out [v]∧l≤f.heap.length∧∀g∈p,RAs f g.1 g.2
def L4 (P:Program)(t:Tgt)(c:Gh)(r:List Value)(R:Ending→World→Prop):Prop :=
 match t with
 |.fn f=>Callable P f∧Calls P f r.toArray c.w R
 |.yld j=>∀l,RA c (.yld j) [.func (.yield l) #[] #[]]→∀(ro:Option Nat) (n:Nat),∃f g assign p,(Instr.yield l r.toArray).run P c.w = .ok (.round l f g assign p) c.w∧RoundIn (RF ro) n P l f g assign p c.w R
def sR (P:Program)(call:Ck)(p:List Lq):Prop:=∀t args f k r,call t args f k=some r →
 ∀(g:List (List AV×List Value)) (B:Bd) (U:World) (J:Sb) (c:Gh),Inv B U J c→c.heap=f→∀l,RAs c args l→(∀j∈g,RAs c j.1 j.2∧j.1.all (AV.under f.length)=true)→Ctx p g B U →
  L4 P t c l (JD g B U J f.length k r)
def ON (P:Program)(R:Yk)(C:List Lq):Prop:=∀j args f k r,R j args f k=some r →
 ∀(g:List (List AV×List Value)) (B:Bd) (U:World) (J:Sb) (c:Gh),Inv B U J c→c.heap=f→∀p,RAs c args p→(∀l∈g,RAs c l.1 l.2∧l.1.all (AV.under f.length)=true)→Ctx C g B U →
  L4 P (.yld j) c p (JD g B U J f.length k r)
structure CkOk (P:Program)(ck:Callk)(Γ:List Lq):Prop where
 call:sR P ck.call Γ
 iter:∀yk' Γ',ON P yk' Γ'→sR P (ck.iter yk') Γ'
section
variable {P:Program}{tab:Tab}{T:Specs}{ck:Callk}{B:Bd}{lo:Nat}{U:World}{J:Sb}{a:Act}{fs:List (List AV×List Value)}{σ:Sg}{w:World}{Γ:List Lq}
def QC (env:List AV)(f:Option Nat)(u:AV):(ud env f u).length=env.length:=by cases f <;> simp[ud]
def tK (f:List HO)(g:Option (Nat×HO)):(FW f g).length=f.length:=by
 cases g with
 |none=>rfl
 |some p=>obtain⟨k,j⟩:=p;simp[FW]
def kN (fs:List (List AV×List Value))(lo:Nat)(B:Bd)(U:World)(J:Sb)(g:Nat)(k:Sg→Option AV)(r:AV):Exit→Act→World→Prop
 |.normal,a,w=>∃f,k f=some r∧Rel fs lo B U J f a w∧g≤f.heap.length
 |_,_,_=>False
variable{ro:Option Nat}{n:Nat}{ops:Array Oper}{o:Oper}
def DY (ckok:CkOk P ck Γ)(hcx:Ctx Γ fs B U){i:Nat}(hi:ops[i]? = some o){t:Tgt}{args:List AV}(he:cX o σ.env=some (t,args)){k:AV→List HO→Option AV}{r:AV}(hck:ck.call t args σ.heap k=some r)
  (hlo:lo≤σ.heap.length) (hnd:gc ro o) (hr:Rel fs lo B U J σ a w) {Q:Exit→Act→World→Prop} {K:Act→World→Prop}
  (hK:∀out heap' a' w',k out heap'=some r→σ.heap.length≤heap'.length→Rel fs lo B U J ⟨ud σ.env o.dst out,heap'⟩ a' w'→K a' w'):wpOpIn (RF ro) n P ops Q i K a w:=by
 obtain⟨c,w1,rfl,hh,hI,hE,hdf,hfs⟩:=hr;have hcx':Ctx Γ ((σ.env,a.tmps.toList)::fs) B w1:=hcx.more (λfr h=>C' _ h) hdf.2.1;have post:∀v w',JD ((σ.env,a.tmps.toList)::fs) B w1 J σ.heap.length k r (.returned v) w'→K (a.put o.dst v) w':=by rintro v w' ⟨v',out,c',e,hk,rfl,hI',hR',hle,hfs'⟩;cases e;exact hK out c'.heap _ _ hk hle ⟨c',w1,rfl,rfl,hI',eL (σ:=⟨σ.env,c'.heap⟩) (hfs' (σ.env,a.tmps.toList) Ψ) hR',hdf.put o.dst v,λfr hfr=>⟨hfs' fr (by simp[hfr]),(hfs fr hfr).2⟩⟩
 have frames:σ.env.all AV.noCond=true→∀fr∈(σ.env,a.tmps.toList)::fs,RAs c fr.1 fr.2∧fr.1.all (AV.under σ.heap.length)=true:=λhnc fr hfr=>by
  obtain rfl|hfr:=N'.1 hfr
  ·exact⟨hE,by rw[←hh];exact hE.under hnc⟩
  ·exact⟨(hfs fr hfr).1,vF hlo (hfs fr hfr).2⟩
 have hv:RAs c (cS σ.env o) (o.op.operands.toList.map a.eval):=we hE o.op.operands.toList;unfold cX at he;split at he
 next cl hop hgd=>
  have hw:Region.wanted o (yielded ops a.tmps)=true:=by simp[Region.wanted,hgd]
  split at he
  next x f' caps args' hcl hraw=>
   split at he
   ·rename_i hnc;cases he;rw[hraw,hop]at hv;have hv:RAs c (.fn f' caps::args') (a.eval x::cl.args.toList.map a.eval):=by simpa[Op.operands,Call.operands,hcl]using hv
    obtain⟨hfn,hargs⟩:=hv;obtain⟨cs,e,hcs,hch⟩:=hfn;simp at e;obtain⟨⟨fn,f1,f2,f3⟩,hcalls⟩:=ckok.call _ _ _ _ _ hck ((σ.env,a.tmps.toList)::fs) B w1 J c hI hh _ (hargs.append (hcs.parts hch)) (frames hnc) hcx';have hbody:¬fn.body=none:=by cases hb:fn.body <;> simp_all
    have f3:¬fn.name = "runtime.NumGoroutine":=by simpa using f3
    have hrun:(execOp a.eval o).run P c.w = .ok (.enter f' (cl.args.toList.map a.eval++cs).toArray) c.w:=by have e2:cl.args.map a.eval++cs.toArray=(cl.args.toList.map a.eval++cs).toArray:=i_ Ψ;unfold execOp;simp[hop,resolve,hcl,e,Deferred.ofValue,ν,Z',invoke,callFunc,H_,f1,e2];simp[f3,hbody]
    unfold wpOpIn;simp[hi];rw[β hw];refine xL hnd ?_;unfold Oper.wp;rw[hrun];refine hcalls.mono ?_;rintro e w' h;obtain⟨v,_,_,rfl,_⟩:=id h;exact post v w' h
   ·cases he
  next x j args' hcl hraw=>
   split at he
   ·rename_i hnc;simp only[η,π]at he;obtain⟨rfl,rfl⟩:=he;rw[hraw,hop]at hv;have hv:RAs c (.yld j::args') (a.eval x::cl.args.toList.map a.eval):=by simpa[Op.operands,Call.operands,hcl]using hv
    obtain⟨hfn,hargs⟩:=hv;have hfn':=hfn;obtain⟨_,e⟩:=hfn;simp at e;rw[e]at hfn';obtain⟨f,tmps,assign,body,hy,hround⟩:=ckok.call _ _ _ _ _ hck ((σ.env,a.tmps.toList)::fs) B w1 J c hI hh _ hargs (frames hnc) hcx' _ hfn' ro (n-1);have hrun:(execOp a.eval o).run P c.w = .ok (.round (c.lp j) f tmps assign body) c.w:=by have e2:cl.args.map a.eval=(cl.args.toList.map a.eval).toArray:=i_ Ψ;unfold execOp;simp[hop,resolve,hcl,e,Deferred.ofValue,ν,Z',invoke,e2,hy]
    unfold wpOpIn;simp[hi];rw[β hw];refine⟨λ_ _=>trivial, ?_⟩;have es:o.semAt (RF ro).round a.eval=execOp a.eval o:=by
     obtain rfl|hd:=hnd
     ·rfl
     ·exact Oper.semAt_eq _ _ _ hd
    rw[es,hrun,Oper.uponIn_round];refine⟨(λq=>by cases q),hround.mono ?_⟩;rintro e w' h;obtain⟨v,_,_,rfl,_⟩:=id h;exact post v w' h
   ·cases he
  ·cases he
 ·cases he
def DE (tk:TabOk P tab){i fresh:Nat}(hi:ops[i]? = some o){out:AV}{f:List HO}(h:Rc tab o σ fresh=some (true,out,f))(C:gc ro o)
  (hr:Rel fs lo B U J σ a w) {Q:Exit→Act→World→Prop} {K:Act→World→Prop} (hK:∀a' w',f.length=σ.heap.length→Rel fs lo B U J ⟨ud σ.env o.dst out,f⟩ a' w'→K a' w'):wpOpIn (RF ro) n P ops Q i K a w:=by
 obtain⟨c,w1,rfl,hh,hI,hE,T,l⟩:=hr;have g:∀v,sY B U w1 (a.put o.dst v).defers:=λv=>T.put o.dst v;obtain⟨R,j,r⟩:=adH (P:=P) tk hI hh hE h;unfold wpOpIn;simp[hi];have hw:Region.wanted o (yielded ops a.tmps)=true:=by simp[Region.wanted,R]
 rw[β hw];refine xL C ?_;exact r K Q (λv c' h1 h2 h3 h4=>hK _ _ j ⟨c',w1,rfl,h1,h2,eL (σ:=⟨σ.env,c'.heap⟩) (hE.mono h3) h4,g v,λfr p=>⟨(l fr p).1.mono h3,(l fr p).2⟩⟩)
def bJ {ro:Option Nat}{n:Nat}(tk:TabOk P tab)(ts:SpecsOk P T)(j:CkOk P ck Γ)(hcx:Ctx Γ fs B U){ops:Array Oper}(hnd:∀o∈ops.toList,gc ro o){C:Nat}{k:Sg→Option AV}{r:AV}:∀(l:List Oper) (i:Nat) (σ:Sg) (a:Act) (w:World),ops.toList.drop i=l→C+ops.size≤σ.heap.length→lo≤σ.heap.length →
  bc tab T ck ops.toList C i l σ k=some r→Rel fs lo B U J σ a w→wpOpsIn (RF ro) n P ops (kN fs lo B U J (C+ops.size) k r) (List.range' i (ops.size-i)) a w
 |[],i,σ,a,w,hd,hb,hlo,h,hr=>by
  have hsz:ops.size-i=0:=by have:=C_ List.length hd;simpa using this
  rw[hsz];exact⟨σ,h,hr,hb⟩
 |o::l,i,σ,a,w,hd,hb,hlo,h,hr=>by
  have hlt:i<ops.size:=by have:=C_ List.length hd;simp at this;omega
  have R:ops[i]? = some o:=by
   have:(ops.toList.drop i)[0]? = some o:=by rw[hd];rfl
   rw[U']at this;simpa using this
  have hd':ops.toList.drop (i+1)=l:=by rw[←List.drop_drop,hd];rfl
  have hno:gc ro o:=hnd o (U_.2 (e? R));rw[show ops.size-i=(ops.size-(i+1))+1 by omega,Y_,wpOpsIn_cons];simp[bc]at h;split at h
  next d hstep=>
   cases hc:d.chk with
   |false=>rw[hc]at h;cases h
   |true =>rw[hc]at h;exact FB tk ts R hstep hc Ω hno hr λa' w' p=>bJ tk ts j hcx hnd l (i+1) (d.app σ) a' w' hd' (by simpa[Dl.app,tK]using hb) (by simpa[Dl.app,tK]using hlo) h p
  ·split at h
   ·rename_i b out g hm;cases b with
    |false=>cases h
    |true=>exact DE tk R hm hno hr λa' w' hl p=>bJ tk ts j hcx hnd l (i+1) ⟨ud σ.env o.dst out,g⟩ a' w' hd' (by simpa[hl]using hb) (by simpa[hl]using hlo) h p
   split at h
   next f args he=>exact DY j hcx R he h hlo hno hr λout g a' w' hk hle p=>bJ tk ts j hcx hnd l (i+1) ⟨ud σ.env o.dst out,g⟩ a' w' hd' (υ hb hle) (υ hlo hle) hk p
   ·cases h
def abh {c:Gh}{u:AV}{v:Value}(h:RA c u [v]):RA c (clr u) [v]:=by
 cases u with
 |cond _ _=>exact⟨_,rfl⟩
 |_=>exact h
def Ix {c:Gh}:∀{l:List AV} {f:List Value},RAs c l f→RAs c (l.map clr) f
 |[],[],_=>trivial
 |_::_,_::_,⟨a,b⟩=>⟨abh a,Ix b⟩
def Rel.clr (h:Rel fs lo B U J σ a w):Rel fs lo B U J ⟨σ.env.map Abs.clr,σ.heap⟩ a w:=by obtain⟨c,f,g,j,l,p,r⟩:=h;exact⟨c,f,g,j,l,Ix p,r⟩
def Rel.more (h:Rel fs lo B U J σ a w)(n:Nat):Rel fs lo B U J ⟨σ.env,σ.heap++List.replicate n .none⟩ a w:=by
 obtain⟨c,w1,hw,hh,j,hE,hdf,hfs⟩:=h;have g:∀(k:Nat) (x:HO),(c.heap++List.replicate n HO.none)[k]? = some x→x≠HO.none→c.heap[k]? = some x:=by
  intro k x r R;obtain hlt|hge:=T' k c.heap.length
  ·rwa[ω hlt]at r
  ·rw[P' hge,atx]at r;split at r
   ·exact(R (χ r).symm).elim
   ·cases r
 have f:∀(k:Nat) (x:HO),c.heap[k]? = some x→(c.heap++List.replicate n HO.none)[k]? = some x:=λk x r=>by rw[ω (aq r)];exact r
 let C:Gh:={ c with heap:=c.heap++List.replicate n .none };have ev:Ev c C:=⟨Sb.le.refl _,λ_ _ _ _ x=>x,λk cells x=>⟨cells,f k _ x,rfl⟩,λk t e v x=>⟨t,e,v,f k _ x,δ _,λ_=>rfl⟩,λk t e v l x=>.inl ⟨v,l,f k _ x,δ _,λ_=>rfl⟩,λk x=>f k _ x,λ_ _=>rfl⟩;have P:∀k,obk C k=obk c k:=λk=>by
  unfold obk;cases T:c.heap[k]? with
  |some x=>rw[show C.heap[k]? = some x from f k x T]
  |none=>
   have:C.heap[k]? = none∨C.heap[k]? = some .none:=by
    cases p:C.heap[k]? with
    |none=>exact .inl rfl
    |some x=>
     refine .inr ?_;cases x with
     |none=>rfl
     |box cells=>have:=g k _ p Ψ;rw[T]at this;cases this
     |row t e v=>have:=g k _ p Ψ;rw[T]at this;cases this
     |mrow t e v l=>have:=g k _ p Ψ;rw[T]at this;cases this
     |dead=>have:=g k _ p Ψ;rw[T]at this;cases this
   obtain h|h:=this <;> rw[h]
 refine⟨C,w1,hw,by simp[C,hh],⟨j.below,j.size,j.bnd,j.st0,j.stN,λk cells x=>?_,λk t e v x=>j.row k t e v (g k _ x Ψ),λk k' b R h1 h2=>?_,λk t e v l x=>j.mrow k t e v l (g k _ x Ψ),j.drawn,λk b hb=>j.fo k b (by rw[P]at hb;exact hb),j.fl,j.j0,λb e cap n x=>(j.junk b e cap n x).imp id λq=>q.keep rfl (λ_ y=>y) λk y=>by rw[P]at y;exact y⟩,hE.mono ev,hdf,λfr hfr=>⟨(hfs fr hfr).1.mono ev,(hfs fr hfr).2⟩⟩
 ·obtain⟨arr,t,h1,h2,h3,h4⟩:=j.box k cells (g k _ x Ψ);exact⟨arr,t,h1,h2,h3,h4.mono ev⟩
 ·rw[P]at h1 h2;exact j.sep k k' b R h1 h2
def Rel.drewW (h:Rel fs lo B U J σ a w):Rel fs lo B U J σ a { w with drawn:=w.drawn+1 }:=by obtain⟨c,r,rfl,C,P,R,j,f⟩:=h;obtain⟨T,p⟩:=P.drew;exact⟨{ c with w:=c.w.drew },r,rfl,C,T,R.mono p,j,λl g=>⟨(f l g).1.mono p,(f l g).2⟩⟩
end
open Go Go.RowKit
def fK:∀(l:List Oper) (f:List Nat) (i:Nat),i<f.length→(aZ l f).getD i 0=f.getD i 0
 |[],f,i,_=>by simp[aZ]
 |o::l,f,i,h=>by rw[aZ,fK l _ i Ξ];simp[List.getD,ω h]
def uN {g:List Nat}:∀(l:List Edge) (s q:Nat),(l.foldl (λs e=>if Region.binds .any e then s ||| 2^e.on ||| g.getD e.on 0 else s) s).testBit q=true →
  s.testBit q=true∨∃e∈l,Region.binds .any e=true∧(q=e.on∨(g.getD e.on 0).testBit q=true)
 |[],s,q,h=>.inl h
 |e::l,s,q,h=>by
  simp at h;obtain f|⟨C,p,j,r⟩:=uN l _ q h
  ·split at f
   ·rename_i j;simp at f;rcases f with(f|f)|f
    ·exact .inl f
    ·refine .inr ⟨e,Ψ,j,.inl ?_⟩;rw[Nat.testBit_two_pow]at f;exact(f_ f).symm
    ·exact .inr ⟨e,Ψ,j,.inr f⟩
   ·exact .inl f
  ·exact .inr ⟨C,by simp[p],j,r⟩
def iV:∀(l:List Oper) (f:List Nat) (i:Nat) (o:Oper),l[i]? = some o→ct f.length l=true→∀q,((aZ l f).getD (f.length+i) 0).testBit q=true →
  ∃e∈o.after.toList,Region.binds .any e=true∧(q=e.on∨((aZ l f).getD e.on 0).testBit q=true)
 |[],f,i,o,h,_,_,_=>by simp at h
 |x::l,f,0,o,h,hok,q,hq=>by
  simp at h;subst h;simp only[ct,ι,d_]at hok;rw[aZ,fK l _ _ Ψ]at hq;simp only[arQ,List.getD,P' (δ _),aty,arM,ate]at hq;obtain h1|⟨e,p,r,g⟩:=uN _ _ _ hq
  ·simp at h1
  ·refine⟨e,p,r,g.imp id λg=>?_⟩;have j:e.on<f.length:=by have:=hok.1 e p;simpa[r]using this
   rw[aZ,fK l _ _ Ξ];have:=j;simpa[List.getD,ω this]using g
 |x::l,f,i+1,o,h,hok,q,hq=>by
  simp[ct]at hok;simp at h;have:=iV l (f++[x.after.toList.foldl (λs e=>if Region.binds .any e then s ||| 2^e.on ||| f.getD e.on 0 else s) 0]) i o h (by simpa using hok.2) q (by
   rw[aZ]at hq;rw[show(f++[x.after.toList.foldl (λs e=>if Region.binds .any e then s ||| 2^e.on ||| f.getD e.on 0 else s) 0]).length+i=f.length+(i+1)by simp;omega];exact hq)
  rw[aZ];exact this
section
variable {P:Program}{tab:Tab}{T:Specs}{ck:Callk}{B:Bd}{lo:Nat}{U:World}{J:Sb}{fs:List (List AV×List Value)}
def bp (g:List Dl)(L:List Nat)(f:Sg):Sg:=L.foldl (λs j=>match g[j]? with|some d=>d.app s|none=>s) f
def pl (d:Dl)(f:Sg):(d.app f).env.length=f.env.length:=QC _ _ _
def lC (d:Dl)(f:Sg):(d.app f).heap.length=f.heap.length:=tK _ _
def bW (g:List Dl)(j:Nat)(L:List Nat)(f:Sg):bp g (j::L) f=bp g L (match g[j]? with|some d=>d.app f|none=>f):=rfl
def xS (f:List Dl)(L j:List Nat)(g:Sg):bp f (L++j) g=bp f j (bp f L g):=by simp[bp]
def bK (g:List Dl):∀(L:List Nat) (f:Sg),(bp g L f).heap.length=f.heap.length
 |[],f=>rfl
 |j::L,f=>by
  rw[bW,bK g L];split
  ·exact lC _ _
  ·rfl
def ib {f:Type}(l:List f)(i j:Nat)(x d:f):(l.set i x).getD j d=if i=j then(if i<l.length then x else d)else l.getD j d:=by
 simp only[List.getD,List.getElem?_set];split
 ·split <;> simp
 ·rfl
def fG (l:List Dl)(t:Nat)(p:Nat→Bool)(C:∀j d,l[j]? = some d→d.dst=some t→p j=true):∀(L:List Nat) (r f:Sg),r.env.getD t .unk=f.env.getD t .unk→r.env.length=f.env.length →
  (bp l L r).env.getD t .unk=(bp l (L.filter p) f).env.getD t .unk
 |[],r,f,h,_=>h
 |j::L,r,f,h,hl=>by
  rw[bW];cases P:l[j]? with
  |none=>
   simp only;cases g:p j with
   |true=>rw[arO g,bW,P];exact fG l t p C L r f h hl
   |false=>rw[arP (by simp[g])];exact fG l t p C L r f h hl
  |some d=>
   simp only;cases g:p j with
   |true=>
    rw[arO g,bW,P];refine fG l t p C L _ _ ?_ (by simp[pl,hl]);simp only[Dl.app,ud];cases T:d.dst with
    |none=>exact h
    |some R=>simp only[ib,hl,h]
   |false=>
    rw[arP (by simp[g])];refine fG l t p C L _ _ ?_ (by simp[pl,hl]);simp only[Dl.app,ud];cases T:d.dst with
    |none=>exact h
    |some R=>
     have J:R≠t:=λe=>by subst e;have:=C j d P T;rw[g]at this;cases this
     simp only[ib,ο J,h]
def dU (l:List Dl)(k:Nat)(p:Nat→Bool)(C:∀j d J,l[j]? = some d→d.wr=some (k,J)→p j=true):∀(L:List Nat) (r f:Sg),r.heap.getD k .none=f.heap.getD k .none→r.heap.length=f.heap.length →
  (bp l L r).heap.getD k .none=(bp l (L.filter p) f).heap.getD k .none
 |[],r,f,h,_=>h
 |j::L,r,f,h,hl=>by
  rw[bW];cases R:l[j]? with
  |none=>
   simp only;cases g:p j with
   |true=>rw[arO g,bW,R];exact dU l k p C L r f h hl
   |false=>rw[arP (by simp[g])];exact dU l k p C L r f h hl
  |some d=>
   simp only;cases g:p j with
   |true=>
    rw[arO g,bW,R];refine dU l k p C L _ _ ?_ (by simp[lC,hl]);simp only[Dl.app,FW];cases U:d.wr with
    |none=>exact h
    |some x=>obtain⟨T,J⟩:=x;simp only[ib,hl,h]
   |false=>
    rw[arP (by simp[g])];refine dU l k p C L _ _ ?_ (by simp[lC,hl]);simp only[Dl.app,FW];cases U:d.wr with
    |none=>exact h
    |some x=>
     obtain⟨T,J⟩:=x;have P:T≠k:=λe=>by subst e;have:=C j d J R U;rw[g]at this;cases this
     simp only[ib,ο P,h]
def rC {J:List Oper}{r:Nat}:∀(l:List Oper) (i:Nat) (C:Sg) (p:List Dl) (U:List (Option Nat)),Fo tab T J r i l C=some (p,U)→p.length=U.length∧p.length≤l.length∧l.length≤p.length+1 ∧
  ∀j (R:j<p.length),∃o,l[j]? = some o∧xE tab T J (r+(i+j)) o (bp p (List.range j) C)=some p[j] ∧
   U[j]? = some (match gOf (bp p (List.range j) C).env J o with|some g=>mg T o (r+(i+j)) g (cS (bp p (List.range j) C).env o)|none=>none)
 |[],i,C,p,U,h=>by cases h;exact⟨rfl,Ψ,Ψ,λj R=>by simp at R⟩
 |o::l,i,C,p,U,h=>by
  simp[Fo]at h;split at h
  next d hd=>
   split at h
   ·rename_i P ts' hr;cases h;obtain⟨h1,h2,h3,h4⟩:=rC l (i+1) (d.app C) P ts' hr;refine⟨by simp[h1],by simp;omega,by simp;omega,λj R=>?_⟩;cases j with
    |zero=>exact⟨o,rfl,hd,rfl⟩
    |succ j=>
     obtain⟨o',g1,g2,g3⟩:=h4 j (by simpa using R);have f:bp (d::P) (List.range (j+1)) C=bp P (List.range j) (d.app C):=by rw[atA,bW];simp[arM,bp,List.foldl_map,arN,Nat.succ_eq_add_one]
     refine⟨o',by simpa using g1, ?_, ?_⟩
     ·rw[f,show i+(j+1)=i+1+j by omega];simpa using g2
     ·rw[f,show i+(j+1)=i+1+j by omega];simpa using g3
   ·cases h
  ·split at h
   ·cases h;exact⟨rfl,Ψ,Ψ,λj R=>by simp at R⟩
   ·cases h
def P9 {U:List Oper}{R:Nat}{k:Sg→Option AV}{r:AV}:∀(l:List Oper) (i:Nat) (C:Sg) (j:List Dl) (ts:List (Option Nat)),Fo tab T U R i l C=some (j,ts)→bc tab T ck U R i l C k=some r →
  (∀d∈j,d.chk=true)∧(j.length=l.length→k (bp j (List.range j.length) C)=some r) ∧
  (l.length=j.length+1→∃o,l[j.length]? = some o∧((∃fr out g,Rc tab o (bp j (List.range j.length) C) fr=some (true,out,g)∧k ⟨ud (bp j (List.range j.length) C).env o.dst out,g⟩=some r) ∨
   ∃f args,cX o (bp j (List.range j.length) C).env=some (f,args) ∧
   ck.call f args (bp j (List.range j.length) C).heap (λres g=>k ⟨ud (bp j (List.range j.length) C).env o.dst res,g⟩)=some r))
 |[],i,C,j,ts,h,p=>by cases h;exact⟨Ψ,λ_=>p,λh=>by simp at h⟩
 |o::l,i,C,j,ts,h,p=>by
  simp[Fo]at h;simp[bc]at p;split at h
  next d hd=>
   simp[hd]at p;split at h
   ·rename_i P ts' htr;cases h;cases hc:d.chk with
    |false=>rw[hc]at p;cases p
    |true=>
     rw[hc]at p;obtain⟨h1,h2,h3⟩:=P9 l (i+1) (d.app C) P ts' htr p;have J:bp (d::P) (List.range (P.length+1)) C=bp P (List.range P.length) (d.app C):=by rw[atA,bW];simp[arM,bp,List.foldl_map,arN,Nat.succ_eq_add_one]
     refine⟨λx hx=>?_,λhl=>?_,λhl=>?_⟩
     ·obtain rfl|hx:=N'.1 hx
      ·exact hc
      ·exact h1 x hx
     ·simp;rw[J];exact h2 (by simpa using hl)
     ·simp;rw[J];obtain⟨o',q1,q2⟩:=h3 (by simpa using hl);exact⟨o',by simpa using q1,q2⟩
   ·cases h
  next hd=>
   simp[hd]at p;split at h
   ·cases h;refine⟨Ψ,λhl=>by simp at hl,λ_=>?_⟩;split at p
    ·rename_i b out g hm;cases b with
     |false=>cases p
     |true=>exact⟨o,rfl,.inl ⟨_,out,g,hm,p⟩⟩
    ·split at p
     next f args he=>exact⟨o,rfl,.inr ⟨f,args,he,p⟩⟩
     ·cases p
   ·cases h
end
open Go Go.RowKit
variable{q:Nat→Bool}{m:Nat}
def wU {i:Nat}(r:i≤m)(l:∀j,j<m→q j=true→j<i):(List.range m).filter q=(List.range i).filter q:=by
 have f:List.range m=List.range i++List.range' i (m-i):=by have:=List.range'_append_1 (s:=0) (m:=i) (n:=m-i);rw[show 0+i=i by omega,show i+(m-i)=m by omega]at this;rw[L?,L?,this]
 rw[f,as4];have:(List.range' i (m-i)).filter q=[]:=by rw[atB];intro j p;rw[List.mem_range'_1]at p;intro g;have:=l j Ω g;omega
 rw[this,G?]
def DR {p :Nat→Bool}{i:Nat}(g:i<m)(r:∀j,j<m→q j=true→j<i)(f:∀j,j<m→p j=(q j||decide (j=i))):(List.range m).filter p=(List.range m).filter q++[i]:=by
 rw[wU (c? g) r,wU (i:=i+1) Ω (λj l h=>by
  rw[f j l,ar6,Δ]at h;obtain h|h:=h
  ·have:=r j l h;omega
  ·omega),List.range_succ,as4]
 congr 1
 ·apply w?;intro j l;rw[S_]at l;rw[f j Ω];simp;omega
 ·simp[f i g]
def DS {f :Nat→Bool}(h:∀j,j<m→q j=f j):(List.range m).filter q=(List.range m).filter f:=by apply w?;intro j g;rw[S_]at g;exact h j g
def Si {g:Type}{l f:List g}{d:g}(j:l.length=f.length)(h:∀i,l.getD i d=f.getD i d):l=f:=by apply List.ext_getElem j;intro i r p;have:=h i;simpa[List.getD,ζ r,ζ p]using this
section
variable {P:Program}{tab:Tab}{T:Specs}{ck:Callk}{B:Bd}{lo:Nat}{U:World}{J:Sb}{fs:List (List AV×List Value)}
variable{o:Oper}{i:Nat}{D:Nat→Bool}
def Y8 {j:List Oper}{fresh:Nat}{p:Sg}{d:Dl}(h:xE tab T j fresh o p=some d) :
  d.dst=o.dst∧∀k l,d.wr=some (k,l)→dh T o.op=false∧(match gOf p.env j o with|some g=>mg T o fresh g (cS p.env o)|none=>none)=some k:=by
 unfold xE at h;split at h
 next g hg=>
  unfold WH at h;split at h
  ·split at h
   ·cases h;refine⟨rfl,λk l f=>?_⟩;simp only at f;split at f
    ·cases f
    ·rename_i r;split at f
     next k' C=>cases f;rw[hg];exact⟨by simpa using r,C⟩
     ·cases f
   ·cases h
  ·split at h
   ·split at h
    ·cases h;exact⟨rfl,λk l f=>by cases f⟩
    ·cases h
   ·split at h
    ·cases h;exact⟨rfl,λk l f=>by cases f⟩
    ·cases h
 ·cases h
def AG {f:List Oper}{t:Nat}(h:Operand.tmp t∈o.op.operands.toList):t∈looks f o:=by unfold looks;rw[Q'];exact .inl (List.mem_filterMap.2 ⟨_,h,rfl⟩)
def ZD {f:List Oper}{e g:List AV}(h:∀t∈looks f o,e.getD t .unk=g.getD t .unk):cS e o=cS g o:=by
 unfold cS;apply List.map_congr_left;intro x j;cases x with
 |tmp t=>exact h t (AG j)
 |_=>rfl
def aaP {f:List Oper}{e l:List AV}(h:∀t∈looks f o,e.getD t .unk=l.getD t .unk):gOf e f o=gOf l f o:=by
 unfold gOf;cases r:o.guard with
 |none=>rfl
 |some p=>
  obtain⟨j,g⟩:=p;simp only;have:Bc e f j g=Bc l f j g:=by
   unfold Bc;split
   next d hd=>have:=h d (by unfold looks;rw[Q'];exact .inr (by simp[r,hd]));rw[this]
   ·rfl
  rw[this]
structure Drawn (tab:Tab)(T:Specs)(ops:Array Oper)(base:Nat)(C:Sg)(ds:List Dl)(ts:List (Option Nat)):Prop where
 tr:Fo tab T ops.toList base 0 ops.toList C=some (ds,ts)
 ok:Od T ops.toList ts (aZ ops.toList [])=true
variable {ops:Array Oper}{base:Nat}{C:Sg}{ds:List Dl}{ts:List (Option Nat)}
def Drawn.pair (h:Drawn tab T ops base C ds ts){j:Nat}(f:i<j)(g:j<ops.size):if j<ts.length then gg T ops.toList (aZ ops.toList []) ts i j=true else((aZ ops.toList []).getD j 0).testBit i=true:=by
 have:=h.ok;simp[Od]at this;have:=this.2 j (by simpa using g) i f;split
 next hlt=>simpa[hlt]using this
 next hlt=>simpa[hlt]using this
def Drawn.edges (h:Drawn tab T ops base C ds ts):ct 0 ops.toList=true:=by have:=h.ok;simp[Od]at this;exact this.1
def DC (ops:Array Oper)(D:Nat→Bool):Prop:=∀j,D j=true→∀i,((aZ ops.toList []).getD j 0).testBit i=true→D i=true
def D7 {T:Specs}{l:List Oper}{g f:Oper}{C r:Option Nat}(h:agh T l g f C r=true) :
  (∀d,g.dst=some d→f.dst≠some d)∧(∀d,g.dst=some d→d ∉ looks l f)∧(∀d,f.dst=some d→d ∉ looks l g)∧(∀k,C=some k→r=some k→dh T g.op=true∧dh T f.op=true):=by
 simp[agh]at h;obtain⟨⟨⟨P,J⟩,h3⟩,h4⟩:=h;refine⟨λd e p=>?_,λd e j=>?_,λd e j=>?_,λk e p=>?_⟩
 ·simp[Rk,e,p]at P
 ·rw[e]at J;simp[j]at J
 ·rw[e]at h3;simp[j]at h3
 ·subst e;subst p;simpa[Rk]using h4
def Drawn.order (h:Drawn tab T ops base C ds ts)(hdc:DC ops D){j:Nat}(hi:i<ds.length)(hj:j<ds.length)(hne:j≠i){P oj:Oper}(hoi:ops[i]? = some P)(hoj:ops[j]? = some oj)(hDi:D i=false)
  (R:∀q,((aZ ops.toList []).getD i 0).testBit q=true→D q=true)
  (g:(∃t,oj.dst=some t∧(t∈looks ops.toList P∨P.dst=some t))∨(∃k,ts.getD i none=some k∧ts.getD j none=some k∧dh T oj.op=false)∨(∃k,ts.getD i none=some k∧ts.getD j none=some k∧dh T P.op=false)):D j=decide (j<i):=by
 obtain⟨t1,t2,t3,_⟩:=rC _ _ _ _ _ h.tr;have hsz:ds.length≤ops.size:=by simpa using t2
 have g1:ops.toList[i]? = some P:=by simpa using hoi
 have g2:ops.toList[j]? = some oj:=by simpa using hoj
 obtain hlt|hge:=T' j i
 ·have f:=h.pair hlt Ω;rw[β Ω]at f;simp[gg,g1,g2]at f;obtain f|f:=f
  ·rw[R j f];simp[hlt]
  ·exfalso;obtain⟨a1,a2,a3,U⟩:=D7 f;rcases g with⟨t,e,p|p⟩|⟨k,J,r,l⟩|⟨k,J,r,l⟩
   ·exact a2 t e p
   ·exact a1 t e p
   ·have:=(U k r J).1;rw[l]at this;cases this
   ·have:=(U k r J).2;rw[l]at this;cases this
 ·have hgt:i<j:=Ω
  have f:=h.pair hgt Ω;rw[β Ω]at f;simp[gg,g1,g2]at f;have hD:D j=false:=by
   obtain f|f:=f
   ·cases hDj:D j with
    |false=>rfl
    |true=>have:=hdc j hDj i f;rw[hDi]at this;cases this
   ·exfalso;obtain⟨a1,a2,a3,U⟩:=D7 f;rcases g with⟨t,e,p|p⟩|⟨k,J,r,l⟩|⟨k,J,r,l⟩
    ·exact a3 t e p
    ·exact a1 t p e
    ·have:=(U k J r).2;rw[l]at this;cases this
    ·have:=(U k J r).1;rw[l]at this;cases this
  rw[hD];simp;omega
def stD (ds:List Dl)(D:Nat→Bool)(C:Sg):Sg:=bp ds ((List.range ds.length).filter D) C
def Drawn.at_ (h:Drawn tab T ops base C ds ts)(R:i<ds.length):∃o,ops[i]? = some o∧xE tab T ops.toList (base+i) o (bp ds (List.range i) C)=some ds[i] ∧
  ts.getD i none=(match gOf (bp ds (List.range i) C).env ops.toList o with|some g=>mg T o (base+i) g (cS (bp ds (List.range i) C).env o)|none=>none)∧ds[i].dst=o.dst∧(∀k f,ds[i].wr=some (k,f)→dh T o.op=false∧ts.getD i none=some k):=by
 obtain⟨t1,t2,t3,P⟩:=rC _ _ _ _ _ h.tr;obtain⟨o,U,j,p⟩:=P i R;simp at j p;have r:ts.getD i none=(match gOf (bp ds (List.range i) C).env ops.toList o with|some g=>mg T o (base+i) g (cS (bp ds (List.range i) C).env o)|none=>none):=by rw[List.getD,p];exact rfl
 obtain⟨d1,J⟩:=Y8 j;exact⟨o,by simpa using U,j,r,d1,λk f l=>⟨(J k f l).1,by rw[r];exact(J k f l).2⟩⟩
def Drawn.step (h:Drawn tab T ops base C ds ts)(hdc:DC ops D)(hi:i<ds.length)(P:D i=false)(r:∀q,((aZ ops.toList []).getD i 0).testBit q=true→D q=true) :
  ∃o,ops[i]? = some o∧xE tab T ops.toList (base+i) o (stD ds D C)=some ds[i]:=by
 obtain⟨o,ho,U,R,hdst,hwr⟩:=h.at_ hi;refine⟨o,ho, ?_⟩;have henv:∀t∈looks ops.toList o,(stD ds D C).env.getD t .unk=(bp ds (List.range i) C).env.getD t .unk:=by
  intro t ht;have p1:=fG ds t (λj=>match ds[j]? with|some d=>decide (d.dst=some t)|none=>false) (λj d h1 h2=>by simp[h1,h2]) ((List.range ds.length).filter D) C C rfl rfl;have p2:=fG ds t (λj=>match ds[j]? with|some d=>decide (d.dst=some t)|none=>false) (λj d h1 h2=>by simp[h1,h2]) (List.range i) C C rfl rfl;unfold stD;rw[p1,p2,p?];congr 3;rw[wU (i:=i) (c? hi) ?_]
  ·apply w?;intro j J;rw[S_]at J;have p:j<ds.length:=Ω
   simp only[ζ p];cases hdt:decide (ds[j].dst=some t)with
   |false=>simp
   |true =>obtain⟨oj,l,_,_,hd,_⟩:=h.at_ p;have hm:=h.order hdc hi p Ω ho l P r (.inl ⟨t,by rw[←hd];exact f_ hdt,.inl ht⟩);rw[hm];simp[J]
  ·intro j J f;simp only[ζ J,ι]at f;obtain hlt|heq|hgt:=H? j i
   ·exact hlt
   ·subst heq;rw[P]at f;exact absurd f.2 Ψ
   ·exfalso;obtain⟨oj,l,_,_,hd,_⟩:=h.at_ J;have hm:=h.order hdc hi J Ω ho l P r (.inl ⟨t,by rw[←hd];exact f_ f.1,.inl ht⟩);rw[hm]at f;simp at f;omega
 have e1:=aaP (o:=o) henv;have e2:=ZD (o:=o) henv;unfold xE at U⊢;rw[e1,e2];split at U
 next g hg=>
  simp[hg]at R⊢;have hheap:RL (stD ds D C).heap (mg T o (base+i) g (cS (bp ds (List.range i) C).env o))=RL (bp ds (List.range i) C).heap (mg T o (base+i) g (cS (bp ds (List.range i) C).env o)):=by
   cases htch:mg T o (base+i) g (cS (bp ds (List.range i) C).env o)with
   |none=>rfl
   |some k=>
    rw[htch]at R;simp only[RL];have p1:=dU ds k (λj=>match ds[j]? with|some d=>(match d.wr with|some x=>decide (x.1=k)|none=>false)|none=>false) (λj d ho h1 h2=>by simp[h1,h2]) ((List.range ds.length).filter D) C C rfl rfl;have p2:=dU ds k (λj=>match ds[j]? with|some d=>(match d.wr with|some x=>decide (x.1=k)|none=>false)|none=>false) (λj d ho h1 h2=>by simp[h1,h2]) (List.range i) C C rfl rfl;unfold stD;rw[p1,p2,p?];congr 3;rw[wU (i:=i) (c? hi) ?_]
    ·apply w?;intro j J;rw[S_]at J;have p:j<ds.length:=Ω
     simp[ζ p];cases hw:ds[j].wr with
     |none=>simp
     |some x=>
      obtain⟨k',ho'⟩:=x;simp only;cases hk:decide (k'=k)with
      |false=>simp
      |true =>have hk:=f_ hk;subst hk;obtain⟨oj,l,_,_,_,hwj⟩:=h.at_ p;obtain⟨w1,w2⟩:=hwj k' ho' hw;have hm:=h.order hdc hi p Ω ho l P r (.inr (.inl ⟨k',R,w2,w1⟩));rw[hm];simp[J]
    ·intro j J f;simp[ζ J]at f;obtain hlt|heq|hgt:=H? j i
     ·exact hlt
     ·subst heq;rw[P]at f;exact absurd f.2 Ψ
     ·exfalso;cases hw:ds[j].wr with
      |none=>rw[hw]at f;simp at f
      |some x =>obtain⟨k',ho'⟩:=x;rw[hw]at f;have hk:k'=k:=f_ f.1;subst hk;obtain⟨oj,l,_,_,_,hwj⟩:=h.at_ J;obtain⟨w1,w2⟩:=hwj k' ho' hw;have hm:=h.order hdc hi J Ω ho l P r (.inr (.inl ⟨k',R,w2,w1⟩));rw[hm]at f;simp at f;omega
  rw[hheap];exact U
 ·cases U
def Drawn.next (h:Drawn tab T ops base C ds ts){D' :Nat→Bool}(hdc:DC ops D)(hi:i<ds.length)(J:D i=false)(hpre:∀q,((aZ ops.toList []).getD i 0).testBit q=true→D q=true)
  (hD':∀j,D' j=(D j||decide (j=i))):stD ds D' C=ds[i].app (stD ds D C):=by
 obtain⟨o,ho,_,_,hdst,hwr⟩:=h.at_ hi;have henv:(stD ds D' C).env=(ds[i].app (stD ds D C)).env:=by
  have hlen:∀L:List Nat,(bp ds L C).env.length=C.env.length:=λL=>by
   suffices ∀(L:List Nat) (σ:Sg),(bp ds L σ).env.length=σ.env.length from this L C;intro L;induction L with
   |nil=>intro σ;rfl
   |cons j L ih=>intro σ;rw[bW,ih];split;exact pl _ _;rfl
  refine Si (d :=.unk) (by rw[pl];unfold stD;rw[hlen,hlen]) (λt=>?_);let p:Nat→Bool:=λj=>match ds[j]? with|some d=>decide (d.dst=some t)|none=>false
  have p1:=fG ds t p (λj d h1 h2=>by simp[p,h1,h2]) ((List.range ds.length).filter D') C C rfl rfl;have p2:=fG ds t p (λj d h1 h2=>by simp[p,h1,h2]) ((List.range ds.length).filter D) C C rfl rfl;rw[p?]at p1 p2;unfold stD;by_cases f:ds[i].dst=some t
  ·have hsn:(List.range ds.length).filter (λj=>p j&&D' j)=(List.range ds.length).filter (λj=>p j&&D j)++[i]:=by
    refine DR hi (λj P g=>?_) (λj P=>?_)
    ·simp[p,ζ P]at g;have l:j≠i:=λe=>by subst e;rw[J]at g;exact absurd g.2 Ψ
     obtain⟨oj,hoj,_,_,hd,_⟩:=h.at_ P;have hm:=h.order hdc hi P l ho hoj J hpre (.inl ⟨t,by rw[←hd];exact g.1,.inr (by rw[←hdst];exact f)⟩);rw[hm]at g;simpa using g.2
    ·rw[hD'];by_cases e:j=i
     ·subst e;simp[p,hi,f,J]
     ·simp[e]
   rw[p1,hsn,xS];simp only[bW,ζ hi];show(ds[i].app _).env.getD t .unk=_;simp only[Dl.app,ud,f,ib,hlen,h?]
  ·have hsm:(List.range ds.length).filter (λj=>p j&&D' j)=(List.range ds.length).filter (λj=>p j&&D j):=by
    refine DS λj P=>?_;rw[hD'];by_cases e:j=i
    ·subst e;simp[p,hi,f]
    ·simp[e]
   rw[p1,hsm,←p2];simp only[Dl.app,ud];cases hd:ds[i].dst with
   |none=>rfl
   |some t' =>have l:t'≠t:=λe=>f (by rw[hd,e]);simp only[ib,ο l]
 have r:(stD ds D' C).heap=(ds[i].app (stD ds D C)).heap:=by
  refine Si (d :=.none) (by rw[lC];unfold stD;rw[bK,bK]) (λk=>?_);let p:Nat→Bool:=λj=>match ds[j]? with|some d=>(match d.wr with|some x=>decide (x.1=k)|none=>false)|none=>false
  have p1:=dU ds k p (λj d ho h1 h2=>by simp[p,h1,h2]) ((List.range ds.length).filter D') C C rfl rfl;have p2:=dU ds k p (λj d ho h1 h2=>by simp[p,h1,h2]) ((List.range ds.length).filter D) C C rfl rfl;rw[p?]at p1 p2;unfold stD;by_cases f:∃ho',ds[i].wr=some (k,ho')
  ·obtain⟨ho',hw⟩:=f;have hsn:(List.range ds.length).filter (λj=>p j&&D' j)=(List.range ds.length).filter (λj=>p j&&D j)++[i]:=by
    refine DR hi (λj P g=>?_) (λj P=>?_)
    ·simp[p,ζ P]at g;have l:j≠i:=λe=>by subst e;rw[J]at g;exact absurd g.2 Ψ
     obtain⟨oj,hoj,_,_,_,hwj⟩:=h.at_ P;cases R:ds[j].wr with
     |none=>rw[R]at g;simp at g
     |some x =>obtain⟨k',U⟩:=x;rw[R]at g;have hk:k'=k:=f_ g.1;subst hk;obtain⟨w1,w2⟩:=hwj k' U R;have hm:=h.order hdc hi P l ho hoj J hpre (.inr (.inl ⟨k',(hwr k' ho' hw).2,w2,w1⟩));rw[hm]at g;simpa using g.2
    ·rw[hD'];by_cases e:j=i
     ·subst e;simp[p,hi,hw,J]
     ·simp[e]
   rw[p1,hsn,xS];simp only[bW,ζ hi];show(ds[i].app _).heap.getD k .none=_;simp only[Dl.app,FW,hw,ib,bK,h?]
  ·have hsm:(List.range ds.length).filter (λj=>p j&&D' j)=(List.range ds.length).filter (λj=>p j&&D j):=by
    refine DS λj P=>?_;rw[hD'];by_cases e:j=i
    ·subst e;have:p j=false:=by
      simp only[p,ζ P];cases R:ds[j].wr with
      |none=>rfl
      |some x =>obtain⟨k',U⟩:=x;simp only[x?];exact λe=>f ⟨U,by rw[R,e]⟩
     simp[this]
    ·simp[e]
   rw[p1,hsm,←p2];simp only[Dl.app,FW];cases hd:ds[i].wr with
   |none=>rfl
   |some x =>obtain⟨k',U⟩:=x;have l:k'≠k:=λe=>f ⟨U,by rw[hd,e]⟩;simp only[ib,ο l]
 cases hs:stD ds D' C with
 |mk e1 h1=>
  cases hs2:ds[i].app (stD ds D C)with
  |mk e2 h2 =>rw[hs,hs2]at henv r;simp only at henv r;rw[henv,r]
end
open Go Go.RowKit
section
variable {P:Program}{tab:Tab}{T:Specs}{ck:Callk}{B:Bd}{lo:Nat}{U:World}{J:Sb}{fs:List (List AV×List Value)}
variable {Γ:List Lq}{ops:Array Oper}{base:Nat}{C:Sg}{ds:List Dl}{ts:List (Option Nat)}
variable{listed:Array Bool}{i n:Nat}{ro:Option Nat}{a:Act}{w:World}{k:Sg→Option AV}
def uM {j:Nat}(f:i<listed.size):(listed.setIfInBounds i true).getD j false=(listed.getD j false||decide (j=i)):=by
 simp;by_cases h:i=j
 ·subst h;simp[f]
 ·have:¬j=i:=λe=>h e.symm;simp[h,this]
def lF (n j:Nat):(Array.replicate n false).getD j false=false:=by simp only[n_,atv];split <;> rfl
def dR (r:listed.size=ops.size)(h:i∈Region.ready .any ops listed) :
  i<ops.size∧listed.getD i false=false∧∃o,ops[i]? = some o∧∀e∈o.after,Region.binds .any e=true→listed.getD e.on false=true:=by
 rw[atw]at h;obtain⟨p,o,g,l⟩:=h;have f:i<ops.size:=(θ.1 g).1;refine⟨f, ?_,o,g,l⟩;have j:i<listed.size:=Ω
 simpa[n_,j]using p
def Oh (J:ct 0 ops.toList=true)(P:listed.size=ops.size)(r:DC ops (λj=>listed.getD j false))(h:i∈Region.ready .any ops listed) :
  (∀q,((aZ ops.toList []).getD i 0).testBit q=true→listed.getD q false=true)∧DC ops (λj=>(listed.setIfInBounds i true).getD j false):=by
 obtain⟨T,hDi,o,R,l⟩:=dR P h;have C:∀q,((aZ ops.toList []).getD i 0).testBit q=true→listed.getD q false=true:=by
  intro q C;obtain⟨e,U,hb,g⟩:=iV ops.toList [] i o (by simpa using R) J q (by simpa using C);have p:=l e (by simpa using U) hb;obtain rfl|g:=g
  ·exact p
  ·exact r e.on p q g
 refine⟨C,λj f q g=>?_⟩;have f:(listed.setIfInBounds i true).getD j false=true:=f;show(listed.setIfInBounds i true).getD q false=true;rw[uM Ω]at f⊢;simp only[ar6,Δ]at f⊢;obtain f|rfl:=f
 ·exact .inl (r j f q g)
 ·exact .inl (C q g)
def Gj (C:ct 0 ops.toList=true)(hs:listed.size=ops.size)(U:Region.ready .any ops listed=[]):∀i,i<ops.size→listed.getD i false=true:=by
 intro i;induction i using Nat.strongRecOn with
 |_ i T=>
  intro P;cases hD:listed.getD i false with
  |true=>rfl
  |false=>
   exfalso;have:i∈Region.ready .any ops listed:=by
    rw[atw];have hl:i<listed.size:=Ω
    refine⟨by simpa[n_,hl]using hD,ops[i],by simp[P],λe g J=>?_⟩;have r:e.on<i:=by
     have:∀(l:List Oper) (k j:Nat) (o:Oper),ct k l=true→l[j]? = some o→∀e∈o.after.toList,Region.binds .any e=true→e.on<k+j:=by
      intro l;induction l with
      |nil=>intro k j o _ h;simp at h
      |cons x l p=>
       intro k j o f h e g R;simp only[ct,ι,d_]at f;cases j with
       |zero =>simp at h;subst h;have:=f.1 e g;simpa[R]using this
       |succ j =>simp at h;have:=p (k+1) j o f.2 h e g R;omega
     have:=this ops.toList 0 i ops[i] C (by simp[P]) e (by simpa using g) J;omega
    exact T e.on r Ω
   rw[U]at this;cases this
def x7 {Q:Exit→Act→World→Prop}(h:Region.ready .any ops listed=[])(j:Q .normal a w):∀f,wpAnyIn (RF ro) n P .any ops Q f listed a w
 |0=>⟨h,j⟩
 |_+1=>⟨λ_=>j,λi g=>by rw[h]at g;cases g⟩
def WJ (ds:List Dl){D:Nat→Bool}(h:∀i,i<ds.length→D i=true)(C:Sg):stD ds D C=bp ds (List.range ds.length) C:=by unfold stD;congr 1;rw[List.filter_eq_self];intro i f;exact h i (S_.1 f)
def Ig (hnd:∀o∈ops.toList,gc ro o)(tk:TabOk P tab)(tsok:SpecsOk P T)(ckok:CkOk P ck Γ)(hcx:Ctx Γ fs B U)(h:Drawn tab T ops base C ds ts)(hb:base+ops.size≤C.heap.length)(hlo:lo≤C.heap.length){r:AV}
  (hrun:bc tab T ck ops.toList base 0 ops.toList C k=some r):∀(p:Nat) (listed:Array Bool) (a:Act) (w:World),listed.size=ops.size→DC ops (λj=>listed.getD j false) →
   ((List.range ops.size).filter λj=>!listed.getD j false).length≤p→(ds.length<ops.size→listed.getD ds.length false=false) →
   Rel fs lo B U J (stD ds (λj=>listed.getD j false) C) a w→wpAnyIn (RF ro) n P .any ops (kN fs lo B U J (base+ops.size) k r) p listed a w:=by
 obtain⟨t1,t2,t3,_⟩:=rC _ _ _ _ _ h.tr;obtain⟨r1,r2,r3⟩:=P9 _ _ _ _ _ h.tr hrun;simp at t2 t3 r2 r3;have hheap:∀D,(stD ds D C).heap.length=C.heap.length:=λD=>by unfold stD;exact bK _ _ _
 have fin:∀(listed:Array Bool) (a:Act) (w:World),listed.size=ops.size→Region.ready .any ops listed=[]→(ds.length<ops.size→listed.getD ds.length false=false)→Rel fs lo B U J (stD ds (λj=>listed.getD j false) C) a w→kN fs lo B U J (base+ops.size) k r .normal a w:=by
  intro listed a w hs hr hl g;have R:=Gj h.edges hs hr;have hm:ds.length=ops.size:=by
   obtain hlt|hge:=T' ds.length ops.size
   ·have:=R _ hlt;rw[hl hlt]at this;cases this
   ·omega
  rw[WJ ds (λi hi=>R i Ω)]at g;exact⟨_,r2 hm,g,by rw[bK];exact hb⟩
 intro p;induction p with
 |zero=>
  intro listed a w hs hdc hcount hl g;have hr:Region.ready .any ops listed=[]:=by
   rw[arX];intro i hi;obtain⟨hlt,hDi,_⟩:=dR hs hi;have:i∈(List.range ops.size).filter λj=>!listed.getD j false:=by rw[m?];exact⟨S_.2 hlt,by simp[hDi]⟩
   rw[K' (Nat.le_zero.1 hcount)]at this;cases this
  exact⟨hr,fin listed a w hs hr hl g⟩
 |succ p ih=>
  intro listed a w hs hdc hcount hl g;refine⟨λhr=>fin listed a w hs hr hl g,λi hi=>?_⟩;obtain⟨hlt,hDi,o',ho',_⟩:=dR hs hi;obtain⟨hpre,hdc'⟩:=Oh h.edges hs hdc hi;have hD':∀j,(listed.setIfInBounds i true).getD j false=(listed.getD j false||decide (j=i)):=λj=>uM Ω;obtain him|him:=T' i ds.length
  ·obtain⟨o,ho,hst⟩:=h.step hdc him hDi hpre;refine FB tk tsok ho hst (r1 _ (r_ him)) (by rw[hheap];omega) (hnd _ (U_.2 (e? ho))) g λa' w' l=>?_;rw[←h.next hdc him hDi hpre hD']at l;refine ih (listed.setIfInBounds i true) a' w' (by simpa using hs) hdc' ?_ (λhlt'=>?_) l
   ·have hlen:((List.range ops.size).filter λj=>!(listed.setIfInBounds i true).getD j false).length<((List.range ops.size).filter λj=>!listed.getD j false).length:=by
     have e:((List.range ops.size).filter λj=>!(listed.setIfInBounds i true).getD j false)=(((List.range ops.size).filter λj=>!listed.getD j false)).filter (λj=>decide (j≠i)):=by rw[p?];apply w?;intro j _;rw[hD'];by_cases e:j=i <;> simp[e]
     rw[e];refine K?.2 ⟨i, ?_,Ψ⟩;rw[m?];exact⟨S_.2 hlt,by simp[hDi]⟩
    omega
   ·rw[hD',hl hlt'];simp;omega
  ·
   have hi':i=ds.length:=Ω
   have R:∀j,j<ds.length→listed.getD j false=true:=λj hj=>by have hp:=h.pair (i:=j) (j:=i) Ω hlt;rw[ο Ω]at hp;exact hpre j hp
   rw[WJ ds R]at g;obtain⟨o,q1,q2⟩:=r3 Ω;have ho:ops[i]? = some o:=by rw[hi'];simpa using q1
   have hfull:Region.ready .any ops (listed.setIfInBounds i true)=[]:=by
    rw[arX];intro j hj;obtain⟨hjl,hDj,_⟩:=dR (by simpa using hs) hj;rw[hD']at hDj;simp only[Bool.or_eq_false_iff,x?]at hDj;obtain x|x:=T' j ds.length
    ·rw[R j x]at hDj;cases hDj.1
    ·omega
   rcases q2 with⟨fr,out,heap',m1,m2⟩|⟨f,args,q2,q3⟩
   ·refine DE tk ho m1 (hnd _ (U_.2 (e? ho))) g λa' w' hl l=>?_;exact x7 hfull ⟨_,m2,l,by rw[hl,bK];exact hb⟩ p
   ·refine DY ckok hcx ho q2 q3 (by rw[bK];exact hlo) (hnd _ (U_.2 (e? ho))) g λout heap' a' w' hk hle l=>?_;exact x7 hfull ⟨_,hk,l,υ (by rw[bK];exact hb) hle⟩ p
def M0 (R:∀o∈ops.toList,gc ro o)(hm:P.follows .mixedOrders=true)(tk:TabOk P tab)(l:SpecsOk P T)(p:CkOk P ck Γ)(hcx:Ctx Γ fs B U){id:Nat}{f:Bool}{g:Sg}{r:AV}(hlo:lo≤g.heap.length)
  (h:vX tab T ck ops.toList f g k=some r) (hr:Rel fs lo B U J g a w):(Code.region id ops f).wpIn (RF ro) n P (kN fs lo B U J lo k r) a w:=by
 have C:∀{Q:Exit→Act→World→Prop} {a:Act} {w:World} {f:Bool},(Code.region id ops f).wpIn (RF ro) n P Q a w→(∀e a w,Q e a w→kN fs lo B U J lo k r e a w)→(Code.region id ops f).wpIn (RF ro) n P (kN fs lo B U J lo k r) a w:=λh1 h2=>wpIn_mono h1 h2;have u0:∀e a w,kN fs lo B U J (g.heap.length+ops.size) (amV k) r e a w→kN fs lo B U J lo k r e a w:=by
  intro e a w hn;cases e with
  |normal =>obtain⟨σ',h1,h2,h3⟩:=hn;exact⟨_,h1,h2.clr,by simp only;omega⟩
  |_=>exact hn.elim
 have hlen:ops.toList.length=ops.size:=by simp
 cases f with
 |false =>simp[vX]at h;refine C (wpIn_region ?_) u0;have:=bJ (n:=n) tk l p hcx R ops.toList 0 ⟨g.env,g.heap++List.replicate ops.toList.length .none⟩ a w Ψ Ψ Ξ h (hr.more _);rw[L?];simpa using this
 |true=>
  simp[vX]at h;split at h
  next ds ts htr=>
   split at h
   ·rename_i hok;have hd:Drawn tab T ops g.heap.length ⟨g.env,g.heap++List.replicate ops.toList.length .none⟩ ds ts:=⟨htr,hok⟩;refine C (wpIn_region_any hm ?_) u0;refine Ig R tk l p hcx hd Ψ Ξ h ops.size (Array.replicate ops.size false) a _ Ψ ?_ ?_ ?_ ?_
    ·intro j hj;have hj:(Array.replicate ops.size false).getD j false=true:=hj;rw[lF]at hj;cases hj
    ·exact υ (q? _ _) Ψ
    ·intro _;exact lF _ _
    ·have e:stD ds (λj=>(Array.replicate ops.size false).getD j false) ⟨g.env,g.heap++List.replicate ops.toList.length .none⟩=⟨g.env,g.heap++List.replicate ops.toList.length .none⟩:=by
      unfold stD;have:(List.range ds.length).filter (λj=>(Array.replicate ops.size false).getD j false)=[]:=by rw[atB];intro j _;rw[lF];simp
      rw[this];rfl
     rw[e];exact(hr.more _).drewW
   ·cases h
  ·cases h
end
