/- A function's run is sound: its contract; the table of types, checked. -/
import Derived.Test.YtboikinjlmjgjaaGreatAbsV
namespace Go.Proofs.YtboikinjlmjgjaaGreat.Abs
open Go Go.RowKit
def yl (tmps:Array Value):ResultVar→Sem Value
 | .tmp t=>pure (tmps.getD t undef)
 | .cell t ty=>do loadVar ty (← asAddr (tmps.getD t undef))
section
variable {P:Program} {tab:Tab} {B:Bd} {lo:Nat} {w0:World} {St0:Sb} {fs:List (List AV×List Value)} {σ:Sg} {a:Act} {c:Gh}
theorem f0 {fn:Func} {tmps:Array Value} {R:Ending→World→Prop} {n:Nat} : ∀ (ms:List Nat) (c:Gh) (w1:World),Inv B w1 St0 c→ms.Nodup→(∀ D∈ms,B≤D∧c.w.heap[D]? = some (.deferred (some []))) →
  (∀ (c':Gh) (w2:World),c'.heap=c.heap→Inv B w2 St0 c'→Ev c c'→Below B c.w c'.w→c'.w.drawn=c.w.drawn→(∀ k,k ∉ ms→c'.w.heap[k]? = c.w.heap[k]?) → ∃ v,(results fn tmps).run P c'.w = .ok v c'.w∧R (.returned v) c'.w) →
  LeavesInM (RF none) n P fn tmps R (ms.map fun D=>{ target := .collected D,args := #[] }) .returning c.w
 | [],c,w1,hI,_,_,h=>h c w1 rfl hI (Ev.refl c) (Below.refl _ _) rfl (fun _ _=>rfl)
 | D::ms,c,w1,hI,hnd,hall,h=>by
  obtain ⟨hB,hD⟩:=hall D (List.mem_cons_self ..)
  obtain ⟨hn1,hn2⟩:=List.nodup_cons.1 hnd
  obtain ⟨hI2,hE2⟩:=hI.other (grownBy_putObj' c.w D (.deferred none)) hD rfl
  refine ⟨by simp,.inl ⟨D,_,rfl,run_takeDeferred hD, ?_⟩⟩
  refine f0 ms { c with w:=c.w.putObj D (.deferred none) } _ hI2 hn2 (fun D' hD' => ?_) (fun c' w2 q1 q2 q3 q4 q5 q6 => ?_)
  ·obtain ⟨h1,h2⟩:=hall D' (List.mem_cons_of_mem _ hD')
   have hne:D'≠D:=fun e=>hn1 (by rw [← e]; exact hD')
   exact ⟨h1,(World.putObj_heap_other hne).trans h2⟩
  ·refine h c' w2 q1 q2 (hE2.trans q3) (Below.trans ((Below.refl B c.w).grown (grownBy_putObj' c.w D (.deferred none)) hI.size (fun k e=>by cases e; exact hB)) q4) q5 (fun k hk => ?_)
   rw [q6 k (fun hm=>hk (List.mem_cons_of_mem _ hm))]
   have hne:k≠D:=fun e=>hk (by rw [e]; exact List.mem_cons_self ..)
   exact World.putObj_heap_other hne
theorem Mm (tk:TabOk P tab) (hI:Inv B w0 St0 c) (hh:c.heap=σ.heap) (hE:RAs c σ.env a.tmps.toList) {rv:ResultVar} {u:AV} (h:Tg tab σ rv=some u) :
  ∃ v,(yl a.tmps rv).run P c.w = .ok v c.w∧RA c u [v]:=by
 cases rv with
 | tmp t =>
  have hx:=lh hE (.tmp t)
  simp only [MT,Act.eval] at hx
  simp only [Tg] at h
  split at h
  ·cases h
  ·simp only [Option.some.injEq] at h
   subst h
   exact ⟨_,by simp [yl],hx⟩
 | cell t ty =>
  have hx:=lh hE (.tmp t)
  simp only [MT,Act.eval] at hx
  simp only [Tg] at h
  split at h
  ·rename_i k off hk
   rw [hk] at hx
   obtain ⟨cells,hc,e⟩:=hx
   simp only [List.cons.injEq,and_true] at e
   split at h
   ·rename_i cells' τ hc' ht
    rw [hh] at hc
    have:cells'=cells:=by
     simp only [List.getD,hc,Option.getD_some,HO.box.injEq] at hc'
     exact hc'.symm
    subst this
    split at h
    ·rename_i x hx
     simp only [Option.some.injEq] at h
     subst h
     obtain ⟨arr,t',h1,h2,h3⟩:=oT hI (by rw [hh]; exact hc)
     have hrep:=gh hx ((h2.drop off).take τ.size)
     obtain ⟨v,hrun,hval⟩:=cT tk ht c.w ⟨c.blk k,off,none⟩ _ hrep.size (fun j u hu=>by
      rw [dY,h3, ← hu,List.getElem?_take]
      have hj:j<τ.size:=by
       rcases Nat.lt_or_ge j τ.size with h | h
       ·exact h
       ·rw [List.getElem?_take,if_neg (by omega)] at hu; cases hu
      rw [if_pos hj,List.getElem?_drop])
     refine ⟨v, ?_,v,rfl,fk hrep hval⟩
     simp [yl,e,asAddr,hrun]
    ·split at h
     ·rename_i hs
      simp only [Bool.and_eq_true] at hs
      simp only [Option.some.injEq] at h
      subst h
      obtain ⟨hst,hon⟩:=hs
      unfold adB at hon
      split at hon
      ·rename_i n hn
       simp only [Bool.and_eq_true] at hon
       obtain ⟨arr,t',h1,h2,h3⟩:=oT hI (by rw [hh]; exact hc)
       have h4:=(h2.drop off).take τ.size
       obtain ⟨_,_,s3⟩:=fh h4 hon.2
       have hsz:((arr.toList.drop off).take τ.size).length=τ.size:=by
        rw [← h4.length,Nat.eq_of_beq_eq_true hon.1]
        obtain ⟨i,z,q1,q2,q3,q4,_⟩:=tk.ty ty τ ht
        obtain ⟨fs,i',z',f1,f2,f3,f4,f5,f6⟩:=tk.one ty n hn
        rw [q1] at f4
        injection f4 with f4
        subst f4
        rw [q3] at f5
        injection f5 with f5
        subst f5
        rw [← f6, ← Array.length_toList,q4]
        exact (cU (w:=c.w) (St:=c.St) τ).size
       obtain ⟨v,hrun,hval⟩:=cT tk ht c.w ⟨c.blk k,off,none⟩ _ hsz (fun j u hu=>by
        rw [dY,h3, ← hu,List.getElem?_take]
        have hj:j<τ.size:=by
         rcases Nat.lt_or_ge j τ.size with h | h
         ·exact h
         ·rw [List.getElem?_take,if_neg (by omega)] at hu; cases hu
        rw [if_pos hj,List.getElem?_drop])
       have hv':v = .agg ((arr.toList.drop off).take τ.size).toArray:=by
        rw [hst] at hval
        simpa using hval
       subst hv'
       refine ⟨_, ?_,_,rfl,RA.of_chain h4,eK _,s3⟩
       simp [yl,e,asAddr,hrun]
      ·cases hon
     ·cases h
   ·cases h
  ·cases h
theorem vW (tk:TabOk P tab) (hI:Inv B w0 St0 c) (hh:c.heap=σ.heap) (hE:RAs c σ.env a.tmps.toList) : ∀ {rs:List ResultVar} {l:List AV},gx tab σ rs=some l →
  ∃ vs,(rs.mapM (yl a.tmps)).run P c.w = .ok vs c.w∧RAs c l vs
 | [],l,h=>by
  simp only [gx,Option.some.injEq] at h
  subst h
  exact ⟨[],by simp,trivial⟩
 | rv::rs,l,h=>by
  simp only [gx] at h
  split at h
  ·rename_i u us h1 h2
   simp only [Option.some.injEq] at h
   subst h
   obtain ⟨v,g1,g2⟩:=Mm tk hI hh hE h1
   obtain ⟨vs,q1,q2⟩:=vW tk hI hh hE h2
   refine ⟨v::vs, ?_,g2,q2⟩
   rw [List.mapM_cons,Sem.run_bind,g1,Result.andThen_ok,Sem.run_bind,q1,Result.andThen_ok]
   rfl
  ·cases h
theorem qR {l:List AV} {vs:List Value} (h:RAs c l vs):RA c (wt l) [if h:vs.length=1 then vs[0] else .tuple vs.toArray]:=by
 match l,vs,h with
 | [],[],_=>exact ⟨[],by simp,rfl,rfl⟩
 | [u],[v],⟨h1,_⟩=>simpa [wt] using h1
 | u::u'::l,v::v'::vs,h =>
  refine ⟨v::v'::vs,by simp,RA.of_chain h,eK _⟩
theorem fj (tk:TabOk P tab) (hI:Inv B w0 St0 c) (hh:c.heap=σ.heap) (hE:RAs c σ.env a.tmps.toList) {fn:Func} {l:List AV} (h:gx tab σ fn.results.toList=some l) :
  ∃ v vs,(results fn a.tmps).run P c.w = .ok v c.w∧RAs c l vs∧v=(if h:vs.length=1 then vs[0] else .tuple vs.toArray):=by
 obtain ⟨vs,h1,h2⟩:=vW tk hI hh hE h
 refine ⟨_,vs, ?_,h2,rfl⟩
 have e:results fn a.tmps=(do let vs ← fn.results.mapM (yl a.tmps); pure (if h:vs.size=1 then vs[0] else .tuple vs)):=by
  unfold results
  congr 2
 rw [e,Array.mapM_eq_mapM_toList,Sem.run_bind,map_eq_pure_bind,Sem.run_bind,h1,Result.andThen_ok]
 simp
structure FiOk (P:Program) (f:FuncId) (x:Fi):Prop where
 fn : ∃ fn,P.funcs[f]? = some fn∧fn.body=some x.code∧fn.ntmps=x.ntmps∧fn.results.toList=x.results∧(fn.name == "runtime.NumGoroutine")=false
 tab:TabOk P x.S.tab
 ay:SpecsOk P x.S.T
theorem oS {l:List AV} {vs:List Value} (h:RAs c l vs) (n:Nat):RAs c (l++List.replicate n .unk) (vs++List.replicate n undef) :=
 h.append (BI (by simp))
def qi (P:Program) (hs:Hs):Prop := ∀ f args heap out heap',hs f args heap=some (true,out,heap')→dj P f ∧
 ∀ (B:Bd) (w0:World) (St0:Sb) (c:Gh),Inv B w0 St0 c→c.heap=heap → ∀ vs,RAs c args vs →
  Calls P f vs.toArray c.w fun e w' => ∃ v c',e = .returned v∧c'.heap=heap'∧heap'.length=heap.length∧c'.w=w'∧Inv B w0 St0 c'∧Ev c c'∧RA c' out [v]
theorem mO (hm:P.follows .mixedOrders=true) {fi:FuncId→Option Fi} {hs:Hs} {fuel:Nat} (hfi : ∀ f x,fi f=some x→FiOk P f x) (hhs:qi P hs) : ∀ d yk Γ,ajR P yk Γ→SS P (Gu fi hs fuel d yk) Γ
 | d,yk,Γ,hyk,.yld j,args,heap,k,r,h=>hyk j args heap k r (by cases d <;> exact h)
 | 0,yk,Γ,hyk,.fn f,args,heap,k,r,h=>by cases h
 | d+1,yk,Γ,hyk,.fn f,args,heap,k,r,h=>by
  simp only [Gu] at h
  split at h
  ·rename_i b out heap' hsf
   cases b with
   | false=>cases h
   | true =>
    obtain ⟨h1,h2⟩:=hhs f args heap out heap' hsf
    refine fun fs B w0 St0 c hI hh vs hr hfs hcx=>⟨h1,(h2 B w0 St0 c hI hh vs hr).mono ?_⟩
    rintro e w' ⟨v,c',he,q1,q2,q3,q4,q5,q6⟩
    exact ⟨v,out,c',he,by rw [q1]; exact h,q3,q4,q6,by rw [q1,q2]; exact Nat.le_refl _,fun fr hfr=>(hfs fr hfr).1.mono q5⟩
  split at h
  ·rename_i x hx
   obtain ⟨⟨fn,f1,f2,f3,f4,f5⟩,tk,ts⟩:=hfi f x hx
   refine fun fs B w0 St0 c hI hh vs hr hfs hcx=>⟨⟨fn,f1,by simp [f2],f5⟩, ?_⟩
   refine callsIn_wide.1 (callsIn_of_wp_marks (F:=RF none) (n:=0) f1 f2 trivial (wpIn_mono (lR hm tk ts ⟨mO hm hfi hhs d yk Γ hyk,mO hm hfi hhs d⟩ x.code none 0 fs heap.length B w0 St0 r (fun _ e=>by cases e) hcx (.inl rfl) _ _ _ c.w (Nat.le_refl _) h ⟨c,w0,rfl,hh,hI, ?_,ng.none B w0,hfs⟩) fun e a w hn => ?_))
   ·have:=oS hr (x.ntmps-args.length)
    rw [f3]
    have hlen:=hr.length
    simpa [hlen] using this
   ·have fin : ∀ σ',(match gx x.S.tab σ' x.results with | some l=>k (wt l) σ'.heap | none=>none)=some r→Rel fs heap.length B w0 St0 σ' a w∧heap.length≤σ'.heap.length→LeavesInM (RF none) 0 P fn a.tmps (fun e w => ∃ v' out c',e = .returned v'∧k out c'.heap=some r∧c'.w=w∧Inv B w0 St0 c'∧RA c' out [v']∧heap.length≤c'.heap.length ∧ ∀ fr∈fs,RAs c' fr.1 fr.2) a.defers .returning w:=by
     rintro σ' h1 ⟨⟨c1,w1,rfl,hh1,hI1,hE1,⟨hb1,ho1,ms,hms,hnod,hmk⟩,hfs1⟩,hle⟩
     rw [hms]
     refine f0 ms c1 w1 hI1 hnod (fun D hD=>⟨(hmk D hD).1,hI1.drawn.keep D _ (hmk D hD).2.2.1 rfl⟩) (fun c' w2 g1 hI2 hE2 g4 g5 g6 => ?_)
     have hh':c'.heap=σ'.heap:=g1.trans hh1
     have hE':=hE1.mono hE2
     have ho':Og B.F w0 c'.w:=⟨by rw [g5]; exact (ho1.trans hI1.drawn).dr,fun k o x y=>by
      rw [g6 k (fun hm=>by have:=(hmk k hm).2.1; have:=(Array.getElem?_eq_some_iff.1 x).1; omega)]
      exact (ho1.trans hI1.drawn).keep k o x y,fun k f=>by
      rw [g6 k (fun hm=>(hmk k hm).2.2.2 f)]
      exact (ho1.trans hI1.drawn).kb k f⟩
     have hI':Inv B w0 St0 c':=hI2.base ((hb1.trans hI1.below).trans g4) ho'
     split at h1
     ·rename_i l hl
      rw [← f4] at hl
      obtain ⟨v,vs',q1,q2,q3⟩:=fj tk hI' hh' hE' hl
      exact ⟨v,q1,v,wt l,c',rfl,by rw [hh']; exact h1,rfl,hI',by rw [q3]; exact qR q2,by rw [hh']; exact hle,fun fr hfr=>(hfs1 fr hfr).1.mono hE2⟩
     ·cases h1
    cases e with
    | normal=>obtain ⟨σ',h1,h2⟩:=hn; exact fin σ' h1 h2
    | ret=>obtain ⟨σ',h1,h2⟩:=hn; exact fin σ' h1 h2
    | exit id=>obtain ⟨σ',h1,_⟩:=hn; cases h1
    | goto l=>exact hn.elim
    | panic ch=>exact hn.elim
    | outgrown=>exact hn.elim
  ·cases h
theorem pG (hm:P.follows .mixedOrders=true) {fi:FuncId→Option Fi} {hs:Hs} {fuel:Nat} (hfi : ∀ f x,fi f=some x→FiOk P f x) (hhs:qi P hs) (d:Nat):CkOk P (aD fi hs fuel d) [] :=
 ⟨mO hm hfi hhs d noY [] (fun _ _ _ _ _ h=>by cases h),mO hm hfi hhs d⟩
theorem dN (hI:Inv B w0 St0 c) {St':Sb} (h1:c.St.le St') (h2 : ∀ k b o t e v l,c.heap[k]? = some (.mrow t e v l)→(c.rv k).ownBlock=some b→St' b o) {t:Ty} {u:AV} {x:t.den} {v:Value} (h:CU c.heap t u=some x) (r:RA c u [v]):cE c.w St' t x v:=by
 have plain : ∀ {t:Ty} {u:AV} {x:t.den},one? t u=some x→RA c u [v]→cE c.w St' t x v:=fun h r=>(one?_sound h r).mono h1 (fun _ _ _ _ x=>x)
 unfold CU at h
 split at h
 ·rename_i k ver lo hi
  split at h
  ·rename_i τ
   split at h
   ·rename_i τ' e v' l hk
    split at h
    ·rename_i q1
     subst q1
     split at h
     ·rename_i l2 hc
      obtain ⟨et,hl2⟩:=cast?_some hc
      injection et with et
      subst et
      have hl2:l2=l:=hl2
      subst hl2
      injection h with h
      subst h
      have hlive:=dD r hk
      obtain ⟨xs,m1,m2,m3⟩:=hI.mrow k _ _ _ _ hk
      exact (aA rfl).2 (JK (B:=B) (e:=e) (xs:=xs) m1 (m2.mono h1 (fun _ _ _ _ x=>x)) (fun b o hb=>h2 k b o _ _ _ _ hk hb) hlive)
     ·cases h
    ·cases h
   ·cases h
  ·cases h
 ·exact plain h r
theorem vf (hI:Inv B w0 St0 c) {St':Sb} (h1:c.St.le St') (h2 : ∀ k b o t e v l,c.heap[k]? = some (.mrow t e v l)→(c.rv k).ownBlock=some b→St' b o) : ∀ {t:Ty} {l:List AV} {x:t.den} {vs:List Value},W9 c.heap t l=some x→RAs c l vs→Rep c.w St' (toD t x) vs
 | .int k,[a],x,[v],h,r=>(aA rfl).1 (dN hI h1 h2 h r.1)
 | .bool,[a],x,[v],h,r=>(aA rfl).1 (dN hI h1 h2 h r.1)
 | .str,[a],x,[v],h,r=>(aA rfl).1 (dN hI h1 h2 h r.1)
 | .slice t,[a],x,[v],h,r=>(aA rfl).1 (dN hI h1 h2 h r.1)
 | .unit,[],x,[],h,r=>rfl
 | .cons a b,l,x,vs,h,r=>by
  simp only [W9] at h
  split at h
  ·rename_i y z hy hz
   have:x=(y,z):=(Option.some.inj h).symm
   subst this
   exact ⟨_,_,(List.take_append_drop a.size vs).symm,vf hI h1 h2 hy (r.take _),vf hI h1 h2 hz (r.drop _)⟩
  ·cases h
 | .tree,[a,b,d,e],x,[v1,v2,v3,v4],h,r=>by
  simp only [W9] at h
  split at h
  ·rename_i k t ls ks q1 q2 q3 q4
   have:x=Tree.mk k t ls ks:=(Option.some.inj h).symm
   subst this
   obtain ⟨r1,r2,r3,r4,_⟩:=r
   refine ⟨[v1],[v2,v3,v4],rfl,(aA rfl).1 (dN hI h1 h2 q1 r1),[v2],[v3,v4],rfl,(aA rfl).1 (dN hI h1 h2 q2 r2),[v3],[v4],rfl,(aA rfl).1 (dN hI h1 h2 q3 r3),[v4],[],rfl, ?_,rfl⟩
   rw [g0]
   exact (aA rfl).1 (dN hI h1 h2 q4 r4)
  ·cases h
theorem Sz (hI:Inv B w0 St0 c) {St':Sb} (h1:c.St.le St') (h2 : ∀ k b o t e v l,c.heap[k]? = some (.mrow t e v l)→(c.rv k).ownBlock=some b→St' b o) {t:Ty} {u:AV} {x:t.den} {v:Value} (h:afB c.heap t u=some x) (r:RA c u [v]):cE c.w St' t x v:=by
 cases u with
 | agg p =>
  simp only [afB] at h
  split at h
  ·rename_i hs
   obtain ⟨cs,e,hr,hc,_⟩:=r
   simp at e; subst e
   unfold cE
   rw [if_pos hs]
   exact ⟨cs,rfl,vf hI h1 h2 h (hr.parts hc)⟩
  ·cases h
 | _=>simp only [afB] at h; exact dN hI h1 h2 h r
theorem u0 (hI:Inv B w0 St0 c) {St':Sb} (h1:c.St.le St') (h2 : ∀ k b o t e v l,c.heap[k]? = some (.mrow t e v l)→(c.rv k).ownBlock=some b→St' b o) : ∀ {ts:List Ty} {l l':List AV} {vs:List Value},Er c.heap ts l=some l'→RAs c l vs→RAs (bj c.w St') l' vs
 | [],[],l',[],h,_=>by
  simp only [Er,Option.some.injEq] at h
  subst h
  trivial
 | t::ts,u::l,l',v::vs,h,⟨r,rs⟩=>by
  simp only [Er] at h
  split at h
  ·rename_i x r' hx hr'
   simp only [Option.some.injEq] at h
   subst h
   exact ⟨⟨v,rfl,Sz hI h1 h2 hx r⟩,u0 hI h1 h2 hr' rs⟩
  ·cases h
theorem vg {w:World} {St:Sb} : ∀ {ds:List ((t:Ty)×t.den)} {vs:List Value},x8 w St ds vs→RAs (bj w St) (ds.map fun d => .val d.1 d.2) vs
 | [],[],_=>trivial
 | _::_,v::_,⟨h,hs⟩=>⟨⟨v,rfl,h⟩,vg hs⟩
theorem Fb (hm:P.follows .mixedOrders=true) {fi:FuncId→Option Fi} {hs:Hs} (hfi : ∀ f x,fi f=some x→FiOk P f x) (hhs:qi P hs) {d fuel:Nat} {f:FuncId} {x:Fi} (hx:FiOk P f x) {tys:List Ty} {args:List AV} {res:AV}
  (h:be (aD fi hs fuel d) x.S 0 fuel x.code ⟨args++List.replicate (x.ntmps-args.length) .unk,[]⟩ (bc x.S.tab x.results tys)=some res):dj P f ∧ ∀ w St,(∀ b e cap n,¬ St.j b e cap n)→(∀ b o,St b o→b<w.heap.size) → ∀ vs,RAs (bj w St) args vs→Calls P f vs.toArray w (SP w St res):=by
 obtain ⟨⟨fn,f1,f2,f3,f4,f5⟩,tk,ts⟩:=hx
 refine ⟨⟨fn,f1,by simp [f2],f5⟩,fun w St hJ hb vs hr => ?_⟩
 have hI:Inv ⟨w.heap.size,fun _=>False⟩ w St (bj w St):=⟨Below.refl _ _,Nat.le_refl _,hb,Sb.le.refl _,fun _ _ x => .inl x,fun k cells hk=>by simp [bj] at hk,fun k t e v hk=>by simp [bj] at hk,fun k k' b _ hk=>by simp [obk,bj] at hk,fun k t e v l hk=>by simp [bj] at hk,Og.refl _,fun _ _ _ f=>f,fun _ f=>f.elim,hJ,fun _ _ _ _ x => .inl x⟩
 have hrs:=hr
 refine callsIn_wide.1 (callsIn_of_wp_marks (F:=RF none) (n:=0) f1 f2 trivial (wpIn_mono (lR hm tk ts (pG hm hfi hhs d) x.code none 0 [] 0 ⟨w.heap.size,fun _=>False⟩ w St res (fun _ e=>by cases e) (fun _ h=>by cases h) (.inl rfl) _ _ _ w (Nat.zero_le _) h ⟨bj w St,w,rfl,rfl,hI, ?_,ng.none _ _,fun _ hfr=>by cases hfr⟩) fun e a w' hn => ?_))
 ·have:=oS hrs (x.ntmps-args.length)
  rw [f3]
  have hlen:=hrs.length
  simpa [hlen] using this
 ·have fin : ∀ σ',(match gx x.S.tab σ' x.results with | some l=>(match Er σ'.heap tys l with | some l=>some (wt l) | none=>none) | none=>none)=some res→Rel [] 0 ⟨w.heap.size,fun _=>False⟩ w St σ' a w'∧0≤σ'.heap.length→LeavesInM (RF none) 0 P fn a.tmps (SP w St res) a.defers .returning w':=by
   rintro σ' h1 ⟨⟨c1,w1,rfl,hh1,hI1,hE1,⟨hb1,ho1,ms,hms,hnod,hmk⟩,_⟩,_⟩
   rw [hms]
   refine f0 ms c1 w1 hI1 hnod (fun D hD=>⟨(hmk D hD).1,hI1.drawn.keep D _ (hmk D hD).2.2.1 rfl⟩) (fun c' w2 g1 hI2 hE2 g4 g5 g6 => ?_)
   have hh':c'.heap=σ'.heap:=g1.trans hh1
   have hE':=hE1.mono hE2
   have ho':Og (fun _=>False) w c'.w:=⟨by rw [g5]; exact (ho1.trans hI1.drawn).dr,fun k o x y=>by
    rw [g6 k (fun hm=>by have:=(hmk k hm).2.1; have:=(Array.getElem?_eq_some_iff.1 x).1; omega)]
    exact (ho1.trans hI1.drawn).keep k o x y,fun k f=>by
    rw [g6 k (fun hm=>(hmk k hm).2.2.2 f)]
    exact (ho1.trans hI1.drawn).kb k f⟩
   have hI':Inv ⟨w.heap.size,fun _=>False⟩ w St c':=hI2.base ((hb1.trans hI1.below).trans g4) ho'
   split at h1
   ·rename_i l hl
    rw [← f4] at hl
    obtain ⟨v,vs',q1,q2,q3⟩:=fj tk hI' hh' hE' hl
    split at h1
    ·rename_i l' hl'
     simp only [Option.some.injEq] at h1
     subst h1
     rw [← hh'] at hl'
     let Q:Nat→Prop:=fun b => ∃ e cap n,c'.St.j b e cap n∧Jk ⟨w.heap.size,fun _=>False⟩ c' b e cap n
     let S2:Sb:=⟨fun b o=>c'.St b o∨((w.heap.size≤b∧b<c'.w.heap.size) ∧ ¬ Q b),c'.St.j⟩
     refine ⟨v,q1,v,S2,rfl,hI'.below,hI'.drawn.dr,⟨fun b o x => .inl (hI'.st0.s b o x),hI'.st0.j⟩,fun b o x => ?_,fun b e cap n x => ?_,by rw [q3]; exact qR (u0 hI' (St':=S2) ⟨fun _ _ x => .inl x,fun _ _ _ _ x=>x⟩ (fun k b o t e v l hk hb=>Or.inr ⟨by obtain ⟨xs,m1,_⟩:=hI'.mrow k t e v l hk; exact m1.lt b hb,fun ⟨_,_,_,_,q⟩=>q.own k (by unfold obk; rw [hk]; exact hb)⟩) hl' q2)⟩
     rotate_left 1
     ·refine (hI'.junk b e cap n x).imp id fun q=>⟨q.lo,q.le,q.cells,fun o y => ?_⟩
      rcases y with y | y
      ·exact q.free o y
      ·exact y.2 ⟨e,cap,n,x,q⟩
     rcases x with x | ⟨x,_⟩
     ·rcases hI'.stN b o x with y | y
      ·exact .inl y
      ·exact .inr ⟨y.1,hI'.bnd b o x⟩
     ·exact .inr x
    ·cases h1
   ·cases h1
  cases e with
  | normal=>obtain ⟨σ',h1,h2⟩:=hn; exact fin σ' h1 h2
  | ret=>obtain ⟨σ',h1,h2⟩:=hn; exact fin σ' h1 h2
  | exit id=>obtain ⟨σ',h1,_⟩:=hn; cases h1
  | goto l=>exact hn.elim
  | panic ch=>exact hn.elim
  | outgrown=>exact hn.elim
theorem nn (hm:P.follows .mixedOrders=true) {fi:FuncId→Option Fi} {hs:Hs} (hfi : ∀ f x,fi f=some x→FiOk P f x) (hhs:qi P hs) {d fuel:Nat} {f:FuncId} {x:Fi} (hx:FiOk P f x) {tys:List Ty} {args:List AV} {res:AV}
  (h:dX fi hs d x tys fuel args=some res):dj P f ∧ ∀ w St,(∀ b o,St b o→b<w.heap.size) → ∀ vs,RAs (bj w St) args vs→Calls P f vs.toArray w (SP w St res):=by
 unfold dX at h
 split at h
 ·rename_i hnj
  obtain ⟨h1,h2⟩:=Fb hm hfi hhs hx h
  refine ⟨h1,fun w St hb vs hr=>(h2 w { s:=St.s } (fun _ _ _ _ f=>f) hb vs (RAs.nj (c:=bj w St) (c':=bj w { s:=St.s }) rfl rfl rfl rfl rfl (fun _ _ x=>x) hnj hr)).mono ?_⟩
  rintro e w' ⟨v,St',e1,q1,q2,q3,q4,q5,q6⟩
  refine ⟨v,⟨St'.s,fun b e cap n=>St'.j b e cap n∨St.j b e cap n⟩,e1,q1,q2,⟨q3.s,fun _ _ _ _ x => .inr x⟩,q4,fun b e cap n x => ?_,q6.mono (Oe (St:=St') (c':=bj w' ⟨St'.s,fun b e cap n=>St'.j b e cap n∨St.j b e cap n⟩) ⟨fun _ _ x=>x,fun _ _ _ _ x => .inl x⟩)⟩
  rcases x with x | x
  ·have q:=(q5 b e cap n x).resolve_left fun f=>f
   exact .inr ⟨q.lo,q.le,q.cells,q.free⟩
  ·exact .inl x
 ·cases h
theorem aO (hm:P.follows .mixedOrders=true) {fi:FuncId→Option Fi} {hs:Hs} (hfi : ∀ f x,fi f=some x→FiOk P f x) (hhs:qi P hs) {d fuel:Nat} {f:FuncId} {x:Fi} (hx:FiOk P f x) {tys:List Ty} {ds:List ((t:Ty)×t.den)} {res:AV}
  (h:dX fi hs d x tys fuel (ds.map fun d => .val d.1 d.2)=some res):nB P f ds res :=
 let ⟨h1,h2⟩:=nn hm hfi hhs hx h
 ⟨h1,fun w St hb vs hr=>h2 w St hb vs (vg hr)⟩
end
def veq:Value→Value→Bool
 | .int k n,.int k' n'=>decide (k=k')&&decide (n=n')
 | .bool b,.bool b'=>decide (b=b')
 | .string s,.string s'=>decide (s.data.toList=s'.data.toList)
 | .slice none 0 0,.slice none 0 0=>true
 | _,_=>false
theorem agP {a b:Value} (h:veq a b=true):a=b:=by
 unfold veq at h
 split at h
 ·simp only [Bool.and_eq_true,decide_eq_true_eq] at h
  obtain ⟨rfl,rfl⟩:=h
  rfl
 ·simp only [decide_eq_true_eq] at h
  subst h
  rfl
 ·rename_i s s'
  simp only [decide_eq_true_eq] at h
  obtain ⟨⟨l⟩⟩:=s
  obtain ⟨⟨l'⟩⟩:=s'
  simp only at h
  subst h
  rfl
 ·rfl
 ·cases h
def acS:List Value→List Value→Bool
 | [],[]=>true
 | a::l,b::m=>veq a b&&acS l m
 | _,_=>false
theorem S3 : ∀ {l m:List Value},acS l m=true→l=m
 | [],[],_=>rfl
 | a::l,b::m,h=>by
  simp only [acS,Bool.and_eq_true] at h
  rw [agP h.1,S3 h.2]
def afT (ty:TypeId→Option Ty):List Field→List Ty→Nat→Bool
 | [],[],_=>true
 | f::fs,a::as,off=>(match ty f.type with | some b=>decide (b.size=a.size)&&decide (b.isStruct=a.isStruct)&&(!a.nojk||decide (b=a)) | none=>false)&&decide (f.offset=off)&&decide (0<a.size)&&decide (f.name ≠ "_")&&afT ty fs as (off+a.size)
 | _,_,_=>false
theorem Uq {ty:TypeId→Option Ty} : ∀ {fs:List Field} {as:List Ty} {off:Nat},afT ty fs as off=true→FOk ty fs as off
 | [],[],_,_=>trivial
 | f::fs,a::as,off,h=>by
  simp only [afT,Bool.and_eq_true,decide_eq_true_eq] at h
  refine ⟨?_,h.1.1.1.2,h.1.1.2,h.1.2,Uq h.2⟩
  have q:=h.1.1.1.1
  split at q
  ·rename_i b hb
   simp only [Bool.and_eq_true,decide_eq_true_eq] at q
   refine ⟨b,hb,q.1.1,q.1.2,fun hn => ?_⟩
   have:=q.2
   rw [hn] at this
   simpa using this
  ·cases q
def alG (P:Program) (tab:Tab) (t:TypeId) (τ:Ty):TypeDesc→Bool
 | .int k=>decide (τ = .int k)
 | .bool=>decide (τ = .bool)
 | .string=>decide (τ = .str)
 | .slice e=>match τ with
  | .slice a=>decide (tab.ty e=some a)&&decide (tab.elem t=some e)&&decide (0<a.size)
  | .jsl e'=>decide (e'=e)&&decide (tab.elem t=some e)&&(match tab.ty e with | some a=>decide (a.size=1) | none=>false)
  | _=>false
 | .struct fs=>τ.isStruct && !P.stoodInHeld t && !P.eqGuardType P.depth t&&afT tab.ty fs.toList τ.fields 0
 | _=>false
def ajC (P:Program) (tab:Tab) (t:TypeId) (τ:Ty):Bool :=
 match P.info? t,P.underlying t with
 | some i,some d=>decide (i.size=τ.size)&&decide (i.bytes≤16384)&&(match i.zero with | some z=>acS z.cells.toList (zl τ)&&(!τ.isStruct||(match z with | .agg _=>true | _=>false)) | none=>false)&&alG P tab t τ d
 | _,_=>false
theorem afR {P:Program} {tab:Tab} {t:TypeId} {τ:Ty} (h:ajC P tab t τ=true) : ∃ i z,P.info? t=some i∧i.size=τ.size∧i.zero=some z∧z.cells.toList=zl τ∧i.bytes≤16384∧(τ.isStruct=true → ∃ cs,z = .agg cs)∧Ux P tab t τ:=by
 unfold ajC at h
 split at h
 ·rename_i i d hi hd
  simp only [Bool.and_eq_true,decide_eq_true_eq] at h
  obtain ⟨⟨⟨h1,h2⟩,h3⟩,h4⟩:=h
  split at h3
  ·rename_i z hz
   simp only [Bool.and_eq_true] at h3
   refine ⟨i,z,hi,h1,hz,S3 h3.1,h2,fun hs => ?_, ?_⟩
   ·have:=h3.2
    rw [hs] at this
    simp only [Bool.not_true,Bool.false_or] at this
    split at this
    ·exact ⟨_,rfl⟩
    ·cases this
   ·unfold alG at h4
    split at h4
    ·have:=of_decide_eq_true h4; subst this; exact hd
    ·have:=of_decide_eq_true h4; subst this; exact hd
    ·have:=of_decide_eq_true h4; subst this; exact hd
    ·split at h4
     ·rename_i e τ' a
      simp only [Bool.and_eq_true,decide_eq_true_eq] at h4
      exact ⟨_,hd,h4.1.1,h4.1.2,h4.2⟩
     ·rename_i e τ' e'
      simp only [Bool.and_eq_true,decide_eq_true_eq] at h4
      obtain ⟨⟨rfl,q1⟩,q2⟩:=h4
      split at q2
      ·rename_i a qa
       exact ⟨a,hd,qa,of_decide_eq_true q2,q1⟩
      ·cases q2
     ·cases h4
    ·rename_i fs
     simp only [Bool.and_eq_true,Bool.not_eq_true'] at h4
     have fact : ∃ fs,P.underlying t=some (.struct fs)∧P.stoodInHeld t=false∧P.eqGuardType P.depth t=false∧FOk tab.ty fs.toList τ.fields 0:=⟨fs,hd,h4.1.1.2,h4.1.2,Uq h4.2⟩
     have hs:=h4.1.1.1
     cases τ <;> simp [Ty.isStruct] at hs <;> exact fact
    ·cases h4
  ·cases h3
 ·cases h
def ajE (P:Program) (tab:Tab) (t:TypeId) (n:Nat):Bool :=
 match P.info? t,P.underlying t with
 | some i,some d=>decide (i.size=n)&&(match i.zero with | some z=>decide (z.cells.size=n) | none=>false)&&((tab.ty t).isSome || !decide (n=1)||qQ d)
 | _,_=>false
theorem afU {P:Program} {tab:Tab} {t:TypeId} {n:Nat} (h:ajE P tab t n=true) : ∃ i z d,P.info? t=some i∧i.size=n∧i.zero=some z∧z.cells.size=n∧P.underlying t=some d∧(tab.ty t=none→n=1→qQ d=true):=by
 unfold ajE at h
 split at h
 ·rename_i i d hi hd
  simp only [Bool.and_eq_true,decide_eq_true_eq] at h
  obtain ⟨⟨h1,h2⟩,h3⟩:=h
  split at h2
  ·rename_i z hz
   refine ⟨i,z,d,hi,h1,hz,of_decide_eq_true h2,hd,fun hn h1n => ?_⟩
   simpa [hn,h1n] using h3
  ·cases h2
 ·cases h
def ajD (P:Program) (t:TypeId) (i d:Nat):Bool :=
 match P.underlying t with
 | some (.struct fs)=>match fs[i]? with
  | some f=>decide (f.offset=d)&&(match P.info? f.type with | some j=>decide (0<j.size) | none=>false)
  | none=>false
 | _=>false
theorem afS {P:Program} {t:TypeId} {i d:Nat} (h:ajD P t i d=true) : ∃ fs f j,P.underlying t=some (.struct fs)∧fs[i]? = some f∧f.offset=d∧P.info? f.type=some j∧0<j.size:=by
 unfold ajD at h
 split at h
 ·rename_i fs hu
  split at h
  ·rename_i f hf
   simp only [Bool.and_eq_true,decide_eq_true_eq] at h
   obtain ⟨h1,h2⟩:=h
   split at h2
   ·rename_i j hj
    exact ⟨fs,f,j,hu,hf,h1,hj,of_decide_eq_true h2⟩
   ·cases h2
  ·cases h
 ·cases h
def ajG (P:Program) (t:TypeId) (n:Nat):Bool :=
 match P.underlying t,P.info? t with
 | some (.struct fs),some i=>Nat.beq fs.size n&&(List.range n).all (fun k=>match fs[k]? with | some f=>Nat.beq f.offset k&&(match P.info? f.type with | some j=>Nat.beq j.size 1 | none=>false) | none=>false)&&(match i.zero with | some z=>Nat.beq z.cells.size n | none=>false)
 | _,_=>false
theorem afW {P:Program} {t:TypeId} {n:Nat} (h:ajG P t n=true) : ∃ fs i z,P.underlying t=some (.struct fs)∧fs.size=n∧(∀ (k:Nat) f,fs[k]? = some f→f.offset=k ∧ ∃ j,P.info? f.type=some j∧j.size=1)∧P.info? t=some i∧i.zero=some z∧z.cells.size=n:=by
 unfold ajG at h
 split at h
 ·rename_i fs i hu hi
  simp only [Bool.and_eq_true,List.all_eq_true,List.mem_range] at h
  obtain ⟨⟨h1,h2⟩,h3⟩:=h
  have h1:=Nat.eq_of_beq_eq_true h1
  split at h3
  ·rename_i z hz
   refine ⟨fs,i,z,hu,h1,fun k f hf => ?_,hi,hz,Nat.eq_of_beq_eq_true h3⟩
   have hk:k<n:=by rw [← h1]; exact (Array.getElem?_eq_some_iff.1 hf).1
   have:=h2 k hk
   rw [hf] at this
   simp only [Bool.and_eq_true] at this
   refine ⟨Nat.eq_of_beq_eq_true this.1, ?_⟩
   have h4:=this.2
   split at h4
   ·rename_i j hj
    exact ⟨j,hj,Nat.eq_of_beq_eq_true h4⟩
   ·cases h4
  ·cases h3
 ·cases h
def ajF (P:Program) (t:TypeId) (n:Nat):Bool :=
 match P.underlying t,P.info? t with
 | some (.array m e),some i=>Nat.beq m n&&(match P.info? e with | some j=>Nat.beq j.size 1 | none=>false)&&(match i.zero with | some z=>Nat.beq z.cells.size n | none=>false)
 | _,_=>false
theorem afV {P:Program} {t:TypeId} {n:Nat} (h:ajF P t n=true) : ∃ e i z j,P.underlying t=some (.array n e)∧P.info? e=some j∧j.size=1∧P.info? t=some i∧i.zero=some z∧z.cells.size=n:=by
 unfold ajF at h
 split at h
 ·rename_i m e i hu hi
  simp only [Bool.and_eq_true] at h
  obtain ⟨⟨h1,h2⟩,h3⟩:=h
  have h1:=Nat.eq_of_beq_eq_true h1
  split at h2
  ·rename_i j hj
   split at h3
   ·rename_i z hz
    exact ⟨e,i,z,j,by rw [hu,h1],hj,Nat.eq_of_beq_eq_true h2,hi,hz,Nat.eq_of_beq_eq_true h3⟩
   ·cases h3
  ·cases h2
 ·cases h
structure TabL where
 ty:List (TypeId×Ty)
 cells:List (TypeId×Nat)
 offs:List ((TypeId×Nat)×Nat)
 elem:List (TypeId×TypeId)
 one:List (TypeId×Nat)
 inp:List Nat:=[]
 arr:List (TypeId×Nat):=[]
def ao {α:Type}:List (Nat×α)→Nat→Option α
 | [],_=>none
 | (k,v)::r,i=>match Nat.beq k i with
  | true=>some v
  | false=>ao r i
def Tx:List ((Nat×Nat)×Nat)→Nat→Nat→Option Nat
 | [],_,_=>none
 | ((k,j),v)::r,i,q=>match Nat.beq k i&&Nat.beq j q with
  | true=>some v
  | false=>Tx r i q
theorem fq {α:Type} : ∀ {l:List (Nat×α)} {i:Nat} {v:α},ao l i=some v→(i,v)∈l
 | [],_,_,h=>by cases h
 | (k,u)::r,i,v,h=>by
  simp only [ao] at h
  split at h
  ·rename_i hb
   have:=Nat.eq_of_beq_eq_true hb
   simp only [Option.some.injEq] at h
   subst this; subst h
   simp
  ·exact List.mem_cons_of_mem _ (fq h)
theorem Gw : ∀ {l:List ((Nat×Nat)×Nat)} {i q v:Nat},Tx l i q=some v→((i,q),v)∈l
 | [],_,_,_,h=>by cases h
 | ((k,j),u)::r,i,q,v,h=>by
  simp only [Tx] at h
  split at h
  ·rename_i hb
   simp only [Bool.and_eq_true] at hb
   have h1:=Nat.eq_of_beq_eq_true hb.1
   have h2:=Nat.eq_of_beq_eq_true hb.2
   simp only [Option.some.injEq] at h
   subst h1; subst h2; subst h
   simp
  ·exact List.mem_cons_of_mem _ (Gw h)
def TabL.tab (l:TabL):Tab:=⟨ao l.ty,ao l.cells,Tx l.offs,ao l.elem,ao l.one,fun t=>l.inp.any (Nat.beq t),ao l.arr⟩
def TabL.chk (P:Program) (l:TabL):Bool :=
 l.ty.all (fun p=>ajC P l.tab p.1 p.2)&&l.cells.all (fun p=>ajE P l.tab p.1 p.2)&&l.offs.all (fun p=>ajD P p.1.1 p.1.2 p.2)&&l.elem.all (fun p=>match P.underlying p.1 with | some (.slice e)=>Nat.beq e p.2 | _=>false)&&l.one.all (fun p=>ajG P p.1 p.2)&&l.arr.all (fun p=>ajF P p.1 p.2)
theorem TabL.ok {P:Program} {l:TabL} (h:l.chk P=true):TabOk P l.tab:=by
 simp only [TabL.chk,Bool.and_eq_true,List.all_eq_true] at h
 obtain ⟨⟨⟨⟨⟨h1,h2⟩,h3⟩,h4⟩,h5⟩,h6⟩:=h
 refine ⟨fun t τ ht=>afR (h1 (t,τ) (fq ht)),fun t n ht=>afU (h2 (t,n) (fq ht)),fun t i d ht=>afS (h3 ((t,i),d) (Gw ht)),fun t e ht => ?_,fun t n ht=>afW (h5 (t,n) (fq ht)),fun t n ht=>afV (h6 (t,n) (fq ht))⟩
 have:=h4 (t,e) (fq ht)
 simp only at this
 split at this
 ·rename_i e' hu
  rw [hu,Nat.eq_of_beq_eq_true this]
 ·cases this
abbrev Ent:=List AV→Option (Bool×AV)
def sp1 (a:Ty) (G:a.den→Bool) (R:a.den→AV):Ent:=fun args=>match args with
 | [x]=>match dat? a x with | some x=>some (G x,R x) | none=>none
 | _=>none
def sp2 (a b:Ty) (G:a.den→b.den→Bool) (R:a.den→b.den→AV):Ent:=fun args=>match args with
 | [x,y]=>match dat? a x,dat? b y with | some x,some y=>some (G x y,R x y) | _,_=>none
 | _=>none
def sp3 (a b c:Ty) (G:a.den→b.den→c.den→Bool) (R:a.den→b.den→c.den→AV):Ent:=fun args=>match args with
 | [x,y,z]=>match dat? a x,dat? b y,dat? c z with | some x,some y,some z=>some (G x y z,R x y z) | _,_,_=>none
 | _=>none
def sp4 (a b c d:Ty) (G:a.den→b.den→c.den→d.den→Bool) (R:a.den→b.den→c.den→d.den→AV):Ent:=fun args=>match args with
 | [x,y,z,u]=>match dat? a x,dat? b y,dat? c z,dat? d u with | some x,some y,some z,some u=>some (G x y z u,R x y z u) | _,_,_,_=>none
 | _=>none
def ar (P:Program) (f:FuncId) (e:Ent):Prop := ∀ args res,e args=some (true,res)→ES P f args res
theorem eA {P:Program} {f:FuncId} {a:Ty} {G:a.den→Bool} {R:a.den→AV} (h : ∀ x,G x=true→nB P f [⟨a,x⟩] (R x)):ar P f (sp1 a G R):=fun args res he=>by
 unfold sp1 at he
 split at he
 ·split at he
  ·rename_i x hx
   simp only [Option.some.injEq,Prod.mk.injEq] at he
   obtain ⟨h1,rfl⟩:=he
   exact ou (ds:=[⟨a,x⟩]) ⟨hx,trivial⟩ (h x h1)
  ·cases he
 ·cases he
theorem qE {P:Program} {f:FuncId} {a b:Ty} {G:a.den→b.den→Bool} {R:a.den→b.den→AV} (h : ∀ x y,G x y=true→nB P f [⟨a,x⟩,⟨b,y⟩] (R x y)):ar P f (sp2 a b G R):=fun args res he=>by
 unfold sp2 at he
 split at he
 ·split at he
  ·rename_i x y hx hy
   simp only [Option.some.injEq,Prod.mk.injEq] at he
   obtain ⟨h1,rfl⟩:=he
   exact ou (ds:=[⟨a,x⟩,⟨b,y⟩]) ⟨hx,hy,trivial⟩ (h x y h1)
  ·cases he
 ·cases he
theorem XV {P:Program} {f:FuncId} {a b c:Ty} {G:a.den→b.den→c.den→Bool} {R:a.den→b.den→c.den→AV} (h : ∀ x y z,G x y z=true→nB P f [⟨a,x⟩,⟨b,y⟩,⟨c,z⟩] (R x y z)):ar P f (sp3 a b c G R):=fun args res he=>by
 unfold sp3 at he
 split at he
 ·split at he
  ·rename_i x y z hx hy hz
   simp only [Option.some.injEq,Prod.mk.injEq] at he
   obtain ⟨h1,rfl⟩:=he
   exact ou (ds:=[⟨a,x⟩,⟨b,y⟩,⟨c,z⟩]) ⟨hx,hy,hz,trivial⟩ (h x y z h1)
  ·cases he
 ·cases he
theorem XU {P:Program} {f:FuncId} {a b c d:Ty} {G:a.den→b.den→c.den→d.den→Bool} {R:a.den→b.den→c.den→d.den→AV} (h : ∀ x y z u,G x y z u=true→nB P f [⟨a,x⟩,⟨b,y⟩,⟨c,z⟩,⟨d,u⟩] (R x y z u)):ar P f (sp4 a b c d G R):=fun args res he=>by
 unfold sp4 at he
 split at he
 ·split at he
  ·rename_i x y z u hx hy hz hu
   simp only [Option.some.injEq,Prod.mk.injEq] at he
   obtain ⟨h1,rfl⟩:=he
   exact ou (ds:=[⟨a,x⟩,⟨b,y⟩,⟨c,z⟩,⟨d,u⟩]) ⟨hx,hy,hz,hu,trivial⟩ (h x y z u h1)
  ·cases he
 ·cases he
def agW (g:FuncId) (a b:Ty) (G:a.den→b.den→Bool) (R:a.den→b.den→AV):Ent:=fun args=>match args with
 | [x,y,.fn g' .pnil]=>match Nat.beq g g' with
  | true=>match dat? a x,dat? b y with | some x,some y=>some (G x y,R x y) | _,_=>none
  | false=>none
 | _=>none
theorem afh {c c':Gh} {g:FuncId} {vs:List Value} (h:RA c (.fn g .pnil) vs):RA c' (.fn g .pnil) vs:=by
 obtain ⟨cs,e,hcs,hc⟩:=h
 exact ⟨cs,e,hcs,hc⟩
theorem ac0 {P:Program} {f g:FuncId} {a b:Ty} {G:a.den→b.den→Bool} {R:a.den→b.den→AV}
  (h : ∀ x y,G x y=true→dj P f ∧ ∀ w St,(∀ b o,St b o→b<w.heap.size) → ∀ vs,RAs (bj w St) [.val a x,.val b y,.fn g .pnil] vs→Calls P f vs.toArray w (SP w St (R x y))):ar P f (agW g a b G R):=fun args res he=>by
 unfold agW at he
 split at he
 ·rename_i x0 y0 g'
  split at he
  ·rename_i hg
   have hg:=Nat.eq_of_beq_eq_true hg
   subst hg
   split at he
   ·rename_i x y hx hy
    simp only [Option.some.injEq,Prod.mk.injEq] at he
    obtain ⟨h1,rfl⟩:=he
    obtain ⟨k1,k2⟩:=h x y h1
    refine ⟨fun w St vs=>RAs (bj w St) [.val a x,.val b y,.fn g .pnil] vs,fun c vs hr => ?_,k1,k2⟩
    match vs,hr with
    | [v1,v2,v3],⟨r1,r2,r3,_⟩=>exact ⟨⟨v1,rfl,(dat?_sound (c:=c) hx r1:cE c.w c.St a x v1)⟩,⟨v2,rfl,(dat?_sound (c:=c) hy r2:cE c.w c.St b y v2)⟩,afh r3,trivial⟩
   ·cases he
  ·cases he
 ·cases he
def KS (l:List (Nat×Ent)) (f:FuncId) (args:List AV):Option (Bool×AV):=match ao l f with
 | some e=>e args
 | none=>none
def ay (l:List (Nat×Ent)):Specs:={ call:=KS l }
abbrev Rnt:=List AV→List AV→Option (Bool×AV)
def ag5 (l:List (Nat×Rnt)) (f:FuncId) (cells aL:List AV):Option (Bool×AV):=match ao l f with
 | some e=>e cells aL
 | none=>none
abbrev Bnt:=List AV→List AV→Option (Bool×List AV×AV)
def ajJ (l:List (Nat×Bnt)) (f:FuncId) (cells aL:List AV):Option (Bool×List AV×AV):=match ao l f with
 | some e=>e cells aL
 | none=>none
def dn (l:List (Nat×Ent)) (lr:List (Nat×Rnt)) (lb:List (Nat×Bnt)) (lw:List (Nat×Rw)) (ln:List (Nat×Nw)):Specs:={ call:=KS l,rd:=ag5 lr,wr:=fun f=>(ao lb f).isSome||(ao lw f).isSome,bx:=ajJ lb,rb:=ao lw,nw:=ao ln }
def aV (P:Program):List (Nat×Ent)→Prop
 | []=>True
 | (f,e)::r=>ar P f e∧aV P r
theorem bI {P:Program}:qi P hs0:=fun _ _ _ _ _ h=>by cases h
def EQ (P:Program) (f:FuncId) (e:Rnt):Prop := ∀ cells aL res,e cells aL=some (true,res)→Uz P f cells aL res
def agf (P:Program):List (Nat×Rnt)→Prop
 | []=>True
 | (f,e)::r=>EQ P f e∧agf P r
theorem adr {P:Program} {l:List (Nat×Rnt)} (h:agf P l) : ∀ f cells aL res,ag5 l f cells aL=some (true,res)→Uz P f cells aL res:=fun f cells aL res he=>by
 unfold ag5 at he
 split at he
 ·rename_i e hl
  have : ∀ {l:List (Nat×Rnt)},agf P l→ao l f=some e→EQ P f e:=by
   intro l
   induction l with
   | nil=>intro _ h; cases h
   | cons p r ih =>
    obtain ⟨k,e'⟩:=p
    intro ha hlk
    simp only [ao] at hlk
    split at hlk
    ·rename_i hb
     have:=Nat.eq_of_beq_eq_true hb
     simp only [Option.some.injEq] at hlk
     subst this; subst hlk
     exact ha.1
    ·exact ih ha.2 hlk
  exact this h hl cells aL res he
 ·cases he
theorem Hc {P:Program} {l:List (Nat×Ent)} (h:aV P l) : ∀ f args res,KS l f args=some (true,res)→ES P f args res:=fun f args res he=>by
 unfold KS at he
 split at he
 ·rename_i e hl
  have : ∀ {l:List (Nat×Ent)},aV P l→ao l f=some e→ar P f e:=by
   intro l
   induction l with
   | nil=>intro _ h; cases h
   | cons p r ih =>
    obtain ⟨k,e'⟩:=p
    intro ha hlk
    simp only [ao] at hlk
    split at hlk
    ·rename_i hb
     have:=Nat.eq_of_beq_eq_true hb
     simp only [Option.some.injEq] at hlk
     subst this; subst hlk
     exact ha.1
    ·exact ih ha.2 hlk
  exact this h hl args res he
 ·cases he
theorem ah {P:Program} {l:List (Nat×Ent)} (h:aV P l):SpecsOk P (ay l):=⟨Hc h,(fun _ _ _ _ h=>by cases h),(fun _ _ _ _ _ h=>by cases h),(fun _ _ h=>by cases h),(fun _ _ h=>by cases h)⟩
def gX (P:Program) (f:FuncId) (e:Bnt):Prop := ∀ cells aL cells' res,e cells aL=some (true,cells',res)→Uy P f cells aL cells' res
def agh (P:Program):List (Nat×Bnt)→Prop
 | []=>True
 | (f,e)::r=>gX P f e∧agh P r
theorem afZ {P:Program} {l:List (Nat×Bnt)} (h:agh P l) : ∀ f cells aL cells' res,ajJ l f cells aL=some (true,cells',res)→Uy P f cells aL cells' res:=fun f cells aL cells' res he=>by
 unfold ajJ at he
 split at he
 ·rename_i e hl
  have : ∀ {l:List (Nat×Bnt)},agh P l→ao l f=some e→gX P f e:=by
   intro l
   induction l with
   | nil=>intro _ h; cases h
   | cons p r ih =>
    obtain ⟨k,e'⟩:=p
    intro ha hlk
    simp only [ao] at hlk
    split at hlk
    ·rename_i hb
     have:=Nat.eq_of_beq_eq_true hb
     simp only [Option.some.injEq] at hlk
     subst this; subst hlk
     exact ha.1
    ·exact ih ha.2 hlk
  exact this h hl cells aL cells' res he
 ·cases he
def zj (P:Program) (f:FuncId) (q:Rw):Prop := ∀ l aL l',q.F l aL=some (true,l')→agc P f q.t q.e l aL l'
def ajW (P:Program):List (Nat×Rw)→Prop
 | []=>True
 | (f,q)::r=>zj P f q∧ajW P r
theorem Nd {P:Program} {f:FuncId} {q:Rw} : ∀ {l:List (Nat×Rw)},ajW P l→ao l f=some q→zj P f q
 | [],_,h=>by cases h
 | (k,e')::r,ha,hlk=>by
  simp only [ao] at hlk
  split at hlk
  ·rename_i hb
   have:=Nat.eq_of_beq_eq_true hb
   simp only [Option.some.injEq] at hlk
   subst this; subst hlk
   exact ha.1
  ·exact Nd ha.2 hlk
def SR (P:Program) (f:FuncId) (q:Nw):Prop := ∀ args l',q.F args=some (true,l')→ajT P f q.t q.e args l'
def ajX (P:Program):List (Nat×Nw)→Prop
 | []=>True
 | (f,q)::r=>SR P f q∧ajX P r
theorem Nf {P:Program} {f:FuncId} {q:Nw} : ∀ {l:List (Nat×Nw)},ajX P l→ao l f=some q→SR P f q
 | [],_,h=>by cases h
 | (k,e')::r,ha,hlk=>by
  simp only [ao] at hlk
  split at hlk
  ·rename_i hb
   have:=Nat.eq_of_beq_eq_true hb
   simp only [Option.some.injEq] at hlk
   subst this; subst hlk
   exact ha.1
  ·exact Nf ha.2 hlk
theorem bq {P:Program} {l:List (Nat×Ent)} {lr:List (Nat×Rnt)} {lb:List (Nat×Bnt)} {lw:List (Nat×Rw)} {ln:List (Nat×Nw)} (h:aV P l) (hr:agf P lr) (hb:agh P lb) (hw:ajW P lw) (hn:ajX P ln):SpecsOk P (dn l lr lb lw ln):=⟨Hc h,adr hr,afZ hb,fun _ _ hq=>Nd hw hq,fun _ _ hq=>Nf hn hq⟩
abbrev K9:=List AV→List HO→Option (Bool×AV×List HO)
def Zb (l:List (Nat×K9)):Hs:=fun f args heap=>match ao l f with
 | some h=>h args heap
 | none=>none
def dv {α:Type} (cmp:α→α→Int) (l:List α):List α:=l.mergeSort (fun a b=>decide (cmp a b≤0))
def Mb (τ:Ty) (e:TypeId) (g:FuncId) (cmp:τ.den→τ.den→Int) (good:τ.den→Bool):K9:=fun args heap=>match args with
 | [.msl k v lo hi,.fn g' .pnil]=>match Nat.beq g g' with
  | true=>match heap[k]? with
   | some (.mrow τ' e' v' l)=>if v'=v then if e'=e then match cast? (.slice τ') (.slice τ) l with
     | some l=>some (decide (l.length≤LIM)&&l.all good,.tup .pnil,heap.set k (.mrow τ e v (l.take lo++dv cmp ((l.take hi).drop lo)++l.drop hi)))
     | none=>none
    else none else none
   | _=>none
  | false=>none
 | _=>none
def zk (P:Program) (f:FuncId) (h:K9):Prop := ∀ args heap out heap',h args heap=some (true,out,heap')→dj P f ∧
 ∀ (B:Bd) (w0:World) (St0:Sb) (c:Gh),Inv B w0 St0 c→c.heap=heap → ∀ vs,RAs c args vs →
  Calls P f vs.toArray c.w fun e w' => ∃ v c',e = .returned v∧c'.heap=heap'∧heap'.length=heap.length∧c'.w=w'∧Inv B w0 St0 c'∧Ev c c'∧RA c' out [v]
def acH (P:Program):List (Nat×K9)→Prop
 | []=>True
 | (f,h)::r=>zk P f h∧acH P r
theorem IX {P:Program} {l:List (Nat×K9)} (h:acH P l):qi P (Zb l):=fun f args heap out heap' he=>by
 unfold Zb at he
 split at he
 ·rename_i e hl
  have : ∀ {l:List (Nat×K9)},acH P l→ao l f=some e→zk P f e:=by
   intro l
   induction l with
   | nil=>intro _ h; cases h
   | cons p r ih =>
    obtain ⟨k,e'⟩:=p
    intro ha hlk
    simp only [ao] at hlk
    split at hlk
    ·rename_i hb
     have:=Nat.eq_of_beq_eq_true hb
     simp only [Option.some.injEq] at hlk
     subst this; subst hlk
     exact ha.1
    ·exact ih ha.2 hlk
  exact this h hl args heap out heap' he
 ·cases he
end Go.Proofs.YtboikinjlmjgjaaGreat.Abs
