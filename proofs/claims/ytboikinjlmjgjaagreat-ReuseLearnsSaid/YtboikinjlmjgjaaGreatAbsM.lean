/- Operations with guards, and regions, are sound. -/
import Derived.Test.YtboikinjlmjgjaaGreatAbsK
import Derived.Test.YtboikinjlmjgjaaGreatAbsL
import Derived.RangeFuncCalls
import Derived.RangeFuncLeaves
import Derived.OrdersIn
import Derived.LoopNIn
namespace Go.Proofs.YtboikinjlmjgjaaGreat.Abs
open Go Go.RowKit
def RF (ro:Option Nat):Fence:={ Fence.wide with round:=ro }
theorem Ur {P:Program} {ro:Option Nat} {n:Nat} {f:FuncId} {args:Array Value} {w:World} {R:Ending→World→Prop} (h:Calls P f args w R):CallsIn (RF ro) n P f args w R:=by
 have h':CallsIn Fence.wide n P f args w R:=callsIn_wide.2 h
 exact h'
def x9 (ro:Option Nat) (o:Oper):Prop:=ro=none ∨ ∀ c,o.op ≠ .defer c
theorem MV {P:Program} {ro:Option Nat} {n:Nat} {o:Oper} {a:Act} {w:World} {K:Act→World→Prop} {Q:Exit→Act→World→Prop} (hd:x9 ro o) (h:o.wp P a w K Q):o.wpIn (RF ro) n P a w K Q:=by
 refine ⟨fun _ _=>trivial, ?_⟩
 have e:o.semAt (RF ro).round a.eval=execOp a.eval o:=by
  rcases hd with rfl | hd
  ·rfl
  ·exact Oper.semAt_eq _ _ _ hd
 rw [e]
 unfold Oper.wp at h
 generalize (execOp a.eval o).run P w=r at h ⊢
 cases r with
 | ok x w' =>
  cases x <;> simp only [Oper.upon,Oper.uponIn] at h ⊢
  case value=>exact h
  case skip=>exact h
  case defer=>exact h
  case enter=>exact ⟨(fun q=>by cases q),Ur h⟩
  case row =>
   refine ⟨(fun q=>by cases q),fun c cs _ => ?_⟩
   obtain ⟨v,w'',r1,r2⟩:=h c cs
   exact ⟨v,w'',r1,stepsIn_wide.2 r2⟩
 | halt x w'=>cases x <;> simp only [Oper.upon,Oper.uponIn] at h ⊢ <;> exact h
def ng (B:Bd) (w0 w1:World) (ds:List Deferred):Prop :=
 Below B w0 w1∧Og B.F w0 w1 ∧ ∃ ms:List Nat,ds=ms.map (fun D=>{ target := .collected D,args := #[] })∧ms.Nodup ∧ ∀ D∈ms,B≤D∧w0.heap.size≤D∧w1.heap[D]? = some (.deferred (some [])) ∧ ¬ B.F D
theorem ng.none (B:Bd) (w:World):ng B w w []:=⟨Below.refl _ _,Og.refl _,[],rfl,List.nodup_nil,fun _ h=>by cases h⟩
theorem ng.put {B:Bd} {w0 w1:World} {a:Act} (h:ng B w0 w1 a.defers) (d:Option Nat) (v:Value):ng B w0 w1 (a.put d v).defers:=by cases d <;> exact h
def Rel (fs:List (List AV×List Value)) (lo:Nat) (B:Bd) (w0:World) (St0:Sb) (σ:Sg) (a:Act) (w:World):Prop :=
 ∃ (c:Gh) (w1:World),c.w=w∧c.heap=σ.heap∧Inv B w1 St0 c∧RAs c σ.env a.tmps.toList∧ng B w0 w1 a.defers ∧ ∀ fr∈fs,RAs c fr.1 fr.2∧fr.1.all (AV.under lo)=true
section
variable {P:Program} {tab:Tab} {T:Specs} {B:Bd} {lo:Nat} {w0:World} {St0:Sb} {c:Gh} {o:Oper} {a:Act} {fs:List (List AV×List Value)} {σ:Sg} {w:World}
theorem xJ (v:Value):RA c (y9 v) [v]:=by
 unfold y9
 split
 ·exact cY _ _
 ·exact cw _
 ·rename_i s
  obtain ⟨⟨l⟩⟩:=s
  exact yo l
 ·rfl
 ·exact ⟨_,rfl⟩
theorem ny : ∀ l:List Value,RAs c (l.map y9) l
 | []=>trivial
 | v::l=>⟨xJ v,ny l⟩
theorem Ax : ∀ {us:List AV} {l:List Value},us.all AV.single=true→RAs c us l → ∀ u∈l,u.oneCell'=true
 | [],[],_,_,_,h=>by cases h
 | _::_,v::_,h,⟨h1,h2⟩,u,hu=>by
  simp only [List.all_cons,Bool.and_eq_true] at h
  rcases List.mem_cons.1 hu with rfl | hu
  ·exact (vP h1 h.1).2
  ·exact Ax h.2 h2 u hu
theorem Fs (v:Value):RA c (KE v) [v]:=by
 unfold KE
 split
 ·rename_i cs
  split
  ·rename_i hs
   exact ⟨cs.toList,by simp,RA.of_chain (ny _),eK _,Ax (c:=c) hs (ny _)⟩
  ·exact ⟨_,rfl⟩
 ·exact xJ _
theorem lh (h:RAs c σ.env a.tmps.toList) (x:Operand):RA c (MT σ.env x) [a.eval x]:=by
 cases x with
 | tmp t =>
  simp only [MT,Act.eval]
  rcases Nat.lt_or_ge t σ.env.length with hlt | hge
  ·obtain ⟨v,hv,hr⟩:=h.get t σ.env[t] (List.getElem?_eq_getElem hlt)
   have e1:σ.env.getD t .unk=σ.env[t]:=by simp [List.getD,List.getElem?_eq_getElem hlt]
   have e2:a.tmps.getD t undef=v:=by
    have:a.tmps[t]? = some v:=by simpa using hv
    simp [Array.getD_eq_getD_getElem?,this]
   rw [e1,e2]
   exact hr
  ·have e1:σ.env.getD t .unk = .unk:=by simp [List.getD,List.getElem?_eq_none hge]
   rw [e1]
   exact ⟨_,rfl⟩
 | const v=>exact Fs v
 | func f=>exact ⟨[],rfl,rfl,rfl⟩
 | global g=>exact ⟨_,rfl⟩
theorem sI (h:RAs c σ.env a.tmps.toList) : ∀ l:List Operand,RAs c (l.map (MT σ.env)) (l.map a.eval)
 | []=>trivial
 | x::l=>⟨lh h x,sI h l⟩
theorem hY (h:RAs c σ.env a.tmps.toList) {dst:Option Nat} {u:AV} {v:Value} (hr:RA c u [v]):RAs c (gV σ.env dst u) (a.put dst v).tmps.toList:=by
 cases dst with
 | none=>exact h
 | some d =>
  simp only [gV,Act.put,Array.toList_setIfInBounds]
  exact h.set d hr
theorem zA {g:Bool} (hg:g=true) : ∀ {l:List AV} {vs:List Value},(nT g l).1=true→RAs c l vs→RAs c (nT g l).2 vs
 | [],[],_,_=>trivial
 | u::l,v::vs,h,⟨r,rs⟩=>by
  simp only [nT,Bool.and_eq_true] at h
  refine ⟨?_,zA hg h.2 rs⟩
  have h1:=h.1
  cases u with
  | cond cc u' =>
   simp only [nk,hg,nM] at h1
   subst h1
   simpa [nk,RA] using r
  | _=>exact r
theorem HP {g:Bool} (hg:g=true) {u:AV} {v:Value} (h:(nk g u).1=true) (r:RA c u [v]):RA c (nk g u).2 [v]:=by
 cases u with
 | cond cc u' =>
  simp only [nk,hg,nM] at h
  subst h
  simpa [nk,RA] using r
 | _=>exact r
theorem tZ {op:Op} {g:Bool} (hg:g=true) {l:List AV} {vs:List Value} (h:(gu op g l).1=true) (r:RAs c l vs):RAs c (gu op g l).2 vs:=by
 unfold gu at *
 split
 ·rename_i x y z u l'
  simp only at h
  match vs,r with
  | v::vs,⟨r1,r2⟩=>exact ⟨HP hg h r1,r2⟩
 ·rename_i hne
  split at h
  ·exact (hne _ _ _ _ _ rfl rfl).elim
  ·exact zA hg h r
theorem afz {g:Bool} {vals:List AV} {fresh:Nat} {ho ho':HO} {b:Bool} {out:AV} (hr:dc T o.op=true) (h:abM tab T o g vals fresh ho=some (b,out,ho')):ho'=ho:=by
 have fin : ∀ {x:Bool×AV×HO},some x=some (b,out,ho')→x.2.2=ho→ho'=ho:=fun h1 h2=>by
  simp only [Option.some.injEq] at h1
  rw [h1] at h2
  exact h2
 have non : ∀ {q:Prop},(none:Option (Bool×AV×HO))=some (b,out,ho')→q:=fun h1=>by cases h1
 unfold abM at h
 generalize o.op=op at h hr
 cases op
 case call cl =>
  simp only [dc] at h hr
  generalize cl.callee=ce at h hr
  cases ce with
  | builtin bb =>
   cases bb
   case append=>simp at hr
   all_goals simp only at h
   all_goals (repeat' split at h)
   all_goals first | exact non h | exact fin h rfl
  | value x =>
   simp only [Bool.and_eq_true,Bool.not_eq_true'] at h hr
   rw [hr.1,hr.2] at h
   simp only at h
   repeat' split at h
   all_goals first | exact non h | exact fin h rfl
  | invoke r m=>exact non h
 case alloc=>simp [dc] at hr
 case box=>simp [dc] at hr
 case buildSlice=>simp [dc] at hr
 case makeSlice=>simp [dc] at hr
 case store=>simp [dc] at hr
 case unOp u t x =>
  cases u <;> simp only at h
  all_goals (repeat' split at h)
  all_goals first | exact non h | exact fin h rfl
 case makeFunc fn first cap =>
  cases fn <;> simp only at h
  all_goals (repeat' split at h)
  all_goals first | exact non h | exact fin h rfl
 case slice t x lo hi mx =>
  cases mx <;> simp only at h
  all_goals (repeat' split at h)
  all_goals first | exact non h | exact fin h rfl
 all_goals simp only at h
 all_goals (repeat' split at h)
 all_goals first | exact non h | exact fin h rfl
theorem afx (T:Specs) {vals:List AV} {ho ho':HO} {b:Bool} {out:AV} (hr:dc T o.op=true) (h:abL tab o vals ho=some (b,out,ho')):ho'=ho:=by
 have fin : ∀ {x:Bool×AV×HO},some x=some (b,out,ho')→x.2.2=ho→ho'=ho:=fun h1 h2=>by
  simp only [Option.some.injEq] at h1
  rw [h1] at h2
  exact h2
 have non : ∀ {q:Prop},(none:Option (Bool×AV×HO))=some (b,out,ho')→q:=fun h1=>by cases h1
 unfold abL at h
 split at h
 ·generalize o.op=op at h hr
  cases op
  case call cl =>
   simp only [dc] at h hr
   generalize cl.callee=ce at h hr
   cases ce with
   | builtin bb =>
    cases bb
    case append=>simp at hr
    all_goals simp only at h
    all_goals (repeat' split at h)
    all_goals first | exact non h | exact fin h rfl
   | value x=>exact non h
   | invoke r m=>exact non h
  case store=>simp [dc] at hr
  case slice t x lo hi mx =>
   cases mx <;> simp only at h
   all_goals (repeat' split at h)
   all_goals first | exact non h | exact fin h rfl
  all_goals simp only at h
  all_goals (repeat' split at h)
  all_goals first | exact non h | exact fin h rfl
 ·exact non h
theorem abK {g:Bool} {vals:List AV} {fresh:Nat} {ho ho':HO} {b:Bool} {out:AV} (hr:dc T o.op=true) (h:eff tab T o g vals fresh ho=some (b,out,ho')):ho'=ho:=by
 unfold eff at h
 split at h
 ·rename_i r hm
  injection h with h
  subst h
  exact afx T hr hm
 ·split at h
  ·rename_i r hj
   injection h with h
   subst h
   unfold afy at hj
   repeat' split at hj
   all_goals first | (cases hj; done) | (simp only [Option.some.injEq,Prod.mk.injEq] at hj; exact hj.2.2.symm)
  ·exact afz hr h
theorem zt {op:Op} {vals:List AV} {vs:List Value} {fresh k:Nat} (ht:bR T op vals fresh=some k) (hr:RAs c vals vs) (hf:fresh<c.heap.length):k<c.heap.length:=by
 have boxlt : ∀ {k off:Nat} {v:Value},RA c (.box k off) [v]→k<c.heap.length:=fun h=>by obtain ⟨cells,h,_⟩:=h; exact aE h
 have ownlt : ∀ {k n:Nat} {t:Ty} {l:List t.den} {v:Value},RA c (.own k n t l) [v]→k<c.heap.length:=fun h=>by obtain ⟨s,_,_,t',e',v',h,_⟩:=h; exact aE h
 have mat : ∀ {k v:Nat} {Q:Ty→Prop},ql c k v Q→k<c.heap.length:=fun h=>by
  rcases h with ⟨_,_,_,_,h,_⟩ | h <;> exact aE h
 have msllt : ∀ {k n lo hi:Nat} {v:Value},RA c (.msl k n lo hi) [v]→k<c.heap.length:=fun h=>by obtain ⟨s,_,_,h⟩:=h; exact mat h
 have mptlt : ∀ {k n i off:Nat} {v:Value},RA c (.mpt k n i off) [v]→k<c.heap.length:=fun h=>by obtain ⟨s,_,_,h⟩:=h; exact mat h
 unfold bR at ht
 repeat' split at ht
 all_goals first | (cases ht; done) | (simp only [Option.some.injEq] at ht; omega) | skip
 all_goals
  simp only [Option.some.injEq] at ht
  subst ht
  first
   | (match vs,hr with
    | v::_,⟨h1,_⟩=>first | exact boxlt h1 | exact ownlt h1 | exact msllt h1 | exact mptlt h1)
   | (match vs,hr with
    | _::v::_,⟨_,h1,_⟩=>first | exact boxlt h1 | exact ownlt h1)
theorem GL {α:Type} {l:List α} {k:Nat} {d:α} (h:k<l.length):l[k]? = some (l.getD k d):=by
 rw [List.getElem?_eq_getElem h]
 simp [List.getD,List.getElem?_eq_getElem h]
theorem B8 {ro:Option Nat} {n:Nat} (tk:TabOk P tab) (ts:SpecsOk P T) {ops:Array Oper} {i fresh:Nat} (hi:ops[i]? = some o) {d:Dl} (hd:ua tab T ops.toList fresh o σ=some d) (hc:d.chk=true) (hf:fresh<σ.heap.length) (hnd:x9 ro o)
  (hr:Rel fs lo B w0 St0 σ a w) {Q:Exit→Act→World→Prop} {K:Act→World→Prop} (hK : ∀ a' w',Rel fs lo B w0 St0 (d.app σ) a' w'→K a' w'):wpOpIn (RF ro) n P ops Q i K a w:=by
 obtain ⟨c,w1,rfl,hh,hI,hE,hdf,hfs⟩:=hr
 have hdefs : ∀ v,ng B w0 w1 (a.put o.dst v).defers:=fun v=>hdf.put o.dst v
 have hraw:RAs c (cX σ.env o) (o.op.operands.toList.map a.eval):=sI hE o.op.operands.toList
 unfold wpOpIn
 simp only [hi]
 unfold ua at hd
 split at hd
 ·rename_i g hg
  unfold gOf at hg
  cases hgd:o.guard with
  | none =>
   simp only [hgd,Option.some.injEq] at hg
   subst hg
   have hw:Region.wanted o (yielded ops a.tmps)=true:=by simp [Region.wanted,hgd]
   rw [if_pos hw]
   refine MV hnd ?_
   simp only [Ta,kO] at hd
   split at hd
   ·rename_i cb out ho' he
    simp only [Option.some.injEq] at hd
    subst hd
    simp only at hc
    subst hc
    have hho : ∀ k,bR T o.op (cX σ.env o) fresh=some k→c.heap[k]? = some (NB σ.heap (bR T o.op (cX σ.env o) fresh)):=fun k hk=>by
     have:=zt hk hraw (by rw [hh]; exact hf)
     rw [hk]
     simp only [NB]
     rw [hh] at this ⊢
     exact GL this
    refine G0 tk ts hI rfl hraw hho he K Q (fun v c' h1 h2 h3 h4=>hK _ _ ⟨c',w1,rfl, ?_,h2,hY (σ:=⟨σ.env,c'.heap⟩) (hE.mono h3) h4,hdefs v,fun fr hfr=>⟨(hfs fr hfr).1.mono h3,(hfs fr hfr).2⟩⟩)
    rw [h1]
    simp only [Dl.app,Cj,aR]
    cases hrd:dc T o.op with
    | true =>
     have:=abK hrd he
     subst this
     simp only [if_true]
     cases htch:bR T o.op (cX σ.env o) fresh with
     | none=>simp only; exact hh
     | some k =>
      have h5:=hho k htch
      simp only [htch] at h5 ⊢
      rw [eE h5]
      exact hh
    | false =>
     simp only [Bool.false_eq_true,if_false]
     cases htch:bR T o.op (cX σ.env o) fresh with
     | none=>simp only; exact hh
     | some k=>simp only [hh]
   ·cases hd
  | some jw =>
   obtain ⟨j,want⟩:=jw
   simp only [hgd] at hg
   split at hg
   ·rename_i gb hgb
    simp only [Option.some.injEq] at hg
    subst hg
    have hwant:Region.wanted o (yielded ops a.tmps)=gb:=by
     unfold xg at hgb
     split at hgb
     ·rename_i dd hdd
      have hval : ∀ u,σ.env.getD dd .unk=u→u ≠ .unk → ∃ v,a.tmps[dd]? = some v∧RA c u [v]:=fun u hu hne=>by
       rcases Nat.lt_or_ge dd σ.env.length with hlt | hge
       ·obtain ⟨v,hv,hr⟩:=hE.get dd σ.env[dd] (List.getElem?_eq_getElem hlt)
        have:σ.env.getD dd .unk=σ.env[dd]:=by simp [List.getD,List.getElem?_eq_getElem hlt]
        exact ⟨v,by simpa using hv,by rw [← hu,this]; exact hr⟩
       ·exact (hne (by rw [← hu]; simp [List.getD,List.getElem?_eq_none hge])).elim
      have hyd:yielded ops a.tmps j=match a.tmps[dd]? with | some (.bool b)=>some b | _=>none:=by
       have hdd:(ops[j]?).bind (·.dst)=some dd:=by simpa using hdd
       unfold yielded
       rw [hdd]
       rfl
      simp only [Region.wanted,hgd,hyd]
      split at hgb
      ·rename_i b hb
       obtain ⟨v,hv,hr⟩:=hval _ hb (by simp)
       have:=eI hr.val_inv
       subst this
       simp only [Option.some.injEq] at hgb
       subst hgb
       rw [hv]
       cases want <;> cases b <;> rfl
      ·rename_i cc b hb
       obtain ⟨v,hv,hr⟩:=hval _ hb (by simp)
       simp only [Option.some.injEq] at hgb
       subst hgb
       rw [hv]
       simp only [RA] at hr
       cases cc with
       | true =>
        simp only [if_true] at hr
        have:=eI (RA.val_inv (c:=c) hr)
        subst this
        cases want <;> cases b <;> rfl
       | false =>
        simp only [Bool.false_eq_true,if_false,List.cons.injEq,and_true] at hr
        subst hr
        rfl
      ·cases hgb
     ·cases hgb
    simp only [Ta] at hd
    split at hd
    ·rename_i hrd
     split at hd
     ·rename_i cb out ho' he
      simp only [Option.some.injEq] at hd
      subst hd
      simp only [Bool.and_eq_true] at hc
      rw [hwant]
      cases hgt:gb with
      | false =>
       simp only [Bool.false_eq_true,if_false]
       refine ⟨fun _ _=>trivial, ?_⟩
       refine hK _ _ ⟨c,w1,rfl, ?_,hI,hY hE ?_,hdefs _,hfs⟩
       ·simpa [Dl.app,Cj] using hh
       ·simp [RA,hgt]
      | true =>
       simp only [if_true]
       refine MV hnd ?_
       subst hgt
       have hs:=tZ (op:=o.op) rfl hc.1 hraw
       have hc2:cb=true:=by simpa [nM] using hc.2
       subst hc2
       simp only [kO] at he
       have hho : ∀ k,bR T o.op (gu o.op true (cX σ.env o)).2 fresh=some k→c.heap[k]? = some (NB σ.heap (bR T o.op (gu o.op true (cX σ.env o)).2 fresh)):=fun k hk=>by
        have:=zt hk hs (by rw [hh]; exact hf)
        rw [hk]
        simp only [NB]
        rw [hh] at this ⊢
        exact GL this
       refine G0 tk ts hI rfl hs hho he K Q (fun v c' h1 h2 h3 h4=>hK _ _ ⟨c',w1,rfl, ?_,h2,hY (σ:=⟨σ.env,c'.heap⟩) (hE.mono h3) (by simpa [RA] using h4),hdefs v,fun fr hfr=>⟨(hfs fr hfr).1.mono h3,(hfs fr hfr).2⟩⟩)
       rw [h1]
       have:=abK hrd he
       subst this
       simp only [Dl.app,Cj,aR]
       cases htch:bR T o.op (gu o.op true (cX σ.env o)).2 fresh with
       | none=>simp only; exact hh
       | some k =>
        have h5:=hho k htch
        simp only [htch] at h5 ⊢
        rw [eE h5]
        exact hh
     ·cases hd
    ·split at hd
     ·rename_i out he
      simp only [Option.some.injEq] at hd
      subst hd
      simp only at hc
      rw [hwant]
      cases hgt:gb with
      | false =>
       simp only [Bool.false_eq_true,if_false]
       refine ⟨fun _ _=>trivial, ?_⟩
       refine hK _ _ ⟨c,w1,rfl, ?_,hI,hY hE ?_,hdefs _,hfs⟩
       ·simpa [Dl.app,Cj] using hh
       ·simp [RA,hgt]
      | true =>
       simp only [if_true]
       refine MV hnd ?_
       subst hgt
       have hs:=tZ (op:=o.op) rfl hc hraw
       refine Sq tk hI hs he K Q (fun v c' h1 h2 h3 h4=>hK _ _ ⟨c',w1,rfl, ?_,h2,hY (σ:=⟨σ.env,c'.heap⟩) (hE.mono h3) (by simpa [RA] using h4),hdefs v,fun fr hfr=>⟨(hfs fr hfr).1.mono h3,(hfs fr hfr).2⟩⟩)
       rw [h1]
       exact hh
     ·cases hd
   ·cases hg
 ·cases hd
end
end Go.Proofs.YtboikinjlmjgjaaGreat.Abs
