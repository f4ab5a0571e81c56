/- Regions are sound: in the text's order. -/
import Derived.Test.YtboikinjlmjgjaaGreatAbsT
namespace Go.Proofs.YtboikinjlmjgjaaGreat.Abs
open Go Go.RowKit
theorem RA.under {c:Gh} : ∀ {a:AV} {vs:List Value},RA c a vs→a.noCond=true→a.under c.heap.length=true
 | .unk,_,_,_=>rfl
 | .val _ _,_,_,_=>rfl
 | .nil,_,_,_=>rfl
 | .own k v t l,_,⟨s,_,_,t',e',v',h,_⟩,_=>by simpa [AV.under] using aE h
 | .ref _ _,_,_,_=>rfl
 | .box k off,_,⟨cells,h,_⟩,_=>by simpa [AV.under] using aE h
 | .fn f caps,_,⟨cs,_,r,_⟩,h=>RA.under (a:=caps) r h
 | .agg p,_,⟨cs,_,r,_⟩,h=>RA.under (a:=p) r h
 | .tup p,_,⟨cs,_,r,_⟩,h=>RA.under (a:=p) r h
 | .pnil,_,_,_=>rfl
 | .pcons a b,_,⟨v,r,_,ha,hb⟩,h=>by
  simp only [AV.noCond,Bool.and_eq_true] at h
  simp only [AV.under,Bool.and_eq_true]
  exact ⟨RA.under ha h.1,RA.under hb h.2⟩
 | .msl k v lo hi,_,⟨s,_,_,m⟩,_=>by
  simp only [AV.under,decide_eq_true_eq]
  rcases m with ⟨_,_,_,_,h,_⟩ | h <;> exact aE h
 | .yld j,_,⟨h,_⟩,_=>by simpa [AV.under] using aE h
 | .fix _ _,_,_,_=>rfl
 | .mpt k v i off,_,⟨s,_,_,m⟩,_=>by
  simp only [AV.under,decide_eq_true_eq]
  rcases m with ⟨_,_,_,_,h,_⟩ | h <;> exact aE h
theorem RAs.under {c:Gh} : ∀ {l:List AV} {vs:List Value},RAs c l vs→l.all AV.noCond=true→l.all (AV.under c.heap.length)=true
 | [],[],_,_=>rfl
 | a::l,v::vs,⟨r,rs⟩,h=>by
  simp only [List.all_cons,Bool.and_eq_true] at h ⊢
  exact ⟨r.under h.1,rs.under h.2⟩
theorem fE {n m:Nat} (h:n≤m) : ∀ {a:AV},a.under n=true→a.under m=true
 | .unk,_=>rfl
 | .val _ _,_=>rfl
 | .nil,_=>rfl
 | .own k _ _ _,x=>by simp only [AV.under,decide_eq_true_eq] at *; omega
 | .ref _ _,_=>rfl
 | .box k _,x=>by simp only [AV.under,decide_eq_true_eq] at *; omega
 | .fn _ c,x=>fE h (a:=c) x
 | .agg p,x=>fE h (a:=p) x
 | .tup p,x=>fE h (a:=p) x
 | .pnil,_=>rfl
 | .pcons a b,x=>by simp only [AV.under,Bool.and_eq_true] at *; exact ⟨fE h x.1,fE h x.2⟩
 | .cond _ a,x=>fE h (a:=a) x
 | .msl k _ _ _,x=>by simp only [AV.under,decide_eq_true_eq] at *; omega
 | .yld k,x=>by simp only [AV.under,decide_eq_true_eq] at *; omega
 | .fix _ _,_=>rfl
 | .mpt k _ _ _,x=>by simp only [AV.under,decide_eq_true_eq] at *; omega
theorem so {n m:Nat} (h:n≤m) {l:List AV} (x:l.all (AV.under n)=true):l.all (AV.under m)=true:=by
 rw [List.all_eq_true] at *
 exact fun a ha=>fE h (x a ha)
structure Lq where
 j:Nat
 l:Nat
 env:List AV
 tmps:List Value
 lrec:Loop
def Ctx (Γ:List Lq) (fs:List (List AV×List Value)) (B:Bd) (w0:World):Prop :=
 ∀ q∈Γ,(q.env++[.yld q.j],q.tmps++[.func (.yield q.l) #[] #[]])∈fs∧B≤q.l∧w0.heap[q.l]? = some (.loop q.lrec)
theorem Ctx.more {Γ:List Lq} {fs fs':List (List AV×List Value)} {B:Bd} {w0 w1:World} (h:Ctx Γ fs B w0) (hf : ∀ fr∈fs,fr∈fs') (ho:Og B.F w0 w1):Ctx Γ fs' B w1:=fun q hq =>
 ⟨hf _ (h q hq).1,(h q hq).2.1,ho.keep _ _ (h q hq).2.2 rfl⟩
def ajV (fs:List (List AV×List Value)) (B:Bd) (w0:World) (St0:Sb) (hl:Nat) (k:AV→List HO→Option AV) (r:AV):Ending→World→Prop:=fun e w' =>
 ∃ v out c',e = .returned v∧k out c'.heap=some r∧c'.w=w'∧Inv B w0 St0 c'∧RA c' out [v]∧hl≤c'.heap.length ∧ ∀ fr∈fs,RAs c' fr.1 fr.2
def agN (P:Program) (t:Tgt) (c:Gh) (vs:List Value) (R:Ending→World→Prop):Prop :=
 match t with
 | .fn f=>dj P f∧Calls P f vs.toArray c.w R
 | .yld j => ∀ l,RA c (.yld j) [.func (.yield l) #[] #[]] → ∀ (ro:Option Nat) (n:Nat),∃ f tmps assign body,(Instr.yield l vs.toArray).run P c.w = .ok (.round l f tmps assign body) c.w∧RoundIn (RF ro) n P l f tmps assign body c.w R
def SS (P:Program) (call:Ck) (Γ:List Lq):Prop := ∀ t args heap k r,call t args heap k=some r →
 ∀ (fs:List (List AV×List Value)) (B:Bd) (w0:World) (St0:Sb) (c:Gh),Inv B w0 St0 c→c.heap=heap → ∀ vs,RAs c args vs→(∀ fr∈fs,RAs c fr.1 fr.2∧fr.1.all (AV.under heap.length)=true)→Ctx Γ fs B w0 →
  agN P t c vs (ajV fs B w0 St0 heap.length k r)
def ajR (P:Program) (yk:Yk) (Γ:List Lq):Prop := ∀ j args heap k r,yk j args heap k=some r →
 ∀ (fs:List (List AV×List Value)) (B:Bd) (w0:World) (St0:Sb) (c:Gh),Inv B w0 St0 c→c.heap=heap → ∀ vs,RAs c args vs→(∀ fr∈fs,RAs c fr.1 fr.2∧fr.1.all (AV.under heap.length)=true)→Ctx Γ fs B w0 →
  agN P (.yld j) c vs (ajV fs B w0 St0 heap.length k r)
structure CkOk (P:Program) (ck:Callk) (Γ:List Lq):Prop where
 call:SS P ck.call Γ
 iter : ∀ yk' Γ',ajR P yk' Γ'→SS P (ck.iter yk') Γ'
section
variable {P:Program} {tab:Tab} {T:Specs} {ck:Callk} {B:Bd} {lo:Nat} {w0:World} {St0:Sb} {a:Act} {fs:List (List AV×List Value)} {σ:Sg} {w:World} {Γ:List Lq}
theorem MG (env:List AV) (dst:Option Nat) (u:AV):(gV env dst u).length=env.length:=by cases dst <;> simp [gV]
theorem qH (heap:List HO) (wr:Option (Nat×HO)):(Cj heap wr).length=heap.length:=by
 cases wr with
 | none=>rfl
 | some p=>obtain ⟨k,ho⟩:=p; simp [Cj]
def AA (fs:List (List AV×List Value)) (lo:Nat) (B:Bd) (w0:World) (St0:Sb) (hn:Nat) (k:Sg→Option AV) (r:AV):Exit→Act→World→Prop
 | .normal,a,w => ∃ σ',k σ'=some r∧Rel fs lo B w0 St0 σ' a w∧hn≤σ'.heap.length
 | _,_,_=>False
theorem At {ro:Option Nat} {n:Nat} (ckok:CkOk P ck Γ) (hcx:Ctx Γ fs B w0) {ops:Array Oper} {i:Nat} {o:Oper} (hi:ops[i]? = some o) {t:Tgt} {args:List AV} (he:Ky o σ.env=some (t,args)) {k:AV→List HO→Option AV} {r:AV} (hck:ck.call t args σ.heap k=some r)
  (hlo:lo≤σ.heap.length) (hnd:x9 ro o) (hr:Rel fs lo B w0 St0 σ a w) {Q:Exit→Act→World→Prop} {K:Act→World→Prop}
  (hK : ∀ out heap' a' w',k out heap'=some r→σ.heap.length≤heap'.length→Rel fs lo B w0 St0 ⟨gV σ.env o.dst out,heap'⟩ a' w'→K a' w'):wpOpIn (RF ro) n P ops Q i K a w:=by
 obtain ⟨c,w1,rfl,hh,hI,hE,hdf,hfs⟩:=hr
 have hcx':Ctx Γ ((σ.env,a.tmps.toList)::fs) B w1:=hcx.more (fun fr h=>List.mem_cons_of_mem _ h) hdf.2.1
 have post : ∀ v w',ajV ((σ.env,a.tmps.toList)::fs) B w1 St0 σ.heap.length k r (.returned v) w'→K (a.put o.dst v) w':=by
  rintro v w' ⟨v',out,c',e,hk,rfl,hI',hR',hle,hfs'⟩
  injection e with e
  subst e
  exact hK out c'.heap _ _ hk hle ⟨c',w1,rfl,rfl,hI',hY (σ:=⟨σ.env,c'.heap⟩) (hfs' (σ.env,a.tmps.toList) (by simp)) hR',hdf.put o.dst v,fun fr hfr=>⟨hfs' fr (by simp [hfr]),(hfs fr hfr).2⟩⟩
 have frames:σ.env.all AV.noCond=true → ∀ fr∈(σ.env,a.tmps.toList)::fs,RAs c fr.1 fr.2∧fr.1.all (AV.under σ.heap.length)=true:=fun hnc fr hfr=>by
  rcases List.mem_cons.1 hfr with rfl | hfr
  ·exact ⟨hE,by rw [← hh]; exact hE.under hnc⟩
  ·exact ⟨(hfs fr hfr).1,so hlo (hfs fr hfr).2⟩
 have hv:RAs c (cX σ.env o) (o.op.operands.toList.map a.eval):=sI hE o.op.operands.toList
 unfold Ky at he
 split at he
 ·rename_i cl hop hgd
  have hw:Region.wanted o (yielded ops a.tmps)=true:=by simp [Region.wanted,hgd]
  split at he
  ·rename_i x f' caps args' hcl hraw
   split at he
   ·rename_i hnc
    simp only [Option.some.injEq,Prod.mk.injEq] at he
    obtain ⟨rfl,rfl⟩:=he
    rw [hraw,hop] at hv
    have hv:RAs c (.fn f' caps::args') (a.eval x::cl.args.toList.map a.eval):=by simpa [Op.operands,Call.operands,hcl] using hv
    obtain ⟨hfn,hargs⟩:=hv
    obtain ⟨cs,e,hcs,hch⟩:=hfn
    simp only [List.cons.injEq,and_true] at e
    obtain ⟨⟨fn,f1,f2,f3⟩,hcalls⟩:=ckok.call _ _ _ _ _ hck ((σ.env,a.tmps.toList)::fs) B w1 St0 c hI hh _ (hargs.append (hcs.parts hch)) (frames hnc) hcx'
    have hbody : ¬ fn.body=none:=by cases hb:fn.body <;> simp_all
    have f3 : ¬ fn.name = "runtime.NumGoroutine" := by simpa using f3
    have hrun:(execOp a.eval o).run P c.w = .ok (.enter f' (cl.args.toList.map a.eval++cs).toArray) c.w:=by
     have e2:cl.args.map a.eval++cs.toArray=(cl.args.toList.map a.eval++cs).toArray:=Array.ext' (by simp)
     unfold execOp
     simp only [hop,resolve,hcl,e,Deferred.ofValue,Sem.run_bind,Sem.run_pure,Result.andThen_ok,invoke,callFunc,run_program,f1,Array.empty_append,e2]
     simp [f3,hbody]
    unfold wpOpIn
    simp only [hi]
    rw [if_pos hw]
    refine MV hnd ?_
    unfold Oper.wp
    rw [hrun]
    refine hcalls.mono ?_
    rintro e w' h
    obtain ⟨v,_,_,rfl,_⟩:=id h
    exact post v w' h
   ·cases he
  ·rename_i x j args' hcl hraw
   split at he
   ·rename_i hnc
    simp only [Option.some.injEq,Prod.mk.injEq] at he
    obtain ⟨rfl,rfl⟩:=he
    rw [hraw,hop] at hv
    have hv:RAs c (.yld j::args') (a.eval x::cl.args.toList.map a.eval):=by simpa [Op.operands,Call.operands,hcl] using hv
    obtain ⟨hfn,hargs⟩:=hv
    have hfn':=hfn
    obtain ⟨_,e⟩:=hfn
    simp only [List.cons.injEq,and_true] at e
    rw [e] at hfn'
    obtain ⟨f,tmps,assign,body,hy,hround⟩:=ckok.call _ _ _ _ _ hck ((σ.env,a.tmps.toList)::fs) B w1 St0 c hI hh _ hargs (frames hnc) hcx' _ hfn' ro (n-1)
    have hrun:(execOp a.eval o).run P c.w = .ok (.round (c.lp j) f tmps assign body) c.w:=by
     have e2:cl.args.map a.eval=(cl.args.toList.map a.eval).toArray:=Array.ext' (by simp)
     unfold execOp
     simp only [hop,resolve,hcl,e,Deferred.ofValue,Sem.run_bind,Sem.run_pure,Result.andThen_ok,invoke,Array.empty_append,e2,hy]
    unfold wpOpIn
    simp only [hi]
    rw [if_pos hw]
    refine ⟨fun _ _=>trivial, ?_⟩
    have es:o.semAt (RF ro).round a.eval=execOp a.eval o:=by
     rcases hnd with rfl | hd
     ·rfl
     ·exact Oper.semAt_eq _ _ _ hd
    rw [es,hrun,Oper.uponIn_round]
    refine ⟨(fun q=>by cases q),hround.mono ?_⟩
    rintro e w' h
    obtain ⟨v,_,_,rfl,_⟩:=id h
    exact post v w' h
   ·cases he
  ·cases he
 ·cases he
theorem zO {ro:Option Nat} {n:Nat} (tk:TabOk P tab) {ops:Array Oper} {i fresh:Nat} {o:Oper} (hi:ops[i]? = some o) {out:AV} {heap':List HO} (h:M5 tab o σ fresh=some (true,out,heap')) (hnd:x9 ro o)
  (hr:Rel fs lo B w0 St0 σ a w) {Q:Exit→Act→World→Prop} {K:Act→World→Prop} (hK : ∀ a' w',heap'.length=σ.heap.length→Rel fs lo B w0 St0 ⟨gV σ.env o.dst out,heap'⟩ a' w'→K a' w'):wpOpIn (RF ro) n P ops Q i K a w:=by
 obtain ⟨c,w1,rfl,hh,hI,hE,hdf,hfs⟩:=hr
 have hdefs : ∀ v,ng B w0 w1 (a.put o.dst v).defers:=fun v=>hdf.put o.dst v
 obtain ⟨hgd,hlen,hok⟩:=YO (P:=P) tk hI hh hE h
 unfold wpOpIn
 simp only [hi]
 have hw:Region.wanted o (yielded ops a.tmps)=true:=by simp [Region.wanted,hgd]
 rw [if_pos hw]
 refine MV hnd ?_
 exact hok K Q (fun v c' h1 h2 h3 h4=>hK _ _ hlen ⟨c',w1,rfl,h1,h2,hY (σ:=⟨σ.env,c'.heap⟩) (hE.mono h3) h4,hdefs v,fun fr hfr=>⟨(hfs fr hfr).1.mono h3,(hfs fr hfr).2⟩⟩)
theorem jH {ro:Option Nat} {n:Nat} (tk:TabOk P tab) (ts:SpecsOk P T) (ckok:CkOk P ck Γ) (hcx:Ctx Γ fs B w0) {ops:Array Oper} (hnd : ∀ o∈ops.toList,x9 ro o) {base:Nat} {k:Sg→Option AV} {r:AV} : ∀ (l:List Oper) (i:Nat) (σ:Sg) (a:Act) (w:World),ops.toList.drop i=l→base+ops.size≤σ.heap.length→lo≤σ.heap.length →
  dq tab T ck ops.toList base i l σ k=some r→Rel fs lo B w0 St0 σ a w→wpOpsIn (RF ro) n P ops (AA fs lo B w0 St0 (base+ops.size) k r) (List.range' i (ops.size-i)) a w
 | [],i,σ,a,w,hd,hb,hlo,h,hr=>by
  have hsz:ops.size-i=0:=by
   have:=congrArg List.length hd
   simpa using this
  rw [hsz]
  exact ⟨σ,h,hr,hb⟩
 | o::l,i,σ,a,w,hd,hb,hlo,h,hr=>by
  have hlt:i<ops.size:=by
   have:=congrArg List.length hd
   simp at this
   omega
  have hoi:ops[i]? = some o:=by
   have:(ops.toList.drop i)[0]? = some o:=by rw [hd]; rfl
   rw [List.getElem?_drop] at this
   simpa using this
  have hd':ops.toList.drop (i+1)=l:=by
   rw [← List.drop_drop,hd]
   rfl
  have hno:x9 ro o:=hnd o (Array.mem_toList_iff.2 (Array.mem_of_getElem? hoi))
  rw [show ops.size-i=(ops.size-(i+1))+1 by omega,List.range'_succ,wpOpsIn_cons]
  simp only [dq] at h
  split at h
  ·rename_i d hstep
   cases hc:d.chk with
   | false=>rw [hc] at h; cases h
   | true =>
    rw [hc] at h
    exact B8 tk ts hoi hstep hc (by omega) hno hr fun a' w' hr'=>jH tk ts ckok hcx hnd l (i+1) (d.app σ) a' w' hd' (by simpa [Dl.app,qH] using hb) (by simpa [Dl.app,qH] using hlo) h hr'
  ·split at h
   ·rename_i b out heap' hm
    cases b with
    | false=>cases h
    | true=>exact zO tk hoi hm hno hr fun a' w' hl hr'=>jH tk ts ckok hcx hnd l (i+1) ⟨gV σ.env o.dst out,heap'⟩ a' w' hd' (by simpa [hl] using hb) (by simpa [hl] using hlo) h hr'
   split at h
   ·rename_i f args he
    exact At ckok hcx hoi he h hlo hno hr fun out heap' a' w' hk hle hr'=>jH tk ts ckok hcx hnd l (i+1) ⟨gV σ.env o.dst out,heap'⟩ a' w' hd' (Nat.le_trans hb hle) (Nat.le_trans hlo hle) hk hr'
   ·cases h
theorem WZ {c:Gh} {u:AV} {v:Value} (h:RA c u [v]):RA c (clr u) [v]:=by
 cases u with
 | cond _ _=>exact ⟨_,rfl⟩
 | _=>exact h
theorem EA {c:Gh} : ∀ {l:List AV} {vs:List Value},RAs c l vs→RAs c (l.map clr) vs
 | [],[],_=>trivial
 | _::_,_::_,⟨a,b⟩=>⟨WZ a,EA b⟩
theorem Rel.clr (h:Rel fs lo B w0 St0 σ a w):Rel fs lo B w0 St0 ⟨σ.env.map Abs.clr,σ.heap⟩ a w:=by
 obtain ⟨c,w1,hw,hh,hI,hE,r⟩:=h
 exact ⟨c,w1,hw,hh,hI,EA hE,r⟩
theorem Rel.more (h:Rel fs lo B w0 St0 σ a w) (n:Nat):Rel fs lo B w0 St0 ⟨σ.env,σ.heap++List.replicate n .none⟩ a w:=by
 obtain ⟨c,w1,hw,hh,hI,hE,hdf,hfs⟩:=h
 have hget : ∀ (k:Nat) (x:HO),(c.heap++List.replicate n HO.none)[k]? = some x→x≠HO.none→c.heap[k]? = some x:=by
  intro k x hx hne
  rcases Nat.lt_or_ge k c.heap.length with hlt | hge
  ·rwa [List.getElem?_append_left hlt] at hx
  ·rw [List.getElem?_append_right hge,List.getElem?_replicate] at hx
   split at hx
   ·exact (hne (Option.some.inj hx).symm).elim
   ·cases hx
 have hget' : ∀ (k:Nat) (x:HO),c.heap[k]? = some x→(c.heap++List.replicate n HO.none)[k]? = some x:=fun k x hx=>by
  rw [List.getElem?_append_left (aE hx)]; exact hx
 let c':Gh:={ c with heap:=c.heap++List.replicate n .none }
 have ev:Ev c c':=⟨Sb.le.refl _,fun _ _ _ _ x=>x,fun k cells x=>⟨cells,hget' k _ x,rfl⟩,fun k t e v x=>⟨t,e,v,hget' k _ x,Nat.le_refl _,fun _=>rfl⟩,fun k t e v l x => .inl ⟨v,l,hget' k _ x,Nat.le_refl _,fun _=>rfl⟩,fun k x=>hget' k _ x,fun _ _=>rfl⟩
 have hob : ∀ k,obk c' k=obk c k:=fun k=>by
  unfold obk
  cases hk:c.heap[k]? with
  | some x=>rw [show c'.heap[k]? = some x from hget' k x hk]
  | none =>
   have:c'.heap[k]? = none∨c'.heap[k]? = some .none:=by
    cases hk':c'.heap[k]? with
    | none=>exact .inl rfl
    | some x =>
     refine .inr ?_
     cases x with
     | none=>rfl
     | box cells=>have:=hget k _ hk' (by simp); rw [hk] at this; cases this
     | row t e v=>have:=hget k _ hk' (by simp); rw [hk] at this; cases this
     | mrow t e v l=>have:=hget k _ hk' (by simp); rw [hk] at this; cases this
     | dead=>have:=hget k _ hk' (by simp); rw [hk] at this; cases this
   rcases this with h | h <;> rw [h]
 refine ⟨c',w1,hw,by simp [c',hh],⟨hI.below,hI.size,hI.bnd,hI.st0,hI.stN,fun k cells x => ?_,fun k t e v x=>hI.row k t e v (hget k _ x (by simp)),fun k k' b hne h1 h2 => ?_,fun k t e v l x=>hI.mrow k t e v l (hget k _ x (by simp)),hI.drawn,fun k b hb=>hI.fo k b (by rw [hob] at hb; exact hb),hI.fl,hI.j0,fun b e cap n x=>(hI.junk b e cap n x).imp id fun q=>q.keep rfl (fun _ y=>y) fun k y=>by rw [hob] at y; exact y⟩,hE.mono ev,hdf,fun fr hfr=>⟨(hfs fr hfr).1.mono ev,(hfs fr hfr).2⟩⟩
 ·obtain ⟨arr,t,h1,h2,h3,h4⟩:=hI.box k cells (hget k _ x (by simp))
  exact ⟨arr,t,h1,h2,h3,h4.mono ev⟩
 ·rw [hob] at h1 h2
  exact hI.sep k k' b hne h1 h2
theorem Rel.drewW (h:Rel fs lo B w0 St0 σ a w):Rel fs lo B w0 St0 σ a { w with drawn:=w.drawn+1 }:=by
 obtain ⟨c,w1,rfl,hh,hI,hE,hdf,hfs⟩:=h
 obtain ⟨h1,e1⟩:=hI.drew
 exact ⟨{ c with w:=c.w.drew },w1,rfl,hh,h1,hE.mono e1,hdf,fun fr hfr=>⟨(hfs fr hfr).1.mono e1,(hfs fr hfr).2⟩⟩
end
end Go.Proofs.YtboikinjlmjgjaaGreat.Abs
