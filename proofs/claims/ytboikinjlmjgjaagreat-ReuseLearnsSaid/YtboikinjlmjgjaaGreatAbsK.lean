/- Calls by contract; 'eff' is sound. -/
import Derived.Test.YtboikinjlmjgjaaGreatAbs2
namespace Go.Proofs.YtboikinjlmjgjaaGreat.Abs
open Go Go.RowKit
def x8 (w:World) (St:Sb):List ((t:Ty)×t.den)→List Value→Prop
 | [],[]=>True
 | d::l,v::vs=>cE w St d.1 d.2 v∧x8 w St l vs
 | _,_=>False
def zm:List AV→List ((t:Ty)×t.den)→Prop
 | [],[]=>True
 | a::l,d::r=>dat? d.1 a=some d.2∧zm l r
 | _,_=>False
def dj (P:Program) (f:FuncId):Prop := ∃ fn,P.funcs[f]? = some fn∧fn.body.isSome=true∧(fn.name == "runtime.NumGoroutine")=false
def bj (w:World) (St:Sb):Gh:=⟨[],St,fun _=>0,fun _=>undef,w,fun _=>0⟩
def SP (w:World) (St:Sb) (res:AV):Ending→World→Prop:=fun e w' =>
 ∃ v St',e = .returned v∧Below w.heap.size w w'∧w.drawn≤w'.drawn∧St.le St'∧(∀ b o,St' b o→St b o∨(w.heap.size≤b∧b<w'.heap.size))∧(∀ b e cap n,St'.j b e cap n→St.j b e cap n∨NJ w.heap.size w' St' b e cap n)∧RA (bj w' St') res [v]
def nB (P:Program) (f:FuncId) (ds:List ((t:Ty)×t.den)) (res:AV):Prop :=
 dj P f ∧ ∀ w St,(∀ b o,St b o→b<w.heap.size) → ∀ vs,x8 w St ds vs→Calls P f vs.toArray w (SP w St res)
def ES (P:Program) (f:FuncId) (args:List AV) (res:AV):Prop :=
 ∃ R:World→Sb→List Value→Prop,(∀ c vs,RAs c args vs→R c.w c.St vs)∧dj P f ∧ ∀ w St,(∀ b o,St b o→b<w.heap.size) → ∀ vs,R w St vs→Calls P f vs.toArray w (SP w St res)
def Uz (P:Program) (f:FuncId) (cells aL:List AV) (res:AV):Prop :=
 dj P f ∧ ∀ (c:Gh) (blk:Nat) (arr:Array Value) (t:TypeId) (vs:List Value),c.w.heap[blk]? = some (.cells arr t (0,0))→RAs c cells arr.toList→(∀ b o,c.St b o→b<c.w.heap.size)→RAs c aL vs →
  Calls P f (.pointer (some ⟨blk,0,none⟩)::vs).toArray c.w fun e w' => ∃ v,e = .returned v∧Below c.w.heap.size c.w w'∧c.w.drawn≤w'.drawn ∧ ∀ c',RA c' res [v]
def Uy (P:Program) (f:FuncId) (cells aL cells':List AV) (res:AV):Prop :=
 dj P f ∧ ∀ (B:Bd) (w0:World) (St0:Sb) (c:Gh),Inv B w0 St0 c → ∀ (k:Nat),c.heap[k]? = some (.box cells) → ∀ vs,RAs c (.box k 0::aL) vs →
  Calls P f vs.toArray c.w fun e w' => ∃ v c',e = .returned v∧c'.heap=c.heap.set k (.box cells')∧c'.w=w'∧Inv B w0 St0 c'∧Ev c c'∧RA c' res [v]
def agc (P:Program) (f:FuncId) (t:Ty) (e:TypeId) (l:List t.den) (aL:List AV) (l':List t.den):Prop :=
 dj P f ∧ ∀ (B:Bd) (w0:World) (St0:Sb) (c:Gh),Inv B w0 St0 c → ∀ (k v:Nat),c.heap[k]? = some (.row t e v) → ∀ vs,RAs c (.own k v t l::aL) vs →
  Calls P f vs.toArray c.w fun en w' => ∃ r c',en = .returned r∧c'.heap=c.heap.set k (.row t e (v+1))∧c'.w=w'∧Inv B w0 St0 c'∧Ev c c'∧RA c' (.own k (v+1) t l') [r]
def ajT (P:Program) (f:FuncId) (t:Ty) (e:TypeId) (args:List AV) (l':List t.den):Prop :=
 dj P f ∧ ∀ (B:Bd) (w0:World) (St0:Sb) (c:Gh),Inv B w0 St0 c → ∀ (k v:Nat),c.heap[k]? = some (.row t e v) → ∀ vs,RAs c args vs →
  Calls P f vs.toArray c.w fun en w' => ∃ r c',en = .returned r∧c'.heap=c.heap.set k (.row t e (v+1))∧c'.w=w'∧Inv B w0 St0 c'∧Ev c c'∧RA c' (.own k (v+1) t l') [r]
structure SpecsOk (P:Program) (T:Specs):Prop where
 call : ∀ f args res,T.call f args=some (true,res)→ES P f args res
 rd : ∀ f cells aL res,T.rd f cells aL=some (true,res)→Uz P f cells aL res
 bx : ∀ f cells aL cells' res,T.bx f cells aL=some (true,cells',res)→Uy P f cells aL cells' res
 rb : ∀ f q,T.rb f=some q → ∀ l aL l',q.F l aL=some (true,l')→agc P f q.t q.e l aL l'
 nw : ∀ f q,T.nw f=some q → ∀ args l',q.F args=some (true,l')→ajT P f q.t q.e args l'
section
variable {P:Program} {tab:Tab} {T:Specs} {B:Bd} {w0:World} {St0:Sb} {c:Gh} {o:Oper} {a:Act}
theorem RAs.dat : ∀ {us:List AV} {vs:List Value} {ds:List ((t:Ty)×t.den)},zm us ds→RAs c us vs→x8 c.w c.St ds vs
 | [],[],[],_,_=>trivial
 | _::_,_::_,_::_,⟨h,hs⟩,⟨r,rs⟩=>⟨dat?_sound h r,RAs.dat hs rs⟩
 | [],[],_::_,h,_=>h.elim
 | _::_,_::_,[],h,_=>h.elim
theorem ou {f:FuncId} {args:List AV} {ds:List ((t:Ty)×t.den)} {res:AV} (hd:zm args ds) (hm:nB P f ds res):ES P f args res :=
 ⟨fun w St vs=>x8 w St ds vs,fun _ _ h=>h.dat hd,hm.1,hm.2⟩
theorem Oe {c':Gh} {St:Sb} (hs:St.le c'.St):Ev (bj c'.w St) c' :=
 ⟨hs,fun _ _ _ _ h=>h,fun k cells h=>by simp [bj] at h,fun k t e v h=>by simp [bj] at h,fun k t e v l h=>by simp [bj] at h,fun k h=>by simp [bj] at h,fun k h=>by simp [bj] at h⟩
theorem IC (hi:Inv B w0 St0 c) {cl:Call} {x:Operand} (ho:o.op = .call cl) (hcl:cl.callee = .value x) {f:FuncId} {args:List AV} (hx:RA c (.fn f .pnil) [a.eval x]) (hargs:RAs c args (cl.args.toList.map a.eval)) {res:AV} (hm:ES P f args res) :
  Ok P B w0 St0 o a c c.heap res:=by
 obtain ⟨R,hR,⟨fn,f1,f2,f3⟩,hm⟩:=hm
 obtain ⟨cs,e,hcs,_⟩:=hx
 have hcs:cs=[]:=hcs
 subst hcs
 simp only [List.cons.injEq,and_true] at e
 have hbody : ¬ fn.body=none:=by cases hb:fn.body <;> simp_all
 have f3 : ¬ fn.name = "runtime.NumGoroutine" := by simpa using f3
 have hrun:(execOp a.eval o).run P c.w = .ok (.enter f (cl.args.toList.map a.eval).toArray) c.w:=by
  have e2:cl.args.map a.eval=(cl.args.toList.map a.eval).toArray:=Array.ext' (by simp)
  unfold execOp
  simp [ho,resolve,hcl,e,Deferred.ofValue,invoke,callFunc,run_program,f1,f3,hbody,e2]
 intro K Q h
 unfold Oper.wp
 rw [hrun]
 refine (hm c.w c.St hi.bnd _ (hR c _ hargs)).mono ?_
 rintro _ w' ⟨v,St',rfl,hb,hdr,hs,hn,hj,hr⟩
 obtain ⟨hI,hE⟩:=hi.grow hb hs hn hdr hj
 exact h v { c with w:=w',St:=St' } rfl hI hE (hr.mono (Oe (c':={ c with w:=w',St:=St' }) (Sb.le.refl _)))
theorem adD (hi:Inv B w0 St0 c) {cl:Call} {x:Operand} (ho:o.op = .call cl) (hcl:cl.callee = .value x) {f:FuncId} {k:Nat} {cells aL:List AV} (hx:RA c (.fn f .pnil) [a.eval x]) (hargs:RAs c (.box k 0::aL) (cl.args.toList.map a.eval)) (hk:c.heap[k]? = some (.box cells)) {res:AV} (hm:Uz P f cells aL res) :
  Ok P B w0 St0 o a c c.heap res:=by
 obtain ⟨⟨fn,f1,f2,f3⟩,hm⟩:=hm
 obtain ⟨cs,e,hcs,_⟩:=hx
 have hcs:cs=[]:=hcs
 subst hcs
 simp only [List.cons.injEq,and_true] at e
 have hbody : ¬ fn.body=none:=by cases hb:fn.body <;> simp_all
 have f3 : ¬ fn.name = "runtime.NumGoroutine" := by simpa using f3
 have hrun:(execOp a.eval o).run P c.w = .ok (.enter f (cl.args.toList.map a.eval).toArray) c.w:=by
  have e2:cl.args.map a.eval=(cl.args.toList.map a.eval).toArray:=Array.ext' (by simp)
  unfold execOp
  simp [ho,resolve,hcl,e,Deferred.ofValue,invoke,callFunc,run_program,f1,f3,hbody,e2]
 intro K Q h
 unfold Oper.wp
 rw [hrun]
 obtain ⟨arr,t,b1,_,_,b4⟩:=hi.box k cells hk
 generalize cl.args.toList.map a.eval=vs at hargs
 match vs,hargs with
 | v0::vs,⟨hp,hr⟩ =>
 obtain ⟨_,_,ep⟩:=hp
 simp only [List.cons.injEq,and_true] at ep
 rw [ep]
 refine (hm c (c.blk k) arr t vs b1 b4 hi.bnd hr).mono ?_
 rintro _ w' ⟨v,rfl,hb,hdr,hra⟩
 obtain ⟨hI,hE⟩:=hi.grow (w':=w') (St':=c.St) hb (Sb.le.refl _) (fun _ _ x => .inl x) hdr (fun _ _ _ _ x => .inl x)
 exact h v { c with w:=w' } rfl hI hE (hra _)
theorem adC (hi:Inv B w0 St0 c) {cl:Call} {x:Operand} (ho:o.op = .call cl) (hcl:cl.callee = .value x) {f:FuncId} {k:Nat} {cells cells' aL:List AV} (hx:RA c (.fn f .pnil) [a.eval x]) (hargs:RAs c (.box k 0::aL) (cl.args.toList.map a.eval)) (hk:c.heap[k]? = some (.box cells)) {res:AV} (hm:Uy P f cells aL cells' res) :
  Ok P B w0 St0 o a c (c.heap.set k (.box cells')) res:=by
 obtain ⟨⟨fn,f1,f2,f3⟩,hm⟩:=hm
 obtain ⟨cs,e,hcs,_⟩:=hx
 have hcs:cs=[]:=hcs
 subst hcs
 simp only [List.cons.injEq,and_true] at e
 have hbody : ¬ fn.body=none:=by cases hb:fn.body <;> simp_all
 have f3 : ¬ fn.name = "runtime.NumGoroutine" := by simpa using f3
 have hrun:(execOp a.eval o).run P c.w = .ok (.enter f (cl.args.toList.map a.eval).toArray) c.w:=by
  have e2:cl.args.map a.eval=(cl.args.toList.map a.eval).toArray:=Array.ext' (by simp)
  unfold execOp
  simp [ho,resolve,hcl,e,Deferred.ofValue,invoke,callFunc,run_program,f1,f3,hbody,e2]
 intro K Q h
 unfold Oper.wp
 rw [hrun]
 refine (hm B w0 St0 c hi k hk _ hargs).mono ?_
 rintro _ w' ⟨v,c',rfl,hh,rfl,hI,hE,hr⟩
 exact h v c' hh hI hE hr
theorem ahe (hi:Inv B w0 St0 c) {cl:Call} {x:Operand} (ho:o.op = .call cl) (hcl:cl.callee = .value x) {f:FuncId} {k v:Nat} {t:Ty} {e:TypeId} {l l':List t.den} {aL:List AV} (hx:RA c (.fn f .pnil) [a.eval x]) (hargs:RAs c (.own k v t l::aL) (cl.args.toList.map a.eval)) (hk:c.heap[k]? = some (.row t e v)) (hm:agc P f t e l aL l') :
  Ok P B w0 St0 o a c (c.heap.set k (.row t e (v+1))) (.own k (v+1) t l'):=by
 obtain ⟨⟨fn,f1,f2,f3⟩,hm⟩:=hm
 obtain ⟨cs,ee,hcs,_⟩:=hx
 have hcs:cs=[]:=hcs
 subst hcs
 simp only [List.cons.injEq,and_true] at ee
 have hbody : ¬ fn.body=none:=by cases hb:fn.body <;> simp_all
 have f3 : ¬ fn.name = "runtime.NumGoroutine" := by simpa using f3
 have hrun:(execOp a.eval o).run P c.w = .ok (.enter f (cl.args.toList.map a.eval).toArray) c.w:=by
  have e2:cl.args.map a.eval=(cl.args.toList.map a.eval).toArray:=Array.ext' (by simp)
  unfold execOp
  simp [ho,resolve,hcl,ee,Deferred.ofValue,invoke,callFunc,run_program,f1,f3,hbody,e2]
 intro K Q h
 unfold Oper.wp
 rw [hrun]
 refine (hm B w0 St0 c hi k v hk _ hargs).mono ?_
 rintro _ w' ⟨r,c',rfl,hh,rfl,hI,hE,hr⟩
 exact h r c' hh hI hE hr
theorem Qh (hi:Inv B w0 St0 c) {cl:Call} {x:Operand} (ho:o.op = .call cl) (hcl:cl.callee = .value x) {f:FuncId} {fresh:Nat} {t:Ty} {e:TypeId} {l':List t.den} {aL:List AV} (hx:RA c (.fn f .pnil) [a.eval x]) (hargs:RAs c (.nil::aL) (cl.args.toList.map a.eval)) (hf:c.heap[fresh]? = some .none) (hm:agc P f t e [] aL l') :
  Ok P B w0 St0 o a c (c.heap.set fresh (.row t e 1)) (.own fresh 1 t l'):=by
 obtain ⟨⟨fn,f1,f2,f3⟩,hm⟩:=hm
 obtain ⟨cs,ee,hcs,_⟩:=hx
 have hcs:cs=[]:=hcs
 subst hcs
 simp only [List.cons.injEq,and_true] at ee
 have hbody : ¬ fn.body=none:=by cases hb:fn.body <;> simp_all
 have f3 : ¬ fn.name = "runtime.NumGoroutine" := by simpa using f3
 have hrun:(execOp a.eval o).run P c.w = .ok (.enter f (cl.args.toList.map a.eval).toArray) c.w:=by
  have e2:cl.args.map a.eval=(cl.args.toList.map a.eval).toArray:=Array.ext' (by simp)
  unfold execOp
  simp [ho,resolve,hcl,ee,Deferred.ofValue,invoke,callFunc,run_program,f1,f3,hbody,e2]
 intro K Q h
 unfold Oper.wp
 rw [hrun]
 obtain ⟨hI,hE⟩:=hi.addRow (k:=fresh) (n:=0) (t:=t) (e:=e) (s := .slice none 0 0) (xs:=[]) hf (World.ownsRow_nil _ _ _ _) (fun b hb=>by simp [Value.ownBlock] at hb) (fun k' b hb=>by simp [Value.ownBlock] at hb) (fun b hb=>by simp [Value.ownBlock] at hb) (fun b hb=>by simp [Value.ownBlock] at hb)
 have hk:(c.heap.set fresh (.row t e 0))[fresh]? = some (.row t e 0):=by rw [bv,if_pos rfl,if_pos (aE hf)]
 generalize cl.args.toList.map a.eval=vs at hargs
 match vs,hargs with
 | v0::vs,⟨h0,hr⟩ =>
 have h0:[v0]=[.slice none 0 0]:=h0
 simp only [List.cons.injEq,and_true] at h0
 subst h0
 refine (hm B w0 St0 _ hI fresh 0 hk (.slice none 0 0::vs) ⟨⟨_,rfl, ?_,t,e,0,hk,Nat.le_refl _,fun _=>by simp⟩,hr.mono hE⟩).mono ?_
 ·exact (aA rfl).2 ⟨none,0,0,rfl,rfl,Nat.le_refl _,.inl rfl⟩
 ·rintro _ w' ⟨r,c',rfl,hh,rfl,hI',hE',hr'⟩
  exact h r c' (by rw [hh]; simp) hI' (hE.trans hE') hr'
theorem ahg (hi:Inv B w0 St0 c) {cl:Call} {x:Operand} (ho:o.op = .call cl) (hcl:cl.callee = .value x) {f:FuncId} {fresh:Nat} {t:Ty} {e:TypeId} {l':List t.den} {args:List AV} (hx:RA c (.fn f .pnil) [a.eval x]) (hargs:RAs c args (cl.args.toList.map a.eval)) (hf:c.heap[fresh]? = some .none) (hm:ajT P f t e args l') :
  Ok P B w0 St0 o a c (c.heap.set fresh (.row t e 1)) (.own fresh 1 t l'):=by
 obtain ⟨⟨fn,f1,f2,f3⟩,hm⟩:=hm
 obtain ⟨cs,ee,hcs,_⟩:=hx
 have hcs:cs=[]:=hcs
 subst hcs
 simp only [List.cons.injEq,and_true] at ee
 have hbody : ¬ fn.body=none:=by cases hb:fn.body <;> simp_all
 have f3 : ¬ fn.name = "runtime.NumGoroutine" := by simpa using f3
 have hrun:(execOp a.eval o).run P c.w = .ok (.enter f (cl.args.toList.map a.eval).toArray) c.w:=by
  have e2:cl.args.map a.eval=(cl.args.toList.map a.eval).toArray:=Array.ext' (by simp)
  unfold execOp
  simp [ho,resolve,hcl,ee,Deferred.ofValue,invoke,callFunc,run_program,f1,f3,hbody,e2]
 intro K Q h
 unfold Oper.wp
 rw [hrun]
 obtain ⟨hI,hE⟩:=hi.addRow (k:=fresh) (n:=0) (t:=t) (e:=e) (s := .slice none 0 0) (xs:=[]) hf (World.ownsRow_nil _ _ _ _) (fun b hb=>by simp [Value.ownBlock] at hb) (fun k' b hb=>by simp [Value.ownBlock] at hb) (fun b hb=>by simp [Value.ownBlock] at hb) (fun b hb=>by simp [Value.ownBlock] at hb)
 have hk:(c.heap.set fresh (.row t e 0))[fresh]? = some (.row t e 0):=by rw [bv,if_pos rfl,if_pos (aE hf)]
 refine (hm B w0 St0 _ hI fresh 0 hk _ (hargs.mono hE)).mono ?_
 rintro _ w' ⟨r,c',rfl,hh,rfl,hI',hE',hr'⟩
 exact h r c' (by rw [hh]; simp) hI' (hE.trans hE') hr'
theorem agd {us:List AV} (h:RAs c us []):us=[]:=by cases us with | nil=>rfl | cons _ _=>exact h.elim
theorem cO {us:List AV} {v:Value} (h:RAs c us [v]) : ∃ u,us=[u]∧RA c u [v]:=by
 match us,h with
 | [u],⟨r,_⟩=>exact ⟨u,rfl,r⟩
 | _::_::_,⟨_,h⟩=>exact h.elim
theorem rW {us:List AV} {v:Value} {vs:List Value} (h:RAs c us (v::vs)) : ∃ u r,us=u::r∧RA c u [v]∧RAs c r vs:=by
 match us,h with
 | u::r,⟨h1,h2⟩=>exact ⟨u,r,rfl,h1,h2⟩
theorem dT {us:List AV} {v v':Value} (h:RAs c us [v,v']) : ∃ u u',us=[u,u']∧RA c u [v]∧RA c u' [v']:=by
 obtain ⟨u,r,rfl,h1,h2⟩:=rW h
 obtain ⟨u',rfl,h3⟩:=cO h2
 exact ⟨u,u',rfl,h1,h3⟩
theorem Xh {us:List AV} {v v' v'':Value} (h:RAs c us [v,v',v'']) : ∃ u u' u'',us=[u,u',u'']∧RA c u [v]∧RA c u' [v']∧RA c u'' [v'']:=by
 obtain ⟨u,r,rfl,h1,h2⟩:=rW h
 obtain ⟨u',u'',rfl,h3,h4⟩:=dT h2
 exact ⟨u,u',u'',rfl,h1,h3,h4⟩
theorem eE {α:Type} {l:List α} {k:Nat} {x:α} (h:l[k]? = some x):l.set k x=l:=by
 apply List.ext_getElem?
 intro i
 rw [bv]
 split
 ·rename_i e
  subst e
  rw [if_pos (aE h),h]
 ·rfl
def aR (T:Specs) (op:Op) (vals:List AV) (fresh:Nat) (heap:List HO) (ho':HO):List HO :=
 match bR T op vals fresh with
 | some k=>heap.set k ho'
 | none=>heap
theorem mS {u:AV} {v:Value} {n:Int} (h:zV u=some n) (r:RA c u [v]) : ∃ k,v = .int k n:=by
 cases u with
 | val t x =>
  cases t with
  | int k =>
   simp only [zV,Option.some.injEq] at h
   subst h
   exact ⟨k,cM r.val_inv⟩
  | _=>simp [zV] at h
 | _=>simp [zV] at h
theorem xP {low high:Option Operand} {r:List AV} {lo hi:Option Int} (h:ve low high r=some (lo,hi)) (hr:RAs c r ((low.toList++high.toList).map a.eval)):Ft (low.map a.eval) lo∧Ft (high.map a.eval) hi:=by
 cases low with
 | none =>
  cases high with
  | none =>
   have:=agd hr
   subst this
   simp only [ve,Option.some.injEq,Prod.mk.injEq] at h
   obtain ⟨rfl,rfl⟩:=h
   exact ⟨trivial,trivial⟩
  | some y =>
   obtain ⟨u,rfl,hu⟩:=cO hr
   simp only [ve] at h
   split at h
   ·rename_i n hn
    simp only [Option.some.injEq,Prod.mk.injEq] at h
    obtain ⟨rfl,rfl⟩:=h
    exact ⟨trivial,mS hn hu⟩
   ·cases h
 | some x =>
  cases high with
  | none =>
   obtain ⟨u,rfl,hu⟩:=cO hr
   simp only [ve] at h
   split at h
   ·rename_i n hn
    simp only [Option.some.injEq,Prod.mk.injEq] at h
    obtain ⟨rfl,rfl⟩:=h
    exact ⟨mS hn hu,trivial⟩
   ·cases h
  | some y =>
   obtain ⟨u,u',rfl,hu,hu'⟩:=dT hr
   simp only [ve] at h
   split at h
   ·rename_i n m hn hm
    simp only [Option.some.injEq,Prod.mk.injEq] at h
    obtain ⟨rfl,rfl⟩:=h
    exact ⟨mS hn hu,mS hm hu'⟩
   ·cases h
theorem cZ {op:Op} {vals:List AV} {fresh:Nat} {heap:List HO} {ho:HO} (h : ∀ k,bR T op vals fresh=some k→heap[k]? = some ho):aR T op vals fresh heap ho=heap:=by
 unfold aR
 split
 ·rename_i k hk; exact eE (h k hk)
 ·rfl
set_option maxHeartbeats 1000000 in
theorem Sr (tk:TabOk P tab) (ts:SpecsOk P T) (hi:Inv B w0 St0 c) {g:Bool} (hg:g=true) {vals:List AV} (hv:RAs c vals (o.op.operands.toList.map a.eval)) {fresh:Nat} {ho:HO}
  (hho : ∀ k,bR T o.op vals fresh=some k→c.heap[k]? = some ho) {out:AV} {ho':HO} (he:abM tab T o g vals fresh ho=some (true,out,ho')):Ok P B w0 St0 o a c (aR T o.op vals fresh c.heap ho') out:=by
 unfold abM at he
 cases hop:o.op with
 | move x =>
  simp only [hop,Op.operands] at he hv
  obtain ⟨u,rfl,hu⟩:=cO (v:=a.eval x) hv
  split at he <;> simp only [Option.some.injEq,Prod.mk.injEq,reduceCtorEq] at he
  rename_i hx
  simp only [List.cons.injEq,and_true] at hx
  obtain ⟨_,rfl,rfl⟩:=he
  exact Tp hi (.inl hop) (hx ▸ hu)
 | assign x =>
  simp only [hop,Op.operands] at he hv
  obtain ⟨u,rfl,hu⟩:=cO (v:=a.eval x) hv
  split at he <;> simp only [Option.some.injEq,Prod.mk.injEq,reduceCtorEq] at he
  rename_i hx
  simp only [List.cons.injEq,and_true] at hx
  obtain ⟨_,rfl,rfl⟩:=he
  exact Tp hi (.inr hop) (hx ▸ hu)
 | pick x y z =>
  simp only [hop,Op.operands] at he hv
  obtain ⟨u,u',u'',rfl,h1,h2,h3⟩:=Xh (v:=a.eval x) (v':=a.eval y) (v'':=a.eval z) hv
  split at he
  ·rename_i cb p q hx
   simp only [List.cons.injEq,and_true] at hx
   obtain ⟨rfl,rfl,rfl⟩:=hx
   split at he
   ·rename_i t xx t' yy hp hq
    split at he
    ·rename_i yy' hc
     obtain ⟨e,hyy⟩:=cast?_some hc
     subst e
     have hyy:yy'=yy:=hyy
     subst hyy
     simp only [Option.some.injEq,Prod.mk.injEq,Bool.and_eq_true] at he
     obtain ⟨⟨k1,k2⟩,rfl,rfl⟩:=he
     refine adE hi hop h1 (fun hb => ?_) (fun hb => ?_) hp hq
     ·exact ud h2 k1 (by simp [hg,hb])
     ·exact ud h3 k2 (by simp [hg,hb])
    ·cases he
   ·cases he
  ·cases he
 | alloc t =>
  simp only [hop] at he hho
  have hf:=hho fresh rfl
  split at he
  ·split at he
   ·rename_i τ ht
    simp only [Option.some.injEq,Prod.mk.injEq] at he
    obtain ⟨_,rfl,rfl⟩:=he
    exact YK hi tk hop hf ht
   ·split at he
    ·rename_i n ht
     simp only [Option.some.injEq,Prod.mk.injEq] at he
     obtain ⟨_,rfl,rfl⟩:=he
     exact IF hi tk hop hf ht
    ·cases he
  ·cases he
 | box t x =>
  simp only [hop,Op.operands] at he hv hho
  have hf:=hho fresh rfl
  obtain ⟨u,rfl,hu⟩:=cO (v:=a.eval x) hv
  split at he
  ·rename_i hx
   simp only [List.cons.injEq,and_true] at hx
   subst hx
   split at he
   ·rename_i hs
    simp only [Option.some.injEq,Prod.mk.injEq] at he
    obtain ⟨_,rfl,rfl⟩:=he
    exact ahj hi hop hf hu hs
   ·cases he
  ·cases he
 | load t x =>
  simp only [hop,Op.operands] at he hv hho
  obtain ⟨u,rfl,hu⟩:=cO (v:=a.eval x) hv
  split at he
  ·rename_i k off cells hx
   simp only [List.cons.injEq,and_true] at hx
   subst hx
   have hk:c.heap[k]? = some (.box cells):=hho k rfl
   have hsame:aR T (.load t x) [.box k off] fresh c.heap (.box cells)=c.heap:=by
    show c.heap.set k _=_
    exact eE hk
   split at he
   ·rename_i τ ht
    split at he
    ·rename_i hst
     split at he
     ·rename_i h1
      simp only [Option.some.injEq,Prod.mk.injEq] at he
      obtain ⟨_,rfl,rfl⟩:=he
      rw [hsame]
      unfold adB at h1
      split at h1
      ·rename_i n hn
       simp only [Bool.and_eq_true] at h1
       exact M0 hi tk hop hu hk ht hst hn (Nat.eq_of_beq_eq_true h1.1) h1.2
      ·cases h1
     ·split at he
      ·rename_i y hy
       simp only [Option.some.injEq,Prod.mk.injEq] at he
       obtain ⟨_,rfl,rfl⟩:=he
       rw [hsame]
       exact CV hi tk hop hu hk ht hy
      ·cases he
    ·rename_i hs
     split at he
     ·rename_i u' hu'
      simp only [Option.some.injEq,Prod.mk.injEq] at he
      obtain ⟨_,rfl,rfl⟩:=he
      rw [hsame]
      obtain ⟨i,z,_,_,_,_,_,_,hund⟩:=tk.ty t τ ht
      obtain ⟨d,hd,hn⟩:=B1 (by simpa using hs) hund
      exact wv hi hop hu hk hd hn hu'
     ·cases he
   ·rename_i ht
    split at he
    ·rename_i hc
     split at he
     ·rename_i u' hu'
      simp only [Option.some.injEq,Prod.mk.injEq] at he
      obtain ⟨_,rfl,rfl⟩:=he
      rw [hsame]
      obtain ⟨i,z,d,_,_,_,_,hd,hn⟩:=tk.cells t 1 hc
      exact wv hi hop hu hk hd (hn ht rfl) hu'
     ·cases he
    ·cases he
  ·rename_i τ y hx
   simp only [List.cons.injEq,and_true] at hx
   subst hx
   split at he
   ·rename_i ht
    simp only [Option.some.injEq,Prod.mk.injEq] at he
    obtain ⟨_,rfl,rfl⟩:=he
    exact MZ hi tk hop hu ht
   ·cases he
  ·cases he
 | store t x y =>
  simp only [hop,Op.operands] at he hv hho
  obtain ⟨u,u',rfl,h1,h2⟩:=dT (v:=a.eval x) (v':=a.eval y) hv
  split at he
  ·rename_i k off v cells hx
   simp only [List.cons.injEq,and_true] at hx
   obtain ⟨rfl,rfl⟩:=hx
   have hk:c.heap[k]? = some (.box cells):=hho k rfl
   split at he
   ·rename_i hs
    simp only [Bool.and_eq_true,decide_eq_true_eq] at hs
    simp only [Option.some.injEq,Prod.mk.injEq] at he
    obtain ⟨_,rfl,rfl⟩:=he
    exact YE hi tk hop h1 h2 hk hs.1.1 hs.1.2 hs.2
   ·cases he
  ·cases he
 | fieldAddr s x f =>
  simp only [hop,Op.operands] at he hv
  obtain ⟨u,rfl,hu⟩:=cO (v:=a.eval x) hv
  split at he
  ·rename_i k off hx
   simp only [List.cons.injEq,and_true] at hx
   subst hx
   split at he
   ·rename_i d hd
    simp only [Option.some.injEq,Prod.mk.injEq] at he
    obtain ⟨_,rfl,rfl⟩:=he
    exact yt hi tk hop hu hd
   ·cases he
  ·rename_i τ y hx
   simp only [List.cons.injEq,and_true] at hx
   subst hx
   split at he
   ·rename_i ht
    split at he
    ·rename_i τ' y' hp
     simp only [Option.some.injEq,Prod.mk.injEq] at he
     obtain ⟨_,rfl,rfl⟩:=he
     exact yr hi tk hop hu ht hp
    ·cases he
   ·cases he
  ·cases he
 | field s x f =>
  simp only [hop,Op.operands] at he hv
  obtain ⟨u,rfl,hu⟩:=cO (v:=a.eval x) hv
  split at he
  ·rename_i τ y hx
   simp only [List.cons.injEq,and_true] at hx
   subst hx
   split at he
   ·rename_i ht
    split at he
    ·rename_i τ' y' hp
     simp only [Option.some.injEq,Prod.mk.injEq] at he
     obtain ⟨_,rfl,rfl⟩:=he
     exact YI hi tk hop hu ht hp
    ·cases he
   ·cases he
  ·cases he
 | indexAddr t x y =>
  simp only [hop,Op.operands] at he hv
  obtain ⟨u,u',rfl,h1,h2⟩:=dT (v:=a.eval x) (v':=a.eval y) hv
  split at he
  ·rename_i k off q n hx
   simp only [List.cons.injEq,and_true] at hx
   obtain ⟨rfl,rfl⟩:=hx
   split at he
   ·rename_i m hm
    simp only [Option.some.injEq,Prod.mk.injEq,Bool.and_eq_true,decide_eq_true_eq] at he
    obtain ⟨⟨k1,k2⟩,rfl,rfl⟩:=he
    rw [cZ (by simpa only [hop] using hho)]
    exact IA hi tk hop h1 h2 hm k1 k2
   ·cases he
  ·rename_i s k n _ hx
   simp only [List.cons.injEq,and_true] at hx
   obtain ⟨rfl,rfl⟩:=hx
   split at he
   ·rename_i τ l hl
    simp only [Option.some.injEq,Prod.mk.injEq,Bool.and_eq_true,decide_eq_true_eq] at he
    obtain ⟨⟨k1,k2⟩,rfl,rfl⟩:=he
    rw [cZ (by simpa only [hop] using hho)]
    exact IB hi tk hop h1 h2 hl k1 k2
   ·cases he
  ·cases he
 | index t x y =>
  simp only [hop,Op.operands] at he hv
  obtain ⟨u,u',rfl,h1,h2⟩:=dT (v:=a.eval x) (v':=a.eval y) hv
  split at he
  ·rename_i s k n hx
   simp only [List.cons.injEq,and_true] at hx
   obtain ⟨rfl,rfl⟩:=hx
   split at he
   ·rename_i l hl
    simp only [Option.some.injEq,Prod.mk.injEq,Bool.and_eq_true,decide_eq_true_eq] at he
    obtain ⟨⟨k1,k2⟩,rfl,rfl⟩:=he
    exact Iz hi tk hop h1 h2 hl k1 k2
   ·cases he
  ·cases he
 | binOp op tx x y ty =>
  simp only [hop,Op.operands] at he hv
  obtain ⟨u,u',rfl,h1,h2⟩:=dT (v:=a.eval x) (v':=a.eval y) hv
  simp only at he
  split at he
  ·rename_i cb v hb
   simp only [Option.some.injEq,Prod.mk.injEq] at he
   obtain ⟨rfl,rfl,rfl⟩:=he
   have hb':=hb
   unfold nA at hb
   split at hb
   ·split at hb
    ·simp only [Option.some.injEq,Prod.mk.injEq,decide_eq_true_eq] at hb
     obtain ⟨hn,rfl⟩:=hb
     exact (MW hi hop h1 h2 hn).1 rfl
    ·simp only [Option.some.injEq,Prod.mk.injEq,decide_eq_true_eq] at hb
     obtain ⟨hn,rfl⟩:=hb
     exact (MW hi hop h1 h2 hn).2 rfl
    ·split at hb
     ·rename_i hk
      subst hk
      exact Qq hi hop h1 h2 hb
     ·cases hb
   ·exact Qo hi hop h1 h2 hb'
   ·exact M2 hi tk hop h1 h2 hb'
   ·exact Qp hi tk hop h1 h2 hb'
   ·exact E6 hi tk hop h1 h2 hb'
   ·cases hb
  ·cases he
 | unOp op t x =>
  simp only [hop,Op.operands] at he hv
  obtain ⟨u,rfl,hu⟩:=cO (v:=a.eval x) hv
  cases op <;> simp only at he <;> first | (cases he; done) | skip
  all_goals split at he
  all_goals first | (cases he; done) | skip
  all_goals
   rename_i hx
   simp only [List.cons.injEq,and_true] at hx
   subst hx
   simp only [Option.some.injEq,Prod.mk.injEq] at he
   obtain ⟨_,rfl,rfl⟩:=he
   first | exact ahf hi hop hu | exact ahh hi hop hu
 | convert s t x =>
  simp only [hop,Op.operands] at he hv
  obtain ⟨u,rfl,hu⟩:=cO (v:=a.eval x) hv
  split at he
  ·rename_i k' n k τ hx ht hts
   simp only [List.cons.injEq,and_true] at hx
   subst hx
   simp only [Option.some.injEq,Prod.mk.injEq] at he
   obtain ⟨_,rfl,rfl⟩:=he
   obtain ⟨i,z,hin,_⟩:=tk.ty s _ hts
   refine M1 hi tk hop hu ht ?_
   obtain ⟨_,_,_,_,_,_,_,_,hund⟩:=tk.ty s _ hts
   cases hs:τ.isStruct with
   | true=>obtain ⟨fs,hf,_⟩:=fF hs hund; exact ⟨_,hf⟩
   | false=>obtain ⟨d,hd,_⟩:=B1 hs hund; exact ⟨_,hd⟩
  ·rename_i x2 hx ht hts
   simp only [List.cons.injEq,and_true] at hx
   subst hx
   split at he
   ·rename_i l hl
    simp only [Option.some.injEq,Prod.mk.injEq] at he
    obtain ⟨_,rfl,rfl⟩:=he
    exact E3 hi tk hop hu hl ht hts
   ·cases he
  ·cases he
 | build t parts =>
  simp only [hop,Op.operands] at he hv
  split at he
  ·rename_i τ ht
   split at he
   ·rename_i hs
    split at he
    ·rename_i hc
     unfold aj3 at hc
     split at hc
     ·rename_i n hn
      simp only [Bool.and_eq_true,decide_eq_true_eq,List.length_map,Array.length_toList] at hc
      simp only [Option.some.injEq,Prod.mk.injEq] at he
      obtain ⟨_,rfl,rfl⟩:=he
      exact E4 hi tk hop hv ht hn hc.1.1 hc.1.2 hc.2
     ·cases hc
    ·split at he
     ·rename_i y hy
      simp only [Option.some.injEq,Prod.mk.injEq] at he
      obtain ⟨_,rfl,rfl⟩:=he
      exact YJ hi tk hop hv ht hs hy
     ·cases he
   ·cases he
  ·split at he
   ·rename_i n hn
    split at he
    ·rename_i hs
     simp only [Bool.and_eq_true] at hs
     simp only [Option.some.injEq,Prod.mk.injEq] at he
     obtain ⟨_,rfl,rfl⟩:=he
     exact IE hi tk hop hv hn (Nat.eq_of_beq_eq_true hs.1.1) hs.1.2 hs.2
    ·cases he
   ·split at he
    ·rename_i n hn
     split at he
     ·rename_i hs
      simp only [Bool.and_eq_true] at hs
      simp only [Option.some.injEq,Prod.mk.injEq] at he
      obtain ⟨_,rfl,rfl⟩:=he
      exact ID hi tk hop hv hn (Nat.eq_of_beq_eq_true hs.1.1) hs.1.2 hs.2
     ·cases he
    ·cases he
 | buildSlice t len parts =>
  simp only [hop,Op.operands] at he hv hho
  have hf:=hho fresh rfl
  split at he
  ·rename_i τ e ht hel
   split at he
   ·rename_i hs
    simp only [Bool.and_eq_true,decide_eq_true_eq] at hs
    split at he
    ·rename_i l hl
     split at he
     ·simp only [Option.some.injEq,Prod.mk.injEq] at he
      obtain ⟨_,rfl,rfl⟩:=he
      exact E5 hi tk hop hv ht hel hs.1.1 hs.1.2 hs.2 hl hf
     ·rename_i hz
      simp only [Option.some.injEq,Prod.mk.injEq] at he
      obtain ⟨_,rfl,rfl⟩:=he
      have h0:len=0:=Nat.eq_of_beq_eq_true (Bool.and_eq_true_iff.1 hz).2
      exact AC hi tk (by rw [hop,h0]) (hs.1.1.symm.trans h0) ht hel hf
    ·cases he
   ·cases he
  ·cases he
 | makeSlice t x y =>
  simp only [hop,Op.operands] at he hv hho
  have hf:=hho fresh rfl
  obtain ⟨u,u',rfl,h1,h2⟩:=dT (v:=a.eval x) (v':=a.eval y) hv
  split at he
  ·rename_i q n q' m hx
   simp only [List.cons.injEq,and_true] at hx
   obtain ⟨rfl,rfl⟩:=hx
   split at he
   ·rename_i τ e ht hel
    simp only [Option.some.injEq,Prod.mk.injEq,Bool.and_eq_true,decide_eq_true_eq] at he
    obtain ⟨⟨⟨k1,k2⟩,k3⟩,rfl,rfl⟩:=he
    exact adF hi tk hop hf h1 h2 ht hel k1 k2 k3
   ·cases he
  ·cases he
 | slice t x low high mx =>
  cases mx with
  | some m=>simp [hop] at he
  | none =>
   simp only [hop,Op.operands] at he hv
   obtain ⟨s,r,rfl,h1,h2⟩:=rW (v:=a.eval x) (vs:=(low.toList++high.toList).map a.eval) (by cases low <;> cases high <;> simpa using hv)
   simp only at he
   split at he
   ·rename_i lo hi' hb
    obtain ⟨b1,b2⟩:=xP hb h2
    split at he
    ·rename_i τ l hl
     simp only [Option.some.injEq,Prod.mk.injEq] at he
     obtain ⟨k1,rfl,rfl⟩:=he
     rw [cZ (by simpa only [hop] using hho)]
     exact YF hi tk hop h1 b1 b2 hl k1
    ·split at he
     ·rename_i l hl
      simp only [Option.some.injEq,Prod.mk.injEq] at he
      obtain ⟨k1,rfl,rfl⟩:=he
      rw [cZ (by simpa only [hop] using hho)]
      exact Iy hi tk hop h1 b1 b2 hl k1
     ·cases he
   ·cases he
 | extract x i =>
  simp only [hop,Op.operands] at he hv
  obtain ⟨u,rfl,hu⟩:=cO (v:=a.eval x) hv
  split at he
  ·rename_i p hx
   simp only [List.cons.injEq,and_true] at hx
   subst hx
   split at he
   ·rename_i u' hp
    simp only [Option.some.injEq,Prod.mk.injEq] at he
    obtain ⟨_,rfl,rfl⟩:=he
    exact Qn hi hop hu hp
   ·cases he
  ·cases he
 | makeFunc fn first captured =>
  simp only [hop,Op.operands] at he hv
  cases fn <;> simp only at he <;> first | (cases he; done) | skip
  split at he
  ·rename_i hs
   simp only [Option.some.injEq,Prod.mk.injEq] at he
   obtain ⟨_,rfl,rfl⟩:=he
   have hfe:first = #[]:=Array.size_eq_zero_iff.1 hs
   exact MX hi hop hs (by simpa [hfe] using hv)
  ·cases he
 | call cl =>
  simp only [hop,Op.operands] at he hv hho
  cases hcl:cl.callee with
  | invoke r m=>simp [hcl] at he
  | value x =>
   simp only [hcl] at he
   have hv:RAs c vals (a.eval x::cl.args.toList.map a.eval):=by simpa [Call.operands,hcl] using hv
   obtain ⟨u,r,rfl,h1,h2⟩:=rW hv
   split at he
   ·rename_i hnw
    split at he
    ·rename_i f args hx
     simp only [List.cons.injEq] at hx
     obtain ⟨rfl,rfl⟩:=hx
     split at he
     ·rename_i q hq
      split at he
      ·rename_i b l' hF
       simp only [Option.some.injEq,Prod.mk.injEq] at he
       obtain ⟨rfl,rfl,rfl⟩:=he
       have htch:bR T (.call cl) (.fn f .pnil::r) fresh=some fresh:=by simp only [bR,hcl,hnw]
       have hf:=hho fresh htch
       have hh : ∀ y,aR T (.call cl) (.fn f .pnil::r) fresh c.heap y=c.heap.set fresh y:=fun y=>by unfold aR; rw [htch]
       rw [hh]
       exact ahg hi hop hcl h1 h2 hf (ts.nw f _ hq r l' hF)
      ·cases he
     ·cases he
    ·cases he
   ·rename_i hnw
    split at he
    ·rename_i f k off aL hx
     simp only [List.cons.injEq] at hx
     obtain ⟨rfl,rfl⟩:=hx
     split at he
     ·rename_i cells
      split at he
      ·rename_i hoff
       subst hoff
       have hk:c.heap[k]? = some (.box cells):=hho k (by simp [bR,hcl,hnw])
       split at he
       ·split at he
        ·rename_i b v hT
         simp only [Option.some.injEq,Prod.mk.injEq] at he
         obtain ⟨rfl,rfl,rfl⟩:=he
         have:aR T (.call cl) (.fn f .pnil :: .box k 0::aL) fresh c.heap (.box cells)=c.heap:=by
          simp only [aR,bR,hcl,hnw]
          exact eE hk
         rw [this]
         exact adD hi hop hcl h1 h2 hk (ts.rd f cells aL _ hT)
        ·cases he
       ·split at he
        ·rename_i b cells' v hT
         simp only [Option.some.injEq,Prod.mk.injEq] at he
         obtain ⟨rfl,rfl,rfl⟩:=he
         have:aR T (.call cl) (.fn f .pnil :: .box k 0::aL) fresh c.heap (.box cells')=c.heap.set k (.box cells'):=by
          simp only [aR,bR,hcl,hnw]
         rw [this]
         exact adC hi hop hcl h1 h2 hk (ts.bx f cells aL cells' _ hT)
        ·cases he
      ·cases he
     ·cases he
    ·rename_i f k v t l aL hx
     simp only [List.cons.injEq] at hx
     obtain ⟨rfl,rfl⟩:=hx
     split at he
     ·rename_i hwr
      split at he
      ·rename_i q t' e' v' hq
       split at he
       ·rename_i q1
        subst q1
        split at he
        ·rename_i q2
         subst q2
         split at he
         ·rename_i q3
          subst q3
          split at he
          ·rename_i l2 hc
           obtain ⟨et,hl2⟩:=cast?_some hc
           injection et with et
           obtain ⟨qt,qe,qF⟩:=q
           simp only at et
           subst et
           have hl2:l2=l:=hl2
           subst hl2
           split at he
           ·rename_i b l' hF
            simp only [Option.some.injEq,Prod.mk.injEq] at he
            obtain ⟨rfl,rfl,rfl⟩:=he
            have htch:bR T (.call cl) (.fn f .pnil :: .own k v' t' l2::aL) fresh=some k:=by simp only [bR,hcl,hnw,hwr]
            have hk:=hho k htch
            have hh : ∀ y,aR T (.call cl) (.fn f .pnil :: .own k v' t' l2::aL) fresh c.heap y=c.heap.set k y:=fun y=>by unfold aR; rw [htch]
            rw [hh]
            exact ahe hi hop hcl h1 h2 hk (ts.rb f _ hq l2 aL l' hF)
           ·cases he
          ·cases he
         ·cases he
        ·cases he
       ·cases he
      ·cases he
     ·rename_i hwr
      split at he
      ·rename_i b u hT
       simp only [Option.some.injEq,Prod.mk.injEq] at he
       obtain ⟨rfl,rfl,rfl⟩:=he
       have:aR T (.call cl) (.fn f .pnil :: .own k v t l::aL) fresh c.heap ho=c.heap:=by
        have ht:bR T (.call cl) (.fn f .pnil :: .own k v t l::aL) fresh=none:=by simp only [bR,hcl,hnw,hwr]
        simp only [aR,ht]
       rw [this]
       exact IC hi hop hcl h1 h2 (ts.call f _ _ hT)
      ·cases he
    ·rename_i f aL hx
     simp only [List.cons.injEq] at hx
     obtain ⟨rfl,rfl⟩:=hx
     split at he
     ·rename_i hwr
      split at he
      ·rename_i q hq
       split at he
       ·rename_i b l' hF
        simp only [Option.some.injEq,Prod.mk.injEq] at he
        obtain ⟨rfl,rfl,rfl⟩:=he
        have htch:bR T (.call cl) (.fn f .pnil :: .nil::aL) fresh=some fresh:=by simp only [bR,hcl,hnw,hwr]
        have hf:=hho fresh htch
        have hh : ∀ y,aR T (.call cl) (.fn f .pnil :: .nil::aL) fresh c.heap y=c.heap.set fresh y:=fun y=>by unfold aR; rw [htch]
        rw [hh]
        exact Qh hi hop hcl h1 h2 hf (ts.rb f _ hq [] aL l' hF)
       ·cases he
      ·cases he
     ·rename_i hwr
      split at he
      ·rename_i b u hT
       simp only [Option.some.injEq,Prod.mk.injEq] at he
       obtain ⟨rfl,rfl,rfl⟩:=he
       have:aR T (.call cl) (.fn f .pnil :: .nil::aL) fresh c.heap ho=c.heap:=by
        have ht:bR T (.call cl) (.fn f .pnil :: .nil::aL) fresh=none:=by simp only [bR,hcl,hnw,hwr]
        simp only [aR,ht]
       rw [this]
       exact IC hi hop hcl h1 h2 (ts.call f _ _ hT)
      ·cases he
    ·rename_i f args hno hno2 hno3 hx
     simp only [List.cons.injEq] at hx
     obtain ⟨rfl,rfl⟩:=hx
     split at he
     ·rename_i b v hT
      simp only [Option.some.injEq,Prod.mk.injEq] at he
      obtain ⟨rfl,rfl,rfl⟩:=he
      have hm:=ts.call f r _ hT
      have:aR T (.call cl) (.fn f .pnil::r) fresh c.heap ho=c.heap:=by
       have ht:bR T (.call cl) (.fn f .pnil::r) fresh=none:=by
        simp only [bR,hcl,hnw]
        split
        ·rename_i k off aL hq
         simp only [List.cons.injEq] at hq
         exact (hno _ _ _ hq.2).elim
        ·rename_i k v t l aL hq
         simp only [List.cons.injEq] at hq
         exact (hno2 _ _ _ _ _ hq.2).elim
        ·rename_i aL hq
         simp only [List.cons.injEq] at hq
         exact (hno3 _ hq.2).elim
        ·rfl
       simp only [aR,ht]
      rw [this]
      exact IC hi hop hcl h1 h2 hm
     ·cases he
    ·cases he
  | builtin b =>
   simp only [hcl] at he
   have hv:RAs c vals (cl.args.toList.map a.eval):=by simpa [Call.operands,hcl] using hv
   cases b <;> simp only at he <;> first | (cases he; done) | skip
   case max =>
    have hh:aR T (.call cl) vals fresh c.heap ho=c.heap:=cZ hho
    split at he
    ·rename_i k x k' y _
     split at he
     ·rename_i hkk
      subst hkk
      simp only [Option.some.injEq,Prod.mk.injEq,true_and] at he
      obtain ⟨rfl,rfl⟩:=he
      rw [hh]
      have hal : ∃ p q,cl.args = #[p,q]:=by
       have:=hv.length
       simp at this
       match h:cl.args.toList,(by simpa using this.symm:cl.args.toList.length=2) with
       | [p,q],_=>exact ⟨p,q,Array.ext' (by simpa using h)⟩
      obtain ⟨p,q,hpq⟩:=hal
      rw [hpq] at hv
      obtain ⟨u,u',e,h1,h2⟩:=dT (v:=a.eval p) (v':=a.eval q) hv
      simp only [List.cons.injEq,and_true] at e
      obtain ⟨rfl,rfl⟩:=e
      have hpv:=cM h1.val_inv
      have hqv:=cM h2.val_inv
      refine aH hi (v := .int k (ov x y)) ?_ (cY _ _)
      unfold execOp
      simp [hop,resolve,hcl,hpq,invoke,builtin,Builtin.max_,Builtin.max2,hpv,hqv,ov]
     ·cases he
    ·cases he
   case len =>
    have hh:aR T (.call cl) vals fresh c.heap ho=c.heap:=cZ hho
    split at he
    ·rename_i s
     have hal : ∃ x,cl.args = #[x]:=by
      have:=hv.length
      simp at this
      exact Array.size_eq_one_iff.1 this.symm
     obtain ⟨x,hx⟩:=hal
     rw [hx] at hv
     obtain ⟨u,e,hu⟩:=cO (v:=a.eval x) hv
     simp only [List.cons.injEq,and_true] at e
     subst e
     cases hty:cl.argTypes[0]? with
     | none =>
      rw [hty] at he
      simp [uA,vE] at he
     | some t =>
      rw [hty] at he
      simp only [Option.bind_some] at he
      split at he
      ·rename_i τ l hl
       simp only [Option.some.injEq,Prod.mk.injEq] at he
       obtain ⟨_,rfl,rfl⟩:=he
       rw [hh]
       exact ahi hi tk hop hcl hx hty hu hl
      ·split at he
       ·rename_i l hl
        simp only [Option.some.injEq,Prod.mk.injEq] at he
        obtain ⟨_,rfl,rfl⟩:=he
        rw [hh]
        exact Qm hi tk hop hcl hx hty hu hl
       ·cases he
    ·cases he
   case append =>
    split at he
    ·rename_i s x t1 t2 htys _
     have hty:cl.argTypes = #[t1,t2]:=Array.ext' (by simpa using htys)
     have hal : ∃ p q,cl.args = #[p,q]:=by
      have:=hv.length
      simp at this
      match h:cl.args.toList,(by simpa using this.symm:cl.args.toList.length=2) with
      | [p,q],_=>exact ⟨p,q,Array.ext' (by simpa using h)⟩
     obtain ⟨p,q,hpq⟩:=hal
     rw [hpq] at hv
     obtain ⟨u,u',e,h1,h2⟩:=dT (v:=a.eval p) (v':=a.eval q) hv
     simp only [List.cons.injEq,and_true] at e
     obtain ⟨rfl,rfl⟩:=e
     split at he
     ·rename_i e12
      subst e12
      split at he
      ·rename_i e τ l' hel hl
       split at he
       ·rename_i k v t l _
        split at he
        ·rename_i t' e' v'
         split at he
         ·rename_i q1
          split at he
          ·rename_i q2
           split at he
           ·rename_i q3
            split at he
            ·rename_i l2 hc
             obtain ⟨et,hl2⟩:=cast?_some hc
             injection et with et
             subst et
             have hl2:l2=l:=hl2
             subst hl2
             subst q1; subst q2; subst q3
             simp only [Option.some.injEq,Prod.mk.injEq,decide_eq_true_eq] at he
             obtain ⟨k1,rfl,rfl⟩:=he
             have htch:bR T (.call cl) [.own k v' t' l2,x] fresh=some k:=by simp only [bR,hcl]
             have hk:=hho k htch
             have hh:aR T (.call cl) [.own k v' t' l2,x] fresh c.heap (.row t' e' (v'+1))=c.heap.set k (.row t' e' (v'+1)):=by unfold aR; rw [htch]
             rw [hh]
             exact Vx hi tk hop hcl hpq hty h1 h2 hl hel hk k1
            ·cases he
           ·cases he
          ·cases he
         ·cases he
        ·cases he
       ·split at he
        ·split at he
         ·simp only [Option.some.injEq,Prod.mk.injEq,decide_eq_true_eq] at he
          obtain ⟨k1,rfl,rfl⟩:=he
          have htch:bR T (.call cl) [.nil,x] fresh=some fresh:=by simp only [bR,hcl]
          have hf:=hho fresh htch
          have hh:aR T (.call cl) [.nil,x] fresh c.heap (.row τ e 1)=c.heap.set fresh (.row τ e 1):=by unfold aR; rw [htch]
          rw [hh]
          exact E7 hi tk hop hcl hpq hty h1 h2 hl hel hf k1
         ·rename_i l2 _ _ _
          simp only [Option.some.injEq,Prod.mk.injEq,decide_eq_true_eq] at he
          obtain ⟨k1,rfl,rfl⟩:=he
          have htch:bR T (.call cl) [.nil,x] fresh=some fresh:=by simp only [bR,hcl]
          have hf:=hho fresh htch
          have hh : ∀ y,aR T (.call cl) [.nil,x] fresh c.heap y=c.heap.set fresh y:=fun y=>by unfold aR; rw [htch]
          rw [hh]
          exact CW hi tk hop hcl hpq hty h1 h2 hl hel hf k1
        ·cases he
       ·cases he
      ·cases he
     ·cases he
    ·cases he
 | nilCheck x =>
  simp only [hop,Op.operands] at he hv
  obtain ⟨u,rfl,hu⟩:=cO (v:=a.eval x) hv
  split at he
  ·rename_i k off hx
   simp only [List.cons.injEq,and_true] at hx
   subst hx
   simp only [Option.some.injEq,Prod.mk.injEq,true_and] at he
   obtain ⟨rfl,rfl⟩:=he
   have hu':=hu
   obtain ⟨_,_,e⟩:=hu
   simp only [List.cons.injEq,and_true] at e
   refine aH hi (v:=a.eval x) ?_ hu'
   unfold execOp
   simp [hop,e]
  ·rename_i t y hx
   simp only [List.cons.injEq,and_true] at hx
   subst hx
   simp only [Option.some.injEq,Prod.mk.injEq,true_and] at he
   obtain ⟨rfl,rfl⟩:=he
   have hu':=hu
   obtain ⟨ad,_,e,_⟩:=hu
   simp only [List.cons.injEq,and_true] at e
   refine aH hi (v:=a.eval x) ?_ hu'
   unfold execOp
   simp [hop,e]
  ·cases he
 | _=>simp [hop] at he
theorem So (tk:TabOk P tab) (hi:Inv B w0 St0 c) {vals:List AV} (hv:RAs c vals (o.op.operands.toList.map a.eval)) {fresh:Nat} {ho:HO}
  (hho : ∀ k,bR T o.op vals fresh=some k→c.heap[k]? = some ho) {out:AV} {ho':HO} (he:abL tab o vals ho=some (true,out,ho')):Ok P B w0 St0 o a c (aR T o.op vals fresh c.heap ho') out:=by
 unfold abL at he
 split at he
 ·rename_i τ e v' l
  have same : ∀ k,bR T o.op vals fresh=some k→aR T o.op vals fresh c.heap (.mrow τ e v' l)=c.heap:=fun k hk=>by
   unfold aR; rw [hk]; exact eE (hho k hk)
  have after : ∀ k ho',bR T o.op vals fresh=some k→aR T o.op vals fresh c.heap ho'=c.heap.set k ho':=fun k ho' hk=>by
   unfold aR; rw [hk]
  split at he
  ·rename_i t x y hop
   rw [hop] at hv hho same
   split at he
   ·rename_i k v lo hi' q n
    obtain ⟨u,u',e1,h1,h2⟩:=dT (v:=a.eval x) (v':=a.eval y) hv
    simp only [List.cons.injEq,and_true] at e1
    obtain ⟨rfl,rfl⟩:=e1
    split at he
    ·rename_i q1
     subst q1
     split at he
     ·rename_i q2
      split at he
      ·simp only [Option.some.injEq,Prod.mk.injEq,Bool.and_eq_true,decide_eq_true_eq] at he
       obtain ⟨⟨k1,k2⟩,rfl,rfl⟩:=he
       rw [hop,same k rfl]
       exact Qk hi tk hop h1 h2 (hho k rfl) q2 k1 k2
      ·cases he
     ·cases he
    ·cases he
   ·cases he
  ·rename_i s x f hop
   rw [hop] at hv hho same
   split at he
   ·rename_i k v i off
    obtain ⟨u,e1,h1⟩:=cO (v:=a.eval x) hv
    simp only [List.cons.injEq,and_true] at e1
    subst e1
    split at he
    ·rename_i q1
     subst q1
     split at he
     ·rename_i d hd
      simp only [Option.some.injEq,Prod.mk.injEq] at he
      obtain ⟨_,rfl,rfl⟩:=he
      rw [hop,same k rfl]
      exact Ql hi tk hop h1 (hho k rfl) hd
     ·cases he
    ·cases he
   ·cases he
  ·rename_i t x hop
   rw [hop] at hv hho same
   split at he
   ·rename_i k v i off
    obtain ⟨u,e1,h1⟩:=cO (v:=a.eval x) hv
    simp only [List.cons.injEq,and_true] at e1
    subst e1
    split at he
    ·rename_i q1
     subst q1
     split at he
     ·rename_i τ' ht
      split at he
      ·rename_i y hy
       simp only [Option.some.injEq,Prod.mk.injEq] at he
       obtain ⟨_,rfl,rfl⟩:=he
       rw [hop,same k rfl]
       exact Vw hi tk hop h1 (hho k rfl) ht hy
      ·cases he
     ·cases he
    ·cases he
   ·cases he
  ·rename_i t x y hop
   rw [hop] at hv hho after
   split at he
   ·rename_i k v i off u
    obtain ⟨u1,u2,e1,h1,h2⟩:=dT (v:=a.eval x) (v':=a.eval y) hv
    simp only [List.cons.injEq,and_true] at e1
    obtain ⟨rfl,rfl⟩:=e1
    split at he
    ·rename_i q1
     subst q1
     split at he
     ·rename_i τ' ht
      split at he
      ·rename_i d hd
       split at he
       ·rename_i z hz
        simp only [Option.some.injEq,Prod.mk.injEq] at he
        obtain ⟨_,rfl,rfl⟩:=he
        rw [hop,after k _ rfl]
        exact Qi hi tk hop h1 h2 (hho k rfl) ht hd hz
       ·cases he
      ·cases he
     ·cases he
    ·cases he
   ·cases he
  ·rename_i t x low high hop
   rw [hop] at hv hho same
   split at he
   ·rename_i k v lo hi' r
    obtain ⟨s,r',e1,h1,h2⟩:=rW (v:=a.eval x) (vs:=(low.toList++high.toList).map a.eval) (by cases low <;> cases high <;> simpa [Op.operands] using hv)
    simp only [List.cons.injEq] at e1
    obtain ⟨rfl,rfl⟩:=e1
    split at he
    ·rename_i q1
     subst q1
     split at he
     ·rename_i q2
      split at he
      ·split at he
       ·rename_i a1 b1 hb
        obtain ⟨g1,g2⟩:=xP hb h2
        simp only [Option.some.injEq,Prod.mk.injEq] at he
        obtain ⟨k1,rfl,rfl⟩:=he
        rw [hop,same k rfl]
        exact Qj hi tk hop h1 (hho k rfl) q2 g1 g2 k1
       ·cases he
      ·cases he
     ·cases he
    ·cases he
   ·cases he
  ·rename_i cl hop
   rw [hop] at hv hho same after
   split at he
   ·rename_i hcl
    replace hv:RAs c vals (cl.args.toList.map a.eval):=by simpa [Op.operands,Call.operands,hcl] using hv
    split at he
    ·rename_i k v lo hi'
     have hal : ∃ x,cl.args = #[x]:=by
      have:=hv.length
      simp at this
      exact Array.size_eq_one_iff.1 this.symm
     obtain ⟨x,hx⟩:=hal
     rw [hx] at hv
     obtain ⟨u,e1,hu⟩:=cO (v:=a.eval x) hv
     simp only [List.cons.injEq,and_true] at e1
     subst e1
     have htch:bR T (.call cl) [.msl k v lo hi'] fresh=some k:=by simp only [bR,hcl]
     split at he
     ·rename_i q1
      subst q1
      split at he
      ·rename_i q2
       simp only [Option.some.injEq,Prod.mk.injEq] at he
       obtain ⟨_,rfl,rfl⟩:=he
       rw [hop,same k htch]
       cases hty:cl.argTypes[0]? with
       | none=>rw [hty] at q2; cases q2
       | some t =>
        rw [hty] at q2
        exact YG hi tk hop hcl hx hty hu (hho k htch) q2
      ·cases he
     ·cases he
    ·cases he
   ·rename_i hcl
    replace hv:RAs c vals (cl.args.toList.map a.eval):=by simpa [Op.operands,Call.operands,hcl] using hv
    split at he
    ·rename_i k v m x t1 t2 htys
     have hty:cl.argTypes = #[t1,t2]:=Array.ext' (by simpa using htys)
     have hal : ∃ p q,cl.args = #[p,q]:=by
      have:=hv.length
      simp at this
      match h:cl.args.toList,(by simpa using this.symm:cl.args.toList.length=2) with
      | [p,q],_=>exact ⟨p,q,Array.ext' (by simpa using h)⟩
     obtain ⟨p,q,hpq⟩:=hal
     rw [hpq] at hv
     obtain ⟨u,u',e1,h1,h2⟩:=dT (v:=a.eval p) (v':=a.eval q) hv
     simp only [List.cons.injEq,and_true] at e1
     obtain ⟨rfl,rfl⟩:=e1
     have htch:bR T (.call cl) [.msl k v 0 m,x] fresh=some k:=by simp only [bR,hcl]
     split at he
     ·rename_i e12
      subst e12
      split at he
      ·rename_i q1
       subst q1
       split at he
       ·rename_i e1 τ1 l' hel hl
        split at he
        ·rename_i q2
         subst q2
         split at he
         ·rename_i l2 hc
          obtain ⟨et,hl2⟩:=cast?_some hc
          injection et with et
          subst et
          have hl2:l2=l':=hl2
          subst hl2
          simp only [Option.some.injEq,Prod.mk.injEq,decide_eq_true_eq] at he
          obtain ⟨k1,rfl,rfl⟩:=he
          rw [hop,after k _ htch]
          obtain ⟨ht,hxv⟩:=eC hl h2
          exact MY hi tk hop hcl hpq hty h1 ht (vK hxv) hel (hho k htch) k1
         ·cases he
        ·cases he
       ·cases he
      ·cases he
     ·cases he
    ·cases he
   ·cases he
  ·cases he
 ·cases he
theorem Sp (tk:TabOk P tab) (hi:Inv B w0 St0 c) {vals:List AV} (hv:RAs c vals (o.op.operands.toList.map a.eval)) {fresh:Nat} {ho:HO}
  (hho : ∀ k,bR T o.op vals fresh=some k→c.heap[k]? = some ho) {out:AV} {ho':HO} (he:afy tab o vals ho=some (true,out,ho')):Ok P B w0 St0 o a c (aR T o.op vals fresh c.heap ho') out:=by
 have hh:aR T o.op vals fresh c.heap ho=c.heap:=cZ hho
 unfold afy at he
 split at he
 ·rename_i t len parts hop
  split at he
  ·rename_i e ht
   split at he
   ·rename_i hs
    simp only [Bool.and_eq_true,decide_eq_true_eq] at hs
    split at he
    ·rename_i τ hτ
     split at he
     ·rename_i l hl
      simp only [Option.some.injEq,Prod.mk.injEq] at he
      obtain ⟨_,rfl,rfl⟩:=he
      rw [hh]
      rw [hop] at hv
      simp only [Op.operands] at hv
      exact AD hi tk hop (by simpa using hv) ht hτ hs.1.1 hs.1.2 hs.2 hl
     ·cases he
    ·cases he
   ·cases he
  ·cases he
 ·rename_i cl hop
  split at he
  ·rename_i hcl
   replace hv:RAs c vals (cl.args.toList.map a.eval):=by rw [hop] at hv; simpa [Op.operands,Call.operands,hcl] using hv
   split at he
   ·rename_i s t hty
    have hal : ∃ x,cl.args = #[x]:=by
     have:=hv.length
     simp at this
     exact Array.size_eq_one_iff.1 this.symm
    obtain ⟨x,hx⟩:=hal
    rw [hx] at hv
    obtain ⟨u,e,hu⟩:=cO (v:=a.eval x) hv
    simp only [List.cons.injEq,and_true] at e
    subst e
    split at he
    ·rename_i e ht
     split at he
     ·rename_i n hn
      simp only [Option.some.injEq,Prod.mk.injEq] at he
      obtain ⟨_,rfl,rfl⟩:=he
      rw [hh]
      exact YH hi tk hop hcl hx hty hu hn ht
     ·cases he
    ·cases he
   ·cases he
  ·rename_i hcl
   replace hv:RAs c vals (cl.args.toList.map a.eval):=by rw [hop] at hv; simpa [Op.operands,Call.operands,hcl] using hv
   split at he
   ·rename_i s x t1 t2 htys
    have hty:cl.argTypes = #[t1,t2]:=Array.ext' (by simpa using htys)
    have hal : ∃ p q,cl.args = #[p,q]:=by
     have:=hv.length
     simp at this
     match h:cl.args.toList,(by simpa using this.symm:cl.args.toList.length=2) with
     | [p,q],_=>exact ⟨p,q,Array.ext' (by simpa using h)⟩
    obtain ⟨p,q,hpq⟩:=hal
    rw [hpq] at hv
    obtain ⟨u,u',e1,h1,h2⟩:=dT (v:=a.eval p) (v':=a.eval q) hv
    simp only [List.cons.injEq,and_true] at e1
    obtain ⟨rfl,rfl⟩:=e1
    split at he
    ·rename_i e12
     subst e12
     split at he
     ·rename_i e ht
      split at he
      ·rename_i n m hn hm
       simp only [Option.some.injEq,Prod.mk.injEq,decide_eq_true_eq] at he
       obtain ⟨hlim,rfl,rfl⟩:=he
       rw [hh]
       exact M3 hi tk hop hcl hpq hty h1 h2 hn hm ht hlim
      ·cases he
     ·cases he
    ·cases he
   ·cases he
  ·cases he
 ·cases he
theorem G0 (tk:TabOk P tab) (ts:SpecsOk P T) (hi:Inv B w0 St0 c) {g:Bool} (hg:g=true) {vals:List AV} (hv:RAs c vals (o.op.operands.toList.map a.eval)) {fresh:Nat} {ho:HO}
  (hho : ∀ k,bR T o.op vals fresh=some k→c.heap[k]? = some ho) {out:AV} {ho':HO} (he:eff tab T o g vals fresh ho=some (true,out,ho')):Ok P B w0 St0 o a c (aR T o.op vals fresh c.heap ho') out:=by
 unfold eff at he
 split at he
 ·rename_i r hr
  injection he with he
  subst he
  exact So tk hi hv hho hr
 ·split at he
  ·rename_i r hr
   injection he with he
   subst he
   exact Sp tk hi hv hho hr
  ·exact Sr tk ts hi hg hv hho he
theorem Sq (tk:TabOk P tab) (hi:Inv B w0 St0 c) {vals:List AV} (hv:RAs c vals (o.op.operands.toList.map a.eval)) {out:AV} (he:aju tab o vals=some out):Ok P B w0 St0 o a c c.heap out:=by
 unfold aju at he
 split at he
 ·rename_i t len parts hop
  rw [hop] at hv
  simp only [Op.operands] at hv
  split at he
  ·rename_i τ e ht hel
   split at he
   ·rename_i hs
    simp only [Bool.and_eq_true,decide_eq_true_eq] at hs
    split at he
    ·rename_i l hl
     simp only [Option.some.injEq] at he
     subst he
     exact wy hi tk hop (by simpa using hv) ht hel hs.1.1 hs.1.2 hs.2 hl
    ·cases he
   ·cases he
  ·cases he
 ·cases he
end
end Go.Proofs.YtboikinjlmjgjaaGreat.Abs
