/- One operation: what 'eff' says is what the model does. -/
import Derived.Test.YtboikinjlmjgjaaGreatAbsD
namespace Go.Proofs.YtboikinjlmjgjaaGreat.Abs
open Go Go.RowKit
def zl:Ty→List Value
 | .int k=>[.int k 0]
 | .bool=>[.bool false]
 | .str=>[.string ⟨#[]⟩]
 | .slice _=>[.slice none 0 0]
 | .unit=>[]
 | .cons a b=>zl a++zl b
 | .tree=>[.int .i64 0,.string ⟨#[]⟩,.slice none 0 0,.slice none 0 0]
 | .jsl _=>[.slice none 0 0]
def qQ:TypeDesc→Bool
 | .struct _ | .array _ _=>false
 | _=>true
def FOk (ty:TypeId→Option Ty):List Field→List Ty→Nat→Prop
 | [],[],_=>True
 | f::fs,a::as,off=>(∃ b,ty f.type=some b∧b.size=a.size∧b.isStruct=a.isStruct∧(a.nojk=true→b=a))∧f.offset=off∧0<a.size∧f.name ≠ "_" ∧ FOk ty fs as (off+a.size)
 | _,_,_=>False
def Ux (P:Program) (tab:Tab) (t:TypeId):Ty→Prop
 | .int k=>P.underlying t=some (.int k)
 | .bool=>P.underlying t=some .bool
 | .str=>P.underlying t=some .string
 | .slice a => ∃ e,P.underlying t=some (.slice e)∧tab.ty e=some a∧tab.elem t=some e∧0<a.size
 | .jsl e => ∃ a,P.underlying t=some (.slice e)∧tab.ty e=some a∧a.size=1∧tab.elem t=some e
 | τ => ∃ fs,P.underlying t=some (.struct fs)∧P.stoodInHeld t=false∧P.eqGuardType P.depth t=false∧FOk tab.ty fs.toList τ.fields 0
structure TabOk (P:Program) (tab:Tab):Prop where
 ty : ∀ t τ,tab.ty t=some τ → ∃ i z,P.info? t=some i∧i.size=τ.size∧i.zero=some z∧z.cells.toList=zl τ∧i.bytes≤16384∧(τ.isStruct=true → ∃ cs,z = .agg cs)∧Ux P tab t τ
 cells : ∀ t n,tab.cells t=some n → ∃ i z d,P.info? t=some i∧i.size=n∧i.zero=some z∧z.cells.size=n∧P.underlying t=some d∧(tab.ty t=none→n=1→qQ d=true)
 offs : ∀ t i d,tab.offs t i=some d → ∃ fs f j,P.underlying t=some (.struct fs)∧fs[i]? = some f∧f.offset=d∧P.info? f.type=some j∧0<j.size
 elem : ∀ t e,tab.elem t=some e→P.underlying t=some (.slice e)
 one : ∀ t n,tab.one t=some n → ∃ fs i z,P.underlying t=some (.struct fs)∧fs.size=n∧(∀ (k:Nat) f,fs[k]? = some f→f.offset=k ∧ ∃ j,P.info? f.type=some j∧j.size=1)∧P.info? t=some i∧i.zero=some z∧z.cells.size=n
 arr : ∀ t n,tab.arr t=some n → ∃ e i z j,P.underlying t=some (.array n e)∧P.info? e=some j∧j.size=1∧P.info? t=some i∧i.zero=some z∧z.cells.size=n
section
variable {P:Program} {tab:Tab}
theorem fF {t:TypeId} {τ:Ty} (hs:τ.isStruct=true) (h:Ux P tab t τ) : ∃ fs,P.underlying t=some (.struct fs)∧P.stoodInHeld t=false∧P.eqGuardType P.depth t=false∧FOk tab.ty fs.toList τ.fields 0:=by
 cases τ <;> simp [Ty.isStruct] at hs <;> exact h
theorem F2 (tk:TabOk P tab) {t:TypeId} {τ:Ty} (h:tab.ty t=some τ) (w:World):(isAgg t).run P w = .ok τ.isStruct w:=by
 obtain ⟨i,z,_,_,_,_,_,_,hu⟩:=tk.ty t τ h
 cases τ with
 | slice a=>obtain ⟨e,he,_⟩:=hu; simp [isAgg,run_underlying he,Ty.isStruct]
 | jsl e=>obtain ⟨a,he,_⟩:=hu; simp [isAgg,run_underlying he,Ty.isStruct]
 | int k=>have hu:P.underlying t=some (.int k):=hu; simp [isAgg,run_underlying hu,Ty.isStruct]
 | bool=>have hu:P.underlying t=some .bool:=hu; simp [isAgg,run_underlying hu,Ty.isStruct]
 | str=>have hu:P.underlying t=some .string:=hu; simp [isAgg,run_underlying hu,Ty.isStruct]
 | unit=>obtain ⟨fs,hf,_⟩:=hu; simp [isAgg,run_underlying hf,Ty.isStruct]
 | cons a b=>obtain ⟨fs,hf,_⟩:=hu; simp [isAgg,run_underlying hf,Ty.isStruct]
 | tree=>obtain ⟨fs,hf,_⟩:=hu; simp [isAgg,run_underlying hf,Ty.isStruct]
theorem dp (tk:TabOk P tab) {t:TypeId} {τ:Ty} (h:tab.ty t=some τ) (w:World):(sizeOf t).run P w = .ok τ.size w:=by
 obtain ⟨i,z,hi,hs,_⟩:=tk.ty t τ h
 simp [sizeOf,typeInfo,hi,hs]
theorem pl {τ:Ty} (h:τ.isStruct=false):τ.size=1:=by cases τ <;> simp [Ty.isStruct] at h <;> rfl
theorem cT (tk:TabOk P tab) {t:TypeId} {τ:Ty} (h:tab.ty t=some τ) (w:World) (ad:Addr) (ds:List Value) (hl:ds.length=τ.size) (hc : ∀ j u,ds[j]? = some u→w.cell? (ad.add j)=some u) :
  ∃ v,(loadVar t ad).run P w = .ok v w∧(if τ.isStruct then v = .agg ds.toArray else ds=[v]):=by
 simp only [loadVar,Sem.run_bind,F2 tk h,Result.andThen_ok]
 cases hs:τ.isStruct with
 | true =>
  simp only [if_true,Sem.run_bind,dp tk h,Result.andThen_ok]
  rw [← hl,run_loadCells_list (P:=P) w ad ds hc]
  simp
 | false =>
  have h1:=pl hs
  rw [h1] at hl
  match ds,hl with
  | [u],_ =>
   have:=hc 0 u rfl
   rw [add_zero] at this
   simp [run_load,this]
theorem fk {w:World} {St:Sb} {τ:Ty} {x:τ.den} {ds:List Value} {v:Value} (h:Rep w St (toD τ x) ds) (hv:if τ.isStruct then v = .agg ds.toArray else ds=[v]):cE w St τ x v:=by
 unfold cE
 split
 ·rename_i hs; simp only [hs,if_true] at hv; exact ⟨ds,hv,h⟩
 ·rename_i hs; simp only [hs] at hv; simp only [Bool.false_eq_true,if_false] at hv; rw [hv] at h; exact h
end
section
variable {P:Program} {tab:Tab} {B:Bd} {w0:World} {St0:Sb} {c:Gh} {o:Oper} {a:Act}
def Ok (P:Program) (B:Bd) (w0:World) (St0:Sb) (o:Oper) (a:Act) (c:Gh) (heap':List HO) (out:AV):Prop :=
 ∀ (K:Act→World→Prop) (Q:Exit→Act→World→Prop),(∀ v c',c'.heap=heap'→Inv B w0 St0 c'→Ev c c'→RA c' out [v]→K (a.put o.dst v) c'.w)→o.wp P a c.w K Q
theorem cx {v:Value} {c':Gh} {heap':List HO} {out:AV} (hr:(execOp a.eval o).run P c.w = .ok (.value v) c'.w) (hh:c'.heap=heap') (hi:Inv B w0 St0 c') (he:Ev c c') (ho:RA c' out [v]) :
  Ok P B w0 St0 o a c heap' out:=fun K Q h=>by
 unfold Oper.wp
 rw [hr]
 exact h v c' hh hi he ho
theorem aH {v:Value} {out:AV} (hi:Inv B w0 St0 c) (hr:(execOp a.eval o).run P c.w = .ok (.value v) c.w) (ho:RA c out [v]):Ok P B w0 St0 o a c c.heap out :=
 cx hr rfl hi (Ev.refl c) ho
theorem Tp {x:Operand} (hi:Inv B w0 St0 c) (ho:o.op = .move x∨o.op = .assign x) {u:AV} (hv:RA c u [a.eval x]):Ok P B w0 St0 o a c c.heap u:=by
 refine aH hi (v:=a.eval x) ?_ hv
 unfold execOp
 rcases ho with ho | ho <;> simp [ho]
theorem RA.val_inv {t:Ty} {x:t.den} {v:Value} (h:RA c (.val t x) [v]):cE c.w c.St t x v:=by
 obtain ⟨v',e,h⟩:=h
 simp at e; subst e; exact h
theorem eI {w:World} {St:Sb} {b:Bool} {v:Value} (h:cE w St .bool b v):v = .bool b:=by
 have h:=(aA rfl).1 h
 obtain ⟨h,_⟩:=h
 simpa using h
theorem cM {w:World} {St:Sb} {k:IntKind} {n:Int} {v:Value} (h:cE w St (.int k) n v):v = .int k n:=by
 have h:=(aA rfl).1 h
 obtain ⟨h,_⟩:=h
 simpa using h
theorem vY {w:World} {St:Sb} {s:Str} {v:Value} (h:cE w St .str s v):v = .string ⟨s.toArray⟩:=by
 have h:=(aA rfl).1 h
 obtain ⟨h,_⟩:=h
 simpa using h
theorem Mu (w:World) (St:Sb) (b:Bool):cE w St .bool b (.bool b):=(aA rfl).2 ⟨rfl,rfl⟩
theorem PW (w:World) (St:Sb) (k:IntKind) (n:Int):cE w St (.int k) n (.int k n):=(aA rfl).2 ⟨rfl,rfl⟩
theorem PV (w:World) (St:Sb) (s:Str):cE w St .str s (.string ⟨s.toArray⟩):=(aA rfl).2 ⟨rfl,rfl⟩
theorem cw (b:Bool):RA c (.val .bool b) [.bool b]:=⟨_,rfl,Mu _ _ b⟩
theorem cY (k:IntKind) (n:Int):RA c (.val (.int k) n) [.int k n]:=⟨_,rfl,PW _ _ k n⟩
theorem yo (s:Str):RA c (.val .str s) [.string ⟨s.toArray⟩]:=⟨_,rfl,PV _ _ s⟩
theorem ud {need:Bool} {u:AV} {v:Value} (h:RA c u [v]) (hc:(wq need u).1=true) (hn:need=true):RA c (wq need u).2 [v]:=by
 unfold wq at *
 split at hc
 ·rename_i g u'
  have hc:aC need g=true:=hc
  rw [hn,nM] at hc
  simp only [RA,hc,if_true] at h
  exact h
 ·exact h
theorem adE {x y z:Operand} (hi:Inv B w0 St0 c) (ho:o.op = .pick x y z) {b:Bool} {p q:AV} (hx:RA c (.val .bool b) [a.eval x]) (hy:b=true→RA c p [a.eval y]) (hz:b=false→RA c q [a.eval z])
  {t:Ty} {s r:t.den} (hp:p = .val t s) (hq:q = .val t r):Ok P B w0 St0 o a c c.heap (.val t (bif b then s else r)):=by
 subst hp; subst hq
 have hb:=eI hx.val_inv
 refine aH hi (v:=if b then a.eval y else a.eval z) ?_ ?_
 ·unfold execOp
  simp [ho,hb,asBool]
 ·cases b
  ·exact hz rfl
  ·exact hy rfl
theorem cU {w:World} {St:Sb} : ∀ t:Ty,Rep w St (toD t (zero t)) (zl t)
 | .int _=>⟨rfl,rfl⟩
 | .bool=>⟨rfl,rfl⟩
 | .str=>⟨rfl,rfl⟩
 | .slice _=>⟨none,0,0,rfl,rfl,Nat.le_refl _,.inl rfl⟩
 | .jsl _=>⟨none,0,rfl,.inl ⟨rfl,rfl,rfl⟩⟩
 | .unit=>rfl
 | .cons a b=>⟨_,_,rfl,cU a,cU b⟩
 | .tree=>⟨[.int .i64 0],_,rfl,⟨rfl,rfl⟩,[.string ⟨#[]⟩],_,rfl,⟨rfl,rfl⟩,[.slice none 0 0],_,rfl,⟨none,0,0,rfl,rfl,Nat.le_refl _,.inl rfl⟩,[.slice none 0 0],_,rfl,⟨none,0,0,rfl,rfl,Nat.le_refl _,.inl rfl⟩,rfl⟩
theorem me : ∀ t:Ty,RAs c (zn t) (zl t)
 | .int k=>⟨cY k 0,trivial⟩
 | .bool=>⟨cw false,trivial⟩
 | .str=>⟨yo [],trivial⟩
 | .slice _=>⟨rfl,trivial⟩
 | .jsl _=>⟨rfl,trivial⟩
 | .unit=>trivial
 | .cons a b=>(me a).append (me b)
 | .tree=>⟨cY .i64 0,yo [],rfl,rfl,trivial⟩
theorem II (hi:Inv B w0 St0 c) {fresh:Nat} (hf:c.heap[fresh]? = some .none) {t:TypeId} {arr:Array Value} {cells:List AV} (hr:RAs c cells arr.toList) :
  ∃ c',c'.w=c.w.alloc (.cells arr t)∧c'.heap=c.heap.set fresh (.box cells)∧Inv B w0 St0 c'∧Ev c c'∧RA c' (.box fresh 0) [.pointer (some ⟨c.w.heap.size,0,none⟩)]:=by
 obtain ⟨h1,e1⟩:=hi.grow (w':=c.w.alloc (.cells arr t)) (St':=c.St) ((Below.refl _ _).alloc (Nat.le_refl _) _) (Sb.le.refl _) (fun _ _ x => .inl x) (Nat.le_refl _) (fun _ _ _ _ x => .inl x)
 obtain ⟨h2,e2⟩:=h1.addBox (k:=fresh) (g:=c.w.heap.size) (arr:=arr) (t:=t) (cells:=cells) hf (heap_alloc_new c.w _) hi.size (fun f=>by have:=hi.fl _ f; omega)
  (fun o x=>by have:=hi.bnd _ _ x; omega) (fun k' x=>by have:=(dO hi (k:=k') x).1; omega) (fun e cap n x=>(hi.junk _ e cap n x).resolve_right fun q=>Nat.lt_irrefl _ q.lt) (hr.mono e1)
 refine ⟨_,rfl,rfl,h2,e1.trans e2,cells, ?_, ?_⟩
 ·show (c.heap.set fresh _)[fresh]? = _
  rw [bv,if_pos rfl,if_pos (aE hf)]
 ·simp
theorem YK (hi:Inv B w0 St0 c) (tk:TabOk P tab) {t:TypeId} (ho:o.op = .alloc t) {fresh:Nat} (hf:c.heap[fresh]? = some .none) {τ:Ty} (ht:tab.ty t=some τ) :
  Ok P B w0 St0 o a c (c.heap.set fresh (.box (zn τ))) (.box fresh 0):=by
 obtain ⟨i,z,h1,h2,h3,h4,_⟩:=tk.ty t τ ht
 obtain ⟨c',hw,hh,hI,hE,hR⟩:=II (t:=t) hi hf (arr:=z.cells) (cells:=zn τ) (by rw [h4]; exact me τ)
 refine cx (v := .pointer (some ⟨c.w.heap.size,0,none⟩)) ?_ hh hI hE hR
 rw [hw]
 unfold execOp
 simp [ho,Instr.alloc,zeroValue,typeInfo,h1,h3,newVar,newRow]
theorem BI : ∀ {n:Nat} {vs:List Value},vs.length=n→RAs c (List.replicate n .unk) vs
 | 0,[],_=>trivial
 | n+1,v::vs,h=>⟨⟨v,rfl⟩,BI (by simpa using h)⟩
theorem IF (hi:Inv B w0 St0 c) (tk:TabOk P tab) {t:TypeId} (ho:o.op = .alloc t) {fresh:Nat} (hf:c.heap[fresh]? = some .none) {n:Nat} (ht:tab.cells t=some n) :
  Ok P B w0 St0 o a c (c.heap.set fresh (.box (List.replicate n .unk))) (.box fresh 0):=by
 obtain ⟨i,z,d,h1,h2,h3,h4,_⟩:=tk.cells t n ht
 obtain ⟨c',hw,hh,hI,hE,hR⟩:=II (t:=t) hi hf (arr:=z.cells) (cells:=List.replicate n .unk) (BI (by simpa using h4))
 refine cx (v := .pointer (some ⟨c.w.heap.size,0,none⟩)) ?_ hh hI hE hR
 rw [hw]
 unfold execOp
 simp [ho,Instr.alloc,zeroValue,typeInfo,h1,h3,newVar,newRow]
theorem nz {u:AV} {v:Value} (h:RA c u [v]) (hu:u.solid=true) :
  RAs c (cellsOf u) v.cells.toList ∧ ∀ x∈v.cells.toList,x.oneCell'=true:=by
 cases u with
 | unk=>simp [AV.solid] at hu
 | cond g u=>simp [AV.solid] at hu
 | tup p=>simp [AV.solid] at hu
 | pcons a b=>simp [AV.solid] at hu
 | pnil=>simp [AV.solid] at hu
 | fix C w=>simp [AV.solid] at hu
 | val t x=>exact ⟨lM h.val_inv.cells,h.val_inv.cells.one⟩
 | nil =>
  have h:[v]=[.slice none 0 0]:=h
  simp at h; subst h
  exact ⟨⟨rfl,trivial⟩,by simp [Value.cells,Value.oneCell']⟩
 | own k n t l =>
  have h':=h
  obtain ⟨s,e,r,_⟩:=h
  simp at e; subst e
  have hc:=((aA (t := .slice t) rfl).1 r)
  obtain ⟨A,n',cp,e,_⟩:=hc
  simp at e; subst e
  exact ⟨⟨h',trivial⟩,by simp [Value.cells,Value.oneCell']⟩
 | ref t x =>
  have h':=h
  obtain ⟨ad,ds,e,_⟩:=h
  simp at e; subst e
  exact ⟨⟨h',trivial⟩,by simp [Value.cells,Value.oneCell']⟩
 | box k off =>
  have h':=h
  obtain ⟨cs,_,e⟩:=h
  simp at e; subst e
  exact ⟨⟨h',trivial⟩,by simp [Value.cells,Value.oneCell']⟩
 | fn f caps =>
  have h':=h
  obtain ⟨cs,e,_⟩:=h
  simp at e; subst e
  exact ⟨⟨h',trivial⟩,by simp [Value.cells,Value.oneCell']⟩
 | agg p =>
  obtain ⟨cs,e,r,hc,h1⟩:=h
  simp at e; subst e
  exact ⟨by simpa [Value.cells,cellsOf] using r.parts hc,by simpa [Value.cells] using h1⟩
 | msl k n lo hi =>
  have h':=h
  obtain ⟨s,e,o1,_⟩:=h
  simp at e; subst e
  have hc:v.cells = #[v]:=by cases v <;> simp_all [Value.oneCell',Value.cells]
  rw [hc]
  exact ⟨⟨h',trivial⟩,by simpa using o1⟩
 | yld j =>
  have h':=h
  obtain ⟨_,e⟩:=h
  simp at e; subst e
  exact ⟨⟨h',trivial⟩,by simp [Value.cells,Value.oneCell']⟩
 | mpt k n i off =>
  have h':=h
  obtain ⟨s,e,o1,_⟩:=h
  simp at e; subst e
  have hc:v.cells = #[v]:=by cases v <;> simp_all [Value.oneCell',Value.cells]
  rw [hc]
  exact ⟨⟨h',trivial⟩,by simpa using o1⟩
theorem ahj (hi:Inv B w0 St0 c) {t:TypeId} {x:Operand} (ho:o.op = .box t x) {fresh:Nat} (hf:c.heap[fresh]? = some .none) {u:AV} (hv:RA c u [a.eval x])
  (hu:u.solid=true) :
  Ok P B w0 St0 o a c (c.heap.set fresh (.box (cellsOf u))) (.box fresh 0):=by
 obtain ⟨hr,_⟩:=nz hv hu
 obtain ⟨c',hw,hh,hI,hE,hR⟩:=II (t:=t) hi hf hr
 refine cx (v := .pointer (some ⟨c.w.heap.size,0,none⟩)) ?_ hh hI hE hR
 rw [hw]
 unfold execOp
 simp [ho,Instr.box,newVar,newRow]
theorem oT (hi:Inv B w0 St0 c) {k:Nat} {cells:List AV} (hk:c.heap[k]? = some (.box cells)) :
  ∃ arr t,c.w.heap[c.blk k]? = some (.cells arr t (0,0))∧RAs c cells arr.toList ∧ ∀ j,c.w.cell? ⟨c.blk k,j,none⟩=arr.toList[j]? := by
 obtain ⟨arr,t,h1,_,_,h4⟩:=hi.box k cells hk
 refine ⟨arr,t,h1,h4,fun j => ?_⟩
 rw [cell_of_row c.w (c.blk k) j arr t (0,0) h1]
 simp
theorem dY (b off j:Nat):(⟨b,off,none⟩:Addr).add j=⟨b,off+j,none⟩:=by unfold Addr.add; split <;> simp_all
theorem CV (hi:Inv B w0 St0 c) (tk:TabOk P tab) {t:TypeId} {x:Operand} (ho:o.op = .load t x) {k off:Nat} (hv:RA c (.box k off) [a.eval x]) {cells:List AV} (hk:c.heap[k]? = some (.box cells)) {τ:Ty}
  (ht:tab.ty t=some τ) {y:τ.den} (hy:asm τ ((cells.drop off).take τ.size)=some y):Ok P B w0 St0 o a c c.heap (.val τ y):=by
 obtain ⟨cs,hk',e⟩:=hv
 obtain ⟨arr,t',h1,h2,h3⟩:=oT hi hk
 have hrep:=gh hy ((h2.drop off).take τ.size)
 obtain ⟨v,hrun,hval⟩:=cT tk ht c.w ⟨c.blk k,off,none⟩ _ hrep.size (fun j u hu=>by
  rw [dY,h3, ← hu,List.getElem?_take]
  have hj:j<τ.size:=by
   rcases Nat.lt_or_ge j τ.size with h | h
   ·exact h
   ·rw [List.getElem?_take,if_neg (by omega)] at hu; cases hu
  rw [if_pos hj,List.getElem?_drop])
 refine aH hi (v:=v) ?_ ⟨v,rfl,fk hrep hval⟩
 unfold execOp
 simp at e
 simp [ho,e,Instr.loadAt,Instr.sureAddr,hrun]
theorem yh {t:TypeId} {d:TypeDesc} (hd:P.underlying t=some d) (hn:qQ d=true) (w:World) (ad:Addr) (u:Value) (hc:w.cell? ad=some u):(loadVar t ad).run P w = .ok u w:=by
 have:(isAgg t).run P w = .ok false w:=by
  cases d <;> simp [isAgg,run_underlying hd,qQ] at hn ⊢
 simp [loadVar,this,run_load,hc]
theorem wv (hi:Inv B w0 St0 c) {t:TypeId} {x:Operand} (ho:o.op = .load t x) {k off:Nat} (hv:RA c (.box k off) [a.eval x]) {cells:List AV} (hk:c.heap[k]? = some (.box cells)) {d:TypeDesc} (hd:P.underlying t=some d)
  (hn:qQ d=true) {u:AV} (hu:cells[off]? = some u):Ok P B w0 St0 o a c c.heap u:=by
 obtain ⟨cs,hk',e⟩:=hv
 obtain ⟨arr,t',h1,h2,h3⟩:=oT hi hk
 obtain ⟨v,hv1,hv2⟩:=h2.get off u hu
 refine aH hi (v:=v) ?_ hv2
 unfold execOp
 simp at e
 simp [ho,e,Instr.loadAt,Instr.sureAddr,yh hd hn c.w ⟨c.blk k,off,none⟩ v ((h3 off).trans hv1)]
theorem B1 {t:TypeId} {τ:Ty} (hs:τ.isStruct=false) (h:Ux P tab t τ) : ∃ d,P.underlying t=some d∧qQ d=true:=by
 cases τ with
 | int k=>exact ⟨_,h,rfl⟩
 | bool=>exact ⟨_,h,rfl⟩
 | str=>exact ⟨_,h,rfl⟩
 | slice t=>obtain ⟨e,he,_⟩:=h; exact ⟨_,he,rfl⟩
 | jsl e=>obtain ⟨a,he,_⟩:=h; exact ⟨_,he,rfl⟩
 | _=>simp [Ty.isStruct] at hs
theorem MZ (hi:Inv B w0 St0 c) (tk:TabOk P tab) {t:TypeId} {x:Operand} (ho:o.op = .load t x) {τ:Ty} {y:τ.den} (hv:RA c (.ref τ y) [a.eval x]) (ht:tab.ty t=some τ):Ok P B w0 St0 o a c c.heap (.val τ y):=by
 obtain ⟨ad,ds,e,hs,hd,hc⟩:=hv
 obtain ⟨v,hrun,hval⟩:=cT tk ht c.w ad ds hd.size (fun j u hu=>(hc j u hu).1)
 refine aH hi (v:=v) ?_ ⟨v,rfl,fk hd hval⟩
 unfold execOp
 simp at e
 simp [ho,e,Instr.loadAt,Instr.sureAddr,hrun]
theorem YE (hi:Inv B w0 St0 c) (tk:TabOk P tab) {t:TypeId} {x y:Operand} (ho:o.op = .store t x y) {k off:Nat} {u:AV} (hx:RA c (.box k off) [a.eval x]) (hy:RA c u [a.eval y]) {cells:List AV} (hk:c.heap[k]? = some (.box cells))
  (hu:u.solid=true) (hoff:off+(cellsOf u).length≤cells.length) (ht:tab.cells t=some (cellsOf u).length) :
  Ok P B w0 St0 o a c (c.heap.set k (.box (HR cells off (cellsOf u)))) .unk:=by
 obtain ⟨hr,h1c⟩:=nz hy hu
 obtain ⟨cs,hk',e⟩:=hx
 obtain ⟨arr,t',h1,h2,h3⟩:=oT hi hk
 obtain ⟨i,z,d,hinfo,hsz,_⟩:=tk.cells t _ ht
 have hlen:=h2.length
 have hlen':=hr.length
 have hfit:off+0+(a.eval y).cells.toList.length≤arr.size:=by rw [← hlen']; simp at hlen; omega
 have hst:=run_storeCells_at (P:=P) (c.blk k) off t' (a.eval y).cells.toList 0 arr c.w h1 hfit h1c
 obtain ⟨hI,hE⟩:=hi.setBox (cells':=HR cells off (cellsOf u)) (arr':=(arr.toList.take off++(a.eval y).cells.toList++arr.toList.drop (off+(a.eval y).cells.toList.length)).toArray) hk h1 (by
  have:=((h2.take off).append hr).append (h2.drop (off+(cellsOf u).length))
  rw [hlen'] at this
  unfold HR
  rw [hlen']
  simpa using this)
 intro K Q h
 have hrun:(execOp a.eval o).run P c.w = .ok .skip (c.w.setRow (c.blk k) (arr.toList.take off++(a.eval y).cells.toList++arr.toList.drop (off+(a.eval y).cells.toList.length)).toArray):=by
  unfold execOp
  simp at e
  have hcs:(a.eval y).cells.size=i.size:=by rw [hsz,hlen']; simp
  simp only [Nat.add_zero] at hst
  simp [ho,e,Instr.storeAt,Instr.sureAddr,storeVar,sizeOf,typeInfo,hinfo,hcs,hst]
 unfold Oper.wp
 rw [hrun]
 exact h undef _ rfl hI hE ⟨_,rfl⟩
theorem yt (hi:Inv B w0 St0 c) (tk:TabOk P tab) {s:TypeId} {x:Operand} {f:Nat} (ho:o.op = .fieldAddr s x f) {k off d:Nat} (hx:RA c (.box k off) [a.eval x]) (hd:tab.offs s f=some d) :
  Ok P B w0 St0 o a c c.heap (.box k (off+d)):=by
 obtain ⟨cs,hk,e⟩:=hx
 obtain ⟨fs,fl,j,h1,h2,h3,h4,h5⟩:=tk.offs s f d hd
 refine aH hi (v := .pointer (some ⟨c.blk k,off+d,none⟩)) ?_ ⟨cs,hk,rfl⟩
 unfold execOp
 simp at e
 have hj : ¬ j.size=0:=by omega
 simp [ho,e,Instr.fieldAt,run_underlying h1,h2,Instr.sureAddr,fieldPlace,sizeOf,typeInfo,h4,hj,dY,h3]
end
end Go.Proofs.YtboikinjlmjgjaaGreat.Abs
