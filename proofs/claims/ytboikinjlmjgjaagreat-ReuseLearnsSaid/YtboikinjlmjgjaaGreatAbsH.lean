/- One operation, the end: structs compared, literals, slices, append, calls; 'eff' is sound. -/
import Derived.Test.YtboikinjlmjgjaaGreatAbsG
namespace Go.Proofs.YtboikinjlmjgjaaGreat.Abs
open Go Go.RowKit
section
variable {P:Program} {tab:Tab} {B:Bd} {w0:World} {St0:Sb} {c:Gh} {o:Oper} {a:Act}
theorem E6 (hi:Inv B w0 St0 c) (tk:TabOk P tab) {op:BinOp} {tx ty:TypeId} {x y:Operand} (ho:o.op = .binOp op tx x y ty) {U V t':Ty} {m:(Ty.cons U V).den} {n:t'.den} (hx:RA c (.val (.cons U V) m) [a.eval x]) (hy:RA c (.val t' n) [a.eval y]) {v:AV}
  (h:nA op (tab.ty tx) (.val (.cons U V) m) (.val t' n)=some (true,v)):Ok P B w0 St0 o a c c.heap v:=by
 simp only [nA] at h
 split at h
 ·rename_i ht
  split at h
  ·rename_i hfe
   simp only [Bool.and_eq_true,decide_eq_true_eq] at hfe
   split at h
   ·rename_i n' hn
    obtain ⟨e,hn⟩:=cast?_some hn
    subst e
    have hn:n'=n:=hn
    subst hn
    obtain ⟨i,z,_,_,_,_,_,_,hu⟩:=tk.ty tx _ ht
    obtain ⟨fs,h1,h2,h3,_⟩:=fF (τ := .cons U V) rfl hu
    have he:=(eqT (P:=P) tk (w:=c.w) (St:=c.St) (.cons U V)).2 tx 10000 m _ _ _ ht hfe.1 hfe.2 hx.val_inv hy.val_inv
    have hxv:=hx.val_inv
    have hyv:=hy.val_inv
    unfold cE at hxv hyv
    rw [if_pos (show (Ty.cons U V).isStruct=true from rfl)] at hxv hyv
    obtain ⟨cs,ex,_⟩:=hxv
    obtain ⟨cs',ey,_⟩:=hyv
    rw [ex,ey] at he
    cases op <;> simp only at h <;> first | (cases h; done) | skip
    all_goals (injection h with h; injection h with hc h; subst h)
    case eql=>refine aH hi ?_ (cw _); unfold execOp; simp [ho,ex,ey,eqGuard,h3,run_program,binOp,Op.equal,Op.maxDepth,he]
    case neq=>refine aH hi ?_ (cw _); unfold execOp; simp [ho,ex,ey,eqGuard,h3,run_program,binOp,Op.equal,Op.maxDepth,he]
   ·cases h
  ·cases h
 ·cases h
theorem Ek (off:Nat) : ∀ (vs:List Value) (k:Nat) (cells:Array Value),off+k+vs.length≤cells.size →
  ((vs.zipIdx k).foldl (fun cs (x:Value×Nat)=>cs.setIfInBounds (off+x.2) x.1) cells).toList=cells.toList.take (off+k)++vs++cells.toList.drop (off+k+vs.length)
 | [],k,cells,_=>by simp
 | v::vs,k,cells,h=>by
  simp only [List.zipIdx_cons,List.foldl_cons]
  simp only [List.length_cons] at h
  rw [Ek off vs (k+1) _ (by simp; omega)]
  have hlt:off+k<cells.toList.length:=by simp; omega
  simp only [Array.toList_setIfInBounds,List.length_cons]
  rw [show off+(k+1)=off+k+1 by omega,show off+k+1+vs.length=off+k+(vs.length+1) by omega,List.take_set,List.drop_set_of_lt (by omega),
   List.take_succ_eq_append_getElem hlt,List.set_append_right _ _ (by simp; omega)]
  have hm:min (off+k) cells.size=off+k:=by omega
  simp [hm]
theorem uX (off:Nat) (v:Value) (cells:Array Value) (h:off+v.cells.size≤cells.size) :
  (v.cells.zipIdx.foldl (fun cs (x:Value×Nat)=>cs.setIfInBounds (off+x.2) x.1) cells).toList=cells.toList.take off++v.cells.toList++cells.toList.drop (off+v.cells.size):=by
 rw [← Array.foldl_toList,Array.toList_zipIdx]
 have:=Ek off v.cells.toList 0 cells (by simpa using h)
 simpa using this
theorem Mf : ∀ {t:Ty} {x y:t.den} {i:Nat} {u:AV} {v:Value} {ds:List Value},uD t x i u=some y→RA c u [v]→Rep c.w c.St (toD t x) ds →
  ∃ A,t.fields[i]? = some A∧v.cells.size=A.size∧lK t.fields i+A.size≤ds.length∧Rep c.w c.St (toD t y) (ds.take (lK t.fields i)++v.cells.toList++ds.drop (lK t.fields i+A.size))
 | .cons A Bt,x,y,0,u,v,ds,h,hu,r=>by
  simp only [uD] at h
  split at h
  ·rename_i z hz
   injection h with h
   subst h
   obtain ⟨c1,c2,rfl,r1,r2⟩:=r
   have hv:=(dat?_sound hz hu).cells
   have hs:=hv.size
   refine ⟨A,rfl,by simpa using hs,by simp [lK,Ty.fields,r1.size], ?_⟩
   simp only [lK,Ty.fields,List.take_zero,List.nil_append,Nat.zero_add]
   rw [← r1.size,List.drop_left]
   exact ⟨_,_,rfl,hv,r2⟩
  ·cases h
 | .cons A Bt,x,y,i+1,u,v,ds,h,hu,r=>by
  simp only [uD] at h
  split at h
  ·rename_i z hz
   injection h with h
   subst h
   obtain ⟨c1,c2,rfl,r1,r2⟩:=r
   obtain ⟨A',h1,h2,h3,h4⟩:=Mf hz hu r2
   refine ⟨A',by simpa [Ty.fields] using h1,h2,by simp [lK,Ty.fields,r1.size]; omega, ?_⟩
   simp only [lK,Ty.fields]
   rw [← r1.size,Nat.add_assoc,List.take_length_add_append,List.drop_length_add_append]
   exact ⟨c1,_,by simp,r1,h4⟩
  ·cases h
 | .tree,.mk k t ls ks,y,i,u,v,ds,h,hu,r=>by
  simp only [toD,qj] at r
  obtain ⟨c1,c2,rfl,h1,c3,c4,rfl,h2,c5,c6,rfl,h3,c7,c8,rfl,h4,h5⟩:=r
  have h5:c8=[]:=h5
  subst h5
  have h1':=h1
  obtain ⟨rfl,o1⟩:=h1
  have h2':=h2
  obtain ⟨rfl,o2⟩:=h2
  have h3':=h3
  obtain ⟨A1,n,cp,rfl,_⟩:=h3
  have h4':=h4
  obtain ⟨A2,n',cp',rfl,_⟩:=h4
  match i with
  | 0 =>
   simp only [uD] at h
   split at h
   ·rename_i z hz
    injection h with h; subst h
    have hv:=(dat?_sound hz hu).cells
    have hs:=hv.size
    obtain ⟨e,he⟩:=List.length_eq_one_iff.1 hs
    rw [he] at hv ⊢
    exact ⟨_,rfl,by simpa using hs,by simp [lK,Ty.fields,Ty.size],⟨[e],_,rfl,hv,[_],_,rfl,h2',[_],_,rfl,h3',[_],_,rfl,h4',rfl⟩⟩
   ·cases h
  | 1 =>
   simp only [uD] at h
   split at h
   ·rename_i z hz
    injection h with h; subst h
    have hv:=(dat?_sound hz hu).cells
    have hs:=hv.size
    obtain ⟨e,he⟩:=List.length_eq_one_iff.1 hs
    rw [he] at hv ⊢
    exact ⟨_,rfl,by simpa using hs,by simp [lK,Ty.fields,Ty.size],⟨[_],_,rfl,h1',[e],_,rfl,hv,[_],_,rfl,h3',[_],_,rfl,h4',rfl⟩⟩
   ·cases h
  | 2 =>
   simp only [uD] at h
   split at h
   ·rename_i z hz
    injection h with h; subst h
    have hv:=(dat?_sound hz hu).cells
    have hs:=hv.size
    obtain ⟨e,he⟩:=List.length_eq_one_iff.1 hs
    rw [he] at hv ⊢
    exact ⟨_,rfl,by simpa using hs,by simp [lK,Ty.fields,Ty.size],⟨[_],_,rfl,h1',[_],_,rfl,h2',[e],_,rfl,hv,[_],_,rfl,h4',rfl⟩⟩
   ·cases h
  | 3 =>
   simp only [uD] at h
   split at h
   ·rename_i z hz
    injection h with h; subst h
    have hv:=(dat?_sound hz hu).cells
    have hs:=hv.size
    have hv':Rep c.w c.St (.sl (qy z)) v.cells.toList:=by rw [g0]; exact hv
    obtain ⟨e,he⟩:=List.length_eq_one_iff.1 hs
    rw [he] at hv' ⊢
    exact ⟨_,rfl,by simpa using hs,by simp [lK,Ty.fields,Ty.size],⟨[_],_,rfl,h1',[_],_,rfl,h2',[_],_,rfl,h3',[e],_,rfl,hv',rfl⟩⟩
   ·cases h
  | i+4=>simp [uD] at h
 | .int _,_,_,_,_,_,_,h,_,_=>by simp [uD] at h
 | .bool,_,_,_,_,_,_,h,_,_=>by simp [uD] at h
 | .str,_,_,_,_,_,_,h,_,_=>by simp [uD] at h
 | .slice _,_,_,_,_,_,_,h,_,_=>by simp [uD] at h
 | .unit,_,_,_,_,_,_,h,_,_=>by simp [uD] at h
theorem Ap (tk:TabOk P tab) {τ:Ty} {fs:Array Field} (hf:FOk tab.ty fs.toList τ.fields 0) : ∀ (idx:List Nat) (us:List AV) (vs:List Value) (x y:τ.den) (arr:Array Value),idx.length=us.length→RAs c us vs →
  zf τ (idx.zip us) x=some y→Rep c.w c.St (toD τ x) arr.toList →
  ∃ arr',Instr.fill ((fs.map fun f=>(f.offset,P.cellsOf f.type))[·]?) arr (idx.zip vs)=some arr'∧Rep c.w c.St (toD τ y) arr'.toList
 | [],[],[],x,y,arr,_,_,h,r=>by
  simp only [List.zip_nil_left,zf,Option.some.injEq] at h
  subst h
  exact ⟨arr,by simp [Instr.fill],r⟩
 | i::idx,u::us,v::vs,x,y,arr,hl,⟨hu,hus⟩,h,r=>by
  simp only [List.zip_cons_cons,zf] at h
  split at h
  ·rename_i z hz
   obtain ⟨A,h1,h2,h3,h4⟩:=Mf hz hu r
   obtain ⟨fl,g1,⟨Ab,g2,gs,_⟩,g3,g4,_⟩:=hf.at h1
   obtain ⟨ti,tz,t1,t2,_⟩:=tk.ty fl.type Ab g2
   rw [gs] at t2
   simp only [Nat.zero_add] at g3
   have hplace:(fs.map fun f=>(f.offset,P.cellsOf f.type))[i]? = some (lK τ.fields i,A.size):=by
    have:fs[i]? = some fl:=by simpa using g1
    simp [this,g3,Program.cellsOf,t1,t2]
   have hfc:=uX (lK τ.fields i) v arr (by rw [h2]; simpa using h3)
   obtain ⟨arr',e1,e2⟩:=Ap tk hf idx us vs z y (v.cells.zipIdx.foldl (fun cs (x:Value×Nat)=>cs.setIfInBounds (lK τ.fields i+x.2) x.1) arr) (by simpa using hl) hus h (by rw [hfc,h2]; exact h4)
   refine ⟨arr', ?_,e2⟩
   simp only [List.zip_cons_cons,Instr.fill,hplace]
   have hno : ¬ (v.cells.size≠A.size||lK τ.fields i+v.cells.size>arr.size)=true:=by
    simp [h2]; simpa using h3
   rw [if_neg hno]
   exact e1
  ·cases h
theorem YJ (hi:Inv B w0 St0 c) (tk:TabOk P tab) {t:TypeId} {parts:Array (Nat×Operand)} (ho:o.op = .build t parts) {us:List AV} (hv:RAs c us ((parts.toList.map (·.2)).map a.eval)) {τ:Ty} (ht:tab.ty t=some τ) (hs:τ.isStruct=true) {y:τ.den}
  (hy:zf τ ((parts.toList.map (·.1)).zip us) (zero τ)=some y):Ok P B w0 St0 o a c c.heap (.val τ y):=by
 obtain ⟨i,z,h1,h2,h3,h4,_,h5,hu⟩:=tk.ty t τ ht
 obtain ⟨fs,f1,_,_,f2⟩:=fF hs hu
 have hl:(parts.toList.map (·.1)).length=us.length:=by rw [hv.length]; simp
 obtain ⟨arr',e1,e2⟩:=Ap tk f2 (parts.toList.map (·.1)) us _ (zero τ) y z.cells hl hv hy (by rw [h4]; exact cU τ)
 have hzip:(parts.toList.map (·.1)).zip ((parts.toList.map (·.2)).map a.eval)=parts.toList.map (fun p=>(p.1,a.eval p.2)):=by
  rw [List.map_map,List.zip_map']
  rfl
 rw [hzip] at e1
 refine aH hi (v := .agg arr') ?_ ⟨_,rfl, ?_⟩
 ·have hm : ∀ (l:List Field) (w:World),(∀ f∈l,∃ j,P.info? f.type=some j)→(l.mapM (fun f=>(do pure (f.offset, ← sizeOf f.type):Sem (Nat×Nat)))).run P w = .ok (l.map fun f=>(f.offset,P.cellsOf f.type)) w:=by
   intro l
   induction l with
   | nil=>intro w _; simp
   | cons f l ih =>
    intro w hall
    obtain ⟨j,hj⟩:=hall f (by simp)
    have h1:(do pure (f.offset, ← sizeOf f.type):Sem (Nat×Nat)).run P w = .ok (f.offset,P.cellsOf f.type) w:=by simp [sizeOf,typeInfo,hj,Program.cellsOf]
    rw [List.mapM_cons,Sem.run_bind,h1,Result.andThen_ok,Sem.run_bind,ih w (fun g hg=>hall g (by simp [hg])),Result.andThen_ok]
    rfl
  have hall : ∀ f∈fs.toList,∃ j,P.info? f.type=some j:=by
   intro f hfm
   obtain ⟨k,hk,rfl⟩:=List.getElem_of_mem hfm
   have hlen : ∀ {fl:List Field} {as:List Ty} {off:Nat},FOk tab.ty fl as off→fl.length=as.length:=by
    intro fl
    induction fl with
    | nil=>intro as off h; cases as with | nil=>rfl | cons _ _=>exact h.elim
    | cons g fl ih=>intro as off h; cases as with | nil=>exact h.elim | cons _ as=>obtain ⟨_,_,_,_,h⟩:=h; simp [ih h]
   have hk':k<τ.fields.length:=by rw [← hlen f2]; exact hk
   obtain ⟨fl,g1,⟨_,g2,_⟩,_⟩:=f2.at (List.getElem?_eq_getElem hk')
   rw [List.getElem?_eq_getElem hk] at g1
   injection g1 with g1
   rw [g1]
   obtain ⟨ti,tz,t1,_⟩:=tk.ty fl.type _ g2
   exact ⟨ti,t1⟩
  have hmA:(fs.mapM (fun f=>(do pure (f.offset, ← sizeOf f.type):Sem (Nat×Nat)))).run P c.w = .ok (fs.map fun f=>(f.offset,P.cellsOf f.type)) c.w:=by
   have:=hm fs.toList c.w hall
   rw [Array.mapM_eq_mapM_toList,map_eq_pure_bind,Sem.run_bind,this,Result.andThen_ok]
   exact congrArg (fun l=>Result.ok l c.w) (Array.ext' (by simp))
  unfold execOp
  simp only [ho,Instr.build,zeroValue,typeInfo,Sem.run_bind,run_program,h1,Sem.run_pure,Result.andThen_ok,h3,run_underlying f1,hmA]
  rw [show (parts.map fun p=>(p.1,a.eval p.2)).toList=parts.toList.map fun p=>(p.1,a.eval p.2) by simp,e1]
  simp
 ·unfold cE
  rw [if_pos hs]
  exact ⟨arr'.toList,by simp,e2⟩
end
end Go.Proofs.YtboikinjlmjgjaaGreat.Abs
