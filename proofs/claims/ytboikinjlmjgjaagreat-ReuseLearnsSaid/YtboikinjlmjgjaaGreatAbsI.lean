/- One operation, the end: slices, append, calls; 'eff' is sound. -/
import Derived.Test.YtboikinjlmjgjaaGreatAbsH
namespace Go.Proofs.YtboikinjlmjgjaaGreat.Abs
open Go Go.RowKit
section
variable {P:Program} {tab:Tab} {B:Bd} {w0:World} {St0:Sb} {c:Gh} {o:Oper} {a:Act}
theorem adN (hi:Inv B w0 St0 c) {fresh:Nat} (hf:c.heap[fresh]? = some .none) {τ:Ty} {e:TypeId} {l:List τ.den} {ds:List Value} (hr:Rep c.w c.St (bA (toD τ) l) ds) (hm:l.length≤maxLen) :
  ∃ c',c'.w=c.w.alloc (.cells ds.toArray e)∧c'.heap=c.heap.set fresh (.row τ e 0)∧Inv B w0 St0 c'∧Ev c c'∧RA c' (.own fresh 0 τ l) [.slice (some ⟨c.w.heap.size,0,none⟩) l.length l.length]:=by
 obtain ⟨h1,e1⟩:=hi.grow (w':=c.w.alloc (.cells ds.toArray e)) (St':=⟨fun b o=>c.St b o∨(b=c.w.heap.size∧o<l.length * τ.size),c.St.j⟩) ((Below.refl _ _).alloc (Nat.le_refl _) _) ⟨fun _ _ x => .inl x,fun _ _ _ _ x=>x⟩
  (fun b o x=>x.elim .inl (fun x => .inr ⟨by omega,by rw [x.1]; simp⟩)) (Nat.le_refl _) (fun _ _ _ _ x => .inl x)
 have hlen:=bG hr
 have hown:(c.w.alloc (.cells ds.toArray e)).ownsRow B e τ.size (.slice (some ⟨c.w.heap.size,0,none⟩) l.length l.length) l.length ds :=
  ⟨hlen,.inr ⟨c.w.heap.size,l.length,ds.toArray,rfl,hi.size,heap_alloc_new c.w _,Nat.le_refl _,hm,by simpa using hlen,by rw [← hlen]; simp⟩⟩
 obtain ⟨h2,e2⟩:=h1.addRow (k:=fresh) (n:=l.length) (t:=τ) (e:=e) (s := .slice (some ⟨c.w.heap.size,0,none⟩) l.length l.length) (xs:=ds) hf hown
  (fun b hb o hle x=>by
   simp only [Value.ownBlock,Option.some.injEq] at hb
   rcases x with x | x
   ·have:=hi.bnd _ _ x; omega
   ·omega)
  (fun k' b hb x=>by
   simp only [Value.ownBlock,Option.some.injEq] at hb
   have:=(dO hi (k:=k') x).1
   omega)
  (fun b hb f=>by
   simp only [Value.ownBlock,Option.some.injEq] at hb
   have:=hi.fl b f
   omega)
  (fun b hb e cap n x=>(hi.junk b e cap n x).resolve_right fun q=>by
   simp only [Value.ownBlock,Option.some.injEq] at hb
   have:=q.lt
   omega)
 refine ⟨_,rfl,rfl,h2,e1.trans e2,_,rfl,(aA rfl).2 ?_,τ,e,0, ?_,Nat.le_refl _,fun _ => ?_⟩
 ·refine ⟨_,_,_,rfl,(e6 _ _).symm,Nat.le_refl _,.inr ⟨_,ds,rfl,rfl,(hr.mono e1.st e1.cell).mono e2.st e2.cell,fun j u hu=>⟨?_, ?_⟩⟩⟩
  ·exact hown.cells (g:=c.w.heap.size) rfl j u hu
  ·have hj:j<ds.length:=aE hu
   refine .inr ⟨rfl, ?_⟩
   simp
   omega
 ·show (c.heap.set fresh _)[fresh]? = _
  rw [bv,if_pos rfl,if_pos (aE hf)]
 ·simp
theorem Et {τ:Ty} : ∀ {us:List AV} {l:List τ.den} {vs:List Value},lT τ us=some l→RAs c us vs→Rep c.w c.St (bA (toD τ) l) ((vs.map fun v=>v.cells.toList).flatten)∧l.length=vs.length ∧ ∀ v∈vs,v.cells.size=τ.size
 | [],l,[],h,_=>by
  simp only [lT,Option.some.injEq] at h
  subst h
  exact ⟨rfl,rfl,by simp⟩
 | u::us,l,v::vs,h,⟨hu,hus⟩=>by
  simp only [lT] at h
  split at h
  ·rename_i x r hx hr
   simp only [Option.some.injEq] at h
   subst h
   obtain ⟨h1,h2,h3⟩:=Et hr hus
   have hv:=(dat?_sound hx hu).cells
   refine ⟨⟨_,_,rfl,hv,h1⟩,by simp [h2],fun w hw => ?_⟩
   rcases List.mem_cons.1 hw with rfl | hw
   ·simpa using hv.size
   ·exact h3 w hw
  ·cases h
theorem Ob (size:Nat) : ∀ (vs:List Value) (i:Nat) (arr:Array Value),(∀ v∈vs,v.cells.size=size)→(i+vs.length) * size=arr.size →
  ∃ arr',Instr.fill (fun i=>some (i * size,size)) arr ((List.range' i vs.length).zip vs)=some arr'∧arr'.toList=arr.toList.take (i * size)++(vs.map fun v=>v.cells.toList).flatten
 | [],i,arr,_,h=>⟨arr,by simp [Instr.fill],by simp at h; rw [h]; simp [List.take_of_length_le]⟩
 | v::vs,i,arr,hv,h=>by
  have h0:=hv v (by simp)
  have hfit:i * size+v.cells.size≤arr.size:=by
   rw [h0, ← h, ← Nat.succ_mul]
   exact Nat.mul_le_mul_right _ (by simp)
  have hfc:=uX (i * size) v arr hfit
  obtain ⟨arr',e1,e2⟩:=Ob size vs (i+1) (v.cells.zipIdx.foldl (fun cs (x:Value×Nat)=>cs.setIfInBounds (i * size+x.2) x.1) arr) (fun u hu=>hv u (by simp [hu])) (by
   have:(v.cells.zipIdx.foldl (fun cs (x:Value×Nat)=>cs.setIfInBounds (i * size+x.2) x.1) arr).size=arr.size:=by
    rw [← Array.length_toList,hfc]
    simp
    omega
   rw [this, ← h]
   congr 1
   simp
   omega)
  refine ⟨arr', ?_, ?_⟩
  ·simp only [List.length_cons,List.range'_succ,List.zip_cons_cons,Instr.fill]
   have hno : ¬ (v.cells.size≠size||i * size+v.cells.size>arr.size)=true:=by
    simp [h0]; omega
   rw [if_neg hno]
   exact e1
  ·rw [e2,hfc]
   have hl:(arr.toList.take (i * size)++v.cells.toList).length=(i+1) * size:=by
    simp [h0,Nat.succ_mul]; omega
   rw [← hl,List.take_left]
   simp
theorem pQ : ∀ (l:List Nat) (i:Nat),dg i l=true→l=List.range' i l.length
 | [],_,_=>rfl
 | j::l,i,h=>by
  simp only [dg,Bool.and_eq_true,beq_iff_eq] at h
  obtain ⟨rfl,h2⟩:=h
  rw [List.length_cons,List.range'_succ, ← pQ l (i+1) h2]
theorem kY (tk:TabOk P tab) {t:TypeId} {len:Nat} {parts:Array (Nat×Operand)} (ho:o.op = .buildSlice t len parts) {us:List AV} (hv:RAs c us ((parts.toList.map (·.2)).map a.eval)) {τ:Ty} {e:TypeId}
  (u1:P.underlying t=some (.slice e)) (u2:tab.ty e=some τ) (hlen:len=parts.size) (hord:dg 0 (parts.toList.map (·.1))=true) (hsz:len * τ.size≤4096) {l:List τ.den} (hl:lT τ us=some l) :
  ∃ ds,Rep c.w c.St (bA (toD τ) l) ds∧l.length=len∧(execOp a.eval o).run P c.w = .ok (.value (.slice (some ⟨c.w.heap.size,0,none⟩) len len)) (c.w.alloc (.cells ds.toArray e)):=by
 obtain ⟨ie,ze,t1,t2,t3,t4,_⟩:=tk.ty e τ u2
 obtain ⟨hrep,hll,hall⟩:=Et hl hv
 have hvl:((parts.toList.map (·.2)).map a.eval).length=len:=by simp [hlen]
 have hzip:(parts.map fun p=>(p.1,a.eval p.2)).toList=(List.range' 0 ((parts.toList.map (·.2)).map a.eval).length).zip ((parts.toList.map (·.2)).map a.eval):=by
  have h1:=pQ _ 0 hord
  have h2:(parts.toList.map (·.1)).length=((parts.toList.map (·.2)).map a.eval).length:=by simp
  rw [← h2, ← h1,List.map_map,List.zip_map']
  simp
 have key : ∀ zc:Array Value,Instr.fill (fun i=>some (i * τ.size,τ.size)) ((Array.range (len * τ.size)).map fun x=>zc[x % zc.size]!) (parts.map fun p=>(p.1,a.eval p.2)).toList=some (((parts.toList.map (·.2)).map a.eval).map fun v=>v.cells.toList).flatten.toArray:=by
  intro zc
  obtain ⟨arr',e1,e2⟩:=Ob τ.size ((parts.toList.map (·.2)).map a.eval) 0 ((Array.range (len * τ.size)).map fun x=>zc[x % zc.size]!) hall (by rw [hvl]; simp)
  simp only [Nat.zero_mul,List.take_zero,List.nil_append] at e2
  rw [hzip,e1, ← e2]
 refine ⟨_,hrep,hll.trans hvl, ?_⟩
 generalize (((parts.toList.map (·.2)).map a.eval).map fun v=>v.cells.toList).flatten=ds at *
 unfold execOp
 have hno : ¬ (len * τ.size>2 ^ 24):=by omega
 simp only [ho,Instr.buildSlice,Sem.run_bind,run_underlying u1,Result.andThen_ok,dp tk u2,if_neg hno]
 by_cases h0:len * τ.size=0
 ·rw [if_pos h0,Sem.run_bind,Sem.run_pure,Result.andThen_ok,key #[]]
  simp [newRow]
 ·rw [if_neg h0]
  simp only [zeroValue,typeInfo,Sem.run_bind,run_program,t1,t3,Sem.run_pure,Result.andThen_ok]
  rw [key ze.cells]
  simp [newRow]
theorem E5 (hi:Inv B w0 St0 c) (tk:TabOk P tab) {t:TypeId} {len:Nat} {parts:Array (Nat×Operand)} (ho:o.op = .buildSlice t len parts) {us:List AV} (hv:RAs c us ((parts.toList.map (·.2)).map a.eval)) {τ:Ty} {e:TypeId}
  (ht:tab.ty t=some (.slice τ)) (he:tab.elem t=some e) (hlen:len=parts.size) (hord:dg 0 (parts.toList.map (·.1))=true) (hsz:len * τ.size≤4096) {l:List τ.den} (hl:lT τ us=some l)
  {fresh:Nat} (hf:c.heap[fresh]? = some .none):Ok P B w0 St0 o a c (c.heap.set fresh (.row τ e 0)) (.own fresh 0 τ l):=by
 obtain ⟨i,z,_,_,_,_,_,_,hu⟩:=tk.ty t _ ht
 obtain ⟨e',u1,u2,u3,hpos⟩:=hu
 have:e'=e:=by rw [he] at u3; exact (Option.some.inj u3).symm
 subst this
 obtain ⟨ds,hrep,hll,hrun⟩:=kY tk ho hv u1 u2 hlen hord hsz hl
 obtain ⟨c',hw,hh,hI,hE,hR⟩:=adN (e:=e') hi hf hrep (by rw [hll]; simp only [maxLen]; have:len * 1≤len * τ.size:=Nat.mul_le_mul_left _ hpos; omega)
 exact cx (v := .slice (some ⟨c.w.heap.size,0,none⟩) len len) (by rw [hw]; exact hrun) hh hI hE (by rw [hll] at hR; exact hR)
theorem adM (hi:Inv B w0 St0 c) {τ:Ty} {e:TypeId} {l:List τ.den} {ds:List Value} (hr:Rep c.w c.St (bA (toD τ) l) ds) (hm:l.length≤maxLen) :
  ∃ c',c'.w=c.w.alloc (.cells ds.toArray e)∧c'.heap=c.heap∧Inv B w0 St0 c'∧Ev c c'∧RA c' (.val (.slice τ) l) [.slice (some ⟨c.w.heap.size,0,none⟩) l.length l.length]:=by
 obtain ⟨h1,e1⟩:=hi.grow (w':=c.w.alloc (.cells ds.toArray e)) (St':=⟨fun b o=>c.St b o∨(b=c.w.heap.size∧o<l.length * τ.size),c.St.j⟩) ((Below.refl _ _).alloc (Nat.le_refl _) _) ⟨fun _ _ x => .inl x,fun _ _ _ _ x=>x⟩
  (fun b o x=>x.elim .inl (fun x => .inr ⟨by omega,by rw [x.1]; simp⟩)) (Nat.le_refl _) (fun _ _ _ _ x => .inl x)
 have hlen:=bG hr
 have hown:(c.w.alloc (.cells ds.toArray e)).ownsRow B e τ.size (.slice (some ⟨c.w.heap.size,0,none⟩) l.length l.length) l.length ds :=
  ⟨hlen,.inr ⟨c.w.heap.size,l.length,ds.toArray,rfl,hi.size,heap_alloc_new c.w _,Nat.le_refl _,hm,by simpa using hlen,by rw [← hlen]; simp⟩⟩
 refine ⟨{ c with w:=c.w.alloc (.cells ds.toArray e),St:=⟨fun b o=>c.St b o∨(b=c.w.heap.size∧o<l.length * τ.size),c.St.j⟩ },rfl,rfl,h1,e1,_,rfl,(aA rfl).2 ⟨_,_,_,rfl,(e6 _ _).symm,Nat.le_refl _,.inr ⟨_,ds,rfl,rfl,hr.mono e1.st e1.cell,fun j u hu=>⟨hown.cells (g:=c.w.heap.size) rfl j u hu, ?_⟩⟩⟩⟩
 have hj:j<ds.length:=aE hu
 refine .inr ⟨rfl, ?_⟩
 simp
 omega
theorem wy (hi:Inv B w0 St0 c) (tk:TabOk P tab) {t:TypeId} {len:Nat} {parts:Array (Nat×Operand)} (ho:o.op = .buildSlice t len parts) {us:List AV} (hv:RAs c us ((parts.toList.map (·.2)).map a.eval)) {τ:Ty} {e:TypeId}
  (ht:tab.ty t=some (.slice τ)) (he:tab.elem t=some e) (hlen:len=parts.size) (hord:dg 0 (parts.toList.map (·.1))=true) (hsz:len * τ.size≤4096) {l:List τ.den} (hl:lT τ us=some l):Ok P B w0 St0 o a c c.heap (.val (.slice τ) l):=by
 obtain ⟨i,z,_,_,_,_,_,_,hu⟩:=tk.ty t _ ht
 obtain ⟨e',u1,u2,u3,hpos⟩:=hu
 have:e'=e:=by rw [he] at u3; exact (Option.some.inj u3).symm
 subst this
 obtain ⟨ds,hrep,hll,hrun⟩:=kY tk ho hv u1 u2 hlen hord hsz hl
 obtain ⟨c',hw,hh,hI,hE,hR⟩:=adM (e:=e') hi hrep (by rw [hll]; simp only [maxLen]; have:len * 1≤len * τ.size:=Nat.mul_le_mul_left _ hpos; omega)
 exact cx (v := .slice (some ⟨c.w.heap.size,0,none⟩) len len) (by rw [hw]; exact hrun) hh hI hE (by rw [hll] at hR; exact hR)
theorem uW {f g:Nat→Option (Nat×Nat)} : ∀ (l:List (Nat×Value)) (arr:Array Value),(∀ p∈l,f p.1=g p.1)→Instr.fill f arr l=Instr.fill g arr l
 | [],_,_=>by simp [Instr.fill]
 | p::l,arr,h=>by
  simp only [Instr.fill]
  rw [h p (by simp)]
  split
  ·rfl
  ·split
   ·rfl
   ·exact uW l _ (fun q hq=>h q (by simp [hq]))
theorem vP {u:AV} {v:Value} (h:RA c u [v]) (hu:u.single=true):v.cells.toList=[v]∧v.oneCell'=true:=by
 have hs:u.solid=true:=by cases u <;> simp [AV.single,AV.solid] at hu ⊢
 obtain ⟨h1,h2⟩:=nz h hs
 have hl:(cellsOf u).length=1:=by
  cases u with
  | val t x =>
   simp only [AV.single,Bool.not_eq_true'] at hu
   cases t <;> simp [Ty.isStruct] at hu <;> rfl
  | _=>first | rfl | (simp [AV.single] at hu)
 have hl2:v.cells.toList.length=1:=by rw [← h1.length,hl]
 cases v with
 | agg cs =>
  exfalso
  cases u with
  | val t x =>
   simp only [AV.single,Bool.not_eq_true'] at hu
   have:=(aA hu).1 h.val_inv
   have:=this.one (Value.agg cs) (by simp)
   simp [Value.oneCell'] at this
  | nil=>have h:[Value.agg cs]=[.slice none 0 0]:=h; simp at h
  | own k n t l=>obtain ⟨s,e,r,_⟩:=h; obtain ⟨A,n',cp,e',_⟩:=(aA (t := .slice t) rfl).1 r; simp at e e'; rw [← e] at e'; cases e'
  | ref t x=>obtain ⟨ad,ds,e,_⟩:=h; simp at e
  | box k off=>obtain ⟨cs',_,e⟩:=h; simp at e
  | fn f caps=>obtain ⟨cs',e,_⟩:=h; simp at e
  | msl k n lo hi=>obtain ⟨s,e,o1,_⟩:=h; simp at e; subst e; simp [Value.oneCell'] at o1
  | yld j=>obtain ⟨_,e⟩:=h; simp at e
  | mpt k n i off=>obtain ⟨s,e,o1,_⟩:=h; simp at e; subst e; simp [Value.oneCell'] at o1
  | _=>simp [AV.single] at hu
 | _=>exact ⟨by simp [Value.cells],by simpa [Value.cells] using h2⟩
theorem fh : ∀ {us:List AV} {vs:List Value},RAs c us vs→us.all AV.single=true→(∀ v∈vs,v.cells.size=1)∧(vs.map fun v=>v.cells.toList).flatten=vs ∧ ∀ v∈vs,v.oneCell'=true
 | [],[],_,_=>⟨by simp,rfl,by simp⟩
 | u::us,v::vs,⟨h,hs⟩,ha=>by
  simp only [List.all_cons,Bool.and_eq_true] at ha
  obtain ⟨e1,o1⟩:=vP h ha.1
  obtain ⟨e2,e3,o2⟩:=fh hs ha.2
  refine ⟨fun x hx => ?_,by simp [e1,e3],fun x hx => ?_⟩
  ·rcases List.mem_cons.1 hx with rfl | hx
   ·have:=congrArg List.length e1; simpa using this
   ·exact e2 x hx
  ·rcases List.mem_cons.1 hx with rfl | hx
   ·exact o1
   ·exact o2 x hx
theorem yX : ∀ (vs:List Value) (i:Nat) (arr:Array Value),(∀ v∈vs,v.cells.size=1)→i+vs.length≤arr.size →
  ∃ arr',Instr.fill (fun i=>some (i,1)) arr ((List.range' i vs.length).zip vs)=some arr'∧arr'.toList=arr.toList.take i++(vs.map fun v=>v.cells.toList).flatten++arr.toList.drop (i+vs.length)
 | [],i,arr,_,h=>⟨arr,by simp [Instr.fill],by simp⟩
 | v::vs,i,arr,hv,h=>by
  have h0:=hv v (by simp)
  simp only [List.length_cons] at h
  have hfc:=uX i v arr (by omega)
  have hsz:(v.cells.zipIdx.foldl (fun cs (x:Value×Nat)=>cs.setIfInBounds (i+x.2) x.1) arr).size=arr.size:=by
   rw [← Array.length_toList,hfc]
   simp
   omega
  obtain ⟨arr',e1,e2⟩:=yX vs (i+1) (v.cells.zipIdx.foldl (fun cs (x:Value×Nat)=>cs.setIfInBounds (i+x.2) x.1) arr) (fun u hu=>hv u (by simp [hu])) (by rw [hsz]; omega)
  refine ⟨arr', ?_, ?_⟩
  ·simp only [List.length_cons,List.range'_succ,List.zip_cons_cons,Instr.fill]
   have hno : ¬ (v.cells.size≠1||i+v.cells.size>arr.size)=true:=by
    simp [h0]; omega
   rw [if_neg hno]
   exact e1
  ·rw [e2,hfc]
   have hl:(arr.toList.take i++v.cells.toList).length=i+1:=by
    simp [h0]; omega
   rw [← hl,List.take_left,List.drop_length_add_append,h0,List.drop_drop]
   simp only [List.map_cons,List.flatten_cons,List.length_cons,List.append_assoc]
   rw [show i+1+vs.length=i+(vs.length+1) by omega]
theorem ww (hi:Inv B w0 St0 c) (tk:TabOk P tab) {t:TypeId} {parts:Array (Nat×Operand)} (ho:o.op = .build t parts) {us:List AV} (hv:RAs c us ((parts.toList.map (·.2)).map a.eval)) {n:Nat} (ht:tab.one t=some n) (hn:parts.size≤n)
  (hord:dg 0 (parts.toList.map (·.1))=true) (hs:us.all AV.single=true) {zs:List AV} (hzs : ∀ i z,P.info? t=some i→i.zero=some z→z.cells.size=n→RAs c zs (z.cells.toList.drop parts.size) ∧ ∀ v∈z.cells.toList.drop parts.size,v.oneCell'=true):Ok P B w0 St0 o a c c.heap (.agg (br (us++zs))):=by
 obtain ⟨fs,i,z,f1,f2,f3,f4,f5,f6⟩:=tk.one t n ht
 obtain ⟨s1,s2,s3⟩:=fh hv hs
 have hvl:((parts.toList.map (·.2)).map a.eval).length=parts.size:=by simp
 obtain ⟨z1,z2⟩:=hzs i z f4 f5 f6
 have hzip:(parts.map fun p=>(p.1,a.eval p.2)).toList=(List.range' 0 ((parts.toList.map (·.2)).map a.eval).length).zip ((parts.toList.map (·.2)).map a.eval):=by
  have h1:=pQ _ 0 hord
  have h2:(parts.toList.map (·.1)).length=((parts.toList.map (·.2)).map a.eval).length:=by simp
  rw [← h2, ← h1,List.map_map,List.zip_map']
  simp
 obtain ⟨arr',e1,e2⟩:=yX ((parts.toList.map (·.2)).map a.eval) 0 z.cells s1 (by rw [hvl,f6]; omega)
 simp only [List.take_zero,List.nil_append,s2,Nat.zero_add,hvl] at e2
 have hfill:Instr.fill ((fs.map fun f=>(f.offset,P.cellsOf f.type))[·]?) z.cells (parts.map fun p=>(p.1,a.eval p.2)).toList=some arr':=by
  rw [hzip, ← e1]
  refine uW _ _ (fun p hp => ?_)
  have hpl:p.1<n:=by
   have:=List.of_mem_zip hp
   have:=List.mem_range'_1.1 this.1
   omega
  have hg:fs[p.1]? = some (fs[p.1]'(by omega)):=Array.getElem?_eq_getElem (by omega)
  obtain ⟨g1,j,g2,g3⟩:=f3 p.1 _ hg
  simp [hg,g1,Program.cellsOf,g2,g3]
 have hm : ∀ (l:List Field) (w:World),(∀ f∈l,∃ j,P.info? f.type=some j)→(l.mapM (fun f=>(do pure (f.offset, ← sizeOf f.type):Sem (Nat×Nat)))).run P w = .ok (l.map fun f=>(f.offset,P.cellsOf f.type)) w:=by
  intro l
  induction l with
  | nil=>intro w _; simp
  | cons f l ih =>
   intro w hall
   obtain ⟨j,hj⟩:=hall f (by simp)
   have h1:(do pure (f.offset, ← sizeOf f.type):Sem (Nat×Nat)).run P w = .ok (f.offset,P.cellsOf f.type) w:=by simp [sizeOf,typeInfo,hj,Program.cellsOf]
   rw [List.mapM_cons,Sem.run_bind,h1,Result.andThen_ok,Sem.run_bind,ih w (fun g hg=>hall g (by simp [hg])),Result.andThen_ok]
   rfl
 have hall : ∀ f∈fs.toList,∃ j,P.info? f.type=some j:=by
  intro f hfm
  obtain ⟨k,hk,rfl⟩:=List.getElem_of_mem hfm
  obtain ⟨_,j,g2,_⟩:=f3 k fs.toList[k] (by simp)
  exact ⟨j,g2⟩
 have hmA:(fs.mapM (fun f=>(do pure (f.offset, ← sizeOf f.type):Sem (Nat×Nat)))).run P c.w = .ok (fs.map fun f=>(f.offset,P.cellsOf f.type)) c.w:=by
  have:=hm fs.toList c.w hall
  rw [Array.mapM_eq_mapM_toList,map_eq_pure_bind,Sem.run_bind,this,Result.andThen_ok]
  exact congrArg (fun l=>Result.ok l c.w) (Array.ext' (by simp))
 refine aH hi (v := .agg arr') ?_ ⟨_,by rw [← Array.toArray_toList (xs:=arr'),e2],RA.of_chain (hv.append z1),eK _,fun v hx=>(List.mem_append.1 hx).elim (s3 v) (z2 v)⟩
 unfold execOp
 simp only [ho,Instr.build,zeroValue,typeInfo,Sem.run_bind,run_program,f4,Sem.run_pure,Result.andThen_ok,f5,run_underlying f1,hmA]
 rw [hfill]
 simp
theorem IE (hi:Inv B w0 St0 c) (tk:TabOk P tab) {t:TypeId} {parts:Array (Nat×Operand)} (ho:o.op = .build t parts) {us:List AV} (hv:RAs c us ((parts.toList.map (·.2)).map a.eval)) {n:Nat} (ht:tab.one t=some n) (hn:n=parts.size)
  (hord:dg 0 (parts.toList.map (·.1))=true) (hs:us.all AV.single=true):Ok P B w0 St0 o a c c.heap (.agg (br us)):=by
 have:=ww hi tk ho hv ht (Nat.le_of_eq hn.symm) hord hs (zs:=[]) (fun i z _ _ h=>by
  have:z.cells.toList.drop parts.size=[]:=by rw [← hn, ← h]; simp
  rw [this]
  exact ⟨trivial,fun v hv=>by cases hv⟩)
 rwa [List.append_nil] at this
theorem E4 (hi:Inv B w0 St0 c) (tk:TabOk P tab) {t:TypeId} {parts:Array (Nat×Operand)} (ho:o.op = .build t parts) {us:List AV} (hv:RAs c us ((parts.toList.map (·.2)).map a.eval)) {n:Nat} {τ:Ty} (hty:tab.ty t=some τ) (ht:tab.one t=some n) (hn:parts.size≤n)
  (hord:dg 0 (parts.toList.map (·.1))=true) (hs:us.all AV.single=true):Ok P B w0 St0 o a c c.heap (.agg (br (us++(zn τ).drop parts.size))):=by
 refine ww hi tk ho hv ht hn hord hs (fun i z h1 h2 _ => ?_)
 obtain ⟨i',z',g1,_,g3,g4,_⟩:=tk.ty t τ hty
 rw [h1] at g1
 injection g1 with g1
 subst g1
 rw [h2] at g3
 injection g3 with g3
 subst g3
 rw [g4]
 exact ⟨(me τ).drop _,fun v hv=>(cU (w:=c.w) (St:=c.St) τ).one v (List.mem_of_mem_drop hv)⟩
theorem ID (hi:Inv B w0 St0 c) (tk:TabOk P tab) {t:TypeId} {parts:Array (Nat×Operand)} (ho:o.op = .build t parts) {us:List AV} (hv:RAs c us ((parts.toList.map (·.2)).map a.eval)) {n:Nat} (ht:tab.arr t=some n) (hn:n=parts.size)
  (hord:dg 0 (parts.toList.map (·.1))=true) (hs:us.all AV.single=true):Ok P B w0 St0 o a c c.heap (.agg (br us)):=by
 obtain ⟨e,i,z,j,f1,f2,f3,f4,f5,f6⟩:=tk.arr t n ht
 obtain ⟨s1,s2,s3⟩:=fh hv hs
 have hvl:((parts.toList.map (·.2)).map a.eval).length=parts.size:=by simp
 have hzip:(parts.map fun p=>(p.1,a.eval p.2)).toList=(List.range' 0 ((parts.toList.map (·.2)).map a.eval).length).zip ((parts.toList.map (·.2)).map a.eval):=by
  have h1:=pQ _ 0 hord
  have h2:(parts.toList.map (·.1)).length=((parts.toList.map (·.2)).map a.eval).length:=by simp
  rw [← h2, ← h1,List.map_map,List.zip_map']
  simp
 obtain ⟨arr',e1,e2⟩:=yX ((parts.toList.map (·.2)).map a.eval) 0 z.cells s1 (by rw [hvl,f6]; omega)
 simp only [List.take_zero,List.nil_append,s2,Nat.zero_add,hvl] at e2
 have hdrop:z.cells.toList.drop parts.size=[]:=by rw [← hn, ← f6]; simp
 rw [hdrop,List.append_nil] at e2
 have hfill:Instr.fill (fun i=>some (i * 1,1)) z.cells (parts.map fun p=>(p.1,a.eval p.2)).toList=some arr':=by
  rw [hzip, ← e1]
  exact uW _ _ (fun p _=>by simp)
 refine aH hi (v := .agg arr') ?_ ⟨_,by rw [← Array.toArray_toList (xs:=arr'),e2],RA.of_chain hv,eK _,s3⟩
 unfold execOp
 have hsz:(sizeOf e).run P c.w = .ok 1 c.w:=by simp [sizeOf,typeInfo,f2,f3]
 simp only [ho,Instr.build,zeroValue,typeInfo,Sem.run_bind,run_program,f4,Sem.run_pure,Result.andThen_ok,f5,run_underlying f1,hsz]
 rw [hfill]
 simp
theorem IA (hi:Inv B w0 St0 c) (tk:TabOk P tab) {t:TypeId} {x y:Operand} (ho:o.op = .indexAddr t x y) {k off:Nat} (hx:RA c (.box k off) [a.eval x]) {q:IntKind} {n:Int} (hy:RA c (.val (.int q) n) [a.eval y]) {m:Nat} (ht:tab.arr t=some m) (h0:0≤n) (h1:n<(m:Int)) :
  Ok P B w0 St0 o a c c.heap (.box k (off+n.toNat)):=by
 obtain ⟨e,i,z,j,f1,f2,f3,f4,f5,f6⟩:=tk.arr t m ht
 obtain ⟨cs,hk',ev⟩:=hx
 simp only [List.cons.injEq,and_true] at ev
 have hyv:=cM hy.val_inv
 have hsz:(sizeOf e).run P c.w = .ok 1 c.w:=by simp [sizeOf,typeInfo,f2,f3]
 refine aH hi (v := .pointer (some ⟨c.blk k,off+n.toNat,none⟩)) ?_ ⟨cs,hk',rfl⟩
 unfold execOp
 simp [ho,ev,hyv,Instr.indexAt,run_underlying f1,Instr.sureAddr,asIntOf,h0,h1,hsz,Addr.add]
theorem M0 (hi:Inv B w0 St0 c) (tk:TabOk P tab) {t:TypeId} {x:Operand} (ho:o.op = .load t x) {k off:Nat} (hv:RA c (.box k off) [a.eval x]) {cells:List AV} (hk:c.heap[k]? = some (.box cells)) {τ:Ty}
  (ht:tab.ty t=some τ) (hst:τ.isStruct=true) {n:Nat} (hn:tab.one t=some n) (hl:((cells.drop off).take τ.size).length=n) (hs:((cells.drop off).take τ.size).all AV.single=true):Ok P B w0 St0 o a c c.heap (.agg (br ((cells.drop off).take τ.size))):=by
 obtain ⟨cs,hk',e⟩:=hv
 obtain ⟨arr,t',h1,h2,h3⟩:=oT hi hk
 have h4:=(h2.drop off).take τ.size
 obtain ⟨_,_,s3⟩:=fh h4 hs
 have hsz:((arr.toList.drop off).take τ.size).length=τ.size:=by
  rw [← h4.length,hl]
  obtain ⟨i,z,q1,q2,q3,q4,_⟩:=tk.ty t τ ht
  obtain ⟨fs,i',z',f1,f2,f3,f4,f5,f6⟩:=tk.one t n hn
  rw [q1] at f4
  injection f4 with f4
  subst f4
  rw [q3] at f5
  injection f5 with f5
  subst f5
  rw [← f6, ← Array.length_toList,q4]
  exact (cU (w:=c.w) (St:=c.St) τ).size
 obtain ⟨v,hrun,hval⟩:=cT tk ht c.w ⟨c.blk k,off,none⟩ _ hsz (fun j u hu=>by
  rw [dY,h3, ← hu,List.getElem?_take]
  have hj:j<τ.size:=by
   rcases Nat.lt_or_ge j τ.size with h | h
   ·exact h
   ·rw [List.getElem?_take,if_neg (by omega)] at hu; cases hu
  rw [if_pos hj,List.getElem?_drop])
 have hv':v = .agg ((arr.toList.drop off).take τ.size).toArray:=by
  rw [hst] at hval
  simpa using hval
 subst hv'
 refine aH hi (v := .agg ((arr.toList.drop off).take τ.size).toArray) ?_ ⟨_,rfl,RA.of_chain h4,eK _,s3⟩
 unfold execOp
 simp at e
 simp [ho,e,Instr.loadAt,Instr.sureAddr,hrun]
end
end Go.Proofs.YtboikinjlmjgjaaGreat.Abs
