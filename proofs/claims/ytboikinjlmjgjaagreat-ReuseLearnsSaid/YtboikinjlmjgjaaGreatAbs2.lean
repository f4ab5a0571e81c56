/- Slices of which the length alone is known: literals, appending, their length. -/
import Derived.Test.YtboikinjlmjgjaaGreatAbsP
namespace Go.Proofs.YtboikinjlmjgjaaGreat.Abs
open Go Go.RowKit
section
variable {P:Program} {tab:Tab} {B:Bd} {w0:World} {St0:Sb} {c:Gh} {o:Oper} {a:Act}
def JS (w:World) (base:Nat) (e:TypeId) (A:Option Addr) (n cap:Nat):Prop :=
 (A=none∧n=0∧cap=0) ∨ ∃ g cur,A=some ⟨g,0,none⟩∧base≤g∧w.heap[g]? = some (.cells cur e (0,0))∧cur.size=cap∧n≤cap∧cap≤maxLen ∧ ∀ u∈cur.toList,u.oneCell'=true
theorem JS.row {w:World} {base:Nat} {e:TypeId} {A:Option Addr} {n cap:Nat} (h:JS w base e A n cap) : ∃ xs,w.ownsRow base e 1 (.slice A n cap) n xs ∧ ∀ u∈xs,u.oneCell'=true:=by
 rcases h with ⟨rfl,rfl,rfl⟩ | ⟨g,cur,rfl,h1,h2,h3,h4,h5,h6⟩
 ·exact ⟨[],World.ownsRow_nil _ _ _ _,fun u hu=>by cases hu⟩
 ·refine ⟨cur.toList.take n,⟨by simp; omega,.inr ⟨g,cap,cur,rfl,h1,h2,h4,h5,by omega,by simp⟩⟩,fun u hu=>h6 u (List.mem_of_mem_take hu)⟩
theorem HY {τ:Ty} (w:World) (t ty e:TypeId) (i:TypeInfo) (z:Value) (ht:P.underlying t=some (.slice e)) (hi:P.info? e=some i) (hz:i.zero=some z) (hsize:i.size=1) (hzl:z.cells.toList=zl τ) (hτ:τ.size=1) {base:Nat} (hB:base≤w.heap.size)
  {A:Option Addr} {n cap:Nat} (hv:JS w base e A n cap) {A':Option Addr} {m cap':Nat} (hx:JS w base e A' m cap') (h63:n+m≤maxLen) (hbytes:(n+m) * i.bytes≤140737488355328) :
  ∃ v' w',(Builtin.append_ #[t,t] ty #[.slice A n cap,.slice A' m cap']).run P w = .ok v' w'∧w.grownBy w' (Value.ownBlock (.slice A n cap))∧w.drawn≤w'.drawn ∧
   ((v' = .slice none 0 0∧n+m=0) ∨ ∃ g' c2 cur',v' = .slice (some ⟨g',0,none⟩) (n+m) c2∧n+m≤c2∧c2≤maxLen∧(Value.ownBlock (.slice A n cap)=some g'∨g'=w.heap.size)∧w'.heap[g']? = some (.cells cur' e (0,0))∧cur'.size=c2 ∧ ∀ u∈cur'.toList,u.oneCell'=true) ∧
   (∀ g cur,A=some ⟨g,0,none⟩→w.heap[g]? = some (.cells cur e (0,0)) → ∃ cur',w'.heap[g]? = some (.cells cur' e (0,0))∧cur'.size=cur.size ∧ ∀ u∈cur'.toList,u.oneCell'=true):=by
 obtain ⟨xs,hown,hxs⟩:=hv.row
 obtain ⟨ys,hown2,hys⟩:=hx.row
 have hzs:z.cells.size=1:=by rw [← Array.length_toList,hzl,(cU (w:=w) (St:={ s:=fun _ _=>False }) τ).size,hτ]
 have hA:m=0 ∨ ∃ ad,A'=some ad ∧ ∀ j u,ys[j]? = some u→w.cell? (ad.add j)=some u:=by
  rcases hx with ⟨_,h,_⟩ | ⟨g,cur,rfl,_⟩
  ·exact .inl h
  ·exact .inr ⟨_,rfl,hown2.cells (g:=g) rfl⟩
 have hsmall:n+m≤9223372036854775807:=by simp only [maxLen] at h63; omega
 have zone : ∀ k,∀ u∈(Builtin.zeroCells z.cells k).toList,u.oneCell'=true:=fun k=>(ym (w:=w) (St:={ s:=fun _ _=>False }) hzl (by omega) k).one
 obtain ⟨v',w',hrun,h2,h3,h4,_,hd⟩:=dW (P:=P) (B:={ b:=base }) w t ty e i z 1 i.bytes ht hi hz hsize rfl hzs (by omega) (.slice A n cap) n xs hown A' m cap' ys (by rw [hown2.1]) hA hys h63 hbytes hB
 have exact1 : ∃ v1 w1,(Builtin.append_ #[t,t] ty #[.slice A n cap,.slice A' m cap']).run P w = .ok v1 w1 ∧
   (∀ g cur,A=some ⟨g,0,none⟩→w.heap[g]? = some (.cells cur e (0,0)) → ∃ cur',w1.heap[g]? = some (.cells cur' e (0,0))∧cur'.size=cur.size ∧ ∀ u∈cur'.toList,u.oneCell'=true) ∧
   ∀ g n2 c2 cur,v1 = .slice (some ⟨g,0,none⟩) n2 c2→w1.heap[g]? = some (.cells cur e (0,0)) → ∀ u∈cur.toList,u.oneCell'=true:=by
  by_cases hm:m=0
  ·refine ⟨.slice A n cap,w, ?_,fun g cur hg hc => ?_,fun g n2 c2 cur hg hc => ?_⟩
   ·subst hm
    rcases hown.2 with ⟨e1,rfl⟩ | ⟨g,c1,cur,e1,_,hg,hnc,_⟩
    ·injection e1 with e1 _ e2; subst e1; subst e2
     cases A' <;> simp [Builtin.append_,run_underlying ht,sizeOf,typeInfo,hi,Builtin.lenOf,Builtin.firstCells,loadCells,loadCellsFrom]
    ·injection e1 with e1 _ e2; subst e1; subst e2
     cases A' <;> simp [Builtin.append_,run_underlying ht,sizeOf,typeInfo,hi,Builtin.lenOf,Builtin.firstCells,loadCells,loadCellsFrom,hnc,storeCells]
   ·rcases hv with ⟨e1,_⟩ | ⟨g1,cur1,e1,_,q,_,_,_,q2⟩
    ·rw [e1] at hg; cases hg
    ·rw [e1] at hg; injection hg with hg; injection hg with hg; subst hg
     rw [q] at hc; injection hc with hc; injection hc with hc; subst hc
     exact ⟨_,q,rfl,q2⟩
   ·injection hg with hg
    rcases hv with ⟨e1,_⟩ | ⟨g1,cur1,e1,_,q,_,_,_,q2⟩
    ·rw [e1] at hg; cases hg
    ·rw [e1] at hg; injection hg with hg; injection hg with hg; subst hg
     rw [q] at hc; injection hc with hc; injection hc with hc; subst hc
     exact q2
  ·obtain ⟨ad,rfl,hnews⟩:=hA.resolve_left hm
   have hlen:ys.length=m * i.size:=by rw [hsize,hown2.1]
   rcases hv with ⟨rfl,rfl,rfl⟩ | ⟨g,cur,rfl,q1,q2,q3,q4,q5,q6⟩
   ·have hr:=run_append_nil (P:=P) w t ty e i z ht hi hz ad m cap' ys hlen hnews (by omega) (by omega) (by simp at hbytes; omega)
    refine ⟨_,_,hr,fun g cur hg=>(by cases hg),fun g n2 c2 cur hg hc u hu => ?_⟩
    injection hg with hg _ _
    injection hg with hg
    injection hg with hg
    subst hg
    rw [show (w.drew.alloc _).heap[w.heap.size]? = some _ from heap_alloc_new w.drew _] at hc
    injection hc with hc
    injection hc with hc
    subst hc
    simp only [Array.toList_append,List.mem_append] at hu
    rcases hu with hu | hu
    ·exact hys u hu
    ·exact zone _ u hu
   ·by_cases hroom:n+m≤cap
    ·have hfit:n * i.size+ys.length≤cur.size:=by rw [hlen,hsize,q3]; omega
     have hr:=run_append_room (P:=P) w t ty e i ht hi g n cap cur q2 ad m cap' ys hlen hnews hys hroom hfit
     have hall : ∀ u∈(cur.toList.take (n * i.size)++ys++cur.toList.drop (n * i.size+ys.length)),u.oneCell'=true:=fun u hu=>by
      simp only [List.mem_append] at hu
      rcases hu with (hu | hu) | hu
      ·exact q6 u (List.mem_of_mem_take hu)
      ·exact hys u hu
      ·exact q6 u (List.mem_of_mem_drop hu)
     have hnew:=setRow_heap w g cur (cur.toList.take (n * i.size)++ys++cur.toList.drop (n * i.size+ys.length)).toArray e (0,0) q2
     refine ⟨_,_,hr,fun g1 cur1 hg hc => ?_,fun g1 n2 c2 cur1 hg hc u hu => ?_⟩
     ·injection hg with hg; injection hg with hg; subst hg
      rw [q2] at hc; injection hc with hc; injection hc with hc; subst hc
      refine ⟨_,hnew, ?_,by simpa using hall⟩
      simp
      omega
     ·injection hg with hg _ _; injection hg with hg; injection hg with hg; subst hg
      rw [hnew] at hc; injection hc with hc; injection hc with hc; subst hc
      exact hall u (by simpa using hu)
    ·have hr:=run_append_grow (P:=P) w t ty e i z ht hi hz ⟨g,0,none⟩ n cap xs (by rw [hsize,hown.1]) (hown.cells (g:=g) rfl) ad m cap' ys hlen hnews (by omega) (by omega) (growslice_fits (by omega) hbytes)
     refine ⟨_,_,hr,fun g1 cur1 hg hc => ?_,fun g1 n2 c2 cur1 hg hc u hu => ?_⟩
     ·injection hg with hg; injection hg with hg; subst hg
      rw [q2] at hc; injection hc with hc; injection hc with hc; subst hc
      exact ⟨cur,(Below.heap_alloc w.drew _ g (Array.getElem?_eq_some_iff.1 q2).1).trans q2,rfl,q6⟩
     ·injection hg with hg _ _; injection hg with hg; injection hg with hg; subst hg
      rw [show (w.drew.alloc _).heap[w.heap.size]? = some _ from heap_alloc_new w.drew _] at hc
      injection hc with hc; injection hc with hc; subst hc
      simp only [Array.toList_append,List.mem_append] at hu
      rcases hu with (hu | hu) | hu
      ·exact hxs u hu
      ·exact hys u hu
      ·exact zone _ u hu
 obtain ⟨v1,w1,r1,r2,r3⟩:=exact1
 rw [hrun] at r1
 injection r1 with e1 e2
 subst e1; subst e2
 refine ⟨v',w',hrun,h3,hd, ?_,r2⟩
 rcases h2.2 with ⟨e1,e2⟩ | ⟨g,c2,cur,e1,_,k1,k2,k3,k4,_⟩
 ·exact .inl ⟨e1,e2⟩
 ·refine .inr ⟨g,c2,cur,e1,k2,k3, ?_,k1,by omega,r3 g _ c2 cur e1 k1⟩
  have:v'.ownBlock=some g:=by rw [e1]; rfl
  rw [this] at h4
  rcases h4 with h4 | h4
  ·exact .inl h4.symm
  ·injection h4 with h4; exact .inr h4
theorem Y1 (hi:Inv B w0 St0 c) {e:TypeId} {n:Nat} {v:Value} (h:cE c.w c.St (.jsl e) n v) : ∃ A cap,v = .slice A n cap∧JS c.w B.b e A n cap∧((A=none∧n=0∧cap=0) ∨ ∃ b,A=some ⟨b,0,none⟩∧c.St.j b e cap n∧Jk B c b e cap n):=by
 obtain ⟨A,cap,ev,h⟩:=(aA rfl).1 h
 simp only [List.cons.injEq,and_true] at ev
 refine ⟨A,cap,ev, ?_⟩
 rcases h with h | ⟨b,rfl,hj⟩
 ·exact ⟨.inl h,.inl h⟩
 ·have q:=(hi.junk b e cap n hj).resolve_left (hi.j0 b e cap n)
  obtain ⟨arr,k1,k2,k3⟩:=q.cells
  exact ⟨.inr ⟨b,arr,rfl,q.lo,k1,k2,q.le.1,q.le.2,k3⟩,.inr ⟨b,rfl,hj,q⟩⟩
def jst (c:Gh) (w':World) (g':Nat) (e:TypeId) (cap' n':Nat):Gh:={ c with w:=w',St:=⟨c.St.s,fun b e1 k1 k2=>c.St.j b e1 k1 k2∨(b=g'∧e1=e∧k1=cap'∧k2=n')⟩ }
theorem Inv.jstep (h:Inv B w0 St0 c) {w':World} {ob:Option Nat} {e:TypeId} {cap n cap' n' g':Nat} (hg:c.w.grownBy w' ob) (hdr:c.w.drawn≤w'.drawn) (hob : ∀ b,ob=some b→Jk B c b e cap n)
  (hkeep : ∀ b,ob=some b → ∃ cur',w'.heap[b]? = some (.cells cur' e (0,0))∧cur'.size=cap ∧ ∀ u∈cur'.toList,u.oneCell'=true)
  (hnew:(ob=some g'∨g'=c.w.heap.size)∧n'≤cap'∧cap'≤maxLen ∧ ∃ cur',w'.heap[g']? = some (.cells cur' e (0,0))∧cur'.size=cap' ∧ ∀ u∈cur'.toList,u.oneCell'=true) :
  Inv B w0 St0 (jst c w' g' e cap' n')∧Ev c (jst c w' g' e cap' n'):=by
 obtain ⟨hat,hle,hmx,cur',hcur,hsz,hone⟩:=hnew
 have own : ∀ i b,obk c i=some b→some b≠ob:=fun i b hi e=>(hob b e.symm).own i hi
 have same : ∀ i b,obk c i=some b→w'.heap[b]? = c.w.heap[b]? := fun i b hi=>hg.block b (dO h hi).1 (own i b hi)
 have st : ∀ b o,c.St b o→w'.heap[b]? = c.w.heap[b]? := fun b o x=>hg.block b (h.bnd b o x) (fun e=>(hob b e.symm).free o x)
 have ev:Ev c (jst c w' g' e cap' n'):=⟨⟨fun _ _ x=>x,fun _ _ _ _ x=>Or.inl x⟩,fun a v hst _ hc=>(World.cell?_of_block (st _ _ hst)).trans hc,fun _ cells x=>⟨cells,x,rfl⟩,fun _ t e v x=>⟨t,e,v,x,Nat.le_refl _,fun _=>rfl⟩,fun _ _ _ v l x => .inl ⟨v,l,x,Nat.le_refl _,fun _=>rfl⟩,fun _ x=>x,fun _ _=>rfl⟩
 have lowg : ∀ b,ob=some b→B.b≤b:=fun b e=>(hob b e).lo
 refine ⟨⟨h.below.grown hg h.size lowg,Nat.le_trans h.size hg.size,fun b o x=>Nat.lt_of_lt_of_le (h.bnd b o x) hg.size,⟨h.st0.s,fun b e1 k1 k2 x=>Or.inl (h.st0.j b e1 k1 k2 x)⟩,h.stN,fun k cells hk => ?_,fun k t e1 v hk => ?_,h.sep,fun k t e1 v l hk => ?_,
  h.drawn.trans (Og.of_grown hg (fun b hb=>by obtain ⟨arr,q,_⟩:=(hob b hb).cells; exact ⟨arr,e,_,q⟩) hdr (fun b f=>⟨h.fl b f,fun x=>(hob b x.symm).nf f⟩)),h.fo,fun b f=>Nat.lt_of_lt_of_le (h.fl b f) hg.size,h.j0,fun b e1 k1 k2 x => .inr ?_⟩,ev⟩
 ·obtain ⟨arr,t,q1,q2,q3,q4⟩:=h.box k cells hk
  have hk:c.heap[k]? = some (.box cells):=hk
  exact ⟨arr,t,(same k (c.blk k) (by unfold obk; rw [hk])).trans q1,q2,q3,q4.mono ev⟩
 ·have hk:c.heap[k]? = some (.row t e1 v):=hk
  obtain ⟨n1,xs,q,hsp⟩:=h.row k t e1 v hk
  refine ⟨n1,xs,⟨q.1, ?_⟩,hsp⟩
  rcases q.2 with x | ⟨g,k1,cur,e1,e2,e3,r⟩
  ·exact .inl x
  ·exact .inr ⟨g,k1,cur,e1,e2,(same k g (by unfold obk; rw [hk]; exact congrArg Value.ownBlock (show c.rv k=_ from e1))).trans e3,r⟩
 ·have hk:c.heap[k]? = some (.mrow t e1 v l):=hk
  obtain ⟨xs,q,hrep,hsp⟩:=h.mrow k t e1 v l hk
  refine ⟨xs,⟨q.1, ?_⟩,hrep.mono ev.st ev.cell,hsp⟩
  rcases q.2 with x | ⟨g,k1,cur,e1,e2,e3,r⟩
  ·exact .inl x
  ·exact .inr ⟨g,k1,cur,e1,e2,(same k g (by unfold obk; rw [hk]; exact congrArg Value.ownBlock (show c.rv k=_ from e1))).trans e3,r⟩
 ·rcases x with x | ⟨rfl,rfl,rfl,rfl⟩
  ·have q:=(h.junk b e1 k1 k2 x).resolve_left (h.j0 b e1 k1 k2)
   refine ⟨q.lo,q.nf,q.le, ?_,q.free,q.own⟩
   by_cases hb:ob=some b
   ·obtain ⟨arr,z1,z2,z3⟩:=q.cells
    obtain ⟨arr2,y1,y2,y3⟩:=(hob b hb).cells
    rw [y1] at z1
    injection z1 with z1
    injection z1 with z1 z4
    subst z1; subst z4
    obtain ⟨c1,w1,w2,w3⟩:=hkeep b hb
    exact ⟨c1,w1,w2.trans (y2.symm.trans z2),w3⟩
   ·obtain ⟨arr,z1,z2⟩:=q.cells
    exact ⟨arr,(hg.block b q.lt (fun e=>hb e.symm)).trans z1,z2⟩
  ·rcases hat with hb | hb
   ·have q:=hob _ hb
    exact ⟨q.lo,q.nf,⟨hle,hmx⟩,⟨cur',hcur,hsz,hone⟩,q.free,q.own⟩
   ·subst hb
    exact ⟨h.size,fun f=>Nat.lt_irrefl _ (h.fl _ f),⟨hle,hmx⟩,⟨cur',hcur,hsz,hone⟩,fun o x=>Nat.lt_irrefl _ (h.bnd _ o x),fun k x=>Nat.lt_irrefl _ (dO h x).1⟩
theorem M3 (hi:Inv B w0 St0 c) (tk:TabOk P tab) {cl:Call} {s x:Operand} {t e:TypeId} (ho:o.op = .call cl) (hcl:cl.callee = .builtin .append) (hargs:cl.args = #[s,x]) (hty:cl.argTypes = #[t,t]) {u1 u2:AV} {n m:Nat}
  (hs:RA c u1 [a.eval s]) (hx:RA c u2 [a.eval x]) (h1:one? (.jsl e) u1=some n) (h2:one? (.jsl e) u2=some m) (ht:tab.ty t=some (.jsl e)) (hlim:n+m≤LIM) :
  Ok P B w0 St0 o a c c.heap (.val (.jsl e) (n+m)):=by
 obtain ⟨i,z,_,_,_,_,_,_,hu⟩:=tk.ty t _ ht
 obtain ⟨τ,k1,k2,k3,k4⟩:=hu
 obtain ⟨ie,ze,t1,t2,t3,t4,t5,_⟩:=tk.ty e τ k2
 obtain ⟨r63,rby⟩:=jt hlim t5
 obtain ⟨A,cap,es,js,js'⟩:=Y1 hi (one?_sound h1 hs)
 obtain ⟨A',cap',ex,jx,_⟩:=Y1 hi (one?_sound h2 hx)
 obtain ⟨v',w',hrun,hg,hd,hv,hk⟩:=HY (P:=P) (τ:=τ) c.w t o.type e ie ze k1 t1 t3 (by omega) t4 k3 hi.size js jx r63 rby
 have hob : ∀ b,Value.ownBlock (.slice A n cap)=some b→A=some ⟨b,0,none⟩∧Jk B c b e cap n:=fun b hb=>by
  rcases js' with ⟨rfl,_⟩ | ⟨b',rfl,_,q⟩
  ·cases hb
  ·have:b'=b:=by simpa [Value.ownBlock] using hb
   subst this
   exact ⟨rfl,q⟩
 have hkeep : ∀ b,Value.ownBlock (.slice A n cap)=some b → ∃ cur',w'.heap[b]? = some (.cells cur' e (0,0))∧cur'.size=cap ∧ ∀ u∈cur'.toList,u.oneCell'=true:=fun b hb=>by
  obtain ⟨e1,q⟩:=hob b hb
  obtain ⟨arr,q1,q2,_⟩:=q.cells
  obtain ⟨cur',w1,w2,w3⟩:=hk b arr e1 q1
  exact ⟨cur',w1,w2.trans q2,w3⟩
 rcases hv with ⟨rfl,h0⟩ | ⟨g',c2,cur',rfl,l1,l2,hat,hc,hsz,hone⟩
 ·
  have hA:A=none ∨ ∃ b,Value.ownBlock (.slice A n cap)=some b:=by
   rcases js' with ⟨rfl,_⟩ | ⟨b',rfl,_⟩
   ·exact .inl rfl
   ·exact .inr ⟨b',rfl⟩
  rcases hA with rfl | ⟨b,hb⟩
  ·obtain ⟨hI,hE⟩:=hi.grow (w':=w') (St':=c.St) ⟨hg.os,hg.tape,hg.output,hg.size,fun b hb=>hg.block b hb (by simp [Value.ownBlock])⟩ (Sb.le.refl _) (fun _ _ x => .inl x) hd (fun _ _ _ _ x => .inl x)
   refine cx (v := .slice none 0 0) (c':={ c with w:=w' }) (cJ ho hcl hargs hty (by rw [es,ex]; exact hrun)) rfl hI hE ⟨_,rfl,(aA rfl).2 ?_⟩
   show Rep _ _ (.jk e (n+m)) _
   rw [h0]
   exact ⟨none,0,rfl,.inl ⟨rfl,rfl,rfl⟩⟩
  ·obtain ⟨_,q⟩:=hob b hb
   obtain ⟨cur',w1,w2,w3⟩:=hkeep b hb
   obtain ⟨hI,hE⟩:=hi.jstep (ob:=Value.ownBlock (.slice A n cap)) (g':=b) (cap':=cap) (n':=n) hg hd (fun b hb=>(hob b hb).2) hkeep ⟨.inl hb,q.le.1,q.le.2,cur',w1,w2,w3⟩
   refine cx (v := .slice none 0 0) (c':=jst c w' b e cap n) (cJ ho hcl hargs hty (by rw [es,ex]; exact hrun)) rfl hI hE ⟨_,rfl,(aA rfl).2 ?_⟩
   show Rep _ _ (.jk e (n+m)) _
   rw [h0]
   exact ⟨none,0,rfl,.inl ⟨rfl,rfl,rfl⟩⟩
 ·obtain ⟨hI,hE⟩:=hi.jstep (ob:=Value.ownBlock (.slice A n cap)) (g':=g') (cap':=c2) (n':=n+m) hg hd (fun b hb=>(hob b hb).2) hkeep ⟨hat,l1,l2,cur',hc,hsz,hone⟩
  refine cx (v := .slice (some ⟨g',0,none⟩) (n+m) c2) (c':=jst c w' g' e c2 (n+m)) (cJ ho hcl hargs hty (by rw [es,ex]; exact hrun)) rfl hI hE ⟨_,rfl,(aA rfl).2 ?_⟩
  exact ⟨_,c2,rfl,.inr ⟨g',rfl,Or.inr ⟨rfl,rfl,rfl,rfl⟩⟩⟩
theorem YH (hi:Inv B w0 St0 c) (tk:TabOk P tab) {cl:Call} {x:Operand} {t e:TypeId} (ho:o.op = .call cl) (hcl:cl.callee = .builtin .len) (hargs:cl.args = #[x]) (hty:cl.argTypes[0]? = some t) {s:AV} (hx:RA c s [a.eval x]) {n:Nat}
  (hn:one? (.jsl e) s=some n) (ht:tab.ty t=some (.jsl e)):Ok P B w0 St0 o a c c.heap (.val (.int .i64) (n:Int)):=by
 obtain ⟨A,cap,es,_⟩:=Y1 hi (one?_sound hn hx)
 obtain ⟨i,z,_,_,_,_,_,_,hu⟩:=tk.ty t _ ht
 obtain ⟨τ,k1,_⟩:=hu
 refine aH hi ?_ (cY _ _)
 unfold execOp
 simp [ho,resolve,hcl,hargs,invoke,builtin,Builtin.len_,hty,es,run_underlying k1,goInt]
theorem AD (hi:Inv B w0 St0 c) (tk:TabOk P tab) {t:TypeId} {len:Nat} {parts:Array (Nat×Operand)} (ho:o.op = .buildSlice t len parts) {us:List AV} (hv:RAs c us ((parts.toList.map (·.2)).map a.eval)) {τ:Ty} {e:TypeId}
  (ht:tab.ty t=some (.jsl e)) (he:tab.ty e=some τ) (hlen:len=parts.size) (hord:dg 0 (parts.toList.map (·.1))=true) (hsz:len≤4096) {l:List τ.den} (hl:lT τ us=some l):Ok P B w0 St0 o a c c.heap (.val (.jsl e) len):=by
 obtain ⟨i,z,_,_,_,_,_,_,hu⟩:=tk.ty t _ ht
 obtain ⟨τ',u1,u2,u3,_⟩:=hu
 have:τ'=τ:=by rw [he] at u2; exact (Option.some.inj u2).symm
 subst this
 obtain ⟨ds,hrep,hll,hrun⟩:=kY tk ho hv u1 he hlen hord (by rw [u3]; omega) hl
 have hdl:ds.length=len:=by rw [bG hrep,hll,u3]; omega
 let c':Gh:=jst c (c.w.alloc (.cells ds.toArray e)) c.w.heap.size e len len
 have hI:Inv B w0 St0 c'∧Ev c c':=hi.grow (w':=c.w.alloc (.cells ds.toArray e)) (St':=c'.St) ((Below.refl _ _).alloc (Nat.le_refl _) _) ⟨fun _ _ x=>x,fun _ _ _ _ x=>Or.inl x⟩ (fun _ _ x => .inl x) (Nat.le_refl _) (fun b e1 k1 k2 x=>by
  rcases x with x | ⟨rfl,rfl,rfl,rfl⟩
  ·exact .inl x
  ·exact .inr ⟨Nat.le_refl _,⟨Nat.le_refl _,by simp only [maxLen]; omega⟩,⟨ds.toArray,heap_alloc_new c.w _,by simpa using hdl,by simpa using hrep.one⟩,fun o x=>Nat.lt_irrefl _ (hi.bnd _ o x)⟩)
 exact cx (v := .slice (some ⟨c.w.heap.size,0,none⟩) len len) (c':=c') hrun rfl hI.1 hI.2 ⟨_,rfl,(aA rfl).2 ⟨_,len,rfl,.inr ⟨_,rfl,Or.inr ⟨rfl,rfl,rfl,rfl⟩⟩⟩⟩
end
end Go.Proofs.YtboikinjlmjgjaaGreat.Abs
