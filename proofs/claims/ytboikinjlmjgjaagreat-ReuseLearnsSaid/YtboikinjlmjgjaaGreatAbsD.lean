/- What the steps of the model's memory do to the relation. -/
import Derived.Test.YtboikinjlmjgjaaGreatAbsC
namespace Go.Proofs.YtboikinjlmjgjaaGreat.Abs
open Go Go.RowKit
section
variable {B:Bd} {w0:World} {St0:Sb} {c:Gh}
theorem eZ {c c':Gh} {k:Nat} (hh:c'.heap[k]? = c.heap[k]?) (hb:c'.blk k=c.blk k) (hr:c'.rv k=c.rv k):obk c' k=obk c k:=by
 unfold obk; rw [hh,hb,hr]
theorem Inv.grow (h:Inv B w0 St0 c) {w':World} {St':Sb} (hb:Below c.w.heap.size c.w w') (hs:c.St.le St')
  (hn : ∀ b o,St' b o→c.St b o∨(c.w.heap.size≤b∧b<w'.heap.size)) (hdr:c.w.drawn≤w'.drawn)
  (hj : ∀ b e cap n,St'.j b e cap n→c.St.j b e cap n∨NJ c.w.heap.size w' St' b e cap n) :
  Inv B w0 St0 { c with w:=w',St:=St' }∧Ev c { c with w:=w',St:=St' }:=by
 have ev:Ev c { c with w:=w',St:=St' }:=⟨hs,fun a v hst _ hc=>(hb.cell (h.bnd _ _ hst)).trans hc,fun _ cells x=>⟨cells,x,rfl⟩,fun _ t e v x=>⟨t,e,v,x,Nat.le_refl _,fun _=>rfl⟩,fun _ _ _ v l x => .inl ⟨v,l,x,Nat.le_refl _,fun _=>rfl⟩,fun _ x=>x,fun _ _=>rfl⟩
 refine ⟨⟨h.below.trans (hb.mono h.size),Nat.le_trans h.size hb.size, ?_,h.st0.trans hs, ?_, ?_, ?_, ?_, ?_,h.drawn.trans (Og.of_below hb hdr h.fl),h.fo,fun b f=>Nat.lt_of_lt_of_le (h.fl b f) hb.size,h.j0,fun b e cap n x => ?_⟩,ev⟩
 rotate_right 1
 ·rcases hj b e cap n x with x | x
  ·refine (h.junk b e cap n x).imp id fun q=>q.keep (hb.block b q.lt) (fun o y => ?_) fun k y=>y
   rcases hn b o y with y | y
   ·exact y
   ·have:=q.lt; omega
  ·exact .inr ⟨Nat.le_trans h.size x.lo,fun f=>by have:=h.fl b f; have:=x.lo; omega,x.le,x.cells,x.free,fun k y=>by have:=(dO h y).1; have:=x.lo; omega⟩
 ·intro b o x
  rcases hn b o x with x | x
  ·exact Nat.lt_of_lt_of_le (h.bnd _ _ x) hb.size
  ·exact x.2
 ·intro b o x
  rcases hn b o x with x | x
  ·exact h.stN _ _ x
  ·exact .inr ⟨Nat.le_trans h.size x.1,fun f=>by have:=h.fl b f; omega⟩
 ·intro k cells hk
  obtain ⟨arr,t,h1,h2,h3,h4⟩:=h.box k cells hk
  have hlt:=(Array.getElem?_eq_some_iff.1 h1).1
  refine ⟨arr,t,(hb.block _ hlt).trans h1,h2,fun o x => ?_,h4.mono ev⟩
  rcases hn _ o x with x | x
  ·exact h3 o x
  ·have:c.w.heap.size≤c.blk k:=x.1
   omega
 ·intro k t e v hk
  obtain ⟨n,xs,ho,hsp⟩:=h.row k t e v hk
  refine ⟨n,xs,⟨ho.1, ?_⟩,fun b hb' o hle x => ?_⟩
  ·rcases ho.2 with x | ⟨g,cap,cur,e1,e2,e3,r⟩
   ·exact .inl x
   ·exact .inr ⟨g,cap,cur,e1,e2,(hb.block _ (Array.getElem?_eq_some_iff.1 e3).1).trans e3,r⟩
  ·rcases hn _ o x with x | x
   ·exact hsp b hb' o hle x
   ·have:=ho.lt b hb'
    omega
 ·exact h.sep
 ·intro k t e v l hk
  obtain ⟨xs,ho,hrep,hsp⟩:=h.mrow k t e v l hk
  refine ⟨xs,⟨ho.1, ?_⟩,hrep.mono ev.st ev.cell,fun b hb' o x => ?_⟩
  ·rcases ho.2 with x | ⟨g,cap,cur,e1,e2,e3,r⟩
   ·exact .inl x
   ·exact .inr ⟨g,cap,cur,e1,e2,(hb.block _ (Array.getElem?_eq_some_iff.1 e3).1).trans e3,r⟩
  ·rcases hn _ o x with x | x
   ·exact hsp b hb' o x
   ·have:=ho.lt b hb'
    omega
theorem Inv.drew (h:Inv B w0 St0 c):Inv B w0 St0 { c with w:=c.w.drew }∧Ev c { c with w:=c.w.drew } :=
 h.grow (w':=c.w.drew) (St':=c.St) ⟨rfl,rfl,rfl,Nat.le_refl _,fun _ _=>rfl⟩ (Sb.le.refl _) (fun _ _ x => .inl x) (Nat.le_succ _) (fun _ _ _ _ x => .inl x)
theorem bv {α:Type} {l:List α} {k i:Nat} {x:α}:(l.set k x)[i]? = if k=i then (if k<l.length then some x else none) else l[i]? := by
 rw [List.getElem?_set]
theorem aE {α:Type} {l:List α} {k:Nat} {x:α} (h:l[k]? = some x):k<l.length:=(List.getElem?_eq_some_iff.1 h).1
theorem Inv.addBox (h:Inv B w0 St0 c) {k g:Nat} {arr:Array Value} {t:TypeId} {cells:List AV} (hk:c.heap[k]? = some .none) (hg:c.w.heap[g]? = some (.cells arr t (0,0))) (hB:B≤g) (hF : ¬ B.F g)
  (hst : ∀ o,¬ c.St g o) (hfree : ∀ k',obk c k'≠some g) (hjk : ∀ e cap n,c.St.j g e cap n→St0.j g e cap n) (hr:RAs c cells arr.toList) :
  Inv B w0 St0 { c with heap:=c.heap.set k (.box cells),blk:=fun i=>if i=k then g else c.blk i }∧Ev c { c with heap:=c.heap.set k (.box cells),blk:=fun i=>if i=k then g else c.blk i }:=by
 have hlt:=aE hk
 have old : ∀ i,i≠k→(c.heap.set k (.box cells))[i]? = c.heap[i]? := fun i hi=>by rw [bv,if_neg (fun e=>hi e.symm)]
 have new:(c.heap.set k (.box cells))[k]? = some (.box cells):=by rw [bv,if_pos rfl,if_pos hlt]
 have ev:Ev c { c with heap:=c.heap.set k (.box cells),blk:=fun i=>if i=k then g else c.blk i }:=by
  refine ⟨Sb.le.refl _,fun _ _ _ _ x=>x,fun i cs x => ?_,fun i t e v x => ?_,fun i t e v l x => ?_,fun i x => ?_,fun _ _=>rfl⟩
  ·have hi:i≠k:=fun e=>by subst e; rw [hk] at x; cases x
   exact ⟨cs,(old i hi).trans x,if_neg hi⟩
  ·have hi:i≠k:=fun e=>by subst e; rw [hk] at x; cases x
   exact ⟨t,e,v,(old i hi).trans x,Nat.le_refl _,fun _=>rfl⟩
  ·have hi:i≠k:=fun e=>by subst e; rw [hk] at x; cases x
   exact .inl ⟨v,l,(old i hi).trans x,Nat.le_refl _,fun _=>rfl⟩
  ·have hi:i≠k:=fun e=>by subst e; rw [hk] at x; cases x
   exact (old i hi).trans x
 have hob : ∀ i,i≠k→obk { c with heap:=c.heap.set k (.box cells),blk:=fun i=>if i=k then g else c.blk i } i=obk c i:=fun i hi=>eZ (old i hi) (if_neg hi) rfl
 have hobk:obk { c with heap:=c.heap.set k (.box cells),blk:=fun i=>if i=k then g else c.blk i } k=some g:=by
  unfold obk
  simp only [new,if_pos]
 refine ⟨⟨h.below,h.size,h.bnd,h.st0,h.stN, ?_, ?_, ?_,fun i t' e' v' l' hi => ?_,h.drawn,fun i b hb=>(by
  by_cases ei:i=k
  ·subst ei; rw [hobk] at hb; injection hb with hb; subst hb; exact hF
  ·rw [hob i ei] at hb; exact h.fo i b hb),h.fl,h.j0,fun b e cap n x => ?_⟩,ev⟩
 rotate_right 1
 ·by_cases eb:b=g
  ·subst eb; exact .inl (hjk e cap n x)
  ·refine (h.junk b e cap n x).imp id fun q=>q.keep rfl (fun _ y=>y) fun i y => ?_
   by_cases ei:i=k
   ·subst ei; rw [hobk] at y; injection y with y; exact absurd y.symm eb
   ·rw [hob i ei] at y; exact y
 rotate_left 3
 ·by_cases e:i=k
  ·subst e
   have:=new.symm.trans hi
   injection this with this
   cases this
  ·exact h.mrow i t' e' v' l' ((old i e).symm.trans hi)
 ·intro i cs hi
  by_cases e:i=k
  ·subst e
   have:=new.symm.trans hi
   injection this with this
   injection this with this
   subst this
   exact ⟨arr,t,by simpa using hg,by simpa using hB,by simpa using hst,hr.mono ev⟩
  ·have hi:=(old i e).symm.trans hi
   obtain ⟨a1,t1,h1,h2,h3,h4⟩:=h.box i cs hi
   exact ⟨a1,t1,by simpa [e] using h1,by simpa [e] using h2,by simpa [e] using h3,h4.mono ev⟩
 ·intro i t' e' v' hi
  by_cases e:i=k
  ·subst e
   have:=new.symm.trans hi
   injection this with this
   cases this
  ·exact h.row i t' e' v' ((old i e).symm.trans hi)
 ·intro i j b hij hb hb'
  by_cases ei:i=k
  ·subst ei
   have hj:j≠i:=fun e=>hij e.symm
   rw [hobk] at hb
   rw [hob j hj] at hb'
   injection hb with hb
   subst hb
   exact hfree j hb'
  ·rw [hob i ei] at hb
   by_cases ej:j=k
   ·subst ej
    rw [hobk] at hb'
    injection hb' with hb'
    subst hb'
    exact hfree i hb
   ·rw [hob j ej] at hb'
    exact h.sep i j b hij hb hb'
theorem Inv.addRow (h:Inv B w0 St0 c) {k n:Nat} {t:Ty} {e:TypeId} {s:Value} {xs:List Value} (hk:c.heap[k]? = some .none) (ho:c.w.ownsRow B e t.size s n xs)
  (hsp : ∀ b,s.ownBlock=some b → ∀ o,n * t.size≤o → ¬ c.St b o) (hfree : ∀ k' b,s.ownBlock=some b→obk c k'≠some b) (hF : ∀ b,s.ownBlock=some b → ¬ B.F b) (hjk : ∀ b,s.ownBlock=some b → ∀ e cap n,c.St.j b e cap n→St0.j b e cap n) :
  Inv B w0 St0 { c with heap:=c.heap.set k (.row t e 0),rv:=fun i=>if i=k then s else c.rv i }∧Ev c { c with heap:=c.heap.set k (.row t e 0),rv:=fun i=>if i=k then s else c.rv i }:=by
 have hlt:=aE hk
 have old : ∀ i,i≠k→(c.heap.set k (.row t e 0))[i]? = c.heap[i]? := fun i hi=>by rw [bv,if_neg (fun e=>hi e.symm)]
 have new:(c.heap.set k (.row t e 0))[k]? = some (.row t e 0):=by rw [bv,if_pos rfl,if_pos hlt]
 have ev:Ev c { c with heap:=c.heap.set k (.row t e 0),rv:=fun i=>if i=k then s else c.rv i }:=by
  refine ⟨Sb.le.refl _,fun _ _ _ _ x=>x,fun i cs x => ?_,fun i t e v x => ?_,fun i t e v l x => ?_,fun i x => ?_,fun _ _=>rfl⟩
  ·have hi:i≠k:=fun e=>by subst e; rw [hk] at x; cases x
   exact ⟨cs,(old i hi).trans x,rfl⟩
  ·have hi:i≠k:=fun e=>by subst e; rw [hk] at x; cases x
   exact ⟨t,e,v,(old i hi).trans x,Nat.le_refl _,fun _=>if_neg hi⟩
  ·have hi:i≠k:=fun e=>by subst e; rw [hk] at x; cases x
   exact .inl ⟨v,l,(old i hi).trans x,Nat.le_refl _,fun _=>if_neg hi⟩
  ·have hi:i≠k:=fun e=>by subst e; rw [hk] at x; cases x
   exact (old i hi).trans x
 have hob : ∀ i,i≠k→obk { c with heap:=c.heap.set k (.row t e 0),rv:=fun i=>if i=k then s else c.rv i } i=obk c i:=fun i hi=>eZ (old i hi) rfl (if_neg hi)
 have hobk:obk { c with heap:=c.heap.set k (.row t e 0),rv:=fun i=>if i=k then s else c.rv i } k=s.ownBlock:=by
  unfold obk
  simp only [new,if_pos]
 refine ⟨⟨h.below,h.size,h.bnd,h.st0,h.stN, ?_, ?_, ?_,fun i t' e' v' l' hi => ?_,h.drawn,fun i b hb=>(by
  by_cases ei:i=k
  ·subst ei; rw [hobk] at hb; exact hF b hb
  ·rw [hob i ei] at hb; exact h.fo i b hb),h.fl,h.j0,fun b e cap n x => ?_⟩,ev⟩
 rotate_right 1
 ·by_cases eb:s.ownBlock=some b
  ·exact .inl (hjk b eb e cap n x)
  ·refine (h.junk b e cap n x).imp id fun q=>q.keep rfl (fun _ y=>y) fun i y => ?_
   by_cases ei:i=k
   ·subst ei; rw [hobk] at y; exact absurd y eb
   ·rw [hob i ei] at y; exact y
 rotate_left 3
 ·by_cases e:i=k
  ·subst e
   have:=new.symm.trans hi
   injection this with this
   cases this
  ·obtain ⟨xs',h1,h2,h3⟩:=h.mrow i t' e' v' l' ((old i e).symm.trans hi)
   exact ⟨xs',by simpa [e] using h1,h2,by simpa [e] using h3⟩
 ·intro i cs hi
  by_cases e:i=k
  ·subst e
   have:=new.symm.trans hi
   injection this with this
   cases this
  ·have hi:=(old i e).symm.trans hi
   obtain ⟨a1,t1,h1,h2,h3,h4⟩:=h.box i cs hi
   exact ⟨a1,t1,h1,h2,h3,h4.mono ev⟩
 ·intro i t' e' v' hi
  by_cases ei:i=k
  ·subst ei
   have:=new.symm.trans hi
   injection this with this
   injection this with e1 e2 e3
   subst e1; subst e2; subst e3
   exact ⟨n,xs,by simpa using ho,by simpa using hsp⟩
  ·obtain ⟨n',xs',h1,h2⟩:=h.row i t' e' v' ((old i ei).symm.trans hi)
   exact ⟨n',xs',by simpa [ei] using h1,by simpa [ei] using h2⟩
 ·intro i j b hij hb hb'
  by_cases ei:i=k
  ·subst ei
   have hj:j≠i:=fun e=>hij e.symm
   rw [hobk] at hb
   rw [hob j hj] at hb'
   exact hfree j b hb hb'
  ·rw [hob i ei] at hb
   by_cases ej:j=k
   ·subst ej
    rw [hobk] at hb'
    exact hfree i b hb' hb
   ·rw [hob j ej] at hb'
    exact h.sep i j b hij hb hb'
theorem Inv.setBox (h:Inv B w0 St0 c) {k:Nat} {cells cells':List AV} {arr arr':Array Value} {t:TypeId} (hk:c.heap[k]? = some (.box cells)) (hg:c.w.heap[c.blk k]? = some (.cells arr t (0,0)))
  (hr:RAs c cells' arr'.toList) :
  Inv B w0 St0 { c with heap:=c.heap.set k (.box cells'),w:=c.w.setRow (c.blk k) arr' }∧Ev c { c with heap:=c.heap.set k (.box cells'),w:=c.w.setRow (c.blk k) arr' }:=by
 have hlt:=aE hk
 have old : ∀ i,i≠k→(c.heap.set k (.box cells'))[i]? = c.heap[i]? := fun i hi=>by rw [bv,if_neg (fun e=>hi e.symm)]
 have new:(c.heap.set k (.box cells'))[k]? = some (.box cells'):=by rw [bv,if_pos rfl,if_pos hlt]
 have hns : ∀ o,¬ c.St (c.blk k) o:=by obtain ⟨_,_,_,_,h3,_⟩:=h.box k cells hk; exact h3
 have hBk:B≤c.blk k:=by obtain ⟨_,_,_,h2,_⟩:=h.box k cells hk; exact h2
 have blk : ∀ b,b≠c.blk k→(c.w.setRow (c.blk k) arr').heap[b]? = c.w.heap[b]? := fun b hb=>setRow_other _ _ _ _ hb
 have ev:Ev c { c with heap:=c.heap.set k (.box cells'),w:=c.w.setRow (c.blk k) arr' }:=by
  refine ⟨Sb.le.refl _,fun a v hst _ hc => ?_,fun i cs x => ?_,fun i t e v x => ?_,fun i t e v l x => ?_,fun i x => ?_,fun _ _=>rfl⟩
  rotate_left 3
  ·have hi:i≠k:=fun e=>by subst e; rw [hk] at x; cases x
   exact .inl ⟨v,l,(old i hi).trans x,Nat.le_refl _,fun _=>rfl⟩
  ·have hi:i≠k:=fun e=>by subst e; rw [hk] at x; cases x
   exact (old i hi).trans x
  ·exact (World.cell?_of_block (blk a.block (fun e=>hns a.off (e ▸ hst)))).trans hc
  ·by_cases hi:i=k
   ·subst hi; exact ⟨cells',new,rfl⟩
   ·exact ⟨cs,(old i hi).trans x,rfl⟩
  ·have hi:i≠k:=fun e=>by subst e; rw [hk] at x; cases x
   exact ⟨t,e,v,(old i hi).trans x,Nat.le_refl _,fun _=>rfl⟩
 have hbk : ∀ i cs,c.heap[i]? = some (.box cs)→i≠k→c.blk i≠c.blk k:=fun i cs hi hik e=>by
  refine h.sep i k (c.blk i) hik ?_ ?_
  ·unfold obk; rw [hi]
  ·unfold obk; rw [hk,e]
 have hob : ∀ i,obk { c with heap:=c.heap.set k (.box cells'),w:=c.w.setRow (c.blk k) arr' } i=obk c i:=fun i=>by
  by_cases hi:i=k
  ·subst hi; unfold obk; simp only [new,hk]
  ·exact eZ (old i hi) rfl rfl
 have hok:obk c k=some (c.blk k):=by unfold obk; rw [hk]
 have hsame : ∀ b,B.F b→(c.w.setRow (c.blk k) arr').heap[b]? = c.w.heap[b]? := fun b f=>blk b (fun e=>h.fo k b (by rw [e]; exact hok) f)
 have hog:Og B.F c.w (c.w.setRow (c.blk k) arr'):=⟨Nat.le_refl _,fun b o x y=>(blk b (fun e=>by rw [e,hg] at x; injection x with x; subst x; cases y)).trans x,hsame⟩
 refine ⟨⟨?_, ?_, ?_,h.st0,h.stN, ?_, ?_, ?_,fun i t' e' v' l' hi => ?_,h.drawn.trans hog,fun i b hb=>h.fo i b (by rw [hob i] at hb; exact hb),fun b f=>(by
  have e:=hsame b f
  rw [Array.getElem?_eq_getElem (h.fl b f)] at e
  exact (Array.getElem?_eq_some_iff.1 e).1),h.j0,fun b e cap n x=>(h.junk b e cap n x).imp id fun q=>q.keep (blk b fun e=>q.own k (by rw [e]; exact hok)) (fun _ y=>y) fun i y=>by rw [hob i] at y; exact y⟩,ev⟩
 rotate_left 6
 ·have hik:i≠k:=fun e=>by subst e; have:=new.symm.trans hi; injection this with this; cases this
  have hi:=(old i hik).symm.trans hi
  obtain ⟨xs,ho,hrep,hsp⟩:=h.mrow i t' e' v' l' hi
  refine ⟨xs,⟨ho.1, ?_⟩,hrep.mono ev.st ev.cell,hsp⟩
  rcases ho.2 with x | ⟨g,cap,cur,e1,e2,e3,r⟩
  ·exact .inl x
  ·refine .inr ⟨g,cap,cur,e1,e2,(blk g fun e => ?_).trans e3,r⟩
   refine h.sep i k g hik ?_ ?_
   ·have e1:c.rv i=_:=e1
    unfold obk; rw [hi]; simp only [e1,Value.ownBlock]
   ·unfold obk; rw [hk,e]
 ·refine h.below.trans ⟨rfl,rfl,rfl,by simp,fun i hi=>blk i (by omega)⟩
 ·simpa using h.size
 ·intro b o x; simpa using h.bnd b o x
 ·intro i cs hi
  by_cases ei:i=k
  ·subst ei
   have:=new.symm.trans hi
   injection this with this
   injection this with this
   subst this
   exact ⟨arr',t,setRow_heap _ _ _ _ _ _ hg,hBk,hns,hr.mono ev⟩
  ·have hi:=(old i ei).symm.trans hi
   obtain ⟨a1,t1,h1,h2,h3,h4⟩:=h.box i cs hi
   exact ⟨a1,t1,(blk _ (hbk i cs hi ei)).trans h1,h2,h3,h4.mono ev⟩
 ·intro i t' e' v' hi
  have hik:i≠k:=fun e=>by subst e; have:=new.symm.trans hi; injection this with this; cases this
  have hi:=(old i hik).symm.trans hi
  obtain ⟨n,xs,ho,hsp⟩:=h.row i t' e' v' hi
  refine ⟨n,xs,⟨ho.1, ?_⟩,hsp⟩
  rcases ho.2 with x | ⟨g,cap,cur,e1,e2,e3,r⟩
  ·exact .inl x
  ·refine .inr ⟨g,cap,cur,e1,e2,(blk g fun e => ?_).trans e3,r⟩
   refine h.sep i k g hik ?_ ?_
   ·have e1:c.rv i=_:=e1
    unfold obk; rw [hi]; simp only [e1,Value.ownBlock]
   ·unfold obk; rw [hk,e]
 ·intro i j b hij hb hb'
  rw [hob] at hb hb'
  exact h.sep i j b hij hb hb'
theorem dW {P:Program} (w:World) (t ty e:TypeId) (i:TypeInfo) (z:Value) (size bytes:Nat) (ht:P.underlying t=some (.slice e)) (hi:P.info? e=some i) (hz:i.zero=some z)
  (hsize:i.size=size) (hby:i.bytes=bytes) (hzs:z.cells.size=size) (hsz:0<size)
  (v:Value) (n:Nat) (xs:List Value) (hown:w.ownsRow B e size v n xs)
  (A:Option Addr) (m cp:Nat) (news:List Value) (hl:news.length=m * size) (hA:m=0 ∨ ∃ ad,A=some ad ∧ ∀ j u,news[j]? = some u→w.cell? (ad.add j)=some u) (h1 : ∀ u∈news,u.oneCell'=true)
  (h63:n+m≤maxLen) (hbytes:(n+m) * bytes≤140737488355328) (hbase:B≤w.heap.size) :
  ∃ v' w',(Builtin.append_ #[t,t] ty #[v,.slice A m cp]).run P w = .ok v' w'∧w'.ownsRow B e size v' (n+m) (xs++news)∧w.grownBy w' v.ownBlock ∧
   (v'.ownBlock=v.ownBlock∨v'.ownBlock=some w.heap.size)∧(∀ g,v.ownBlock=some g → ∀ j,j<n * size→w'.cell? ⟨g,j,none⟩=w.cell? ⟨g,j,none⟩)∧w.drawn≤w'.drawn:=by
 have hsmall:n+m≤9223372036854775807:=by simp only [maxLen] at h63; omega
 by_cases hm:m=0
 ·subst hm
  have hn:news=[]:=List.eq_nil_of_length_eq_zero (by simpa using hl)
  subst hn
  refine ⟨v,w, ?_,by simpa using hown,⟨rfl,rfl,rfl,Nat.le_refl _,fun _ _ _=>rfl⟩,.inl rfl,fun _ _ _ _=>rfl,Nat.le_refl _⟩
  rcases hown.2 with ⟨rfl,rfl⟩ | ⟨g,cap,cur,rfl,_,hg,hnc,_⟩
  ·cases A <;> simp [Builtin.append_,run_underlying ht,sizeOf,typeInfo,hi,Builtin.lenOf,Builtin.firstCells,loadCells,loadCellsFrom]
  ·cases A <;> simp [Builtin.append_,run_underlying ht,sizeOf,typeInfo,hi,Builtin.lenOf,Builtin.firstCells,loadCells,loadCellsFrom,hnc,storeCells]
 ·obtain ⟨a,rfl,hnews⟩:=hA.resolve_left hm
  obtain ⟨v',w',hrun,h2,h3,_,h5⟩:=run_append_own_at (P:=P) w B t ty e i z size bytes ht hi hz hsize hby hzs hsz v n xs hown a m cp news hl hnews h1 h63 hbytes hbase
  refine ⟨v',w',hrun,h2,h3,h5,fun g hg j hj => ?_, ?_⟩
  rotate_left
  ·rcases hown.2 with ⟨rfl,rfl⟩ | ⟨g',cap,cur,rfl,hbg,hgg,hnc,hcm,hcs,htake⟩
   ·have hr:=run_append_nil (P:=P) w t ty e i z ht hi hz a m cp news (by rw [hsize]; exact hl) hnews (by omega) (by omega) (by rw [hby]; simp at hbytes; omega)
    rw [hr] at hrun
    injection hrun with hv hw
    subst hw
    exact Nat.le_succ _
   ·by_cases hroom:n+m≤cap
    ·subst hsize
     have hfit:n * i.size+news.length≤cur.size:=by rw [hl,hcs, ← Nat.add_mul]; exact Nat.mul_le_mul_right _ hroom
     have hr:=run_append_room (P:=P) w t ty e i ht hi g' n cap cur hgg a m cp news hl hnews h1 hroom hfit
     rw [hr] at hrun
     injection hrun with hv hw
     subst hw
     exact Nat.le_refl _
    ·have holds : ∀ j u,xs[j]? = some u→w.cell? ((⟨g',0,none⟩:Addr).add j)=some u:=hown.cells (g:=g') rfl
     have hr:=run_append_grow (P:=P) w t ty e i z ht hi hz ⟨g',0,none⟩ n cap xs (by rw [hsize]; exact hown.1) holds a m cp news (by rw [hsize]; exact hl) hnews (by omega) (by omega) (growslice_fits (by omega) (by rw [hby]; exact hbytes))
     rw [hr] at hrun
     injection hrun with hv hw
     subst hw
     exact Nat.le_succ _
  rcases h5 with h5 | h5
  ·have hc:=hown.cells hg
   have hc':=h2.cells (h5.trans hg)
   have hlx:j<xs.length:=by rw [hown.1]; exact hj
   have e1:=hc j xs[j] (List.getElem?_eq_getElem hlx)
   have e2:=hc' j xs[j] (by rw [List.getElem?_append_left hlx]; exact List.getElem?_eq_getElem hlx)
   have hadd:(⟨g,0,none⟩:Addr).add j=⟨g,j,none⟩:=by unfold Addr.add; split <;> simp_all
   rw [hadd] at e1 e2
   rw [e1,e2]
  ·subst hsize
   rcases hown.2 with ⟨rfl,_⟩ | ⟨g',cap,cur,rfl,hbg,hgg,hnc,hcm,hcs,htake⟩
   ·simp [Value.ownBlock] at hg
   ·have:g'=g:=by simpa [Value.ownBlock] using hg
    subst this
    have hglt:=(Array.getElem?_eq_some_iff.1 hgg).1
    by_cases hroom:n+m≤cap
    ·have hfit:n * i.size+news.length≤cur.size:=by rw [hl,hcs, ← Nat.add_mul]; exact Nat.mul_le_mul_right _ hroom
     have hr:=run_append_room (P:=P) w t ty e i ht hi g' n cap cur hgg a m cp news hl hnews h1 hroom hfit
     rw [hr] at hrun
     injection hrun with hv hw
     subst hv
     simp [Value.ownBlock] at h5
     omega
    ·have holds : ∀ j u,xs[j]? = some u→w.cell? ((⟨g',0,none⟩:Addr).add j)=some u:=hown.cells (g:=g') rfl
     have hr:=run_append_grow (P:=P) w t ty e i z ht hi hz ⟨g',0,none⟩ n cap xs hown.1 holds a m cp news hl hnews (by omega) (by omega) (growslice_fits (by omega) (by rw [hby]; exact hbytes))
     rw [hr] at hrun
     injection hrun with hv hw
     subst hw
     exact World.cell?_of_block (a:=⟨g',j,none⟩) (Below.heap_alloc w.drew _ g' hglt)
theorem Inv.appendRow (h:Inv B w0 St0 c) {k v n m:Nat} {t:Ty} {e:TypeId} {s':Value} {w':World} {xs news:List Value} (hk:c.heap[k]? = some (.row t e v))
  (ho:c.w.ownsRow B e t.size (c.rv k) n xs) (hsp : ∀ b,(c.rv k).ownBlock=some b → ∀ o,n * t.size≤o → ¬ c.St b o)
  (ho':w'.ownsRow B e t.size s' (n+m) (xs++news)) (hg:c.w.grownBy w' (c.rv k).ownBlock) (hat:s'.ownBlock=(c.rv k).ownBlock∨s'.ownBlock=some c.w.heap.size)
  (hpre : ∀ g,(c.rv k).ownBlock=some g → ∀ j,j<n * t.size→w'.cell? ⟨g,j,none⟩=c.w.cell? ⟨g,j,none⟩) (hdr:c.w.drawn≤w'.drawn) :
  let c':Gh:={ c with heap:=c.heap.set k (.row t e (v+1)),rv:=fun i=>if i=k then s' else c.rv i,w:=w',St:=⟨fun b o=>c.St b o∨(s'.ownBlock=some b∧o<(n+m) * t.size),c.St.j⟩ }
  Inv B w0 St0 c'∧Ev c c':=by
 intro c'
 have hlt:=aE hk
 have old : ∀ i,i≠k→c'.heap[i]? = c.heap[i]? := fun i hi=>by show (c.heap.set k _)[i]? = _; rw [bv,if_neg (fun e=>hi e.symm)]
 have new:c'.heap[k]? = some (.row t e (v+1)):=by show (c.heap.set k _)[k]? = _; rw [bv,if_pos rfl,if_pos hlt]
 have rvo : ∀ i,i≠k→c'.rv i=c.rv i:=fun i hi=>if_neg hi
 have rvn:c'.rv k=s':=if_pos rfl
 have hobk:obk c k=(c.rv k).ownBlock:=by unfold obk; rw [hk]
 have free : ∀ i b,i≠k→s'.ownBlock=some b→obk c i≠some b:=by
  intro i b hi hb hb'
  rcases hat with x | x
  ·rw [x, ← hobk] at hb
   exact h.sep k i b (fun e=>hi e.symm) hb hb'
  ·have:=(dO h hb').1
   rw [x] at hb
   injection hb with hb
   omega
 have blkne : ∀ i b,i≠k→obk c i=some b→some b≠(c.rv k).ownBlock:=by
  intro i b hi hb e
  rw [← hobk] at e
  exact h.sep i k b hi hb e.symm
 have ev:Ev c c':=by
  refine ⟨⟨fun _ _ x => .inl x,fun _ _ _ _ x=>x⟩,fun a u hst hsp' hc => ?_,fun i cs x => ?_,fun i t1 e1 v1 x => ?_,fun i t1 e1 v1 l1 x => ?_,fun i x => ?_,fun _ _=>rfl⟩
  rotate_left 3
  ·have hi:i≠k:=fun e=>by subst e; rw [hk] at x; cases x
   exact .inl ⟨v1,l1,(old i hi).trans x,Nat.le_refl _,fun _=>rvo i hi⟩
  ·have hi:i≠k:=fun e=>by subst e; rw [hk] at x; cases x
   exact (old i hi).trans x
  ·by_cases hbk:(c.rv k).ownBlock=some a.block
   ·have hoff:a.off<n * t.size:=by
     rcases Nat.lt_or_ge a.off (n * t.size) with y | y
     ·exact y
     ·exact absurd hst (hsp _ hbk _ y)
    have ea:a=⟨a.block,a.off,none⟩:=by cases a; simp at hsp' ⊢; exact hsp'
    rw [ea]
    have:=hpre _ hbk _ hoff
    rw [ea] at hc
    exact this.trans hc
   ·exact hg.cell hc (fun e=>hbk e.symm)
  ·have hi:i≠k:=fun e=>by subst e; rw [hk] at x; cases x
   exact ⟨cs,(old i hi).trans x,rfl⟩
  ·by_cases hi:i=k
   ·subst hi
    have:=hk.symm.trans x
    injection this with this
    injection this with _ _ e3
    subst e3
    exact ⟨t,e,v+1,new,by omega,fun x=>by omega⟩
   ·exact ⟨t1,e1,v1,(old i hi).trans x,Nat.le_refl _,fun _=>rvo i hi⟩
 have hbn : ∀ b,s'.ownBlock=some b→b<w'.heap.size∧B≤b:=fun b hb=>by have:=ho'.lt b hb; exact ⟨this.2,this.1⟩
 have hnF : ∀ b,s'.ownBlock=some b → ¬ B.F b:=fun b hb f=>by
  rcases hat with y | y
  ·exact h.fo k b (hobk.trans (y ▸ hb)) f
  ·rw [y] at hb
   injection hb with hb
   have:=h.fl b f
   omega
 have hobk2:obk c' k=s'.ownBlock:=by unfold obk; rw [new]; show (c'.rv k).ownBlock=_; rw [rvn]
 have hrowB : ∀ g,(c.rv k).ownBlock=some g→B≤g:=fun g hg'=>(ho.lt g hg').1
 refine ⟨⟨h.below.grown hg h.size hrowB,Nat.le_trans h.size hg.size, ?_,⟨fun b o x => .inl (h.st0.s _ _ x),h.st0.j⟩, ?_, ?_, ?_, ?_,fun i t1 e1 v1 l1 hi => ?_,h.drawn.trans (Og.of_grown hg (fun b hb=>Gl h (hobk.trans hb)) hdr (fun b f=>⟨h.fl b f,fun e=>h.fo k b (hobk.trans e.symm) f⟩)),fun i b hb=>(by
  by_cases ei:i=k
  ·subst ei; rw [hobk2] at hb; exact hnF b hb
  ·exact h.fo i b ((eZ (old i ei) rfl (rvo i ei)).symm.trans hb)),fun b f=>Nat.lt_of_lt_of_le (h.fl b f) hg.size,h.j0,fun b e cap n x => ?_⟩,ev⟩
 rotate_right 1
 ·refine (h.junk b e cap n x).imp id fun q => ?_
  have hns:s'.ownBlock≠some b:=fun y=>by
   rcases hat with z | z
   ·exact q.own k (hobk.trans (z ▸ y))
   ·rw [z] at y; injection y with y; have:=q.lt; omega
  refine q.keep (hg.block b q.lt fun y=>q.own k (hobk.trans y.symm)) (fun o y => ?_) fun i y => ?_
  ·rcases y with y | ⟨y,_⟩
   ·exact y
   ·exact absurd y hns
  ·by_cases ei:i=k
   ·subst ei; rw [hobk2] at y; exact absurd y hns
   ·exact (eZ (old i ei) rfl (rvo i ei)).symm.trans y
 rotate_left 5
 ·have hik:i≠k:=fun e=>by subst e; have:=new.symm.trans hi; injection this with this; cases this
  have hi':=(old i hik).symm.trans hi
  obtain ⟨xs1,h1,hrep,h2⟩:=h.mrow i t1 e1 v1 l1 hi'
  have hoi:obk c i=(c.rv i).ownBlock:=by unfold obk; rw [hi']
  refine ⟨xs1, ?_,hrep.mono ev.st ev.cell,fun b hb o x => ?_⟩
  ·rw [rvo i hik]
   refine h1.kept hg ?_
   cases hb:(c.rv i).ownBlock with
   | none=>exact .inl rfl
   | some b=>exact .inr (blkne i b hik (hoi.trans hb))
  ·rw [rvo i hik] at hb
   rcases x with x | ⟨x,_⟩
   ·exact h2 b hb o x
   ·exact free i b hik x (hoi.trans hb)
 ·intro b o x
  rcases x with x | ⟨x,_⟩
  ·exact Nat.lt_of_lt_of_le (h.bnd _ _ x) hg.size
  ·exact (hbn b x).1
 ·intro b o x
  rcases x with x | ⟨x,_⟩
  ·exact h.stN _ _ x
  ·exact .inr ⟨(hbn b x).2,hnF b x⟩
 ·intro i cs hi
  have hik:i≠k:=fun e=>by subst e; have:=new.symm.trans hi; injection this with this; cases this
  have hi:=(old i hik).symm.trans hi
  obtain ⟨a1,t1,h1,h2,h3,h4⟩:=h.box i cs hi
  have hoi:obk c i=some (c.blk i):=by unfold obk; rw [hi]
  refine ⟨a1,t1,(hg.block _ (Array.getElem?_eq_some_iff.1 h1).1 (blkne i _ hik hoi)).trans h1,h2,fun o x => ?_,h4.mono ev⟩
  rcases x with x | ⟨x,_⟩
  ·exact h3 o x
  ·exact free i _ hik x hoi
 ·intro i t1 e1 v1 hi
  by_cases hik:i=k
  ·subst hik
   have:=new.symm.trans hi
   injection this with this
   injection this with q1 q2 q3
   subst q1; subst q2; subst q3
   refine ⟨n+m,xs++news,by rw [rvn]; exact ho',fun b hb o hle x => ?_⟩
   rw [rvn] at hb
   rcases x with x | ⟨_,x⟩
   ·rcases hat with y | y
    ·exact hsp b (y ▸ hb) o (Nat.le_trans (Nat.mul_le_mul_right _ (by omega)) hle) x
    ·have:=h.bnd _ _ x
     rw [y] at hb
     injection hb with hb
     omega
   ·omega
  ·have hi':=(old i hik).symm.trans hi
   obtain ⟨n1,xs1,h1,h2⟩:=h.row i t1 e1 v1 hi'
   have hoi:obk c i=(c.rv i).ownBlock:=by unfold obk; rw [hi']
   refine ⟨n1,xs1, ?_,fun b hb o hle x => ?_⟩
   ·rw [rvo i hik]
    refine h1.kept hg ?_
    cases hb:(c.rv i).ownBlock with
    | none=>exact .inl rfl
    | some b=>exact .inr (blkne i b hik (hoi.trans hb))
   ·rw [rvo i hik] at hb
    rcases x with x | ⟨x,_⟩
    ·exact h2 b hb o hle x
    ·exact free i b hik x (hoi.trans hb)
 ·intro i j b hij hb hb'
  have hobn : ∀ i,i≠k→obk c' i=obk c i:=fun i hi=>eZ (old i hi) rfl (rvo i hi)
  have hobk':obk c' k=s'.ownBlock:=by unfold obk; rw [new]; show (c'.rv k).ownBlock=_; rw [rvn]
  by_cases ei:i=k
  ·subst ei
   have hj:j≠i:=fun e=>hij e.symm
   rw [hobk'] at hb
   rw [hobn j hj] at hb'
   exact free j b hj hb hb'
  ·rw [hobn i ei] at hb
   by_cases ej:j=k
   ·subst ej
    rw [hobk'] at hb'
    exact free i b ei hb' hb
   ·rw [hobn j ej] at hb'
    exact h.sep i j b hij hb hb'
theorem Inv.obj (h:Inv B w0 St0 c) {k:Nat} {ho':HO} {w':World} {St':Sb} {r':Value} (hlt:k<c.heap.length)
  (hg:c.w.grownBy w' (obk c k)) (hdr:c.w.drawn≤w'.drawn) (hs:c.St.le St') (hj : ∀ b e cap n,St'.j b e cap n→c.St.j b e cap n)
  (hn : ∀ b o,St' b o→c.St b o∨((obk c k=some b∨c.w.heap.size≤b)∧b<w'.heap.size))
  (hcell : ∀ (a:Addr) v,c.St a.block a.off→a.spot=none→c.w.cell? a=some v→w'.cell? a=some v)
  (hk:c.heap[k]? = some .none ∨ ∃ t e v l,c.heap[k]? = some (.mrow t e v l)∧((∃ v' l',ho' = .mrow t e v' l'∧v≤v'∧(v'=v→r'=c.rv k))∨ho' = .dead))
  (hho:ho' = .dead ∨ ∃ t e v l,ho' = .mrow t e v l∧(r'.ownBlock=none∨r'.ownBlock=obk c k∨r'.ownBlock=some c.w.heap.size) ∧ ∃ xs,w'.ownsRow B e t.size r' l.length xs∧Rep w' St' (bA (toD t) l) xs ∧ ∀ b,r'.ownBlock=some b → ∀ o,¬ St' b o) :
  let c':Gh:={ c with heap:=c.heap.set k ho',w:=w',St:=St',rv:=fun i=>if i=k then r' else c.rv i }
  Inv B w0 St0 c'∧Ev c c':=by
 intro c'
 have old : ∀ i,i≠k→c'.heap[i]? = c.heap[i]? := fun i hi=>by show (c.heap.set k _)[i]? = _; rw [bv,if_neg (fun e=>hi e.symm)]
 have new:c'.heap[k]? = some ho':=by show (c.heap.set k _)[k]? = _; rw [bv,if_pos rfl,if_pos hlt]
 have rvo : ∀ i,i≠k→c'.rv i=c.rv i:=fun i hi=>if_neg hi
 have rvn:c'.rv k=r':=if_pos rfl
 have nbox : ∀ cells,c.heap[k]? ≠ some (.box cells):=fun cells q=>by
  rcases hk with x | ⟨_,_,_,_,x,_⟩ <;> rw [x] at q <;> cases q
 have nrow : ∀ t e v,c.heap[k]? ≠ some (.row t e v):=fun t e v q=>by
  rcases hk with x | ⟨_,_,_,_,x,_⟩ <;> rw [x] at q <;> cases q
 have ndead:c.heap[k]? ≠ some .dead:=fun q=>by
  rcases hk with x | ⟨_,_,_,_,x,_⟩ <;> rw [x] at q <;> cases q
 have ev:Ev c c':=by
  refine ⟨hs,hcell,fun i cs x => ?_,fun i t e v x => ?_,fun i t e v l x => ?_,fun i x => ?_,fun _ _=>rfl⟩
  ·have hi:i≠k:=fun e=>nbox cs (e ▸ x)
   exact ⟨cs,(old i hi).trans x,rfl⟩
  ·have hi:i≠k:=fun e'=>nrow t e v (e' ▸ x)
   exact ⟨t,e,v,(old i hi).trans x,Nat.le_refl _,fun _=>rvo i hi⟩
  ·by_cases hi:i=k
   ·subst hi
    rcases hk with y | ⟨t1,e1,v1,l1,y,z⟩
    ·rw [y] at x; cases x
    ·rw [y] at x
     injection x with x
     injection x with x1 x2 x3 x4
     subst x1; subst x2; subst x3
     rcases z with ⟨v',l',z1,z2,z3⟩ | z
     ·exact .inl ⟨v',l',by rw [new,z1],z2,fun e=>by rw [rvn]; exact z3 e⟩
     ·exact .inr (by rw [new,z])
   ·exact .inl ⟨v,l,(old i hi).trans x,Nat.le_refl _,fun _=>rvo i hi⟩
  ·have hi:i≠k:=fun e=>ndead (e ▸ x)
   exact (old i hi).trans x
 have hobk:obk c' k=none∨obk c' k=obk c k∨obk c' k=some c.w.heap.size:=by
  rcases hho with rfl | ⟨t,e,v,l,rfl,x,_⟩
  ·left; unfold obk; rw [new]
  ·have:obk c' k=r'.ownBlock:=by unfold obk; rw [new]; show (c'.rv k).ownBlock=_; rw [rvn]
   rw [this]; exact x
 have hobn : ∀ i,i≠k→obk c' i=obk c i:=fun i hi=>eZ (old i hi) rfl (rvo i hi)
 have ne : ∀ i b,i≠k→obk c i=some b→some b≠obk c k:=fun i b hi hb e=>h.sep i k b hi hb e.symm
 have hlow : ∀ b,obk c k=some b∨c.w.heap.size≤b→B≤b:=fun b hb=>by
  rcases hb with hb | hb
  ·exact (dO h hb).2
  ·exact Nat.le_trans h.size hb
 have fresh : ∀ i b o,i≠k→obk c i=some b→St' b o→c.St b o:=fun i b o hi hb x=>by
  rcases hn b o x with x | ⟨x | x,_⟩
  ·exact x
  ·exact absurd x (h.sep i k b hi hb)
  ·have:=(dO h hb).1; omega
 refine ⟨⟨?_,Nat.le_trans h.size hg.size, ?_,h.st0.trans hs, ?_, ?_, ?_, ?_, ?_,h.drawn.trans (Og.of_grown hg (fun b hb=>Gl h hb) hdr (fun b f=>⟨h.fl b f,fun e=>h.fo k b e.symm f⟩)),fun i b hb f=>(by
  by_cases ei:i=k
  ·subst ei
   rcases hobk with x | x | x <;> rw [x] at hb
   ·cases hb
   ·exact h.fo i b hb f
   ·injection hb with hb; have:=h.fl b f; omega
  ·rw [hobn i ei] at hb; exact h.fo i b hb f),fun b f=>Nat.lt_of_lt_of_le (h.fl b f) hg.size,h.j0,fun b e cap n x => ?_⟩,ev⟩
 rotate_right 1
 ·refine (h.junk b e cap n (hj b e cap n x)).imp id fun q=>q.keep (hg.block b q.lt fun y=>q.own k y.symm) (fun o y => ?_) fun i y => ?_
  ·rcases hn b o y with y | ⟨y | y,_⟩
   ·exact y
   ·exact absurd y (q.own k)
   ·have:=q.lt; omega
  ·by_cases ei:i=k
   ·subst ei
    rcases hobk with z | z | z <;> rw [z] at y
    ·cases y
    ·exact y
    ·injection y with y; have:=q.lt; omega
   ·rw [hobn i ei] at y; exact y
 ·exact h.below.grown hg h.size (fun g hg'=>(dO h hg').2)
 ·intro b o x
  rcases hn b o x with x | x
  ·exact Nat.lt_of_lt_of_le (h.bnd _ _ x) hg.size
  ·exact x.2
 ·intro b o x
  rcases hn b o x with x | x
  ·exact h.stN _ _ x
  ·refine .inr ⟨hlow b x.1,fun f => ?_⟩
   rcases x.1 with y | y
   ·exact h.fo k b y f
   ·have:=h.fl b f; omega
 ·intro i cs hi
  have hik:i≠k:=fun e=>by subst e; have:=new.symm.trans hi; injection this with this; rcases hho with y | ⟨_,_,_,_,y,_⟩ <;> rw [y] at this <;> cases this
  have hi:=(old i hik).symm.trans hi
  obtain ⟨a1,t1,h1,h2,h3,h4⟩:=h.box i cs hi
  have hoi:obk c i=some (c.blk i):=by unfold obk; rw [hi]
  exact ⟨a1,t1,(hg.block _ (Array.getElem?_eq_some_iff.1 h1).1 (ne i _ hik hoi)).trans h1,h2,fun o x=>h3 o (fresh i _ o hik hoi x),h4.mono ev⟩
 ·intro i t1 e1 v1 hi
  have hik:i≠k:=fun e=>by subst e; have:=new.symm.trans hi; injection this with this; rcases hho with y | ⟨_,_,_,_,y,_⟩ <;> rw [y] at this <;> cases this
  have hi:=(old i hik).symm.trans hi
  obtain ⟨n1,xs1,h1,h2⟩:=h.row i t1 e1 v1 hi
  have hoi:obk c i=(c.rv i).ownBlock:=by unfold obk; rw [hi]
  refine ⟨n1,xs1, ?_,fun b hb o hle x => ?_⟩
  ·rw [rvo i hik]
   refine h1.kept hg ?_
   cases hb:(c.rv i).ownBlock with
   | none=>exact .inl rfl
   | some b=>exact .inr (ne i b hik (hoi.trans hb))
  ·rw [rvo i hik] at hb
   exact h2 b hb o hle (fresh i b o hik (hoi.trans hb) x)
 ·intro i j b hij hb hb'
  by_cases ei:i=k
  ·subst ei
   have hj:j≠i:=fun e=>hij e.symm
   rw [hobn j hj] at hb'
   rcases hobk with x | x | x <;> rw [x] at hb
   ·cases hb
   ·exact h.sep i j b hij hb hb'
   ·injection hb with hb
    have:=(dO h hb').1
    omega
  ·rw [hobn i ei] at hb
   by_cases ej:j=k
   ·subst ej
    rcases hobk with x | x | x <;> rw [x] at hb'
    ·cases hb'
    ·exact h.sep i j b hij hb hb'
    ·injection hb' with hb'
     have:=(dO h hb).1
     omega
   ·rw [hobn j ej] at hb'
    exact h.sep i j b hij hb hb'
 ·intro i t1 e1 v1 l1 hi
  by_cases hik:i=k
  ·subst hik
   have e:=new.symm.trans hi
   injection e with e
   rcases hho with y | ⟨t,e',v,l,y,_,xs,z1,z2,z3⟩
   ·rw [y] at e; cases e
   ·rw [y] at e
    injection e with q1 q2 q3 q4
    subst q1; subst q2
    have q4:=eq_of_heq q4
    subst q4
    exact ⟨xs,by rw [rvn]; exact z1,z2,by rw [rvn]; exact z3⟩
  ·have hi:=(old i hik).symm.trans hi
   obtain ⟨xs1,h1,hrep,h2⟩:=h.mrow i t1 e1 v1 l1 hi
   have hoi:obk c i=(c.rv i).ownBlock:=by unfold obk; rw [hi]
   refine ⟨xs1, ?_,hrep.mono ev.st ev.cell,fun b hb o x => ?_⟩
   ·rw [rvo i hik]
    refine h1.kept hg ?_
    cases hb:(c.rv i).ownBlock with
    | none=>exact .inl rfl
    | some b=>exact .inr (ne i b hik (hoi.trans hb))
   ·rw [rvo i hik] at hb
    exact h2 b hb o (fresh i b o hik (hoi.trans hb) x)
end
end Go.Proofs.YtboikinjlmjgjaaGreat.Abs
