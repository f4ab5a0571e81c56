/- Functions that turn a row of their caller's: their contracts. -/
import Derived.Test.YtboikinjlmjgjaaGreatAbsZ
namespace Go.Proofs.YtboikinjlmjgjaaGreat.Abs
open Go Go.RowKit
def yj (tab:Tab) (rs:List ResultVar) (τ:Ty) (e:TypeId):KT:=fun en σ =>
 match en with
 | .exit _=>none
 | _=>match gx tab σ rs with
  | some [.own k v t l]=>match (σ.heap[k]? : Option HO) with
   | some (.row t' e' v')=>if t'=t then if e'=e then if v'=v then match cast? (.slice t) (.slice τ) l with
     | some l=>some (.val (.slice τ) l)
     | none=>none
    else none else none else none
   | _=>none
  | _=>none
def X9 (fi:FuncId→Option Fi) (hs:Hs) (d:Nat) (x:Fi) (τ:Ty) (e:TypeId) (fuel:Nat) (l:List τ.den) (args:List AV):Option AV :=
 match τ.nojk&&args.all AV.nojk with
 | true=>be (aD fi hs fuel d) x.S 0 fuel x.code ⟨.own 0 0 τ l::args++List.replicate (x.ntmps-(args.length+1)) .unk,[.row τ e 0]⟩ (yj x.S.tab x.results τ e)
 | false=>none
def Ya (fi:FuncId→Option Fi) (hs:Hs) (d:Nat) (x:Fi) (τ:Ty) (e:TypeId) (fuel:Nat) (args:List AV):Option AV :=
 match args.all AV.nojk with
 | true=>be (aD fi hs fuel d) x.S 0 fuel x.code ⟨args++List.replicate (x.ntmps-args.length) .unk,[]⟩ (yj x.S.tab x.results τ e)
 | false=>none
section
variable {P:Program} {B:Bd} {w0:World} {St0:Sb} {c:Gh}
theorem EH {c:Gh} : ∀ {ds:List ((t:Ty)×t.den)} {vs:List Value},x8 c.w c.St ds vs→RAs c (ds.map fun d => .val d.1 d.2) vs
 | [],[],_=>trivial
 | _::_,v::_,⟨h,hs⟩=>⟨⟨v,rfl,h⟩,EH hs⟩
theorem Inv.turnedRow (hI:Inv B w0 St0 c) {k v:Nat} {τ:Ty} {e:TypeId} (hk:c.heap[k]? = some (.row τ e v)) {w':World} {St':Sb} {s':Value} {n':Nat} {xs':List Value} (hbel:Below B.b c.w w') (hdr:c.w.drawn≤w'.drawn)
  (hoth : ∀ (b:Nat) (o:Obj),c.w.heap[b]? = some o→o.isCells=false→w'.heap[b]? = some o) (same : ∀ b,b<c.w.heap.size→(c.rv k).ownBlock≠some b→w'.heap[b]? = c.w.heap[b]?)
  (hst:c.St.le St') (hcell : ∀ (a:Addr) u,c.St a.block a.off→a.spot=none→c.w.cell? a=some u→w'.cell? a=some u) (hbnd : ∀ b o,St' b o→b<w'.heap.size)
  (hnew : ∀ b o,St' b o→c.St b o∨(B.b≤b ∧ ¬ (b<c.w.heap.size∧(c.rv k).ownBlock≠some b)))
  (hown:w'.ownsRow B e τ.size s' n' xs') (hfree : ∀ b,s'.ownBlock=some b → ∀ o,n' * τ.size≤o → ¬ St' b o) (hob : ∀ b,s'.ownBlock=some b → ¬ (b<c.w.heap.size∧(c.rv k).ownBlock≠some b))
  (hj : ∀ b e cap n,St'.j b e cap n→c.St.j b e cap n∨(B.b≤b ∧ ¬ (b<c.w.heap.size∧(c.rv k).ownBlock≠some b)∧NJ 0 w' St' b e cap n∧s'.ownBlock≠some b)) :
  Inv B w0 St0 { c with w:=w',heap:=c.heap.set k (.row τ e (v+1)),rv:=fun i=>if i=k then s' else c.rv i,St:=St' }∧Ev c { c with w:=w',heap:=c.heap.set k (.row τ e (v+1)),rv:=fun i=>if i=k then s' else c.rv i,St:=St' }:=by
 have hlt:=aE hk
 have hok:obk c k=(c.rv k).ownBlock:=by unfold obk; rw [hk]
 have old : ∀ i,i≠k→(c.heap.set k (.row τ e (v+1)))[i]? = c.heap[i]? := fun i hi=>by rw [bv,if_neg (fun e=>hi e.symm)]
 have new:(c.heap.set k (.row τ e (v+1)))[k]? = some (.row τ e (v+1)):=by rw [bv,if_pos rfl,if_pos hlt]
 have ev:Ev c { c with w:=w',heap:=c.heap.set k (.row τ e (v+1)),rv:=fun i=>if i=k then s' else c.rv i,St:=St' }:=by
  refine ⟨hst,hcell,fun i cs x => ?_,fun i t1 e1 v1 x => ?_,fun i t1 e1 v1 l1 x => ?_,fun i x => ?_,fun _ _=>rfl⟩
  ·have hi:i≠k:=fun e=>by subst e; rw [hk] at x; cases x
   exact ⟨cs,(old i hi).trans x,rfl⟩
  ·by_cases hi:i=k
   ·subst hi
    rw [hk] at x
    injection x with x
    injection x with x1 x2 x3
    exact ⟨τ,e,v+1,new,by omega,fun h=>by omega⟩
   ·exact ⟨t1,e1,v1,(old i hi).trans x,Nat.le_refl _,fun _=>by simp only [if_neg hi]⟩
  ·have hi:i≠k:=fun e=>by subst e; rw [hk] at x; cases x
   exact .inl ⟨v1,l1,(old i hi).trans x,Nat.le_refl _,fun _=>by simp only [if_neg hi]⟩
  ·have hi:i≠k:=fun e=>by subst e; rw [hk] at x; cases x
   exact (old i hi).trans x
 have hobk:obk { c with w:=w',heap:=c.heap.set k (.row τ e (v+1)),rv:=fun i=>if i=k then s' else c.rv i,St:=St' } k=s'.ownBlock:=by
  unfold obk
  simp only [new,if_true]
 have hobo : ∀ i,i≠k→obk { c with w:=w',heap:=c.heap.set k (.row τ e (v+1)),rv:=fun i=>if i=k then s' else c.rv i,St:=St' } i=obk c i:=fun i hi=>eZ (old i hi) rfl (by simp only [if_neg hi])
 have other : ∀ i b,i≠k→obk c i=some b→b<c.w.heap.size∧(c.rv k).ownBlock≠some b:=fun i b hi hb =>
  ⟨(dO hI hb).1,fun x=>hI.sep i k b hi hb (hok.trans x)⟩
 have keepO : ∀ i b,i≠k→obk c i=some b→w'.heap[b]? = c.w.heap[b]? := fun i b hi hb=>same b (other i b hi hb).1 (other i b hi hb).2
 have noNew : ∀ i b o,i≠k→obk c i=some b→St' b o→c.St b o:=fun i b o hi hb x=>by
  rcases hnew b o x with y | y
  ·exact y
  ·exact absurd (other i b hi hb) y.2
 refine ⟨⟨hI.below.trans hbel,Nat.le_trans hI.size hbel.size,hbnd,hI.st0.trans hst, ?_, ?_, ?_, ?_, ?_,hI.drawn.trans ⟨hdr,hoth,fun b f=>same b (hI.fl b f) (fun x=>hI.fo k b (hok.trans x) f)⟩, ?_,fun b f=>Nat.lt_of_lt_of_le (hI.fl b f) hbel.size,hI.j0,fun b e cap n x => ?_⟩,ev⟩
 rotate_right 1
 ·rcases hj b e cap n x with x | ⟨y1,y2,y3,y4⟩
  ·refine (hI.junk b e cap n x).imp id fun q => ?_
   have hin:b<c.w.heap.size∧(c.rv k).ownBlock≠some b:=⟨q.lt,fun y=>q.own k (hok.trans y)⟩
   refine q.keep (same b hin.1 hin.2) (fun o y => ?_) fun i y => ?_
   ·rcases hnew b o y with y | y
    ·exact y
    ·exact absurd hin y.2
   ·by_cases ei:i=k
    ·subst ei; rw [hobk] at y; exact absurd hin (hob b y)
    ·rw [hobo i ei] at y; exact y
  ·refine .inr ⟨y1,fun f=>y2 ⟨hI.fl b f,fun z=>hI.fo k b (hok.trans z) f⟩,y3.le,y3.cells,y3.free,fun i y => ?_⟩
   by_cases ei:i=k
   ·subst ei; rw [hobk] at y; exact y4 y
   ·rw [hobo i ei] at y; exact y2 (other i b ei y)
 ·intro b o x
  rcases hnew b o x with y | ⟨y1,y2⟩
  ·exact hI.stN b o y
  ·exact .inr ⟨y1,fun f=>y2 ⟨hI.fl b f,fun z=>hI.fo k b (hok.trans z) f⟩⟩
 ·intro i cs hi
  have ei:i≠k:=fun e=>by subst e; have:=new.symm.trans hi; injection this with this; cases this
  have hi:=(old i ei).symm.trans hi
  obtain ⟨a1,t1,q1,q2,q3,q4⟩:=hI.box i cs hi
  have hoi:obk c i=some (c.blk i):=by unfold obk; rw [hi]
  exact ⟨a1,t1,(keepO i _ ei hoi).trans q1,q2,fun o x=>q3 o (noNew i _ o ei hoi x),q4.mono ev⟩
 ·intro i t1 e1 v1 hi
  by_cases ei:i=k
  ·subst ei
   have:=new.symm.trans hi
   injection this with this
   injection this with x1 x2 x3
   subst x1; subst x2
   exact ⟨n',xs',by simpa using hown,by simpa using hfree⟩
  ·have hi:=(old i ei).symm.trans hi
   obtain ⟨n1,xs1,q1,q2⟩:=hI.row i t1 e1 v1 hi
   have hoi:obk c i=(c.rv i).ownBlock:=by unfold obk; rw [hi]
   simp only [if_neg ei]
   refine ⟨n1,xs1,⟨q1.1, ?_⟩,fun b hb o hle x=>q2 b hb o hle (noNew i b o ei (hoi.trans hb) x)⟩
   rcases q1.2 with x | ⟨g,cap,cur,r1,r2,r3,r⟩
   ·exact .inl x
   ·exact .inr ⟨g,cap,cur,r1,r2,(keepO i g ei (by rw [hoi,r1]; rfl)).trans r3,r⟩
 ·intro i j b hij hb hb'
  by_cases ei:i=k
  ·subst ei
   rw [hobk] at hb
   rw [hobo j (fun e=>hij e.symm)] at hb'
   exact hob b hb (other j b (fun e=>hij e.symm) hb')
  ·rw [hobo i ei] at hb
   by_cases ej:j=k
   ·subst ej
    rw [hobk] at hb'
    exact hob b hb' (other i b ei hb)
   ·rw [hobo j ej] at hb'
    exact hI.sep i j b hij hb hb'
 ·intro i t1 e1 v1 l1 hi
  have ei:i≠k:=fun e=>by subst e; have:=new.symm.trans hi; injection this with this; cases this
  have hi:=(old i ei).symm.trans hi
  obtain ⟨xs1,q1,qr,q2⟩:=hI.mrow i t1 e1 v1 l1 hi
  have hoi:obk c i=(c.rv i).ownBlock:=by unfold obk; rw [hi]
  simp only [if_neg ei]
  refine ⟨xs1,⟨q1.1, ?_⟩,qr.mono ev.st ev.cell,fun b hb o x=>q2 b hb o (noNew i b o ei (hoi.trans hb) x)⟩
  rcases q1.2 with x | ⟨g,cap,cur,r1,r2,r3,r⟩
  ·exact .inl x
  ·exact .inr ⟨g,cap,cur,r1,r2,(keepO i g ei (by rw [hoi,r1]; rfl)).trans r3,r⟩
 ·intro i b hb f
  by_cases ei:i=k
  ·subst ei
   rw [hobk] at hb
   exact hob b hb ⟨hI.fl b f,fun z=>hI.fo i b (hok.trans z) f⟩
  ·rw [hobo i ei] at hb
   exact hI.fo i b hb f
theorem Vi (hm:P.follows .mixedOrders=true) {fi:FuncId→Option Fi} {hs:Hs} (hfi : ∀ f x,fi f=some x→FiOk P f x) (hhs:qi P hs) {d:Nat} {f:FuncId} {x:Fi} (hx:FiOk P f x) {τ:Ty} {e:TypeId} {R:List τ.den→List AV→Option (Bool×List τ.den)}
  (h : ∀ l aL l',R l aL=some (true,l') → ∃ ds,zm aL ds ∧ ∃ fuel,X9 fi hs d x τ e fuel l (ds.map fun d => .val d.1 d.2)=some (.val (.slice τ) l')):zj P f ⟨τ,e,R⟩:=by
 obtain ⟨⟨fn,f1,f2,f3,f4,f5⟩,tk,ts⟩:=hx
 intro l aL l' he
 obtain ⟨ds,hds,fuel,hrun⟩:=h l aL l' he
 refine ⟨⟨fn,f1,by simp [f2],f5⟩,fun B w0 St0 c hI k v hk vs hr => ?_⟩
 match vs,hr with
 | s::vs,⟨hs,hrest⟩ =>
 obtain ⟨s',es,hsv,t',e',v',hrow,hle,hcur⟩:=hs
 simp only [List.cons.injEq,and_true] at es
 subst es
 rw [hk] at hrow
 injection hrow with hrow
 injection hrow with r1 r2 r3
 have hsv':s=c.rv k:=hcur r3.symm
 obtain ⟨n,xs,hown,hsp⟩:=hI.row k τ e v hk
 have hok:obk c k=(c.rv k).ownBlock:=by unfold obk; rw [hk]
 unfold X9 at hrun
 split at hrun
 rotate_left 1
 ·cases hrun
 rename_i hnj
 simp only [Bool.and_eq_true] at hnj
 let S0:Sb:={ s:=c.St.s }
 have hIs:Inv ⟨B.b,fun b=>b<c.w.heap.size∧(c.rv k).ownBlock≠some b⟩ c.w S0 ⟨[.row τ e 0],S0,fun _=>0,fun _=>c.rv k,c.w,fun _=>0⟩:=by
  refine ⟨Below.refl _ _,hI.size,hI.bnd,Sb.le.refl _,fun _ _ x => .inl x,fun i cs hi => ?_,fun i t e v hi => ?_,fun i j b hij hb hb' => ?_,fun i t e v l hi => ?_,Og.refl _,fun i b hb f => ?_,fun b f=>f.1,fun _ _ _ _ f=>f,fun _ _ _ _ x => .inl x⟩
  ·cases i with
   | zero=>simp at hi
   | succ i=>simp at hi
  ·cases i with
   | zero =>
    simp only [List.getElem?_cons_zero,Option.some.injEq,HO.row.injEq] at hi
    obtain ⟨rfl,rfl,rfl⟩:=hi
    exact ⟨n,xs,hown,hsp⟩
   | succ i=>simp at hi
  ·cases i with
   | zero =>
    cases j with
    | zero=>exact hij rfl
    | succ j=>simp [obk] at hb'
   | succ i=>simp [obk] at hb
  ·cases i with
   | zero=>simp at hi
   | succ i=>simp at hi
  ·cases i with
   | zero =>
    simp only [obk,List.getElem?_cons_zero] at hb
    exact f.2 hb
   | succ i=>simp [obk] at hb
 have hrest':RAs (⟨[.row τ e 0],S0,fun _=>0,fun _=>c.rv k,c.w,fun _=>0⟩:Gh) (ds.map fun d => .val d.1 d.2) vs:=RAs.nj (c:=⟨[.row τ e 0],c.St,fun _=>0,fun _=>c.rv k,c.w,fun _=>0⟩) (c':=⟨[.row τ e 0],S0,fun _=>0,fun _=>c.rv k,c.w,fun _=>0⟩) rfl rfl rfl rfl rfl (fun _ _ x=>x) hnj.2 (EH (c:=⟨[.row τ e 0],c.St,fun _=>0,fun _=>c.rv k,c.w,fun _=>0⟩) (show x8 c.w c.St ds vs from RAs.dat (c:=c) hds hrest))
 have hs0:RA (⟨[.row τ e 0],S0,fun _=>0,fun _=>c.rv k,c.w,fun _=>0⟩:Gh) (.own 0 0 τ l) [s]:=⟨s,rfl,cE.nj (t := .slice τ) (St:=c.St) (St':=S0) (fun _ _ x=>x) hnj.1 hsv,τ,e,0,rfl,Nat.le_refl _,fun _=>hsv'⟩
 refine callsIn_wide.1 (callsIn_of_wp_marks (F:=RF none) (n:=0) f1 f2 trivial (wpIn_mono (lR hm tk ts (pG hm hfi hhs d) x.code none 0 [([.fix c.St.s c.w],[undef])] 0 ⟨B.b,fun b=>b<c.w.heap.size∧(c.rv k).ownBlock≠some b⟩ c.w S0 _ (fun _ e=>by cases e) (fun _ h=>by cases h) (.inl rfl) _ _ _ c.w (Nat.zero_le _) hrun ⟨⟨[.row τ e 0],S0,fun _=>0,fun _=>c.rv k,c.w,fun _=>0⟩,c.w,rfl,rfl,hIs, ?_,ng.none _ _,fun fr hfr => ?_⟩) fun en a w' hn => ?_))
 ·have:=oS (show RAs (⟨[.row τ e 0],S0,fun _=>0,fun _=>c.rv k,c.w,fun _=>0⟩:Gh) (.own 0 0 τ l::ds.map fun d => .val d.1 d.2) (s::vs) from ⟨hs0,hrest'⟩) (x.ntmps-((ds.map fun d=>AV.val d.1 d.2).length+1))
  rw [f3]
  have hlen:=hrest'.length
  simpa [hlen,Nat.add_comm] using this
 ·rw [List.mem_singleton.1 hfr]
  exact ⟨⟨⟨rfl,fun _ _ x=>x,fun _ _ _ _ y=>y⟩,trivial⟩,rfl⟩
 ·have fin : ∀ σ',(match gx x.S.tab σ' x.results with
     | some [.own k v t l]=>(match (σ'.heap[k]? : Option HO) with
      | some (.row t' e' v')=>if t'=t then if e'=e then if v'=v then (match cast? (.slice t) (.slice τ) l with
        | some l=>some (AV.val (.slice τ) l)
        | none=>none)
       else none else none else none
      | _=>none)
     | _=>none)=some (.val (.slice τ) l')→Rel [([.fix c.St.s c.w],[undef])] 0 ⟨B.b,fun b=>b<c.w.heap.size∧(c.rv k).ownBlock≠some b⟩ c.w S0 σ' a w'∧0≤σ'.heap.length →
    LeavesInM (RF none) 0 P fn a.tmps (fun en w' => ∃ r c',en = .returned r∧c'.heap=c.heap.set k (.row τ e (v+1))∧c'.w=w'∧Inv B w0 St0 c'∧Ev c c'∧RA c' (.own k (v+1) τ l') [r]) a.defers .returning w':=by
   rintro σ' h1 ⟨⟨c1,w1,rfl,hh1,hI1,hE1,⟨hb1,ho1,ms,hms,hnod,hmk⟩,hfs1⟩,hle⟩
   rw [hms]
   refine f0 ms c1 w1 hI1 hnod (fun D hD=>⟨(hmk D hD).1,hI1.drawn.keep D _ (hmk D hD).2.2.1 rfl⟩) (fun c' w2 g1 hI2 hE2 g4 g5 g6 => ?_)
   have hh':c'.heap=σ'.heap:=g1.trans hh1
   have hE':=hE1.mono hE2
   have ho':Og (fun b=>b<c.w.heap.size∧(c.rv k).ownBlock≠some b) c.w c'.w:=⟨by rw [g5]; exact (ho1.trans hI1.drawn).dr,fun k o x y=>by
    rw [g6 k (fun hm=>by have:=(hmk k hm).2.1; have:=(Array.getElem?_eq_some_iff.1 x).1; omega)]
    exact (ho1.trans hI1.drawn).keep k o x y,fun k f=>by
    rw [g6 k (fun hm=>(hmk k hm).2.2.2 f)]
    exact (ho1.trans hI1.drawn).kb k f⟩
   have hI':Inv ⟨B.b,fun b=>b<c.w.heap.size∧(c.rv k).ownBlock≠some b⟩ c.w S0 c':=hI2.base ((hb1.trans hI1.below).trans g4) ho'
   obtain ⟨_,_,hfx2⟩:=((hfs1 _ (List.mem_singleton.2 rfl)).1.mono hE2).1
   split at h1
   ·rename_i k' v1 t1 l1 hl
    split at h1
    ·rename_i t2 e2 v2 hk'
     split at h1
     ·rename_i q1
      subst q1
      split at h1
      ·rename_i q2
       subst q2
       split at h1
       ·rename_i q3
        subst q3
        split at h1
        ·rename_i l2 hc
         obtain ⟨et,hl2⟩:=cast?_some hc
         injection et with et
         subst et
         have hl2:l2=l1:=hl2
         subst hl2
         simp only [Option.some.injEq] at h1
         injection h1 with _ h1
         subst h1
         rw [← f4] at hl
         obtain ⟨r,vs',p1,p2,p3⟩:=fj tk hI' hh' hE' hl
         match vs',p2,p3 with
         | [r0],⟨⟨s2,es2,hrep2,t3,e3,v3,hrow3,hle3,hcur3⟩,_⟩,p3 =>
         simp only [List.cons.injEq,and_true] at es2
         subst es2
         have p3:r=r0:=p3
         subst p3
         rw [← hh'] at hk'
         rw [hk'] at hrow3
         injection hrow3 with hrow3
         injection hrow3 with z1 z2 z3
         have hr0:r=c'.rv k':=hcur3 z3.symm
         obtain ⟨n',xs',hown',hsp'⟩:=hI'.row k' _ _ _ hk'
         have hok':obk c' k'=(c'.rv k').ownBlock:=by unfold obk; rw [hk']
         let S1:Sb:=⟨c'.St.s,fun b e cap n=>c.St.j b e cap n∨c'.St.j b e cap n⟩
         obtain ⟨i1,i2⟩:=hI.turnedRow hk (w':=c'.w) (St':=S1) (s':=c'.rv k') (n':=n') (xs':=xs') hI'.below hI'.drawn.dr hI'.drawn.keep (fun b hb hne=>hI'.drawn.kb b ⟨hb,hne⟩) ⟨hI'.st0.s,fun _ _ _ _ x => .inl x⟩ hfx2 hI'.bnd hI'.stN hown' hsp' (fun b hb=>hI'.fo k' b (hok'.trans hb)) (fun b e cap n x=>(show c.St.j b e cap n∨c'.St.j b e cap n from x).imp id fun x=>let q:=(hI'.junk b e cap n x).resolve_left fun f=>f; ⟨q.lo,q.nf,⟨Nat.zero_le _,q.le,q.cells,q.free⟩,fun y=>q.own k' (hok'.trans y)⟩)
         refine ⟨r,p1,r,{ c with w:=c'.w,heap:=c.heap.set k (.row t2 e2 (v+1)),rv:=fun i=>if i=k then c'.rv k' else c.rv i,St:=S1 },rfl,rfl,rfl,i1,i2,r,rfl,cE.mono (St:=c'.St) (St':=S1) ⟨fun _ _ x=>x,fun _ _ _ _ x=>Or.inr x⟩ (fun _ _ _ _ y=>y) hrep2,t2,e2,v+1, ?_,Nat.le_refl _,fun _ => ?_⟩
         ·show (c.heap.set k _)[k]? = _
          rw [bv,if_pos rfl,if_pos (aE hk)]
         ·simp only [if_true]
          exact hr0
        ·cases h1
       ·cases h1
      ·cases h1
     ·cases h1
    ·cases h1
   ·cases h1
  cases en with
  | normal=>obtain ⟨σ',h1,h2⟩:=hn; exact fin σ' h1 h2
  | ret=>obtain ⟨σ',h1,h2⟩:=hn; exact fin σ' h1 h2
  | exit id=>obtain ⟨σ',h1,_⟩:=hn; cases h1
  | goto l=>exact hn.elim
  | panic ch=>exact hn.elim
  | outgrown=>exact hn.elim
theorem Vy (hm:P.follows .mixedOrders=true) {fi:FuncId→Option Fi} {hs:Hs} (hfi : ∀ f x,fi f=some x→FiOk P f x) (hhs:qi P hs) {d:Nat} {f:FuncId} {x:Fi} (hx:FiOk P f x) {τ:Ty} {e:TypeId} {R:List AV→Option (Bool×List τ.den)}
  (h : ∀ args l',R args=some (true,l') → ∃ ds,zm args ds ∧ ∃ fuel,Ya fi hs d x τ e fuel (ds.map fun d => .val d.1 d.2)=some (.val (.slice τ) l')):SR P f ⟨τ,e,R⟩:=by
 obtain ⟨⟨fn,f1,f2,f3,f4,f5⟩,tk,ts⟩:=hx
 intro args l' he
 obtain ⟨ds,hds,fuel,hrun⟩:=h args l' he
 refine ⟨⟨fn,f1,by simp [f2],f5⟩,fun B w0 St0 c hI k v hk vs hrest => ?_⟩
 have hok:obk c k=(c.rv k).ownBlock:=by unfold obk; rw [hk]
 unfold Ya at hrun
 split at hrun
 rotate_left 1
 ·cases hrun
 rename_i hnj
 let S0:Sb:={ s:=c.St.s }
 have hIs:Inv ⟨B.b,fun b=>b<c.w.heap.size⟩ c.w S0 (bj c.w S0):=by
  refine ⟨Below.refl _ _,hI.size,hI.bnd,Sb.le.refl _,fun _ _ x => .inl x,fun i cs hi => ?_,fun i t e v hi => ?_,fun i j b hij hb hb' => ?_,fun i t e v l hi => ?_,Og.refl _,fun i b hb f => ?_,fun b f=>f,fun _ _ _ _ f=>f,fun _ _ _ _ x => .inl x⟩
  ·simp [bj] at hi
  ·simp [bj] at hi
  ·simp [obk,bj] at hb
  ·simp [bj] at hi
  ·simp [obk,bj] at hb
 have hrest':RAs (bj c.w S0) (ds.map fun d => .val d.1 d.2) vs:=RAs.nj (c:=bj c.w c.St) (c':=bj c.w S0) rfl rfl rfl rfl rfl (fun _ _ x=>x) hnj (EH (c:=bj c.w c.St) (show x8 c.w c.St ds vs from RAs.dat (c:=c) hds hrest))
 refine callsIn_wide.1 (callsIn_of_wp_marks (F:=RF none) (n:=0) f1 f2 trivial (wpIn_mono (lR hm tk ts (pG hm hfi hhs d) x.code none 0 [([.fix c.St.s c.w],[undef])] 0 ⟨B.b,fun b=>b<c.w.heap.size⟩ c.w S0 _ (fun _ e=>by cases e) (fun _ h=>by cases h) (.inl rfl) _ _ _ c.w (Nat.zero_le _) hrun ⟨bj c.w S0,c.w,rfl,rfl,hIs, ?_,ng.none _ _,fun fr hfr => ?_⟩) fun en a w' hn => ?_))
 ·have:=oS hrest' (x.ntmps-(ds.map fun d=>AV.val d.1 d.2).length)
  rw [f3]
  have hlen:=hrest'.length
  simpa [hlen,Nat.add_comm] using this
 ·rw [List.mem_singleton.1 hfr]
  exact ⟨⟨⟨rfl,fun _ _ x=>x,fun _ _ _ _ y=>y⟩,trivial⟩,rfl⟩
 ·have fin : ∀ σ',(match gx x.S.tab σ' x.results with
     | some [.own k v t l]=>(match (σ'.heap[k]? : Option HO) with
      | some (.row t' e' v')=>if t'=t then if e'=e then if v'=v then (match cast? (.slice t) (.slice τ) l with
        | some l=>some (AV.val (.slice τ) l)
        | none=>none)
       else none else none else none
      | _=>none)
     | _=>none)=some (.val (.slice τ) l')→Rel [([.fix c.St.s c.w],[undef])] 0 ⟨B.b,fun b=>b<c.w.heap.size⟩ c.w S0 σ' a w'∧0≤σ'.heap.length →
    LeavesInM (RF none) 0 P fn a.tmps (fun en w' => ∃ r c',en = .returned r∧c'.heap=c.heap.set k (.row τ e (v+1))∧c'.w=w'∧Inv B w0 St0 c'∧Ev c c'∧RA c' (.own k (v+1) τ l') [r]) a.defers .returning w':=by
   rintro σ' h1 ⟨⟨c1,w1,rfl,hh1,hI1,hE1,⟨hb1,ho1,ms,hms,hnod,hmk⟩,hfs1⟩,hle⟩
   rw [hms]
   refine f0 ms c1 w1 hI1 hnod (fun D hD=>⟨(hmk D hD).1,hI1.drawn.keep D _ (hmk D hD).2.2.1 rfl⟩) (fun c' w2 g1 hI2 hE2 g4 g5 g6 => ?_)
   have hh':c'.heap=σ'.heap:=g1.trans hh1
   have hE':=hE1.mono hE2
   have ho':Og (fun b=>b<c.w.heap.size) c.w c'.w:=⟨by rw [g5]; exact (ho1.trans hI1.drawn).dr,fun k o x y=>by
    rw [g6 k (fun hm=>by have:=(hmk k hm).2.1; have:=(Array.getElem?_eq_some_iff.1 x).1; omega)]
    exact (ho1.trans hI1.drawn).keep k o x y,fun k f=>by
    rw [g6 k (fun hm=>(hmk k hm).2.2.2 f)]
    exact (ho1.trans hI1.drawn).kb k f⟩
   have hI':Inv ⟨B.b,fun b=>b<c.w.heap.size⟩ c.w S0 c':=hI2.base ((hb1.trans hI1.below).trans g4) ho'
   obtain ⟨_,_,hfx2⟩:=((hfs1 _ (List.mem_singleton.2 rfl)).1.mono hE2).1
   split at h1
   ·rename_i k' v1 t1 l1 hl
    split at h1
    ·rename_i t2 e2 v2 hk'
     split at h1
     ·rename_i q1
      subst q1
      split at h1
      ·rename_i q2
       subst q2
       split at h1
       ·rename_i q3
        subst q3
        split at h1
        ·rename_i l2 hc
         obtain ⟨et,hl2⟩:=cast?_some hc
         injection et with et
         subst et
         have hl2:l2=l1:=hl2
         subst hl2
         simp only [Option.some.injEq] at h1
         injection h1 with _ h1
         subst h1
         rw [← f4] at hl
         obtain ⟨r,vs',p1,p2,p3⟩:=fj tk hI' hh' hE' hl
         match vs',p2,p3 with
         | [r0],⟨⟨s2,es2,hrep2,t3,e3,v3,hrow3,hle3,hcur3⟩,_⟩,p3 =>
         simp only [List.cons.injEq,and_true] at es2
         subst es2
         have p3:r=r0:=p3
         subst p3
         rw [← hh'] at hk'
         rw [hk'] at hrow3
         injection hrow3 with hrow3
         injection hrow3 with z1 z2 z3
         have hr0:r=c'.rv k':=hcur3 z3.symm
         obtain ⟨n',xs',hown',hsp'⟩:=hI'.row k' _ _ _ hk'
         have hok':obk c' k'=(c'.rv k').ownBlock:=by unfold obk; rw [hk']
         let S1:Sb:=⟨c'.St.s,fun b e cap n=>c.St.j b e cap n∨c'.St.j b e cap n⟩
         obtain ⟨i1,i2⟩:=hI.turnedRow hk (w':=c'.w) (St':=S1) (s':=c'.rv k') (n':=n') (xs':=xs') hI'.below hI'.drawn.dr hI'.drawn.keep (fun b hb _=>hI'.drawn.kb b hb) ⟨hI'.st0.s,fun _ _ _ _ x => .inl x⟩ hfx2 hI'.bnd (fun b o x=>(hI'.stN b o x).imp id fun y=>⟨y.1,fun z=>y.2 z.1⟩) hown' hsp' (fun b hb z=>hI'.fo k' b (hok'.trans hb) z.1) (fun b e cap n x=>(show c.St.j b e cap n∨c'.St.j b e cap n from x).imp id fun x=>let q:=(hI'.junk b e cap n x).resolve_left fun f=>f; ⟨q.lo,fun z=>q.nf z.1,⟨Nat.zero_le _,q.le,q.cells,q.free⟩,fun y=>q.own k' (hok'.trans y)⟩)
         refine ⟨r,p1,r,{ c with w:=c'.w,heap:=c.heap.set k (.row t2 e2 (v+1)),rv:=fun i=>if i=k then c'.rv k' else c.rv i,St:=S1 },rfl,rfl,rfl,i1,i2,r,rfl,cE.mono (St:=c'.St) (St':=S1) ⟨fun _ _ x=>x,fun _ _ _ _ x=>Or.inr x⟩ (fun _ _ _ _ y=>y) hrep2,t2,e2,v+1, ?_,Nat.le_refl _,fun _ => ?_⟩
         ·show (c.heap.set k _)[k]? = _
          rw [bv,if_pos rfl,if_pos (aE hk)]
         ·simp only [if_true]
          exact hr0
        ·cases h1
       ·cases h1
      ·cases h1
     ·cases h1
    ·cases h1
   ·cases h1
  cases en with
  | normal=>obtain ⟨σ',h1,h2⟩:=hn; exact fin σ' h1 h2
  | ret=>obtain ⟨σ',h1,h2⟩:=hn; exact fin σ' h1 h2
  | exit id=>obtain ⟨σ',h1,_⟩:=hn; cases h1
  | goto l=>exact hn.elim
  | panic ch=>exact hn.elim
  | outgrown=>exact hn.elim
end
theorem ac9 {P:Program} {f:FuncId} {τ:Ty} {e:TypeId} {R:List τ.den→List AV→Option (Bool×List τ.den)} (h : ∀ l aL b l',R l aL=some (b,l')→b=false):zj P f ⟨τ,e,R⟩:=fun l aL l' he=>by
 cases h l aL true l' he
end Go.Proofs.YtboikinjlmjgjaaGreat.Abs
