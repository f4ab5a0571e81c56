/- Functions that turn a struct of data behind a pointer: their contracts. -/
import Derived.Test.YtboikinjlmjgjaaGreatAbsX
namespace Go.Proofs.YtboikinjlmjgjaaGreat.Abs
open Go Go.RowKit
def AV.isVal:AV→Bool
 | .val _ _=>true
 | _=>false
def Yc (tab:Tab) (rs:List ResultVar) (τ:Ty) (tys:List Ty):KT:=fun e σ =>
 match e with
 | .exit _=>none
 | _=>match gx tab σ rs,(σ.heap[0]? : Option HO) with
  | some l,some (.box cells)=>match Er σ.heap tys l,asm τ cells with
   | some l,some x=>some (.pcons (.val τ x) (wt l))
   | _,_=>none
  | _,_=>none
def Yb (fi:FuncId→Option Fi) (hs:Hs) (d:Nat) (x:Fi) (τ:Ty) (tys:List Ty) (fuel:Nat) (p:τ.den) (args:List AV):Option AV :=
 match τ.nojk&&args.all AV.nojk with
 | true=>be (aD fi hs fuel d) x.S 1 fuel x.code ⟨.box 0 0::args++List.replicate (x.ntmps-(args.length+1)) .unk,[.box (uU τ p)]⟩ (Yc x.S.tab x.results τ tys)
 | false=>none
def ach (τ:Ty) (R:τ.den→List AV→Option (Bool×τ.den×AV)):Bnt:=fun cells aL=>match aL.all AV.isVal with
 | true=>match asm τ cells with
  | some p=>match R p aL with
   | some (b,p',out)=>some (b,uU τ p',out)
   | none=>none
  | none=>none
 | false=>none
section
variable {P:Program} {B:Bd} {w0:World} {St0:Sb} {c:Gh}
theorem agQ {c c':Gh} {u:AV} {v:Value} (hu:u.isVal=true) (hw:c'.w=c.w) (hs:c.St.le c'.St) (h:RA c u [v]):RA c' u [v]:=by
 cases u with
 | val t x =>
  obtain ⟨v',e,r⟩:=h
  exact ⟨v',e,r.mono hs (fun _ _ _ _ y=>by rw [hw]; exact y)⟩
 | _=>cases hu
theorem S4 {c c':Gh} (hw:c'.w=c.w) (hs:c.St.le c'.St) : ∀ {us:List AV} {vs:List Value},us.all AV.isVal=true→RAs c us vs→RAs c' us vs
 | [],[],_,_=>trivial
 | _::_,_::_,hu,⟨h1,h2⟩=>by
  simp only [List.all_cons,Bool.and_eq_true] at hu
  exact ⟨agQ hu.1 hw hs h1,S4 hw hs hu.2 h2⟩
theorem S5 {c c':Gh} (hw:c'.w=c.w) (hs : ∀ b o,c.St b o→c'.St b o) : ∀ {us:List AV} {vs:List Value},us.all AV.isVal=true→us.all AV.nojk=true→RAs c us vs→RAs c' us vs
 | [],[],_,_,_=>trivial
 | u::_,_::_,hu,hn,⟨h1,h2⟩=>by
  simp only [List.all_cons,Bool.and_eq_true] at hu hn
  refine ⟨?_,S5 hw hs hu.2 hn.2 h2⟩
  cases u with
  | val t x =>
   obtain ⟨v',e,r⟩:=h1
   exact ⟨v',e,by rw [hw]; exact r.nj hs hn.1⟩
  | _=>cases hu.1
theorem G2 {heap:List HO} : ∀ {ts:List Ty} {l l':List AV},Er heap ts l=some l'→l'.all AV.isVal=true
 | [],[],l',h=>by
  simp only [Er,Option.some.injEq] at h
  subst h
  rfl
 | t::ts,u::l,l',h=>by
  simp only [Er] at h
  split at h
  ·rename_i x r' hx hr'
   simp only [Option.some.injEq] at h
   subst h
   simp only [List.all_cons,AV.isVal,Bool.true_and]
   exact G2 hr'
  ·cases h
theorem Inv.turned (hI:Inv B w0 St0 c) {k:Nat} {cells cells':List AV} (hk:c.heap[k]? = some (.box cells)) {w':World} {arr':Array Value} {t':TypeId} (hbel:Below B.b c.w w') (hdr:c.w.drawn≤w'.drawn)
  (hoth : ∀ (b:Nat) (o:Obj),c.w.heap[b]? = some o→o.isCells=false→w'.heap[b]? = some o) (same : ∀ b,b<c.w.heap.size→b≠c.blk k→w'.heap[b]? = c.w.heap[b]?)
  (hnew:w'.heap[c.blk k]? = some (.cells arr' t' (0,0))) {S:Sb} (hS1:c.St.le S) (hS2 : ∀ b o,S b o→c.St b o∨(c.w.heap.size≤b∧b<w'.heap.size)) (hj : ∀ b e cap n,S.j b e cap n→c.St.j b e cap n∨NJ c.w.heap.size w' S b e cap n)
  (hcells:RAs { c with w:=w',heap:=c.heap.set k (.box cells'),St:=S } cells' arr'.toList) :
  Inv B w0 St0 { c with w:=w',heap:=c.heap.set k (.box cells'),St:=S }∧Ev c { c with w:=w',heap:=c.heap.set k (.box cells'),St:=S }:=by
 obtain ⟨arr,t,b1,b2,b3,b4⟩:=hI.box k cells hk
 have hlt:=aE hk
 have hok:obk c k=some (c.blk k):=by unfold obk; rw [hk]
 have hbl:=(Array.getElem?_eq_some_iff.1 b1).1
 have old : ∀ i,i≠k→(c.heap.set k (.box cells'))[i]? = c.heap[i]? := fun i hi=>by rw [bv,if_neg (fun e=>hi e.symm)]
 have new:(c.heap.set k (.box cells'))[k]? = some (.box cells'):=by rw [bv,if_pos rfl,if_pos hlt]
 have ev:Ev c { c with w:=w',heap:=c.heap.set k (.box cells'),St:=S }:=by
  refine ⟨hS1,fun a v hst _ hc => ?_,fun i cs x => ?_,fun i t e v x => ?_,fun i t e v l x => ?_,fun i x => ?_,fun _ _=>rfl⟩
  ·exact (World.cell?_of_block (same a.block (hI.bnd _ _ hst) (fun e=>b3 a.off (e ▸ hst)))).trans hc
  ·by_cases hi:i=k
   ·subst hi; exact ⟨cells',new,rfl⟩
   ·exact ⟨cs,(old i hi).trans x,rfl⟩
  ·have hi:i≠k:=fun e=>by subst e; rw [hk] at x; cases x
   exact ⟨t,e,v,(old i hi).trans x,Nat.le_refl _,fun _=>rfl⟩
  ·have hi:i≠k:=fun e=>by subst e; rw [hk] at x; cases x
   exact .inl ⟨v,l,(old i hi).trans x,Nat.le_refl _,fun _=>rfl⟩
  ·have hi:i≠k:=fun e=>by subst e; rw [hk] at x; cases x
   exact (old i hi).trans x
 have hob : ∀ i,obk { c with w:=w',heap:=c.heap.set k (.box cells'),St:=S } i=obk c i:=fun i=>by
  by_cases hi:i=k
  ·subst hi; unfold obk; simp only [new,hk]
  ·exact eZ (old i hi) rfl rfl
 have keepO : ∀ i b,i≠k→obk c i=some b→w'.heap[b]? = c.w.heap[b]? := fun i b hi hb =>
  same b (dO hI hb).1 (fun e=>hI.sep i k b hi hb (by rw [e]; exact hok))
 have noNew : ∀ b o,b<c.w.heap.size→S b o→c.St b o:=fun b o hb x=>by
  rcases hS2 b o x with x | x
  ·exact x
  ·omega
 refine ⟨⟨hI.below.trans hbel,Nat.le_trans hI.size hbel.size, ?_,hI.st0.trans hS1, ?_, ?_, ?_, ?_, ?_,hI.drawn.trans ⟨hdr,hoth,fun b f=>same b (hI.fl b f) (fun e=>hI.fo k b (by rw [e]; exact hok) f)⟩,fun i b hb=>hI.fo i b (by rw [hob i] at hb; exact hb),fun b f=>Nat.lt_of_lt_of_le (hI.fl b f) hbel.size,hI.j0,fun b e cap n x => ?_⟩,ev⟩
 rotate_right 1
 ·rcases hj b e cap n x with x | x
  ·exact (hI.junk b e cap n x).imp id fun q=>q.keep (same b q.lt fun e=>q.own k (by rw [e]; exact hok)) (fun o y=>noNew b o q.lt y) fun i y=>by rw [hob i] at y; exact y
  ·exact .inr ⟨Nat.le_trans hI.size x.lo,fun f=>by have:=hI.fl b f; have:=x.lo; omega,x.le,x.cells,x.free,fun i y=>by
    rw [hob i] at y
    have:=(dO hI y).1; have:=x.lo; omega⟩
 ·intro b o x
  rcases hS2 b o x with x | x
  ·exact Nat.lt_of_lt_of_le (hI.bnd b o x) hbel.size
  ·exact x.2
 ·intro b o x
  rcases hS2 b o x with x | x
  ·exact hI.stN b o x
  ·exact .inr ⟨Nat.le_trans hI.size x.1,fun f=>by have:=hI.fl b f; omega⟩
 ·intro i cs hi
  by_cases ei:i=k
  ·subst ei
   have:=new.symm.trans hi
   injection this with this
   injection this with this
   subst this
   exact ⟨arr',t',hnew,b2,fun o x=>b3 o (noNew _ o hbl x),hcells⟩
  ·have hi:=(old i ei).symm.trans hi
   obtain ⟨a1,t1,q1,q2,q3,q4⟩:=hI.box i cs hi
   have hoi:obk c i=some (c.blk i):=by unfold obk; rw [hi]
   exact ⟨a1,t1,(keepO i _ ei hoi).trans q1,q2,fun o x=>q3 o (noNew _ o (Array.getElem?_eq_some_iff.1 q1).1 x),q4.mono ev⟩
 ·intro i t1 e1 v1 hi
  have ei:i≠k:=fun e=>by subst e; have:=new.symm.trans hi; injection this with this; cases this
  have hi:=(old i ei).symm.trans hi
  obtain ⟨n1,xs1,q1,q2⟩:=hI.row i t1 e1 v1 hi
  have hoi:obk c i=(c.rv i).ownBlock:=by unfold obk; rw [hi]
  refine ⟨n1,xs1,⟨q1.1, ?_⟩,fun b hb o hle x=>q2 b hb o hle (noNew b o (dO hI (hoi.trans hb)).1 x)⟩
  rcases q1.2 with x | ⟨g,cap,cur,r1,r2,r3,r⟩
  ·exact .inl x
  ·exact .inr ⟨g,cap,cur,r1,r2,(keepO i g ei (by rw [hoi,r1]; rfl)).trans r3,r⟩
 ·intro i j b hij hb hb'
  rw [hob] at hb hb'
  exact hI.sep i j b hij hb hb'
 ·intro i t1 e1 v1 l1 hi
  have ei:i≠k:=fun e=>by subst e; have:=new.symm.trans hi; injection this with this; cases this
  have hi:=(old i ei).symm.trans hi
  obtain ⟨xs1,q1,qr,q2⟩:=hI.mrow i t1 e1 v1 l1 hi
  have hoi:obk c i=(c.rv i).ownBlock:=by unfold obk; rw [hi]
  refine ⟨xs1,⟨q1.1, ?_⟩,qr.mono ev.st ev.cell,fun b hb o x=>q2 b hb o (noNew b o (dO hI (hoi.trans hb)).1 x)⟩
  rcases q1.2 with x | ⟨g,cap,cur,r1,r2,r3,r⟩
  ·exact .inl x
  ·exact .inr ⟨g,cap,cur,r1,r2,(keepO i g ei (by rw [hoi,r1]; rfl)).trans r3,r⟩
theorem SH (hm:P.follows .mixedOrders=true) {fi:FuncId→Option Fi} {hs:Hs} (hfi : ∀ f x,fi f=some x→FiOk P f x) (hhs:qi P hs) {d:Nat} {f:FuncId} {x:Fi} (hx:FiOk P f x) {τ:Ty} {tys:List Ty} {R:τ.den→List AV→Option (Bool×τ.den×AV)}
  (h : ∀ p args p' out,args.all AV.isVal=true→R p args=some (true,p',out) → ∃ fuel,Yb fi hs d x τ tys fuel p args=some (.pcons (.val τ p') out)):gX P f (ach τ R):=by
 obtain ⟨⟨fn,f1,f2,f3,f4,f5⟩,tk,ts⟩:=hx
 intro cells aL cells' out he
 refine ⟨⟨fn,f1,by simp [f2],f5⟩,fun B w0 St0 c hI k hk vs hr => ?_⟩
 unfold ach at he
 split at he
 ·rename_i hall
  ··split at he
    ·rename_i p hp
     split at he
     ·rename_i b p' out' hR
      simp only [Option.some.injEq,Prod.mk.injEq] at he
      obtain ⟨rfl,rfl,rfl⟩:=he
      obtain ⟨fuel,hrun⟩:=h p aL p' out' hall hR
      unfold Yb at hrun
      split at hrun
      rotate_left 1
      ·cases hrun
      rename_i hnj
      simp only [Bool.and_eq_true] at hnj
      let S0:Sb:={ s:=c.St.s }
      match vs,hr with
      | v::vs,⟨hv,hrest⟩ =>
      have hv0:=hv
      obtain ⟨_,_,ev⟩:=hv
      simp only [List.cons.injEq,and_true] at ev
      obtain ⟨arr,t,b1,b2,b3,b4⟩:=hI.box k cells hk
      have hbl:=(Array.getElem?_eq_some_iff.1 b1).1
      have hrep:Rep c.w S0 (toD τ p) arr.toList:=Rep.nj (St:=c.St) (St':=S0) (fun _ _ x=>x) (sN p hnj.1) (gh hp b4)
      have hIs:Inv ⟨B.b,fun b=>b<c.w.heap.size∧b≠c.blk k⟩ c.w S0 ⟨[.box (uU τ p)],S0,fun _=>c.blk k,fun _ => .slice none 0 0,c.w,fun _=>0⟩:=by
       refine ⟨Below.refl _ _,hI.size,hI.bnd,Sb.le.refl _,fun _ _ x => .inl x,fun i cs hi => ?_,fun i t e v hi => ?_,fun i j b hij hb hb' => ?_,fun i t e v l hi => ?_,Og.refl _,fun i b hb f => ?_,fun b f=>f.1,fun _ _ _ _ f=>f,fun _ _ _ _ x => .inl x⟩
       ·cases i with
        | zero =>
         simp only [List.getElem?_cons_zero,Option.some.injEq,HO.box.injEq] at hi
         subst hi
         exact ⟨arr,t,b1,b2,b3,lM hrep⟩
        | succ i=>simp at hi
       ·cases i with
        | zero=>simp at hi
        | succ i=>simp at hi
       ·cases i with
        | zero =>
         cases j with
         | zero=>exact hij rfl
         | succ j=>simp [obk] at hb'
        | succ i=>simp [obk] at hb
       ·cases i with
        | zero=>simp at hi
        | succ i=>simp at hi
       ·cases i with
        | zero =>
         simp only [obk,List.getElem?_cons_zero,Option.some.injEq] at hb
         exact f.2 hb.symm
        | succ i=>simp [obk] at hb
      have hptr:RAs (⟨[.box (uU τ p)],S0,fun _=>c.blk k,fun _ => .slice none 0 0,c.w,fun _=>0⟩:Gh) [.box 0 0] [v]:=⟨⟨_,rfl,by rw [ev]⟩,trivial⟩
      have hrest':RAs (⟨[.box (uU τ p)],S0,fun _=>c.blk k,fun _ => .slice none 0 0,c.w,fun _=>0⟩:Gh) aL vs:=S5 (c:=c) (c':=⟨[.box (uU τ p)],S0,fun _=>c.blk k,fun _ => .slice none 0 0,c.w,fun _=>0⟩) rfl (fun _ _ x=>x) hall hnj.2 hrest
      refine callsIn_wide.1 (callsIn_of_wp_marks (F:=RF none) (n:=0) f1 f2 trivial (wpIn_mono (lR hm tk ts (pG hm hfi hhs d) x.code none 0 [([.box 0 0],[v])] 1 ⟨B.b,fun b=>b<c.w.heap.size∧b≠c.blk k⟩ c.w S0 _ (fun _ e=>by cases e) (fun _ h=>by cases h) (.inl rfl) _ _ _ c.w (Nat.le_refl _) hrun ⟨⟨[.box (uU τ p)],S0,fun _=>c.blk k,fun _ => .slice none 0 0,c.w,fun _=>0⟩,c.w,rfl,rfl,hIs, ?_,ng.none _ _,fun fr hfr => ?_⟩) fun e a w' hn => ?_))
      ·have:=oS (RAs.append hptr hrest') (x.ntmps-(aL.length+1))
       rw [f3]
       have hlen:=hrest.length
       simpa [hlen,Nat.add_comm] using this
      ·rw [List.mem_singleton.1 hfr]
       exact ⟨hptr,rfl⟩
      ·have fin : ∀ σ',(match gx x.S.tab σ' x.results,(σ'.heap[0]? : Option HO) with | some l,some (.box cells)=>(match Er σ'.heap tys l,asm τ cells with | some l,some x=>some (AV.pcons (.val τ x) (wt l)) | _,_=>none) | _,_=>none)=some (.pcons (.val τ p') out')→Rel [([.box 0 0],[v])] 1 ⟨B.b,fun b=>b<c.w.heap.size∧b≠c.blk k⟩ c.w S0 σ' a w'∧1≤σ'.heap.length →
         LeavesInM (RF none) 0 P fn a.tmps (fun e w' => ∃ v c2,e = .returned v∧c2.heap=c.heap.set k (.box (uU τ p'))∧c2.w=w'∧Inv B w0 St0 c2∧Ev c c2∧RA c2 out' [v]) a.defers .returning w':=by
        rintro σ' h1 ⟨⟨c1,w1,rfl,hh1,hI1,hE1,⟨hb1,ho1,ms,hms,hnod,hmk⟩,hfs1⟩,hle⟩
        rw [hms]
        refine f0 ms c1 w1 hI1 hnod (fun D hD=>⟨(hmk D hD).1,hI1.drawn.keep D _ (hmk D hD).2.2.1 rfl⟩) (fun c' w2 g1 hI2 hE2 g4 g5 g6 => ?_)
        have hh':c'.heap=σ'.heap:=g1.trans hh1
        have hE':=hE1.mono hE2
        have ho':Og (fun b=>b<c.w.heap.size∧b≠c.blk k) c.w c'.w:=⟨by rw [g5]; exact (ho1.trans hI1.drawn).dr,fun k o x y=>by
         rw [g6 k (fun hm=>by have:=(hmk k hm).2.1; have:=(Array.getElem?_eq_some_iff.1 x).1; omega)]
         exact (ho1.trans hI1.drawn).keep k o x y,fun k f=>by
         rw [g6 k (fun hm=>(hmk k hm).2.2.2 f)]
         exact (ho1.trans hI1.drawn).kb k f⟩
        have hI':Inv ⟨B.b,fun b=>b<c.w.heap.size∧b≠c.blk k⟩ c.w S0 c':=hI2.base ((hb1.trans hI1.below).trans g4) ho'
        split at h1
        ·rename_i l cells1 hl hc1
         split at h1
         ·rename_i l' p1 hl' hp1
          simp only [Option.some.injEq,AV.pcons.injEq] at h1
          obtain ⟨e1,rfl⟩:=h1
          injection e1 with _ e1
          subst e1
          rw [← f4] at hl
          obtain ⟨v',vs',q1,q2,q3⟩:=fj tk hI' hh' hE' hl
          have hbk:c'.blk 0=c.blk k:=by
           have:=((hfs1 _ (List.mem_singleton.2 rfl)).1.mono hE2).1
           obtain ⟨_,_,e2⟩:=this
           simp only [List.cons.injEq,and_true] at e2
           rw [ev] at e2
           injection e2 with e2
           injection e2 with e2
           injection e2 with e2
           exact e2.symm
          rw [← hh'] at hc1
          obtain ⟨arr',t',a1,a2,a3,a4⟩:=hI'.box 0 cells1 hc1
          rw [hbk] at a1 a3
          let Q:Nat→Prop:=fun b => ∃ e cap n,c'.St.j b e cap n∧Jk ⟨B.b,fun b=>b<c.w.heap.size∧b≠c.blk k⟩ c' b e cap n
          let S:Sb:=⟨fun b o=>c.St b o∨((c.w.heap.size≤b∧b<c'.w.heap.size) ∧ ¬ Q b),fun b e cap n=>c.St.j b e cap n∨c'.St.j b e cap n⟩
          have st1 : ∀ b o,c'.St b o→c.St b o∨(c.w.heap.size≤b∧b<c'.w.heap.size):=fun b o x=>by
           rcases hI'.stN b o x with y | ⟨_,y⟩
           ·exact .inl y
           ·have hbn:=hI'.bnd b o x
            rcases Nat.lt_or_ge b c.w.heap.size with z | z
            ·by_cases eb:b=c.blk k
             ·subst eb; exact absurd x (a3 o)
             ·exact absurd ⟨z,eb⟩ y
            ·exact .inr ⟨z,hbn⟩
          have st':c'.St.le S:=⟨fun b o x=>(st1 b o x).imp id fun y=>⟨y,fun ⟨_,_,_,_,q⟩=>q.free o x⟩,fun _ _ _ _ x => .inr x⟩
          rw [← hh'] at hl'
          have mr' : ∀ (k' b o:Nat) (t:Ty) (e:TypeId) (v:Nat) (l:List t.den),c'.heap[k']? = some (.mrow t e v l)→(c'.rv k').ownBlock=some b→S b o:=fun k' b o t e v l hk' hb=>by
           have ho:obk c' k'=some b:=by unfold obk; rw [hk']; exact hb
           have h0:obk c' 0=some (c.blk k):=by unfold obk; rw [hc1,hbk]
           have hne:k'≠0:=fun e=>by rw [e,hc1] at hk'; cases hk'
           have hnb:b≠c.blk k:=fun e=>hI'.sep k' 0 b hne ho (by rw [e]; exact h0)
           have hf:=hI'.fo k' b ho
           refine .inr ⟨⟨?_,(dO hI' ho).1⟩,fun ⟨_,_,_,_,q⟩=>q.own k' ho⟩
           rcases Nat.lt_or_ge b c.w.heap.size with z | z
           ·exact absurd ⟨z,hnb⟩ hf
           ·exact z
          obtain ⟨i1,i2⟩:=hI.turned hk (w':=c'.w) (cells':=uU τ p1) (arr':=arr') (t':=t') hI'.below hI'.drawn.dr hI'.drawn.keep (fun b hb hne=>hI'.drawn.kb b ⟨hb,hne⟩) a1 (S:=S) ⟨fun _ _ x => .inl x,fun _ _ _ _ x => .inl x⟩ (fun b o x=>x.imp id fun y=>y.1) (fun b e cap n x=>x.imp id fun x=>let q:=(hI'.junk b e cap n x).resolve_left fun f=>f; ⟨(by
            have hnb:b≠c.blk k:=fun e=>q.own 0 (by unfold obk; rw [hc1,hbk,e])
            rcases Nat.lt_or_ge b c.w.heap.size with z | z
            ·exact absurd ⟨z,hnb⟩ q.nf
            ·exact z),q.le,q.cells,fun o y=>(by
            rcases y with y | y
            ·exact q.free o (hI'.st0.s b o y)
            ·exact y.2 ⟨e,cap,n,x,q⟩)⟩)
           (lM ((gh hp1 a4).mono st' (fun _ _ _ _ y=>y)))
          exact ⟨v',q1,v',{ c with w:=c'.w,heap:=c.heap.set k (.box (uU τ p1)),St:=S },rfl,rfl,rfl,i1,i2,by rw [q3]; exact qR (S4 (c:=bj c'.w S) (c':={ c with w:=c'.w,heap:=c.heap.set k (.box (uU τ p1)),St:=S }) rfl (Sb.le.refl _) (G2 hl') (u0 hI' st' mr' hl' q2))⟩
         ·cases h1
        ·cases h1
       cases e with
       | normal=>obtain ⟨σ',h1,h2⟩:=hn; exact fin σ' h1 h2
       | ret=>obtain ⟨σ',h1,h2⟩:=hn; exact fin σ' h1 h2
       | exit id=>obtain ⟨σ',h1,_⟩:=hn; cases h1
       | goto l=>exact hn.elim
       | panic ch=>exact hn.elim
       | outgrown=>exact hn.elim
     ·cases he
    ·cases he
 ·cases he
end
end Go.Proofs.YtboikinjlmjgjaaGreat.Abs
