/- A mask is sound; the run of a function's code is sound. -/
import Derived.Test.YtboikinjlmjgjaaGreatAbsU
import Derived.LoopN
import Derived.RangeFuncIn
import Derived.RangeFuncRecord
namespace Go.Proofs.YtboikinjlmjgjaaGreat.Abs
open Go Go.RowKit
theorem vS : ∀ (bs:List (Nat×List AV)) (H:List HO),(eF bs H).length=H.length
 | [],_=>rfl
 | (k,cells)::r,H=>by rw [eF,vS r]; simp
theorem kW : ∀ (bs:List (Nat×List AV)) (H:List HO) (k:Nat),k ∉ bs.map (·.1)→(eF bs H)[k]? = H[k]?
 | [],_,_,_=>rfl
 | (k',cells)::r,H,k,h=>by
  simp only [List.map_cons,List.mem_cons,not_or] at h
  rw [eF,kW r _ k h.2,bv,if_neg (fun e=>h.1 e.symm)]
theorem Qr {a:Nat} {l:List Nat} (h:C2 (a::l)=true):a ∉ l∧C2 l=true:=by
 simpa [C2] using h
theorem vR : ∀ (bs:List (Nat×List AV)) (H:List HO),C2 (bs.map (·.1))=true → ∀ p∈bs,p.1<H.length→(eF bs H)[p.1]? = some (.box p.2)
 | [],_,_,_,h,_=>by cases h
 | (k,cells)::r,H,hd,p,hp,hlt=>by
  obtain ⟨h1,h2⟩:=Qr hd
  rw [eF]
  rcases List.mem_cons.1 hp with rfl | hp
  ·rw [kW r _ _ h1,bv,if_pos rfl,if_pos hlt]
  ·exact vR r _ h2 p hp (by simpa using hlt)
theorem ue {h0:Nat} {pre:List Nat} : ∀ (l:List HO) (i:Nat),wu h0 pre i l=true → ∀ (j:Nat) ho,l[j]? = some ho→(i+j) ∉ pre→ho.under h0=true
 | [],_,_,j,ho,h,_=>by simp at h
 | x::l,i,h,j,ho,hj,hn=>by
  simp only [wu,Bool.and_eq_true,Bool.or_eq_true] at h
  cases j with
  | zero =>
   simp at hj
   subst hj
   rcases h.1 with h | h
   ·exact absurd (by simpa using h) hn
   ·exact h
  | succ j =>
   simp at hj
   exact ue l (i+1) h.2 j ho hj (by rw [show i+1+j=i+(j+1) by omega]; exact hn)
section
variable {P:Program} {B:Bd} {lo:Nat} {w0:World} {St0:Sb} {fs:List (List AV×List Value)} {σ σ':Sg} {a:Act} {w:World}
theorem Qz {m:MS} (h:adQ lo m σ=some σ') (hr:Rel fs lo B w0 St0 σ a w):Rel fs lo B w0 St0 σ' a w∧lo≤σ'.heap.length:=by
 obtain ⟨c,w1,hw,hh,hI,hE,hdf,hfs⟩:=hr
 unfold adQ at h
 split at h
 ·rename_i hchk
  simp only [Bool.and_eq_true,decide_eq_true_eq,List.all_eq_true] at hchk
  obtain ⟨⟨⟨⟨k1,k2⟩,k3⟩,k4⟩,k5⟩:=hchk
  split at h
  ·rename_i bs H1 L1 hpre
   split at h
   ·rename_i env' H2 L2 henv
    simp only [Option.some.injEq] at h
    subst h
    have c0:CInv B c σ.heap [] []:=⟨by rw [hh],rfl,fun k cells=>by rw [hh],fun k t e v hk=>⟨v,by rw [hh]; exact hk,Nat.le_refl _⟩,fun k t e v hk=>⟨v,by rw [← hh]; exact hk,Nat.le_refl _⟩,fun i le s hl=>by simp at hl,fun i j s s' b _ hs=>by simp at hs,fun k t e v l hk=>by rw [hh]; exact hk,fun k t e v l hk => .inl (by rw [← hh]; exact hk),fun k hk=>by rw [← hh]; exact hk⟩
    obtain ⟨V1,c1,_,_,hnames,hbs⟩:=un hI c0 hpre
    obtain ⟨V2,c2,pL,pV,hpend⟩:=nx hI hE c1 henv (fun c' _ _ _ _ _=>BI (c:=c') hE.length.symm)
    let rv':Nat→Value:=fun i=>if i<m.h0 then (match c.heap[i]?,H2[i]? with | some (.row _ _ v0),some (.row _ _ v)=>if v=v0 then c.rv i else .slice none 0 0 | _,_=>c.rv i) else V2.getD (i-m.h0) (.slice none 0 0)
    let heap':List HO:=eF bs (H2.take m.h0)++L2.map LE.ho
    let St':Sb:=⟨fun b o=>c.St b o ∨ ∃ (i:Nat) (t:Ty) (e:TypeId) (ko:Option (Nat×Nat)) (l:List t.den) (s:Value),L2[i]? = some (.frz t e ko l)∧V2[i]? = some s∧s.ownBlock=some b,c.St.j⟩
    let c':Gh:={ heap:=heap',St:=St',blk:=c.blk,rv:=rv',w:=c.w,lp:=c.lp }
    have hlen0:(eF bs (H2.take m.h0)).length=m.h0:=by
     rw [vS,List.length_take,c2.len,hh]
     omega
    have gold : ∀ k,k<m.h0→heap'[k]? = (eF bs (H2.take m.h0))[k]? := fun k hk=>by
     show (_++_)[k]? = _
     rw [List.getElem?_append_left (by omega)]
    have gnew : ∀ i,heap'[m.h0+i]? = (L2.map LE.ho)[i]? := fun i=>by
     show (_++_)[m.h0+i]? = _
     rw [List.getElem?_append_right (by omega),hlen0]
     congr 1
     omega
    have gkeep : ∀ k,k<m.h0→k ∉ bs.map (·.1)→heap'[k]? = H2[k]? := fun k hk hn=>by
     rw [gold k hk,kW _ _ _ hn,List.getElem?_take,if_pos hk]
    have hnd:C2 (bs.map (·.1))=true:=by rw [hnames]; exact k3
    have hbnd : ∀ p∈bs,p.1<m.h0:=fun p hp=>by
     have:p.1∈bs.map (·.1):=List.mem_map.2 ⟨p,hp,rfl⟩
     rw [hnames] at this
     obtain ⟨q,hq,e⟩:=List.mem_map.1 this
     have:=k4 q hq
     omega
    have gbox : ∀ p∈bs,heap'[p.1]? = some (.box p.2):=fun p hp=>by
     rw [gold _ (hbnd p hp)]
     exact vR bs _ hnd p hp (by rw [List.length_take,c2.len,hh]; have:=hbnd p hp; omega)
    have notbox : ∀ (k:Nat) t e v0,c.heap[k]? = some (.row t e v0)→k ∉ bs.map (·.1):=fun k t e v0 hk hm=>by
     obtain ⟨p,hp,e⟩:=List.mem_map.1 hm
     obtain ⟨cells,_,_,g1,_⟩:=hbs p hp
     have e:p.1=k:=e
     rw [e,hk] at g1
     cases g1
    have hrv : ∀ (k:Nat) t e v0 v,k<m.h0→c.heap[k]? = some (.row t e v0)→H2[k]? = some (.row t e v)→rv' k=if v=v0 then c.rv k else .slice none 0 0:=fun k t e v0 v hk h1 h2=>by
     simp only [rv',if_pos hk,h1,h2]
    have notboxM : ∀ (k:Nat) ho,c.heap[k]? = some ho→(∀ cells,ho ≠ .box cells)→k ∉ bs.map (·.1):=fun k ho hk hnb hm=>by
     obtain ⟨p,hp,e⟩:=List.mem_map.1 hm
     obtain ⟨cells,_,_,g1,_⟩:=hbs p hp
     have e:p.1=k:=e
     rw [e,hk] at g1
     injection g1 with g1
     exact hnb cells g1
    have fin:Fin c c' m.h0 L2 V2:=by
     refine ⟨rfl,fun _ _=>Iff.rfl,rfl,rfl,fun k cells hk hc => ?_,fun k t e v0 hk hc => ?_,fun i le s hl hs => ?_,fun k t e v l hk hc => ?_,fun k hk hc => ?_,rfl⟩
     ·by_cases hm:k∈bs.map (·.1)
      ·obtain ⟨p,hp,e⟩:=List.mem_map.1 hm
       have e:p.1=k:=e
       exact ⟨p.2,e ▸ gbox p hp⟩
      ·exact ⟨cells,(gkeep k hk hm).trans ((c2.box k cells).2 hc)⟩
     ·obtain ⟨v,h1,h2⟩:=c2.back k t e v0 hc
      exact ⟨v,(gkeep k hk (notbox k t e v0 hc)).trans h1,h2,fun e'=>by show rv' k=_; rw [hrv k t e v0 v hk hc h1,if_pos e']⟩
     ·refine ⟨by rw [gnew]; simp [hl], ?_⟩
      show rv' (m.h0+i)=s
      simp only [rv']
      rw [if_neg (by omega),show m.h0+i-m.h0=i by omega]
      simp [List.getD,hs]
     ·have hnb:=notboxM k _ hc (fun cells e=>by cases e)
      rcases c2.mback k t e v l hc with h1 | h1
      ·refine .inl ⟨(gkeep k hk hnb).trans h1, ?_⟩
       show rv' k=_
       simp only [rv',if_pos hk,hc]
      ·exact .inr ((gkeep k hk hnb).trans h1)
     ·exact (gkeep k hk (notboxM k _ hc (fun cells e=>by cases e))).trans (c2.dead k hc)
    have takenOf : ∀ (i:Nat) s,V2[i]? = some s→zy c H2 s:=fun i s hs=>by
     have hil:i<L2.length:=by rw [c2.lv]; exact aE hs
     have hcl:=c2.claim i L2[i] s (List.getElem?_eq_getElem hil) hs
     generalize L2[i]=le at hcl
     cases le with
     | own t e=>exact hcl.2
     | «mut» t e ko l=>exact hcl.2.1
     | frz t e ko l=>exact hcl.2.1
    have hobk : ∀ k b,k<m.h0→obk c' k=some b→obk c k=some b∧(∀ t e v0 v,c.heap[k]? = some (.row t e v0)→H2[k]? = some (.row t e v)→v=v0)∧H2[k]? ≠ some HO.dead:=by
     intro k b hk hb
     cases hck:c.heap[k]? with
     | none =>
      exfalso
      have hkl:k<c.heap.length:=by rw [hh]; omega
      rw [List.getElem?_eq_getElem hkl] at hck
      cases hck
     | some x =>
      cases x with
      | none =>
       exfalso
       have hn:=notboxM k _ hck (fun cells e=>by cases e)
       have h2:=gkeep k hk hn
       unfold obk at hb
       rw [show c'.heap[k]? = H2[k]? from h2] at hb
       cases hH:H2[k]? with
       | none=>rw [hH] at hb; cases hb
       | some y =>
        rw [hH] at hb
        cases y with
        | none=>cases hb
        | box cells=>have:=(c2.box k cells).1 hH; rw [hck] at this; cases this
        | row t e v=>obtain ⟨v0,g,_⟩:=c2.row k t e v hH; rw [hck] at g; cases g
        | mrow t e v l=>have:=c2.mrow k t e v l hH; rw [hck] at this; cases this
        | dead=>cases hb
      | box cells =>
       obtain ⟨cells',h2⟩:=fin.box k cells hk hck
       unfold obk at hb ⊢
       rw [h2] at hb
       rw [hck]
       exact ⟨hb,(fun t e v0 v h=>by cases h),by rw [(c2.box k cells).2 hck]; intro e; cases e⟩
      | row t e v0 =>
       obtain ⟨v,h1,h2⟩:=c2.back k t e v0 hck
       have h3:c'.heap[k]? = some (.row t e v):=(gkeep k hk (notbox k t e v0 hck)).trans h1
       have h4:=hrv k t e v0 v hk hck h1
       unfold obk at hb ⊢
       rw [h3] at hb
       rw [hck]
       have hb:(rv' k).ownBlock=some b:=hb
       rw [h4] at hb
       by_cases hv:v=v0
       ·rw [if_pos hv] at hb
        refine ⟨hb,fun t' e' v0' v' g1 g2 => ?_,by rw [h1]; intro e; cases e⟩
        rw [h1] at g2
        injection g1 with g1
        injection g2 with g2
        injection g1 with _ _ g1
        injection g2 with _ _ g2
        omega
       ·rw [if_neg hv] at hb
        simp [Value.ownBlock] at hb
      | mrow t e v l =>
       rcases fin.mrow k t e v l hk hck with ⟨h1,h2⟩ | h1
       ·unfold obk at hb ⊢
        rw [h1] at hb
        rw [hck]
        have hb:(c'.rv k).ownBlock=some b:=hb
        rw [h2] at hb
        refine ⟨hb,(fun t e v0 v h=>by cases h), ?_⟩
        intro hd
        have:=(gkeep k hk (notboxM k _ hck (fun cells e=>by cases e))).symm.trans h1
        rw [hd] at this
        cases this
       ·unfold obk at hb
        rw [h1] at hb
        cases hb
      | dead =>
       have h1:=fin.dead k hk hck
       unfold obk at hb
       rw [h1] at hb
       cases hb
    have apartOf : ∀ (k i:Nat) (s:Value) (b:Nat),k<m.h0→obk c' k=some b→V2[i]? = some s→s.ownBlock≠some b:=by
     intro k i s b hk h1 hs hb
     obtain ⟨o1,o2,o3⟩:=hobk k b hk h1
     rcases takenOf i s hs with c4 | ⟨k',g1,g2⟩
     ·rw [c4] at hb; cases hb
     ·have hok':obk c k'=some b:=by
       rcases g2 with ⟨t,e,v0,v,q1,q2,q3⟩ | ⟨t,e,v,l,q1,q2⟩ <;> (unfold obk; rw [q1]; exact (by rw [g1]; exact hb))
      by_cases hkk:k=k'
      ·subst hkk
       rcases g2 with ⟨t,e,v0,v,q1,q2,q3⟩ | ⟨t,e,v,l,q1,q2⟩
       ·have:=o2 t e v0 v q1 q2
        omega
       ·exact o3 q2
      ·exact hI.sep k k' b hkk o1 hok'
    have hobn : ∀ i b,obk c' (m.h0+i)=some b → ∃ s,V2[i]? = some s∧s.ownBlock=some b ∧ ∀ t e ko l,L2[i]? ≠ some (.frz t e ko l):=by
     intro i b hb
     unfold obk at hb
     rw [show c'.heap[m.h0+i]? = _ from gnew i] at hb
     cases hl:L2[i]? with
     | none=>simp [hl] at hb
     | some le =>
      have hil:i<V2.length:=by rw [← c2.lv]; exact aE hl
      have hs:V2[i]? = some V2[i]:=List.getElem?_eq_getElem hil
      obtain ⟨_,n2⟩:=fin.new i le V2[i] hl hs
      simp only [List.getElem?_map,hl,Option.map_some] at hb
      cases le with
      | own t e =>
       simp only [LE.ho] at hb
       rw [n2] at hb
       exact ⟨_,hs,hb,fun _ _ _ _ e=>by cases e⟩
      | «mut» t e ko l =>
       simp only [LE.ho] at hb
       rw [n2] at hb
       exact ⟨_,hs,hb,fun _ _ _ _ e=>by cases e⟩
      | frz t e ko l=>simp [LE.ho] at hb
    have crossed : ∀ k i b,k<m.h0→obk c' k=some b→obk c' (m.h0+i)=some b→False:=by
     intro k i b hk h1 h2
     obtain ⟨s,hs,hb,_⟩:=hobn i b h2
     exact apartOf k i s b hk h1 hs hb
    have frzOld : ∀ k b o,k<m.h0→obk c' k=some b→St' b o→c.St b o:=by
     intro k b o hk hb x
     rcases x with x | ⟨i,t,e,ko,l,s,q1,q2,q3⟩
     ·exact x
     ·exact absurd q3 (apartOf k i s b hk hb q2)
    have frzNew : ∀ i b o,obk c' (m.h0+i)=some b→St' b o→c.St b o:=by
     intro i b o hb x
     obtain ⟨s,hs,hsb,hnf⟩:=hobn i b hb
     rcases x with x | ⟨j,t,e,ko,l,s',q1,q2,q3⟩
     ·exact x
     ·by_cases hij:i=j
      ·subst hij
       exact absurd q1 (hnf t e ko l)
      ·exact absurd q3 (c2.dist i j s s' b hij hs q2 hsb)
    have objOf : ∀ s b,(∃ i:Nat,V2[i]? = some s)→s.ownBlock=some b → ∃ k,obk c k=some b:=by
     rintro s b ⟨i,hs⟩ hb
     rcases takenOf i s hs with c4 | ⟨k',g1,g2⟩
     ·rw [c4] at hb; cases hb
     ·refine ⟨k', ?_⟩
      rcases g2 with ⟨t,e,v0,v,q1,q2,q3⟩ | ⟨t,e,v,l,q1,q2⟩ <;> (unfold obk; rw [q1]; exact (by rw [g1]; exact hb))
    have blkOf : ∀ s b,(∃ i:Nat,V2[i]? = some s)→s.ownBlock=some b→b<c.w.heap.size∧B≤b ∧ ¬ B.F b:=by
     rintro s b ⟨i,hs⟩ hb
     rcases takenOf i s hs with c4 | ⟨k',g1,g2⟩
     ·rw [c4] at hb; cases hb
     ·have hok:obk c k'=some b:=by
       rcases g2 with ⟨t,e,v0,v,q1,q2,q3⟩ | ⟨t,e,v,l,q1,q2⟩ <;> (unfold obk; rw [q1]; exact (by rw [g1]; exact hb))
      exact ⟨(dO hI hok).1,(dO hI hok).2,hI.fo k' b hok⟩
    have inv:Inv B w1 St0 c':=by
     refine ⟨hI.below,hI.size,fun b o x => ?_,⟨fun b o x => .inl (hI.st0.s b o x),hI.st0.j⟩,fun b o x => ?_,fun k cells hk => ?_,fun k t e v hk => ?_,fun k k' b hne h1 h2 => ?_,fun k t e v l hk => ?_,hI.drawn,fun k b hb=>(by
      rcases Nat.lt_or_ge k m.h0 with hk0 | hk0
      ·exact hI.fo k b (hobk k b hk0 hb).1
      ·obtain ⟨s,hs,hsb,_⟩:=hobn (k-m.h0) b (by rw [show m.h0+(k-m.h0)=k by omega]; exact hb)
       exact (blkOf s b ⟨_,hs⟩ hsb).2.2),hI.fl,hI.j0,fun b e cap n x=>(hI.junk b e cap n x).imp id fun q=>q.keep rfl (fun o y=>(by
       rcases y with y | ⟨i,t,e,ko,l,s,q1,q2,q3⟩
       ·exact y
       ·obtain ⟨k',z⟩:=objOf s b ⟨i,q2⟩ q3
        exact absurd z (q.own k'))) fun k y=>(by
       rcases Nat.lt_or_ge k m.h0 with hk0 | hk0
       ·exact (hobk k b hk0 y).1
       ·obtain ⟨s,hs,hsb,_⟩:=hobn (k-m.h0) b (by rw [show m.h0+(k-m.h0)=k by omega]; exact y)
        obtain ⟨k',z⟩:=objOf s b ⟨_,hs⟩ hsb
        exact absurd z (q.own k'))⟩
     ·rcases x with x | ⟨i,t,e,ko,l,s,q1,q2,q3⟩
      ·exact hI.bnd b o x
      ·exact (blkOf s b ⟨i,q2⟩ q3).1
     ·rcases x with x | ⟨i,t,e,ko,l,s,q1,q2,q3⟩
      ·exact hI.stN b o x
      ·exact .inr (blkOf s b ⟨i,q2⟩ q3).2
     ·have hk0:k<m.h0:=by
       rcases Nat.lt_or_ge k m.h0 with x | x
       ·exact x
       ·exfalso
        have:=gnew (k-m.h0)
        rw [show m.h0+(k-m.h0)=k by omega] at this
        rw [show c'.heap[k]? = _ from this] at hk
        cases hl:L2[k-m.h0]? with
        | none=>simp [hl] at hk
        | some p=>cases p <;> simp [hl,LE.ho] at hk
      have hobk':obk c' k=some (c.blk k):=by unfold obk; rw [hk]
      by_cases hm:k∈bs.map (·.1)
      ·obtain ⟨p,hp,e⟩:=List.mem_map.1 hm
       have e:p.1=k:=e
       subst e
       have:=gbox p hp
       rw [show c'.heap[p.1]? = _ from this] at hk
       injection hk with hk
       injection hk with hk
       subst hk
       obtain ⟨cells0,arr,t,g1,g2,g3⟩:=hbs p hp
       obtain ⟨arr',t',q1,q2,q3,_⟩:=hI.box p.1 cells0 g1
       rw [g2] at q1
       exact ⟨arr,t,g2,q2,fun o x=>q3 o (frzOld p.1 _ o hk0 hobk' x),g3 c' L2 V2 fin pL pV⟩
      ·have hH:=(gkeep k hk0 hm).symm.trans hk
       have hck:=(c2.box k cells).1 hH
       obtain ⟨arr,t,q1,q2,q3,q4⟩:=hI.box k cells hck
       have hu:=ue _ 0 k5 k (.box cells) (by rw [List.getElem?_take,if_pos hk0, ← hh]; exact hck) (by rw [Nat.zero_add, ← hnames]; exact hm)
       exact ⟨arr,t,q1,q2,fun o x=>q3 o (frzOld k _ o hk0 hobk' x),fin.keeps hu q4⟩
     ·rcases Nat.lt_or_ge k m.h0 with hk0 | hk0
      ·have hm:k ∉ bs.map (·.1):=fun hm=>by
        obtain ⟨p,hp,e'⟩:=List.mem_map.1 hm
        have e':p.1=k:=e'
        have:=gbox p hp
        rw [e'] at this
        rw [show c'.heap[k]? = _ from this] at hk
        cases hk
       have hH:=(gkeep k hk0 hm).symm.trans hk
       obtain ⟨v0,hck,hle⟩:=c2.row k t e v hH
       have h4:=hrv k t e v0 v hk0 hck hH
       by_cases hv:v=v0
       ·have hobk':obk c' k=(rv' k).ownBlock:=by unfold obk; rw [hk]
        rw [if_pos hv] at h4
        obtain ⟨n,xs,q1,q2⟩:=hI.row k t e v0 hck
        refine ⟨n,xs,by show c.w.ownsRow B e t.size (rv' k) n xs; rw [h4]; exact q1,fun b hb o hle x => ?_⟩
        have hb:(rv' k).ownBlock=some b:=hb
        have hx:=frzOld k b o hk0 (hobk'.trans hb) x
        rw [h4] at hb
        exact q2 b hb o hle hx
       ·rw [if_neg hv] at h4
        exact ⟨0,[],by show c.w.ownsRow B e t.size (rv' k) 0 []; rw [h4]; exact World.ownsRow_nil _ _ _ _,by show ∀ b,(rv' k).ownBlock=some b→_; rw [h4]; intro b hb; simp [Value.ownBlock] at hb⟩
      ·have hk':=hk
       have hg:=gnew (k-m.h0)
       rw [show m.h0+(k-m.h0)=k by omega] at hg
       rw [show c'.heap[k]? = _ from hg] at hk
       cases hl:L2[k-m.h0]? with
       | none=>simp [hl] at hk
       | some le =>
        have hil:k-m.h0<V2.length:=by rw [← c2.lv]; exact aE hl
        have hs:V2[k-m.h0]? = some V2[k-m.h0]:=List.getElem?_eq_getElem hil
        obtain ⟨_,n2⟩:=fin.new (k-m.h0) le _ hl hs
        rw [show m.h0+(k-m.h0)=k by omega] at n2
        have hcl:=c2.claim (k-m.h0) le _ hl hs
        cases le with
        | own t1 e1 =>
         simp only [List.getElem?_map,hl,Option.map_some,LE.ho,Option.some.injEq,HO.row.injEq] at hk
         obtain ⟨rfl,rfl,rfl⟩:=hk
         obtain ⟨⟨n,xs,q1,q2⟩,_⟩:=hcl
         refine ⟨n,xs,by rw [n2]; exact q1,fun b hb o hle x => ?_⟩
         have hobk':obk c' k=(c'.rv k).ownBlock:=by unfold obk; rw [hk']
         have hx:=frzNew (k-m.h0) b o (by rw [show m.h0+(k-m.h0)=k by omega]; exact hobk'.trans hb) x
         rw [n2] at hb
         exact q2 b hb o hle hx
        | «mut» t1 e1 ko l=>simp [hl,LE.ho] at hk
        | frz t1 e1 ko l=>simp [hl,LE.ho] at hk
     ·rcases Nat.lt_or_ge k m.h0 with hk0 | hk0
      ·rcases Nat.lt_or_ge k' m.h0 with hk1 | hk1
       ·exact hI.sep k k' b hne (hobk k b hk0 h1).1 (hobk k' b hk1 h2).1
       ·exact crossed k (k'-m.h0) b hk0 h1 (by rw [show m.h0+(k'-m.h0)=k' by omega]; exact h2)
      ·rcases Nat.lt_or_ge k' m.h0 with hk1 | hk1
       ·exact crossed k' (k-m.h0) b hk1 h2 (by rw [show m.h0+(k-m.h0)=k by omega]; exact h1)
       ·obtain ⟨s,hs,hb,_⟩:=hobn (k-m.h0) b (by rw [show m.h0+(k-m.h0)=k by omega]; exact h1)
        obtain ⟨s',hs',hb',_⟩:=hobn (k'-m.h0) b (by rw [show m.h0+(k'-m.h0)=k' by omega]; exact h2)
        exact c2.dist (k-m.h0) (k'-m.h0) s s' b (by omega) hs hs' hb hb'
     ·have hobk':obk c' k=(c'.rv k).ownBlock:=by unfold obk; rw [hk]
      rcases Nat.lt_or_ge k m.h0 with hk0 | hk0
      ·have hm:k ∉ bs.map (·.1):=fun hm=>by
        obtain ⟨p,hp,e'⟩:=List.mem_map.1 hm
        have e':p.1=k:=e'
        have:=gbox p hp
        rw [e'] at this
        rw [show c'.heap[k]? = _ from this] at hk
        cases hk
       have hH:=(gkeep k hk0 hm).symm.trans hk
       have hck:=c2.mrow k t e v l hH
       obtain ⟨xs,q1,q2,q3⟩:=hI.mrow k t e v l hck
       have h4:c'.rv k=c.rv k:=by
        show rv' k=_
        simp only [rv',if_pos hk0,hck]
       refine ⟨xs,by rw [h4]; exact q1,q2.mono fin.st fin.cell,fun b hb o x => ?_⟩
       have hx:=frzOld k b o hk0 (hobk'.trans hb) x
       rw [h4] at hb
       exact q3 b hb o hx
      ·have hg:=gnew (k-m.h0)
       rw [show m.h0+(k-m.h0)=k by omega] at hg
       rw [show c'.heap[k]? = _ from hg] at hk
       cases hl:L2[k-m.h0]? with
       | none=>simp [hl] at hk
       | some le =>
        have hil:k-m.h0<V2.length:=by rw [← c2.lv]; exact aE hl
        have hs:V2[k-m.h0]? = some V2[k-m.h0]:=List.getElem?_eq_getElem hil
        obtain ⟨_,n2⟩:=fin.new (k-m.h0) le _ hl hs
        rw [show m.h0+(k-m.h0)=k by omega] at n2
        have hcl:=c2.claim (k-m.h0) le _ hl hs
        cases le with
        | own t1 e1=>simp [hl,LE.ho] at hk
        | frz t1 e1 ko l1=>simp [hl,LE.ho] at hk
        | «mut» t1 e1 ko l1 =>
         simp only [List.getElem?_map,hl,Option.map_some,LE.ho,Option.some.injEq] at hk
         injection hk with z1 z2 z3 z4
         subst z1; subst z2
         have z4:=eq_of_heq z4
         subst z4
         obtain ⟨⟨xs,q1,q2,q3⟩,_⟩:=hcl
         refine ⟨xs,by rw [n2]; exact q1,q2.mono fin.st fin.cell,fun b hb o x => ?_⟩
         have hx:=frzNew (k-m.h0) b o (by rw [show m.h0+(k-m.h0)=k by omega]; exact hobk'.trans hb) x
         rw [n2] at hb
         exact q3 b hb o hx
    refine ⟨⟨c',w1,hw,rfl,inv,hpend c' L2 V2 fin (List.prefix_refl _) (List.prefix_refl _),hdf,fun fr hfr=>⟨fin.keeps (so k1 (hfs fr hfr).2) (hfs fr hfr).1,(hfs fr hfr).2⟩⟩, ?_⟩
    show lo≤heap'.length
    simp only [heap',List.length_append,hlen0]
    omega
   ·cases h
  ·cases h
 ·cases h
def agM (fs:List (List AV×List Value)) (lo:Nat) (B:Bd) (w0:World) (St0:Sb) (k:KT) (r:AV):Exit→Act→World→Prop
 | .normal,a,w => ∃ σ',k .normal σ'=some r∧Rel fs lo B w0 St0 σ' a w∧lo≤σ'.heap.length
 | .exit id,a,w => ∃ σ',k (.exit id) σ'=some r∧Rel fs lo B w0 St0 σ' a w∧lo≤σ'.heap.length
 | .ret,a,w => ∃ σ',k .ret σ'=some r∧Rel fs lo B w0 St0 σ' a w∧lo≤σ'.heap.length
 | _,_,_=>False
theorem pH {m:Option MS} {k:Sg→Option AV} {r:AV} (h:Da lo m σ k=some r) (hr:Rel fs lo B w0 St0 σ a w) (hlo:lo≤σ.heap.length) : ∃ σ',k σ'=some r∧Rel fs lo B w0 St0 σ' a w∧lo≤σ'.heap.length:=by
 unfold Da at h
 split at h
 ·exact ⟨σ,h,hr,hlo⟩
 ·split at h
  ·rename_i σ' hm
   obtain ⟨h1,h2⟩:=Qz hm hr
   exact ⟨σ',h,h1,h2⟩
  ·cases h
def qg (ro:Option Nat) (c:Code):Prop:=ro=none∨jA c=true
theorem qg.left {ro:Option Nat} {p q:Bool} (h:ro=none∨(p&&q)=true):ro=none∨p=true:=h.imp id fun h=>(Bool.and_eq_true_iff.1 h).1
theorem qg.right {ro:Option Nat} {p q:Bool} (h:ro=none∨(p&&q)=true):ro=none∨q=true:=h.imp id fun h=>(Bool.and_eq_true_iff.1 h).2
theorem qg.ops {ro:Option Nat} {i:Nat} {ops:Array Oper} {draw:Bool} (h:qg ro (.region i ops draw)) : ∀ o∈ops.toList,x9 ro o:=fun o ho=>h.imp id fun h c e=>by
 have:=List.all_eq_true.1 h o ho
 rw [e] at this
 cases this
theorem Inv.turn {c:Gh} {w1:World} (h:Inv B w1 St0 c) {w':World} {l:Nat} (hg:c.w.grownBy w' (some l)) (hl : ∀ o,c.w.heap[l]? = some o→o.isCells=false) :
  Inv B w' St0 { c with w:=w' }∧Ev c { c with w:=w' }:=by
 have hne : ∀ {b:Nat} {arr:Array Value} {t:TypeId} {m:Nat×Nat},c.w.heap[b]? = some (.cells arr t m)→w'.heap[b]? = some (.cells arr t m):=fun {b arr t m} hb=>by
  refine (hg.block b (Array.getElem?_eq_some_iff.1 hb).1 (fun e => ?_)).trans hb
  injection e with e
  rw [e] at hb
  cases hl _ hb
 have hcell : ∀ (a:Addr) v,c.w.cell? a=some v→w'.cell? a=some v:=fun a v hc=>by
  have hb:a.block≠l:=fun e=>by
   unfold World.cell? at hc
   rw [e] at hc
   cases ho:c.w.heap[l]? with
   | none=>simp [ho] at hc
   | some o =>
    rw [ho] at hc
    cases o with
    | cells arr t m=>cases hl _ ho
    | _=>simp at hc
  have hlt:a.block<c.w.heap.size:=by
   cases hx:c.w.heap[a.block]? with
   | none=>unfold World.cell? at hc; rw [hx] at hc; cases hc
   | some x=>exact (Array.getElem?_eq_some_iff.1 hx).1
  exact (World.cell?_of_block (hg.block a.block hlt (fun e=>hb (by injection e)))).trans hc
 have ev:Ev c { c with w:=w' }:=⟨Sb.le.refl _,fun a v _ _ hc=>hcell a v hc,fun _ cells x=>⟨cells,x,rfl⟩,fun _ t e v x=>⟨t,e,v,x,Nat.le_refl _,fun _=>rfl⟩,fun _ _ _ v l x => .inl ⟨v,l,x,Nat.le_refl _,fun _=>rfl⟩,fun _ x=>x,fun _ _=>rfl⟩
 refine ⟨⟨Below.refl _ _,Nat.le_trans h.size hg.size,fun b o x=>Nat.lt_of_lt_of_le (h.bnd _ _ x) hg.size,h.st0,h.stN, ?_, ?_,h.sep, ?_,Og.refl _,h.fo,fun b f=>Nat.lt_of_lt_of_le (h.fl b f) hg.size,h.j0,fun b e cap n x=>(h.junk b e cap n x).imp id fun q=>⟨q.lo,q.nf,q.le,(by
  obtain ⟨arr,z1,z2⟩:=q.cells
  exact ⟨arr,hne z1,z2⟩),q.free,q.own⟩⟩,ev⟩
 ·intro k cells hk
  obtain ⟨arr,t,h1,h2,h3,h4⟩:=h.box k cells hk
  exact ⟨arr,t,hne h1,h2,h3,h4.mono ev⟩
 ·intro k t e v hk
  obtain ⟨n,xs,q,hsp⟩:=h.row k t e v hk
  refine ⟨n,xs,⟨q.1, ?_⟩,hsp⟩
  rcases q.2 with x | ⟨g,cap,cur,e1,e2,e3,r⟩
  ·exact .inl x
  ·exact .inr ⟨g,cap,cur,e1,e2,hne e3,r⟩
 ·intro k t e v l hk
  obtain ⟨xs,q,hrep,hsp⟩:=h.mrow k t e v l hk
  refine ⟨xs,⟨q.1, ?_⟩,hrep.mono ev.st ev.cell,hsp⟩
  rcases q.2 with x | ⟨g,cap,cur,e1,e2,e3,r⟩
  ·exact .inl x
  ·exact .inr ⟨g,cap,cur,e1,e2,hne e3,r⟩
theorem Inv.other {c:Gh} {w1:World} (h:Inv B w1 St0 c) {w':World} {l:Nat} {o:Obj} (hg:c.w.grownBy w' (some l)) (hl:c.w.heap[l]? = some o) (ho:o.isCells=false) :
  Inv B w' St0 { c with w:=w' }∧Ev c { c with w:=w' } :=
 h.turn hg (fun o' h'=>by rw [hl] at h'; injection h' with h'; rw [← h']; exact ho)
theorem Inv.base {c:Gh} {w1:World} (h:Inv B w1 St0 c) (hb:Below B w0 c.w) (ho:Og B.F w0 c.w):Inv B w0 St0 c :=
 ⟨hb,h.size,h.bnd,h.st0,h.stN,h.box,h.row,h.sep,h.mrow,ho,h.fo,h.fl,h.j0,fun b e cap n x=>(h.junk b e cap n x).imp id fun q=>⟨q.lo,q.nf,q.le,q.cells,q.free,q.own⟩⟩
theorem Inv.name {c:Gh} {w1:World} (h:Inv B w1 St0 c) (l:Nat) :
  let c':Gh:={ c with heap:=c.heap++[.dead],lp:=fun i=>if i=c.heap.length then l else c.lp i }
  Inv B w1 St0 c'∧Ev c c':=by
 intro c'
 have hget : ∀ (k:Nat) (x:HO),c'.heap[k]? = some x→x≠HO.dead→c.heap[k]? = some x:=by
  intro k x hx hne
  have hx:(c.heap++[HO.dead])[k]? = some x:=hx
  rcases Nat.lt_or_ge k c.heap.length with hlt | hge
  ·rwa [List.getElem?_append_left hlt] at hx
  ·rw [List.getElem?_append_right hge] at hx
   have:x∈[HO.dead]:=List.mem_of_getElem? hx
   exact absurd (List.mem_singleton.1 this) hne
 have hget' : ∀ (k:Nat) (x:HO),c.heap[k]? = some x→c'.heap[k]? = some x:=fun k x hx=>by
  show (c.heap++[HO.dead])[k]? = _
  rw [List.getElem?_append_left (aE hx)]; exact hx
 have ev:Ev c c':=⟨Sb.le.refl _,fun _ _ _ _ x=>x,fun k cells x=>⟨cells,hget' k _ x,rfl⟩,fun k t e v x=>⟨t,e,v,hget' k _ x,Nat.le_refl _,fun _=>rfl⟩,fun k t e v l x => .inl ⟨v,l,hget' k _ x,Nat.le_refl _,fun _=>rfl⟩,fun k x=>hget' k _ x,fun k x=>if_neg (Nat.ne_of_lt (aE x))⟩
 have hob : ∀ k b,obk c' k=some b→obk c k=some b:=fun k b hb=>by
  unfold obk at hb ⊢
  cases hk:c'.heap[k]? with
  | none=>rw [hk] at hb; cases hb
  | some x =>
   rw [hk] at hb
   by_cases hd:x=HO.dead
   ·subst hd; cases hb
   ·rw [hget k x hk hd]; exact hb
 refine ⟨⟨h.below,h.size,h.bnd,h.st0,h.stN,fun k cells x => ?_,fun k t e v x=>h.row k t e v (hget k _ x (by simp)),fun k k' b hne h1 h2=>h.sep k k' b hne (hob k b h1) (hob k' b h2),fun k t e v l x=>h.mrow k t e v l (hget k _ x (by simp)),h.drawn,fun k b hb=>h.fo k b (hob k b hb),h.fl,h.j0,fun b e cap n x=>(h.junk b e cap n x).imp id fun q=>q.keep rfl (fun _ y=>y) fun k y=>hob k b y⟩,ev⟩
 obtain ⟨arr,t,h1,h2,h3,h4⟩:=h.box k cells (hget k _ x (by simp))
 exact ⟨arr,t,h1,h2,h3,h4.mono ev⟩
theorem Fq {w:World} (fn:FuncId) (tmps:Array Value) (ps:Array Tmp) (assign body:Code) {ro:Option Nat} (hro : ∀ l,ro=some l → ∃ r,w.heap[l]? = some (.loop r)) :
  ∃ (l:Nat) (mark:List Deferred) (w2:World) (D:Nat),(Instr.enterLoop fn tmps ps assign body ro).run P w = .ok (l,mark) w2∧w.grownBy w2 none∧w.heap.size≤l∧w2.drawn=w.drawn ∧
   w2.heap[l]? = some (.loop { state := .ready,pending:=none,fn,tmps,params:=ps,assign,body,defers:=D }) ∧
   ∃ ms:List Nat,mark=ms.map (fun D=>{ target := .collected D,args := #[] })∧ms.Nodup ∧ ∀ D∈ms,w.heap.size≤D∧D≠l∧w2.heap[D]? = some (.deferred (some [])):=by
 cases ro with
 | none =>
  refine ⟨_,_,_,w.heap.size,run_enterLoop_outer fn tmps ps assign body,(World.grownBy_alloc w _ none).trans (World.grownBy_alloc _ _ none),by omega,rfl, ?_,[w.heap.size],rfl,by simp,fun D hD => ?_⟩
  ·have:=World.alloc_heap_new (w.alloc (.deferred (some []))) (.loop { state := .ready,pending:=none,fn,tmps,params:=ps,assign,body,defers:=w.heap.size })
   rw [World.size_alloc] at this
   exact this
  ·simp only [List.mem_singleton] at hD
   subst hD
   refine ⟨Nat.le_refl _,by omega, ?_⟩
   rw [Below.heap_alloc _ _ _ (by rw [World.size_alloc]; omega)]
   exact World.alloc_heap_new _ _
 | some l0 =>
  obtain ⟨r0,h0⟩:=hro l0 rfl
  refine ⟨w.heap.size,[],w.alloc (.loop { state := .ready,pending:=none,fn,tmps,params:=ps,assign,body,defers:=r0.defers }),r0.defers, ?_,World.grownBy_alloc w _ none,Nat.le_refl _,rfl,World.alloc_heap_new _ _,[],rfl,by simp,fun D hD=>by cases hD⟩
  unfold Instr.enterLoop
  simp only [Sem.run_bind,run_getLoop h0,run_newObj_alloc,Result.andThen,Sem.run_pure]
theorem ER {c:Gh} : ∀ {l:List AV} {u:AV} {vs:List Value} {v:Value},RAs c (l++[u]) (vs++[v])→RAs c l vs∧RA c u [v]
 | [],_,[],_,⟨h,_⟩=>⟨trivial,h⟩
 | [],u,x::vs,v,h=>by
  have:=h.length
  simp at this
 | x::l,u,[],v,h=>by
  have:=h.length
  simp at this
 | _::_,_,_::_,_,⟨h1,h2⟩=>by
  obtain ⟨h3,h4⟩:=ER h2
  exact ⟨⟨h1,h3⟩,h4⟩
theorem zE {c:Gh} : ∀ {ps:List Nat} {args env env':List AV} {vs:List Value} {tmps:Array Value},Me ps args env=some env'→RAs c env tmps.toList→RAs c args vs →
  vs.length=ps.length∧RAs c env' ((ps.zip vs).foldl (fun tmps (t,a)=>tmps.setIfInBounds t a) tmps).toList
 | [],[],env,env',[],tmps,h,he,_=>by
  simp only [Me,Option.some.injEq] at h
  subst h
  exact ⟨rfl,he⟩
 | t::ps,u::args,env,env',v::vs,tmps,h,he,⟨h1,h2⟩=>by
  simp only [Me] at h
  obtain ⟨g1,g2⟩:=zE (tmps:=tmps.setIfInBounds t v) h (by rw [Array.toList_setIfInBounds]; exact he.set t h1) h2
  exact ⟨by simp [g1],g2⟩
 | [],_::_,_,_,_,_,h,_,_=>by cases h
 | _::_,[],_,_,_,_,h,_,_=>by cases h
def alR (ro:Option Nat) (w0:World):Prop := ∀ l,ro=some l → ∃ r,w0.heap[l]? = some (.loop r)
theorem lR {Γ:List Lq} {ck:Callk} {S:Par} {fuel:Nat} (hm:P.follows .mixedOrders=true) (tk:TabOk P S.tab) (tsok:SpecsOk P S.T) (ckok:CkOk P ck Γ) : ∀ (c:Code) (ro:Option Nat) (n:Nat) (fs:List (List AV×List Value)) (lo:Nat) (B:Bd) (w0:World) (St0:Sb) (r:AV),alR ro w0→Ctx Γ fs B w0→qg ro c → ∀ (σ:Sg) (k:KT) (a:Act) (w:World),lo≤σ.heap.length →
  be ck S lo fuel c σ k=some r→Rel fs lo B w0 St0 σ a w→c.wpIn (RF ro) n P (agM fs lo B w0 St0 k r) a w:=by
 intro c
 induction c with
 | skip=>intro ro n fs lo B w0 St0 r hro hcx _ σ k a w hlo h hr; exact wpIn_skip ⟨σ,h,hr,hlo⟩
 | label l=>intro ro n fs lo B w0 St0 r hro hcx _ σ k a w hlo h hr; exact wpIn_label ⟨σ,h,hr,hlo⟩
 | region id ops draw =>
  intro ro n fs lo B w0 St0 r hro hcx hnd σ k a w hlo h hr
  refine wpIn_mono (Ic hnd.ops hm tk tsok ckok hcx hlo (by simpa [be] using h) hr) fun e a w hn => ?_
  cases e with
  | normal=>exact hn
  | _=>exact hn.elim
 | seq x y ihx ihy =>
  intro ro n fs lo B w0 St0 r hro hcx hnd σ k a w hlo h hr
  simp only [be] at h
  refine wpIn_seq (wpIn_mono (ihx ro n fs lo B w0 St0 r hro hcx (qg.left hnd) σ _ a w hlo h hr) fun e a w hn => ?_)
  cases e with
  | normal =>
   obtain ⟨σ',h1,h2,h3⟩:=hn
   simp only [aw] at h1
   obtain ⟨σ2,g1,g2,g3⟩:=pH h1 h2 h3
   exact ihy ro n fs lo B w0 St0 r hro hcx (qg.right hnd) σ2 k a w g3 g1 g2
  | exit id=>exact hn
  | ret=>exact hn
  | goto l=>exact hn.elim
  | panic ch=>exact hn.elim
  | outgrown=>exact hn.elim
 | cond cnd x y ihx ihy =>
  intro ro n fs lo B w0 St0 r hro hcx hnd σ k a w hlo h hr
  simp only [be] at h
  split at h
  ·rename_i b hb
   have hr':=hr
   obtain ⟨c,_,_,_,_,hE,_⟩:=hr'
   have hv:=lh hE cnd
   rw [hb] at hv
   have hev:=eI hv.val_inv
   cases b with
   | true=>exact wpIn_cond_true hev (ihx ro n fs lo B w0 St0 r hro hcx (qg.left hnd) σ k a w hlo h hr)
   | false=>exact wpIn_cond_false hev (ihy ro n fs lo B w0 St0 r hro hcx (qg.right hnd) σ k a w hlo h hr)
  ·cases h
 | block id x ih =>
  intro ro n fs lo B w0 St0 r hro hcx hnd σ k a w hlo h hr
  simp only [be] at h
  refine wpIn_block (wpIn_mono (ih ro n fs lo B w0 St0 r hro hcx hnd σ _ a w hlo h hr) fun e a w hn => ?_)
  cases e with
  | normal=>exact hn
  | exit id' =>
   obtain ⟨σ',h1,h2⟩:=hn
   simp only [ai] at h1
   show if id'=id then _ else _
   cases hb:Nat.beq id' id with
   | true =>
    rw [hb] at h1
    rw [if_pos (Nat.eq_of_beq_eq_true hb)]
    exact ⟨σ',h1,h2⟩
   | false =>
    rw [hb] at h1
    rw [if_neg (Nat.ne_of_beq_eq_false hb)]
    exact ⟨σ',h1,h2⟩
  | ret=>exact hn
  | goto l=>exact hn.elim
  | panic ch=>exact hn.elim
  | outgrown=>exact hn.elim
 | loop x ih =>
  intro ro n fs lo B w0 St0 r hro hcx hnd σ k a w hlo h hr
  simp only [be] at h
  split at h
  ·rename_i m hmm
   obtain ⟨σ1,h1,h2,h3⟩:=pH h hr hlo
   refine wpIn_loop_rounds fuel ?_
   have key : ∀ j σ a w,lo≤σ.heap.length→aB lo m (fun σ k=>be ck S lo fuel x σ k) k j σ=some r→Rel fs lo B w0 St0 σ a w→Code.roundsIn (RF ro) n P x (agM fs lo B w0 St0 k r) j a w:=by
    intro j
    induction j with
    | zero=>intro σ a w _ h _; cases h
    | succ j ihn =>
     intro σ a w hlo h hr
     rw [roundsIn_succ]
     refine wpIn_mono (ih ro n fs lo B w0 St0 r hro hcx hnd σ _ a w hlo h hr) fun e a w hn => ?_
     cases e with
     | normal =>
      obtain ⟨σ',q1,q2,q3⟩:=hn
      simp only [mR] at q1
      obtain ⟨σ2,g1,g2,g3⟩:=pH q1 q2 q3
      exact ihn σ2 a w g3 g1 g2
     | exit id=>exact hn
     | ret=>exact hn
     | goto l=>exact hn.elim
     | panic ch=>exact hn.elim
     | outgrown=>exact hn.elim
   exact key fuel σ1 a w h3 h1 h2
  ·cases h
 | exit id=>intro ro n fs lo B w0 St0 r hro hcx _ σ k a w hlo h hr; exact wpIn_exit ⟨σ,h,hr,hlo⟩
 | ret=>intro ro n fs lo B w0 St0 r hro hcx _ σ k a w hlo h hr; exact wpIn_ret ⟨σ,h,hr,hlo⟩
 | rangeFunc g ps x y ihx ihy =>
  intro ro n fs lo B w0 St0 r hro hcx hnd σ k a w hlo h hr
  simp only [be] at h
  split at h
  ·rename_i f caps hg
   split at h
   ·rename_i hchk
    simp only [Bool.and_eq_true] at hchk
    obtain ⟨⟨hsk,hnb⟩,hnc⟩:=hchk
    obtain ⟨c,w1,rfl,hh,hI,hE,⟨hdb,hdo,ms,hms,hnod,hmk⟩,hfs⟩:=hr
    have hgv:=lh hE g
    rw [hg] at hgv
    obtain ⟨cs,e,hcs,hch⟩:=hgv
    simp only [List.cons.injEq,and_true] at e
    refine wpIn_rangeFunc fun fn _ => ?_
    obtain ⟨l,mark,w2,D,hrun,hgr,hle,hdr,hrec,ms2,hmark,hnod2,hmk2⟩:=Fq (P:=P) (w:=c.w) fn a.tmps ps x y (ro:=ro) (fun l hl=>by
     obtain ⟨r0,h0⟩:=hro l hl
     exact ⟨r0,hI.drawn.keep _ _ (hdo.keep _ _ h0 rfl) rfl⟩)
    have og2:Og B.F c.w w2:=Og.of_grown hgr (fun b e=>by cases e) (by rw [hdr]; exact Nat.le_refl _) (fun b f=>⟨hI.fl b f,by simp⟩)
    have hgl:c.w.grownBy w2 (some l):=⟨hgr.1,hgr.2,hgr.3,hgr.4,fun k hk _=>hgr.block k hk (by simp)⟩
    obtain ⟨hI1,hE1⟩:=hI.turn hgl (fun o ho=>by have:=(Array.getElem?_eq_some_iff.1 ho).1; omega)
    obtain ⟨hI2,hE2⟩:=hI1.name l
    have hE2:=hE1.trans hE2
    have hjl:σ.heap.length=c.heap.length:=by rw [hh]
    have hyl:RA { c with w:=w2,heap:=c.heap++[.dead],lp:=fun i=>if i=c.heap.length then l else c.lp i } (.yld σ.heap.length) [.func (.yield l) #[] #[]]:=by
     refine ⟨?_, ?_⟩
     ·show (c.heap++[HO.dead])[σ.heap.length]? = _
      rw [hjl]; simp
     ·show _=[Value.func (.yield (if σ.heap.length=c.heap.length then l else c.lp σ.heap.length)) #[] #[]]
      rw [if_pos hjl]
    have hBl:B≤l:=Nat.le_trans hI.size hle
    have hcx2:Ctx (⟨σ.heap.length,l,σ.env,a.tmps.toList,{ state := .ready,pending:=none,fn,tmps:=a.tmps,params:=ps,assign:=x,body:=y,defers:=D }⟩::Γ) ((σ.env++[.yld σ.heap.length],a.tmps.toList++[.func (.yield l) #[] #[]])::fs) B w2:=by
     intro q hq
     rcases List.mem_cons.1 hq with rfl | hq
     ·exact ⟨List.mem_cons_self ..,hBl,hrec⟩
     ·exact hcx.more (fun fr h=>List.mem_cons_of_mem _ h) (hdo.trans (hI.drawn.trans og2)) q hq
    have apartL : ∀ q∈Γ,q.l≠l:=fun q hq e=>by
     have h0:=hI.drawn.keep _ _ (hdo.keep _ _ (hcx q hq).2.2 rfl) rfl
     have:=(Array.getElem?_eq_some_iff.1 h0).1
     omega
    have yok:ajR P (Cq σ.heap.length ck.call σ.env ps.toList (fun lo σ k=>be ck S lo fuel x σ (wU (fun σ k=>be ck S lo fuel y σ k) k))) (⟨σ.heap.length,l,σ.env,a.tmps.toList,{ state := .ready,pending:=none,fn,tmps:=a.tmps,params:=ps,assign:=x,body:=y,defers:=D }⟩::Γ):=by
     intro j' args heap kk r' hy fs' B' w0' St0' c' hI' hh' vs hargs hfs' hcx'
     unfold Cq at hy
     split at hy
     ·rename_i hj
      have hj:=Nat.eq_of_beq_eq_true hj
      subst hj
      split at hy
      ·rename_i env' hset
       intro l' hl' ro' n'
       obtain ⟨hmem,hBl',hrecw⟩:=hcx' _ (List.mem_cons_self ..)
       simp only at hBl' hrecw
       obtain ⟨hE',hY'⟩:=ER (hfs' _ hmem).1
       have hll:l'=l:=by
        obtain ⟨_,e1⟩:=hl'
        obtain ⟨_,e2⟩:=hY'
        have e3:=e1.trans e2.symm
        injection e3 with e3
        injection e3 with e3
        injection e3
       subst hll
       have hlw:=hI'.drawn.keep _ _ hrecw rfl
       obtain ⟨hlen,hps⟩:=zE hset hE' hargs
       refine ⟨_,_,_,_,run_yield hlw (by simpa using hlen), ?_⟩
       have hroo:alR (some l') w0':=fun l0 hl0=>by
        injection hl0 with hl0
        subst hl0
        exact ⟨_,hrecw⟩
       have hE1':RAs c' env' ((ps.zip vs.toArray).foldl (fun tmps (t,a)=>tmps.setIfInBounds t a) a.tmps).toList:=by
        rw [← Array.foldl_toList,Array.toList_zip]
        exact hps
       refine roundIn_of_wpIn trivial (wpIn_mono (ihx (some l') n' fs' heap.length B' w0' St0' r' hroo (fun q hq=>hcx' q (List.mem_cons_of_mem _ hq)) (.inr hsk) ⟨env',heap⟩ _ _ _ (Nat.le_refl _) hy ⟨c',w0',rfl,hh',hI',hE1',ng.none _ _,hfs'⟩) fun e1 a1 wx hn1 => ?_)
       have bad:e1 ≠ .normal→False:=fun hne=>by
        cases e1 with
        | normal=>exact hne rfl
        | exit id=>obtain ⟨_,q1,_⟩:=hn1; cases q1
        | ret=>obtain ⟨_,q1,_⟩:=hn1; cases q1
        | goto l=>exact hn1.elim
        | panic ch=>exact hn1.elim
        | outgrown=>exact hn1.elim
       by_cases hnorm:e1 = .normal
       rotate_left
       ·exact (bad hnorm).elim
       subst hnorm
       obtain ⟨σ1,hy1,⟨c1,w6,rfl,hh1,hI1',hE1a,⟨mb1,mo1,ms1,mdf1,mnd1,mk1⟩,hfs1⟩,hlo1⟩:=hn1
       simp only [wU] at hy1
       have hlw1:=hI1'.drawn.keep _ _ (mo1.keep _ _ hrecw rfl) rfl
       refine ⟨_,run_beginRound hlw1 rfl, ?_⟩
       have hlt:=(Array.getElem?_eq_some_iff.1 hlw1).1
       have hlt0:=(Array.getElem?_eq_some_iff.1 hrecw).1
       have hsz0:B'≤w0'.heap.size:=Nat.le_trans hBl' (Nat.le_of_lt hlt0)
       obtain ⟨hIb,hEb⟩:=hI1'.other (grownBy_putObj' c1.w l' (.loop { state := .busy,pending:=none,fn,tmps:=a.tmps,params:=ps,assign:=x,body:=y,defers:=D })) hlw1 rfl
       have hbW:Below B' (w0'.putObj l' (.loop { state := .busy,pending:=none,fn,tmps:=a.tmps,params:=ps,assign:=x,body:=y,defers:=D })) (c1.w.putObj l' (.loop { state := .busy,pending:=none,fn,tmps:=a.tmps,params:=ps,assign:=x,body:=y,defers:=D })):=by
        have h0:=mb1.trans hI1'.below
        refine ⟨h0.os,h0.tape,h0.output,by simpa using h0.size,fun k hk => ?_⟩
        have hne:k≠l':=by omega
        rw [World.putObj_heap_other hne,World.putObj_heap_other hne]
        exact h0.block k hk
       have hoW:Og B'.F (w0'.putObj l' (.loop { state := .busy,pending:=none,fn,tmps:=a.tmps,params:=ps,assign:=x,body:=y,defers:=D })) (c1.w.putObj l' (.loop { state := .busy,pending:=none,fn,tmps:=a.tmps,params:=ps,assign:=x,body:=y,defers:=D })):=by
        refine ⟨(mo1.trans hI1'.drawn).dr,fun k o hk ho => ?_,fun k f => ?_⟩
        rotate_left
        ·by_cases ek:k=l'
         ·subst ek
          rw [World.putObj_heap_same hlt0,World.putObj_heap_same hlt]
         ·rw [World.putObj_heap_other ek,World.putObj_heap_other ek]
          exact (mo1.trans hI1'.drawn).kb k f
        by_cases ek:k=l'
        ·subst ek
         rw [World.putObj_heap_same hlt0] at hk
         rw [World.putObj_heap_same hlt]
         exact hk
        ·rw [World.putObj_heap_other ek] at hk ⊢
         exact (mo1.trans hI1'.drawn).keep _ _ hk ho
       refine wpIn_mono (ihy (some l') n' fs' heap.length B' (w0'.putObj l' (.loop { state := .busy,pending:=none,fn,tmps:=a.tmps,params:=ps,assign:=x,body:=y,defers:=D })) St0' r' ?_ ?_ (.inr hnb) σ1 _ _ _ hlo1 hy1 ⟨{ c1 with w:=c1.w.putObj l' (.loop { state := .busy,pending:=none,fn,tmps:=a.tmps,params:=ps,assign:=x,body:=y,defers:=D }) },_,rfl,hh1,hIb,hE1a.mono hEb,⟨hbW,hoW,ms1,mdf1,mnd1,fun D' hD' => ?_⟩,fun fr hfr=>⟨(hfs1 fr hfr).1.mono hEb,(hfs1 fr hfr).2⟩⟩) fun e a2 w3 hn => ?_
       ·intro l0 hl0
        injection hl0 with hl0
        subst hl0
        exact ⟨_,World.putObj_heap_same hlt0⟩
       ·intro q hq
        obtain ⟨x1,x2,x3⟩:=hcx' q (List.mem_cons_of_mem _ hq)
        refine ⟨x1,x2, ?_⟩
        rw [World.putObj_heap_other (apartL q hq)]
        exact x3
       ·obtain ⟨x1,x2,x3,x4⟩:=mk1 D' hD'
        refine ⟨x1,by simpa using x2, ?_,x4⟩
        have hne:D'≠l':=by omega
        rw [World.putObj_heap_other hne]
        exact hI1'.drawn.keep _ _ x3 rfl
       ·cases e with
        | normal =>
         obtain ⟨σ2,q1,⟨c3,w5,rfl,hh3,hI3,hE3,⟨m1,m2,_⟩,hfs3⟩,q3⟩:=hn
         simp only [YZ] at q1
         have hl3:=hI3.drawn.keep _ _ (m2.keep _ _ (World.putObj_heap_same hlt0) rfl) rfl
         have hlt3:=(Array.getElem?_eq_some_iff.1 hl3).1
         obtain ⟨hI4,hE4⟩:=hI3.other (grownBy_putObj' c3.w l' (.loop { state := .ready,pending:=none,fn,tmps:=a.tmps,params:=ps,assign:=x,body:=y,defers:=D })) hl3 rfl
         have hb4:Below B' w0' (c3.w.putObj l' (.loop { state := .ready,pending:=none,fn,tmps:=a.tmps,params:=ps,assign:=x,body:=y,defers:=D })) :=
          ((((Below.refl B' w0').grown (grownBy_putObj' w0' l' _) hsz0 (fun k e=>by cases e; exact hBl')).trans m1).trans hI3.below).grown (grownBy_putObj' c3.w l' _) hI3.size (fun k e=>by cases e; exact hBl')
         refine ⟨.bool true,_,run_endRound none hl3,.bool true,.val .bool true,_,rfl,by rw [← hh3] at q1; exact q1,rfl,hI4.base hb4 ⟨?_,fun k o hk ho => ?_,fun k f => ?_⟩,cw _,by simpa [hh3] using q3,fun fr hfr=>(hfs3 fr hfr).1.mono hE4⟩
         ·exact Nat.le_trans m2.dr hI3.drawn.dr
         ·by_cases ek:k=l'
          ·subst ek
           rw [hrecw] at hk
           injection hk with hk
           subst hk
           exact World.putObj_heap_same hlt3
          ·rw [World.putObj_heap_other ek]
           refine hI3.drawn.keep _ _ (m2.keep _ _ ?_ ho) ho
           rw [World.putObj_heap_other ek]
           exact hk
         ·by_cases ek:k=l'
          ·subst ek
           rw [World.putObj_heap_same hlt3,hrecw]
          ·rw [World.putObj_heap_other ek,hI3.drawn.kb k f,m2.kb k f,World.putObj_heap_other ek]
        | exit id=>obtain ⟨_,q1,_⟩:=hn; cases q1
        | ret=>obtain ⟨_,q1,_⟩:=hn; cases q1
        | goto l=>exact hn.elim
        | panic ch=>exact hn.elim
        | outgrown=>exact hn.elim
      ·cases hy
     ·exact ckok.call _ _ _ _ _ hy fs' B' w0' St0' c' hI' hh' vs hargs hfs' (fun q hq=>hcx' q (List.mem_cons_of_mem _ hq))
    obtain ⟨⟨fnn,f1,f2,f3⟩,hcalls⟩:=ckok.iter _ _ yok _ _ _ _ _ h ((σ.env++[.yld σ.heap.length],a.tmps.toList++[.func (.yield l) #[] #[]])::fs) B w2 St0 _ hI2 (by show c.heap++_=_; rw [hh]) (.func (.yield l) #[] #[]::cs) ⟨hyl,(hcs.parts hch).mono hE2⟩ (by
     intro fr hfr
     rcases List.mem_cons.1 hfr with rfl | hfr
     ·refine ⟨(hE.mono hE2).append ⟨hyl,trivial⟩, ?_⟩
      rw [List.all_append,Bool.and_eq_true]
      refine ⟨so (by simp [hjl]) (hE.under hnc), ?_⟩
      simp [AV.under]
     ·exact ⟨(hfs fr hfr).1.mono hE2,so (by simp; omega) (hfs fr hfr).2⟩) hcx2
    have hbody : ¬ fnn.body=none:=by cases hb:fnn.body <;> simp_all
    have f3 : ¬ fnn.name = "runtime.NumGoroutine" := by simpa using f3
    refine ⟨l,mark,w2,{ target := .fn (.func f) cs.toArray,args := #[.func (.yield l) #[] #[]] },w2,f,(.func (.yield l) #[] #[]::cs).toArray,w2,hrun, ?_,fun _ _=>trivial, ?_,(fun q=>by cases q),Ur (hcalls.mono ?_)⟩
    ·simp only [resolve,e]
     simp [Deferred.ofValue,Act.eval]
    ·have e2 : #[Value.func (.yield l) #[] #[]]++cs.toArray=(Value.func (.yield l) #[] #[]::cs).toArray:=Array.ext' (by simp)
     simp only [invoke,callFunc,run_program,Sem.run_bind,Result.andThen_ok,f1,e2]
     simp [f3,hbody]
    ·rintro _ w3 ⟨v,out,c3,rfl,hk,rfl,hI3,hR3,hle3,hfs3⟩
     have hl3:=hI3.drawn.keep _ _ hrec rfl
     obtain ⟨hI4,hE4⟩:=hI3.other (grownBy_putObj' c3.w l (.loop { state := .exhausted,pending:=none,fn,tmps:=a.tmps,params:=ps,assign:=x,body:=y,defers:=D })) hl3 rfl
     have keep4 : ∀ (k:Nat) (o:Obj),c.w.heap[k]? = some o→o.isCells=false→(c3.w.putObj l (.loop { state := .exhausted,pending:=none,fn,tmps:=a.tmps,params:=ps,assign:=x,body:=y,defers:=D })).heap[k]? = some o:=fun k o hk' ho=>by
      have hne:k≠l:=fun ek=>by have:=(Array.getElem?_eq_some_iff.1 hk').1; omega
      rw [World.putObj_heap_other hne]
      exact hI3.drawn.keep _ _ (og2.keep _ _ hk' ho) ho
     have hszw:w0.heap.size≤c.w.heap.size:=(hdb.trans hI.below).size
     refine ⟨none,_,run_endLoop hl3 (by simp),⟨σ.env,c3.heap⟩,hk,⟨{ c3 with w:=c3.w.putObj l (.loop { state := .exhausted,pending:=none,fn,tmps:=a.tmps,params:=ps,assign:=x,body:=y,defers:=D }) },_,rfl,rfl,hI4, ?_,⟨?_,⟨?_,fun k o hk' ho => ?_,fun k f => ?_⟩,ms2++ms, ?_, ?_, ?_⟩,fun fr hfr=>⟨(hfs3 fr (List.mem_cons_of_mem _ hfr)).mono hE4,(hfs fr hfr).2⟩⟩, ?_⟩
     ·exact (ER (hfs3 _ (List.mem_cons_self ..))).1.mono hE4
     ·exact (((hdb.trans hI.below).grown hgr hI.size (fun k e=>by cases e)).trans hI3.below).grown (grownBy_putObj' c3.w l _) hI3.size (fun k e=>by cases e; exact hBl)
     ·exact Nat.le_trans (hdo.trans (hI.drawn.trans og2)).dr hI3.drawn.dr
     ·exact keep4 k o ((hdo.trans hI.drawn).keep _ _ hk' ho) ho
     ·have hne:k≠l:=fun ek=>by have:=hI.fl k f; omega
      rw [World.putObj_heap_other hne,hI3.drawn.kb k f,og2.kb k f,hI.drawn.kb k f,hdo.kb k f]
     ·show mark++a.defers=_
      rw [hmark,hms,List.map_append]
     ·rw [List.nodup_append]
      refine ⟨hnod2,hnod,fun D1 h1 D2 h2 ed => ?_⟩
      have:=(hmk2 D1 h1).1
      have h3:=(Array.getElem?_eq_some_iff.1 (hI.drawn.keep _ _ (hmk D2 h2).2.2.1 rfl)).1
      omega
     ·intro D' hD'
      rcases List.mem_append.1 hD' with h1 | h1
      ·obtain ⟨x1,x2,x3⟩:=hmk2 D' h1
       exact ⟨Nat.le_trans hI.size x1,Nat.le_trans hszw x1,by rw [World.putObj_heap_other x2]; exact hI3.drawn.keep _ _ x3 rfl,fun f=>by have:=hI.fl D' f; omega⟩
      ·obtain ⟨x1,x2,x3,x4⟩:=hmk D' h1
       exact ⟨x1,x2,keep4 _ _ (hI.drawn.keep _ _ x3 rfl) rfl,x4⟩
     ·simp only [List.length_append,List.length_cons] at hle3
      show lo≤c3.heap.length
      omega
   ·cases h
  ·cases h
 | scope x _=>intro ro n fs lo B w0 St0 r hro hcx _ σ k a w _ h _; cases h
 | goto l=>intro ro n fs lo B w0 St0 r hro hcx _ σ k a w _ h _; cases h
 | refuse s=>intro ro n fs lo B w0 St0 r hro hcx _ σ k a w _ h _; cases h
end
end Go.Proofs.YtboikinjlmjgjaaGreat.Abs
