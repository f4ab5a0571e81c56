/- A region is sound. -/
import Derived.Test.YtboikinjlmjgjaaGreatAbsQ
namespace Go.Proofs.YtboikinjlmjgjaaGreat.Abs
open Go Go.RowKit
section
variable {P:Program} {tab:Tab} {T:Specs} {ck:Callk} {B:Bd} {lo:Nat} {w0:World} {St0:Sb} {fs:List (List AV×List Value)}
variable {Γ:List Lq} {ops:Array Oper} {base:Nat} {σ1:Sg} {ds:List Dl} {ts:List (Option Nat)}
theorem NM {listed:Array Bool} {i j:Nat} (hi:i<listed.size):(listed.setIfInBounds i true).getD j false=(listed.getD j false||decide (j=i)):=by
 simp only [Array.getD_eq_getD_getElem?,Array.getElem?_setIfInBounds]
 by_cases h:i=j
 ·subst h; simp [hi]
 ·have : ¬ j=i:=fun e=>h e.symm
  simp [h,this]
theorem yn (n j:Nat):(Array.replicate n false).getD j false=false:=by
 simp only [Array.getD_eq_getD_getElem?,Array.getElem?_replicate]
 split <;> rfl
theorem mJ {listed:Array Bool} (hs:listed.size=ops.size) {i:Nat} (h:i∈Region.ready .any ops listed) :
  i<ops.size∧listed.getD i false=false ∧ ∃ o,ops[i]? = some o ∧ ∀ e∈o.after,Region.binds .any e=true→listed.getD e.on false=true:=by
 rw [mem_ready] at h
 obtain ⟨h1,o,ho,h2⟩:=h
 have hlt:i<ops.size:=(Array.getElem?_eq_some_iff.1 ho).1
 refine ⟨hlt, ?_,o,ho,h2⟩
 have hl:i<listed.size:=by omega
 simpa [Array.getD_eq_getD_getElem?,hl] using h1
theorem afA (hed:iG 0 ops.toList=true) {listed:Array Bool} (hs:listed.size=ops.size) (hdc:DC ops (fun j=>listed.getD j false)) {i:Nat} (h:i∈Region.ready .any ops listed) :
  (∀ q,((cI ops.toList []).getD i 0).testBit q=true→listed.getD q false=true)∧DC ops (fun j=>(listed.setIfInBounds i true).getD j false):=by
 obtain ⟨hlt,hDi,o,ho,hpre⟩:=mJ hs h
 have hq : ∀ q,((cI ops.toList []).getD i 0).testBit q=true→listed.getD q false=true:=by
  intro q hq
  obtain ⟨e,he,hb,hx⟩:=xQ ops.toList [] i o (by simpa using ho) hed q (by simpa using hq)
  have hon:=hpre e (by simpa using he) hb
  rcases hx with rfl | hx
  ·exact hon
  ·exact hdc e.on hon q hx
 refine ⟨hq,fun j hj q hx => ?_⟩
 have hj:(listed.setIfInBounds i true).getD j false=true:=hj
 show (listed.setIfInBounds i true).getD q false=true
 rw [NM (by omega)] at hj ⊢
 simp only [Bool.or_eq_true,decide_eq_true_eq] at hj ⊢
 rcases hj with hj | rfl
 ·exact .inl (hdc j hj q hx)
 ·exact .inl (hq q hx)
theorem Yn (hed:iG 0 ops.toList=true) {listed:Array Bool} (hs:listed.size=ops.size) (hr:Region.ready .any ops listed=[]) : ∀ i,i<ops.size→listed.getD i false=true:=by
 intro i
 induction i using Nat.strongRecOn with
 | _ i ih =>
  intro hi
  cases hD:listed.getD i false with
  | true=>rfl
  | false =>
   exfalso
   have:i∈Region.ready .any ops listed:=by
    rw [mem_ready]
    have hl:i<listed.size:=by omega
    refine ⟨by simpa [Array.getD_eq_getD_getElem?,hl] using hD,ops[i],by simp [hi],fun e he hbi => ?_⟩
    have hon:e.on<i:=by
     have : ∀ (l:List Oper) (k j:Nat) (o:Oper),iG k l=true→l[j]? = some o → ∀ e∈o.after.toList,Region.binds .any e=true→e.on<k+j:=by
      intro l
      induction l with
      | nil=>intro k j o _ h; simp at h
      | cons x l ihl =>
       intro k j o hok h e he hb
       simp only [iG,Bool.and_eq_true,List.all_eq_true] at hok
       cases j with
       | zero =>
        simp at h
        subst h
        have:=hok.1 e he
        simpa [hb] using this
       | succ j =>
        simp at h
        have:=ihl (k+1) j o hok.2 h e he hb
        omega
     have:=this ops.toList 0 i ops[i] hed (by simp [hi]) e (by simpa using he) hbi
     omega
    exact ih e.on hon (by omega)
   rw [hr] at this
   cases this
theorem BR {ro:Option Nat} {n:Nat} {Q:Exit→Act→World→Prop} {listed:Array Bool} (h:Region.ready .any ops listed=[]) {a:Act} {w:World} (hQ:Q .normal a w) : ∀ fuel,wpAnyIn (RF ro) n P .any ops Q fuel listed a w
 | 0=>⟨h,hQ⟩
 | _+1=>⟨fun _=>hQ,fun i hi=>by rw [h] at hi; cases hi⟩
theorem Tb (ds:List Dl) {D:Nat→Bool} (h : ∀ i,i<ds.length→D i=true) (σ1:Sg):stD ds D σ1=bE ds (List.range ds.length) σ1:=by
 unfold stD
 congr 1
 rw [List.filter_eq_self]
 intro i hi
 exact h i (List.mem_range.1 hi)
theorem abO {ro:Option Nat} {n:Nat} (hnd : ∀ o∈ops.toList,x9 ro o) (tk:TabOk P tab) (tsok:SpecsOk P T) (ckok:CkOk P ck Γ) (hcx:Ctx Γ fs B w0) (h:Drawn tab T ops base σ1 ds ts) (hb:base+ops.size≤σ1.heap.length) (hlo:lo≤σ1.heap.length) {k:Sg→Option AV} {r:AV}
  (hrun:dq tab T ck ops.toList base 0 ops.toList σ1 k=some r) : ∀ (fuel:Nat) (listed:Array Bool) (a:Act) (w:World),listed.size=ops.size→DC ops (fun j=>listed.getD j false) →
   ((List.range ops.size).filter fun j => !listed.getD j false).length≤fuel→(ds.length<ops.size→listed.getD ds.length false=false) →
   Rel fs lo B w0 St0 (stD ds (fun j=>listed.getD j false) σ1) a w→wpAnyIn (RF ro) n P .any ops (AA fs lo B w0 St0 (base+ops.size) k r) fuel listed a w:=by
 obtain ⟨t1,t2,t3,_⟩:=pe _ _ _ _ _ h.tr
 obtain ⟨r1,r2,r3⟩:=Mk _ _ _ _ _ h.tr hrun
 simp only [Array.length_toList] at t2 t3 r2 r3
 have hheap : ∀ D,(stD ds D σ1).heap.length=σ1.heap.length:=fun D=>by unfold stD; exact bW _ _ _
 have fin : ∀ (listed:Array Bool) (a:Act) (w:World),listed.size=ops.size→Region.ready .any ops listed=[]→(ds.length<ops.size→listed.getD ds.length false=false)→Rel fs lo B w0 St0 (stD ds (fun j=>listed.getD j false) σ1) a w→AA fs lo B w0 St0 (base+ops.size) k r .normal a w:=by
  intro listed a w hs hr hl hrel
  have hall:=Yn h.edges hs hr
  have hm:ds.length=ops.size:=by
   rcases Nat.lt_or_ge ds.length ops.size with hlt | hge
   ·have:=hall _ hlt; rw [hl hlt] at this; cases this
   ·omega
  rw [Tb ds (fun i hi=>hall i (by omega))] at hrel
  exact ⟨_,r2 hm,hrel,by rw [bW]; exact hb⟩
 intro fuel
 induction fuel with
 | zero =>
  intro listed a w hs hdc hcount hl hrel
  have hr:Region.ready .any ops listed=[]:=by
   rw [List.eq_nil_iff_forall_not_mem]
   intro i hi
   obtain ⟨hlt,hDi,_⟩:=mJ hs hi
   have:i∈(List.range ops.size).filter fun j => !listed.getD j false:=by
    rw [List.mem_filter]
    exact ⟨List.mem_range.2 hlt,by simp [hDi]⟩
   rw [List.eq_nil_of_length_eq_zero (Nat.le_zero.1 hcount)] at this
   cases this
  exact ⟨hr,fin listed a w hs hr hl hrel⟩
 | succ fuel ih =>
  intro listed a w hs hdc hcount hl hrel
  refine ⟨fun hr=>fin listed a w hs hr hl hrel,fun i hi => ?_⟩
  obtain ⟨hlt,hDi,o',ho',_⟩:=mJ hs hi
  obtain ⟨hpre,hdc'⟩:=afA h.edges hs hdc hi
  have hD' : ∀ j,(listed.setIfInBounds i true).getD j false=(listed.getD j false||decide (j=i)):=fun j=>NM (by omega)
  rcases Nat.lt_or_ge i ds.length with him | him
  ·obtain ⟨o,ho,hst⟩:=h.step hdc him hDi hpre
   refine B8 tk tsok ho hst (r1 _ (List.getElem_mem him)) (by rw [hheap]; omega) (hnd _ (Array.mem_toList_iff.2 (Array.mem_of_getElem? ho))) hrel fun a' w' hrel' => ?_
   rw [← h.next hdc him hDi hpre hD'] at hrel'
   refine ih (listed.setIfInBounds i true) a' w' (by simpa using hs) hdc' ?_ (fun hlt' => ?_) hrel'
   ·have hlen:((List.range ops.size).filter fun j => !(listed.setIfInBounds i true).getD j false).length<((List.range ops.size).filter fun j => !listed.getD j false).length:=by
     have e:((List.range ops.size).filter fun j => !(listed.setIfInBounds i true).getD j false)=(((List.range ops.size).filter fun j => !listed.getD j false)).filter (fun j=>decide (j≠i)):=by
      rw [List.filter_filter]
      apply List.filter_congr
      intro j _
      rw [hD']
      by_cases e:j=i <;> simp [e]
     rw [e]
     refine List.length_filter_lt_length_iff_exists.2 ⟨i, ?_,by simp⟩
     rw [List.mem_filter]
     exact ⟨List.mem_range.2 hlt,by simp [hDi]⟩
    omega
   ·rw [hD',hl hlt']
    simp; omega
  ·
   have hi':i=ds.length:=by omega
   have hall : ∀ j,j<ds.length→listed.getD j false=true:=fun j hj=>by
    have hp:=h.pair (i:=j) (j:=i) (by omega) hlt
    rw [if_neg (by omega)] at hp
    exact hpre j hp
   rw [Tb ds hall] at hrel
   obtain ⟨o,q1,q2⟩:=r3 (by omega)
   have ho:ops[i]? = some o:=by rw [hi']; simpa using q1
   have hfull:Region.ready .any ops (listed.setIfInBounds i true)=[]:=by
    rw [List.eq_nil_iff_forall_not_mem]
    intro j hj
    obtain ⟨hjl,hDj,_⟩:=mJ (by simpa using hs) hj
    rw [hD'] at hDj
    simp only [Bool.or_eq_false_iff,decide_eq_false_iff_not] at hDj
    rcases Nat.lt_or_ge j ds.length with x | x
    ·rw [hall j x] at hDj; cases hDj.1
    ·omega
   rcases q2 with ⟨fr,out,heap',m1,m2⟩ | ⟨f,args,q2,q3⟩
   ·refine zO tk ho m1 (hnd _ (Array.mem_toList_iff.2 (Array.mem_of_getElem? ho))) hrel fun a' w' hl hrel' => ?_
    exact BR hfull ⟨_,m2,hrel',by rw [hl,bW]; exact hb⟩ fuel
   ·refine At ckok hcx ho q2 q3 (by rw [bW]; exact hlo) (hnd _ (Array.mem_toList_iff.2 (Array.mem_of_getElem? ho))) hrel fun out heap' a' w' hk hle hrel' => ?_
    exact BR hfull ⟨_,hk,hrel',Nat.le_trans (by rw [bW]; exact hb) hle⟩ fuel
theorem Ic {ro:Option Nat} {n:Nat} (hnd : ∀ o∈ops.toList,x9 ro o) (hm:P.follows .mixedOrders=true) (tk:TabOk P tab) (tsok:SpecsOk P T) (ckok:CkOk P ck Γ) (hcx:Ctx Γ fs B w0) {id:Nat} {draw:Bool} {σ:Sg} {a:Act} {w:World} {k:Sg→Option AV} {r:AV} (hlo:lo≤σ.heap.length)
  (h:sE tab T ck ops.toList draw σ k=some r) (hr:Rel fs lo B w0 St0 σ a w):(Code.region id ops draw).wpIn (RF ro) n P (AA fs lo B w0 St0 lo k r) a w:=by
 have key : ∀ {Q:Exit→Act→World→Prop} {a:Act} {w:World} {draw:Bool},(Code.region id ops draw).wpIn (RF ro) n P Q a w→(∀ e a w,Q e a w→AA fs lo B w0 St0 lo k r e a w)→(Code.region id ops draw).wpIn (RF ro) n P (AA fs lo B w0 St0 lo k r) a w:=fun h1 h2=>wpIn_mono h1 h2
 have tQ : ∀ e a w,AA fs lo B w0 St0 (σ.heap.length+ops.size) (wT k) r e a w→AA fs lo B w0 St0 lo k r e a w:=by
  intro e a w hn
  cases e with
  | normal =>
   obtain ⟨σ',h1,h2,h3⟩:=hn
   exact ⟨_,h1,h2.clr,by simp only; omega⟩
  | _=>exact hn.elim
 have hlen:ops.toList.length=ops.size:=by simp
 cases draw with
 | false =>
  simp only [sE] at h
  refine key (wpIn_region ?_) tQ
  have:=jH (n:=n) tk tsok ckok hcx hnd ops.toList 0 ⟨σ.env,σ.heap++List.replicate ops.toList.length .none⟩ a w (by simp) (by simp) (by simp; omega) h (hr.more _)
  rw [List.range_eq_range']
  simpa using this
 | true =>
  simp only [sE] at h
  split at h
  ·rename_i ds ts htr
   split at h
   ·rename_i hok
    have hd:Drawn tab T ops σ.heap.length ⟨σ.env,σ.heap++List.replicate ops.toList.length .none⟩ ds ts:=⟨htr,hok⟩
    refine key (wpIn_region_any hm ?_) tQ
    refine abO hnd tk tsok ckok hcx hd (by simp) (by simp; omega) h ops.size (Array.replicate ops.size false) a _ (by simp) ?_ ?_ ?_ ?_
    ·intro j hj
     have hj:(Array.replicate ops.size false).getD j false=true:=hj
     rw [yn] at hj
     cases hj
    ·exact Nat.le_trans (List.length_filter_le _ _) (by simp)
    ·intro _
     exact yn _ _
    ·have e:stD ds (fun j=>(Array.replicate ops.size false).getD j false) ⟨σ.env,σ.heap++List.replicate ops.toList.length .none⟩=⟨σ.env,σ.heap++List.replicate ops.toList.length .none⟩:=by
      unfold stD
      have:(List.range ds.length).filter (fun j=>(Array.replicate ops.size false).getD j false)=[]:=by
       rw [List.filter_eq_nil_iff]
       intro j _
       rw [yn]
       simp
      rw [this]
      rfl
     rw [e]
     exact (hr.more _).drewW
   ·cases h
  ·cases h
end
end Go.Proofs.YtboikinjlmjgjaaGreat.Abs
