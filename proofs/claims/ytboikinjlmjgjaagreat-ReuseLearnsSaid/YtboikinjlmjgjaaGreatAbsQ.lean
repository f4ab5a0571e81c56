/- Regions whose order is open are sound, the end. -/
import Derived.Test.YtboikinjlmjgjaaGreatAbsO
namespace Go.Proofs.YtboikinjlmjgjaaGreat.Abs
open Go Go.RowKit
theorem tC {q:Nat→Bool} {i m:Nat} (him:i≤m) (hq : ∀ j,j<m→q j=true→j<i):(List.range m).filter q=(List.range i).filter q:=by
 have hsplit:List.range m=List.range i++List.range' i (m-i):=by
  have:=List.range'_append_1 (s:=0) (m:=i) (n:=m-i)
  rw [show 0+i=i by omega,show i+(m-i)=m by omega] at this
  rw [List.range_eq_range',List.range_eq_range',this]
 rw [hsplit,List.filter_append]
 have:(List.range' i (m-i)).filter q=[]:=by
  rw [List.filter_eq_nil_iff]
  intro j hj
  rw [List.mem_range'_1] at hj
  intro hqj
  have:=hq j (by omega) hqj
  omega
 rw [this,List.append_nil]
theorem An {q q':Nat→Bool} {i m:Nat} (him:i<m) (hq : ∀ j,j<m→q j=true→j<i) (hq' : ∀ j,j<m→q' j=(q j||decide (j=i))):(List.range m).filter q'=(List.range m).filter q++[i]:=by
 rw [tC (Nat.le_of_lt him) hq,tC (i:=i+1) (by omega) (fun j hj h=>by
  rw [hq' j hj,Bool.or_eq_true,decide_eq_true_eq] at h
  rcases h with h | h
  ·have:=hq j hj h; omega
  ·omega),List.range_succ,List.filter_append]
 congr 1
 ·apply List.filter_congr
  intro j hj
  rw [List.mem_range] at hj
  rw [hq' j (by omega)]
  simp; omega
 ·simp [hq' i him]
theorem Ao {q q':Nat→Bool} {m:Nat} (h : ∀ j,j<m→q j=q' j):(List.range m).filter q=(List.range m).filter q':=by
 apply List.filter_congr
 intro j hj
 rw [List.mem_range] at hj
 exact h j hj
theorem Od {α:Type} {l l':List α} {d:α} (hl:l.length=l'.length) (h : ∀ i,l.getD i d=l'.getD i d):l=l':=by
 apply List.ext_getElem hl
 intro i h1 h2
 have:=h i
 simpa [List.getD,List.getElem?_eq_getElem h1,List.getElem?_eq_getElem h2] using this
section
variable {P:Program} {tab:Tab} {T:Specs} {ck:Callk} {B:Bd} {lo:Nat} {w0:World} {St0:Sb} {fs:List (List AV×List Value)}
theorem U7 {ops:List Oper} {fresh:Nat} {o:Oper} {σ:Sg} {d:Dl} (h:ua tab T ops fresh o σ=some d) :
  d.dst=o.dst ∧ ∀ k ho,d.wr=some (k,ho)→dc T o.op=false∧(match gOf σ.env ops o with | some g=>kO T o fresh g (cX σ.env o) | none=>none)=some k:=by
 unfold ua at h
 split at h
 ·rename_i g hg
  unfold Ta at h
  split at h
  ·split at h
   ·simp only [Option.some.injEq] at h
    subst h
    refine ⟨rfl,fun k ho hw => ?_⟩
    simp only at hw
    split at hw
    ·cases hw
    ·rename_i hrd
     split at hw
     ·rename_i k' ht
      simp only [Option.some.injEq,Prod.mk.injEq] at hw
      obtain ⟨rfl,_⟩:=hw
      rw [hg]
      exact ⟨by simpa using hrd,ht⟩
     ·cases hw
   ·cases h
  ·split at h
   ·split at h
    ·simp only [Option.some.injEq] at h
     subst h
     exact ⟨rfl,fun k ho hw=>by cases hw⟩
    ·cases h
   ·split at h
    ·simp only [Option.some.injEq] at h
     subst h
     exact ⟨rfl,fun k ho hw=>by cases hw⟩
    ·cases h
 ·cases h
theorem wN {ops:List Oper} {o:Oper} {t:Nat} (h:Operand.tmp t∈o.op.operands.toList):t∈q7 ops o:=by
 unfold q7
 rw [List.mem_append]
 exact .inl (List.mem_filterMap.2 ⟨_,h,rfl⟩)
theorem Vo {o:Oper} {ops:List Oper} {e e':List AV} (h : ∀ t∈q7 ops o,e.getD t .unk=e'.getD t .unk):cX e o=cX e' o:=by
 unfold cX
 apply List.map_congr_left
 intro x hx
 cases x with
 | tmp t=>exact h t (wN hx)
 | _=>rfl
theorem Wn {o:Oper} {ops:List Oper} {e e':List AV} (h : ∀ t∈q7 ops o,e.getD t .unk=e'.getD t .unk):gOf e ops o=gOf e' ops o:=by
 unfold gOf
 cases hg:o.guard with
 | none=>rfl
 | some jw =>
  obtain ⟨j,want⟩:=jw
  simp only
  have:xg e ops j want=xg e' ops j want:=by
   unfold xg
   split
   ·rename_i d hd
    have:=h d (by unfold q7; rw [List.mem_append]; exact .inr (by simp [hg,hd]))
    rw [this]
   ·rfl
  rw [this]
structure Drawn (tab:Tab) (T:Specs) (ops:Array Oper) (base:Nat) (σ1:Sg) (ds:List Dl) (ts:List (Option Nat)):Prop where
 tr:vB tab T ops.toList base 0 ops.toList σ1=some (ds,ts)
 ok:Kz T ops.toList ts (cI ops.toList [])=true
variable {ops:Array Oper} {base:Nat} {σ1:Sg} {ds:List Dl} {ts:List (Option Nat)}
theorem Drawn.pair (h:Drawn tab T ops base σ1 ds ts) {i j:Nat} (hij:i<j) (hj:j<ops.size):if j<ts.length then Is T ops.toList (cI ops.toList []) ts i j=true else ((cI ops.toList []).getD j 0).testBit i=true:=by
 have:=h.ok
 simp only [Kz,Bool.and_eq_true,List.all_eq_true,List.mem_range] at this
 have:=this.2 j (by simpa using hj) i hij
 split
 ·rename_i hlt; simpa [hlt] using this
 ·rename_i hlt; simpa [hlt] using this
theorem Drawn.edges (h:Drawn tab T ops base σ1 ds ts):iG 0 ops.toList=true:=by
 have:=h.ok
 simp only [Kz,Bool.and_eq_true] at this
 exact this.1
def DC (ops:Array Oper) (D:Nat→Bool):Prop := ∀ j,D j=true → ∀ i,((cI ops.toList []).getD j 0).testBit i=true→D i=true
theorem Az {T:Specs} {l:List Oper} {oi oj:Oper} {ti tj:Option Nat} (h:EI T l oi oj ti tj=true) :
  (∀ d,oi.dst=some d→oj.dst≠some d)∧(∀ d,oi.dst=some d→d ∉ q7 l oj)∧(∀ d,oj.dst=some d→d ∉ q7 l oi)∧(∀ k,ti=some k→tj=some k→dc T oi.op=true∧dc T oj.op=true):=by
 simp only [EI,Bool.and_eq_true] at h
 obtain ⟨⟨⟨h1,h2⟩,h3⟩,h4⟩:=h
 refine ⟨fun d e e' => ?_,fun d e hm => ?_,fun d e hm => ?_,fun k e e' => ?_⟩
 ·simp [Gv,e,e'] at h1
 ·rw [e] at h2; simp [hm] at h2
 ·rw [e] at h3; simp [hm] at h3
 ·subst e; subst e'
  simpa [Gv] using h4
theorem Drawn.order (h:Drawn tab T ops base σ1 ds ts) {D:Nat→Bool} (hdc:DC ops D) {i j:Nat} (hi:i<ds.length) (hj:j<ds.length) (hne:j≠i) {oi oj:Oper} (hoi:ops[i]? = some oi) (hoj:ops[j]? = some oj) (hDi:D i=false)
  (hpre : ∀ q,((cI ops.toList []).getD i 0).testBit q=true→D q=true)
  (hmeet:(∃ t,oj.dst=some t∧(t∈q7 ops.toList oi∨oi.dst=some t))∨(∃ k,ts.getD i none=some k∧ts.getD j none=some k∧dc T oj.op=false)∨(∃ k,ts.getD i none=some k∧ts.getD j none=some k∧dc T oi.op=false)):D j=decide (j<i):=by
 obtain ⟨t1,t2,t3,_⟩:=pe _ _ _ _ _ h.tr
 have hsz:ds.length≤ops.size:=by simpa using t2
 have g1:ops.toList[i]? = some oi:=by simpa using hoi
 have g2:ops.toList[j]? = some oj:=by simpa using hoj
 rcases Nat.lt_or_ge j i with hlt | hge
 ·have hp:=h.pair hlt (by omega)
  rw [if_pos (by omega)] at hp
  simp only [Is,g1,g2,Bool.or_eq_true] at hp
  rcases hp with hp | hp
  ·rw [hpre j hp]; simp [hlt]
  ·exfalso
   obtain ⟨a1,a2,a3,a4⟩:=Az hp
   rcases hmeet with ⟨t,e,hm | hm⟩ | ⟨k,e1,e2,hr⟩ | ⟨k,e1,e2,hr⟩
   ·exact a2 t e hm
   ·exact a1 t e hm
   ·have:=(a4 k e2 e1).1; rw [hr] at this; cases this
   ·have:=(a4 k e2 e1).2; rw [hr] at this; cases this
 ·have hgt:i<j:=by omega
  have hp:=h.pair hgt (by omega)
  rw [if_pos (by omega)] at hp
  simp only [Is,g1,g2,Bool.or_eq_true] at hp
  have hD:D j=false:=by
   rcases hp with hp | hp
   ·cases hDj:D j with
    | false=>rfl
    | true=>have:=hdc j hDj i hp; rw [hDi] at this; cases this
   ·exfalso
    obtain ⟨a1,a2,a3,a4⟩:=Az hp
    rcases hmeet with ⟨t,e,hm | hm⟩ | ⟨k,e1,e2,hr⟩ | ⟨k,e1,e2,hr⟩
    ·exact a3 t e hm
    ·exact a1 t hm e
    ·have:=(a4 k e1 e2).2; rw [hr] at this; cases this
    ·have:=(a4 k e1 e2).1; rw [hr] at this; cases this
  rw [hD]
  simp; omega
def stD (ds:List Dl) (D:Nat→Bool) (σ1:Sg):Sg:=bE ds ((List.range ds.length).filter D) σ1
theorem Drawn.at_ (h:Drawn tab T ops base σ1 ds ts) {i:Nat} (hi:i<ds.length) : ∃ o,ops[i]? = some o∧ua tab T ops.toList (base+i) o (bE ds (List.range i) σ1)=some ds[i] ∧
  ts.getD i none=(match gOf (bE ds (List.range i) σ1).env ops.toList o with | some g=>kO T o (base+i) g (cX (bE ds (List.range i) σ1).env o) | none=>none)∧ds[i].dst=o.dst∧(∀ k ho,ds[i].wr=some (k,ho)→dc T o.op=false∧ts.getD i none=some k):=by
 obtain ⟨t1,t2,t3,t4⟩:=pe _ _ _ _ _ h.tr
 obtain ⟨o,h1,h2,h3⟩:=t4 i hi
 simp only [Nat.zero_add] at h2 h3
 have e3:ts.getD i none=(match gOf (bE ds (List.range i) σ1).env ops.toList o with | some g=>kO T o (base+i) g (cX (bE ds (List.range i) σ1).env o) | none=>none):=by
  rw [List.getD,h3,Option.getD_some]
  rfl
 obtain ⟨d1,d2⟩:=U7 h2
 exact ⟨o,by simpa using h1,h2,e3,d1,fun k ho hw=>⟨(d2 k ho hw).1,by rw [e3]; exact (d2 k ho hw).2⟩⟩
theorem Drawn.step (h:Drawn tab T ops base σ1 ds ts) {D:Nat→Bool} (hdc:DC ops D) {i:Nat} (hi:i<ds.length) (hDi:D i=false) (hpre : ∀ q,((cI ops.toList []).getD i 0).testBit q=true→D q=true) :
  ∃ o,ops[i]? = some o∧ua tab T ops.toList (base+i) o (stD ds D σ1)=some ds[i]:=by
 obtain ⟨o,ho,hst,hts,hdst,hwr⟩:=h.at_ hi
 refine ⟨o,ho, ?_⟩
 have henv : ∀ t∈q7 ops.toList o,(stD ds D σ1).env.getD t .unk=(bE ds (List.range i) σ1).env.getD t .unk:=by
  intro t ht
  have p1:=eM ds t (fun j=>match ds[j]? with | some d=>decide (d.dst=some t) | none=>false) (fun j d h1 h2=>by simp [h1,h2]) ((List.range ds.length).filter D) σ1 σ1 rfl rfl
  have p2:=eM ds t (fun j=>match ds[j]? with | some d=>decide (d.dst=some t) | none=>false) (fun j d h1 h2=>by simp [h1,h2]) (List.range i) σ1 σ1 rfl rfl
  unfold stD
  rw [p1,p2,List.filter_filter]
  congr 3
  rw [tC (i:=i) (Nat.le_of_lt hi) ?_]
  ·apply List.filter_congr
   intro j hj
   rw [List.mem_range] at hj
   have hjl:j<ds.length:=by omega
   simp only [List.getElem?_eq_getElem hjl]
   cases hdt:decide (ds[j].dst=some t) with
   | false=>simp
   | true =>
    obtain ⟨oj,hoj,_,_,hd,_⟩:=h.at_ hjl
    have hm:=h.order hdc hi hjl (by omega) ho hoj hDi hpre (.inl ⟨t,by rw [← hd]; exact of_decide_eq_true hdt,.inl ht⟩)
    rw [hm]
    simp [hj]
  ·intro j hj hq
   simp only [List.getElem?_eq_getElem hj,Bool.and_eq_true] at hq
   rcases Nat.lt_trichotomy j i with hlt | heq | hgt
   ·exact hlt
   ·subst heq; rw [hDi] at hq; exact absurd hq.2 (by simp)
   ·exfalso
    obtain ⟨oj,hoj,_,_,hd,_⟩:=h.at_ hj
    have hm:=h.order hdc hi hj (by omega) ho hoj hDi hpre (.inl ⟨t,by rw [← hd]; exact of_decide_eq_true hq.1,.inl ht⟩)
    rw [hm] at hq
    simp at hq
    omega
 have e1:=Wn (o:=o) henv
 have e2:=Vo (o:=o) henv
 unfold ua at hst ⊢
 rw [e1,e2]
 split at hst
 ·rename_i g hg
  simp only [hg] at hts ⊢
  have hheap:NB (stD ds D σ1).heap (kO T o (base+i) g (cX (bE ds (List.range i) σ1).env o))=NB (bE ds (List.range i) σ1).heap (kO T o (base+i) g (cX (bE ds (List.range i) σ1).env o)):=by
   cases htch:kO T o (base+i) g (cX (bE ds (List.range i) σ1).env o) with
   | none=>rfl
   | some k =>
    rw [htch] at hts
    simp only [NB]
    have p1:=dJ ds k (fun j=>match ds[j]? with | some d=>(match d.wr with | some x=>decide (x.1=k) | none=>false) | none=>false) (fun j d ho h1 h2=>by simp [h1,h2]) ((List.range ds.length).filter D) σ1 σ1 rfl rfl
    have p2:=dJ ds k (fun j=>match ds[j]? with | some d=>(match d.wr with | some x=>decide (x.1=k) | none=>false) | none=>false) (fun j d ho h1 h2=>by simp [h1,h2]) (List.range i) σ1 σ1 rfl rfl
    unfold stD
    rw [p1,p2,List.filter_filter]
    congr 3
    rw [tC (i:=i) (Nat.le_of_lt hi) ?_]
    ·apply List.filter_congr
     intro j hj
     rw [List.mem_range] at hj
     have hjl:j<ds.length:=by omega
     simp only [List.getElem?_eq_getElem hjl]
     cases hw:ds[j].wr with
     | none=>simp
     | some x =>
      obtain ⟨k',ho'⟩:=x
      simp only
      cases hk:decide (k'=k) with
      | false=>simp
      | true =>
       have hk:=of_decide_eq_true hk
       subst hk
       obtain ⟨oj,hoj,_,_,_,hwj⟩:=h.at_ hjl
       obtain ⟨w1,w2⟩:=hwj k' ho' hw
       have hm:=h.order hdc hi hjl (by omega) ho hoj hDi hpre (.inr (.inl ⟨k',hts,w2,w1⟩))
       rw [hm]
       simp [hj]
    ·intro j hj hq
     simp only [List.getElem?_eq_getElem hj,Bool.and_eq_true] at hq
     rcases Nat.lt_trichotomy j i with hlt | heq | hgt
     ·exact hlt
     ·subst heq; rw [hDi] at hq; exact absurd hq.2 (by simp)
     ·exfalso
      cases hw:ds[j].wr with
      | none=>rw [hw] at hq; simp at hq
      | some x =>
       obtain ⟨k',ho'⟩:=x
       rw [hw] at hq
       have hk:k'=k:=of_decide_eq_true hq.1
       subst hk
       obtain ⟨oj,hoj,_,_,_,hwj⟩:=h.at_ hj
       obtain ⟨w1,w2⟩:=hwj k' ho' hw
       have hm:=h.order hdc hi hj (by omega) ho hoj hDi hpre (.inr (.inl ⟨k',hts,w2,w1⟩))
       rw [hm] at hq
       simp at hq
       omega
  rw [hheap]
  exact hst
 ·cases hst
theorem Drawn.next (h:Drawn tab T ops base σ1 ds ts) {D D':Nat→Bool} (hdc:DC ops D) {i:Nat} (hi:i<ds.length) (hDi:D i=false) (hpre : ∀ q,((cI ops.toList []).getD i 0).testBit q=true→D q=true)
  (hD' : ∀ j,D' j=(D j||decide (j=i))):stD ds D' σ1=ds[i].app (stD ds D σ1):=by
 obtain ⟨o,ho,_,_,hdst,hwr⟩:=h.at_ hi
 have henv:(stD ds D' σ1).env=(ds[i].app (stD ds D σ1)).env:=by
  have hlen : ∀ L:List Nat,(bE ds L σ1).env.length=σ1.env.length:=fun L=>by
   suffices ∀ (L:List Nat) (σ:Sg),(bE ds L σ).env.length=σ.env.length from this L σ1
   intro L
   induction L with
   | nil=>intro σ; rfl
   | cons j L ih=>intro σ; rw [cq,ih]; split; exact m8 _ _; rfl
  refine Od (d := .unk) (by rw [m8]; unfold stD; rw [hlen,hlen]) (fun t => ?_)
  let p:Nat→Bool:=fun j=>match ds[j]? with | some d=>decide (d.dst=some t) | none=>false
  have p1:=eM ds t p (fun j d h1 h2=>by simp [p,h1,h2]) ((List.range ds.length).filter D') σ1 σ1 rfl rfl
  have p2:=eM ds t p (fun j d h1 h2=>by simp [p,h1,h2]) ((List.range ds.length).filter D) σ1 σ1 rfl rfl
  rw [List.filter_filter] at p1 p2
  unfold stD
  by_cases hdt:ds[i].dst=some t
  ·have hsn:(List.range ds.length).filter (fun j=>p j&&D' j)=(List.range ds.length).filter (fun j=>p j&&D j)++[i]:=by
    refine An hi (fun j hj hq => ?_) (fun j hj => ?_)
    ·simp only [p,List.getElem?_eq_getElem hj,Bool.and_eq_true,decide_eq_true_eq] at hq
     have hne:j≠i:=fun e=>by subst e; rw [hDi] at hq; exact absurd hq.2 (by simp)
     obtain ⟨oj,hoj,_,_,hd,_⟩:=h.at_ hj
     have hm:=h.order hdc hi hj hne ho hoj hDi hpre (.inl ⟨t,by rw [← hd]; exact hq.1,.inr (by rw [← hdst]; exact hdt)⟩)
     rw [hm] at hq
     simpa using hq.2
    ·rw [hD']
     by_cases e:j=i
     ·subst e; simp [p,hi,hdt,hDi]
     ·simp [e]
   rw [p1,hsn,um]
   simp only [cq,List.getElem?_eq_getElem hi]
   show (ds[i].app _).env.getD t .unk=_
   simp only [Dl.app,gV,hdt,ga,hlen,if_true]
  ·have hsm:(List.range ds.length).filter (fun j=>p j&&D' j)=(List.range ds.length).filter (fun j=>p j&&D j):=by
    refine Ao fun j hj => ?_
    rw [hD']
    by_cases e:j=i
    ·subst e; simp [p,hi,hdt]
    ·simp [e]
   rw [p1,hsm, ← p2]
   simp only [Dl.app,gV]
   cases hd:ds[i].dst with
   | none=>rfl
   | some t' =>
    have hne:t'≠t:=fun e=>hdt (by rw [hd,e])
    simp only [ga,if_neg hne]
 have hheap:(stD ds D' σ1).heap=(ds[i].app (stD ds D σ1)).heap:=by
  refine Od (d := .none) (by rw [j8]; unfold stD; rw [bW,bW]) (fun k => ?_)
  let p:Nat→Bool:=fun j=>match ds[j]? with | some d=>(match d.wr with | some x=>decide (x.1=k) | none=>false) | none=>false
  have p1:=dJ ds k p (fun j d ho h1 h2=>by simp [p,h1,h2]) ((List.range ds.length).filter D') σ1 σ1 rfl rfl
  have p2:=dJ ds k p (fun j d ho h1 h2=>by simp [p,h1,h2]) ((List.range ds.length).filter D) σ1 σ1 rfl rfl
  rw [List.filter_filter] at p1 p2
  unfold stD
  by_cases hdt : ∃ ho',ds[i].wr=some (k,ho')
  ·obtain ⟨ho',hw⟩:=hdt
   have hsn:(List.range ds.length).filter (fun j=>p j&&D' j)=(List.range ds.length).filter (fun j=>p j&&D j)++[i]:=by
    refine An hi (fun j hj hq => ?_) (fun j hj => ?_)
    ·simp only [p,List.getElem?_eq_getElem hj,Bool.and_eq_true] at hq
     have hne:j≠i:=fun e=>by subst e; rw [hDi] at hq; exact absurd hq.2 (by simp)
     obtain ⟨oj,hoj,_,_,_,hwj⟩:=h.at_ hj
     cases hw2:ds[j].wr with
     | none=>rw [hw2] at hq; simp at hq
     | some x =>
      obtain ⟨k',ho2⟩:=x
      rw [hw2] at hq
      have hk:k'=k:=of_decide_eq_true hq.1
      subst hk
      obtain ⟨w1,w2⟩:=hwj k' ho2 hw2
      have hm:=h.order hdc hi hj hne ho hoj hDi hpre (.inr (.inl ⟨k',(hwr k' ho' hw).2,w2,w1⟩))
      rw [hm] at hq
      simpa using hq.2
    ·rw [hD']
     by_cases e:j=i
     ·subst e; simp [p,hi,hw,hDi]
     ·simp [e]
   rw [p1,hsn,um]
   simp only [cq,List.getElem?_eq_getElem hi]
   show (ds[i].app _).heap.getD k .none=_
   simp only [Dl.app,Cj,hw,ga,bW,if_true]
  ·have hsm:(List.range ds.length).filter (fun j=>p j&&D' j)=(List.range ds.length).filter (fun j=>p j&&D j):=by
    refine Ao fun j hj => ?_
    rw [hD']
    by_cases e:j=i
    ·subst e
     have:p j=false:=by
      simp only [p,List.getElem?_eq_getElem hj]
      cases hw2:ds[j].wr with
      | none=>rfl
      | some x =>
       obtain ⟨k',ho2⟩:=x
       simp only [decide_eq_false_iff_not]
       exact fun e=>hdt ⟨ho2,by rw [hw2,e]⟩
     simp [this]
    ·simp [e]
   rw [p1,hsm, ← p2]
   simp only [Dl.app,Cj]
   cases hd:ds[i].wr with
   | none=>rfl
   | some x =>
    obtain ⟨k',ho2⟩:=x
    have hne:k'≠k:=fun e=>hdt ⟨ho2,by rw [hd,e]⟩
    simp only [ga,if_neg hne]
 cases hs:stD ds D' σ1 with
 | mk e1 h1 =>
  cases hs2:ds[i].app (stD ds D σ1) with
  | mk e2 h2 =>
   rw [hs,hs2] at henv hheap
   simp only at henv hheap
   rw [henv,hheap]
end
end Go.Proofs.YtboikinjlmjgjaaGreat.Abs
