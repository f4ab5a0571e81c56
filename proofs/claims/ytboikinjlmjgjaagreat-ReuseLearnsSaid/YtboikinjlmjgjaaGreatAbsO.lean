/- Regions whose order is open are sound. -/
import Derived.Test.YtboikinjlmjgjaaGreatAbsN
namespace Go.Proofs.YtboikinjlmjgjaaGreat.Abs
open Go Go.RowKit
theorem rK : ∀ (l:List Oper) (acc:List Nat) (i:Nat),i<acc.length→(cI l acc).getD i 0=acc.getD i 0
 | [],acc,i,_=>by simp [cI]
 | o::l,acc,i,h=>by
  rw [cI,rK l _ i (by simp; omega)]
  simp [List.getD,List.getElem?_append_left h]
theorem N3 {acc:List Nat} : ∀ (es:List Edge) (s q:Nat),(es.foldl (fun s e=>if Region.binds .any e then s ||| 2 ^ e.on ||| acc.getD e.on 0 else s) s).testBit q=true →
  s.testBit q=true ∨ ∃ e∈es,Region.binds .any e=true∧(q=e.on∨(acc.getD e.on 0).testBit q=true)
 | [],s,q,h => .inl h
 | e::es,s,q,h=>by
  simp only [List.foldl_cons] at h
  rcases N3 es _ q h with h1 | ⟨e',he',hb,hq⟩
  ·split at h1
   ·rename_i hb
    simp only [Nat.testBit_or,Bool.or_eq_true] at h1
    rcases h1 with (h1 | h1) | h1
    ·exact .inl h1
    ·refine .inr ⟨e,by simp,hb,.inl ?_⟩
     rw [Nat.testBit_two_pow] at h1
     exact (of_decide_eq_true h1).symm
    ·exact .inr ⟨e,by simp,hb,.inr h1⟩
   ·exact .inl h1
  ·exact .inr ⟨e',by simp [he'],hb,hq⟩
theorem xQ : ∀ (l:List Oper) (acc:List Nat) (i:Nat) (o:Oper),l[i]? = some o→iG acc.length l=true → ∀ q,((cI l acc).getD (acc.length+i) 0).testBit q=true →
  ∃ e∈o.after.toList,Region.binds .any e=true∧(q=e.on∨((cI l acc).getD e.on 0).testBit q=true)
 | [],acc,i,o,h,_,_,_=>by simp at h
 | x::l,acc,0,o,h,hok,q,hq=>by
  simp at h
  subst h
  simp only [iG,Bool.and_eq_true,List.all_eq_true] at hok
  rw [cI,rK l _ _ (by simp)] at hq
  simp only [Nat.add_zero,List.getD,List.getElem?_append_right (Nat.le_refl _),Nat.sub_self,List.getElem?_cons_zero,Option.getD_some] at hq
  rcases N3 _ _ _ hq with h1 | ⟨e,he,hb,hx⟩
  ·simp at h1
  ·refine ⟨e,he,hb,hx.imp id fun hx => ?_⟩
   have hlt:e.on<acc.length:=by have:=hok.1 e he; simpa [hb] using this
   rw [cI,rK l _ _ (by simp; omega)]
   have:=hlt
   simpa [List.getD,List.getElem?_append_left this] using hx
 | x::l,acc,i+1,o,h,hok,q,hq=>by
  simp only [iG,Bool.and_eq_true] at hok
  simp at h
  have:=xQ l (acc++[x.after.toList.foldl (fun s e=>if Region.binds .any e then s ||| 2 ^ e.on ||| acc.getD e.on 0 else s) 0]) i o h (by simpa using hok.2) q (by
   rw [cI] at hq
   rw [show (acc++[x.after.toList.foldl (fun s e=>if Region.binds .any e then s ||| 2 ^ e.on ||| acc.getD e.on 0 else s) 0]).length+i=acc.length+(i+1) by simp; omega]
   exact hq)
  rw [cI]
  exact this
section
variable {P:Program} {tab:Tab} {T:Specs} {ck:Callk} {B:Bd} {lo:Nat} {w0:World} {St0:Sb} {fs:List (List AV×List Value)}
def bE (ds:List Dl) (L:List Nat) (σ:Sg):Sg:=L.foldl (fun s j=>match ds[j]? with | some d=>d.app s | none=>s) σ
theorem m8 (d:Dl) (σ:Sg):(d.app σ).env.length=σ.env.length:=MG _ _ _
theorem j8 (d:Dl) (σ:Sg):(d.app σ).heap.length=σ.heap.length:=qH _ _
theorem cq (ds:List Dl) (j:Nat) (L:List Nat) (σ:Sg):bE ds (j::L) σ=bE ds L (match ds[j]? with | some d=>d.app σ | none=>σ):=rfl
theorem um (ds:List Dl) (L L':List Nat) (σ:Sg):bE ds (L++L') σ=bE ds L' (bE ds L σ):=by simp [bE]
theorem bW (ds:List Dl) : ∀ (L:List Nat) (σ:Sg),(bE ds L σ).heap.length=σ.heap.length
 | [],σ=>rfl
 | j::L,σ=>by
  rw [cq,bW ds L]
  split
  ·exact j8 _ _
  ·rfl
theorem ga {α:Type} (l:List α) (i j:Nat) (x d:α):(l.set i x).getD j d=if i=j then (if i<l.length then x else d) else l.getD j d:=by
 simp only [List.getD,List.getElem?_set]
 split
 ·split <;> simp
 ·rfl
theorem eM (ds:List Dl) (t:Nat) (p:Nat→Bool) (hp : ∀ j d,ds[j]? = some d→d.dst=some t→p j=true) : ∀ (L:List Nat) (σ σ':Sg),σ.env.getD t .unk=σ'.env.getD t .unk→σ.env.length=σ'.env.length →
  (bE ds L σ).env.getD t .unk=(bE ds (L.filter p) σ').env.getD t .unk
 | [],σ,σ',h,_=>h
 | j::L,σ,σ',h,hl=>by
  rw [cq]
  cases hj:ds[j]? with
  | none =>
   simp only
   cases hpj:p j with
   | true=>rw [List.filter_cons_of_pos hpj,cq,hj]; exact eM ds t p hp L σ σ' h hl
   | false=>rw [List.filter_cons_of_neg (by simp [hpj])]; exact eM ds t p hp L σ σ' h hl
  | some d =>
   simp only
   cases hpj:p j with
   | true =>
    rw [List.filter_cons_of_pos hpj,cq,hj]
    refine eM ds t p hp L _ _ ?_ (by simp [m8,hl])
    simp only [Dl.app,gV]
    cases hd:d.dst with
    | none=>exact h
    | some t'=>simp only [ga,hl,h]
   | false =>
    rw [List.filter_cons_of_neg (by simp [hpj])]
    refine eM ds t p hp L _ _ ?_ (by simp [m8,hl])
    simp only [Dl.app,gV]
    cases hd:d.dst with
    | none=>exact h
    | some t' =>
     have hne:t'≠t:=fun e=>by subst e; have:=hp j d hj hd; rw [hpj] at this; cases this
     simp only [ga,if_neg hne,h]
theorem dJ (ds:List Dl) (k:Nat) (p:Nat→Bool) (hp : ∀ j d ho,ds[j]? = some d→d.wr=some (k,ho)→p j=true) : ∀ (L:List Nat) (σ σ':Sg),σ.heap.getD k .none=σ'.heap.getD k .none→σ.heap.length=σ'.heap.length →
  (bE ds L σ).heap.getD k .none=(bE ds (L.filter p) σ').heap.getD k .none
 | [],σ,σ',h,_=>h
 | j::L,σ,σ',h,hl=>by
  rw [cq]
  cases hj:ds[j]? with
  | none =>
   simp only
   cases hpj:p j with
   | true=>rw [List.filter_cons_of_pos hpj,cq,hj]; exact dJ ds k p hp L σ σ' h hl
   | false=>rw [List.filter_cons_of_neg (by simp [hpj])]; exact dJ ds k p hp L σ σ' h hl
  | some d =>
   simp only
   cases hpj:p j with
   | true =>
    rw [List.filter_cons_of_pos hpj,cq,hj]
    refine dJ ds k p hp L _ _ ?_ (by simp [j8,hl])
    simp only [Dl.app,Cj]
    cases hd:d.wr with
    | none=>exact h
    | some x=>obtain ⟨k',ho⟩:=x; simp only [ga,hl,h]
   | false =>
    rw [List.filter_cons_of_neg (by simp [hpj])]
    refine dJ ds k p hp L _ _ ?_ (by simp [j8,hl])
    simp only [Dl.app,Cj]
    cases hd:d.wr with
    | none=>exact h
    | some x =>
     obtain ⟨k',ho⟩:=x
     have hne:k'≠k:=fun e=>by subst e; have:=hp j d ho hj hd; rw [hpj] at this; cases this
     simp only [ga,if_neg hne,h]
theorem pe {ops:List Oper} {base:Nat} : ∀ (l:List Oper) (i:Nat) (σ:Sg) (ds:List Dl) (ts:List (Option Nat)),vB tab T ops base i l σ=some (ds,ts)→ds.length=ts.length∧ds.length≤l.length∧l.length≤ds.length+1 ∧
  ∀ j (hj:j<ds.length),∃ o,l[j]? = some o∧ua tab T ops (base+(i+j)) o (bE ds (List.range j) σ)=some ds[j] ∧
   ts[j]? = some (match gOf (bE ds (List.range j) σ).env ops o with | some g=>kO T o (base+(i+j)) g (cX (bE ds (List.range j) σ).env o) | none=>none)
 | [],i,σ,ds,ts,h=>by
  simp only [vB,Option.some.injEq,Prod.mk.injEq] at h
  obtain ⟨rfl,rfl⟩:=h
  exact ⟨rfl,by simp,by simp,fun j hj=>by simp at hj⟩
 | o::l,i,σ,ds,ts,h=>by
  simp only [vB] at h
  split at h
  ·rename_i d hd
   split at h
   ·rename_i ds' ts' hr
    simp only [Option.some.injEq,Prod.mk.injEq] at h
    obtain ⟨rfl,rfl⟩:=h
    obtain ⟨h1,h2,h3,h4⟩:=pe l (i+1) (d.app σ) ds' ts' hr
    refine ⟨by simp [h1],by simp; omega,by simp; omega,fun j hj => ?_⟩
    cases j with
    | zero=>exact ⟨o,rfl,hd,rfl⟩
    | succ j =>
     obtain ⟨o',g1,g2,g3⟩:=h4 j (by simpa using hj)
     have hdone:bE (d::ds') (List.range (j+1)) σ=bE ds' (List.range j) (d.app σ):=by
      rw [List.range_succ_eq_map,cq]
      simp only [List.getElem?_cons_zero,bE,List.foldl_map,List.getElem?_cons_succ,Nat.succ_eq_add_one]
     refine ⟨o',by simpa using g1, ?_, ?_⟩
     ·rw [hdone,show i+(j+1)=i+1+j by omega]; simpa using g2
     ·rw [hdone,show i+(j+1)=i+1+j by omega]; simpa using g3
   ·cases h
  ·split at h
   ·simp only [Option.some.injEq,Prod.mk.injEq] at h
    obtain ⟨rfl,rfl⟩:=h
    exact ⟨rfl,by simp,by simp,fun j hj=>by simp at hj⟩
   ·cases h
theorem Mk {ops:List Oper} {base:Nat} {k:Sg→Option AV} {r:AV} : ∀ (l:List Oper) (i:Nat) (σ:Sg) (ds:List Dl) (ts:List (Option Nat)),vB tab T ops base i l σ=some (ds,ts)→dq tab T ck ops base i l σ k=some r →
  (∀ d∈ds,d.chk=true)∧(ds.length=l.length→k (bE ds (List.range ds.length) σ)=some r) ∧
  (l.length=ds.length+1 → ∃ o,l[ds.length]? = some o∧((∃ fr out heap',M5 tab o (bE ds (List.range ds.length) σ) fr=some (true,out,heap')∧k ⟨gV (bE ds (List.range ds.length) σ).env o.dst out,heap'⟩=some r) ∨
   ∃ f args,Ky o (bE ds (List.range ds.length) σ).env=some (f,args) ∧
   ck.call f args (bE ds (List.range ds.length) σ).heap (fun res heap'=>k ⟨gV (bE ds (List.range ds.length) σ).env o.dst res,heap'⟩)=some r))
 | [],i,σ,ds,ts,h,hr=>by
  simp only [vB,Option.some.injEq,Prod.mk.injEq] at h
  obtain ⟨rfl,rfl⟩:=h
  exact ⟨by simp,fun _=>hr,fun h=>by simp at h⟩
 | o::l,i,σ,ds,ts,h,hr=>by
  simp only [vB] at h
  simp only [dq] at hr
  split at h
  ·rename_i d hd
   simp only [hd] at hr
   split at h
   ·rename_i ds' ts' htr
    simp only [Option.some.injEq,Prod.mk.injEq] at h
    obtain ⟨rfl,rfl⟩:=h
    cases hc:d.chk with
    | false=>rw [hc] at hr; cases hr
    | true =>
     rw [hc] at hr
     obtain ⟨h1,h2,h3⟩:=Mk l (i+1) (d.app σ) ds' ts' htr hr
     have hdone:bE (d::ds') (List.range (ds'.length+1)) σ=bE ds' (List.range ds'.length) (d.app σ):=by
      rw [List.range_succ_eq_map,cq]
      simp only [List.getElem?_cons_zero,bE,List.foldl_map,List.getElem?_cons_succ,Nat.succ_eq_add_one]
     refine ⟨fun x hx => ?_,fun hl => ?_,fun hl => ?_⟩
     ·rcases List.mem_cons.1 hx with rfl | hx
      ·exact hc
      ·exact h1 x hx
     ·simp only [List.length_cons]
      rw [hdone]
      exact h2 (by simpa using hl)
     ·simp only [List.length_cons]
      rw [hdone]
      obtain ⟨o',q1,q2⟩:=h3 (by simpa using hl)
      exact ⟨o',by simpa using q1,q2⟩
   ·cases h
  ·rename_i hd
   simp only [hd] at hr
   split at h
   ·simp only [Option.some.injEq,Prod.mk.injEq] at h
    obtain ⟨rfl,rfl⟩:=h
    refine ⟨by simp,fun hl=>by simp at hl,fun _ => ?_⟩
    split at hr
    ·rename_i b out heap' hm
     cases b with
     | false=>cases hr
     | true=>exact ⟨o,rfl,.inl ⟨_,out,heap',hm,hr⟩⟩
    ·split at hr
     ·rename_i f args he
      exact ⟨o,rfl,.inr ⟨f,args,he,hr⟩⟩
     ·cases hr
   ·cases h
end
end Go.Proofs.YtboikinjlmjgjaaGreat.Abs
