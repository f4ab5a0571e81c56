/- slices.SortFunc by the kit's contract, as a contract of a function that turns a row in place. -/
import Derived.Test.YtboikinjlmjgjaaGreatAbsX
import Derived.Shelf.SlSortCmp.InsertionK
namespace Go.Proofs.YtboikinjlmjgjaaGreat.Abs
open Go Go.RowKit Go.Sort Go.Proofs
structure TotalCmp {α:Type} (cmp:α→α→Int):Prop where
 tot : ∀ x y,cmp x y≤0∨cmp y x≤0
 trans : ∀ x y z,cmp x y≤0→cmp y z≤0→cmp x z≤0
 anti : ∀ x y,cmp x y≤0→cmp y x≤0→x=y
 neg : ∀ x y,cmp x y<0 ↔ ¬ cmp y x≤0
theorem hU {α:Type} (cmp:α→α→Int) (l:List α):(dv cmp l).Perm l:=List.mergeSort_perm _ _
theorem vN {α:Type} {cmp:α→α→Int} (h:TotalCmp cmp) (l:List α):(dv cmp l).Pairwise (fun a b=>cmp a b≤0):=by
 have:=List.pairwise_mergeSort (le:=fun a b=>decide (cmp a b≤0)) (by
  intro a b c h1 h2
  simp only [decide_eq_true_eq] at h1 h2 ⊢
  exact h.trans a b c h1 h2) (by
  intro a b
  simp only [Bool.or_eq_true,decide_eq_true_eq]
  exact h.tot a b) l
 unfold dv
 exact this.imp (fun h=>by simpa using h)
theorem vM {α:Type} {cmp:α→α→Int} (h:TotalCmp cmp) {l l':List α} (hp:l'.Perm l) (hs:l'.Pairwise (fun a b=>cmp a b≤0)):l'=dv cmp l :=
 List.Perm.eq_of_pairwise (le:=fun a b=>cmp a b≤0) (fun a b _ _ h1 h2=>h.anti a b h1 h2) hs (vN h l) (hp.trans (hU cmp l).symm)
def ajS (P:Program) (fS k:Nat):Prop := ∀ {α:Type} [Inhabited α] (enc:α→List Value) (_ : ∀ x,(enc x).length=k) (_ : ∀ x,∀ v∈enc x,v.oneCell'=true) (cf:α→α→Int) (_:SWO (ltOf cf)) (g:Nat) (cb:Array Value) (blk off cap:Nat) (d:Array α) (w:World)
  (_ : ∀ args w,(callFunc g args).run P w = .ok (.enter g args) w) (_:CmpLays P g cb enc k cf blk off d.size w) (_:HoldsK enc k w blk off d) (_:blk<w.heap.size) (_:d.size<4611686018427387904),
  Calls P fS #[.slice (some ⟨blk,off,none⟩) d.size cap,.func (.func g) #[] cb] w fun e w' =>
   e = .returned (.tuple #[]) ∧ ∃ d' n os,PermIn 0 d.size d d'∧SortedIn (ltOf cf) 0 d.size d'∧w'=sortWorldK enc k w blk off n d' os
def acF (P:Program) (fS:Nat):Prop := ∀ (p:Option Addr) (cap:Nat) (fv:Value) (w:World),Calls P fS #[.slice p 0 cap,fv] w fun e w'=>e = .returned (.tuple #[])∧w'=w
section
variable {P:Program} {B:Bd} {w0:World} {St0:Sb} {c:Gh}
structure Gd (τ:Ty) where
 g:τ.den→Bool
 z:g (zero τ)=true
structure Held (w:World) (St:Sb) (τ:Ty) (good:Gd τ) where
 x:τ.den
 cs:List Value
 rep:Rep w St (toD τ x) cs
 ok:good.g x=true
instance heldInh {w:World} {St:Sb} {τ:Ty} {good:Gd τ}:Inhabited (Held w St τ good):=⟨⟨zero τ,zl τ,cU τ,good.z⟩⟩
theorem GG {w:World} {St:Sb} {τ:Ty} {good:Gd τ} : ∀ {l:List τ.den} {ds:List Value},(∀ x∈l,good.g x=true)→Rep w St (bA (toD τ) l) ds → ∃ hs:List (Held w St τ good),hs.map (·.x)=l∧(hs.map (·.cs)).flatten=ds
 | [],ds,_,h=>by have h:ds=[]:=h; subst h; exact ⟨[],rfl,rfl⟩
 | x::l,ds,hgd,h=>by
  obtain ⟨c1,c2,rfl,h1,h2⟩:=h
  obtain ⟨hs,e1,e2⟩:=GG (fun y hy=>hgd y (List.mem_cons_of_mem _ hy)) h2
  exact ⟨⟨x,c1,h1,hgd x (List.mem_cons_self ..)⟩::hs,by simp [e1],by simp [e2]⟩
theorem yC {w:World} {St:Sb} {τ:Ty} {good:Gd τ} : ∀ (hs:List (Held w St τ good)),Rep w St (bA (toD τ) (hs.map (·.x))) (hs.map (·.cs)).flatten
 | []=>rfl
 | h::hs=>⟨h.cs,_,rfl,h.rep,yC hs⟩
theorem Eb {w:World} {St:Sb} {τ:Ty} {good:Gd τ} (hpos:0<τ.size) (d:Array (Held w St τ good)):(flatK (fun h:Held w St τ good=>h.cs) τ.size d).toList=(d.toList.map (·.cs)).flatten:=by
 have key : ∀ (l:List (Held w St τ good)) (j:Nat),j<l.length * τ.size→((l.map (·.cs)).flatten)[j]? = some ((l.toArray[j / τ.size]!).cs[j % τ.size]!):=by
  intro l
  induction l with
  | nil=>intro j hj; simp at hj
  | cons h l ih =>
   intro j hj
   have hs:=h.rep.size
   simp only [List.map_cons,List.flatten_cons]
   by_cases hlt:j<τ.size
   ·rw [List.getElem?_append_left (by omega),Nat.mod_eq_of_lt hlt,Nat.div_eq_of_lt hlt]
    simp [getElem!_pos,hs,hlt]
   ·rw [List.getElem?_append_right (by omega),hs,ih (j-τ.size) (by simp only [List.length_cons,Nat.succ_mul] at hj; omega), ← Nat.mod_eq_sub_mod (by omega)]
    have hdiv:j / τ.size=(j-τ.size) / τ.size+1:=by
     rw [← Nat.add_div_right _ hpos,Nat.sub_add_cancel (by omega)]
    rw [hdiv]
    have hlt2:(j-τ.size) / τ.size<l.length:=by
     rw [Nat.div_lt_iff_lt_mul hpos]
     simp only [List.length_cons,Nat.succ_mul] at hj; omega
    simp [getElem!_pos,hlt2]
 have hflen : ∀ (l:List (Held w St τ good)),((l.map (·.cs)).flatten).length=l.length * τ.size:=fun l=>by
  have:=bG (yC l)
  simpa using this
 apply List.ext_getElem?
 intro j
 by_cases hj:j<d.size * τ.size
 ·rw [key d.toList j (by simpa using hj)]
  have:(flatK (fun h:Held w St τ good=>h.cs) τ.size d).toList[j]? = some ((flatK (fun h:Held w St τ good=>h.cs) τ.size d)[j]!):=by
   have hlt:j<(flatK (fun h:Held w St τ good=>h.cs) τ.size d).size:=by rw [size_flatK]; exact hj
   rw [getElem!_pos _ j hlt,Array.getElem?_toList,Array.getElem?_eq_getElem hlt]
  rw [this,get_flatK _ _ _ _ hj]
 ·rw [List.getElem?_eq_none (by rw [Array.length_toList,size_flatK]; omega),List.getElem?_eq_none (by rw [hflen]; simp; omega)]
theorem O8 {w w':World} (hb:Below w.heap.size w w') (hd:w.drawn≤w'.drawn) : ∃ q os,w'=grow (w.drewN q) os:=by
 refine ⟨w'.drawn-w.drawn,w'.heap.extract w.heap.size w'.heap.size, ?_⟩
 obtain ⟨h1,t1,d1,o1,p1⟩:=w'
 obtain ⟨h2,t2,d2,o2,p2⟩:=w
 obtain ⟨q1,q2,q3,q4,q5⟩:=hb
 simp only at q1 q2 q3 q4 q5 hd
 simp only [grow,World.drewN,World.mk.injEq]
 refine ⟨?_,q2,by omega,q1,q3⟩
 apply Array.ext_getElem?
 intro i
 by_cases hi:i<h2.size
 ·rw [Array.getElem?_append_left hi]; exact q5 i hi
 ·rw [Array.getElem?_append_right (by omega)]
  simp only [Array.getElem?_extract]
  by_cases hi2:i<h1.size
  ·rw [if_pos (by omega),show h2.size+(i-h2.size)=i by omega]
  ·rw [if_neg (by omega),Array.getElem?_eq_none (by omega)]
theorem MF (enc:Value→Value) (w:World) (blk off:Nat) (F:Array Value) {cur:Array Value} {e:TypeId} {fr:Nat×Nat} (h:w.heap[blk]? = some (.cells cur e fr)):(putRow enc w blk off F).heap[blk]? = some (.cells (putCells enc off F cur) e fr):=by
 unfold putRow mapBlock
 simp [Array.getElem?_modify,h,onCells]
theorem mK (enc:Value→Value) (w:World) (blk off:Nat) (F:Array Value) {b:Nat} (h:b≠blk):(putRow enc w blk off F).heap[b]? = w.heap[b]? := by
 unfold putRow mapBlock
 simp [Array.getElem?_modify,Ne.symm h]
theorem E1 (off:Nat) (F cur:Array Value) (h:off+F.size≤cur.size):(putCells id off F cur).toList=cur.toList.take off++F.toList++cur.toList.drop (off+F.size):=by
 apply List.ext_getElem?
 intro j
 simp only [putCells,List.getElem?_append,List.length_take,List.length_append,Array.length_toList,List.getElem?_take,List.getElem?_drop]
 by_cases h1:j<off
 ·repeat (first | rw [if_pos (by omega)] | rw [if_neg (by omega)])
  have : ¬ (off≤j∧j<off+F.size):=by omega
  have hj:j<cur.size:=by omega
  simp [this,hj]
 ·by_cases h2:j<off+F.size
  ·have hc:off≤j∧j<off+F.size:=by omega
   have hj:j<cur.size:=by omega
   have hF:j-off<F.size:=by omega
   rw [if_pos (by omega),if_neg (by omega),show j-min off cur.size=j-off by omega]
   simp [hc,hj,hF,getElem!_pos]
  ·have hc : ¬ (off≤j∧j<off+F.size):=by omega
   rw [if_neg (by omega),show off+F.size+(j-(min off cur.size+F.size))=j by omega]
   by_cases hj:j<cur.size
   ·simp [hc,hj]
   ·simp [hj]
theorem Cg {fS g:FuncId} {τ:Ty} {e:TypeId} {cmp:τ.den→τ.den→Int} {good:τ.den→Bool} (hz:good (zero τ)=true) (hSt:τ.isStruct=true) (hpos:0<τ.size) (hcS:dj P fS) (hS:ajS P fS τ.size) (hN:acF P fS) (ho:TotalCmp cmp)
  (hcmp : ∀ x y,good x=true→good y=true→nB P g [⟨τ,x⟩,⟨τ,y⟩] (.val (.int .i64) (cmp x y))):zk P fS (Mb τ e g cmp good):=by
 intro args heap out heap' h
 refine ⟨hcS,fun B w0 St0 c hI hh vs hr => ?_⟩
 unfold Mb at h
 split at h
 ·rename_i k v lo hi g'
  split at h
  ·rename_i hg
   have hg:=Nat.eq_of_beq_eq_true hg
   subst hg
   split at h
   ·rename_i τ' e' v' l hk
    split at h
    ·rename_i q1
     subst q1
     split at h
     ·rename_i q2
      subst q2
      split at h
      ·rename_i l2 hc
       obtain ⟨et,hl2⟩:=cast?_some hc
       injection et with et
       subst et
       have hl2:l2=l:=hl2
       subst hl2
       simp only [Option.some.injEq,Prod.mk.injEq,Bool.and_eq_true,decide_eq_true_eq,List.all_eq_true] at h
       obtain ⟨⟨hlim,hgood⟩,rfl,rfl⟩:=h
       rw [← hh] at hk ⊢
       obtain ⟨u,u',rfl,h1,h2⟩ : ∃ u u',vs=[u,u']∧RA c (.msl k v' lo hi) [u]∧RA c (.fn g .pnil) [u']:=by
        match vs,hr with
        | [u,u'],⟨h1,h2,_⟩=>exact ⟨u,u',rfl,h1,h2⟩
       obtain ⟨cs,e2,hcs,_⟩:=h2
       have hcs:cs=[]:=hcs
       subst hcs
       simp only [List.cons.injEq,and_true] at e2
       subst e2
       have hlive:=dD h1 hk
       have nothing:hi-lo=0→lo≤hi→hi≤l2.length→(∃ A cp,u = .slice A 0 cp)→Calls P fS #[u,.func (.func g) #[] #[]] c.w fun e w' => ∃ v c',e = .returned v∧c'.heap=c.heap.set k (.mrow τ' e' v' (l2.take lo++dv cmp ((l2.take hi).drop lo)++l2.drop hi))∧(c.heap.set k (.mrow τ' e' v' (l2.take lo++dv cmp ((l2.take hi).drop lo)++l2.drop hi))).length=c.heap.length∧c'.w=w'∧Inv B w0 St0 c'∧Ev c c'∧RA c' (.tup .pnil) [v]:=by
        rintro h0 hle hhl ⟨A,cp,rfl⟩
        refine (hN A cp _ c.w).mono ?_
        rintro e w' ⟨rfl,rfl⟩
        have hsub:(l2.take hi).drop lo=[]:=by
         apply List.eq_nil_of_length_eq_zero; simp; omega
        have heq:l2.take lo++dv cmp ((l2.take hi).drop lo)++l2.drop hi=l2:=by
         rw [hsub,show hi=lo by omega]; simp [dv]
        rw [heq]
        exact ⟨_,c,rfl,(eE hk).symm,by simp,rfl,hI,Ev.refl c,⟨[],rfl,rfl,rfl⟩⟩
       show Calls P fS #[u,.func (.func g) #[] #[]] c.w _
       rcases hlive with ⟨g1,rfl,rfl,rfl⟩ | ⟨gb,n,cap,A,g1,g2,g3,rfl,g5⟩
       ·exact nothing rfl (Nat.le_refl _) (Nat.zero_le _) ⟨none,0,rfl⟩
       ·obtain ⟨rfl,cur,xs,hgb,hnc,hcm,hcs,htk,hrp,hns,hB⟩:=dB hI hk g1
        by_cases h0:hi-lo=0
        ·exact nothing h0 g2 g3 ⟨A,cap-lo,by rw [h0]⟩
        ·have hA:A=some ⟨gb,lo * τ'.size,none⟩:=by
          rcases g5 with g5 | g5
          ·exact g5
          ·omega
         subst hA
         have hmid:=im lo (by simp; omega) (eO hi g3 hrp)
         obtain ⟨hs,hs1,hs2⟩:=GG (good:=⟨good,hz⟩) (fun x hx=>hgood x (List.mem_of_mem_take (List.mem_of_mem_drop hx))) hmid
         have hlen:hs.length=hi-lo:=by
          have:=congrArg List.length hs1
          simp at this; omega
         have hlt:=(Array.getElem?_eq_some_iff.1 hgb).1
         have hF:=Eb hpos hs.toArray
         have hhold:HoldsK (fun h:Held c.w c.St τ' ⟨good,hz⟩=>h.cs) τ'.size c.w gb (lo * τ'.size) hs.toArray:=by
          intro j hj
          have hj':=hj
          rw [size_flatK] at hj'
          simp only [List.size_toArray,hlen] at hj'
          have hval:(flatK (fun h:Held c.w c.St τ' ⟨good,hz⟩=>h.cs) τ'.size hs.toArray)[j]! = ((flatK (fun h:Held c.w c.St τ' ⟨good,hz⟩=>h.cs) τ'.size hs.toArray).toList)[j]'(by simpa using hj):=by rw [getElem!_pos _ j hj]; rfl
          have hget:((flatK (fun h:Held c.w c.St τ' ⟨good,hz⟩=>h.cs) τ'.size hs.toArray).toList)[j]? = (cur.toList)[lo * τ'.size+j]? := by
           rw [hF]
           simp only [hs2, ← htk]
           have hmul:hi * τ'.size≤l2.length * τ'.size:=Nat.mul_le_mul_right _ g3
           have hmul2:lo * τ'.size+(hi-lo) * τ'.size=hi * τ'.size:=by rw [← Nat.add_mul]; congr 1; omega
           rw [List.getElem?_drop,List.getElem?_take,List.getElem?_take,if_pos (by omega),if_pos (by omega)]
          refine ⟨?_, ?_⟩
          ·simp only [World.cell?,hgb,id]
           rw [hval]
           have h3:((flatK (fun h:Held c.w c.St τ' ⟨good,hz⟩=>h.cs) τ'.size hs.toArray).toList)[j]? = some (((flatK (fun h:Held c.w c.St τ' ⟨good,hz⟩=>h.cs) τ'.size hs.toArray).toList)[j]'(by simpa using hj)):=List.getElem?_eq_getElem _
           rw [hget] at h3
           simpa using h3
          ·simp [World.frozen?,hgb]
         have hswo:SWO (ltOf fun p q:Held c.w c.St τ' ⟨good,hz⟩=>cmp p.x q.x):=by
          refine ⟨fun p => ?_,fun p q r h1 h2 => ?_,fun p q r h1 h2 => ?_⟩
          ·simp only [ltOf,decide_eq_false_iff_not]
           have:=ho.tot p.x p.x
           have:=ho.neg p.x p.x
           omega
          ·simp only [ltOf,decide_eq_true_eq,ho.neg] at *
           intro h3
           rcases ho.tot p.x q.x with h4 | h4
           ·exact h2 (ho.trans _ _ _ h3 h4)
           ·exact h1 h4
          ·simp only [ltOf,decide_eq_false_iff_not,ho.neg,Decidable.not_not] at *
           exact ho.trans _ _ _ h2 h1
         have hcl:CmpLays P g #[] (fun h:Held c.w c.St τ' ⟨good,hz⟩=>h.cs) τ'.size (fun p q=>cmp p.x q.x) gb (lo * τ'.size) hs.toArray.size c.w:=by
          intro m os dk hdk p q
          obtain ⟨_,hm⟩:=hcmp p.x q.x p.ok q.ok
          have hcell : ∀ (ad:Addr) u,c.St ad.block ad.off→ad.spot=none→c.w.cell? ad=some u→(sortWorldK (fun h:Held c.w c.St τ' ⟨good,hz⟩=>h.cs) τ'.size c.w gb (lo * τ'.size) m dk os).cell? ad=some u:=fun ad u hst _ hc=>by
           have hne:ad.block≠gb:=fun e=>hns ad.off (e ▸ hst)
           have hlt2:=hI.bnd _ _ hst
           have:(sortWorldK (fun h:Held c.w c.St τ' ⟨good,hz⟩=>h.cs) τ'.size c.w gb (lo * τ'.size) m dk os).heap[ad.block]? = c.w.heap[ad.block]? := by
            unfold sortWorldK grow
            simp only
            rw [Array.getElem?_append_left (by rw [show (putRowK (fun h:Held c.w c.St τ' ⟨good,hz⟩=>h.cs) τ'.size (Sort.ahead c.w m) gb (lo * τ'.size) dk).heap.size=c.w.heap.size from size_putRow _ _ _ _ _]; exact hlt2)]
            exact mK _ _ _ _ _ hne
           exact (World.cell?_of_block this).trans hc
          have hrv : ∀ h:Held c.w c.St τ' ⟨good,hz⟩,cE (sortWorldK (fun h:Held c.w c.St τ' ⟨good,hz⟩=>h.cs) τ'.size c.w gb (lo * τ'.size) m dk os) c.St τ' h.x (.agg h.cs.toArray):=fun h=>by
           unfold cE
           rw [if_pos hSt]
           exact ⟨h.cs,rfl,h.rep.mono (Sb.le.refl _) hcell⟩
          have hsz:c.w.heap.size≤(sortWorldK (fun h:Held c.w c.St τ' ⟨good,hz⟩=>h.cs) τ'.size c.w gb (lo * τ'.size) m dk os).heap.size:=size_sortWorldK_c _ _ _ _ _ _ _ _
          refine (hm _ c.St (fun b o x=>Nat.lt_of_lt_of_le (hI.bnd b o x) hsz) [.agg p.cs.toArray,.agg q.cs.toArray] ⟨hrv p,hrv q,trivial⟩).mono ?_
          rintro e w' ⟨v,St',rfl,hb,hd,_,_,_,hv⟩
          refine ⟨?_,O8 hb hd⟩
          obtain ⟨v',e1,hv⟩:=hv
          simp only [List.cons.injEq,and_true] at e1
          subst e1
          rw [cM hv]
         obtain ⟨⟨fng,f1,f2,f3⟩,_⟩:=hcmp (zero τ') (zero τ') hz hz
         have heg : ∀ args w,(callFunc g args).run P w = .ok (.enter g args) w:=fun args w=>by
          have hbody : ¬ fng.body=none:=fun e=>by rw [e] at f2; cases f2
          have f3 : ¬ fng.name = "runtime.NumGoroutine" := by simpa using f3
          simp [callFunc,run_program,f1,f3,hbody]
         have hcall:=hS (fun h:Held c.w c.St τ' ⟨good,hz⟩=>h.cs) (fun h=>h.rep.size) (fun h v hv=>h.rep.one v hv) (fun p q=>cmp p.x q.x) hswo g #[] gb (lo * τ'.size) (cap-lo) hs.toArray c.w heg hcl hhold hlt (by rw [List.size_toArray,hlen]; unfold LIM at hlim; exact Nat.lt_of_le_of_lt (Nat.le_trans (show hi-lo≤l2.length by omega) hlim) (by decide))
         have hu:Value.slice (some ⟨gb,lo * τ'.size,none⟩) (hi-lo) (cap-lo) = .slice (some ⟨gb,lo * τ'.size,none⟩) hs.toArray.size (cap-lo):=by simp [hlen]
         rw [hu]
         refine hcall.mono ?_
         rintro e w' ⟨rfl,d',m,os,hperm,hsorted,rfl⟩
         obtain ⟨p1,_,p3⟩:=hperm
         have e1:d'.extract 0 hs.toArray.size=d':=by rw [← p1]; exact Array.extract_size
         rw [e1,Array.extract_size] at p3
         have hsort:d'.toList.map (·.x)=dv cmp ((l2.take hi).drop lo):=by
          refine vM ho (by rw [← hs1]; simpa using p3.map (·.x)) ?_
          rw [List.pairwise_map,List.pairwise_iff_getElem]
          intro i j hi2 hj2 hij
          have hi':i<d'.size:=by simpa using hi2
          have hj':j<d'.size:=by simpa using hj2
          have:=hsorted i j (Nat.zero_le _) hij (by omega)
          rw [getElem!_pos d' j hj',getElem!_pos d' i hi'] at this
          simp only [ltOf,decide_eq_false_iff_not,ho.neg,Decidable.not_not] at this
          simpa using this
         have hfl:=Eb hpos d'
         have hrepM:Rep c.w c.St (bA (toD τ') (dv cmp ((l2.take hi).drop lo))) (flatK (fun h:Held c.w c.St τ' ⟨good,hz⟩=>h.cs) τ'.size d').toList:=by
          rw [hfl, ← hsort]; exact yC d'.toList
         have hds:d'.size=hi-lo:=by rw [p1]; simp [hlen]
         have hFs:(flatK (fun h:Held c.w c.St τ' ⟨good,hz⟩=>h.cs) τ'.size d').size=(hi-lo) * τ'.size:=by rw [size_flatK,hds]
         have hmul:hi * τ'.size≤l2.length * τ'.size:=Nat.mul_le_mul_right _ g3
         have hmul2:lo * τ'.size+(hi-lo) * τ'.size=hi * τ'.size:=by rw [← Nat.add_mul]; congr 1; omega
         have hmul3:l2.length * τ'.size≤cap * τ'.size:=Nat.mul_le_mul_right _ hnc
         have hwh:(sortWorldK (fun h:Held c.w c.St τ' ⟨good,hz⟩=>h.cs) τ'.size c.w gb (lo * τ'.size) m d' os).heap[gb]? = some (.cells (putCells id (lo * τ'.size) (flatK (fun h:Held c.w c.St τ' ⟨good,hz⟩=>h.cs) τ'.size d') cur) e' (0,0)):=by
          unfold sortWorldK grow
          simp only
          rw [Array.getElem?_append_left (by rw [show (putRowK (fun h:Held c.w c.St τ' ⟨good,hz⟩=>h.cs) τ'.size (Sort.ahead c.w m) gb (lo * τ'.size) d').heap.size=c.w.heap.size from size_putRow _ _ _ _ _]; exact hlt)]
          exact MF id (Sort.ahead c.w m) gb (lo * τ'.size) _ hgb
         have hgrown:c.w.grownBy (sortWorldK (fun h:Held c.w c.St τ' ⟨good,hz⟩=>h.cs) τ'.size c.w gb (lo * τ'.size) m d' os) (some gb):=by
          refine ⟨rfl,rfl,rfl,size_sortWorldK_c _ _ _ _ _ _ _ _,fun b hb hne => ?_⟩
          have hne:b≠gb:=fun e=>hne (by rw [e])
          unfold sortWorldK grow
          simp only
          rw [Array.getElem?_append_left (by rw [show (putRowK (fun h:Held c.w c.St τ' ⟨good,hz⟩=>h.cs) τ'.size (Sort.ahead c.w m) gb (lo * τ'.size) d').heap.size=c.w.heap.size from size_putRow _ _ _ _ _]; exact hb)]
          exact mK _ _ _ _ _ hne
         have hob:obk c k=some gb:=by unfold obk; rw [hk,g1]; rfl
         have hcell : ∀ (ad:Addr) u,c.St ad.block ad.off→ad.spot=none→c.w.cell? ad=some u→(sortWorldK (fun h:Held c.w c.St τ' ⟨good,hz⟩=>h.cs) τ'.size c.w gb (lo * τ'.size) m d' os).cell? ad=some u:=fun ad u hst _ hc =>
          hgrown.cell hc (fun e=>hns ad.off (by injection e with e; rw [← e]; exact hst))
         have hpc:=E1 (lo * τ'.size) (flatK (fun h:Held c.w c.St τ' ⟨good,hz⟩=>h.cs) τ'.size d') cur (by rw [hFs,hcs]; omega)
         have hlen2:(l2.take lo++dv cmp ((l2.take hi).drop lo)++l2.drop hi).length=l2.length:=by
          have:(dv cmp ((l2.take hi).drop lo)).length=hi-lo:=by rw [(hU cmp _).length_eq]; simp; omega
          simp only [List.length_append,this,List.length_take,List.length_drop]; omega
         have hT:(putCells id (lo * τ'.size) (flatK (fun h:Held c.w c.St τ' ⟨good,hz⟩=>h.cs) τ'.size d') cur).toList.take (l2.length * τ'.size)=xs.take (lo * τ'.size)++(flatK (fun h:Held c.w c.St τ' ⟨good,hz⟩=>h.cs) τ'.size d').toList++xs.drop (hi * τ'.size):=by
          rw [hpc, ← htk,hFs,hmul2]
          have hcl2:cur.toList.length=cap * τ'.size:=by rw [Array.length_toList,hcs]
          have hFl:(flatK (fun h:Held c.w c.St τ' ⟨good,hz⟩=>h.cs) τ'.size d').toList.length=(hi-lo) * τ'.size:=by rw [Array.length_toList,hFs]
          apply List.ext_getElem?
          intro j
          simp only [List.getElem?_take,List.getElem?_append,List.getElem?_drop,List.length_take,List.length_append,hcl2,hFl]
          by_cases q1:j<lo * τ'.size
          ·repeat (first | rw [if_pos (by omega)] | rw [if_neg (by omega)])
          ·by_cases q2:j<hi * τ'.size
           ·repeat (first | rw [if_pos (by omega)] | rw [if_neg (by omega)])
            congr 1; omega
           ·by_cases q3:j<l2.length * τ'.size
            ·repeat (first | rw [if_pos (by omega)] | rw [if_neg (by omega)])
             congr 1; omega
            ·repeat (first | rw [if_pos (by omega)] | rw [if_neg (by omega)])
         have r1:=eO lo (by omega) hrp
         have r3:=im hi g3 hrp
         have hall:=di (di r1 hrepM) r3
         obtain ⟨hI',hE'⟩:=hI.obj (k:=k) (ho' := .mrow τ' e' v' (l2.take lo++dv cmp ((l2.take hi).drop lo)++l2.drop hi)) (w':=sortWorldK (fun h:Held c.w c.St τ' ⟨good,hz⟩=>h.cs) τ'.size c.w gb (lo * τ'.size) m d' os) (St':=c.St) (r':=c.rv k) (aE hk)
          (by rw [hob]; exact hgrown) (Nat.le_add_right _ _) (Sb.le.refl _) (fun _ _ _ _ x=>x) (fun _ _ x => .inl x) hcell (.inr ⟨τ',e',v',l2,hk,.inl ⟨v',_,rfl,Nat.le_refl _,fun _=>rfl⟩⟩)
          (.inr ⟨τ',e',v',_,rfl,.inr (.inl (by rw [hob,g1]; rfl)),_,⟨by rw [bG hall],.inr ⟨gb,cap,_,by rw [g1,hlen2],hB,hwh,by rw [hlen2]; exact hnc,hcm,by rw [← hcs]; simp [putCells],by rw [hlen2]; exact hT⟩⟩,hall.mono (Sb.le.refl _) hcell,fun b hb o=>by
           rw [g1] at hb
           simp only [Value.ownBlock,Option.some.injEq] at hb
           rw [← hb]; exact hns o⟩)
         exact ⟨_,_,rfl,rfl,by simp,rfl,hI',hE',⟨[],rfl,rfl,rfl⟩⟩
      ·cases h
     ·cases h
    ·cases h
   ·cases h
  ·cases h
 ·cases h
end
end Go.Proofs.YtboikinjlmjgjaaGreat.Abs
