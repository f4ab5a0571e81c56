/- Operations that look at a row that is turned in place beside another object. -/
import Derived.Test.YtboikinjlmjgjaaGreatAbsM
namespace Go.Proofs.YtboikinjlmjgjaaGreat.Abs
open Go Go.RowKit
section
variable {P:Program} {tab:Tab} {B:Bd} {w0:World} {St0:Sb} {c:Gh} {o:Oper} {a:Act} {σ:Sg}
theorem adO (hi:Inv B w0 St0 c) {k v lo hi':Nat} {s:Value} {τ:Ty} {e:TypeId} {l:List τ.den} (hk:c.heap[k]? = some (.mrow τ e v l)) (h:qm (c.rv k) τ.size lo hi' s) :
  ∃ A cp ds,s = .slice A ((l.take hi').drop lo).length cp∧Rep c.w c.St (bA (toD τ) ((l.take hi').drop lo)) ds∧ds.length=((l.take hi').drop lo).length * τ.size ∧
   (((l.take hi').drop lo).length=0 ∨ ∃ ad,A=some ad ∧ ∀ j u,ds[j]? = some u→c.w.cell? (ad.add j)=some u):=by
 rcases h with ⟨h1,rfl,rfl,rfl⟩ | ⟨g,n,cap,A,h1,h2,h3,rfl,h5⟩
 ·exact ⟨none,0,[],by simp,rfl,by simp,.inl (by simp)⟩
 ·obtain ⟨rfl,cur,xs,hg,hnc,hcm,hcs,htk,hrp,_,hB⟩:=dB hi hk h1
  have hlen:((l.take hi').drop lo).length=hi'-lo:=by simp; omega
  have r1:=im lo (by simp; omega) (eO hi' h3 hrp)
  refine ⟨A,cap-lo,_,by rw [hlen],r1,bG r1, ?_⟩
  rw [hlen]
  rcases h5 with rfl | ⟨h5,h6⟩
  ·refine .inr ⟨_,rfl,fun j u hu => ?_⟩
   rw [List.getElem?_drop,List.getElem?_take] at hu
   split at hu
   ·rw [← htk,List.getElem?_take] at hu
    split at hu
    ·rw [dY]
     simp only [World.cell?,hg]
     simpa using hu
    ·cases hu
   ·cases hu
  ·exact .inl (by omega)
theorem FP (hi:Inv B w0 St0 c) {k v lo m:Nat} {τ:Ty} {e:TypeId} {l mid:List τ.den} (hk:c.heap[k]? = some (.mrow τ e v l)) {g n cap:Nat} (hr:c.rv k = .slice (some ⟨g,0,none⟩) n cap) {cur:Array Value}
  (hg:c.w.heap[g]? = some (.cells cur e (0,0))) (hm:mid.length=m) (hlo:lo+m≤l.length) {cy:List Value} (hcy:Rep c.w c.St (bA (toD τ) mid) cy) :
  lo * τ.size+cy.length≤cur.size ∧
  let c':Gh:={ c with heap:=c.heap.set k (.mrow τ e v (l.take lo++mid++l.drop (lo+m))),w:=c.w.setRow g (cur.toList.take (lo * τ.size)++cy++cur.toList.drop (lo * τ.size+cy.length)).toArray,St:=c.St,rv:=fun i=>if i=k then c.rv k else c.rv i }
  Inv B w0 St0 c'∧Ev c c':=by
 obtain ⟨hn,cur',xs,hg',hnc,hcm,hcs,htk,hrp,hns,hB⟩:=dB hi hk hr
 rw [hg] at hg'
 injection hg' with hg'
 injection hg' with hg'
 subst hg'
 subst hn
 have hcl:=bG hcy
 rw [hm] at hcl
 have h1:lo * τ.size+m * τ.size≤l.length * τ.size:=by rw [← Nat.add_mul]; exact Nat.mul_le_mul_right _ hlo
 have h2:l.length * τ.size≤cap * τ.size:=Nat.mul_le_mul_right _ hnc
 have hcl2:cur.toList.length=cap * τ.size:=by rw [Array.length_toList,hcs]
 refine ⟨by rw [hcs]; omega,LM hi hk hr hg (by simp; omega) (by simp; omega) ?_⟩
 have r1:=eO lo (by omega) hrp
 have r3:=im (lo+m) hlo hrp
 have:=di (di r1 hcy) r3
 have e:((cur.toList.take (lo * τ.size)++cy++cur.toList.drop (lo * τ.size+cy.length)).toArray.toList.take (l.length * τ.size))=xs.take (lo * τ.size)++cy++xs.drop ((lo+m) * τ.size):=by
  rw [← htk,Nat.add_mul]
  apply List.ext_getElem?
  intro j
  simp only [List.getElem?_take,List.getElem?_append,List.getElem?_drop,List.length_take,List.length_append,hcl2,hcl]
  by_cases q1:j<lo * τ.size
  ·repeat (first | rw [if_pos (by omega)] | rw [if_neg (by omega)])
  ·by_cases q2:j<lo * τ.size+m * τ.size
   ·repeat (first | rw [if_pos (by omega)] | rw [if_neg (by omega)])
    congr 1; omega
   ·by_cases q3:j<l.length * τ.size
    ·repeat (first | rw [if_pos (by omega)] | rw [if_neg (by omega)])
     congr 1; omega
    ·repeat (first | rw [if_pos (by omega)] | rw [if_neg (by omega)])
 rw [e]
 exact this
theorem YO (tk:TabOk P tab) (hi:Inv B w0 St0 c) (hh:c.heap=σ.heap) (hE:RAs c σ.env a.tmps.toList) {fresh:Nat} {out:AV} {heap':List HO} (h:M5 tab o σ fresh=some (true,out,heap')) :
  o.guard=none∧heap'.length=σ.heap.length∧Ok P B w0 St0 o a c heap' out:=by
 have hraw:RAs c (cX σ.env o) (o.op.operands.toList.map a.eval):=sI hE o.op.operands.toList
 unfold M5 at h
 split at h
 ·rename_i cl hop hgd
  refine ⟨hgd, ?_⟩
  rw [hop] at hraw
  have hv : ∀ b,cl.callee = .builtin b→RAs c (cX σ.env o) (cl.args.toList.map a.eval):=fun b hcl=>by simpa [Op.operands,Call.operands,hcl] using hraw
  have two : ∀ (l:List Operand),l.length=2 → ∃ p q,l=[p,q]:=fun l hl=>by
   match l,hl with
   | [p,q],_=>exact ⟨p,q,rfl⟩
  split at h
  ·rename_i hcl
   replace hv:=hv _ hcl
   generalize cX σ.env o=vals at h hv
   split at h
   ·rename_i s k v lo hi' t1 t2 htys
    have hty:cl.argTypes = #[t1,t2]:=Array.ext' (by simpa using htys)
    obtain ⟨p,q,hpq⟩:=two cl.args.toList (by have:=hv.length; simpa using this.symm)
    have hpq':cl.args = #[p,q]:=Array.ext' (by simpa using hpq)
    rw [hpq] at hv
    obtain ⟨u,u',e1,h1,h2⟩:=dT (v:=a.eval p) (v':=a.eval q) hv
    simp only [List.cons.injEq,and_true] at e1
    obtain ⟨rfl,rfl⟩:=e1
    split at h
    ·rename_i e12
     subst e12
     split at h
     ·rename_i e τ τ' e' v' l hel ht hk
      split at h
      ·rename_i q1
       subst q1
       split at h
       ·rename_i l2 hc
        obtain ⟨et,hl2⟩:=cast?_some hc
        injection et with et
        subst et
        have hl2:l2=l:=hl2
        subst hl2
        rw [← hh] at hk
        have src:=adO hi hk (dD h2 hk)
        split at h
        ·rename_i k2 v2 t2 l3
         split at h
         ·rename_i t3 e3 v3 hk2
          split at h
          ·rename_i q2
           split at h
           ·rename_i q3
            split at h
            ·rename_i q4
             split at h
             ·rename_i l4 hc4
              obtain ⟨et,hl4⟩:=cast?_some hc4
              injection et with et
              subst et
              have hl4:l4=l3:=hl4
              subst hl4
              subst q2; subst q3; subst q4
              simp only [Option.some.injEq,Prod.mk.injEq,decide_eq_true_eq] at h
              obtain ⟨k1,rfl,rfl⟩:=h
              rw [← hh] at hk2
              refine ⟨by simp, ?_⟩
              rw [← hh]
              exact ug hi tk hop hcl hpq' hty h1 src ht hel hk2 k1
             ·cases h
            ·cases h
           ·cases h
          ·cases h
         ·cases h
        ·split at h
         ·rename_i hf
          simp only [Option.some.injEq,Prod.mk.injEq,decide_eq_true_eq] at h
          obtain ⟨k1,rfl,rfl⟩:=h
          rw [← hh] at hf
          refine ⟨by simp, ?_⟩
          rw [← hh]
          exact mN hi tk hop hcl hpq' hty h1 src ht hel hf k1
         ·cases h
        ·cases h
       ·cases h
      ·cases h
     ·cases h
    ·cases h
   ·cases h
  ·rename_i hcl
   replace hv:=hv _ hcl
   generalize cX σ.env o=vals at h hv
   split at h
   ·rename_i k v lo hi' x t1 t2 htys
    have hty:cl.argTypes = #[t1,t2]:=Array.ext' (by simpa using htys)
    obtain ⟨p,q,hpq⟩:=two cl.args.toList (by have:=hv.length; simpa using this.symm)
    have hpq':cl.args = #[p,q]:=Array.ext' (by simpa using hpq)
    rw [hpq] at hv
    obtain ⟨u,u',e1,h1,h2⟩:=dT (v:=a.eval p) (v':=a.eval q) hv
    simp only [List.cons.injEq,and_true] at e1
    obtain ⟨rfl,rfl⟩:=e1
    split at h
    ·rename_i e12
     subst e12
     split at h
     ·rename_i e τ l' τ' e' v' l hel hl hk
      split at h
      ·rename_i q1
       subst q1
       split at h
       ·rename_i q2
        subst q2
        split at h
        ·rename_i l2 hc
         obtain ⟨et,hl2⟩:=cast?_some hc
         injection et with et
         subst et
         have hl2:l2=l:=hl2
         subst hl2
         simp only [Option.some.injEq,Prod.mk.injEq,true_and] at h
         obtain ⟨rfl,rfl⟩:=h
         refine ⟨by simp, ?_⟩
         rw [← hh] at hk ⊢
         obtain ⟨ht,hxv⟩:=eC hl h2
         obtain ⟨i,z,_,_,_,_,_,_,hu⟩:=tk.ty t1 _ ht
         obtain ⟨e2,u1,u2,u3,hpos⟩:=hu
         have:e2=e':=by rw [hel] at u3; exact (Option.some.inj u3).symm
         subst this
         obtain ⟨A,cp,ds,ex,hrx,hdl,hsrc⟩:=vK hxv
         have hlive:=dD h1 hk
         have hmin:Nat.min l'.length (hi'-lo)≤l'.length:=Nat.min_le_left _ _
         have hmin2:Nat.min l'.length (hi'-lo)≤hi'-lo:=Nat.min_le_right _ _
         generalize hN:Nat.min l'.length (hi'-lo)=N at *
         have hrt:=eO N hmin hrx
         have hrl:=bG hrt
         have hTl:(l'.take N).length=N:=by simp; omega
         rw [hTl] at hrl
         have hfc:(Builtin.firstCells τ'.size N (a.eval q)).run P c.w = .ok (ds.take (N * τ'.size)).toArray c.w:=by
          rw [ex]
          rcases hsrc with h0 | ⟨ad,rfl,hcell⟩
          ·have hN0:N=0:=by omega
           subst hN0
           cases A with
           | none=>rw [run_firstCells_none]; simp
           | some ad=>exact run_firstCells_some (P:=P) c.w τ'.size 0 ad _ cp _ (by simp) (fun j u hu=>by simp at hu)
          ·exact run_firstCells_some (P:=P) c.w τ'.size N ad _ cp _ hrl (fun j u hu=>by
            rw [List.getElem?_take] at hu
            split at hu
            ·exact hcell j u hu
            ·cases hu)
         have hexec : ∀ w',(∀ A' n' cap',a.eval p = .slice A' n' cap'→n'=hi'-lo→(match A' with | some ad=>(storeCells ad (ds.take (N * τ'.size))).run P c.w = .ok () w' | none=>w'=c.w))→(execOp a.eval o).run P c.w = .ok (.value (.int .i64 (N:Int))) w':=by
          intro w' hw
          obtain ⟨A',cap',hs⟩:=B7 hlive
          have hst:=hw A' _ cap' hs rfl
          unfold execOp
          have hlen:Builtin.lenOf (a.eval q)=Sem.pure l'.length:=by rw [ex]; rfl
          cases A' with
          | none =>
           simp only at hst
           subst hst
           simp [hop,resolve,hcl,hpq',hty,invoke,builtin,Builtin.copy_,hs,run_underlying u1,hlen,dp tk u2,hN,hfc,goInt]
          | some ad =>
           simp only at hst
           simp [hop,resolve,hcl,hpq',hty,invoke,builtin,Builtin.copy_,hs,run_underlying u1,hlen,dp tk u2,hN,hfc,hst,goInt]
         have hlive':=hlive
         rcases hlive with ⟨g1,g2,g3,g4⟩ | ⟨g,n,cap,A',g1,g2,g3,g4,g5⟩
         ·have hN0:N=0:=by omega
          subst hN0
          have e0:l2.take lo++l'.take 0++l2.drop (lo+0)=l2:=by simp
          rw [e0,eE hk]
          exact aH hi (hexec c.w (fun A' n' cap' hs hn=>by rw [g4] at hs; injection hs with q1; subst q1; rfl)) (cY _ _)
         ·obtain ⟨hn,cur,xs,hg,hnc,hcm,hcs,htk,hrp,hns,hB⟩:=dB hi hk g1
          subst hn
          obtain ⟨hfit,hI,hEv⟩:=FP hi hk g1 hg hTl (lo:=lo) (by omega) hrt
          have hst:=run_storeCells_at (P:=P) g (lo * τ'.size) e2 (ds.take (N * τ'.size)) 0 cur c.w hg (by simpa using hfit) (fun u hu=>hrt.one u hu)
          simp only [Nat.add_zero] at hst
          refine cx (hexec _ (fun A2 n2 cap2 hs hn2 => ?_)) rfl hI hEv (cY _ _)
          rw [g4] at hs
          injection hs with q1 q2 q3
          subst q1
          rcases g5 with rfl | ⟨g5,g6⟩
          ·exact hst
          ·have hN0:N=0:=by omega
           subst hN0
           have e0:c.w.setRow g (cur.toList.take (lo * τ'.size)++ds.take (0 * τ'.size)++cur.toList.drop (lo * τ'.size+(ds.take (0 * τ'.size)).length)).toArray=c.w:=by
            have:(cur.toList.take (lo * τ'.size)++ds.take (0 * τ'.size)++cur.toList.drop (lo * τ'.size+(ds.take (0 * τ'.size)).length)).toArray=cur:=by simp
            rw [this]
            exact setRow_self c.w g cur e2 (0,0) hg
           rw [e0]
           cases A' with
           | none=>rfl
           | some ad=>simp [storeCells]
        ·cases h
       ·cases h
      ·cases h
     ·cases h
    ·cases h
   ·cases h
  ·rename_i hcl
   replace hv:=hv _ hcl
   generalize cX σ.env o=vals at h hv
   split at h
   ·rename_i k v lo hi'
    have hal : ∃ x,cl.args = #[x]:=by
     have:=hv.length
     simp at this
     exact Array.size_eq_one_iff.1 this.symm
    obtain ⟨p,hpq'⟩:=hal
    rw [hpq'] at hv
    obtain ⟨u,e1,h1⟩:=cO (v:=a.eval p) hv
    simp only [List.cons.injEq,and_true] at e1
    subst e1
    cases hty:cl.argTypes[0]? with
    | none=>rw [hty] at h; cases h
    | some t1 =>
     rw [hty] at h
     simp only [Option.bind_some] at h
     split at h
     ·rename_i e τ τ' e' v' l hel ht hk
      split at h
      ·rename_i q1
       subst q1
       split at h
       ·rename_i q2
        subst q2
        split at h
        ·rename_i l2 hc
         obtain ⟨et,hl2⟩:=cast?_some hc
         injection et with et
         subst et
         have hl2:l2=l:=hl2
         subst hl2
         simp only [Option.some.injEq,Prod.mk.injEq,true_and] at h
         obtain ⟨rfl,rfl⟩:=h
         refine ⟨by simp, ?_⟩
         rw [← hh] at hk ⊢
         obtain ⟨i,z,_,_,_,_,_,_,hu⟩:=tk.ty t1 _ ht
         obtain ⟨e2,u1,u2,u3,hpos⟩:=hu
         have:e2=e':=by rw [hel] at u3; exact (Option.some.inj u3).symm
         subst this
         obtain ⟨ie,ze,t1',t2,t3,t4,t5,_⟩:=tk.ty e2 τ' u2
         have hlive:=dD h1 hk
         rcases hlive with ⟨g1,g2,g3,g4⟩ | ⟨g,n,cap,A',g1,g2,g3,g4,g5⟩
         ·subst g2; subst g3
          have e0:l2.take 0++List.replicate (0-0) (zero τ')++l2.drop 0=l2:=by simp
          rw [e0,eE hk]
          refine aH hi (v := .tuple #[]) ?_ ⟨[],rfl,rfl,rfl⟩
          unfold execOp
          simp [hop,resolve,hcl,hpq',hty,invoke,builtin,Builtin.clear_,g4,run_underlying u1]
         ·obtain ⟨hn,cur,xs,hg,hnc,hcm,hcs,htk,hrp,hns,hB⟩:=dB hi hk g1
          subst hn
          have hz:=ym (w:=c.w) (St:=c.St) t4 hpos (hi'-lo)
          obtain ⟨hfit,hI,hEv⟩:=FP hi hk g1 hg (List.length_replicate (n:=hi'-lo) (a:=zero τ')) (lo:=lo) (by omega) hz
          rw [show lo+(hi'-lo)=hi' by omega] at hI hEv
          by_cases h0:hi'-lo=0
          ·have e0:l2.take lo++List.replicate (hi'-lo) (zero τ')++l2.drop hi'=l2:=by
            rw [h0,show hi'=lo by omega]; simp
           rw [e0,eE hk]
           refine aH hi (v := .tuple #[]) ?_ ⟨[],rfl,rfl,rfl⟩
           unfold execOp
           rw [h0] at g4
           cases A' <;> simp [hop,resolve,hcl,hpq',hty,invoke,builtin,Builtin.clear_,g4,run_underlying u1]
          ·have hA:A'=some ⟨g,lo * τ'.size,none⟩:=by
            rcases g5 with g5 | g5
            ·exact g5
            ·omega
           subst hA
           have hst:=run_storeCells_at (P:=P) g (lo * τ'.size) e2 (Builtin.zeroCells ze.cells (hi'-lo)).toList 0 cur c.w hg (by simpa using hfit) (fun u hu=>hz.one u hu)
           simp only [Nat.add_zero] at hst
           refine cx (v := .tuple #[]) ?_ rfl hI hEv ⟨[],rfl,rfl,rfl⟩
           obtain ⟨m,hm⟩ : ∃ m,hi'-lo=m+1:=⟨hi'-lo-1,by omega⟩
           unfold execOp
           rw [hm] at g4 hst ⊢
           simp [hop,resolve,hcl,hpq',hty,invoke,builtin,Builtin.clear_,g4,run_underlying u1,zeroValue,typeInfo,t1',t3,hst]
        ·cases h
       ·cases h
      ·cases h
     ·cases h
   ·cases h
  ·cases h
 ·cases h
end
end Go.Proofs.YtboikinjlmjgjaaGreat.Abs
