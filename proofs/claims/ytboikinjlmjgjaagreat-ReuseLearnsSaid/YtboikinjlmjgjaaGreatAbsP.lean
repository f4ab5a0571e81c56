/- Rows that are turned in place: one operation. -/
import Derived.Test.YtboikinjlmjgjaaGreatAbsJ
import Derived.Laws.MakeOwn
import Derived.Laws.BytesString
namespace Go.Proofs.YtboikinjlmjgjaaGreat.Abs
open Go Go.RowKit
section
variable {P:Program} {tab:Tab} {B:Bd} {w0:World} {St0:Sb} {c:Gh} {o:Oper} {a:Act}
theorem dD {k v lo hi:Nat} {s:Value} {τ:Ty} {e:TypeId} {l:List τ.den} (h:RA c (.msl k v lo hi) [s]) (hk:c.heap[k]? = some (.mrow τ e v l)):qm (c.rv k) τ.size lo hi s:=by
 obtain ⟨s',e1,_,m⟩:=h
 simp only [List.cons.injEq,and_true] at e1
 subst e1
 rcases m with ⟨t,e',v',l',h1,_,h2⟩ | h1
 ·rw [hk] at h1
  injection h1 with h1
  injection h1 with q1 q2 q3 q4
  subst q1
  exact h2 q3.symm
 ·rw [hk] at h1; cases h1
theorem C5 {k v i off:Nat} {s:Value} {τ:Ty} {e:TypeId} {l:List τ.den} (h:RA c (.mpt k v i off) [s]) (hk:c.heap[k]? = some (.mrow τ e v l)):ptS (c.rv k) τ.size i off s:=by
 obtain ⟨s',e1,_,m⟩:=h
 simp only [List.cons.injEq,and_true] at e1
 subst e1
 rcases m with ⟨t,e',v',l',h1,_,h2⟩ | h1
 ·rw [hk] at h1
  injection h1 with h1
  injection h1 with q1 q2 q3 q4
  subst q1
  exact h2 q3.symm
 ·rw [hk] at h1; cases h1
theorem XQ {r s:Value} {size lo hi:Nat} (h:qm r size lo hi s):s.oneCell'=true:=by
 rcases h with ⟨_,_,_,rfl⟩ | ⟨_,_,_,_,_,_,_,rfl,_⟩ <;> rfl
theorem qO {k v lo hi:Nat} {s:Value} {τ:Ty} {e:TypeId} {l:List τ.den} (hk:c.heap[k]? = some (.mrow τ e v l)) (h:qm (c.rv k) τ.size lo hi s):RA c (.msl k v lo hi) [s] :=
 ⟨s,rfl,XQ h,.inl ⟨τ,e,v,l,hk,Nat.le_refl _,fun _=>h⟩⟩
theorem Yp {k v i off:Nat} {s:Value} {τ:Ty} {e:TypeId} {l:List τ.den} (hk:c.heap[k]? = some (.mrow τ e v l)) (h:ptS (c.rv k) τ.size i off s):RA c (.mpt k v i off) [s] :=
 ⟨s,rfl,by obtain ⟨_,_,_,_,_,rfl⟩:=h; rfl,.inl ⟨τ,e,v,l,hk,Nat.le_refl _,fun _=>h⟩⟩
theorem dB {k v:Nat} {τ:Ty} {e:TypeId} {l:List τ.den} (hi:Inv B w0 St0 c) (hk:c.heap[k]? = some (.mrow τ e v l)) {g n cap:Nat} (hr:c.rv k = .slice (some ⟨g,0,none⟩) n cap) :
  n=l.length ∧ ∃ cur xs,c.w.heap[g]? = some (.cells cur e (0,0))∧n≤cap∧cap≤maxLen∧cur.size=cap * τ.size∧cur.toList.take (n * τ.size)=xs∧Rep c.w c.St (bA (toD τ) l) xs∧(∀ o,¬ c.St g o)∧B≤g:=by
 obtain ⟨xs,ho,hrep,hns⟩:=hi.mrow k τ e v l hk
 rcases ho.2 with ⟨h1,_⟩ | ⟨g',cap',cur,h1,h2,h3,h4,h5,h6,h7⟩
 ·rw [hr] at h1; cases h1
 ·rw [hr] at h1
  injection h1 with q1 q2 q3
  injection q1 with q1
  injection q1 with q1
  subst q1; subst q2; subst q3
  exact ⟨rfl,cur,xs,h3,h4,h5,h6,h7,hrep,hns g (by rw [hr]; rfl),h2⟩
theorem Qk (hi:Inv B w0 St0 c) (tk:TabOk P tab) {t:TypeId} {x y:Operand} (ho:o.op = .indexAddr t x y) {k v lo hi':Nat} {q:IntKind} {n:Int} {τ:Ty} {e:TypeId} {l:List τ.den} (hx:RA c (.msl k v lo hi') [a.eval x]) (hy:RA c (.val (.int q) n) [a.eval y])
  (hk:c.heap[k]? = some (.mrow τ e v l)) (ht:tab.ty t=some (.slice τ)) (h0:0≤n) (h1:n<((hi'-lo:Nat):Int)):Ok P B w0 St0 o a c c.heap (.mpt k v (lo+n.toNat) 0):=by
 obtain ⟨i,z,_,_,_,_,_,_,hu⟩:=tk.ty t _ ht
 obtain ⟨e',he,hte,hel',hpos⟩:=hu
 rcases dD hx hk with ⟨_,h2,h3,_⟩ | ⟨g,m,cap,A,hr,hle,hm,hs,hA⟩
 ·omega
 ·obtain ⟨rfl,cur,xs,_,hnc,_⟩:=dB hi hk hr
  have hA:A=some ⟨g,lo * τ.size,none⟩:=by
   rcases hA with hA | hA
   ·exact hA
   ·omega
  subst hA
  refine aH hi (v := .pointer (some ((⟨g,lo * τ.size,none⟩:Addr).add (n.toNat * τ.size)))) ?_ (Yp hk ⟨g,_,cap,hr,by omega, ?_⟩)
  ·have hyv:=cM hy.val_inv
   unfold execOp
   simp only [ho,hs,hyv]
   simp [Instr.indexAt,asIntOf,run_underlying he,h0,h1,dp tk hte]
  ·rw [dY,Nat.add_mul]; rfl
theorem Ql (hi:Inv B w0 St0 c) (tk:TabOk P tab) {s:TypeId} {x:Operand} {f:Nat} (ho:o.op = .fieldAddr s x f) {k v i off d:Nat} {τ:Ty} {e:TypeId} {l:List τ.den} (hx:RA c (.mpt k v i off) [a.eval x])
  (hk:c.heap[k]? = some (.mrow τ e v l)) (hd:tab.offs s f=some d):Ok P B w0 St0 o a c c.heap (.mpt k v i (off+d)):=by
 obtain ⟨g,n,cap,hr,hin,hp⟩:=C5 hx hk
 obtain ⟨fs,fl,j,h1,h2,h3,h4,h5⟩:=tk.offs s f d hd
 refine aH hi (v := .pointer (some ⟨g,i * τ.size+(off+d),none⟩)) ?_ (Yp hk ⟨g,n,cap,hr,hin,rfl⟩)
 unfold execOp
 have hj : ¬ j.size=0:=by omega
 simp [ho,hp,Instr.fieldAt,run_underlying h1,h2,Instr.sureAddr,fieldPlace,sizeOf,typeInfo,h4,hj,dY,h3,Nat.add_assoc]
theorem U5 {w:World} {St:Sb} {τ:Ty} : ∀ {t:Ty} {x:t.den} {off:Nat} {y:τ.den} {ds:List Value},tY τ t x off=some y→Rep w St (toD t x) ds→off+τ.size≤ds.length∧Rep w St (toD τ y) ((ds.drop off).take τ.size):=by
 intro t
 induction t with
 | cons A Bt ihA ihB =>
  intro x off y ds h r
  cases off with
  | zero =>
   unfold tY at h
   split at h
   ·rename_i y' hc
    obtain ⟨e,hc⟩:=cast?_some hc
    subst e
    subst hc
    injection h with h
    subst h
    have:=r.size
    refine ⟨by omega, ?_⟩
    rw [List.drop_zero, ← this,List.take_length]
    exact r
   ·obtain ⟨c1,c2,rfl,r1,r2⟩:=r
    obtain ⟨h1,h2⟩:=ihA h r1
    refine ⟨by simp; omega, ?_⟩
    rw [List.drop_zero] at h2 ⊢
    rw [List.take_append_of_le_length (by omega)]
    exact h2
  | succ n =>
   simp only [tY] at h
   obtain ⟨c1,c2,rfl,r1,r2⟩:=r
   have hs:=r1.size
   split at h
   ·rename_i hlt
    obtain ⟨h1,h2⟩:=ihA h r1
    refine ⟨by simp; omega, ?_⟩
    rw [List.drop_append_of_le_length (by omega),List.take_append_of_le_length (by simp; omega)]
    exact h2
   ·rename_i hlt
    obtain ⟨h1,h2⟩:=ihB h r2
    refine ⟨by simp; omega, ?_⟩
    rw [List.drop_append,List.drop_eq_nil_of_le (by omega),List.nil_append,hs]
    exact h2
 | _ =>
  intro x off y ds h r
  cases off with
  | zero =>
   unfold tY at h
   split at h
   ·rename_i y' hc
    obtain ⟨e,hc⟩:=cast?_some hc
    subst e
    subst hc
    injection h with h
    subst h
    have:=r.size
    refine ⟨by omega, ?_⟩
    rw [List.drop_zero, ← this,List.take_length]
    exact r
   ·cases h
  | succ n=>simp [tY] at h
theorem Vh {w:World} {St:Sb} {τ:Ty} {y:τ.den} {cy:List Value} (hy:Rep w St (toD τ y) cy) : ∀ {t:Ty} {x z:t.den} {off:Nat} {ds:List Value},ub τ y t x off=some z→Rep w St (toD t x) ds →
  off+cy.length≤ds.length∧Rep w St (toD t z) (ds.take off++cy++ds.drop (off+cy.length)):=by
 have hcy:=hy.size
 intro t
 induction t with
 | cons A Bt ihA ihB =>
  intro x z off ds h r
  cases off with
  | zero =>
   unfold ub at h
   split at h
   ·rename_i y' hc
    obtain ⟨e,hc⟩:=cast?_some hc
    subst e
    subst hc
    injection h with h
    subst h
    have:=r.size
    refine ⟨by omega, ?_⟩
    rw [List.take_zero,List.nil_append,Nat.zero_add,hcy, ← this,List.drop_length,List.append_nil]
    exact hy
   ·simp only at h
    split at h
    ·rename_i z' hz
     injection h with h
     subst h
     obtain ⟨c1,c2,rfl,r1,r2⟩:=r
     obtain ⟨h1,h2⟩:=ihA hz r1
     refine ⟨by simp; omega,_,c2, ?_,h2,r2⟩
     simp only [List.take_zero,List.nil_append,Nat.zero_add] at *
     rw [List.drop_append_of_le_length (by omega),List.append_assoc]
    ·cases h
  | succ n =>
   simp only [ub] at h
   obtain ⟨c1,c2,rfl,r1,r2⟩:=r
   have hs:=r1.size
   split at h
   ·rename_i hlt
    split at h
    ·rename_i z' hz
     injection h with h
     subst h
     obtain ⟨h1,h2⟩:=ihA hz r1
     refine ⟨by simp; omega,_,c2, ?_,h2,r2⟩
     rw [List.take_append_of_le_length (by omega),List.drop_append_of_le_length (by omega)]
     simp only [List.append_assoc]
    ·cases h
   ·rename_i hlt
    split at h
    ·rename_i z' hz
     injection h with h
     subst h
     obtain ⟨h1,h2⟩:=ihB hz r2
     refine ⟨by simp; omega,c1,_, ?_,r1,h2⟩
     rw [List.take_append,List.drop_append,List.take_of_length_le (by omega),List.drop_eq_nil_of_le (by omega),List.nil_append,hs,List.append_assoc,List.append_assoc,List.append_assoc,
      show n+1+cy.length-A.size=n+1-A.size+cy.length by omega]
    ·cases h
 | _ =>
  intro x z off ds h r
  cases off with
  | zero =>
   unfold ub at h
   split at h
   ·rename_i y' hc
    obtain ⟨e,hc⟩:=cast?_some hc
    subst e
    subst hc
    injection h with h
    subst h
    have:=r.size
    refine ⟨by omega, ?_⟩
    rw [List.take_zero,List.nil_append,Nat.zero_add,hcy, ← this,List.drop_length,List.append_nil]
    exact hy
   ·cases h
  | succ n=>simp [ub] at h
theorem Hb {w:World} {St:Sb} {t:Ty} : ∀ {l:List t.den} {ds:List Value} {i:Nat} {z:t.den} {cz:List Value},Rep w St (bA (toD t) l) ds→i<l.length→Rep w St (toD t z) cz →
  Rep w St (bA (toD t) (l.set i z)) (ds.take (i * t.size)++cz++ds.drop (i * t.size+t.size))
 | x::l,ds,0,z,cz,h,_,hz=>by
  obtain ⟨c1,c2,rfl,h1,h2⟩:=h
  have hs:=h1.size
  refine ⟨cz,c2, ?_,hz,h2⟩
  rw [Nat.zero_mul,List.take_zero,List.nil_append,Nat.zero_add, ← hs,List.drop_left]
 | x::l,ds,i+1,z,cz,h,hi,hz=>by
  obtain ⟨c1,c2,rfl,h1,h2⟩:=h
  have hs:=h1.size
  have:=Hb h2 (by simpa using hi) hz
  refine ⟨c1,_, ?_,h1,this⟩
  rw [show (i+1) * t.size=c1.length+i * t.size by rw [Nat.add_mul,hs]; omega,Nat.add_assoc,List.take_length_add_append,List.drop_length_add_append,List.append_assoc,List.append_assoc,List.append_assoc]
theorem NN {α:Type} {l:List α} {i:Nat} {d:α} (h:i<l.length):l.getD i d=l[i]:=by simp [List.getD,List.getElem?_eq_getElem h]
theorem Vw (hi:Inv B w0 St0 c) (tk:TabOk P tab) {t:TypeId} {x:Operand} (ho:o.op = .load t x) {k v i off:Nat} {τ τ':Ty} {e:TypeId} {l:List τ.den} {y:τ'.den} (hx:RA c (.mpt k v i off) [a.eval x])
  (hk:c.heap[k]? = some (.mrow τ e v l)) (ht:tab.ty t=some τ') (hy:tY τ' τ (l.getD i (zero τ)) off=some y):Ok P B w0 St0 o a c c.heap (.val τ' y):=by
 obtain ⟨g,n,cap,hr,hin,hp⟩:=C5 hx hk
 obtain ⟨rfl,cur,xs,hg,hnc,_,hcs,htk,hrep,_⟩:=dB hi hk hr
 have he:=xN hrep i hin
 rw [NN hin] at hy
 obtain ⟨hle,hsub⟩:=U5 hy he
 have hxl:=bG hrep
 have hlen2:((xs.drop (i * τ.size)).take τ.size).length≤τ.size:=by simp; omega
 have hcell : ∀ j u,((((xs.drop (i * τ.size)).take τ.size).drop off).take τ'.size)[j]? = some u→c.w.cell? ((⟨g,i * τ.size+off,none⟩:Addr).add j)=some u:=by
  intro j u hu
  rw [List.getElem?_take] at hu
  split at hu
  ·rename_i hj
   rw [List.getElem?_drop,List.getElem?_take] at hu
   split at hu
   ·rw [List.getElem?_drop, ← htk,List.getElem?_take] at hu
    split at hu
    ·rw [dY]
     simp only [World.cell?,hg]
     simpa [Nat.add_assoc] using hu
    ·cases hu
   ·cases hu
  ·cases hu
 obtain ⟨v',hrun,hval⟩:=cT tk ht c.w ⟨g,i * τ.size+off,none⟩ _ hsub.size hcell
 refine aH hi (v:=v') ?_ ⟨v',rfl,fk hsub hval⟩
 unfold execOp
 simp [ho,hp,Instr.loadAt,Instr.sureAddr,hrun]
theorem HW (w:World) (g:Nat) (arr:Array Value):w.grownBy (w.setRow g arr) (some g) :=
 ⟨rfl,rfl,rfl,by simp [World.setRow],fun b _ hne=>setRow_other _ _ _ _ (fun e=>hne (by rw [e]))⟩
theorem LM (hi:Inv B w0 St0 c) {k v:Nat} {τ:Ty} {e:TypeId} {l l2:List τ.den} (hk:c.heap[k]? = some (.mrow τ e v l)) {g n cap:Nat} (hr:c.rv k = .slice (some ⟨g,0,none⟩) n cap) {cur:Array Value}
  (hg:c.w.heap[g]? = some (.cells cur e (0,0))) (hl:l2.length=l.length) {arr:Array Value} (ha:arr.size=cur.size) (hrep:Rep c.w c.St (bA (toD τ) l2) (arr.toList.take (n * τ.size))) :
  let c':Gh:={ c with heap:=c.heap.set k (.mrow τ e v l2),w:=c.w.setRow g arr,St:=c.St,rv:=fun i=>if i=k then c.rv k else c.rv i }
  Inv B w0 St0 c'∧Ev c c':=by
 obtain ⟨hn,cur',xs,hg',hnc,hcm,hcs,htk,hrp,hns,hB⟩:=dB hi hk hr
 rw [hg] at hg'
 injection hg' with hg'
 injection hg' with hg'
 subst hg'
 have hob:obk c k=some g:=by unfold obk; rw [hk,hr]; rfl
 have hcell : ∀ (ad:Addr) u,c.St ad.block ad.off→ad.spot=none→c.w.cell? ad=some u→(c.w.setRow g arr).cell? ad=some u:=fun ad u hst _ hc=>by
  have:ad.block≠g:=fun e=>hns ad.off (e ▸ hst)
  exact (World.cell?_of_block (setRow_other _ _ _ _ this)).trans hc
 refine hi.obj (aE hk) (by rw [hob]; exact HW _ _ _) (Nat.le_refl _) (Sb.le.refl _) (fun _ _ _ _ x=>x) (fun _ _ x => .inl x) hcell (.inr ⟨τ,e,v,l,hk,.inl ⟨v,l2,rfl,Nat.le_refl _,fun _=>rfl⟩⟩)
  (.inr ⟨τ,e,v,l2,rfl,.inr (.inl (by rw [hob,hr]; rfl)),arr.toList.take (n * τ.size),⟨?_,.inr ⟨g,cap,arr, ?_,hB,setRow_heap _ _ _ _ _ _ hg,by omega,hcm,by rw [ha,hcs],by rw [hl, ← hn]⟩⟩,hrep.mono (Sb.le.refl _) hcell,fun b hb o => ?_⟩)
 ·have h1:n * τ.size≤arr.toList.length:=by rw [Array.length_toList,ha,hcs]; exact Nat.mul_le_mul_right _ hnc
  rw [List.length_take,Nat.min_eq_left h1,hl, ← hn]
 ·rw [hr,hl, ← hn]
 ·rw [hr] at hb
  simp only [Value.ownBlock,Option.some.injEq] at hb
  rw [← hb]; exact hns o
theorem Qi (hi:Inv B w0 St0 c) (tk:TabOk P tab) {t:TypeId} {x y:Operand} (ho:o.op = .store t x y) {k v i off:Nat} {u:AV} {τ τ':Ty} {e:TypeId} {l:List τ.den} {d:τ'.den} {z:τ.den} (hx:RA c (.mpt k v i off) [a.eval x]) (hy:RA c u [a.eval y])
  (hk:c.heap[k]? = some (.mrow τ e v l)) (ht:tab.ty t=some τ') (hd:dat? τ' u=some d) (hz:ub τ' d τ (l.getD i (zero τ)) off=some z):Ok P B w0 St0 o a c (c.heap.set k (.mrow τ e v (l.set i z))) .unk:=by
 obtain ⟨g,n,cap,hr,hin,hp⟩:=C5 hx hk
 obtain ⟨hn,cur,xs,hg,hnc,hcm,hcs,htk,hrep,hns,hB⟩:=dB hi hk hr
 subst hn
 have he:=xN hrep i hin
 rw [NN hin] at hz
 have hdv:=(dat?_sound hd hy).cells
 have hds:=hdv.size
 obtain ⟨hle,hset⟩:=Vh hdv hz he
 have hch:=Hb hrep hin hset
 have hxl:=bG hrep
 obtain ⟨ii,zz,hinfo,hsz,_⟩:=tk.ty t _ ht
 have hcl:cur.toList.length=cap * τ.size:=by rw [Array.length_toList,hcs]
 have hni:i * τ.size+τ.size≤l.length * τ.size:=by rw [← Nat.succ_mul]; exact Nat.mul_le_mul_right _ hin
 have hnc':l.length * τ.size≤cap * τ.size:=Nat.mul_le_mul_right _ hnc
 have hseg:((xs.drop (i * τ.size)).take τ.size).length=τ.size:=by simp; omega
 rw [hseg] at hle
 generalize hcy:(a.eval y).cells.toList=cy at *
 have hfit:i * τ.size+off+0+cy.length≤cur.size:=by rw [hcs]; omega
 have hst:=run_storeCells_at (P:=P) g (i * τ.size+off) e cy 0 cur c.w hg hfit hdv.one
 simp only [Nat.add_zero] at hst
 have hA:(cur.toList.take (i * τ.size+off)++cy++cur.toList.drop (i * τ.size+off+cy.length)).toArray.size=cur.size:=by
  simp; omega
 have hT:((cur.toList.take (i * τ.size+off)++cy++cur.toList.drop (i * τ.size+off+cy.length)).toArray.toList.take (l.length * τ.size)) =
   xs.take (i * τ.size)++(((xs.drop (i * τ.size)).take τ.size).take off++cy++((xs.drop (i * τ.size)).take τ.size).drop (off+cy.length))++xs.drop (i * τ.size+τ.size):=by
  rw [← htk]
  apply List.ext_getElem?
  intro j
  simp only [List.getElem?_take,List.getElem?_append,List.getElem?_drop,List.length_take,List.length_append,List.length_drop,hcl]
  by_cases h1:j<i * τ.size
  ·have e1:j<l.length * τ.size:=by omega
   have e2:j<min (i * τ.size+off) (cap * τ.size):=by omega
   simp only [e1,if_true]
   repeat (first | rw [if_pos (by omega)] | rw [if_neg (by omega)])
  ·by_cases h2:j<i * τ.size+off
   ·repeat (first | rw [if_pos (by omega)] | rw [if_neg (by omega)])
    congr 1; omega
   ·by_cases h3:j<i * τ.size+off+cy.length
    ·repeat (first | rw [if_pos (by omega)] | rw [if_neg (by omega)])
     congr 1; omega
    ·by_cases h4:j<i * τ.size+τ.size
     ·repeat (first | rw [if_pos (by omega)] | rw [if_neg (by omega)])
      congr 1; omega
     ·by_cases h5:j<l.length * τ.size
      ·repeat (first | rw [if_pos (by omega)] | rw [if_neg (by omega)])
       congr 1; omega
      ·repeat (first | rw [if_pos (by omega)] | rw [if_neg (by omega)])
 obtain ⟨hI,hE⟩:=LM hi hk hr hg (l2:=l.set i z) (by simp) hA (by rw [hT]; exact hch)
 intro K Q h
 have hrun:(execOp a.eval o).run P c.w = .ok .skip (c.w.setRow g (cur.toList.take (i * τ.size+off)++cy++cur.toList.drop (i * τ.size+off+cy.length)).toArray):=by
  unfold execOp
  have hcs':(a.eval y).cells.size=ii.size:=by rw [hsz, ← Array.length_toList,hcy,hds]
  simp [ho,hp,Instr.storeAt,Instr.sureAddr,storeVar,sizeOf,typeInfo,hinfo,hcs',hcy,hst]
 unfold Oper.wp
 rw [hrun]
 exact h undef _ rfl hI hE ⟨_,rfl⟩
theorem XP {r s:Value} {size lo hi i j:Nat} {A:Option Addr} {n cap:Nat} (h:qm r size lo hi s) (hs:s = .slice A n cap) (hcap:n≤cap) (hij:i≤j) (hj:j≤hi-lo) :
  qm r size (lo+i) (lo+j) (.slice (if cap=i then A else A.map (·.add (i * size))) (j-i) (cap-i)):=by
 rcases h with ⟨h1,rfl,rfl,h4⟩ | ⟨g,m,cp,A',h1,h2,h3,h4,h5⟩
 ·rw [hs] at h4
  injection h4 with q1 q2 q3
  subst q1; subst q2; subst q3
  have:i=0:=by omega
  have:j=0:=by omega
  subst i; subst j
  exact .inl ⟨h1,rfl,rfl,rfl⟩
 ·rw [hs] at h4
  injection h4 with q1 q2 q3
  subst q1; subst q2; subst q3
  refine .inr ⟨g,m,cp,_,h1,by omega,by omega,by rw [show lo+j-(lo+i)=j-i by omega,Nat.sub_sub], ?_⟩
  split
  ·rename_i hc
   by_cases h0:i=0
   ·subst h0
    rcases h5 with h5 | h5
    ·exact .inl (by rw [h5,Nat.add_zero])
    ·exact .inr ⟨by omega,by omega⟩
   ·refine .inr ⟨?_,by omega⟩
    omega
  ·rename_i hc
   rcases h5 with h5 | h5
   ·left
    rw [h5]
    simp only [Option.map_some,dY,Nat.add_mul]
   ·omega
theorem B7 {r s:Value} {size lo hi:Nat} (h:qm r size lo hi s) : ∃ A cap,s = .slice A (hi-lo) cap:=by
 rcases h with ⟨_,rfl,rfl,rfl⟩ | ⟨g,m,cp,A',_,_,_,rfl,_⟩
 ·exact ⟨_,_,rfl⟩
 ·exact ⟨_,_,rfl⟩
theorem XR {k v lo hi:Nat} {s:Value} {τ:Ty} {e:TypeId} {l:List τ.den} (hI:Inv B w0 St0 c) (hk:c.heap[k]? = some (.mrow τ e v l)) (h:qm (c.rv k) τ.size lo hi s) {A:Option Addr} {n cap:Nat} (hs:s = .slice A n cap):n≤cap∧n=hi-lo:=by
 rcases h with ⟨h1,rfl,rfl,h4⟩ | ⟨g,m,cp,A',h1,h2,h3,h4,h5⟩
 ·rw [hs] at h4; injection h4 with _ h4 h5; omega
 ·rw [hs] at h4; injection h4 with _ h4 h6
  obtain ⟨_,_,_,_,hnc,_⟩:=dB hI hk h1
  omega
theorem Qj (hi:Inv B w0 St0 c) (tk:TabOk P tab) {t:TypeId} {x:Operand} {low high:Option Operand} (ho:o.op = .slice t x low high none) {k v lo hi':Nat} {τ:Ty} {e:TypeId} {l:List τ.den} (hx:RA c (.msl k v lo hi') [a.eval x])
  (hk:c.heap[k]? = some (.mrow τ e v l)) (ht:tab.ty t=some (.slice τ)) {a1 b1:Option Int} (hlo:Ft (low.map a.eval) a1) (hhi:Ft (high.map a.eval) b1) (hc:(bl a1 b1 (hi'-lo)).1=true) :
  Ok P B w0 St0 o a c c.heap (.msl k v (lo+(bl a1 b1 (hi'-lo)).2.1) (lo+(bl a1 b1 (hi'-lo)).2.2)):=by
 obtain ⟨i,z,_,_,_,_,_,_,hu⟩:=tk.ty t _ ht
 obtain ⟨e',he,hte,_⟩:=hu
 have hlive:=dD hx hk
 obtain ⟨A,cap,hs⟩:=B7 hlive
 obtain ⟨hcap,_⟩:=XR hi hk hlive hs
 obtain ⟨h1,h2,h3⟩:=jz (P:=P) c.w true (hi'-lo) cap hlo hhi hc hcap
 refine aH hi ?_ (qO hk (XP hlive hs hcap h2 h3))
 unfold execOp
 simp only [ho,hs,Instr.sliceAt,Sem.run_bind,run_underlying he,Result.andThen_ok,Instr.slice,Option.map_none,h1,dp tk hte,Sem.run_pure]
theorem YG (hi:Inv B w0 St0 c) (tk:TabOk P tab) {cl:Call} {x:Operand} {t:TypeId} (ho:o.op = .call cl) (hcl:cl.callee = .builtin .len) (hargs:cl.args = #[x]) (hty:cl.argTypes[0]? = some t) {k v lo hi':Nat} {τ:Ty} {e:TypeId} {l:List τ.den} (hx:RA c (.msl k v lo hi') [a.eval x])
  (hk:c.heap[k]? = some (.mrow τ e v l)) (ht:tab.ty t=some (.slice τ)):Ok P B w0 St0 o a c c.heap (.val (.int .i64) ((hi'-lo:Nat):Int)):=by
 obtain ⟨i,z,_,_,_,_,_,_,hu⟩:=tk.ty t _ ht
 obtain ⟨e',he,_⟩:=hu
 obtain ⟨A,cap,hs⟩:=B7 (dD hx hk)
 refine aH hi ?_ (cY _ _)
 unfold execOp
 simp [ho,resolve,hcl,hargs,invoke,builtin,Builtin.len_,hty,hs,run_underlying he,goInt]
theorem adv (hi:Inv B w0 St0 c) {k v m:Nat} {s:Value} {τ:Ty} {e:TypeId} {l:List τ.den} (hk:c.heap[k]? = some (.mrow τ e v l)) (h:qm (c.rv k) τ.size 0 m s) :
  m≤l.length∧s.ownBlock=obk c k ∧ ∃ xs,c.w.ownsRow B e τ.size s m xs∧Rep c.w c.St (bA (toD τ) (l.take m)) xs:=by
 obtain ⟨xs,hown,hrep,_⟩:=hi.mrow k τ e v l hk
 have hob:obk c k=(c.rv k).ownBlock:=by unfold obk; rw [hk]
 rcases h with ⟨h1,_,rfl,rfl⟩ | ⟨g,n,cap,A,h1,_,h3,rfl,h5⟩
 ·exact ⟨Nat.zero_le _,by rw [hob,h1],[],World.ownsRow_nil _ _ _ _,rfl⟩
 ·obtain ⟨rfl,cur,xs',hg,hnc,hcm,hcs,htk,hrp,_,hB⟩:=dB hi hk h1
  rcases h5 with rfl | ⟨_,h5⟩
  ·refine ⟨h3,by rw [hob,h1]; rfl,cur.toList.take (m * τ.size),⟨?_,.inr ⟨g,cap,cur, ?_,hB,hg,by omega,hcm,hcs,rfl⟩⟩, ?_⟩
   ·have:m * τ.size≤cap * τ.size:=Nat.mul_le_mul_right _ (by omega)
    simp; omega
   ·rw [Nat.zero_mul,Nat.sub_zero,Nat.sub_zero]
   ·have:=eO m h3 hrp
    rw [← htk,List.take_take] at this
    rw [Nat.min_eq_left (Nat.mul_le_mul_right _ h3)] at this
    exact this
  ·omega
theorem B6 {w:World} {e:TypeId} {size n:Nat} {v:Value} {xs:List Value} (h:w.ownsRow B e size v n xs):qm v size 0 n v:=by
 rcases h.2 with ⟨rfl,rfl⟩ | ⟨g,cap,cur,rfl,_⟩
 ·exact .inl ⟨rfl,rfl,rfl,rfl⟩
 ·exact .inr ⟨g,n,cap,some ⟨g,0,none⟩,rfl,Nat.zero_le _,Nat.le_refl _,by simp,.inl (by simp)⟩
theorem MY (hi:Inv B w0 St0 c) (tk:TabOk P tab) {cl:Call} {s x:Operand} {t e:TypeId} (ho:o.op = .call cl) (hcl:cl.callee = .builtin .append) (hargs:cl.args = #[s,x]) (hty:cl.argTypes = #[t,t]) {k v m:Nat} {τ:Ty} {l l':List τ.den}
  (hs:RA c (.msl k v 0 m) [a.eval s]) (ht:tab.ty t=some (.slice τ)) (hx : ∃ A cp ds,a.eval x = .slice A l'.length cp∧Rep c.w c.St (bA (toD τ) l') ds∧ds.length=l'.length * τ.size∧(l'.length=0 ∨ ∃ ad,A=some ad ∧ ∀ j u,ds[j]? = some u→c.w.cell? (ad.add j)=some u))
  (he:tab.elem t=some e) (hk:c.heap[k]? = some (.mrow τ e v l)) (hlim:m+l'.length≤LIM) :
  Ok P B w0 St0 o a c (c.heap.set k (.mrow τ e (v+1) (l.take m++l'))) (.msl k (v+1) 0 (m+l'.length)):=by
 obtain ⟨i,z,_,_,_,_,_,_,hu⟩:=tk.ty t _ ht
 obtain ⟨e',u1,u2,u3,hpos⟩:=hu
 have:e'=e:=by rw [he] at u3; exact (Option.some.inj u3).symm
 subst this
 obtain ⟨ie,ze,t1,t2,t3,t4,t5,_⟩:=tk.ty e' τ u2
 have hlive:=dD hs hk
 obtain ⟨hml,hob,xs,hown,hrep⟩:=adv hi hk hlive
 obtain ⟨A,cp,ds,ex,hrx,hdl,hsrc⟩:=hx
 obtain ⟨r63,rby⟩:=jt hlim t5
 obtain ⟨v',w',hrun,h2,h3,h4,h5,hd⟩:=dW (P:=P) (B:=B) c.w t o.type e' ie ze τ.size ie.bytes u1 t1 t3 t2 rfl (by rw [← Array.length_toList,t4, ← (cU (w:=c.w) (St:=c.St) τ).size]) hpos (a.eval s) m xs hown A l'.length cp ds hdl hsrc hrx.one r63 rby hi.size
 obtain ⟨_,_,_,hns⟩:=hi.mrow k τ e' v l hk
 have hobk:obk c k=(c.rv k).ownBlock:=by unfold obk; rw [hk]
 have hcell : ∀ (ad:Addr) u,c.St ad.block ad.off→ad.spot=none→c.w.cell? ad=some u→w'.cell? ad=some u:=fun ad u hst _ hc=>by
  refine h3.cell hc (fun e => ?_)
  rw [hob,hobk] at e
  exact hns ad.block e.symm ad.off hst
 have hlen:(l.take m++l').length=m+l'.length:=by simp; omega
 have hnst : ∀ b,v'.ownBlock=some b → ∀ o,¬ c.St b o:=fun b hb o x=>by
  rcases h4 with h4 | h4
  ·rw [h4,hob,hobk] at hb
   exact hns b hb o x
  ·rw [h4] at hb
   injection hb with hb
   have:=hi.bnd _ _ x
   omega
 obtain ⟨hI,hE⟩:=hi.obj (k:=k) (ho' := .mrow τ e' (v+1) (l.take m++l')) (w':=w') (St':=c.St) (r':=v') (aE hk) (by rw [← hob]; exact h3) hd (Sb.le.refl _) (fun _ _ _ _ x=>x) (fun _ _ x => .inl x) hcell
  (.inr ⟨τ,e',v,l,hk,.inl ⟨v+1,_,rfl,by omega,fun h=>by omega⟩⟩)
  (.inr ⟨τ,e',v+1,_,rfl,.inr (by rw [← hob]; exact h4),xs++ds,by rw [hlen]; exact h2,(di hrep hrx).mono (Sb.le.refl _) hcell,hnst⟩)
 refine cx (v:=v') (cJ ho hcl hargs hty (by rw [ex]; exact hrun)) rfl hI hE (qO (l:=l.take m++l') (e:=e') (τ:=τ) ?_ ?_)
 ·show (c.heap.set k _)[k]? = _
  rw [bv,if_pos rfl,if_pos (aE hk)]
 ·show qm (if k=k then v' else c.rv k) τ.size 0 (m+l'.length) v'
  rw [if_pos rfl]
  exact B6 h2
theorem CW (hi:Inv B w0 St0 c) (tk:TabOk P tab) {cl:Call} {s x:Operand} {t e:TypeId} (ho:o.op = .call cl) (hcl:cl.callee = .builtin .append) (hargs:cl.args = #[s,x]) (hty:cl.argTypes = #[t,t]) {fresh:Nat} {τ:Ty} {l':List τ.den} {u:AV}
  (hs:RA c .nil [a.eval s]) (hx:RA c u [a.eval x]) (hl:uA (tab.ty t) u=some ⟨τ,l'⟩) (he:tab.elem t=some e) (hf:c.heap[fresh]? = some .none) (hlim:l'.length≤LIM) :
  Ok P B w0 St0 o a c (c.heap.set fresh (.mrow τ e 1 l')) (.msl fresh 1 0 l'.length):=by
 obtain ⟨ht,hxv⟩:=eC hl hx
 obtain ⟨i,z,_,_,_,_,_,_,hu⟩:=tk.ty t _ ht
 obtain ⟨e',u1,u2,u3,hpos⟩:=hu
 have:e'=e:=by rw [he] at u3; exact (Option.some.inj u3).symm
 subst this
 obtain ⟨ie,ze,t1,t2,t3,t4,t5,_⟩:=tk.ty e' τ u2
 obtain ⟨A,cp,ds,ex,hrx,hdl,hsrc⟩:=vK hxv
 obtain ⟨r63,rby⟩:=jt hlim t5
 have hs:[a.eval s]=[.slice none 0 0]:=hs
 simp only [List.cons.injEq,and_true] at hs
 obtain ⟨v',w',hrun,h2,h3,h4,h5,hd⟩:=dW (P:=P) (B:=B) c.w t o.type e' ie ze τ.size ie.bytes u1 t1 t3 t2 rfl (by rw [← Array.length_toList,t4, ← (cU (w:=c.w) (St:=c.St) τ).size]) hpos (.slice none 0 0) 0 [] (World.ownsRow_nil _ _ _ _) A l'.length cp ds hdl hsrc hrx.one (by simpa using r63) (by simpa using rby) hi.size
 have hnone:obk c fresh=none:=by unfold obk; rw [hf]
 have hcell : ∀ (ad:Addr) u,c.St ad.block ad.off→ad.spot=none→c.w.cell? ad=some u→w'.cell? ad=some u:=fun ad u hst _ hc=>by
  refine h3.cell hc (fun e => ?_)
  cases e
 have hnst : ∀ b,v'.ownBlock=some b → ∀ o,¬ c.St b o:=fun b hb o x=>by
  rcases h4 with h4 | h4
  ·rw [h4] at hb; cases hb
  ·rw [h4] at hb
   injection hb with hb
   have:=hi.bnd _ _ x
   omega
 have h2':w'.ownsRow B e' τ.size v' l'.length ds:=by simpa using h2
 obtain ⟨hI,hE⟩:=hi.obj (k:=fresh) (ho' := .mrow τ e' 1 l') (w':=w') (St':=c.St) (r':=v') (aE hf) (by rw [hnone]; exact h3) hd (Sb.le.refl _) (fun _ _ _ _ x=>x) (fun _ _ x => .inl x) hcell (.inl hf)
  (.inr ⟨τ,e',1,_,rfl,.inr (by rw [hnone]; exact h4),ds,h2',hrx.mono (Sb.le.refl _) hcell,hnst⟩)
 refine cx (v:=v') (cJ ho hcl hargs hty (by rw [hs,ex]; exact hrun)) rfl hI hE (qO (l:=l') (e:=e') (τ:=τ) ?_ ?_)
 ·show (c.heap.set fresh _)[fresh]? = _
  rw [bv,if_pos rfl,if_pos (aE hf)]
 ·show qm (if fresh=fresh then v' else c.rv fresh) τ.size 0 l'.length v'
  rw [if_pos rfl]
  exact B6 h2'
theorem ym {w:World} {St:Sb} {τ:Ty} {z:Array Value} (hz:z.toList=zl τ) (hpos:0<τ.size) : ∀ n,Rep w St (bA (toD τ) (List.replicate n (zero τ))) (Builtin.zeroCells z n).toList:=by
 have hsz:z.size=τ.size:=by rw [← Array.length_toList,hz]; exact (cU (w:=w) (St:=St) τ).size
 have key : ∀ n,(Builtin.zeroCells z n).toList=(List.replicate n (zl τ)).flatten:=by
  intro n
  apply List.ext_getElem?
  intro j
  have hl1:(Builtin.zeroCells z n).toList.length=n * τ.size:=by rw [Array.length_toList,size_zeroCells,hsz]
  have hl2:((List.replicate n (zl τ)).flatten).length=n * τ.size:=by
   simp [List.length_flatten, ← hz,hsz]
  by_cases hj:j<n * τ.size
  ·have hmod:j % τ.size<τ.size:=Nat.mod_lt _ hpos
   have e1:(Builtin.zeroCells z n).toList[j]? = some z[j % τ.size]! := by
    simp only [Builtin.zeroCells,hsz]
    simp [hj]
   have : ∀ n j,j<n * τ.size→((List.replicate n (zl τ)).flatten)[j]? = some z[j % τ.size]! := by
    intro n
    induction n with
    | zero=>intro j hj; omega
    | succ n ih =>
     intro j hj
     rw [List.replicate_succ,List.flatten_cons]
     have hzl:(zl τ).length=τ.size:=by rw [← hz,Array.length_toList,hsz]
     by_cases hlt:j<τ.size
     ·rw [List.getElem?_append_left (by omega),Nat.mod_eq_of_lt hlt, ← hz]
      have:j<z.size:=by omega
      simp [this,getElem!_pos]
     ·rw [List.getElem?_append_right (by omega),hzl,ih (j-τ.size) (by rw [Nat.succ_mul] at hj; omega), ← Nat.mod_eq_sub_mod (by omega)]
   rw [e1,this n j hj]
  ·rw [List.getElem?_eq_none (by omega),List.getElem?_eq_none (by omega)]
 intro n
 rw [key n]
 induction n with
 | zero=>rfl
 | succ n ih=>exact ⟨zl τ,_,by rw [List.replicate_succ,List.flatten_cons],cU τ,ih⟩
theorem adF (hi:Inv B w0 St0 c) (tk:TabOk P tab) {t:TypeId} {x y:Operand} (ho:o.op = .makeSlice t x y) {fresh:Nat} (hf:c.heap[fresh]? = some .none) {q q':IntKind} {n m:Int} {τ:Ty} {e:TypeId} (hx:RA c (.val (.int q) n) [a.eval x]) (hy:RA c (.val (.int q') m) [a.eval y])
  (ht:tab.ty t=some (.slice τ)) (he:tab.elem t=some e) (h0:0≤n) (h1:n≤m) (h2:m≤(LIM:Int)) :
  Ok P B w0 St0 o a c (c.heap.set fresh (.mrow τ e 0 (List.replicate n.toNat (zero τ)))) (.msl fresh 0 0 n.toNat):=by
 obtain ⟨i,z,_,_,_,_,_,_,hu⟩:=tk.ty t _ ht
 obtain ⟨e',u1,u2,u3,hpos⟩:=hu
 have:e'=e:=by rw [he] at u3; exact (Option.some.inj u3).symm
 subst this
 obtain ⟨ie,ze,t1,t2,t3,t4,t5,_⟩:=tk.ty e' τ u2
 have hxv:=cM hx.val_inv
 have hyv:=cM hy.val_inv
 unfold LIM at h2
 have hm0:(m.toNat:Int)=m:=Int.toNat_of_nonneg (by omega)
 have hbytes:(ie.bytes:Int) * m≤281474976710656:=by
  have h3:ie.bytes * m.toNat≤16384 * 4294967296:=Nat.mul_le_mul t5 (by omega)
  have h4:((ie.bytes * m.toNat:Nat):Int)≤281474976710656:=by omega
  rw [Int.natCast_mul,hm0] at h4
  exact h4
 have hrun:=run_make (P:=P) c.w t e' ie ze u1 t1 t3 q q' n m h0 h1 hbytes (by omega)
 have hzs:ze.cells.size=τ.size:=by rw [← Array.length_toList,t4]; exact (cU (w:=c.w) (St:=c.St) τ).size
 have hmade:madeCells ze.cells (m.toNat * ie.size)=Builtin.zeroCells ze.cells m.toNat:=by
  unfold madeCells Builtin.zeroCells
  rw [t2, ← hzs]
 rw [hmade] at hrun
 have htake:(Builtin.zeroCells ze.cells m.toNat).toList.take (n.toNat * τ.size)=(Builtin.zeroCells ze.cells n.toNat).toList:=by
  have hle:n.toNat * τ.size≤m.toNat * τ.size:=Nat.mul_le_mul_right _ (by omega)
  apply List.ext_getElem?
  intro j
  simp only [Builtin.zeroCells,hzs]
  rw [List.getElem?_take]
  by_cases hj:j<n.toNat * τ.size
  ·have:j<m.toNat * τ.size:=by omega
   simp [hj,this]
  ·simp [hj]
 have hb:Below c.w.heap.size c.w (c.w.alloc (.cells (Builtin.zeroCells ze.cells m.toNat) e')):=(Below.refl _ _).alloc (Nat.le_refl _) _
 have hnone:obk c fresh=none:=by unfold obk; rw [hf]
 have hrep:=ym (w:=c.w) (St:=c.St) t4 hpos n.toNat
 have hcell : ∀ (ad:Addr) u,c.St ad.block ad.off→ad.spot=none→c.w.cell? ad=some u→(c.w.alloc (.cells (Builtin.zeroCells ze.cells m.toNat) e')).cell? ad=some u:=fun ad u hst _ hc=>(hb.cell (hi.bnd _ _ hst)).trans hc
 have hlenr:(List.replicate n.toNat (zero τ)).length=n.toNat:=by simp
 obtain ⟨hI,hE⟩:=hi.obj (k:=fresh) (ho' := .mrow τ e' 0 (List.replicate n.toNat (zero τ))) (w':=c.w.alloc (.cells (Builtin.zeroCells ze.cells m.toNat) e')) (St':=c.St) (r' := .slice (some ⟨c.w.heap.size,0,none⟩) n.toNat m.toNat) (aE hf)
  (by rw [hnone]; exact ⟨rfl,rfl,rfl,hb.size,fun b hb' _=>hb.block b hb'⟩) (Nat.le_refl _) (Sb.le.refl _) (fun _ _ _ _ x=>x) (fun _ _ x => .inl x) hcell (.inl hf)
  (.inr ⟨τ,e',0,_,rfl,.inr (.inr rfl),_,⟨by rw [bG hrep],.inr ⟨c.w.heap.size,m.toNat,Builtin.zeroCells ze.cells m.toNat,by rw [hlenr],hi.size,heap_alloc_new c.w _,by rw [hlenr]; omega,by simp only [maxLen]; omega,by rw [size_zeroCells,hzs],by rw [hlenr]; exact htake⟩⟩,hrep.mono (Sb.le.refl _) hcell,fun b hb' o x=>by
   simp only [Value.ownBlock,Option.some.injEq] at hb'
   have:=hi.bnd _ _ x
   omega⟩)
 refine cx (v := .slice (some ⟨c.w.heap.size,0,none⟩) n.toNat m.toNat) ?_ rfl hI hE (qO (τ:=τ) (e:=e') (l:=List.replicate n.toNat (zero τ)) ?_ ?_)
 ·unfold execOp
  simp [ho,hxv,hyv,hrun]
 ·show (c.heap.set fresh _)[fresh]? = _
  rw [bv,if_pos rfl,if_pos (aE hf)]
 ·show qm (if fresh=fresh then _ else c.rv fresh) τ.size 0 n.toNat _
  rw [if_pos rfl]
  exact .inr ⟨c.w.heap.size,n.toNat,m.toNat,some ⟨c.w.heap.size,0,none⟩,rfl,Nat.zero_le _,Nat.le_refl _,by simp,.inl (by simp)⟩
theorem AC (hi:Inv B w0 St0 c) (tk:TabOk P tab) {t:TypeId} {parts:Array (Nat×Operand)} (ho:o.op = .buildSlice t 0 parts) (hp:parts.size=0) {fresh:Nat} {τ:Ty} {e:TypeId}
  (ht:tab.ty t=some (.slice τ)) (he:tab.elem t=some e) (hf:c.heap[fresh]? = some .none):Ok P B w0 St0 o a c (c.heap.set fresh (.mrow τ e 0 [])) (.msl fresh 0 0 0):=by
 obtain ⟨i,z,_,_,_,_,_,_,hu⟩:=tk.ty t _ ht
 obtain ⟨e',u1,u2,u3,hpos⟩:=hu
 have:e'=e:=by rw [he] at u3; exact (Option.some.inj u3).symm
 subst this
 have hpe:parts = #[]:=Array.eq_empty_of_size_eq_zero hp
 subst hpe
 have hnone:obk c fresh=none:=by unfold obk; rw [hf]
 have hb:Below c.w.heap.size c.w (c.w.alloc (.cells #[] e')):=(Below.refl _ _).alloc (Nat.le_refl _) _
 have hcell : ∀ (ad:Addr) u,c.St ad.block ad.off→ad.spot=none→c.w.cell? ad=some u→(c.w.alloc (.cells #[] e')).cell? ad=some u:=fun ad u hst _ hc=>(hb.cell (hi.bnd _ _ hst)).trans hc
 have hrep:Rep c.w c.St (bA (toD τ) []) []:=rfl
 obtain ⟨hI,hE⟩:=hi.obj (k:=fresh) (ho' := .mrow τ e' 0 []) (w':=c.w.alloc (.cells #[] e')) (St':=c.St) (r' := .slice (some ⟨c.w.heap.size,0,none⟩) 0 0) (aE hf)
  (by rw [hnone]; exact ⟨rfl,rfl,rfl,hb.size,fun b hb' _=>hb.block b hb'⟩) (Nat.le_refl _) (Sb.le.refl _) (fun _ _ _ _ x=>x) (fun _ _ x => .inl x) hcell (.inl hf)
  (.inr ⟨τ,e',0,_,rfl,.inr (.inr rfl),[],⟨by simp,.inr ⟨c.w.heap.size,0, #[],rfl,hi.size,heap_alloc_new c.w _,Nat.le_refl _,by simp [maxLen],by simp,by simp⟩⟩,hrep.mono (Sb.le.refl _) hcell,fun b hb' o x=>by
   simp only [Value.ownBlock,Option.some.injEq] at hb'
   have:=hi.bnd _ _ x
   omega⟩)
 refine cx (v := .slice (some ⟨c.w.heap.size,0,none⟩) 0 0) ?_ rfl hI hE (qO (τ:=τ) (e:=e') (l:=[]) ?_ ?_)
 ·unfold execOp
  have hno : ¬ (0 * τ.size>2 ^ 24):=by omega
  have h0:0 * τ.size=0:=Nat.zero_mul _
  simp only [ho,Instr.buildSlice,Sem.run_bind,run_underlying u1,Result.andThen_ok,dp tk u2,if_neg hno]
  rw [if_pos h0,Sem.run_bind,Sem.run_pure,Result.andThen_ok]
  simp [newRow,Instr.fill,show Array.range 0 = #[] from rfl]
 ·show (c.heap.set fresh _)[fresh]? = _
  rw [bv,if_pos rfl,if_pos (aE hf)]
 ·show qm (if fresh=fresh then _ else c.rv fresh) τ.size 0 0 _
  rw [if_pos rfl]
  exact .inr ⟨c.w.heap.size,0,0,some ⟨c.w.heap.size,0,none⟩,rfl,Nat.zero_le _,Nat.le_refl _,by simp,.inl (by simp)⟩
theorem F7 {w:World} {St:Sb} : ∀ {l:List Int} {ds:List Value},Rep w St (bA (toD (.int .u8)) l) ds→ds=l.map (fun n => .int .u8 n)
 | [],ds,h=>h
 | n::l,ds,h=>by
  obtain ⟨c1,c2,rfl,⟨rfl,_⟩,h2⟩:=h
  rw [F7 h2]; rfl
theorem E3 (hi:Inv B w0 St0 c) (tk:TabOk P tab) {s t:TypeId} {x:Operand} (ho:o.op = .convert s t x) {u:AV} {l:List Int} (hx:RA c u [a.eval x]) (hl:one? (.slice (.int .u8)) u=some l) (ht:tab.ty t=some .str) (hs:tab.ty s=some (.slice (.int .u8))) :
  Ok P B w0 St0 o a c c.heap (.val .str (l.map fun n:Int=>UInt8.ofNat n.toNat)):=by
 obtain ⟨i,z,_,_,_,_,_,_,hu⟩:=tk.ty t _ ht
 have hu:P.underlying t=some .string:=hu
 obtain ⟨i',z',_,_,_,_,_,_,hus⟩:=tk.ty s _ hs
 obtain ⟨e,u1,u2,u3,hpos⟩:=hus
 obtain ⟨_,_,_,_,_,_,_,_,hue⟩:=tk.ty e _ u2
 have hue:P.underlying e=some (.int .u8):=hue
 obtain ⟨A,cp,ev,hcap,hds⟩:=fT ((aA (t := .slice (.int .u8)) rfl).1 (one?_sound hl hx))
 simp only [List.cons.injEq,and_true] at ev
 refine aH hi (v := .string ⟨(l.map fun n:Int=>UInt8.ofNat n.toNat).toArray⟩) ?_ (yo _)
 have hconv:(Conv.bytesToString (a.eval x)).run P c.w = .ok (.string ⟨(l.map fun n:Int=>UInt8.ofNat n.toNat).toArray⟩) c.w:=by
  rw [ev]
  cases A with
  | none =>
   have hl0:l=[]:=by
    rcases hds with h0 | ⟨ad,ds,h0,_⟩
    ·exact List.eq_nil_of_length_eq_zero h0
    ·cases h0
   subst hl0
   simp [Conv.bytesToString]
   rfl
  | some ad =>
   have hload:(loadCells ad l.length).run P c.w = .ok (l.map (Value.int .u8)).toArray c.w:=by
    rcases hds with h0 | ⟨ad',ds,h0,_,hrep,hcell⟩
    ·have:l=[]:=List.eq_nil_of_length_eq_zero h0
     subst this
     simp [loadCells,loadCellsFrom]
    ·injection h0 with h0
     subst h0
     have hb:=F7 hrep
     have:=run_loadCells_list (P:=P) c.w ad ds (fun j u hu=>(hcell j u hu).1)
     rw [hb] at this
     simpa using this
   rw [run_bytesToString (P:=P) c.w ad l.length cp l hload]
   have hfold : ∀ (ns:List Int) (acc:ByteArray),ns.foldl (fun r n=>r.push (UInt8.ofNat n.toNat)) acc=⟨acc.data++(ns.map fun n:Int=>UInt8.ofNat n.toNat).toArray⟩:=by
    intro ns
    induction ns with
    | nil=>intro acc; simp
    | cons n ns ih=>intro acc; simp only [List.foldl_cons,ih,List.map_cons]; congr 1; simp [ByteArray.push]
   rw [hfold]
   congr 3
   simp
 unfold execOp
 simp [ho,convert,run_underlying u1,run_underlying hu]
 rw [ev] at hconv ⊢
 simp [run_underlying hue,hconv]
end
end Go.Proofs.YtboikinjlmjgjaaGreat.Abs
