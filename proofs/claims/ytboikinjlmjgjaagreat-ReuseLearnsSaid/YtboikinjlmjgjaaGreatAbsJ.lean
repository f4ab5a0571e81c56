/- One operation, the end: slices, append, calls; 'eff' is sound. -/
import Derived.Test.YtboikinjlmjgjaaGreatAbsI
namespace Go.Proofs.YtboikinjlmjgjaaGreat.Abs
open Go Go.RowKit
section
variable {P:Program} {tab:Tab} {B:Bd} {w0:World} {St0:Sb} {c:Gh} {o:Oper} {a:Act}
def Ft:Option Value→Option Int→Prop
 | none,none=>True
 | some v,some n => ∃ k,v = .int k n
 | _,_=>False
theorem jz (w:World) (isSlice:Bool) (len cap:Nat) {lo hi:Option Value} {lo' hi':Option Int} (hlo:Ft lo lo') (hhi:Ft hi hi') (hc:(bl lo' hi' len).1=true) (hcap:len≤cap) :
  (Instr.sliceBounds isSlice len cap lo hi none).run P w = .ok ((bl lo' hi' len).2.1,(bl lo' hi' len).2.2,cap) w∧(bl lo' hi' len).2.1≤(bl lo' hi' len).2.2∧(bl lo' hi' len).2.2≤len:=by
 match lo,lo',hlo,hi,hi',hhi with
 | none,none,_,none,none,_=>simp [Instr.sliceBounds,bl]
 | some _,some n,⟨k,rfl⟩,none,none,_ =>
  simp only [bl,Bool.and_eq_true,decide_eq_true_eq] at hc
  refine ⟨?_, ?_, ?_⟩
  ·simp [Instr.sliceBounds,bl,Instr.sliceBound,asIntOf,hc.1,hc.2]
  ·simp [bl]; omega
  ·simp [bl]
 | none,none,_,some _,some m,⟨k,rfl⟩ =>
  simp only [bl,Bool.and_eq_true,decide_eq_true_eq] at hc
  have h2:m≤(cap:Int):=by omega
  refine ⟨?_, ?_, ?_⟩
  ·simp [Instr.sliceBounds,bl,Instr.sliceBound,asIntOf,hc.1,h2]
  ·simp [bl]
  ·simp [bl]; omega
 | some _,some n,⟨k,rfl⟩,some _,some m,⟨k',rfl⟩ =>
  simp only [bl,Bool.and_eq_true,decide_eq_true_eq] at hc
  have h2:m≤(cap:Int):=by omega
  have h3:0≤m:=by omega
  refine ⟨?_, ?_, ?_⟩
  ·have h5:max m 0=m:=by omega
   have h6 : ¬ m<n:=by omega
   simp [Instr.sliceBounds,bl,Instr.sliceBound,asIntOf,h3,h2,hc.1.1,h5,h6]
  ·simp [bl]; omega
  ·simp [bl]; omega
theorem Ti {w:World} {St:Sb} {τ:Ty} {l:List τ.den} {A:Option Addr} {cap i j:Nat} (hr:Rep w St (toD (.slice τ) l) [.slice A l.length cap]) (hij:i≤j) (hj:j≤l.length) :
  Rep w St (toD (.slice τ) ((l.take j).drop i)) [.slice (if cap=i then A else A.map (·.add (i * τ.size))) (j-i) (cap-i)]:=by
 obtain ⟨A',cp,e,hc,hds⟩:=fT hr
 simp only [List.cons.injEq,Value.slice.injEq,and_true,true_and] at e
 obtain ⟨rfl,rfl⟩:=e
 have hlen:((l.take j).drop i).length=j-i:=by simp; omega
 refine ⟨_,_,_,rfl,by rw [e6,hlen],by omega, ?_⟩
 by_cases h0:j-i=0
 ·exact .inl h0
 ·obtain ⟨ad,ds,rfl,hsp,hrep,hcell⟩:=hds.resolve_left (by omega)
  rw [if_neg (by omega)]
  have h1:=eO j hj hrep
  have h2:=im i (by simp; omega) h1
  refine .inr ⟨_,_,rfl,(gi ad hsp _).2.2,h2,fun k u hu => ?_⟩
  rw [List.getElem?_drop,List.getElem?_take] at hu
  split at hu
  ·obtain ⟨g1,g2⟩:=hcell _ _ hu
   obtain ⟨f1,f2,_⟩:=gi ad hsp (i * τ.size)
   rw [BG,f1,f2,Nat.add_assoc]
   exact ⟨g1,g2⟩
  ·cases hu
theorem YF (hi:Inv B w0 St0 c) (tk:TabOk P tab) {t:TypeId} {x:Operand} {low high:Option Operand} (ho:o.op = .slice t x low high none) {s:AV} (hx:RA c s [a.eval x]) {lo hi':Option Int} (hlo:Ft (low.map a.eval) lo) (hhi:Ft (high.map a.eval) hi')
  {τ:Ty} {l:List τ.den} (hl:uA (tab.ty t) s=some ⟨τ,l⟩) (hc:(bl lo hi' l.length).1=true) :
  Ok P B w0 St0 o a c c.heap (.val (.slice τ) ((l.take (bl lo hi' l.length).2.2).drop (bl lo hi' l.length).2.1)):=by
 obtain ⟨ht,hv⟩:=eC hl hx
 obtain ⟨i,z,_,_,_,_,_,_,hu⟩:=tk.ty t _ ht
 obtain ⟨e,he,hte,_⟩:=hu
 have hr:=(aA (t := .slice τ) rfl).1 hv
 obtain ⟨A,cp,ev,hcap,_⟩:=fT hr
 simp only [List.cons.injEq,and_true] at ev
 rw [ev] at hr
 obtain ⟨h1,h2,h3⟩:=jz (P:=P) c.w true l.length cp hlo hhi hc hcap
 refine aH hi ?_ ⟨_,rfl,(aA rfl).2 (Ti hr h2 h3)⟩
 unfold execOp
 simp only [ho,ev,Instr.sliceAt,Sem.run_bind,run_underlying he,Result.andThen_ok,Instr.slice,Option.map_none,h1,dp tk hte,Sem.run_pure]
theorem Iy (hi:Inv B w0 St0 c) (tk:TabOk P tab) {t:TypeId} {x:Operand} {low high:Option Operand} (ho:o.op = .slice t x low high none) {s:AV} (hx:RA c s [a.eval x]) {lo hi':Option Int} (hlo:Ft (low.map a.eval) lo) (hhi:Ft (high.map a.eval) hi')
  {l:Str} (hl:vE (tab.ty t) s=some l) (hc:(bl lo hi' l.length).1=true) :
  Ok P B w0 St0 o a c c.heap (.val .str ((l.take (bl lo hi' l.length).2.2).drop (bl lo hi' l.length).2.1)):=by
 obtain ⟨ht,hv⟩:=qD hl hx
 obtain ⟨i,z,_,_,_,_,_,_,hu⟩:=tk.ty t _ ht
 have hu:P.underlying t=some .string:=hu
 obtain ⟨h1,h2,h3⟩:=jz (P:=P) c.w false l.length l.length hlo hhi hc (Nat.le_refl _)
 have hsz:(⟨l.toArray⟩:ByteArray).size=l.length:=by simp [ByteArray.size]
 generalize (bl lo hi' l.length).2.1=p at *
 generalize (bl lo hi' l.length).2.2=q at *
 have hext:(⟨l.toArray⟩:ByteArray).extract p q=⟨((l.take q).drop p).toArray⟩:=by
  apply ByteArray.ext
  simp [ByteArray.data_extract,List.drop_take,List.extract_eq_take_drop]
 refine aH hi (v := .string ⟨((l.take q).drop p).toArray⟩) ?_ (yo _)
 unfold execOp
 simp only [ho,hv,Instr.sliceAt,Sem.run_bind,run_underlying hu,Result.andThen_ok,Instr.slice,Option.map_none,Option.isSome_none,Bool.false_eq_true,if_false,hsz,h1,Sem.run_pure,hext]
theorem Qn (hi:Inv B w0 St0 c) {x:Operand} {i:Nat} (ho:o.op = .extract x i) {p u:AV} (hx:RA c (.tup p) [a.eval x]) (hp:p.parts[i]? = some u):Ok P B w0 St0 o a c c.heap u:=by
 obtain ⟨cs,e,hr,hc⟩:=hx
 obtain ⟨v,hv,hru⟩:=(hr.parts hc).get i u hp
 simp only [List.cons.injEq,and_true] at e
 refine aH hi (v:=v) ?_ hru
 unfold execOp
 simp [ho,e,Instr.extract,hv]
theorem MX (hi:Inv B w0 St0 c) {f:FuncId} {first captured:Array Operand} (ho:o.op = .makeFunc (.func f) first captured) (hf:first.size=0) {us:List AV} (hv:RAs c us (captured.toList.map a.eval)):Ok P B w0 St0 o a c c.heap (.fn f (br us)):=by
 have:first = #[]:=Array.size_eq_zero_iff.1 hf
 subst this
 refine aH hi (v := .func (.func f) #[] (captured.toList.map a.eval).toArray) ?_ ⟨_,rfl,RA.of_chain hv,eK us⟩
 have e:captured.map a.eval=(captured.toList.map a.eval).toArray:=Array.ext' (by simp)
 unfold execOp
 simp [ho,Instr.makeFunc,e]
theorem vK {τ:Ty} {l:List τ.den} {v:Value} (h:cE c.w c.St (.slice τ) l v) : ∃ A cp ds,v = .slice A l.length cp∧Rep c.w c.St (bA (toD τ) l) ds∧ds.length=l.length * τ.size∧(l.length=0 ∨ ∃ ad,A=some ad ∧ ∀ j u,ds[j]? = some u→c.w.cell? (ad.add j)=some u):=by
 obtain ⟨A,cp,ev,hcap,hds⟩:=fT ((aA (t := .slice τ) rfl).1 h)
 simp only [List.cons.injEq,and_true] at ev
 rcases hds with h0 | ⟨ad,ds,rfl,_,hrep,hcell⟩
 ·have:l=[]:=List.eq_nil_of_length_eq_zero h0
  subst this
  exact ⟨A,cp,[],ev,rfl,by simp,.inl rfl⟩
 ·exact ⟨_,cp,ds,ev,hrep,bG hrep,.inr ⟨ad,rfl,fun j u hu=>(hcell j u hu).1⟩⟩
theorem jt {n bytes:Nat} (h:n≤LIM) (hb:bytes≤16384):n≤maxLen∧n * bytes≤140737488355328:=by
 unfold LIM at h
 refine ⟨by simp only [maxLen]; omega, ?_⟩
 have:n * bytes≤4294967296 * 16384:=Nat.mul_le_mul h hb
 omega
theorem cJ {cl:Call} {s x:Operand} {t:TypeId} (ho:o.op = .call cl) (hcl:cl.callee = .builtin .append) (hargs:cl.args = #[s,x]) (hty:cl.argTypes = #[t,t]) {w w':World} {v':Value}
  (hrun:(Builtin.append_ #[t,t] o.type #[a.eval s,a.eval x]).run P w = .ok v' w'):(execOp a.eval o).run P w = .ok (.value v') w':=by
 unfold execOp
 simp [ho,resolve,hcl,hargs,hty,invoke,builtin,hrun]
theorem yq {w':World} {St':Sb} {e:TypeId} {v':Value} {τ:Ty} {l:List τ.den} {n:Nat} {xs:List Value} (h2:w'.ownsRow B e τ.size v' n xs) (hx2:Rep w' St' (bA (toD τ) l) xs) (hn:l.length=n)
  (hst : ∀ b o,v'.ownBlock=some b→o<n * τ.size→St' b o):Rep w' St' (toD (.slice τ) l) [v']:=by
 subst hn
 rcases h2.2 with ⟨q1,q2⟩ | ⟨g,cap,cur,q1,q2,q3,q4,q5,_⟩
 ·rw [q1]
  have:l=[]:=List.eq_nil_of_length_eq_zero q2
  rw [this]
  exact ⟨none,0,0,rfl,rfl,Nat.le_refl _,.inl rfl⟩
 ·subst q1
  refine ⟨_,_,_,rfl,by rw [e6],q4,.inr ⟨_,_,rfl,rfl,hx2,fun j u hu=>⟨h2.cells (g:=g) rfl j u hu, ?_⟩⟩⟩
  have:=aE hu
  rw [h2.1] at this
  exact hst _ _ rfl (by simpa using this)
theorem ug (hi:Inv B w0 St0 c) (tk:TabOk P tab) {cl:Call} {s x:Operand} {t e:TypeId} (ho:o.op = .call cl) (hcl:cl.callee = .builtin .append) (hargs:cl.args = #[s,x]) (hty:cl.argTypes = #[t,t]) {k v:Nat} {τ:Ty} {l l':List τ.den}
  (hs:RA c (.own k v τ l) [a.eval s]) (hx : ∃ A cp ds,a.eval x = .slice A l'.length cp∧Rep c.w c.St (bA (toD τ) l') ds∧ds.length=l'.length * τ.size∧(l'.length=0 ∨ ∃ ad,A=some ad ∧ ∀ j u,ds[j]? = some u→c.w.cell? (ad.add j)=some u)) (ht:tab.ty t=some (.slice τ)) (he:tab.elem t=some e) (hk:c.heap[k]? = some (.row τ e v)) (hlim:l.length+l'.length≤LIM) :
  Ok P B w0 St0 o a c (c.heap.set k (.row τ e (v+1))) (.own k (v+1) τ (l++l')):=by
 obtain ⟨i,z,_,_,_,_,_,_,hu⟩:=tk.ty t _ ht
 obtain ⟨e',u1,u2,u3,hpos⟩:=hu
 have:e'=e:=by rw [he] at u3; exact (Option.some.inj u3).symm
 subst this
 obtain ⟨ie,ze,t1,t2,t3,t4,t5,_⟩:=tk.ty e' τ u2
 obtain ⟨sv,es,hsv,tt,te,vv,hrow,_,hcur⟩:=hs
 simp only [List.cons.injEq,and_true] at es
 rw [hk] at hrow
 injection hrow with hrow
 injection hrow with r1 r2 r3
 have hsv':sv=c.rv k:=hcur r3.symm
 obtain ⟨n,xs,hown,hsp⟩:=hi.row k τ e' v hk
 have hn:n=l.length∧Rep c.w c.St (bA (toD τ) l) xs:=by
  obtain ⟨A,cp,ev,hcap,hds⟩:=fT ((aA (t := .slice τ) rfl).1 hsv)
  simp only [List.cons.injEq,and_true] at ev
  rcases hown.2 with ⟨h1,h2⟩ | ⟨g,cap,cur,h1,_⟩
  ·rw [← hsv',ev] at h1
   injection h1 with _ h3 _
   have:l=[]:=List.eq_nil_of_length_eq_zero h3
   subst this
   have hx0:xs=[]:=List.eq_nil_of_length_eq_zero (by rw [hown.1,h2]; simp)
   subst hx0
   exact ⟨h2,rfl⟩
  ·rw [← hsv',ev] at h1
   injection h1 with h2 h3 _
   refine ⟨h3.symm, ?_⟩
   rcases hds with h0 | ⟨ad,ds,hA,_,hrep,hcell⟩
   ·have:l=[]:=List.eq_nil_of_length_eq_zero h0
    subst this
    have hx0:xs=[]:=List.eq_nil_of_length_eq_zero (by rw [hown.1, ← h3]; simp)
    subst hx0
    rfl
   ·rw [hA] at h2
    injection h2 with h2
    subst h2
    have hc2:=hown.cells (g:=g) (by rw [← hsv',ev,hA]; rfl)
    have hdx:ds=xs:=by
     apply List.ext_getElem?
     intro j
     have hl1:=bG hrep
     have hl2:xs.length=ds.length:=by rw [hown.1,hl1,h3]
     by_cases hj:j<ds.length
     ·have e1:=(hcell j ds[j] (List.getElem?_eq_getElem hj)).1
      have e2:=hc2 j xs[j] (List.getElem?_eq_getElem (by omega))
      rw [List.getElem?_eq_getElem hj,List.getElem?_eq_getElem (by omega:j<xs.length), ← e1, ← e2]
     ·rw [List.getElem?_eq_none (by omega),List.getElem?_eq_none (by omega)]
    rw [← hdx]
    exact hrep
 obtain ⟨rfl,hrep⟩:=hn
 obtain ⟨A,cp,ds,ex,hrx,hdl,hsrc⟩:=hx
 obtain ⟨r63,rby⟩:=jt hlim t5
 obtain ⟨v',w',hrun,h2,h3,h4,h5,hd⟩:=dW (P:=P) (B:=B) c.w t o.type e' ie ze τ.size ie.bytes u1 t1 t3 t2 rfl (by rw [← Array.length_toList,t4, ← (cU (w:=c.w) (St:=c.St) τ).size]) hpos (c.rv k) l.length xs hown A l'.length cp ds hdl hsrc hrx.one r63 rby hi.size
 obtain ⟨hI,hE⟩:=hi.appendRow hk hown hsp h2 h3 h4 h5 hd
 refine cx (v:=v') (cJ ho hcl hargs hty (by rw [es,hsv',ex]; exact hrun)) rfl hI hE ⟨v',rfl,(aA rfl).2 ?_,τ,e',v+1, ?_,Nat.le_refl _,fun _=>by simp⟩
 ·exact yq h2 (di (hrep.mono hE.st hE.cell) (hrx.mono hE.st hE.cell)) (by simp) (fun b o h1 h2 => .inr ⟨h1,h2⟩)
 ·show (c.heap.set k _)[k]? = _
  rw [bv,if_pos rfl,if_pos (aE hk)]
theorem mN (hi:Inv B w0 St0 c) (tk:TabOk P tab) {cl:Call} {s x:Operand} {t e:TypeId} (ho:o.op = .call cl) (hcl:cl.callee = .builtin .append) (hargs:cl.args = #[s,x]) (hty:cl.argTypes = #[t,t]) {fresh:Nat} {τ:Ty} {l':List τ.den}
  (hs:RA c .nil [a.eval s]) (hx : ∃ A cp ds,a.eval x = .slice A l'.length cp∧Rep c.w c.St (bA (toD τ) l') ds∧ds.length=l'.length * τ.size∧(l'.length=0 ∨ ∃ ad,A=some ad ∧ ∀ j u,ds[j]? = some u→c.w.cell? (ad.add j)=some u)) (ht:tab.ty t=some (.slice τ)) (he:tab.elem t=some e) (hf:c.heap[fresh]? = some .none) (hlim:l'.length≤LIM) :
  Ok P B w0 St0 o a c (c.heap.set fresh (.row τ e 1)) (.own fresh 1 τ l'):=by
 obtain ⟨hI,hE⟩:=hi.addRow (k:=fresh) (n:=0) (t:=τ) (e:=e) (s := .slice none 0 0) (xs:=[]) hf (World.ownsRow_nil _ _ _ _) (fun b hb=>by simp [Value.ownBlock] at hb) (fun k' b hb=>by simp [Value.ownBlock] at hb) (fun b hb=>by simp [Value.ownBlock] at hb) (fun b hb=>by simp [Value.ownBlock] at hb)
 obtain ⟨i,z,_,_,_,_,_,_,hu⟩:=tk.ty t _ ht
 obtain ⟨e',u1,u2,u3,hpos⟩:=hu
 have:e'=e:=by rw [he] at u3; exact (Option.some.inj u3).symm
 subst this
 obtain ⟨ie,ze,t1,t2,t3,t4,t5,_⟩:=tk.ty e' τ u2
 obtain ⟨A,cp,ds,ex,hrx,hdl,hsrc⟩:=hx
 obtain ⟨r63,rby⟩:=jt hlim t5
 have hs:[a.eval s]=[.slice none 0 0]:=hs
 simp only [List.cons.injEq,and_true] at hs
 obtain ⟨v',w',hrun,h2,h3,h4,h5,hd⟩:=dW (P:=P) (B:=B) c.w t o.type e' ie ze τ.size ie.bytes u1 t1 t3 t2 rfl (by rw [← Array.length_toList,t4, ← (cU (w:=c.w) (St:=c.St) τ).size]) hpos (.slice none 0 0) 0 [] (World.ownsRow_nil _ _ _ _) A l'.length cp ds hdl hsrc hrx.one (by simpa using r63) (by simpa using rby) hi.size
 have hk:(c.heap.set fresh (.row τ e' 0))[fresh]? = some (.row τ e' 0):=by rw [bv,if_pos rfl,if_pos (aE hf)]
 obtain ⟨hJ,hF⟩:=hI.appendRow (k:=fresh) (v:=0) (n:=0) (m:=l'.length) (t:=τ) (e:=e') (s':=v') (w':=w') (xs:=[]) (news:=ds) hk (by simpa using World.ownsRow_nil c.w B e' τ.size) (fun b hb=>by simp [Value.ownBlock] at hb)
  h2 (by simpa using h3) (by simpa using h4) (fun g hg=>by simp [Value.ownBlock] at hg) hd
 refine cx (v:=v') (cJ ho hcl hargs hty (by rw [hs,ex]; exact hrun)) ?_ hJ (hE.trans hF) ⟨v',rfl,(aA rfl).2 ?_,τ,e',1, ?_,Nat.le_refl _,fun _=>by simp⟩
 ·simp
 ·exact yq h2 (by simpa using (hrx.mono hE.st hE.cell).mono hF.st hF.cell) (by simp) (fun b o h1 h2 => .inr ⟨h1,h2⟩)
 ·show ((c.heap.set fresh _).set fresh _)[fresh]? = _
  rw [bv,if_pos rfl,if_pos (by simpa using aE hf)]
theorem Vx (hi:Inv B w0 St0 c) (tk:TabOk P tab) {cl:Call} {s x:Operand} {t e:TypeId} (ho:o.op = .call cl) (hcl:cl.callee = .builtin .append) (hargs:cl.args = #[s,x]) (hty:cl.argTypes = #[t,t]) {k v:Nat} {τ:Ty} {l l':List τ.den} {u:AV}
  (hs:RA c (.own k v τ l) [a.eval s]) (hx:RA c u [a.eval x]) (hl:uA (tab.ty t) u=some ⟨τ,l'⟩) (he:tab.elem t=some e) (hk:c.heap[k]? = some (.row τ e v)) (hlim:l.length+l'.length≤LIM) :
  Ok P B w0 St0 o a c (c.heap.set k (.row τ e (v+1))) (.own k (v+1) τ (l++l')):=by
 obtain ⟨ht,hxv⟩:=eC hl hx
 exact ug hi tk ho hcl hargs hty hs (vK hxv) ht he hk hlim
theorem E7 (hi:Inv B w0 St0 c) (tk:TabOk P tab) {cl:Call} {s x:Operand} {t e:TypeId} (ho:o.op = .call cl) (hcl:cl.callee = .builtin .append) (hargs:cl.args = #[s,x]) (hty:cl.argTypes = #[t,t]) {fresh:Nat} {τ:Ty} {l':List τ.den} {u:AV}
  (hs:RA c .nil [a.eval s]) (hx:RA c u [a.eval x]) (hl:uA (tab.ty t) u=some ⟨τ,l'⟩) (he:tab.elem t=some e) (hf:c.heap[fresh]? = some .none) (hlim:l'.length≤LIM) :
  Ok P B w0 St0 o a c (c.heap.set fresh (.row τ e 1)) (.own fresh 1 τ l'):=by
 obtain ⟨ht,hxv⟩:=eC hl hx
 exact mN hi tk ho hcl hargs hty hs (vK hxv) ht he hf hlim
end
end Go.Proofs.YtboikinjlmjgjaaGreat.Abs
