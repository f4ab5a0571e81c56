/- One operation, continued: fields, elements, numbers, comparisons, literals, slices, append, calls. -/
import Derived.Test.YtboikinjlmjgjaaGreatAbsE
namespace Go.Proofs.YtboikinjlmjgjaaGreat.Abs
open Go Go.RowKit
def lK:List Ty→Nat→Nat
 | a::r,i+1=>a.size+lK r i
 | _,_=>0
theorem FOk.at {ty:TypeId→Option Ty} : ∀ {fs:List Field} {as:List Ty} {off i:Nat} {b:Ty},FOk ty fs as off→as[i]? = some b →
  ∃ f,fs[i]? = some f∧(∃ b',ty f.type=some b'∧b'.size=b.size∧b'.isStruct=b.isStruct)∧f.offset=off+lK as i∧0<b.size∧f.name ≠ "_"
 | [],[],_,_,_,_,h=>by simp at h
 | f::fs,x::as,off,i,b,h,hi=>by
  obtain ⟨h1,h2,h3,h4,h5⟩:=h
  cases i with
  | zero=>simp at hi; subst hi; exact ⟨f,rfl,(let ⟨b',q1,q2,q3,_⟩:=h1; ⟨b',q1,q2,q3⟩),by simpa [lK] using h2,h3,h4⟩
  | succ i =>
   simp at hi
   obtain ⟨g,g1,g2,g3,g4⟩:=FOk.at h5 hi
   exact ⟨g,by simpa using g1,g2,by rw [g3]; simp [lK]; omega,g4⟩
theorem CJ {w:World} {St:Sb} : ∀ {t:Ty} {x:t.den} {i:Nat} {t':Ty} {y:t'.den} {ds:List Value},oc t x i=some ⟨t',y⟩→Rep w St (toD t x) ds →
  t.fields[i]? = some t'∧Rep w St (toD t' y) ((ds.drop (lK t.fields i)).take t'.size)
 | .cons a b,x,0,t',y,ds,h,r=>by
  simp only [oc] at h
  injection h with h
  injection h with h1 h2
  subst h1
  have h2:=eq_of_heq h2
  subst h2
  obtain ⟨c1,c2,rfl,r1,r2⟩:=r
  refine ⟨rfl, ?_⟩
  simp only [lK,Ty.fields,List.drop_zero]
  rw [← r1.size,List.take_left]
  exact r1
 | .cons a b,x,i+1,t',y,ds,h,r=>by
  simp only [oc] at h
  obtain ⟨c1,c2,rfl,r1,r2⟩:=r
  obtain ⟨h1,h2⟩:=CJ h r2
  refine ⟨by simpa [Ty.fields] using h1, ?_⟩
  simp only [lK,Ty.fields]
  rw [← r1.size,List.drop_length_add_append]
  exact h2
 | .tree,.mk k t ls ks,i,t',y,ds,h,r=>by
  simp only [toD,qj] at r
  obtain ⟨c1,c2,rfl,h1,c3,c4,rfl,h2,c5,c6,rfl,h3,c7,c8,rfl,h4,h5⟩:=r
  have h5:c8=[]:=h5
  subst h5
  have h1':=h1
  obtain ⟨rfl,o1⟩:=h1
  have h2':=h2
  obtain ⟨rfl,o2⟩:=h2
  have h3':=h3
  obtain ⟨A,n,cp,rfl,_⟩:=h3
  have h4':=h4
  obtain ⟨A',n',cp',rfl,_⟩:=h4
  match i with
  | 0=>simp only [oc] at h; injection h with h; injection h with e1 e2; subst e1; have e2:=eq_of_heq e2; subst e2; exact ⟨rfl,h1'⟩
  | 1=>simp only [oc] at h; injection h with h; injection h with e1 e2; subst e1; have e2:=eq_of_heq e2; subst e2; exact ⟨rfl,h2'⟩
  | 2=>simp only [oc] at h; injection h with h; injection h with e1 e2; subst e1; have e2:=eq_of_heq e2; subst e2; exact ⟨rfl,h3'⟩
  | 3=>simp only [oc] at h; injection h with h; injection h with e1 e2; subst e1; have e2:=eq_of_heq e2; subst e2; rw [g0] at h4'; exact ⟨rfl,h4'⟩
  | i+4=>simp [oc] at h
 | .int _,_,_,_,_,_,h,_=>by simp [oc] at h
 | .bool,_,_,_,_,_,h,_=>by simp [oc] at h
 | .str,_,_,_,_,_,h,_=>by simp [oc] at h
 | .slice _,_,_,_,_,_,h,_=>by simp [oc] at h
 | .unit,_,_,_,_,_,h,_=>by simp [oc] at h
theorem qP {t:Ty} {x:t.den} {i:Nat} {y:(t':Ty)×t'.den} (h:oc t x i=some y):t.isStruct=true:=by
 cases t <;> first | rfl | simp [oc] at h
section
variable {P:Program} {tab:Tab} {B:Bd} {w0:World} {St0:Sb} {c:Gh} {o:Oper} {a:Act}
theorem yr (hi:Inv B w0 St0 c) (tk:TabOk P tab) {s:TypeId} {x:Operand} {f:Nat} (ho:o.op = .fieldAddr s x f) {τ τ':Ty} {z:τ.den} {y:τ'.den} (hx:RA c (.ref τ z) [a.eval x]) (ht:tab.ty s=some τ) (hp:oc τ z f=some ⟨τ',y⟩) :
  Ok P B w0 St0 o a c c.heap (.ref τ' y):=by
 obtain ⟨ad,ds,e,hs,hd,hc⟩:=hx
 obtain ⟨i,zz,_,_,_,_,_,_,hu⟩:=tk.ty s τ ht
 obtain ⟨fs,h1,_,_,hf⟩:=fF (qP hp) hu
 obtain ⟨hfi,hrep⟩:=CJ hp hd
 obtain ⟨fl,h2,⟨τb,h3,hb1,_⟩,h4,h5,_⟩:=hf.at hfi
 obtain ⟨j,_,hj,hjs,_⟩:=tk.ty fl.type τb h3
 rw [hb1] at hjs
 simp only [Nat.zero_add] at h4
 refine aH hi (v := .pointer (some (ad.add fl.offset))) ?_ ⟨_,_,rfl,(gi ad hs _).2.2,hrep,fun k u hu => ?_⟩
 ·unfold execOp
  simp at e
  have hz : ¬ τ'.size=0:=by omega
  have h2:fs[f]? = some fl:=by simpa using h2
  simp [ho,e,Instr.fieldAt,run_underlying h1,h2,Instr.sureAddr,fieldPlace,sizeOf,typeInfo,hj,hjs,hz]
 ·have hk:ds[lK τ.fields f+k]? = some u:=by
   rw [List.getElem?_take] at hu
   split at hu
   ·rwa [List.getElem?_drop] at hu
   ·cases hu
  obtain ⟨g1,g2⟩:=hc _ _ hk
  obtain ⟨f1,f2,_⟩:=gi ad hs fl.offset
  rw [BG,f1,f2,h4,Nat.add_assoc]
  exact ⟨g1,g2⟩
theorem Cp (tk:TabOk P tab) {t:TypeId} {τ τb:Ty} (ht:tab.ty t=some τb) (hb1:τb.size=τ.size) (hb2:τb.isStruct=τ.isStruct) (w:World) {St:Sb} {x:τ.den} (cs:Array Value) (off:Nat) (hr:Rep w St (toD τ x) ((cs.toList.drop off).take τ.size)) :
  ∃ v,(part t cs off).run P w = .ok v w∧cE w St τ x v:=by
 simp only [part,Sem.run_bind,F2 tk ht,Result.andThen_ok,hb2]
 cases hs:τ.isStruct with
 | true =>
  simp only [if_true,Sem.run_bind,dp tk ht,Result.andThen_ok,hb1]
  refine ⟨_,rfl, ?_⟩
  refine fk hr ?_
  simp only [hs,if_true]
  congr 1
  apply Array.ext'
  simp
 | false =>
  have h1:=pl hs
  have hl:=hr.size
  rw [h1] at hl hr
  have hlt:off<cs.size:=by
   simp at hl; omega
  have e:(cs.toList.drop off).take 1=[cs[off]]:=by
   rw [List.drop_eq_getElem_cons (by simpa using hlt)]
   simp
  rw [e] at hr
  have hg:cs[off]? = some cs[off]:=by simp [hlt]
  refine ⟨cs[off], ?_,(aA hs).2 hr⟩
  simp [hg]
theorem YI (hi:Inv B w0 St0 c) (tk:TabOk P tab) {s:TypeId} {x:Operand} {f:Nat} (ho:o.op = .field s x f) {τ τ':Ty} {z:τ.den} {y:τ'.den} (hx:RA c (.val τ z) [a.eval x]) (ht:tab.ty s=some τ) (hp:oc τ z f=some ⟨τ',y⟩) :
  Ok P B w0 St0 o a c c.heap (.val τ' y):=by
 have hv:=hx.val_inv
 unfold cE at hv
 rw [if_pos (qP hp)] at hv
 obtain ⟨cs,e,hr⟩:=hv
 obtain ⟨i,zz,_,_,_,_,_,_,hu⟩:=tk.ty s τ ht
 obtain ⟨fs,h1,_,_,hf⟩:=fF (qP hp) hu
 obtain ⟨hfi,hrep⟩:=CJ hp hr
 obtain ⟨fl,h2,⟨τb,h3,hb1,hb2⟩,h4,h5,_⟩:=hf.at hfi
 simp only [Nat.zero_add] at h4
 obtain ⟨v,hrun,hv⟩:=Cp tk h3 hb1 hb2 c.w cs.toArray fl.offset (by rw [h4]; exact hrep)
 refine aH hi (v:=v) ?_ ⟨v,rfl,hv⟩
 unfold execOp
 have h2:fs[f]? = some fl:=by simpa using h2
 simp [ho,e,Instr.field,run_underlying h1,h2,asAgg,hrun]
theorem eC {tt:Option Ty} {s:AV} {v:Value} {τ:Ty} {l:List τ.den} (h:uA tt s=some ⟨τ,l⟩) (r:RA c s [v]):tt=some (.slice τ)∧cE c.w c.St (.slice τ) l v:=by
 unfold uA at h
 split at h
 ·rename_i t
  split at h
  ·rename_i l' hl
   injection h with h
   injection h with h1 h2
   subst h1
   have h2:=eq_of_heq h2
   subst h2
   exact ⟨rfl,one?_sound hl r⟩
  ·cases h
 ·cases h
theorem qD {tt:Option Ty} {s:AV} {v:Value} {l:Str} (h:vE tt s=some l) (r:RA c s [v]):tt=some .str∧v = .string ⟨l.toArray⟩:=by
 unfold vE at h
 split at h
 ·exact ⟨rfl,vY (one?_sound h r)⟩
 ·cases h
theorem IB (hi:Inv B w0 St0 c) (tk:TabOk P tab) {t:TypeId} {x y:Operand} (ho:o.op = .indexAddr t x y) {s:AV} {k:IntKind} {n:Int} (hx:RA c s [a.eval x]) (hy:RA c (.val (.int k) n) [a.eval y]) {τ:Ty} {l:List τ.den}
  (hl:uA (tab.ty t) s=some ⟨τ,l⟩) (h0:0≤n) (h1:n<(l.length:Int)):Ok P B w0 St0 o a c c.heap (.ref τ (l.getD n.toNat (zero τ))):=by
 obtain ⟨ht,hv⟩:=eC hl hx
 obtain ⟨i,z,_,_,_,_,_,_,hu⟩:=tk.ty t _ ht
 obtain ⟨e,he,hte,_,hpos⟩:=hu
 have hr:=(aA (t := .slice τ) rfl).1 hv
 obtain ⟨A,cp,ev,hcap,hds⟩:=fT hr
 have hn:n.toNat<l.length:=by omega
 obtain ⟨ad,ds,rfl,hsp,hrep,hcell⟩:=hds.resolve_left (by omega)
 have hei:=xN hrep n.toNat hn
 have hget:l.getD n.toNat (zero τ)=l[n.toNat]:=by simp [List.getD,List.getElem?_eq_getElem hn]
 refine aH hi (v := .pointer (some (ad.add (n.toNat * τ.size)))) ?_ ⟨_,_,rfl,(gi ad hsp _).2.2,by rw [hget]; exact hei,fun j u hu => ?_⟩
 ·unfold execOp
  have hyv:=cM hy.val_inv
  simp at ev
  simp [ho,hyv,ev,Instr.indexAt,asIntOf,run_underlying he,h0,h1,dp tk hte]
 ·rw [List.getElem?_take] at hu
  split at hu
  ·rw [List.getElem?_drop] at hu
   obtain ⟨g1,g2⟩:=hcell _ _ hu
   obtain ⟨f1,f2,_⟩:=gi ad hsp (n.toNat * τ.size)
   rw [BG,f1,f2,Nat.add_assoc]
   exact ⟨g1,g2⟩
  ·cases hu
theorem Iz (hi:Inv B w0 St0 c) (tk:TabOk P tab) {t:TypeId} {x y:Operand} (ho:o.op = .index t x y) {s:AV} {k:IntKind} {n:Int} (hx:RA c s [a.eval x]) (hy:RA c (.val (.int k) n) [a.eval y]) {l:Str}
  (hl:vE (tab.ty t) s=some l) (h0:0≤n) (h1:n<(l.length:Int)):Ok P B w0 St0 o a c c.heap (.val (.int .u8) ((l.getD n.toNat 0).toNat:Int)):=by
 obtain ⟨ht,hv⟩:=qD hl hx
 obtain ⟨i,z,_,_,_,_,_,_,hu⟩:=tk.ty t _ ht
 have hu:P.underlying t=some .string:=hu
 have hn:n.toNat<l.length:=by omega
 have hget:l.getD n.toNat 0=l[n.toNat]:=by simp [List.getD,List.getElem?_eq_getElem hn]
 rw [hget]
 refine aH hi (v := .int .u8 (l[n.toNat].toNat:Int)) ?_ (cY _ _)
 unfold execOp
 have hyv:=cM hy.val_inv
 have hb:(⟨l.toArray⟩:ByteArray)[n.toNat]? = some l[n.toNat]:=by
  rw [getElem?_pos (⟨l.toArray⟩:ByteArray) n.toNat (by simpa [ByteArray.size] using hn)]
  rfl
 simp [ho,hyv,hv,Instr.index,asIntOf,run_underlying hu,h0,hb]
theorem xO (l:Str):(⟨l.toArray⟩:ByteArray).toList=l:=by
 rw [ByteArray.toList_eq]
theorem KU (m n:Int):(m == n)=decide (m=n):=by by_cases h:m=n <;> simp [h]
theorem Qq (hi:Inv B w0 St0 c) {op:BinOp} {tx ty:TypeId} {x y:Operand} (ho:o.op = .binOp op tx x y ty) {k:IntKind} {m n:Int} (hx:RA c (.val (.int k) m) [a.eval x]) (hy:RA c (.val (.int k) n) [a.eval y]) {v:AV}
  (h:QP op k m n=some (true,v)):Ok P B w0 St0 o a c c.heap v:=by
 have hxv:=cM hx.val_inv
 have hyv:=cM hy.val_inv
 cases op <;> simp only [QP] at h <;> first | (cases h; done) | skip
 all_goals (injection h with h; injection h with hc h; subst h)
 case quo =>
  have hc : ¬ n=0:=by simpa using hc
  refine aH hi ?_ (cY _ _)
  unfold execOp; simp [ho,hxv,hyv,eqGuard,binOp,Op.intDiv,hc]
 case rem =>
  have hc : ¬ n=0:=by simpa using hc
  refine aH hi ?_ (cY _ _)
  unfold execOp; simp [ho,hxv,hyv,eqGuard,binOp,Op.intDiv,hc]
 case add=>refine aH hi ?_ (cY _ _); unfold execOp; simp [ho,hxv,hyv,eqGuard,binOp,Op.intArith]
 case sub=>refine aH hi ?_ (cY _ _); unfold execOp; simp [ho,hxv,hyv,eqGuard,binOp,Op.intArith]
 case mul=>refine aH hi ?_ (cY _ _); unfold execOp; simp [ho,hxv,hyv,eqGuard,binOp,Op.intArith]
 case and=>refine aH hi ?_ (cY _ _); unfold execOp; simp [ho,hxv,hyv,eqGuard,binOp,Op.intBits,alK]
 case or=>refine aH hi ?_ (cY _ _); unfold execOp; simp [ho,hxv,hyv,eqGuard,binOp,Op.intBits,orI]
 case xor=>refine aH hi ?_ (cY _ _); unfold execOp; simp [ho,hxv,hyv,eqGuard,binOp,Op.intBits,ajY]
 case eql=>refine aH hi ?_ (cw _); unfold execOp; simp [ho,hxv,hyv,eqGuard,binOp,Op.intCmp,KU]
 case neq=>refine aH hi ?_ (cw _); unfold execOp; simp [ho,hxv,hyv,eqGuard,binOp,Op.intCmp,bne,KU]
 case lss=>refine aH hi ?_ (cw _); unfold execOp; simp [ho,hxv,hyv,eqGuard,binOp,Op.intCmp]
 case leq=>refine aH hi ?_ (cw _); unfold execOp; simp [ho,hxv,hyv,eqGuard,binOp,Op.intCmp]
 case gtr=>refine aH hi ?_ (cw _); unfold execOp; simp [ho,hxv,hyv,eqGuard,binOp,Op.intCmp]
 case geq=>refine aH hi ?_ (cw _); unfold execOp; simp [ho,hxv,hyv,eqGuard,binOp,Op.intCmp]
theorem MW (hi:Inv B w0 St0 c) {op:BinOp} {tx ty:TypeId} {x y:Operand} (ho:o.op = .binOp op tx x y ty) {k k':IntKind} {m n:Int} (hx:RA c (.val (.int k) m) [a.eval x]) (hy:RA c (.val (.int k') n) [a.eval y]) (hn:0≤n) :
  (op = .shl→Ok P B w0 St0 o a c c.heap (.val (.int k) (XZ k m n)))∧(op = .shr→Ok P B w0 St0 o a c c.heap (.val (.int k) (Vg k m n))):=by
 have hxv:=cM hx.val_inv
 have hyv:=cM hy.val_inv
 have hn : ¬ n<0:=by omega
 refine ⟨fun e => ?_,fun e => ?_⟩
 ·subst e
  refine aH hi ?_ (cY _ _)
  unfold execOp
  simp [ho,hxv,hyv,eqGuard,binOp,Op.shift,hn,XZ]
 ·subst e
  refine aH hi ?_ (cY _ _)
  unfold execOp
  simp [ho,hxv,hyv,eqGuard,binOp,Op.shift,hn,Vg]
theorem ahh (hi:Inv B w0 St0 c) {t:TypeId} {x:Operand} (ho:o.op = .unOp .neg t x) {k:IntKind} {n:Int} (hx:RA c (.val (.int k) n) [a.eval x]):Ok P B w0 St0 o a c c.heap (.val (.int k) (k.wrap (0-n))):=by
 have hxv:=cM hx.val_inv
 refine aH hi ?_ (cY _ _)
 unfold execOp
 simp [ho,hxv,Op.unary,Op.intArith]
theorem M1 (hi:Inv B w0 St0 c) (tk:TabOk P tab) {s t:TypeId} {x:Operand} (ho:o.op = .convert s t x) {k k':IntKind} {n:Int} (hx:RA c (.val (.int k') n) [a.eval x]) (ht:tab.ty t=some (.int k)) (hs : ∃ d,P.underlying s=some d) :
  Ok P B w0 St0 o a c c.heap (.val (.int k) (k.wrap n)):=by
 have hxv:=cM hx.val_inv
 obtain ⟨i,z,_,_,_,_,_,_,hu⟩:=tk.ty t _ ht
 have hu:P.underlying t=some (.int k):=hu
 obtain ⟨d,hd⟩:=hs
 refine aH hi ?_ (cY _ _)
 unfold execOp
 simp [ho,hxv,convert,run_underlying hu,run_underlying hd,Conv.intToInt]
theorem ahf (hi:Inv B w0 St0 c) {t:TypeId} {x:Operand} (ho:o.op = .unOp .not t x) {b:Bool} (hx:RA c (.val .bool b) [a.eval x]):Ok P B w0 St0 o a c c.heap (.val .bool (!b)):=by
 have hxv:=eI hx.val_inv
 refine aH hi ?_ (cw _)
 unfold execOp
 simp [ho,hxv,Op.unary]
theorem ahi (hi:Inv B w0 St0 c) (tk:TabOk P tab) {cl:Call} {x:Operand} {t:TypeId} (ho:o.op = .call cl) (hcl:cl.callee = .builtin .len) (hargs:cl.args = #[x]) (hty:cl.argTypes[0]? = some t) {s:AV} (hx:RA c s [a.eval x]) {τ:Ty} {l:List τ.den}
  (hl:uA (tab.ty t) s=some ⟨τ,l⟩):Ok P B w0 St0 o a c c.heap (.val (.int .i64) (l.length:Int)):=by
 obtain ⟨ht,hv⟩:=eC hl hx
 obtain ⟨i,z,_,_,_,_,_,_,hu⟩:=tk.ty t _ ht
 obtain ⟨e,he,_⟩:=hu
 obtain ⟨A,cp,ev,_⟩:=fT ((aA (t := .slice τ) rfl).1 hv)
 refine aH hi ?_ (cY _ _)
 unfold execOp
 simp at ev
 simp [ho,resolve,hcl,hargs,invoke,builtin,Builtin.len_,hty,ev,run_underlying he,goInt]
theorem Qm (hi:Inv B w0 St0 c) (tk:TabOk P tab) {cl:Call} {x:Operand} {t:TypeId} (ho:o.op = .call cl) (hcl:cl.callee = .builtin .len) (hargs:cl.args = #[x]) (hty:cl.argTypes[0]? = some t) {s:AV} (hx:RA c s [a.eval x]) {l:Str}
  (hl:vE (tab.ty t) s=some l):Ok P B w0 St0 o a c c.heap (.val (.int .i64) (l.length:Int)):=by
 obtain ⟨ht,hv⟩:=qD hl hx
 obtain ⟨i,z,_,_,_,_,_,_,hu⟩:=tk.ty t _ ht
 have hu:P.underlying t=some .string:=hu
 refine aH hi ?_ (cY _ _)
 unfold execOp
 have hsz:(⟨l.toArray⟩:ByteArray).size=l.length:=by simp [ByteArray.size]
 simp [ho,resolve,hcl,hargs,invoke,builtin,Builtin.len_,hty,hv,run_underlying hu,goInt,hsz]
end
end Go.Proofs.YtboikinjlmjgjaaGreat.Abs
