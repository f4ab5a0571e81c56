/- One operation, the rest: comparisons of strings and structs, literals, slices, append, calls. -/
import Derived.Test.YtboikinjlmjgjaaGreatAbsF
namespace Go.Proofs.YtboikinjlmjgjaaGreat.Abs
open Go Go.RowKit
section
variable {P:Program} {tab:Tab} {B:Bd} {w0:World} {St0:Sb} {c:Gh} {o:Oper} {a:Act}
theorem dat?_sound {t:Ty} {u:AV} {x:t.den} {v:Value} (h:dat? t u=some x) (r:RA c u [v]):cE c.w c.St t x v:=by
 cases u with
 | agg p =>
  simp only [dat?] at h
  split at h
  ·rename_i hs
   obtain ⟨cs,e,hr,hc,_⟩:=r
   simp at e; subst e
   unfold cE
   rw [if_pos hs]
   exact ⟨cs,rfl,gh h (hr.parts hc)⟩
  ·cases h
 | _=>simp only [dat?] at h; exact one?_sound h r
theorem jr (a b:Str):(a == b)=decide (a=b):=by by_cases h:a=b <;> simp [h]
theorem Qo (hi:Inv B w0 St0 c) {op:BinOp} {tx ty:TypeId} {x y:Operand} (ho:o.op = .binOp op tx x y ty) {m n:Str} (hx:RA c (.val .str m) [a.eval x]) (hy:RA c (.val .str n) [a.eval y]) {tt:Option Ty} {v:AV}
  (h:nA op tt (.val .str m) (.val .str n)=some (true,v)):Ok P B w0 St0 o a c c.heap v:=by
 have hxv:=vY hx.val_inv
 have hyv:=vY hy.val_inv
 cases op <;> simp only [nA] at h <;> first | (cases h; done) | skip
 all_goals (injection h with h; injection h with hc h; subst h)
 case add =>
  have hc:m.length+n.length≤SO:=by simpa using hc
  have hle : ¬ (((⟨m.toArray⟩:ByteArray).size+(⟨n.toArray⟩:ByteArray).size:Nat):Int)>IntKind.i64.max:=by
   have h1:(⟨m.toArray⟩:ByteArray).size=m.length:=by simp [ByteArray.size]
   have h2:(⟨n.toArray⟩:ByteArray).size=n.length:=by simp [ByteArray.size]
   rw [h1,h2]
   have:IntKind.i64.max=9223372036854775807:=by decide
   rw [this]
   unfold SO at hc
   omega
  have hcat:(⟨m.toArray⟩:ByteArray)++⟨n.toArray⟩=⟨(m++n).toArray⟩:=by
   apply ByteArray.ext
   simp
  refine aH hi (v := .string ⟨(m++n).toArray⟩) ?_ (yo _)
  unfold execOp
  simp only [ho,hxv,hyv,eqGuard,binOp,Op.stringOp,if_neg hle,hcat]
  rfl
 case eql=>refine aH hi ?_ (cw _); unfold execOp; simp [ho,hxv,hyv,eqGuard,binOp,Op.stringOp,jr]
 case neq=>refine aH hi ?_ (cw _); unfold execOp; simp [ho,hxv,hyv,eqGuard,binOp,Op.stringOp,jr]
 case lss=>refine aH hi ?_ (cw _); unfold execOp; simp [ho,hxv,hyv,eqGuard,binOp,Op.stringOp]
 case leq=>refine aH hi ?_ (cw _); unfold execOp; simp [ho,hxv,hyv,eqGuard,binOp,Op.stringOp,jr]
 case gtr=>refine aH hi ?_ (cw _); unfold execOp; simp [ho,hxv,hyv,eqGuard,binOp,Op.stringOp,jr]
 case geq=>refine aH hi ?_ (cw _); unfold execOp; simp [ho,hxv,hyv,eqGuard,binOp,Op.stringOp]
theorem M2 (hi:Inv B w0 St0 c) (tk:TabOk P tab) {op:BinOp} {tx ty:TypeId} {x y:Operand} (ho:o.op = .binOp op tx x y ty) {m n:Bool} (hx:RA c (.val .bool m) [a.eval x]) (hy:RA c (.val .bool n) [a.eval y]) {v:AV}
  (h:nA op (tab.ty tx) (.val .bool m) (.val .bool n)=some (true,v)):Ok P B w0 St0 o a c c.heap v:=by
 have hxv:=eI hx.val_inv
 have hyv:=eI hy.val_inv
 simp only [nA] at h
 split at h
 ·rename_i ht
  obtain ⟨i,z,_,_,_,_,_,_,hu⟩:=tk.ty tx _ ht
  have hu:P.underlying tx=some .bool:=hu
  have hd:(m == n)=decide (m=n):=by cases m <;> cases n <;> rfl
  cases op <;> simp only at h <;> first | (cases h; done) | skip
  all_goals (injection h with h; injection h with hc h; subst h)
  case eql=>refine aH hi ?_ (cw _); unfold execOp; simp [ho,hxv,hyv,eqGuard,binOp,run_equal_bool c.w tx m n hu,hd]
  case neq=>refine aH hi ?_ (cw _); unfold execOp; simp [ho,hxv,hyv,eqGuard,binOp,run_equal_bool c.w tx m n hu,hd]
 ·cases h
theorem Qp (hi:Inv B w0 St0 c) (tk:TabOk P tab) {op:BinOp} {tx ty:TypeId} {x y:Operand} (ho:o.op = .binOp op tx x y ty) {t:Ty} {l:List t.den} (hx:RA c (.val (.slice t) l) [a.eval x]) (hy:RA c .nil [a.eval y]) {v:AV}
  (h:nA op (tab.ty tx) (.val (.slice t) l) .nil=some (true,v)):Ok P B w0 St0 o a c c.heap v:=by
 have hyv:a.eval y = .slice none 0 0:=by
  have:[a.eval y]=[.slice none 0 0]:=hy
  simpa using this
 simp only [nA] at h
 split at h
 ·rename_i ht
  obtain ⟨i,z,_,_,_,_,_,_,hu⟩:=tk.ty tx _ ht
  obtain ⟨e,u1,_⟩:=hu
  have hne:l.isEmpty=false → ∃ ad n cp,a.eval x = .slice (some ad) n cp:=fun hl=>by
   obtain ⟨A,cp,e1,_,h0 | ⟨ad,ds,rfl,_⟩⟩:=fT ((aA rfl).1 hx.val_inv)
   ·rw [List.length_eq_zero_iff.1 h0] at hl; cases hl
   ·simp only [List.cons.injEq,and_true] at e1
    exact ⟨ad,_,_,e1⟩
  have heqd : ∀ d ad n cp,(Op.equalIn (d+1) tx (.slice (some ad) n cp) (.slice none 0 0)).run P c.w = .ok false c.w:=fun d ad n cp=>by
   simp [Op.equalIn,run_underlying u1]
  have heq : ∀ ad n cp,(Op.equal tx (.slice (some ad) n cp) (.slice none 0 0)).run P c.w = .ok false c.w:=fun ad n cp=>heqd 9999 ad n cp
  cases op <;> simp only at h <;> first | (cases h; done) | skip
  all_goals (injection h with h; injection h with hc h; subst h; simp only [Bool.not_eq_true'] at hc; obtain ⟨ad,n,cp,hxv⟩:=hne hc)
  case eql=>refine aH hi ?_ (cw _); unfold execOp; simp [ho,hxv,hyv,eqGuard,binOp,heq]
  case neq=>refine aH hi ?_ (cw _); unfold execOp; simp [ho,hxv,hyv,eqGuard,binOp,heq]
 ·cases h
theorem rx : ∀ {t:Ty},t.flatEq=true→t.nojk=true
 | .int _,_ | .bool,_ | .str,_ | .unit,_ | .tree,_=>rfl
 | .slice _,h | .jsl _,h=>by simp [Ty.flatEq] at h
 | .cons a b,h=>by
  simp only [Ty.flatEq,Bool.and_eq_true] at h
  simp only [Ty.nojk,rx h.1.1,rx h.1.2,Bool.and_self]
theorem eqT (tk:TabOk P tab) {w:World} {St:Sb} : ∀ (τ:Ty),
  (∀ (fs:List Field) (off:Nat) (xs ys:Array Value) (x y:τ.den) (d:Nat),FOk tab.ty fs τ.fields off→τ.flatEq=true→τ.isStruct=true→τ.dep≤d+1→Rep w St (toD τ x) (xs.toList.drop off)→Rep w St (toD τ y) (ys.toList.drop off) →
   (Op.eqFields d xs ys fs).run P w = .ok (eqD τ x y) w) ∧
  (∀ (t:TypeId) (d:Nat) (x y:τ.den) (vx vy:Value),tab.ty t=some τ→τ.flatEq=true→τ.dep≤d→cE w St τ x vx→cE w St τ y vy→(Op.equalIn d t vx vy).run P w = .ok (eqD τ x y) w):=by
 intro τ
 have lift : ∀ (τ:Ty),τ.isStruct=true→(∀ (fs:List Field) (off:Nat) (xs ys:Array Value) (x y:τ.den) (d:Nat),FOk tab.ty fs τ.fields off→τ.flatEq=true→τ.isStruct=true→τ.dep≤d+1→Rep w St (toD τ x) (xs.toList.drop off)→Rep w St (toD τ y) (ys.toList.drop off) →
   (Op.eqFields d xs ys fs).run P w = .ok (eqD τ x y) w)→τ.dep≥1 →
   (∀ (t:TypeId) (d:Nat) (x y:τ.den) (vx vy:Value),tab.ty t=some τ→τ.flatEq=true→τ.dep≤d→cE w St τ x vx→cE w St τ y vy→(Op.equalIn d t vx vy).run P w = .ok (eqD τ x y) w):=by
  intro τ hs hB hd1 t d x y vx vy ht hf hd hx hy
  obtain ⟨i,z,_,_,_,_,_,_,hu⟩:=tk.ty t τ ht
  obtain ⟨fs,h1,h2,_,h3⟩:=fF hs hu
  unfold cE at hx hy
  rw [if_pos hs] at hx hy
  obtain ⟨cs,rfl,hx⟩:=hx
  obtain ⟨cs',rfl,hy⟩:=hy
  obtain ⟨d',rfl⟩ : ∃ d',d=d'+1:=⟨d-1,by omega⟩
  have hfo:P.fieldsOf t=fs:=by simp [Program.fieldsOf,h1]
  rw [run_equalIn_struct w d' t _ _ (by rw [hfo]; exact h1) h2,hfo]
  exact hB fs.toList 0 _ _ x y d' h3 hf hs hd (by simpa using hx) (by simpa using hy)
 induction τ with
 | int k =>
  refine ⟨fun _ _ _ _ _ _ _ _ _ h=>by simp [Ty.isStruct] at h,fun t d x y vx vy ht _ hd hx hy => ?_⟩
  obtain ⟨i,z,_,_,_,_,_,_,hu⟩:=tk.ty t _ ht
  have hu:P.underlying t=some (.int k):=hu
  obtain ⟨d',rfl⟩ : ∃ d',d=d'+1:=⟨d-1,by simp [Ty.dep] at hd; omega⟩
  rw [cM hx,cM hy,run_equalIn_int w d' t k k x y hu]
  simp only [eqD]
  rw [show (x == y)=decide (x=y) from KU x y]
 | bool =>
  refine ⟨fun _ _ _ _ _ _ _ _ _ h=>by simp [Ty.isStruct] at h,fun t d x y vx vy ht _ hd hx hy => ?_⟩
  obtain ⟨i,z,_,_,_,_,_,_,hu⟩:=tk.ty t _ ht
  have hu:P.underlying t=some .bool:=hu
  obtain ⟨d',rfl⟩ : ∃ d',d=d'+1:=⟨d-1,by simp [Ty.dep] at hd; omega⟩
  rw [eI hx,eI hy,run_equalIn_bool w d' t x y hu]
  have hd:(x == y)=decide (x=y):=by cases x <;> cases y <;> rfl
  simp only [eqD,hd]
 | str =>
  refine ⟨fun _ _ _ _ _ _ _ _ _ h=>by simp [Ty.isStruct] at h,fun t d x y vx vy ht _ hd hx hy => ?_⟩
  obtain ⟨i,z,_,_,_,_,_,_,hu⟩:=tk.ty t _ ht
  have hu:P.underlying t=some .string:=hu
  obtain ⟨d',rfl⟩ : ∃ d',d=d'+1:=⟨d-1,by simp [Ty.dep] at hd; omega⟩
  rw [vY hx,vY hy,run_equalIn_string w d' t _ _ hu,xO,xO]
  simp only [eqD]
  rw [show (List.instBEq.beq x y)=decide (x=y) from jr x y]
 | slice t ih=>exact ⟨fun _ _ _ _ _ _ _ _ h=>by simp [Ty.flatEq] at h,fun _ _ _ _ _ _ _ h=>by simp [Ty.flatEq] at h⟩
 | tree=>exact ⟨fun _ _ _ _ _ _ _ _ h=>by simp [Ty.flatEq] at h,fun _ _ _ _ _ _ _ h=>by simp [Ty.flatEq] at h⟩
 | jsl e=>exact ⟨fun _ _ _ _ _ _ _ _ h=>by simp [Ty.flatEq] at h,fun _ _ _ _ _ _ _ h=>by simp [Ty.flatEq] at h⟩
 | unit =>
  have hB : ∀ (fs:List Field) (off:Nat) (xs ys:Array Value) (x y:Ty.unit.den) (d:Nat),FOk tab.ty fs Ty.unit.fields off→Ty.unit.flatEq=true→Ty.unit.isStruct=true→Ty.unit.dep≤d+1→Rep w St (toD .unit x) (xs.toList.drop off)→Rep w St (toD .unit y) (ys.toList.drop off) →
    (Op.eqFields d xs ys fs).run P w = .ok (eqD .unit x y) w:=by
   intro fs off xs ys x y d hf _ _ _ _ _
   cases fs with
   | nil=>simp [Op.eqFields,eqD]
   | cons f fs=>exact hf.elim
  exact ⟨hB,lift .unit rfl hB (by simp [Ty.dep])⟩
 | cons A Bt ihA ihB =>
  have hB : ∀ (fs:List Field) (off:Nat) (xs ys:Array Value) (x y:(Ty.cons A Bt).den) (d:Nat),FOk tab.ty fs (Ty.cons A Bt).fields off→(Ty.cons A Bt).flatEq=true→(Ty.cons A Bt).isStruct=true→(Ty.cons A Bt).dep≤d+1 →
    Rep w St (toD (.cons A Bt) x) (xs.toList.drop off)→Rep w St (toD (.cons A Bt) y) (ys.toList.drop off)→(Op.eqFields d xs ys fs).run P w = .ok (eqD (.cons A Bt) x y) w:=by
   intro fs off xs ys x y d hf hfe _ hd hx hy
   cases fs with
   | nil=>exact hf.elim
   | cons f fs =>
    obtain ⟨f1,f2,f3,f4,f5⟩:=hf
    obtain ⟨c1,c2,e1,r1,r2⟩:=hx
    obtain ⟨k1,k2,e2,s1,s2⟩:=hy
    simp only [Ty.flatEq,Bool.and_eq_true] at hfe
    simp only [Ty.dep] at hd
    obtain ⟨Ab,f1,_,_,q3⟩:=f1
    rw [q3 (rx hfe.1.1)] at f1
    obtain ⟨va,hva,rva⟩:=Cp (P:=P) tk f1 rfl rfl w (x:=x.1) xs f.offset (by rw [f2,e1, ← r1.size,List.take_left]; exact r1)
    obtain ⟨vb,hvb,rvb⟩:=Cp (P:=P) tk f1 rfl rfl w (x:=y.1) ys f.offset (by rw [f2,e2, ← s1.size,List.take_left]; exact s1)
    have hA:=ihA.2 f.type d x.1 y.1 va vb f1 hfe.1.1 (by omega) rva rvb
    have d1:xs.toList.drop (off+A.size)=c2:=by rw [← List.drop_drop,e1, ← r1.size]; simp
    have d2:ys.toList.drop (off+A.size)=k2:=by rw [← List.drop_drop,e2, ← s1.size]; simp
    have hr:(Op.eqFields d xs ys fs).run P w = .ok (eqD Bt x.2 y.2) w:=ihB.1 fs (off+A.size) xs ys x.2 y.2 d f5 hfe.1.2 hfe.2 (by omega) (by rw [d1]; exact r2) (by rw [d2]; exact s2)
    simp only [Op.eqFields,ne_eq,f4,not_false_iff,if_true,Sem.run_bind,hva,hvb,hA,Result.andThen_ok,eqD]
    cases eqD A x.1 y.1 with
    | false=>simp
    | true=>simp [hr]
  exact ⟨hB,lift (.cons A Bt) rfl hB (by simp [Ty.dep]; omega)⟩
end
end Go.Proofs.YtboikinjlmjgjaaGreat.Abs
