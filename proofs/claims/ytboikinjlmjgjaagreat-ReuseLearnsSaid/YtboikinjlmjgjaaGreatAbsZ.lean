/- What the evaluators are made of. -/
import Derived.Test.YtboikinjlmjgjaaGreatAbsY
namespace Go.Proofs.YtboikinjlmjgjaaGreat.Abs
open Go Go.RowKit
def FU:Nat:=1099511627776
def FD:Nat:=200
section
variable {α β:Type}
def fN (m:Nat) (k:Nat→β):β:=match m with
 | 0=>k 0
 | n+1=>k (n+1)
def fI (n:Int) (k:Int→β):β:=match n with
 | .ofNat m=>fN m fun m=>k (.ofNat m)
 | .negSucc m=>fN m fun m=>k (.negSucc m)
def fU (x:UInt8) (k:UInt8→β):β:=fN x.toNat fun n=>k (UInt8.ofNat n)
def fL (f:α→(α→β)→β):List α→(List α→β)→β
 | [],k=>k []
 | x::l,k=>f x fun y=>fL f l fun ys=>k (y::ys)
theorem Um (m:Nat) (k:Nat→β):fN m k=k m:=by cases m <;> rfl
theorem agG (n:Int) (k:Int→β):fI n k=k n:=by cases n <;> simp [fI,Um]
theorem abD (x:UInt8) (k:UInt8→β):fU x k=k x:=by simp [fU,Um]
theorem Eo {f:α→(α→β)→β} (hf : ∀ x k,f x k=k x) : ∀ (l:List α) (k:List α→β),fL f l k=k l
 | [],k=>rfl
 | x::l,k=>by rw [fL,hf,Eo hf l]
def nf:(t:Ty)→t.den→(t.den→β)→β
 | .int _,n,k=>fI n k
 | .bool,b,k=>match b with
  | true=>k true
  | false=>k false
 | .str,s,k=>fL fU s k
 | .slice t,l,k=>fL (nf t) l k
 | .jsl _,n,k=>fN n k
 | .unit,_,k=>k ()
 | .cons a b,x,k=>nf a x.1 fun y=>nf b x.2 fun z=>k (y,z)
 | .tree,x,k=>match x with
  | .mk kd t ls ks=>fI kd fun kd=>fL fU t fun t=>fL (fL fU) ls fun ls=>fL (fun x k=>k x) ks fun ks=>k (.mk kd t ls ks)
theorem Gp : ∀ (t:Ty) (x:t.den) (k:t.den→β),nf t x k=k x
 | .int _,n,k=>agG n k
 | .bool,b,k=>by cases b <;> rfl
 | .str,s,k=>Eo abD s k
 | .slice t,l,k=>Eo (Gp t) l k
 | .jsl _,n,k=>Um n k
 | .unit,_,_=>rfl
 | .cons a b,x,k=>by rw [nf,Gp a,Gp b]
 | .tree,.mk kd t ls ks,k=>by
  simp only [nf]
  rw [agG,Eo abD,Eo (Eo abD),Eo (fun _ _=>rfl)]
def jq (g:Bool) (v:α) (k:α→Option β):Option β:=bif g then k v else none
def uH (x:Option α) (k:α→Option β):Option β:=match x with
 | some a=>k a
 | none=>none
theorem acf (x:Option α) (d:α) (k:α→Option β):jq x.isSome (x.getD d) k=uH x k:=by cases x <;> rfl
theorem af0 {γ:Type} (f:β→γ) (c:Bool) (x y:Option β):Option.map f (bif c then x else y)=bif c then Option.map f x else Option.map f y:=by cases c <;> rfl
theorem YM {γ:Type} (f:β→γ) (x:Option α) (k:α→Option β):Option.map f (uH x k)=uH x (fun r=>Option.map f (k r)):=by cases x <;> rfl
theorem W3 {γ:Type} (f:β→γ) (g:Bool) (v:α) (k:α→Option β):Option.map f (jq g v k)=jq g v (fun r=>Option.map f (k r)):=by cases g <;> rfl
theorem ry {γ:Type} {f:β→γ} {x:Option β} {d:β} (h:x.isSome=true):Option.map f x=some (f (x.getD d)):=by
 cases x with
 | none=>cases h
 | some r=>rfl
end
def gO1 {α β:Type} (f:α→Option β) (x:α):Bool:=(f x).isSome
def fO1 {α β:Type} (d:β) (f:α→Option β) (x:α):β:=(f x).getD d
theorem SG {P:Program} {f:FuncId} {τ:Ty} {R:τ.den→List AV→Option (Bool×τ.den×AV)} (h : ∀ p args b p' out,R p args=some (b,p',out)→b=false):gX P f (ach τ R):=by
 intro cells aL cells' out he
 unfold ach at he
 split at he
 ·split at he
  ·split at he
   ·rename_i hR
    have:=h _ _ _ _ _ hR
    simp only [Option.some.injEq,Prod.mk.injEq] at he
    rw [he.1] at this
    cases this
   ·cases he
  ·cases he
 ·cases he
def Ty.scalar:Ty→Bool
 | .int _=>true
 | .bool=>true
 | _=>false
def rd0 (τ sc:Ty) (G:τ.den→Bool) (F:τ.den→sc.den):Rnt:=fun cells aL=>match aL with
 | []=>match asm τ cells with
  | some p=>some (G p,.val sc (F p))
  | none=>none
 | _=>none
def rd1 (τ a sc:Ty) (G:τ.den→a.den→Bool) (F:τ.den→a.den→sc.den):Rnt:=fun cells aL=>match aL with
 | [x]=>match asm τ cells,dat? a x with
  | some p,some y=>some (G p y,.val sc (F p y))
  | _,_=>none
 | _=>none
def qh (P:Program) (f:FuncId) (args:List AV) (res:AV):Prop :=
 dj P f ∧ ∀ w St,(∀ b o,St b o→b<w.heap.size) → ∀ vs,RAs (bj w St) args vs→Calls P f vs.toArray w (SP w St res)
theorem Cl {sc:Ty} (hs:sc.scalar=true) {c:Gh} {x:sc.den} {v:Value} (h:RA c (.val sc x) [v]) (c':Gh):RA c' (.val sc x) [v]:=by
 obtain ⟨v',e,r⟩:=h
 refine ⟨v',e, ?_⟩
 cases sc with
 | int k=>rw [cM r]; exact (aA rfl).2 ⟨rfl,rfl⟩
 | bool=>rw [eI r]; exact (aA rfl).2 ⟨rfl,rfl⟩
 | _=>cases hs
theorem MD {c:Gh} {blk:Nat} {arr:Array Value} {t:TypeId} {τ:Ty} {p:τ.den} {cells:List AV} (hb:c.w.heap[blk]? = some (.cells arr t (0,0))) (hr:RAs c cells arr.toList) (hp:asm τ cells=some p) :
  RA (bj c.w ⟨fun b o=>c.St b o∨b=blk,c.St.j⟩) (.ref τ p) [.pointer (some ⟨blk,0,none⟩)]:=by
 refine ⟨⟨blk,0,none⟩,arr.toList,rfl,rfl,(gh hp hr).mono (St':=⟨fun b o=>c.St b o∨b=blk,c.St.j⟩) ⟨fun _ _ x => .inl x,fun _ _ _ _ x=>x⟩ (fun _ _ _ _ x=>x),fun j u hu=>⟨?_,.inr rfl⟩⟩
 rw [dY,Nat.zero_add]
 unfold World.cell?
 show _=some u
 simp only [bj,hb]
 simpa using hu
theorem Yo {P:Program} {f:FuncId} {τ sc:Ty} {G:τ.den→Bool} {F:τ.den→sc.den} (hs:sc.scalar=true) (h : ∀ p,G p=true→qh P f [.ref τ p] (.val sc (F p))):EQ P f (rd0 τ sc G F):=fun cells aL res he=>by
 unfold rd0 at he
 split at he
 ·split at he
  ·rename_i p hp
   simp only [Option.some.injEq,Prod.mk.injEq] at he
   obtain ⟨hg,rfl⟩:=he
   obtain ⟨h1,h2⟩:=h p hg
   refine ⟨h1,fun c blk arr t vs hb hr hbn hrest => ?_⟩
   match vs,hrest with
   | [],_ =>
   refine (h2 c.w ⟨fun b o=>c.St b o∨b=blk,c.St.j⟩ (fun b o x=>x.elim (hbn b o) (fun e=>by rw [e]; exact (Array.getElem?_eq_some_iff.1 hb).1)) [.pointer (some ⟨blk,0,none⟩)] ⟨MD hb hr hp,trivial⟩).mono ?_
   rintro _ w' ⟨v,St',rfl,q1,q2,_,_,_,q3⟩
   exact ⟨v,rfl,q1,q2,Cl hs q3⟩
  ·cases he
 ·cases he
theorem ag6 {P:Program} {f:FuncId} {τ a sc:Ty} {G:τ.den→a.den→Bool} {F:τ.den→a.den→sc.den} (hs:sc.scalar=true) (h : ∀ p y,G p y=true→qh P f [.ref τ p,.val a y] (.val sc (F p y))):EQ P f (rd1 τ a sc G F):=fun cells aL res he=>by
 unfold rd1 at he
 split at he
 ·rename_i x
  split at he
  ·rename_i p y hp hy
   simp only [Option.some.injEq,Prod.mk.injEq] at he
   obtain ⟨hg,rfl⟩:=he
   obtain ⟨h1,h2⟩:=h p y hg
   refine ⟨h1,fun c blk arr t vs hb hr hbn hrest => ?_⟩
   match vs,hrest with
   | [v0],⟨hx,_⟩ =>
   refine (h2 c.w ⟨fun b o=>c.St b o∨b=blk,c.St.j⟩ (fun b o x=>x.elim (hbn b o) (fun e=>by rw [e]; exact (Array.getElem?_eq_some_iff.1 hb).1)) [.pointer (some ⟨blk,0,none⟩),v0] ⟨MD hb hr hp,⟨v0,rfl,(dat?_sound hy hx).mono (St':=⟨fun b o=>c.St b o∨b=blk,c.St.j⟩) ⟨fun _ _ x => .inl x,fun _ _ _ _ x=>x⟩ (fun _ _ _ _ x=>x)⟩,trivial⟩).mono ?_
   rintro _ w' ⟨v,St',rfl,q1,q2,_,_,_,q3⟩
   exact ⟨v,rfl,q1,q2,Cl hs q3⟩
  ·cases he
 ·cases he
def rf0 (τ sc:Ty) (G:τ.den→Bool) (F:τ.den→sc.den):Ent:=fun args=>match args with
 | [.ref t x]=>match cast? t τ x with
  | some p=>some (G p,.val sc (F p))
  | none=>none
 | _=>none
def rf1 (τ a sc:Ty) (G:τ.den→a.den→Bool) (F:τ.den→a.den→sc.den):Ent:=fun args=>match args with
 | [.ref t x,u]=>match cast? t τ x,dat? a u with
  | some p,some y=>some (G p y,.val sc (F p y))
  | _,_=>none
 | _=>none
theorem Ga {c:Gh} {τ:Ty} {x:τ.den} {vs:List Value} (h:RA c (.ref τ x) vs):RA (bj c.w c.St) (.ref τ x) vs:=h
theorem ag0 {P:Program} {f:FuncId} {τ sc:Ty} {G:τ.den→Bool} {F:τ.den→sc.den} (h : ∀ p,G p=true→qh P f [.ref τ p] (.val sc (F p))):ar P f (rf0 τ sc G F):=fun args res he=>by
 unfold rf0 at he
 split at he
 ·split at he
  ·rename_i t x _ p hp
   simp only [Option.some.injEq,Prod.mk.injEq] at he
   obtain ⟨hg,rfl⟩:=he
   obtain ⟨e,e2⟩:=cast?_some hp
   subst e
   have e2:p=x:=e2
   subst e2
   obtain ⟨h1,h2⟩:=h p hg
   exact ⟨fun w St vs=>RAs (bj w St) [.ref t p] vs,fun c vs hr=>by
    match vs,hr with
    | [v],⟨r,_⟩=>exact ⟨Ga r,trivial⟩,h1,h2⟩
  ·cases he
 ·cases he
theorem agZ {P:Program} {f:FuncId} {τ a sc:Ty} {G:τ.den→a.den→Bool} {F:τ.den→a.den→sc.den} (h : ∀ p y,G p y=true→qh P f [.ref τ p,.val a y] (.val sc (F p y))):ar P f (rf1 τ a sc G F):=fun args res he=>by
 unfold rf1 at he
 split at he
 ·split at he
  ·rename_i t x u _ _ p y hp hy
   simp only [Option.some.injEq,Prod.mk.injEq] at he
   obtain ⟨hg,rfl⟩:=he
   obtain ⟨e,e2⟩:=cast?_some hp
   subst e
   have e2:p=x:=e2
   subst e2
   obtain ⟨h1,h2⟩:=h p y hg
   exact ⟨fun w St vs=>RAs (bj w St) [.ref t p,.val a y] vs,fun c vs hr=>by
    match vs,hr with
    | [v,v'],⟨r,r',_⟩=>exact ⟨Ga r,⟨v',rfl,(dat?_sound (c:=c) hy r':cE c.w c.St a y v')⟩,trivial⟩,h1,h2⟩
  ·cases he
 ·cases he
end Go.Proofs.YtboikinjlmjgjaaGreat.Abs
