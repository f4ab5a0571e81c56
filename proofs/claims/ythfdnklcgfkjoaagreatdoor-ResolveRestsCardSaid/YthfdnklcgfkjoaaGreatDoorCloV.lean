/- Closed runs. -/
import Derived.Test.YthfdnklcgfkjoaaGreatDoorCloT
import Derived.RangeFuncCalls
import Derived.RangeFuncLeaves
import Derived.OrdersIn
import Derived.LoopNIn
import Derived.LoopN
import Derived.RangeFuncIn
import Derived.RangeFuncRecord
set_option linter.all false
namespace Go.Proofs.YthfdnklcgfkjoaaGreatDoor.Clo
open Go Go.RowKit
variable [SymVal]
def RF (f:Option Nat):Fence:={ Fence.wide with round:=f }
variable{P:Program}{ro:Option Nat}{n B:Nat}{w:World}{o:Oper}{a:Act}{h:Pos→EO}{W:W0}{φ ψ:Gx}{e:Env}
def By {f:FuncId}{args:Array Value}{R:Ending→World→Prop}(h:Calls P f args w R):CallsIn (RF ro) n P f args w R:=by have g:CallsIn Fence.wide n P f args w R:=callsIn_wide.2 h;exact g
def gc (ro:Option Nat)(o:Oper):Prop:=ro=none∨∀c,o.op ≠ .defer c
def xL {K:Act→World→Prop}{Q:Exit→Act→World→Prop}(g:gc ro o)(h:o.wp P a w K Q):o.wpIn (RF ro) n P a w K Q:=by
 refine⟨λ_ _=>trivial, ?_⟩;have e:o.semAt (RF ro).round a.eval=execOp a.eval o:=by
  obtain rfl|g:=g
  ·rfl
  ·exact Oper.semAt_eq _ _ _ g
 rw[e];unfold Oper.wp at h;generalize (execOp a.eval o).run P w=r at h⊢;cases r with
 |ok x j=>
  cases x <;> simp[Oper.upon,Oper.uponIn]at h⊢;case value=>exact h
  case skip=>exact h
  case defer=>exact h
  case enter=>exact⟨(λq=>by cases q),By h⟩
  case row =>refine⟨(λq=>by cases q),λc l _=>?_⟩;obtain⟨v,f,r1,r2⟩:=h c l;exact⟨v,f,r1,stepsIn_wide.2 r2⟩
 |halt x j=>cases x <;> simp[Oper.upon,Oper.uponIn]at h⊢ <;> exact h
def Nn (h f:Pos→EO):Prop:=∀k,i5 (f k)=true→i5 (h k)=true
def cG (B:Nat)(φ:Gx)(h:Pos→EO)(w:World)(ψ:Gx)(f:Pos→EO)(g:World):Prop:=φ.le ψ∧(∀W,Inv B W φ h w→Inv B W ψ f g)∧Nn h f
def cG.refl {B:Nat}{φ:Gx}{h:Pos→EO}{w:World}:cG B φ h w φ h w:=⟨Gx.le.refl φ,λ_ h=>h,λ_ h=>h⟩
def S9 {o:EO}(h:i5 o=true):DH o=true∨o = .none:=by cases o <;> first|exact .inl rfl|exact .inr rfl|cases h
def abU {j:Option (Pos×EO)}(l:∀k g,j=some (k,g)→i5 g=false):Nn h (tn h j):=λk f=>by
 cases j with
 |none=>exact f
 |some p=>
  obtain⟨r,g⟩:=p;simp[tn,upd]at f;split at f
  ·rw[l r g rfl]at f;cases f
  ·exact f
def cG.trans {B:Nat}{j g f:Gx}{P J C:Pos→EO}{r p l:World}(a:cG B j P r g J p)(b:cG B g J p f C l):cG B j P r f C l:=⟨a.1.trans b.1,λW h=>b.2.1 W (a.2.1 W h),λk R=>a.2.2 k (b.2.2 k R)⟩
def Inv.self (f:Inv B W φ h w):Inv B ⟨w,φ⟩ φ h w :=
 ⟨Below.refl _ _,Kp.refl _,Gx.le.refl _,λ_ _=>⟨λ_=>rfl,rfl,rfl,λ_ _ _=>rfl⟩,f.size,f.obj,f.sep⟩
def vM {U :Pos→EO}{w' :World}(C:φ.le ψ)(f:Inv B ⟨w,φ⟩ ψ U w')(r:Nn h U):cG B φ h w ψ U w' :=
 ⟨C,(λW j=>⟨j.below.trans f.below,j.kp.trans f.kp,j.le.trans C,(λk hk=>by
  obtain⟨R,a2,a3,a4⟩:=f.res k hk;rcases S9 (r k (Zu hk))with h1|h1
  ·obtain⟨b1,b2,P,b4⟩:=j.res k h1;exact⟨λg=>(R g).trans (b1 g),a2.trans b2,a3.trans P,λg l J=>(a4 g l J).trans (b4 g l (by rw[←J];exact(R g).symm))⟩
  ·obtain⟨b1,b2,P⟩:=j.free h1;have T:∀{α:Type} {x y:Option α},y=none→(∀v,x=some v→y=some v)→x=none:=λ{α x y} hy hx=>by
    cases x with
    |none=>rfl
    |some v=>rw[hx v rfl]at hy;cases hy
   refine⟨λg=>(R g).trans ((b1 g).trans (T (b1 g) λv p=>j.le.loc k g v p).symm),a2.trans (b2.trans (T b2 λv p=>j.le.val k v p).symm),a3.trans (P.trans (T P λv p=>j.le.mu k v p).symm),λg l J=>?_⟩;rw[R g,show(W0.φ ⟨w,φ⟩).loc k g=φ.loc k g from rfl,b1 g]at J;cases J),f.size,f.obj,f.sep⟩),r⟩
def ER (φ:Gx)(e:Env)(f:Array Value):Prop:=∀t,t+2≤2^64→RT φ (e.get .unk (pos t)) (f.getD t undef)
def ER.mono {φ ψ:Gx}(h:φ.le ψ){e:Env}{f:Array Value}(j:ER φ e f):ER ψ e f:=λt g=>(j t g).mono h
def aiI {t f:Nat}(h:t+2≤2^64)(l:f+2≤2^64)(e:pos t=pos f):t=f:=by have g:=uf 64 t h;have j:=uf 64 f l;unfold pos at e;rw[e,j]at g;exact g.symm
def ER.set {φ:Gx}{e:Env}{tmps:Array Value}(r:ER φ e tmps){d:Nat}(p:d<tmps.size)(g:d+2≤2^64){out:TV}{v:Value}(l:RT φ out v):ER φ (PM.set .unk (pos d) e out) (tmps.setIfInBounds d v):=λt j=>by
 rw[PM.get_set];simp[upd,n_,Array.getElem?_setIfInBounds];by_cases f:d=t
 ·subst f;rw[β rfl,β rfl,β p];exact l
 ·rw[ο (λe=>f (aiI g j e)),ο f];have:=r t j;rw[n_]at this;exact this
def ny (j:ER φ e a.tmps)(x:Operand):RT φ (bA e (oH x)) (a.eval x):=by
 cases x with
 |tmp t=>
  simp only[oH];split
  next h=>exact j t h
  ·exact trivial
 |const v=>
  simp[oH,bA,an9];split
  next p hp=>exact Gr hp φ
  ·exact trivial
 |global g=>exact rfl
 |func f=>exact rfl
def uS {φ:Gx}{e:Env}{a:Act}(g:ER φ e a.tmps):∀f:List Operand,RTs φ (bj e (f.map oH)) (f.map a.eval)
 |[]=>trivial
 |x::f=>⟨ny g x,uS g f⟩
def eL (p:ER φ e a.tmps){l:Nat}(f:a.tmps.size=l){d:Option Tmp}{j:Option Pos}(g:V9 l d=some j){out:TV}{v:Value}(r:RT φ out v):ER φ (bn e j out) (a.put d v).tmps∧(a.put d v).tmps.size=l:=by
 unfold V9 at g;split at g
 ·cases g;exact⟨p,f⟩
 next d=>
  split at g
  next h=>cases g;exact⟨p.set (by rw[f];exact h.1) h.2 r,by simp[Act.put,f]⟩
  ·cases g
def tp:RT φ (.tup []) undef:=⟨[],rfl,rfl⟩
def HQ (hE:ER φ e a.tmps){p:Array Oper}{g:Option (Pos×Bool)}(r:CR p.toList o.guard=some g){b:Bool}(C:gd e g=some b):Region.wanted o (yielded p a.tmps)=b:=by
 unfold CR at r;split at r
 next hgd=>cases r;cases C;simp[Region.wanted,hgd]
 next j want hgd=>
  split at r
  next d R=>
   split at r
   ·rename_i U;cases r;have f:=hE d U;have P:yielded p a.tmps j=match a.tmps[d]? with|some (.bool b)=>some b|_=>none:=by
     have R:(p[j]?).bind (·.dst)=some d:=by simpa using R
     unfold yielded;rw[R];rfl
    simp[Region.wanted,hgd,P];simp[gd]at C;rw[n_]at f;split at C
    ·rename_i c T;simp at C;rw[T]at f;have f:=rt_bl f;have:a.tmps[d]? = some (.bool c):=by
      cases J:a.tmps[d]? with
      |none=>rw[J]at f;cases f
      |some x=>rw[J]at f;rw[show x=Value.bool c from f]
     rw[this];subst C;cases want <;> cases c <;> rfl
    ·rename_i l T;simp at C;rw[T]at f;obtain⟨vs,_,f⟩:=f;subst C;cases J:a.tmps[d]? with
     |none=>rfl
     |some x =>rw[J]at f;rw[show x=Value.tuple vs.toArray from f];rfl
    ·cases C
   ·cases r
  ·cases r
def GlOk.more {p:Glt}(h:GlOk p P B W){r:Pos→EO}(l:Inv B W φ r w):GlOk p P B ⟨w,ψ⟩:=⟨λg t v C f j=>h.1 g t v C f (l.below.trans j),λf j=>h.2 f (l.below.trans j)⟩
structure Lq where
 j:Pos
 l:Nat
 lrec:Loop
 env:Env
 tmps:Array Value
def Ctx (T:List Lq)(φ:Gx)(w:World):Prop:=∀q∈T,(∃l,φ.loc q.j 0=some l∧l.b=q.l)∧w.heap[q.l]? = some (.loop q.lrec)∧ER φ q.env q.tmps
def Ctx.more {T:List Lq}{P :Pos→EO}{g :World}(p:Ctx T φ w)(r:Inv B W φ h w)(f:cG B φ h w ψ P g):Ctx T ψ g:=λq j=>by obtain⟨⟨l,J,C⟩,h3,h4⟩:=p q j;exact⟨⟨l,f.1.loc _ _ _ J,C⟩,(f.2.1 _ r.self).kp.keep _ _ h3 rfl,h4.mono f.1⟩
def Callable (P:Program)(f:FuncId):Prop:=∃fn,P.funcs[f]? = some fn∧fn.body.isSome=true∧(fn.name == "runtime.NumGoroutine")=false
def L4 (P:Program)(t:Tgt)(φ:Gx)(w:World)(r:List Value)(R:Ending→World→Prop):Prop:=match t with
 |.fn f=>Callable P f∧Calls P f r.toArray w R
 |.yld j=>∀l,φ.loc j 0=some l→∀(ro:Option Nat) (n:Nat),∃f g assign p,(Instr.yield l.b r.toArray).run P w = .ok (.round l.b f g assign p) w∧RoundIn (RF ro) n P l.b f g assign p w R
def JD (B:Nat)(φ:Gx)(h:Pos→EO)(w:World)(g:Pos→EO)(out:TV):Ending→World→Prop:=λe f=>∃v ψ,e = .returned v∧cG B φ h w ψ g f∧RT ψ out v
def sR (P:Program)(l:Glt)(B:Nat)(call:Ck)(T:List Lq):Prop:=∀b t args d n v g j,call b t args d n = .ok v g j→∀W φ w,GlOk l P B W→Inv B W φ (HP.ov b d).get w→∀f,RTs φ args f→Ctx T φ w→L4 P t φ w f (JD B φ (HP.ov b d).get w (HP.ov b g).get v)
def ON (P:Program)(r:Glt)(B:Nat)(l:Yk)(T:List Lq):Prop:=∀b j args d n v g p,l b j args d n = .ok v g p→∀W φ w,GlOk r P B W→Inv B W φ (HP.ov b d).get w→∀f,RTs φ args f→Ctx T φ w→L4 P (.yld j) φ w f (JD B φ (HP.ov b d).get w (HP.ov b g).get v)
structure CkOk (P:Program)(Gl:Glt)(B:Nat)(ck:Callk)(T:List Lq):Prop where
 call:sR P Gl B ck.call T
 iter:∀yk' Γ',ON P Gl B yk' Γ'→sR P Gl B (ck.iter yk') Γ'
section
variable {P:Program}{Gl:Glt}{B:Nat}{W:W0}{φ:Gx}{h:Pos→EO}{w:World}{o:Oper}{a:Act}{e:Env}{nt:Nat}{ops:Array Oper}{T:List Lq}
variable{fo:FO}{al:Bool}{ro:Option Nat}{n i:Nat}{out:TV}{wr:Option (Pos×EO)}{x:Src}{dst:Option Pos}{args:List Src}{g:Option (Pos×Bool)}{t:Tgt}{vs:List TV}
def V8 (f:cOp P Gl nt ops.toList o = .op fo al):∃dst j,V9 nt o.dst=some dst∧CR ops.toList o.guard=some fo.guard∧cK P Gl o.op=some (fo.k,j)∧fo.args=j.map oH∧fo.dst=dst∧al=kAl fo.k:=by
 unfold cOp at f;split at f
 ·cases f
 next dst r=>
  split at f
  ·cases f
  next g p=>
   split at f
   next k j l=>injection f with h1 h2;subst h1;subst h2;exact⟨dst,j,r,p,l,rfl,rfl,rfl⟩
   ·split at f
    ·split at f <;> cases f
    ·split at f <;> cases f
    ·cases f
def QR (hi:ops[i]? = some o)(hc:cOp P Gl nt ops.toList o = .op fo al)(U:Inv B W φ h w)(hG:GlOk Gl P B W)(hE:ER φ e a.tmps)(p:gc ro o){f:Pos}(hf:al=true→h f = .none)(g:stepF e h f fo=some (out,wr))
  {Q:Exit→Act→World→Prop} {K:Act→World→Prop} (T:∀ψ v j,cG B φ h w ψ (tn h wr) j→RT ψ out v→K (a.put o.dst v) j):wpOpIn (RF ro) n P ops Q i K a w:=by
 obtain⟨dst,xs,_,hg,hk,l,_,C⟩:=V8 hc;unfold wpOpIn;simp[hi];unfold stepF at g;split at g
 next b hb=>
  rw[HQ hE hg hb];cases b with
  |false =>cases g;simp;exact⟨λ_ _=>trivial,T φ undef w cG.refl tp⟩
  |true =>simp;refine xL p ?_;have R:=uS hE xs;rw[←l]at R;obtain⟨h1,h2⟩:=afO (hG.more U (ψ:=φ)) U.self hk (λh'=>hf (by rw[C,h'])) R g;refine h1 K Q λv ψ j r J hr=>T ψ v j (vM r J (abU h2)) hr
 ·cases g
def OB (f:cOp P Gl nt ops.toList o = .nxt x dst):∃j,o.op = .next j false∧x=oH j∧V9 nt o.dst=some dst∧o.guard=none:=by
 unfold cOp at f;split at f
 ·cases f
 next dst' p=>
  split at f
  ·cases f
  next g hg=>
   split at f
   ·cases f
   ·split at f
    ·split at f <;> cases f
    ·rename_i j l;split at f
     ·injection f with h1 h2;subst h1;subst h2;refine⟨j,l,rfl,p, ?_⟩;unfold CR at hg;split at hg
      ·assumption
      ·split at hg
       ·split at hg
        ·cases hg
        ·cases hg
       ·cases hg
     ·cases f
    ·cases f
def Q9 {h:Pos→EO}{t:TV}{k:Pos}{j:EO}(f:Hc h t=some (out,some (k,j))):i5 j=false:=by
 unfold Hc at f;split at f
 ·split at f
  ·simp only[η,π]at f;cases f.2
  next m since seen sp hk=>
   split at f
   ·rename_i l clock r;split at f
    ·cases g:(seen.isEmpty||l.isEmpty||l.any (λe=>Nat.blt e.born sp))with
     |false=>rw[g]at f;cases f
     |true=>rw[g]at f;simp only[ξ,η,π]at f;cases f.2
    ·rename_i x p;cases g:(Nat.blt x.born since&&Nat.blt x.born sp)with
     |false=>rw[g]at f;cases f
     |true =>rw[g]at f;cases f;rfl
    ·cases f
   ·cases f
  ·cases f
 ·cases f
def ZW (R:ops[i]? = some o)(U:cOp P Gl nt ops.toList o = .nxt x dst)(hI:Inv B W φ h w)(hE:ER φ e a.tmps)(j:gc ro o)(r:Hc h (bA e x)=some (out,wr))
  {Q:Exit→Act→World→Prop} {K:Act→World→Prop} (hK:∀ψ v f,cG B φ h w ψ (tn h wr) f→RT ψ out v→K (a.put o.dst v) f):wpOpIn (RF ro) n P ops Q i K a w:=by
 obtain⟨C,g,rfl,_,T⟩:=OB U;unfold wpOpIn;simp[R];rw[β (by simp[Region.wanted,T])];refine xL j ?_;refine(ai0 hI.self g (ny hE C) r).1 K Q λv ψ f l p J=>hK ψ v f (vM l p (abU λk o' e=>by subst e;exact Q9 r)) J
def Bz (j:cOp P Gl nt ops.toList o = .call args dst g):∃cl f,o.op = .call cl∧cl.callee = .value f∧args=(f::cl.args.toList).map oH∧V9 nt o.dst=some dst∧CR ops.toList o.guard=some g:=by
 unfold cOp at j;split at j
 ·cases j
 next dst' C=>
  split at j
  ·cases j
  next g' r=>
   split at j
   ·cases j
   ·split at j
    ·rename_i cl l;split at j
     next f p=>injection j with h1 h2 h3;subst h1;subst h2;subst h3;exact⟨cl,f,l,p,Ψ,C,r⟩
     ·cases j
    ·split at j <;> cases j
    ·cases j
def Bl (hI:Inv B W φ h w){args:List TV}(R:cX h args=some (t,vs)){us:List Value}(hr:RTs φ args us):∃f U,us=f::U∧match t with
  |.fn g=>∃first J,f = .func (.func g) first J∧RTs φ vs (first.toList++U++J.toList)
  |.yld j=>∃l,φ.loc j 0=some l∧f = .func (.yield l.b) #[] #[]∧RTs φ vs U:=by
 unfold cX at R;split at R
 next f r=>cases R;obtain⟨v,ws,rfl,p,T⟩:=hr.cons;have p:some (Value.func (.func f) #[] #[])=some v:=p;injection p with p;exact⟨v,ws,rfl, #[], #[],p.symm,by simpa using T⟩
 next k r=>
  obtain⟨v,ws,rfl,p,T⟩:=hr.cons;have P:=hI.obj k;have p:den φ (.clo k)=some v:=p;simp only at R;split at R
  next f first J hk=>
   cases R;rw[hk]at P;obtain⟨_,A,C,q1,q2,q3⟩:=P;simp[den,q3]at p;exact⟨v,ws,rfl,A.toArray,C.toArray,p.symm,by simpa using((OO q1).append T).append (OO q2)⟩
  next hk=>cases R;rw[hk]at P;obtain⟨_,l,q1,_,q3,_⟩:=P;simp[den,q3]at p;exact⟨v,ws,rfl,l,q1,p.symm,T⟩
  ·cases R
 ·cases R
def ID (hi:ops[i]? = some o)(hc:cOp P Gl nt ops.toList o = .call args dst g)(hgd:gd e g=some true)(hI:Inv B W φ h w)(hE:ER φ e a.tmps)(hnd:gc ro o)(he:cX h (bj e args)=some (t,vs)){h':Pos→EO}
  (hck:∀us,RTs φ vs us→L4 P t φ w us (JD B φ h w h' out)) {Q:Exit→Act→World→Prop} {K:Act→World→Prop} (hK:∀ψ v w',cG B φ h w ψ h' w'→RT ψ out v→K (a.put o.dst v) w'):wpOpIn (RF ro) n P ops Q i K a w:=by
 obtain⟨cl,f,hop,hcl,rfl,_,hg⟩:=Bz hc;unfold wpOpIn;simp[hi];rw[HQ hE hg hgd,β rfl];obtain⟨fv,xs,hus,ht⟩:=Bl hI he (uS hE (f::cl.args.toList));simp at hus;obtain⟨hf,hxs⟩:=hus;have post:∀e w',JD B φ h w h' out e w'→∃v,e = .returned v∧K (a.put o.dst v) w':=λe w' hr=>by obtain⟨v,ψ,h1,h2,h3⟩:=hr;exact⟨v,h1,hK ψ v w' h2 h3⟩
 cases t with
 |fn f'=>
  obtain⟨first,caps,h1,h2⟩:=ht;obtain⟨⟨fn,f1,f2,f3⟩,hcalls⟩:=hck _ h2;have hbody:¬fn.body=none:=by cases hb:fn.body <;> simp_all
  have f3:¬fn.name = "runtime.NumGoroutine":=by simpa using f3
  have hrun:(execOp a.eval o).run P w = .ok (.enter f' (first.toList++xs++caps.toList).toArray) w:=by
   have e2:first++cl.args.map a.eval++caps=(first.toList++xs++caps.toList).toArray:=i_ (by simp[hxs])
   unfold execOp;simp[hop,resolve,hcl,hf,h1,Deferred.ofValue,ν,Z',invoke,callFunc,H_,f1,e2];simp[f3,hbody]
  refine xL hnd ?_;unfold Oper.wp;rw[hrun];refine hcalls.mono ?_;intro e w' hr;obtain⟨v,rfl,hk⟩:=post e w' hr;exact hk
 |yld j=>
  obtain⟨l,h1,h2,h3⟩:=ht;obtain⟨f',tmps,assign,body,hy,hround⟩:=hck _ h3 l h1 ro (n-1);have hrun:(execOp a.eval o).run P w = .ok (.round l.b f' tmps assign body) w:=by have e2:cl.args.map a.eval=xs.toArray:=i_ (by simp[hxs]);unfold execOp;simp[hop,resolve,hcl,hf,h2,Deferred.ofValue,ν,Z',invoke,e2,hy]
  refine⟨λ_ _=>trivial, ?_⟩;have es:o.semAt (RF ro).round a.eval=execOp a.eval o:=by
   obtain rfl|hd:=hnd
   ·rfl
   ·exact Oper.semAt_eq _ _ _ hd
  rw[es,hrun,Oper.uponIn_round];refine⟨(λq=>by cases q),hround.mono ?_⟩;intro e w' hr;obtain⟨v,rfl,hk⟩:=post e w' hr;exact hk
def FN (p:ops[i]? = some o)(J:cOp P Gl nt ops.toList o = .call args dst g)(j:gd e g=some false)(T:ER φ e a.tmps)
  {Q:Exit→Act→World→Prop} {K:Act→World→Prop} (R:K (a.put o.dst undef) w):wpOpIn (RF ro) n P ops Q i K a w:=by
 obtain⟨cl,f,l,C,rfl,_,r⟩:=Bz J;unfold wpOpIn;simp[p];rw[HQ T r j];simp;exact⟨λ_ _=>trivial,R⟩
end
open Go Go.RowKit
variable [SymVal]
structure Rl (B lo:Nat)(J:Gx)(h0:Pos→EO)(U:World)(nt:Nat)(e:Env)(h:Pos→EO)(a:Act)(w:World):Prop where
 ex:∃φ,cG B J h0 U φ h w∧ER φ e a.tmps
 sz:a.tmps.size=nt
 df:∃ms:List Nat,a.defers=ms.map (λD=>{ target :=.collected D,args :=#[] })∧ms.Nodup∧∀D∈ms,lo≤D∧w.heap[D]? = some (.deferred (some []))
def FV (b:HP)(d:DM)(f:Option (Pos×EO)):(HP.ov b (tJ d f)).get=tn (HP.ov b d).get f:=by
 cases f with
 |none=>rfl
 |some p=>exact HP.get_set b d p.1 p.2
section
variable {P:Program}{Gl:Glt}{B lo:Nat}{W:W0}{J:Gx}{h0:Pos→EO}{U:World}{nt:Nat}{ops:Array Oper}{T:List Lq}{ck:Callk}
def Rl.step (j:Inv B W J h0 U){e:Env}{h:Pos→EO}{a:Act}{w:World}(r:Rl B lo J h0 U nt e h a w){φ ψ:Gx}{P:Pos→EO}{l:World}(p:cG B J h0 U φ h w)(hE:ER φ e a.tmps)(f:cG B φ h w ψ P l){d:Option Tmp}{g:Option Pos}(hd:V9 nt d=some g){out:TV}{v:Value}(T:RT ψ out v):Rl B lo J h0 U nt (bn e g out) P (a.put d v) l:=by obtain⟨h1,h2⟩:=eL (hE.mono f.1) r.sz hd T;obtain⟨R,m1,m2,m3⟩:=r.df;refine⟨⟨ψ,p.trans f,h1⟩,h2,R, ?_,m2,λD C=>⟨(m3 D C).1,(f.2.1 _ (p.2.1 _ j).self).kp.keep _ _ (m3 D C).2 rfl⟩⟩;cases d <;> exact m1
def kN (B lo:Nat)(J:Gx)(h0:Pos→EO)(U:World)(nt:Nat)(e:Env)(h:Pos→EO):Exit→Act→World→Prop
 |.normal,a,w=>Rl B lo J h0 U nt e h a w
 |_,_,_=>False
def bJ {ro:Option Nat}{n:Nat}(j:Inv B W J h0 U)(hG:GlOk Gl P B W)(C:CkOk P Gl B ck T)(hcx:Ctx T J U)(hnd:∀o∈ops.toList,gc ro o){b:HP}{e':Env}{d':DM}{n':Pos}{Q:Exit→Act→World→Prop}(hQ:∀a w,Rl B lo J h0 U nt e' (HP.ov b d').get a w→Q .normal a w):∀(l:List Oper) (i:Nat) (e:Env) (d:DM) (f:Pos) (a:Act) (w:World),ops.toList.drop i=l →
  bc ck b (nF P Gl nt ops.toList l) e d f = .ok e' d' n'→Rl B lo J h0 U nt e (HP.ov b d).get a w→wpOpsIn (RF ro) n P ops Q (List.range' i (ops.size-i)) a w
 |[],i,e,d,f,a,w,hd,h,hr=>by
  have hsz:ops.size-i=0:=by have:=C_ List.length hd;simpa using this
  rw[hsz];simp only[nF,bc]at h;injection h with h1 h2 h3;subst h1;subst h2;exact hQ _ _ hr
 |o::l,i,e,d,f,a,w,hd,h,hr=>by
  have hlt:i<ops.size:=by have:=C_ List.length hd;simp at this;omega
  have hoi:ops[i]? = some o:=by
   have:(ops.toList.drop i)[0]? = some o:=by rw[hd];rfl
   rw[U']at this;simpa using this
  have hd':ops.toList.drop (i+1)=l:=by rw[←List.drop_drop,hd];rfl
  have hno:gc ro o:=hnd o (U_.2 (e? hoi));rw[show ops.size-i=(ops.size-(i+1))+1 by omega,Y_,wpOpsIn_cons];obtain⟨φ,hs,hE⟩:=hr.ex;have hI:=hs.2.1 _ j;simp[nF,bc]at h;split at h
  next fo al hc=>
   obtain⟨dst,xs,p,_,_,_,hfd,_⟩:=V8 hc;cases R:bT al (HP.ov b d).get f with
   |false=>rw[R]at h;cases h
   |true=>
    rw[R,ξ]at h;split at h
    ·rename_i out wr hst;have hf:al=true→(HP.ov b d).get f = .none:=λhal=>by
      subst hal;unfold bT at R;simp only at R;split at R
      next hn=>exact hn
      ·cases R
     refine QR hoi hc hI hG hE hno hf hst λψ v w' r hv=>?_;have:=hr.step j hs hE r p hv;rw[←FV]at this;rw[hfd]at h;exact bJ j hG C hcx hnd hQ l (i+1) _ _ _ _ w' hd' h this
    ·cases h
  next args dst g hc=>
   obtain⟨_,_,_,_,_,p,_⟩:=Bz hc;split at h
   ·rename_i hg;split at h
    ·rename_i t vs hen;split at h
     next out d1 n1 hcall=>refine ID hoi hc hg hI hE hno hen (λus hus=>C.call _ _ _ _ _ _ _ _ hcall W φ w hG hI us hus (hcx.more j hs)) λψ v w' r hv=>?_;exact bJ j hG C hcx hnd hQ l (i+1) _ _ _ _ w' hd' h (hr.step j hs hE r p hv)
     ·cases h
    ·cases h
   next hg=>refine FN hoi hc hg hE ?_;exact bJ j hG C hcx hnd hQ l (i+1) _ _ _ _ w hd' h (hr.step j hs hE cG.refl p tp)
   ·cases h
  next x dst hc=>
   obtain⟨_,_,_,p,_⟩:=OB hc;split at h
   next out wr hst=>refine ZW hoi hc hI hE hno hst λψ v w' r hv=>?_;have:=hr.step j hs hE r p hv;rw[←FV]at this;exact bJ j hG C hcx hnd hQ l (i+1) _ _ _ _ w' hd' h this
   ·cases h
  ·cases h
end
