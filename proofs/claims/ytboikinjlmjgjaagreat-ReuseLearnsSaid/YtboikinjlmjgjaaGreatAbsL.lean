/- The abstract machine's run: operations with guards, regions, masks, code. -/
import Derived.Test.YtboikinjlmjgjaaGreatAbsB
namespace Go.Proofs.YtboikinjlmjgjaaGreat.Abs
open Go
def nk (g:Bool):AV→Bool×AV
 | .cond c a=>(aC g c,a)
 | a=>(true,a)
def nT (g:Bool):List AV→Bool×List AV
 | []=>(true,[])
 | a::l=>((nk g a).1&&(nT g l).1,(nk g a).2::(nT g l).2)
def gu (op:Op) (g:Bool) (l:List AV):Bool×List AV :=
 match op,l with
 | .pick _ _ _,a::r=>((nk g a).1,(nk g a).2::r)
 | _,l=>nT g l
def xg (env:List AV) (ops:List Oper) (j:Nat) (want:Bool):Option Bool :=
 match (ops[j]?).bind (·.dst) with
 | some d=>match env.getD d .unk with
  | .val .bool b=>some (match want with | true=>b | false => !b)
  | .cond c (.val .bool b)=>some (c&&(match want with | true=>b | false => !b))
  | _=>none
 | none=>none
structure Dl where
 chk:Bool
 out:AV
 dst:Option Nat
 wr:Option (Nat×HO)
def gV (env:List AV) (dst:Option Nat) (a:AV):List AV :=
 match dst with
 | some d=>env.set d a
 | none=>env
def Cj (heap:List HO) (wr:Option (Nat×HO)):List HO :=
 match wr with
 | some (k,ho)=>heap.set k ho
 | none=>heap
def Dl.app (d:Dl) (σ:Sg):Sg:=⟨gV σ.env d.dst d.out,Cj σ.heap d.wr⟩
def NB (heap:List HO) (k:Option Nat):HO :=
 match k with
 | some k=>heap.getD k .none
 | none => .none
def Ta (tab:Tab) (T:Specs) (o:Oper) (fresh:Nat) (g:Option Bool) (vals:List AV) (ho:HO):Option Dl :=
 match g with
 | none=>match eff tab T o true vals fresh ho with
  | some (c,out,ho')=>some ⟨c,out,o.dst,if dc T o.op then none else match bR T o.op vals fresh with | some k=>some (k,ho') | none=>none⟩
  | none=>none
 | some g=>if dc T o.op then match eff tab T o g (gu o.op g vals).2 fresh ho with
   | some (c,out,_)=>some ⟨(gu o.op g vals).1&&aC g c,.cond g out,o.dst,none⟩
   | none=>none
  else match aju tab o (gu o.op g vals).2 with
   | some out=>some ⟨(gu o.op g vals).1,.cond g out,o.dst,none⟩
   | none=>none
def gOf (env:List AV) (ops:List Oper) (o:Oper):Option (Option Bool) :=
 match o.guard with
 | none=>some none
 | some (j,want)=>match xg env ops j want with
  | some g=>some (some g)
  | none=>none
def cX (env:List AV) (o:Oper):List AV:=o.op.operands.toList.map (MT env)
def kO (T:Specs) (o:Oper) (fresh:Nat) (g:Option Bool) (vals:List AV):Option Nat :=
 match g with
 | none=>bR T o.op vals fresh
 | some g=>bR T o.op (gu o.op g vals).2 fresh
def ua (tab:Tab) (T:Specs) (ops:List Oper) (fresh:Nat) (o:Oper) (σ:Sg):Option Dl :=
 match gOf σ.env ops o with
 | some g=>Ta tab T o fresh g (cX σ.env o) (NB σ.heap (kO T o fresh g (cX σ.env o)))
 | none=>none
def AV.noCond:AV→Bool
 | .fn _ c=>c.noCond
 | .agg p=>p.noCond
 | .tup p=>p.noCond
 | .pcons a b=>a.noCond&&b.noCond
 | .cond _ _=>false
 | _=>true
def clr:AV→AV
 | .cond _ _ => .unk
 | a=>a
inductive Tgt where
 | fn (f:FuncId) | yld (j:Nat)
abbrev Yk:=Nat→List AV→List HO→(AV→List HO→Option AV)→Option AV
abbrev Ck:=Tgt→List AV→List HO→(AV→List HO→Option AV)→Option AV
structure Callk where
 call:Ck
 iter:Yk→Ck
def Ky (o:Oper) (env:List AV):Option (Tgt×List AV) :=
 match o.op,o.guard with
 | .call cl,none=>match cl.callee,cX env o with
  | .value _,.fn f caps::args=>if env.all AV.noCond then some (.fn f,args++caps.parts) else none
  | .value _,.yld j::args=>if env.all AV.noCond then some (.yld j,args) else none
  | _,_=>none
 | _,_=>none
def M5 (tab:Tab) (o:Oper) (σ:Sg) (fresh:Nat):Option (Bool×AV×List HO) :=
 match o.op,o.guard with
 | .call cl,none=>match cl.callee with
  | .builtin .append=>match cX σ.env o,cl.argTypes.toList with
   | [s,.msl k v lo hi],[t1,t2]=>if t1=t2 then match tab.elem t1,tab.ty t1,σ.heap[k]? with
     | some e,some (.slice τ),some (.mrow τ' _ v' l)=>if v'=v then match cast? (.slice τ') (.slice τ) l with
       | some l=>match s with
        | .own k2 v2 t2 l2=>match σ.heap[k2]? with
         | some (.row t3 e3 v3)=>if t3=t2 then if e3=e then if v3=v2 then match cast? (.slice t2) (.slice τ) l2 with
           | some l2=>some (decide (l2.length+((l.take hi).drop lo).length≤LIM),.own k2 (v2+1) τ (l2++(l.take hi).drop lo),σ.heap.set k2 (.row τ e (v2+1)))
           | none=>none
          else none else none else none
         | _=>none
        | .nil=>match σ.heap[fresh]? with
         | some .none=>some (decide (((l.take hi).drop lo).length≤LIM),.own fresh 1 τ ((l.take hi).drop lo),σ.heap.set fresh (.row τ e 1))
         | _=>none
        | _=>none
       | none=>none
      else none
     | _,_,_=>none
    else none
   | _,_=>none
  | .builtin .copy=>match cX σ.env o,cl.argTypes.toList with
   | [.msl k v lo hi,x],[t1,t2]=>if t1=t2 then match tab.elem t1,uA (tab.ty t1) x,σ.heap[k]? with
     | some e,some ⟨τ,l'⟩,some (.mrow τ' e' v' l)=>if v'=v then if e'=e then match cast? (.slice τ') (.slice τ) l with
       | some l=>some (true,.val (.int .i64) ((Nat.min l'.length (hi-lo):Nat):Int),σ.heap.set k (.mrow τ e v (l.take lo++l'.take (Nat.min l'.length (hi-lo))++l.drop (lo+Nat.min l'.length (hi-lo)))))
       | none=>none
      else none else none
     | _,_,_=>none
    else none
   | _,_=>none
  | .builtin .clear=>match cX σ.env o with
   | [.msl k v lo hi]=>match (cl.argTypes[0]?).bind tab.elem,(cl.argTypes[0]?).bind tab.ty,σ.heap[k]? with
    | some e,some (.slice τ),some (.mrow τ' e' v' l)=>if v'=v then if e'=e then match cast? (.slice τ') (.slice τ) l with
      | some l=>some (true,.tup .pnil,σ.heap.set k (.mrow τ e v (l.take lo++List.replicate (hi-lo) (zero τ)++l.drop hi)))
      | none=>none
     else none else none
    | _,_,_=>none
   | _=>none
  | _=>none
 | _,_=>none
def dq (tab:Tab) (T:Specs) (ck:Callk) (ops:List Oper) (base:Nat):Nat→List Oper→Sg→(Sg→Option AV)→Option AV
 | _,[],σ,k=>k σ
 | i,o::r,σ,k =>
  match ua tab T ops (base+i) o σ with
  | some d=>bif d.chk then dq tab T ck ops base (i+1) r (d.app σ) k else none
  | none=>match M5 tab o σ (base+i) with
   | some (b,out,heap')=>bif b then dq tab T ck ops base (i+1) r ⟨gV σ.env o.dst out,heap'⟩ k else none
   | none=>match Ky o σ.env with
    | some (f,args)=>ck.call f args σ.heap (fun res heap'=>dq tab T ck ops base (i+1) r ⟨gV σ.env o.dst res,heap'⟩ k)
    | none=>none
def vB (tab:Tab) (T:Specs) (ops:List Oper) (base:Nat):Nat→List Oper→Sg→Option (List Dl×List (Option Nat))
 | _,[],_=>some ([],[])
 | i,o::r,σ =>
  match ua tab T ops (base+i) o σ with
  | some d=>match vB tab T ops base (i+1) r (d.app σ) with
   | some (ds,ts)=>some (d::ds,(match gOf σ.env ops o with | some g=>kO T o (base+i) g (cX σ.env o) | none=>none)::ts)
   | none=>none
  | none=>match r with
   | []=>some ([],[])
   | _=>none
def cI:List Oper→List Nat→List Nat
 | [],acc=>acc
 | o::r,acc=>cI r (acc++[o.after.toList.foldl (fun s e=>if Region.binds .any e then s ||| 2 ^ e.on ||| acc.getD e.on 0 else s) 0])
def iG:Nat→List Oper→Bool
 | _,[]=>true
 | i,o::r=>o.after.toList.all (fun e => !Region.binds .any e||decide (e.on<i))&&iG (i+1) r
def q7 (ops:List Oper) (o:Oper):List Nat :=
 (o.op.operands.toList.filterMap fun | .tmp t=>some t | _=>none)++(match o.guard with | some (j,_)=>((ops[j]?).bind (·.dst)).toList | none=>[])
def Gv (x y:Option Nat):Bool :=
 match x,y with
 | some a,some b=>a == b
 | _,_=>false
def EI (T:Specs) (ops:List Oper) (oi oj:Oper) (ti tj:Option Nat):Bool :=
 !Gv oi.dst oj.dst&&(match oi.dst with | some d => !(q7 ops oj).contains d | none=>true)&&(match oj.dst with | some d => !(q7 ops oi).contains d | none=>true) &&
 (!Gv ti tj||(dc T oi.op&&dc T oj.op))
def Is (T:Specs) (ops:List Oper) (bs:List Nat) (ts:List (Option Nat)) (i j:Nat):Bool :=
 (bs.getD j 0).testBit i||(match ops[i]?,ops[j]? with
  | some oi,some oj=>EI T ops oi oj (ts.getD i none) (ts.getD j none)
  | _,_=>false)
def Kz (T:Specs) (ops:List Oper) (ts:List (Option Nat)) (bs:List Nat):Bool :=
 iG 0 ops&&(List.range ops.length).all (fun j=>(List.range j).all fun i =>
  if j<ts.length then Is T ops bs ts i j else (bs.getD j 0).testBit i)
def wT (k:Sg→Option AV):Sg→Option AV:=fun σ=>k ⟨σ.env.map clr,σ.heap⟩
def sE (tab:Tab) (T:Specs) (ck:Callk) (ops:List Oper) (draw:Bool) (σ:Sg) (k:Sg→Option AV):Option AV :=
 match draw with
 | false=>dq tab T ck ops σ.heap.length 0 ops ⟨σ.env,σ.heap++List.replicate ops.length .none⟩ (wT k)
 | true=>match vB tab T ops σ.heap.length 0 ops ⟨σ.env,σ.heap++List.replicate ops.length .none⟩ with
  | some (_,ts)=>if Kz T ops ts (cI ops []) then dq tab T ck ops σ.heap.length 0 ops ⟨σ.env,σ.heap++List.replicate ops.length .none⟩ (wT k) else none
  | none=>none
inductive MK where
 | dat (t:Ty) | own (t:Ty) (e:TypeId) | mut (t:Ty) (e:TypeId) | keep | drop
structure MS where
 h0:Nat
 pre:List (Nat×List MK)
 env:List (Nat×MK)
def AV.under (n:Nat):AV→Bool
 | .box k _=>decide (k<n)
 | .own k _ _ _=>decide (k<n)
 | .msl k _ _ _=>decide (k<n)
 | .mpt k _ _ _=>decide (k<n)
 | .yld k=>decide (k<n)
 | .fn _ c=>c.under n
 | .agg p=>p.under n
 | .tup p=>p.under n
 | .pcons a b=>a.under n&&b.under n
 | .cond _ a=>a.under n
 | _=>true
inductive LE where
 | own (t:Ty) (e:TypeId)
 | mut (t:Ty) (e:TypeId) (ko:Option (Nat×Nat)) (l:List t.den)
 | frz (t:Ty) (e:TypeId) (ko:Option (Nat×Nat)) (l:List t.den)
def LE.ho:LE→HO
 | .own t e => .row t e 0
 | .mut t e _ l => .mrow t e 0 l
 | .frz _ _ _ _ => .dead
def adX (k v:Nat):Option (Nat×Nat)→Bool
 | some (k',v')=>Nat.beq k k'&&Nat.beq v v'
 | none=>false
def xA (t:Ty) (k v:Nat):Nat→List LE→Option Nat
 | _,[]=>none
 | i,.mut t' _ ko _::r=>if adX k v ko&&decide (t'=t) then some i else xA t k v (i+1) r
 | i,_::r=>xA t k v (i+1) r
def xB (t:Ty) (k v:Nat):List LE→Option (List t.den)
 | []=>none
 | .frz t' _ ko l::r=>if adX k v ko then match cast? (.slice t') (.slice t) l with | some l=>some l | none=>none else xB t k v r
 | _::r=>xB t k v r
def tQ (h0:Nat):MK→AV→List HO→List LE→Option (AV×List HO×List LE)
 | .dat t,.msl k v lo hi,H,L=>match t with
  | .slice τ=>match xB τ k v L with
   | some l=>some (.val (.slice τ) ((l.take hi).drop lo),H,L)
   | none=>match H[k]? with
    | some (.mrow τ' e v' l)=>if v'=v then match cast? (.slice τ') (.slice τ) l with
      | some l=>some (.val (.slice τ) ((l.take hi).drop lo),H.set k .dead,L++[.frz τ e (some (k,v)) l])
      | none=>none
     else none
    | _=>none
  | _=>none
 | .dat t,a,H,L=>match dat? t a with
  | some x=>some (.val t x,H,L)
  | none=>none
 | .own t e,.own k v t' l,H,L=>match H[k]? with
  | some (.row t2 e2 v2)=>if t2=t' then if e2=e then if v2=v then match cast? (.slice t') (.slice t) l with
    | some l=>some (.own (h0+L.length) 0 t l,H.set k (.row t2 e2 (v2+1)),L++[.own t e])
    | none=>none
   else none else none else none
  | _=>none
 | .own t e,.nil,H,L=>some (.own (h0+L.length) 0 t [],H,L++[.own t e])
 | .mut t e,.msl k v lo hi,H,L=>match xA t k v 0 L with
  | some i=>some (.msl (h0+i) 0 lo hi,H,L)
  | none=>match H[k]? with
   | some (.mrow t2 e2 v2 l)=>if e2=e then if v2=v then match cast? (.slice t2) (.slice t) l with
     | some l=>some (.msl (h0+L.length) 0 lo hi,H.set k .dead,L++[.mut t e (some (k,v)) l])
     | none=>none
    else none else none
   | _=>none
 | .mut t e,.nil,H,L=>some (.msl (h0+L.length) 0 0 0,H,L++[.mut t e none []])
 | .keep,a,H,L=>if a.under h0 then some (a,H,L) else none
 | .drop,_,H,L=>some (.unk,H,L)
 | _,_,_,_=>none
def Ox (h0:Nat):List MK→List AV→List HO→List LE→Option (List AV×List HO×List LE)
 | [],[],H,L=>some ([],H,L)
 | m::ms,a::as,H,L=>match tQ h0 m a H L with
  | some (a',H,L)=>match Ox h0 ms as H L with
   | some (as',H,L)=>some (a'::as',H,L)
   | none=>none
  | none=>none
 | _,_,_,_=>none
def xI (h0:Nat) (env:List AV):List (Nat×MK)→List AV→List HO→List LE→Option (List AV×List HO×List LE)
 | [],acc,H,L=>some (acc,H,L)
 | (s,m)::r,acc,H,L=>match tQ h0 m (env.getD s .unk) H L with
  | some (a,H,L)=>xI h0 env r (acc.set s a) H L
  | none=>none
def xH (h0:Nat):List (Nat×List MK)→List HO→List LE→Option (List (Nat×List AV)×List HO×List LE)
 | [],H,L=>some ([],H,L)
 | (k,ms)::r,H,L=>match H[k]? with
  | some (.box cells)=>match Ox h0 ms cells H L with
   | some (cells',H,L)=>match xH h0 r H L with
    | some (b,H,L)=>some ((k,cells')::b,H,L)
    | none=>none
   | none=>none
  | _=>none
def HO.under (n:Nat):HO→Bool
 | .box cells=>cells.all (AV.under n)
 | _=>true
def eF:List (Nat×List AV)→List HO→List HO
 | [],H=>H
 | (k,cells)::r,H=>eF r (H.set k (.box cells))
def wu (h0:Nat) (pre:List Nat):Nat→List HO→Bool
 | _,[]=>true
 | i,ho::r=>(pre.contains i||ho.under h0)&&wu h0 pre (i+1) r
def C2:List Nat→Bool
 | []=>true
 | a::l => !l.contains a&&C2 l
def adQ (lo:Nat) (m:MS) (σ:Sg):Option Sg :=
 if decide (lo≤m.h0)&&decide (m.h0≤σ.heap.length)&&C2 (m.pre.map (·.1))&&m.pre.all (fun p=>decide (p.1<m.h0))&&wu m.h0 (m.pre.map (·.1)) 0 (σ.heap.take m.h0) then
  match xH m.h0 m.pre σ.heap [] with
  | some (bs,H,L)=>match xI m.h0 σ.env m.env (List.replicate σ.env.length .unk) H L with
   | some (env,H,L)=>some ⟨env,eF bs (H.take m.h0)++L.map LE.ho⟩
   | none=>none
  | none=>none
 else none
inductive Ex where
 | normal | exit (id:Nat) | ret
abbrev KT:=Ex→Sg→Option AV
structure Par where
 tab:Tab
 T:Specs
 joins:Nat→Nat→Option MS
 loops:Nat→Nat→Option MS
def p6:Code→Option Nat
 | .region id _ _=>some id
 | .seq a b=>match p6 a with | some i=>some i | none=>p6 b
 | .cond _ a b=>match p6 a with | some i=>some i | none=>p6 b
 | .block _ c=>p6 c
 | .loop c=>p6 c
 | .scope c=>p6 c
 | _=>none
def Da (lo:Nat) (m:Option MS) (σ:Sg) (k:Sg→Option AV):Option AV :=
 match m with
 | none=>k σ
 | some m=>match adQ lo m σ with
  | some σ'=>k σ'
  | none=>none
def aw (lo:Nat) (m:Option MS) (eb:Sg→KT→Option AV) (k:KT):KT:=fun e σ =>
 match e with
 | .normal=>Da lo m σ fun σ'=>eb σ' k
 | e=>k e σ
def ai (id:Nat) (k:KT):KT:=fun e σ =>
 match e with
 | .exit id'=>match Nat.beq id' id with
  | true=>k .normal σ
  | false=>k (.exit id') σ
 | e=>k e σ
def mR (lo:Nat) (m:MS) (again:Sg→Option AV) (k:KT):KT:=fun e σ =>
 match e with
 | .normal=>Da lo (some m) σ again
 | e=>k e σ
def aB (lo:Nat) (m:MS) (body:Sg→KT→Option AV) (k:KT):Nat→Sg→Option AV
 | 0,_=>none
 | n+1,σ=>body σ (mR lo m (aB lo m body k n) k)
def jA:Code→Bool
 | .region _ ops _=>ops.toList.all fun o=>match o.op with | .defer _=>false | _=>true
 | .seq a b=>jA a&&jA b
 | .cond _ a b=>jA a&&jA b
 | .block _ a=>jA a
 | .loop a=>jA a
 | .scope a=>jA a
 | .rangeFunc _ _ a b=>jA a&&jA b
 | _=>true
def Me:List Nat→List AV→List AV→Option (List AV)
 | [],[],env=>some env
 | t::ts,a::as,env=>Me ts as (env.set t a)
 | _,_,_=>none
def YZ (kk:AV→List HO→Option AV):KT:=fun e σ =>
 match e with
 | .normal=>kk (.val .bool true) σ.heap
 | _=>none
def wU (eb:Sg→KT→Option AV) (k:KT):KT:=fun e σ =>
 match e with
 | .normal=>eb σ k
 | _=>none
def Cq (j:Nat) (call:Ck) (env:List AV) (ps:List Nat) (body:Nat→Sg→KT→Option AV):Yk:=fun j' args heap kk =>
 match Nat.beq j' j with
 | true=>match Me ps args env with
  | some env'=>body heap.length ⟨env',heap⟩ (YZ kk)
  | none=>none
 | false=>call (.yld j') args heap kk
def Y0 (env:List AV) (k:KT):AV→List HO→Option AV:=fun _ heap=>k .normal ⟨env,heap⟩
def be (ck:Callk) (S:Par):Nat→Nat→Code→Sg→KT→Option AV
 | _,_,.skip,σ,k=>k .normal σ
 | _,_,.label _,σ,k=>k .normal σ
 | _,_,.region _ ops draw,σ,k=>sE S.tab S.T ck ops.toList draw σ (k .normal)
 | lo,fuel,.seq a b,σ,k=>be ck S lo fuel a σ (aw lo ((p6 b).bind (S.joins lo)) (fun σ k=>be ck S lo fuel b σ k) k)
 | lo,fuel,.cond c a b,σ,k=>match MT σ.env c with
  | .val .bool x=>bif x then be ck S lo fuel a σ k else be ck S lo fuel b σ k
  | _=>none
 | lo,fuel,.block id c,σ,k=>be ck S lo fuel c σ (ai id k)
 | lo,fuel,.loop c,σ,k=>match (p6 c).bind (S.loops lo) with
  | some m=>Da lo (some m) σ (aB lo m (fun σ k=>be ck S lo fuel c σ k) k fuel)
  | none=>none
 | _,_,.exit id,σ,k=>k (.exit id) σ
 | _,_,.ret,σ,k=>k .ret σ
 | _,fuel,.rangeFunc g ps assign body,σ,k=>match MT σ.env g with
  | .fn f caps=>if jA assign&&jA body&&σ.env.all AV.noCond then
    ck.iter (Cq σ.heap.length ck.call σ.env ps.toList (fun lo σ k=>be ck S lo fuel assign σ (wU (fun σ k=>be ck S lo fuel body σ k) k))) (.fn f) (.yld σ.heap.length::caps.parts) (σ.heap++[.dead]) (Y0 σ.env k)
   else none
  | _=>none
 | _,_,_,_,_=>none
def Tg (tab:Tab) (σ:Sg):ResultVar→Option AV
 | .tmp t=>match σ.env.getD t .unk with
  | .cond _ _=>none
  | a=>some a
 | .cell t ty=>match σ.env.getD t .unk with
  | .box k off=>match σ.heap.getD k .none,tab.ty ty with
   | .box cells,some τ=>match asm τ ((cells.drop off).take τ.size) with
    | some x=>some (.val τ x)
    | none=>if τ.isStruct&&adB (tab.one ty) ((cells.drop off).take τ.size) then some (.agg (br ((cells.drop off).take τ.size))) else none
   | _,_=>none
  | _=>none
def gx (tab:Tab) (σ:Sg):List ResultVar→Option (List AV)
 | []=>some []
 | r::l=>match Tg tab σ r,gx tab σ l with
  | some a,some as=>some (a::as)
  | _,_=>none
def wt:List AV→AV
 | [a]=>a
 | l => .tup (br l)
def vV (tab:Tab) (rs:List ResultVar) (k:AV→List HO→Option AV):KT:=fun e σ =>
 match e with
 | .exit _=>none
 | _=>match gx tab σ rs with
  | some l=>k (wt l) σ.heap
  | none=>none
def CU (heap:List HO) (t:Ty) (a:AV):Option t.den :=
 match a with
 | .msl k v lo hi=>match t with
  | .slice τ=>match heap[k]? with
   | some (.mrow τ' _ v' l)=>if v'=v then match cast? (.slice τ') (.slice τ) l with
     | some l=>some ((l.take hi).drop lo)
     | none=>none
    else none
   | _=>none
  | _=>none
 | a=>one? t a
def W9 (heap:List HO):(t:Ty)→List AV→Option t.den
 | .unit,[]=>some ()
 | .cons a b,l=>match W9 heap a (l.take a.size),W9 heap b (l.drop a.size) with | some x,some y=>some (x,y) | _,_=>none
 | .tree,[a,b,c,d]=>match CU heap (.int .i64) a,CU heap .str b,CU heap (.slice .str) c,CU heap (.slice .tree) d with
  | some k,some t,some ls,some ks=>some (Tree.mk k t ls ks)
  | _,_,_,_=>none
 | .int k,[a]=>CU heap (.int k) a
 | .bool,[a]=>CU heap .bool a
 | .str,[a]=>CU heap .str a
 | .slice t,[a]=>CU heap (.slice t) a
 | _,_=>none
def afB (heap:List HO) (t:Ty) (a:AV):Option t.den :=
 match a with
 | .agg p=>if t.isStruct then W9 heap t p.parts else none
 | a=>CU heap t a
def Er (heap:List HO):List Ty→List AV→Option (List AV)
 | [],[]=>some []
 | t::ts,a::l=>match afB heap t a,Er heap ts l with
  | some x,some r=>some (.val t x::r)
  | _,_=>none
 | _,_=>none
def bc (tab:Tab) (rs:List ResultVar) (tys:List Ty):KT:=fun e σ =>
 match e with
 | .exit _=>none
 | _=>match gx tab σ rs with
  | some l=>match Er σ.heap tys l with
   | some l=>some (wt l)
   | none=>none
  | none=>none
structure Fi where
 S:Par
 ntmps:Nat
 results:List ResultVar
 code:Code
abbrev Hs:=FuncId→List AV→List HO→Option (Bool×AV×List HO)
def hs0:Hs:=fun _ _ _=>none
def afQ (call:Yk→Ck) (yk:Yk):Callk:=⟨call yk,call⟩
def Gu (fi:FuncId→Option Fi) (hs:Hs) (fuel:Nat):Nat→Yk→Ck
 | _,yk,.yld j,args,heap,k=>yk j args heap k
 | 0,_,.fn _,_,_,_=>none
 | d+1,yk,.fn f,args,heap,k=>match hs f args heap with
  | some (b,out,heap')=>bif b then k out heap' else none
  | none=>match fi f with
   | some x=>be (afQ (Gu fi hs fuel d) yk) x.S heap.length fuel x.code ⟨args++List.replicate (x.ntmps-args.length) .unk,heap⟩ (vV x.S.tab x.results k)
   | none=>none
def noY:Yk:=fun _ _ _ _=>none
abbrev aD (fi:FuncId→Option Fi) (hs:Hs) (fuel d:Nat):Callk:=afQ (Gu fi hs fuel d) noY
def mkE (n:Nat) (l:List (Nat×AV)):List AV:=l.foldl (fun e p=>e.set p.1 p.2) (List.replicate n .unk)
def mkH (n:Nat) (l:List (Nat×HO)):List HO:=l.foldl (fun e p=>e.set p.1 p.2) (List.replicate n .none)
def fe:Code→List Oper
 | .region _ ops _=>ops.toList
 | _=>[]
def sub:Code→List Nat→Code
 | .seq a _,0::r=>sub a r
 | .seq _ b,1::r=>sub b r
 | .cond _ a _,0::r=>sub a r
 | .cond _ _ b,1::r=>sub b r
 | .block _ c,0::r=>sub c r
 | .loop c,0::r=>sub c r
 | .rangeFunc _ _ _ c,0::r=>sub c r
 | .rangeFunc _ _ c _,1::r=>sub c r
 | c,_=>c
abbrev w64 (n:Int):Int:=IntKind.i64.wrap n
abbrev ix (t:Ty) (l:List t.den) (i:Int):t.den:=l.getD i.toNat (zero t)
abbrev ixs (l:Str) (i:Int):Int:=((l.getD i.toNat 0).toNat:Int)
def dX (fi:FuncId→Option Fi) (hs:Hs) (d:Nat) (x:Fi) (tys:List Ty) (fuel:Nat) (args:List AV):Option AV :=
 match args.all AV.nojk with
 | true=>be (aD fi hs fuel d) x.S 0 fuel x.code ⟨args++List.replicate (x.ntmps-args.length) .unk,[]⟩ (bc x.S.tab x.results tys)
 | false=>none
end Go.Proofs.YtboikinjlmjgjaaGreat.Abs
