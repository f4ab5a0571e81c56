/- The abstract machine's run: operations with guards, regions, masks, code. -/
import Derived.Test.YtboikinjlmjgjaaGreatAbsB
namespace Go.Proofs.YtboikinjlmjgjaaGreat.Abs
open Go
def lW (g : Bool) : AV → Bool × AV
 | .cond c a => (aM g c, a)
 | a => (true, a)
def mC (g : Bool) : List AV → Bool × List AV
 | [] => (true, [])
 | a :: l => ((lW g a).1 && (mC g l).1, (lW g a).2 :: (mC g l).2)
def ft (op : Op) (g : Bool) (l : List AV) : Bool × List AV :=
 match op, l with
 | .pick _ _ _, a :: r => ((lW g a).1, (lW g a).2 :: r)
 | _, l => mC g l
def vf (env : List AV) (ops : List Oper) (j : Nat) (want : Bool) : Option Bool :=
 match (ops[j]?).bind (·.dst) with
 | some d => match env.getD d .unk with
  | .val .bool b => some (match want with | true => b | false => !b)
  | .cond c (.val .bool b) => some (c && (match want with | true => b | false => !b))
  | _ => none
 | none => none
structure Dl where
 chk : Bool
 out : AV
 dst : Option Nat
 wr : Option (Nat × HO)
def oa (env : List AV) (dst : Option Nat) (a : AV) : List AV :=
 match dst with
 | some d => env.set d a
 | none => env
def Ay (heap : List HO) (wr : Option (Nat × HO)) : List HO :=
 match wr with
 | some (k, ho) => heap.set k ho
 | none => heap
def Dl.app (d : Dl) (σ : Sg) : Sg := ⟨oa σ.env d.dst d.out, Ay σ.heap d.wr⟩
def LJ (heap : List HO) (k : Option Nat) : HO :=
 match k with
 | some k => heap.getD k .none
 | none => .none
def Qu (tab : Tab) (T : Specs) (o : Oper) (fresh : Nat) (g : Option Bool) (vals : List AV) (ho : HO) : Option Dl :=
 match g with
 | none => match eff tab T o true vals fresh ho with
  | some (c, out, ho') => some ⟨c, out, o.dst, if cv T o.op then none else match bp T o.op vals fresh with | some k => some (k, ho') | none => none⟩
  | none => none
 | some g => if cv T o.op then match eff tab T o g (ft o.op g vals).2 fresh ho with
   | some (c, out, _) => some ⟨(ft o.op g vals).1 && aM g c, .cond g out, o.dst, none⟩
   | none => none
  else match ahr tab o (ft o.op g vals).2 with
   | some out => some ⟨(ft o.op g vals).1, .cond g out, o.dst, none⟩
   | none => none
def gOf (env : List AV) (ops : List Oper) (o : Oper) : Option (Option Bool) :=
 match o.guard with
 | none => some none
 | some (j, want) => match vf env ops j want with
  | some g => some (some g)
  | none => none
def cm (env : List AV) (o : Oper) : List AV := o.op.operands.toList.map (Lc env)
def jF (T : Specs) (o : Oper) (fresh : Nat) (g : Option Bool) (vals : List AV) : Option Nat :=
 match g with
 | none => bp T o.op vals fresh
 | some g => bp T o.op (ft o.op g vals).2 fresh
def rT (tab : Tab) (T : Specs) (ops : List Oper) (fresh : Nat) (o : Oper) (σ : Sg) : Option Dl :=
 match gOf σ.env ops o with
 | some g => Qu tab T o fresh g (cm σ.env o) (LJ σ.heap (jF T o fresh g (cm σ.env o)))
 | none => none
def AV.noCond : AV → Bool
 | .fn _ c => c.noCond
 | .agg p => p.noCond
 | .tup p => p.noCond
 | .pcons a b => a.noCond && b.noCond
 | .cond _ _ => false
 | _ => true
def clr : AV → AV
 | .cond _ _ => .unk
 | a => a
inductive Tgt where
 | fn (f : FuncId) | yld (j : Nat)
abbrev Yk := Nat → List AV → List HO → (AV → List HO → Option AV) → Option AV
abbrev Ck := Tgt → List AV → List HO → (AV → List HO → Option AV) → Option AV
structure Callk where
 call : Ck
 iter : Yk → Ck
def Je (o : Oper) (env : List AV) : Option (Tgt × List AV) :=
 match o.op, o.guard with
 | .call cl, none => match cl.callee, cm env o with
  | .value _, .fn f caps :: args => if env.all AV.noCond then some (.fn f, args ++ caps.parts) else none
  | .value _, .yld j :: args => if env.all AV.noCond then some (.yld j, args) else none
  | _, _ => none
 | _, _ => none
def Lp (tab : Tab) (o : Oper) (σ : Sg) (fresh : Nat) : Option (Bool × AV × List HO) :=
 match o.op, o.guard with
 | .call cl, none => match cl.callee with
  | .builtin .append => match cm σ.env o, cl.argTypes.toList with
   | [s, .msl k v lo hi], [t1, t2] => if t1 = t2 then match tab.elem t1, tab.ty t1, σ.heap[k]? with
     | some e, some (.slice τ), some (.mrow τ' _ v' l) => if v' = v then match cast? (.slice τ') (.slice τ) l with
       | some l => match s with
        | .own k2 v2 t2 l2 => match σ.heap[k2]? with
         | some (.row t3 e3 v3) => if t3 = t2 then if e3 = e then if v3 = v2 then match cast? (.slice t2) (.slice τ) l2 with
           | some l2 => some (decide (l2.length + ((l.take hi).drop lo).length ≤ LIM), .own k2 (v2 + 1) τ (l2 ++ (l.take hi).drop lo), σ.heap.set k2 (.row τ e (v2 + 1)))
           | none => none
          else none else none else none
         | _ => none
        | .nil => match σ.heap[fresh]? with
         | some .none => some (decide (((l.take hi).drop lo).length ≤ LIM), .own fresh 1 τ ((l.take hi).drop lo), σ.heap.set fresh (.row τ e 1))
         | _ => none
        | _ => none
       | none => none
      else none
     | _, _, _ => none
    else none
   | _, _ => none
  | .builtin .copy => match cm σ.env o, cl.argTypes.toList with
   | [.msl k v lo hi, x], [t1, t2] => if t1 = t2 then match tab.elem t1, sE (tab.ty t1) x, σ.heap[k]? with
     | some e, some ⟨τ, l'⟩, some (.mrow τ' e' v' l) => if v' = v then if e' = e then match cast? (.slice τ') (.slice τ) l with
       | some l => some (true, .val (.int .i64) ((Nat.min l'.length (hi - lo) : Nat) : Int), σ.heap.set k (.mrow τ e v (l.take lo ++ l'.take (Nat.min l'.length (hi - lo)) ++ l.drop (lo + Nat.min l'.length (hi - lo)))))
       | none => none
      else none else none
     | _, _, _ => none
    else none
   | _, _ => none
  | .builtin .clear => match cm σ.env o with
   | [.msl k v lo hi] => match (cl.argTypes[0]?).bind tab.elem, (cl.argTypes[0]?).bind tab.ty, σ.heap[k]? with
    | some e, some (.slice τ), some (.mrow τ' e' v' l) => if v' = v then if e' = e then match cast? (.slice τ') (.slice τ) l with
      | some l => some (true, .tup .pnil, σ.heap.set k (.mrow τ e v (l.take lo ++ List.replicate (hi - lo) (zero τ) ++ l.drop hi)))
      | none => none
     else none else none
    | _, _, _ => none
   | _ => none
  | _ => none
 | _, _ => none
def iI (tab : Tab) (T : Specs) (ck : Callk) (ops : List Oper) (base : Nat) : Nat → List Oper → Sg → (Sg → Option AV) → Option AV
 | _, [], σ, k => k σ
 | i, o :: r, σ, k =>
  match rT tab T ops (base + i) o σ with
  | some d => bif d.chk then iI tab T ck ops base (i + 1) r (d.app σ) k else none
  | none => match Lp tab o σ (base + i) with
   | some (b, out, heap') => bif b then iI tab T ck ops base (i + 1) r ⟨oa σ.env o.dst out, heap'⟩ k else none
   | none => match Je o σ.env with
    | some (f, args) => ck.call f args σ.heap (fun res heap' => iI tab T ck ops base (i + 1) r ⟨oa σ.env o.dst res, heap'⟩ k)
    | none => none
def tQ (tab : Tab) (T : Specs) (ops : List Oper) (base : Nat) : Nat → List Oper → Sg → Option (List Dl × List (Option Nat))
 | _, [], _ => some ([], [])
 | i, o :: r, σ =>
  match rT tab T ops (base + i) o σ with
  | some d => match tQ tab T ops base (i + 1) r (d.app σ) with
   | some (ds, ts) => some (d :: ds, (match gOf σ.env ops o with | some g => jF T o (base + i) g (cm σ.env o) | none => none) :: ts)
   | none => none
  | none => match r with
   | [] => some ([], [])
   | _ => none
def bI : List Oper → List Nat → List Nat
 | [], acc => acc
 | o :: r, acc => bI r (acc ++ [o.after.toList.foldl (fun s e => if Region.binds .any e then s ||| 2 ^ e.on ||| acc.getD e.on 0 else s) 0])
def gK : Nat → List Oper → Bool
 | _, [] => true
 | i, o :: r => o.after.toList.all (fun e => !Region.binds .any e || decide (e.on < i)) && gK (i + 1) r
def pF (ops : List Oper) (o : Oper) : List Nat :=
 (o.op.operands.toList.filterMap fun | .tmp t => some t | _ => none) ++ (match o.guard with | some (j, _) => ((ops[j]?).bind (·.dst)).toList | none => [])
def Fg (x y : Option Nat) : Bool :=
 match x, y with
 | some a, some b => a == b
 | _, _ => false
def Dq (T : Specs) (ops : List Oper) (oi oj : Oper) (ti tj : Option Nat) : Bool :=
 !Fg oi.dst oj.dst && (match oi.dst with | some d => !(pF ops oj).contains d | none => true) && (match oj.dst with | some d => !(pF ops oi).contains d | none => true) &&
 (!Fg ti tj || (cv T oi.op && cv T oj.op))
def G4 (T : Specs) (ops : List Oper) (bs : List Nat) (ts : List (Option Nat)) (i j : Nat) : Bool :=
 (bs.getD j 0).testBit i || (match ops[i]?, ops[j]? with
  | some oi, some oj => Dq T ops oi oj (ts.getD i none) (ts.getD j none)
  | _, _ => false)
def Jf (T : Specs) (ops : List Oper) (ts : List (Option Nat)) (bs : List Nat) : Bool :=
 gK 0 ops && (List.range ops.length).all (fun j => (List.range j).all fun i =>
  if j < ts.length then G4 T ops bs ts i j else (bs.getD j 0).testBit i)
def V4 (k : Sg → Option AV) : Sg → Option AV := fun σ => k ⟨σ.env.map clr, σ.heap⟩
def qN (tab : Tab) (T : Specs) (ck : Callk) (ops : List Oper) (draw : Bool) (σ : Sg) (k : Sg → Option AV) : Option AV :=
 match draw with
 | false => iI tab T ck ops σ.heap.length 0 ops ⟨σ.env, σ.heap ++ List.replicate ops.length .none⟩ (V4 k)
 | true => match tQ tab T ops σ.heap.length 0 ops ⟨σ.env, σ.heap ++ List.replicate ops.length .none⟩ with
  | some (_, ts) => if Jf T ops ts (bI ops []) then iI tab T ck ops σ.heap.length 0 ops ⟨σ.env, σ.heap ++ List.replicate ops.length .none⟩ (V4 k) else none
  | none => none
inductive MK where
 | dat (t : Ty) | own (t : Ty) (e : TypeId) | mut (t : Ty) (e : TypeId) | keep | drop
structure MS where
 h0 : Nat
 pre : List (Nat × List MK)
 env : List (Nat × MK)
def AV.under (n : Nat) : AV → Bool
 | .box k _ => decide (k < n)
 | .own k _ _ _ => decide (k < n)
 | .msl k _ _ _ => decide (k < n)
 | .mpt k _ _ _ => decide (k < n)
 | .yld k => decide (k < n)
 | .fn _ c => c.under n
 | .agg p => p.under n
 | .tup p => p.under n
 | .pcons a b => a.under n && b.under n
 | .cond _ a => a.under n
 | _ => true
inductive LE where
 | own (t : Ty) (e : TypeId)
 | mut (t : Ty) (e : TypeId) (ko : Option (Nat × Nat)) (l : List t.den)
 | frz (t : Ty) (e : TypeId) (ko : Option (Nat × Nat)) (l : List t.den)
def LE.ho : LE → HO
 | .own t e => .row t e 0
 | .mut t e _ l => .mrow t e 0 l
 | .frz _ _ _ _ => .dead
def aaR (k v : Nat) : Option (Nat × Nat) → Bool
 | some (k', v') => Nat.beq k k' && Nat.beq v v'
 | none => false
def vC (t : Ty) (k v : Nat) : Nat → List LE → Option Nat
 | _, [] => none
 | i, .mut t' _ ko _ :: r => if aaR k v ko && decide (t' = t) then some i else vC t k v (i + 1) r
 | i, _ :: r => vC t k v (i + 1) r
def vD (t : Ty) (k v : Nat) : List LE → Option (List t.den)
 | [] => none
 | .frz t' _ ko l :: r => if aaR k v ko then match cast? (.slice t') (.slice t) l with | some l => some l | none => none else vD t k v r
 | _ :: r => vD t k v r
def rM (h0 : Nat) : MK → AV → List HO → List LE → Option (AV × List HO × List LE)
 | .dat t, .msl k v lo hi, H, L => match t with
  | .slice τ => match vD τ k v L with
   | some l => some (.val (.slice τ) ((l.take hi).drop lo), H, L)
   | none => match H[k]? with
    | some (.mrow τ' e v' l) => if v' = v then match cast? (.slice τ') (.slice τ) l with
      | some l => some (.val (.slice τ) ((l.take hi).drop lo), H.set k .dead, L ++ [.frz τ e (some (k, v)) l])
      | none => none
     else none
    | _ => none
  | _ => none
 | .dat t, a, H, L => match dat? t a with
  | some x => some (.val t x, H, L)
  | none => none
 | .own t e, .own k v t' l, H, L => match H[k]? with
  | some (.row t2 e2 v2) => if t2 = t' then if e2 = e then if v2 = v then match cast? (.slice t') (.slice t) l with
    | some l => some (.own (h0 + L.length) 0 t l, H.set k (.row t2 e2 (v2 + 1)), L ++ [.own t e])
    | none => none
   else none else none else none
  | _ => none
 | .own t e, .nil, H, L => some (.own (h0 + L.length) 0 t [], H, L ++ [.own t e])
 | .mut t e, .msl k v lo hi, H, L => match vC t k v 0 L with
  | some i => some (.msl (h0 + i) 0 lo hi, H, L)
  | none => match H[k]? with
   | some (.mrow t2 e2 v2 l) => if e2 = e then if v2 = v then match cast? (.slice t2) (.slice t) l with
     | some l => some (.msl (h0 + L.length) 0 lo hi, H.set k .dead, L ++ [.mut t e (some (k, v)) l])
     | none => none
    else none else none
   | _ => none
 | .mut t e, .nil, H, L => some (.msl (h0 + L.length) 0 0 0, H, L ++ [.mut t e none []])
 | .keep, a, H, L => if a.under h0 then some (a, H, L) else none
 | .drop, _, H, L => some (.unk, H, L)
 | _, _, _, _ => none
def MA (h0 : Nat) : List MK → List AV → List HO → List LE → Option (List AV × List HO × List LE)
 | [], [], H, L => some ([], H, L)
 | m :: ms, a :: as, H, L => match rM h0 m a H L with
  | some (a', H, L) => match MA h0 ms as H L with
   | some (as', H, L) => some (a' :: as', H, L)
   | none => none
  | none => none
 | _, _, _, _ => none
def vL (h0 : Nat) (env : List AV) : List (Nat × MK) → List AV → List HO → List LE → Option (List AV × List HO × List LE)
 | [], acc, H, L => some (acc, H, L)
 | (s, m) :: r, acc, H, L => match rM h0 m (env.getD s .unk) H L with
  | some (a, H, L) => vL h0 env r (acc.set s a) H L
  | none => none
def vK (h0 : Nat) : List (Nat × List MK) → List HO → List LE → Option (List (Nat × List AV) × List HO × List LE)
 | [], H, L => some ([], H, L)
 | (k, ms) :: r, H, L => match H[k]? with
  | some (.box cells) => match MA h0 ms cells H L with
   | some (cells', H, L) => match vK h0 r H L with
    | some (b, H, L) => some ((k, cells') :: b, H, L)
    | none => none
   | none => none
  | _ => none
def HO.under (n : Nat) : HO → Bool
 | .box cells => cells.all (AV.under n)
 | _ => true
def dB : List (Nat × List AV) → List HO → List HO
 | [], H => H
 | (k, cells) :: r, H => dB r (H.set k (.box cells))
def uy (h0 : Nat) (pre : List Nat) : Nat → List HO → Bool
 | _, [] => true
 | i, ho :: r => (pre.contains i || ho.under h0) && uy h0 pre (i + 1) r
def Bz : List Nat → Bool
 | [] => true
 | a :: l => !l.contains a && Bz l
def aaK (lo : Nat) (m : MS) (σ : Sg) : Option Sg :=
 if decide (lo ≤ m.h0) && decide (m.h0 ≤ σ.heap.length) && Bz (m.pre.map (·.1)) && m.pre.all (fun p => decide (p.1 < m.h0)) && uy m.h0 (m.pre.map (·.1)) 0 (σ.heap.take m.h0) then
  match vK m.h0 m.pre σ.heap [] with
  | some (bs, H, L) => match vL m.h0 σ.env m.env (List.replicate σ.env.length .unk) H L with
   | some (env, H, L) => some ⟨env, dB bs (H.take m.h0) ++ L.map LE.ho⟩
   | none => none
  | none => none
 else none
inductive Ex where
 | normal | exit (id : Nat) | ret
abbrev KT := Ex → Sg → Option AV
structure Par where
 tab : Tab
 T : Specs
 joins : Nat → Nat → Option MS
 loops : Nat → Nat → Option MS
def oI : Code → Option Nat
 | .region id _ _ => some id
 | .seq a b => match oI a with | some i => some i | none => oI b
 | .cond _ a b => match oI a with | some i => some i | none => oI b
 | .block _ c => oI c
 | .loop c => oI c
 | .scope c => oI c
 | _ => none
def BL (lo : Nat) (m : Option MS) (σ : Sg) (k : Sg → Option AV) : Option AV :=
 match m with
 | none => k σ
 | some m => match aaK lo m σ with
  | some σ' => k σ'
  | none => none
def ax (lo : Nat) (m : Option MS) (eb : Sg → KT → Option AV) (k : KT) : KT := fun e σ =>
 match e with
 | .normal => BL lo m σ fun σ' => eb σ' k
 | e => k e σ
def ai (id : Nat) (k : KT) : KT := fun e σ =>
 match e with
 | .exit id' => match Nat.beq id' id with
  | true => k .normal σ
  | false => k (.exit id') σ
 | e => k e σ
def se (lo : Nat) (m : MS) (again : Sg → Option AV) (k : KT) : KT := fun e σ =>
 match e with
 | .normal => BL lo (some m) σ again
 | e => k e σ
def aD (lo : Nat) (m : MS) (body : Sg → KT → Option AV) (k : KT) : Nat → Sg → Option AV
 | 0, _ => none
 | n + 1, σ => body σ (se lo m (aD lo m body k n) k)
def iJ : Code → Bool
 | .region _ ops _ => ops.toList.all fun o => match o.op with | .defer _ => false | _ => true
 | .seq a b => iJ a && iJ b
 | .cond _ a b => iJ a && iJ b
 | .block _ a => iJ a
 | .loop a => iJ a
 | .scope a => iJ a
 | .rangeFunc _ _ a b => iJ a && iJ b
 | _ => true
def Ky : List Nat → List AV → List AV → Option (List AV)
 | [], [], env => some env
 | t :: ts, a :: as, env => Ky ts as (env.set t a)
 | _, _, _ => none
def V0 (kk : AV → List HO → Option AV) : KT := fun e σ =>
 match e with
 | .normal => kk (.val .bool true) σ.heap
 | _ => none
def uT (eb : Sg → KT → Option AV) (k : KT) : KT := fun e σ =>
 match e with
 | .normal => eb σ k
 | _ => none
def AD (j : Nat) (call : Ck) (env : List AV) (ps : List Nat) (body : Nat → Sg → KT → Option AV) : Yk := fun j' args heap kk =>
 match Nat.beq j' j with
 | true => match Ky ps args env with
  | some env' => body heap.length ⟨env', heap⟩ (V0 kk)
  | none => none
 | false => call (.yld j') args heap kk
def V3 (env : List AV) (k : KT) : AV → List HO → Option AV := fun _ heap => k .normal ⟨env, heap⟩
def be (ck : Callk) (S : Par) : Nat → Nat → Code → Sg → KT → Option AV
 | _, _, .skip, σ, k => k .normal σ
 | _, _, .label _, σ, k => k .normal σ
 | _, _, .region _ ops draw, σ, k => qN S.tab S.T ck ops.toList draw σ (k .normal)
 | lo, fuel, .seq a b, σ, k => be ck S lo fuel a σ (ax lo ((oI b).bind (S.joins lo)) (fun σ k => be ck S lo fuel b σ k) k)
 | lo, fuel, .cond c a b, σ, k => match Lc σ.env c with
  | .val .bool x => bif x then be ck S lo fuel a σ k else be ck S lo fuel b σ k
  | _ => none
 | lo, fuel, .block id c, σ, k => be ck S lo fuel c σ (ai id k)
 | lo, fuel, .loop c, σ, k => match (oI c).bind (S.loops lo) with
  | some m => BL lo (some m) σ (aD lo m (fun σ k => be ck S lo fuel c σ k) k fuel)
  | none => none
 | _, _, .exit id, σ, k => k (.exit id) σ
 | _, _, .ret, σ, k => k .ret σ
 | _, fuel, .rangeFunc g ps assign body, σ, k => match Lc σ.env g with
  | .fn f caps => if iJ assign && iJ body && σ.env.all AV.noCond then
    ck.iter (AD σ.heap.length ck.call σ.env ps.toList (fun lo σ k => be ck S lo fuel assign σ (uT (fun σ k => be ck S lo fuel body σ k) k))) (.fn f) (.yld σ.heap.length :: caps.parts) (σ.heap ++ [.dead]) (V3 σ.env k)
   else none
  | _ => none
 | _, _, _, _, _ => none
def QC (tab : Tab) (σ : Sg) : ResultVar → Option AV
 | .tmp t => match σ.env.getD t .unk with
  | .cond _ _ => none
  | a => some a
 | .cell t ty => match σ.env.getD t .unk with
  | .box k off => match σ.heap.getD k .none, tab.ty ty with
   | .box cells, some τ => match asm τ ((cells.drop off).take τ.size) with
    | some x => some (.val τ x)
    | none => if τ.isStruct && aaw (tab.one ty) ((cells.drop off).take τ.size) then some (.agg (bh ((cells.drop off).take τ.size))) else none
   | _, _ => none
  | _ => none
def fB (tab : Tab) (σ : Sg) : List ResultVar → Option (List AV)
 | [] => some []
 | r :: l => match QC tab σ r, fB tab σ l with
  | some a, some as => some (a :: as)
  | _, _ => none
def ux : List AV → AV
 | [a] => a
 | l => .tup (bh l)
def Vr (tab : Tab) (rs : List ResultVar) (k : AV → List HO → Option AV) : KT := fun e σ =>
 match e with
 | .exit _ => none
 | _ => match fB tab σ rs with
  | some l => k (ux l) σ.heap
  | none => none
def Bp (heap : List HO) (t : Ty) (a : AV) : Option t.den :=
 match a with
 | .msl k v lo hi => match t with
  | .slice τ => match heap[k]? with
   | some (.mrow τ' _ v' l) => if v' = v then match cast? (.slice τ') (.slice τ) l with
     | some l => some ((l.take hi).drop lo)
     | none => none
    else none
   | _ => none
  | _ => none
 | a => one? t a
def Uw (heap : List HO) : (t : Ty) → List AV → Option t.den
 | .unit, [] => some ()
 | .cons a b, l => match Uw heap a (l.take a.size), Uw heap b (l.drop a.size) with | some x, some y => some (x, y) | _, _ => none
 | .tree, [a, b, c, d] => match Bp heap (.int .i64) a, Bp heap .str b, Bp heap (.slice .str) c, Bp heap (.slice .tree) d with
  | some k, some t, some ls, some ks => some (Tree.mk k t ls ks)
  | _, _, _, _ => none
 | .int k, [a] => Bp heap (.int k) a
 | .bool, [a] => Bp heap .bool a
 | .str, [a] => Bp heap .str a
 | .slice t, [a] => Bp heap (.slice t) a
 | _, _ => none
def acT (heap : List HO) (t : Ty) (a : AV) : Option t.den :=
 match a with
 | .agg p => if t.isStruct then Uw heap t p.parts else none
 | a => Bp heap t a
def Dc (heap : List HO) : List Ty → List AV → Option (List AV)
 | [], [] => some []
 | t :: ts, a :: l => match acT heap t a, Dc heap ts l with
  | some x, some r => some (.val t x :: r)
  | _, _ => none
 | _, _ => none
def aB (tab : Tab) (rs : List ResultVar) (tys : List Ty) : KT := fun e σ =>
 match e with
 | .exit _ => none
 | _ => match fB tab σ rs with
  | some l => match Dc σ.heap tys l with
   | some l => some (ux l)
   | none => none
  | none => none
structure Fi where
 S : Par
 ntmps : Nat
 results : List ResultVar
 code : Code
abbrev Hs := FuncId → List AV → List HO → Option (Bool × AV × List HO)
def hs0 : Hs := fun _ _ _ => none
def ac1 (call : Yk → Ck) (yk : Yk) : Callk := ⟨call yk, call⟩
def Ff (fi : FuncId → Option Fi) (hs : Hs) (fuel : Nat) : Nat → Yk → Ck
 | _, yk, .yld j, args, heap, k => yk j args heap k
 | 0, _, .fn _, _, _, _ => none
 | d + 1, yk, .fn f, args, heap, k => match hs f args heap with
  | some (b, out, heap') => bif b then k out heap' else none
  | none => match fi f with
   | some x => be (ac1 (Ff fi hs fuel d) yk) x.S heap.length fuel x.code ⟨args ++ List.replicate (x.ntmps - args.length) .unk, heap⟩ (Vr x.S.tab x.results k)
   | none => none
def noY : Yk := fun _ _ _ _ => none
abbrev aH (fi : FuncId → Option Fi) (hs : Hs) (fuel d : Nat) : Callk := ac1 (Ff fi hs fuel d) noY
def mkE (n : Nat) (l : List (Nat × AV)) : List AV := l.foldl (fun e p => e.set p.1 p.2) (List.replicate n .unk)
def mkH (n : Nat) (l : List (Nat × HO)) : List HO := l.foldl (fun e p => e.set p.1 p.2) (List.replicate n .none)
def QL : Code → List Oper
 | .region _ ops _ => ops.toList
 | _ => []
def sub : Code → List Nat → Code
 | .seq a _, 0 :: r => sub a r
 | .seq _ b, 1 :: r => sub b r
 | .cond _ a _, 0 :: r => sub a r
 | .cond _ _ b, 1 :: r => sub b r
 | .block _ c, 0 :: r => sub c r
 | .loop c, 0 :: r => sub c r
 | .rangeFunc _ _ _ c, 0 :: r => sub c r
 | .rangeFunc _ _ c _, 1 :: r => sub c r
 | c, _ => c
abbrev w64 (n : Int) : Int := IntKind.i64.wrap n
abbrev ix (t : Ty) (l : List t.den) (i : Int) : t.den := l.getD i.toNat (zero t)
abbrev ixs (l : Str) (i : Int) : Int := ((l.getD i.toNat 0).toNat : Int)
def f0 (fi : FuncId → Option Fi) (hs : Hs) (d : Nat) (x : Fi) (tys : List Ty) (fuel : Nat) (args : List AV) : Option AV :=
 be (aH fi hs fuel d) x.S 0 fuel x.code ⟨args ++ List.replicate (x.ntmps - args.length) .unk, []⟩ (aB x.S.tab x.results tys)
end Go.Proofs.YtboikinjlmjgjaaGreat.Abs
