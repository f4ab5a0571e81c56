/- The abstract machine: values, objects, and what one operation does. -/
import Derived.Test.YtboikinjlmjgjaaGreatAbsA
namespace Go.Proofs.YtboikinjlmjgjaaGreat.Abs
open Go Go.RowKit
inductive AV where
 | unk
 | val (t:Ty) (x:t.den)
 | nil
 | own (k v:Nat) (t:Ty) (l:List t.den)
 | ref (t:Ty) (x:t.den)
 | box (k off:Nat)
 | fn (f:FuncId) (caps:AV)
 | agg (parts:AV)
 | tup (parts:AV)
 | pnil
 | pcons (a b:AV)
 | cond (c:Bool) (a:AV)
 | msl (k v lo hi:Nat)
 | mpt (k v i off:Nat)
 | yld (j:Nat)
 | fix (C:Nat→Nat→Prop) (w:World)
inductive HO where
 | none
 | box (cells:List AV)
 | row (t:Ty) (e:TypeId) (ver:Nat)
 | mrow (t:Ty) (e:TypeId) (ver:Nat) (l:List t.den)
 | dead
def AV.nojk:AV→Bool
 | .val t _ | .own _ _ t _ | .ref t _=>t.nojk
 | .fn _ p | .agg p | .tup p=>p.nojk
 | .pcons a b=>a.nojk&&b.nojk
 | .cond _ a=>a.nojk
 | _=>true
structure Sg where
 env:List AV
 heap:List HO
def aC (a b:Bool):Bool:=match b with | true=>true | false => !a
theorem aS (a:Bool):aC a a=true:=by cases a <;> rfl
theorem bu (a:Bool):aC a true=true:=rfl
theorem nM (a:Bool):aC true a=a:=by cases a <;> rfl
theorem uY (a:Bool):aC false a=true:=by cases a <;> rfl
def cast? (t t':Ty) (x:t.den):Option t'.den:=if h:t=t' then some (h ▸ x) else none
def Ty.fields:Ty→List Ty
 | .cons a b=>a::b.fields
 | .tree=>[.int .i64,.str,.slice .str,.slice .tree]
 | _=>[]
def zero:(t:Ty)→t.den
 | .int _=>(0:Int)
 | .bool=>false
 | .str=>([]:Str)
 | .slice _=>[]
 | .unit=>()
 | .cons a b=>(zero a,zero b)
 | .tree=>Tree.mk 0 [] [] []
 | .jsl _=>(0:Nat)
def Tree.kind:Tree→Int | .mk k _ _ _=>k
def Tree.text:Tree→Str | .mk _ t _ _=>t
def Tree.leads:Tree→List Str | .mk _ _ l _=>l
def Tree.kids:Tree→List Tree | .mk _ _ _ k=>k
def oc:(t:Ty)→t.den→Nat→Option ((t':Ty)×t'.den)
 | .cons a _,x,0=>some ⟨a,x.1⟩
 | .cons _ b,x,i+1=>oc b x.2 i
 | .tree,x,0=>some ⟨.int .i64,x.kind⟩
 | .tree,x,1=>some ⟨.str,x.text⟩
 | .tree,x,2=>some ⟨.slice .str,x.leads⟩
 | .tree,x,3=>some ⟨.slice .tree,x.kids⟩
 | _,_,_=>none
def uU:(t:Ty)→t.den→List AV
 | .int k,x=>[.val (.int k) x]
 | .bool,x=>[.val .bool x]
 | .str,x=>[.val .str x]
 | .slice t,x=>[.val (.slice t) x]
 | .unit,_=>[]
 | .cons a b,x=>uU a x.1++uU b x.2
 | .tree,x=>[.val (.int .i64) x.kind,.val .str x.text,.val (.slice .str) x.leads,.val (.slice .tree) x.kids]
 | .jsl e,x=>[.val (.jsl e) x]
def zn:Ty→List AV
 | .int k=>[.val (.int k) (0:Int)]
 | .bool=>[.val .bool false]
 | .str=>[.val .str ([]:Str)]
 | .slice _=>[.nil]
 | .unit=>[]
 | .cons a b=>zn a++zn b
 | .tree=>[.val (.int .i64) (0:Int),.val .str ([]:Str),.nil,.nil]
 | .jsl _=>[.nil]
def one? (t:Ty):AV→Option t.den
 | .val t' x=>cast? t' t x
 | .nil=>match t with | .slice _=>some [] | .jsl _=>some (0:Nat) | _=>none
 | .own _ _ t' l=>cast? (.slice t') t l
 | _=>none
def asm:(t:Ty)→List AV→Option t.den
 | .unit,[]=>some ()
 | .cons a b,l=>match asm a (l.take a.size),asm b (l.drop a.size) with | some x,some y=>some (x,y) | _,_=>none
 | .tree,[a,b,c,d]=>match one? (.int .i64) a,one? .str b,one? (.slice .str) c,one? (.slice .tree) d with
  | some k,some t,some ls,some ks=>some (Tree.mk k t ls ks)
  | _,_,_,_=>none
 | .int k,[a]=>one? (.int k) a
 | .bool,[a]=>one? .bool a
 | .str,[a]=>one? .str a
 | .slice t,[a]=>one? (.slice t) a
 | .jsl e,[a]=>one? (.jsl e) a
 | _,_=>none
def AV.parts:AV→List AV
 | .pcons a b=>a::b.parts
 | _=>[]
def br:List AV→AV
 | [] => .pnil
 | a::l => .pcons a (br l)
def dat? (t:Ty):AV→Option t.den
 | .agg p=>if t.isStruct then asm t p.parts else none
 | a=>one? t a
def AV.solid:AV→Bool
 | .cond _ _ | .unk | .tup _ | .pcons _ _ | .pnil | .fix _ _=>false
 | _=>true
def AV.single:AV→Bool
 | .nil | .own _ _ _ _ | .ref _ _ | .box _ _ | .fn _ _ | .msl _ _ _ _ | .mpt _ _ _ _ | .yld _=>true
 | .val t _ => !t.isStruct
 | _=>false
def cellsOf:AV→List AV
 | .val t x=>uU t x
 | .agg p=>p.parts
 | a=>[a]
def y9:Value→AV
 | .int k n => .val (.int k) n
 | .bool b => .val .bool b
 | .string s => .val .str s.data.toList
 | .slice none 0 0 => .nil
 | _ => .unk
def KE:Value→AV
 | .agg cs=>match (cs.toList.map y9).all AV.single with
  | true => .agg (br (cs.toList.map y9))
  | false => .unk
 | v=>y9 v
def MT (env:List AV):Operand→AV
 | .tmp t=>env.getD t .unk
 | .const v=>KE v
 | .func f => .fn f .pnil
 | .global _ => .unk
structure Tab where
 ty:TypeId→Option Ty
 cells:TypeId→Option Nat
 offs:TypeId→Nat→Option Nat
 elem:TypeId→Option TypeId
 one:TypeId→Option Nat
 inp:TypeId→Bool
 arr:TypeId→Option Nat
structure Rw where
 t:Ty
 e:TypeId
 F:List t.den→List AV→Option (Bool×List t.den)
structure Nw where
 t:Ty
 e:TypeId
 F:List AV→Option (Bool×List t.den)
structure Specs where
 call:FuncId→List AV→Option (Bool×AV)
 rd:FuncId→List AV→List AV→Option (Bool×AV):=fun _ _ _=>none
 wr:FuncId→Bool:=fun _=>false
 bx:FuncId→List AV→List AV→Option (Bool×List AV×AV):=fun _ _ _=>none
 rb:FuncId→Option Rw:=fun _=>none
 nw:FuncId→Option Nw:=fun _=>none
def ahk (T:Specs):Operand→Bool
 | .func f=>(T.nw f).isSome
 | _=>false
def UH (T:Specs):Operand→Bool
 | .func f=>T.wr f
 | _=>false
def ov (x y:Int):Int:=if y>x then y else x
def LIM:Nat:=4294967296
def SO:Nat:=9223372036854775807
def uA (tt:Option Ty) (s:AV):Option ((t:Ty)×List t.den) :=
 match tt with
 | some (.slice t)=>match one? (.slice t) s with
  | some l=>some ⟨t,l⟩
  | none=>none
 | _=>none
def vE (tt:Option Ty) (s:AV):Option Str :=
 match tt with
 | some .str=>one? .str s
 | _=>none
def XZ (k:IntKind) (a b:Int):Int:=k.wrap (a * 2 ^ (min b.toNat k.bits))
def Vg (k:IntKind) (a b:Int):Int:=a.fdiv (2 ^ (min b.toNat k.bits))
def alK (k:IntKind) (a b:Int):Int:=k.wrap ((BitVec.ofInt k.bits a &&& BitVec.ofInt k.bits b).toNat:Int)
def orI (k:IntKind) (a b:Int):Int:=k.wrap ((BitVec.ofInt k.bits a ||| BitVec.ofInt k.bits b).toNat:Int)
def ajY (k:IntKind) (a b:Int):Int:=k.wrap ((BitVec.ofInt k.bits a ^^^ BitVec.ofInt k.bits b).toNat:Int)
def QP (op:BinOp) (k:IntKind) (a b:Int):Option (Bool×AV) :=
 match op with
 | .add=>some (true,.val (.int k) (k.wrap (a+b)))
 | .sub=>some (true,.val (.int k) (k.wrap (a-b)))
 | .mul=>some (true,.val (.int k) (k.wrap (a * b)))
 | .quo=>some (!decide (b=0),.val (.int k) (k.wrap (a.tdiv b)))
 | .rem=>some (!decide (b=0),.val (.int k) (a.tmod b))
 | .and=>some (true,.val (.int k) (alK k a b))
 | .or=>some (true,.val (.int k) (orI k a b))
 | .xor=>some (true,.val (.int k) (ajY k a b))
 | .eql=>some (true,.val .bool (decide (a=b)))
 | .neq=>some (true,.val .bool (!decide (a=b)))
 | .lss=>some (true,.val .bool (decide (a<b)))
 | .leq=>some (true,.val .bool (decide (a≤b)))
 | .gtr=>some (true,.val .bool (decide (a>b)))
 | .geq=>some (true,.val .bool (decide (a≥b)))
 | _=>none
def Ty.flatEq:Ty→Bool
 | .int _ | .bool | .str | .unit=>true
 | .cons a b=>a.flatEq&&b.flatEq&&b.isStruct
 | _=>false
def Ty.dep:Ty→Nat
 | .cons a b=>max (a.dep+1) b.dep
 | _=>1
def eqD:(t:Ty)→t.den→t.den→Bool
 | .int _,x,y=>decide (x=y)
 | .bool,x,y=>decide (x=y)
 | .str,x,y=>decide (x=y)
 | .unit,_,_=>true
 | .cons a b,x,y=>eqD a x.1 y.1&&eqD b x.2 y.2
 | _,_,_=>false
def nA (op:BinOp) (tx:Option Ty) (x y:AV):Option (Bool×AV) :=
 match x,y with
 | .val (.int k) a,.val (.int k') b=>match op with
  | .shl=>some (decide (0≤b),.val (.int k) (XZ k a b))
  | .shr=>some (decide (0≤b),.val (.int k) (Vg k a b))
  | _=>if k=k' then QP op k a b else none
 | .val .str a,.val .str b =>
  match op with
  | .add=>some (decide (a.length+b.length≤SO),.val .str (a++b))
  | .eql=>some (true,.val .bool (decide (a=b)))
  | .neq=>some (true,.val .bool (!decide (a=b)))
  | .lss=>some (true,.val .bool (Op.bytesLess a b))
  | .leq=>some (true,.val .bool (Op.bytesLess a b||decide (a=b)))
  | .gtr=>some (true,.val .bool (!(Op.bytesLess a b||decide (a=b))))
  | .geq=>some (true,.val .bool (!Op.bytesLess a b))
  | _=>none
 | .val .bool a,.val .bool b=>if tx=some .bool then
  match op with
  | .eql=>some (true,.val .bool (decide (a=b)))
  | .neq=>some (true,.val .bool (!decide (a=b)))
  | _=>none
  else none
 | .val (.slice t) l,.nil=>if tx=some (.slice t) then
  match op with
  | .eql=>some (!l.isEmpty,.val .bool false)
  | .neq=>some (!l.isEmpty,.val .bool true)
  | _=>none
  else none
 | .val (.cons u v) a,.val t' b =>
  if tx=some (.cons u v) then
   if (Ty.cons u v).flatEq&&decide ((Ty.cons u v).dep≤10000) then
    match cast? t' (.cons u v) b with
    | some b =>
     match op with
     | .eql=>some (true,.val .bool (eqD (.cons u v) a b))
     | .neq=>some (true,.val .bool (!eqD (.cons u v) a b))
     | _=>none
    | none=>none
   else none
  else none
 | _,_=>none
def uD:(t:Ty)→t.den→Nat→AV→Option t.den
 | .cons a _,x,0,v=>match dat? a v with | some y=>some (y,x.2) | none=>none
 | .cons _ b,x,i+1,v=>match uD b x.2 i v with | some y=>some (x.1,y) | none=>none
 | .tree,x,0,v=>match dat? (.int .i64) v with | some y=>some (Tree.mk y x.text x.leads x.kids) | none=>none
 | .tree,x,1,v=>match dat? .str v with | some y=>some (Tree.mk x.kind y x.leads x.kids) | none=>none
 | .tree,x,2,v=>match dat? (.slice .str) v with | some y=>some (Tree.mk x.kind x.text y x.kids) | none=>none
 | .tree,x,3,v=>match dat? (.slice .tree) v with | some y=>some (Tree.mk x.kind x.text x.leads y) | none=>none
 | _,_,_,_=>none
def zf (t:Ty):List (Nat×AV)→t.den→Option t.den
 | [],x=>some x
 | (i,v)::r,x=>match uD t x i v with | some y=>zf t r y | none=>none
def lT (t:Ty):List AV→Option (List t.den)
 | []=>some []
 | a::l=>match dat? t a,lT t l with | some x,some r=>some (x::r) | _,_=>none
def dg:Nat→List Nat→Bool
 | _,[]=>true
 | i,j::r=>i == j&&dg (i+1) r
def aj3 (n:Option Nat) (idx:List Nat) (vals:List AV):Bool :=
 match n with
 | some n=>decide (idx.length≤n)&&dg 0 idx&&vals.all AV.single
 | none=>false
def adB (n:Option Nat) (l:List AV):Bool :=
 match n with
 | some n=>Nat.beq l.length n&&l.all AV.single
 | none=>false
def HR (cells:List AV) (off:Nat) (new:List AV):List AV:=cells.take off++new++cells.drop (off+new.length)
def wq (need:Bool):AV→Bool×AV
 | .cond c a=>(aC need c,a)
 | a=>(true,a)
def bl (lo hi:Option Int) (n:Nat):Bool×Nat×Nat :=
 match lo,hi with
 | none,none=>(true,0,n)
 | some a,none=>(decide (0≤a)&&decide (a≤(n:Int)),a.toNat,n)
 | none,some b=>(decide (0≤b)&&decide (b≤(n:Int)),0,b.toNat)
 | some a,some b=>(decide (0≤a)&&decide (a≤b)&&decide (b≤(n:Int)),a.toNat,b.toNat)
def zV:AV→Option Int
 | .val (.int _) n=>some n
 | _=>none
def ve (low high:Option Operand) (r:List AV):Option (Option Int×Option Int) :=
 match low,high,r with
 | none,none,[]=>some (none,none)
 | some _,none,[a]=>match zV a with | some a=>some (some a,none) | none=>none
 | none,some _,[b]=>match zV b with | some b=>some (none,some b) | none=>none
 | some _,some _,[a,b]=>match zV a,zV b with | some a,some b=>some (some a,some b) | _,_=>none
 | _,_,_=>none
def bR (T:Specs) (op:Op) (vals:List AV) (fresh:Nat):Option Nat :=
 match op with
 | .alloc _ | .box _ _ | .buildSlice _ _ _ | .makeSlice _ _ _=>some fresh
 | .load _ _=>match vals with | [.box k _]=>some k | [.mpt k _ _ _]=>some k | _=>none
 | .store _ _ _=>match vals with | [.box k _,_]=>some k | [.mpt k _ _ _,_]=>some k | _=>none
 | .indexAddr _ _ _=>match vals with | [.msl k _ _ _,_]=>some k | _=>none
 | .fieldAddr _ _ _=>match vals with | [.mpt k _ _ _]=>some k | _=>none
 | .slice _ _ _ _ _=>match vals with | .msl k _ _ _::_=>some k | _=>none
 | .call cl=>match cl.callee with
  | .builtin .append=>match vals with | [.own k _ _ _,_]=>some k | [.msl k _ _ _,_]=>some k | _=>some fresh
  | .builtin .len=>match vals with | [.msl k _ _ _]=>some k | _=>none
  | .value x=>match ahk T x with
   | true=>some fresh
   | false=>match vals with
    | .fn _ .pnil :: .box k _::_=>some k
    | .fn _ .pnil :: .own k _ _ _::_=>match UH T x with | true=>some k | false=>none
    | .fn _ .pnil :: .nil::_=>match UH T x with | true=>some fresh | false=>none
    | _=>none
  | _=>none
 | _=>none
def dc (T:Specs):Op→Bool
 | .alloc _ | .box _ _ | .buildSlice _ _ _ | .makeSlice _ _ _ | .store _ _ _=>false
 | .call cl=>match cl.callee with
  | .builtin .append=>false
  | .value x => !UH T x && !ahk T x
  | _=>true
 | _=>true
def tY (τ:Ty):(t:Ty)→t.den→Nat→Option τ.den
 | t,x,0=>match cast? t τ x with
  | some y=>some y
  | none=>match t,x with
   | .cons a _,x=>tY τ a x.1 0
   | _,_=>none
 | .cons a b,x,n+1=>if n+1<a.size then tY τ a x.1 (n+1) else tY τ b x.2 (n+1-a.size)
 | _,_,_=>none
def ub (τ:Ty) (y:τ.den):(t:Ty)→t.den→Nat→Option t.den
 | t,x,0=>match cast? τ t y with
  | some y=>some y
  | none=>match t,x with
   | .cons a _,x=>match ub τ y a x.1 0 with | some z=>some (z,x.2) | none=>none
   | _,_=>none
 | .cons a b,x,n+1=>if n+1<a.size then match ub τ y a x.1 (n+1) with | some z=>some (z,x.2) | none=>none
  else match ub τ y b x.2 (n+1-a.size) with | some z=>some (x.1,z) | none=>none
 | _,_,_=>none
def abL (tab:Tab) (o:Oper) (vals:List AV) (ho:HO):Option (Bool×AV×HO) :=
 match ho with
 | .mrow τ e v' l=>match o.op with
  | .indexAddr t _ _=>match vals with
   | [.msl k v lo hi,.val (.int _) n]=>if v'=v then if tab.ty t=some (.slice τ) then if tab.elem t=some e then
     some (decide (0≤n)&&decide (n<((hi-lo:Nat):Int)),.mpt k v (lo+n.toNat) 0,ho)
    else none else none else none
   | _=>none
  | .fieldAddr s _ f=>match vals with
   | [.mpt k v i off]=>if v'=v then match tab.offs s f with
    | some d=>some (true,.mpt k v i (off+d),ho)
    | none=>none
    else none
   | _=>none
  | .load t _=>match vals with
   | [.mpt _ v i off]=>if v'=v then match tab.ty t with
     | some τ'=>match tY τ' τ (l.getD i (zero τ)) off with
      | some y=>some (true,.val τ' y,ho)
      | none=>none
     | none=>none
    else none
   | _=>none
  | .store t _ _=>match vals with
   | [.mpt _ v i off,u]=>if v'=v then match tab.ty t with
     | some τ'=>match dat? τ' u with
      | some y=>match ub τ' y τ (l.getD i (zero τ)) off with
       | some z=>some (true,.unk,.mrow τ e v' (l.set i z))
       | none=>none
      | none=>none
     | none=>none
    else none
   | _=>none
  | .slice t _ low high none=>match vals with
   | .msl k v lo hi::r=>if v'=v then if tab.ty t=some (.slice τ) then if tab.elem t=some e then match ve low high r with
     | some (a,b)=>some ((bl a b (hi-lo)).1,.msl k v (lo+(bl a b (hi-lo)).2.1) (lo+(bl a b (hi-lo)).2.2),ho)
     | none=>none
    else none else none else none
   | _=>none
  | .call c=>match c.callee with
   | .builtin .len=>match vals with
    | [.msl _ v lo hi]=>if v'=v then if (c.argTypes[0]?).bind tab.ty=some (.slice τ) then some (true,.val (.int .i64) ((hi-lo:Nat):Int),ho) else none else none
    | _=>none
   | .builtin .append=>match vals,c.argTypes.toList with
    | [.msl k v 0 m,x],[t1,t2]=>if t1=t2 then if v'=v then match tab.elem t1,uA (tab.ty t1) x with
      | some e1,some ⟨τ1,l'⟩=>if e=e1 then match cast? (.slice τ1) (.slice τ) l' with
        | some l'=>some (decide (m+l'.length≤LIM),.msl k (v+1) 0 (m+l'.length),.mrow τ e (v+1) (l.take m++l'))
        | none=>none
       else none
      | _,_=>none
     else none else none
    | _,_=>none
   | _=>none
  | _=>none
 | _=>none
def abM (tab:Tab) (T:Specs) (o:Oper) (g:Bool) (vals:List AV) (fresh:Nat) (ho:HO):Option (Bool×AV×HO) :=
 match o.op with
 | .move _ | .assign _=>match vals with
  | [.cond _ _]=>none
  | [a]=>some (true,a,ho)
  | _=>none
 | .pick _ _ _=>match vals with
  | [.val .bool c,a,b] =>
   let p:=wq (g&&c) a
   let q:=wq (g && !c) b
   match p.2,q.2 with
   | .val t x,.val t' y=>match cast? t' t y with
    | some y=>some (p.1&&q.1,.val t (bif c then x else y),ho)
    | none=>none
   | _,_=>none
  | _=>none
 | .alloc t=>match ho with
  | .none=>match tab.ty t with
   | some τ=>some (true,.box fresh 0,.box (zn τ))
   | none=>match tab.cells t with
    | some n=>some (true,.box fresh 0,.box (List.replicate n .unk))
    | none=>none
  | _=>none
 | .box _ _=>match vals,ho with
  | [a],.none=>if a.solid then some (true,.box fresh 0,.box (cellsOf a)) else none
  | _,_=>none
 | .load t _=>match vals,ho with
  | [.box _ off],.box cells =>
   match tab.ty t with
   | some τ =>
    if τ.isStruct then if adB (tab.one t) ((cells.drop off).take τ.size) then some (true,.agg (br ((cells.drop off).take τ.size)),ho)
     else match asm τ ((cells.drop off).take τ.size) with
      | some x=>some (true,.val τ x,ho)
      | none=>none
    else match cells[off]? with
     | some a=>some (true,a,ho)
     | none=>none
   | none=>if tab.cells t=some 1 then match cells[off]? with
     | some a=>some (true,a,ho)
     | none=>none
    else none
  | [.ref τ x],_=>if tab.ty t=some τ then some (true,.val τ x,ho) else none
  | _,_=>none
 | .store t _ _=>match vals,ho with
  | [.box _ off,v],.box cells =>
   if v.solid&&decide (off+(cellsOf v).length≤cells.length)&&decide (tab.cells t=some (cellsOf v).length) then some (true,.unk,.box (HR cells off (cellsOf v))) else none
  | _,_=>none
 | .fieldAddr s _ f=>match vals with
  | [.box k off]=>match tab.offs s f with
   | some d=>some (true,.box k (off+d),ho)
   | none=>none
  | [.ref τ x]=>if tab.ty s=some τ then match oc τ x f with
    | some ⟨τ',y⟩=>some (true,.ref τ' y,ho)
    | none=>none
   else none
  | _=>none
 | .field s _ f=>match vals with
  | [.val τ x]=>if tab.ty s=some τ then match oc τ x f with
    | some ⟨τ',y⟩=>some (true,.val τ' y,ho)
    | none=>none
   else none
  | _=>none
 | .indexAddr t _ _=>match vals with
  | [.box k off,.val (.int _) n]=>match tab.arr t with
   | some m=>some (decide (0≤n)&&decide (n<(m:Int)),.box k (off+n.toNat),ho)
   | none=>none
  | [s,.val (.int _) n]=>match uA (tab.ty t) s with
   | some ⟨τ,l⟩=>some (decide (0≤n)&&decide (n<(l.length:Int)),.ref τ (l.getD n.toNat (zero τ)),ho)
   | none=>none
  | _=>none
 | .index t _ _=>match vals with
  | [s,.val (.int _) n]=>match vE (tab.ty t) s with
   | some l=>some (decide (0≤n)&&decide (n<(l.length:Int)),.val (.int .u8) ((l.getD n.toNat 0).toNat:Int),ho)
   | none=>none
  | _=>none
 | .binOp op tx _ _ _=>match vals with
  | [x,y]=>match nA op (tab.ty tx) x y with
   | some (c,v)=>some (c,v,ho)
   | none=>none
  | _=>none
 | .unOp .not _ _=>match vals with
  | [.val .bool b]=>some (true,.val .bool (!b),ho)
  | _=>none
 | .unOp .neg _ _=>match vals with
  | [.val (.int k) n]=>some (true,.val (.int k) (k.wrap (0-n)),ho)
  | _=>none
 | .convert s t _=>match vals,tab.ty t,tab.ty s with
  | [.val (.int _) n],some (.int k),some _=>some (true,.val (.int k) (k.wrap n),ho)
  | [x],some .str,some (.slice (.int .u8))=>match one? (.slice (.int .u8)) x with
   | some l=>some (true,.val .str (l.map fun n:Int=>UInt8.ofNat n.toNat),ho)
   | none=>none
  | _,_,_=>none
 | .build t parts=>match tab.ty t with
  | some τ=>if τ.isStruct then if aj3 (tab.one t) (parts.toList.map (·.1)) vals then some (true,.agg (br (vals++(zn τ).drop parts.size)),ho)
    else match zf τ ((parts.toList.map (·.1)).zip vals) (zero τ) with
     | some x=>some (true,.val τ x,ho)
     | none=>none
   else none
  | none=>match tab.one t with
   | some n=>if Nat.beq n parts.size&&dg 0 (parts.toList.map (·.1))&&vals.all AV.single then some (true,.agg (br vals),ho) else none
   | none=>match tab.arr t with
    | some n=>if Nat.beq n parts.size&&dg 0 (parts.toList.map (·.1))&&vals.all AV.single then some (true,.agg (br vals),ho) else none
    | none=>none
 | .buildSlice t len parts=>match tab.ty t,tab.elem t,ho with
  | some (.slice τ),some e,.none=>if decide (len=parts.size)&&dg 0 (parts.toList.map (·.1))&&decide (len * τ.size≤4096) then match lT τ vals with
    | some l=>match tab.inp t&&Nat.beq len 0 with
     | false=>some (true,.own fresh 0 τ l,.row τ e 0)
     | true=>some (true,.msl fresh 0 0 0,.mrow τ e 0 [])
    | none=>none
   else none
  | _,_,_=>none
 | .makeSlice t _ _=>match vals,ho with
  | [.val (.int _) n,.val (.int _) m],.none=>match tab.ty t,tab.elem t with
   | some (.slice τ),some e=>some (decide (0≤n)&&decide (n≤m)&&decide (m≤(LIM:Int)),.msl fresh 0 0 n.toNat,.mrow τ e 0 (List.replicate n.toNat (zero τ)))
   | _,_=>none
  | _,_=>none
 | .slice t _ low high none=>match vals with
  | s::r=>match ve low high r with
   | some (lo,hi)=>match uA (tab.ty t) s with
    | some ⟨τ,l⟩=>some ((bl lo hi l.length).1,.val (.slice τ) ((l.take (bl lo hi l.length).2.2).drop (bl lo hi l.length).2.1),ho)
    | none=>match vE (tab.ty t) s with
     | some l=>some ((bl lo hi l.length).1,.val .str ((l.take (bl lo hi l.length).2.2).drop (bl lo hi l.length).2.1),ho)
     | none=>none
   | none=>none
  | _=>none
 | .extract _ i=>match vals with
  | [.tup p]=>match p.parts[i]? with
   | some a=>some (true,a,ho)
   | none=>none
  | _=>none
 | .makeFunc (.func f) first _=>if first.size=0 then some (true,.fn f (br vals),ho) else none
 | .call c=>match c.callee with
  | .builtin .len=>match vals with
   | [s]=>match uA ((c.argTypes[0]?).bind tab.ty) s with
    | some ⟨_,l⟩=>some (true,.val (.int .i64) (l.length:Int),ho)
    | none=>match vE ((c.argTypes[0]?).bind tab.ty) s with
     | some l=>some (true,.val (.int .i64) (l.length:Int),ho)
     | none=>none
   | _=>none
  | .builtin .append=>match vals,c.argTypes.toList with
   | [s,x],[t1,t2]=>if t1=t2 then match tab.elem t1,uA (tab.ty t1) x with
     | some e,some ⟨τ,l'⟩=>match s with
       | .own k v t l=>match ho with
        | .row t' e' v'=>if t'=t then if e'=e then if v'=v then match cast? (.slice t) (.slice τ) l with
          | some l=>some (decide (l.length+l'.length≤LIM),.own k (v+1) τ (l++l'),.row τ e (v+1))
          | none=>none
         else none else none else none
        | _=>none
       | .nil=>match ho with
        | .none=>match tab.inp t1 with
         | false=>some (decide (l'.length≤LIM),.own fresh 1 τ l',.row τ e 1)
         | true=>some (decide (l'.length≤LIM),.msl fresh 1 0 l'.length,.mrow τ e 1 l')
        | _=>none
       | _=>none
     | _,_=>none
    else none
   | _,_=>none
  | .builtin .max=>match vals with
   | [.val (.int k) x,.val (.int k') y]=>if k=k' then some (true,.val (.int k) (ov x y),ho) else none
   | _=>none
  | .value x=>match ahk T x with
   | true=>match vals with
    | .fn f .pnil::args=>match T.nw f,ho with
     | some q,.none=>match q.F args with
      | some (b,l')=>some (b,.own fresh 1 q.t l',.row q.t q.e 1)
      | none=>none
     | _,_=>none
    | _=>none
   | false=>match vals with
    | .fn f .pnil :: .box _ off::aL=>match ho with
     | .box cells=>if off=0 then match UH T x with
       | false=>match T.rd f cells aL with
        | some (b,v)=>some (b,v,ho)
        | none=>none
       | true=>match T.bx f cells aL with
        | some (b,cells',v)=>some (b,v,.box cells')
        | none=>none
      else none
     | _=>none
    | .fn f .pnil :: .own k v t l::aL=>match UH T x with
     | true=>match T.rb f,ho with
      | some q,.row t' e' v'=>if t'=t then if e'=q.e then if v'=v then match cast? (.slice t) (.slice q.t) l with
        | some l=>match q.F l aL with
         | some (b,l')=>some (b,.own k (v+1) q.t l',.row q.t q.e (v+1))
         | none=>none
        | none=>none
       else none else none else none
      | _,_=>none
     | false=>match T.call f (.own k v t l::aL) with
      | some (b,v)=>some (b,v,ho)
      | none=>none
    | .fn f .pnil :: .nil::aL=>match UH T x with
     | true=>match T.rb f,ho with
      | some q,.none=>match q.F [] aL with
       | some (b,l')=>some (b,.own fresh 1 q.t l',.row q.t q.e 1)
       | none=>none
      | _,_=>none
     | false=>match T.call f (.nil::aL) with
      | some (b,v)=>some (b,v,ho)
      | none=>none
    | .fn f .pnil::args=>match T.call f args with
     | some (b,v)=>some (b,v,ho)
     | none=>none
    | _=>none
  | _=>none
 | .nilCheck _=>match vals with
  | [.box k off]=>some (true,.box k off,ho)
  | [.ref t x]=>some (true,.ref t x,ho)
  | _=>none
 | _=>none
def aju (tab:Tab) (o:Oper) (vals:List AV):Option AV :=
 match o.op with
 | .buildSlice t len parts=>match tab.ty t,tab.elem t with
  | some (.slice τ),some _=>if decide (len=parts.size)&&dg 0 (parts.toList.map (·.1))&&decide (len * τ.size≤4096) then match lT τ vals with
    | some l=>some (.val (.slice τ) l)
    | none=>none
   else none
  | _,_=>none
 | _=>none
def afy (tab:Tab) (o:Oper) (vals:List AV) (ho:HO):Option (Bool×AV×HO) :=
 match o.op with
 | .buildSlice t len parts=>match tab.ty t with
  | some (.jsl e)=>if decide (len=parts.size)&&dg 0 (parts.toList.map (·.1))&&decide (len≤4096) then match tab.ty e with
    | some τ=>match lT τ vals with
     | some _=>some (true,.val (.jsl e) len,ho)
     | none=>none
    | none=>none
   else none
  | _=>none
 | .call c=>match c.callee with
  | .builtin .len=>match vals,c.argTypes[0]? with
   | [s],some t=>match tab.ty t with
    | some (.jsl e)=>match one? (.jsl e) s with
     | some n=>some (true,.val (.int .i64) ((n:Nat):Int),ho)
     | none=>none
    | _=>none
   | _,_=>none
  | .builtin .append=>match vals,c.argTypes.toList with
   | [s,x],[t1,t2]=>if t1=t2 then match tab.ty t1 with
     | some (.jsl e)=>match one? (.jsl e) s,one? (.jsl e) x with
      | some n,some m=>some (decide (Nat.add n m≤LIM),.val (.jsl e) (Nat.add n m),ho)
      | _,_=>none
     | _=>none
    else none
   | _,_=>none
  | _=>none
 | _=>none
def eff (tab:Tab) (T:Specs) (o:Oper) (g:Bool) (vals:List AV) (fresh:Nat) (ho:HO):Option (Bool×AV×HO) :=
 match abL tab o vals ho with
 | some r=>some r
 | none=>match afy tab o vals ho with
  | some r=>some r
  | none=>abM tab T o g vals fresh ho
end Go.Proofs.YtboikinjlmjgjaaGreat.Abs
