/- One operation. -/
import Derived.Test.YteiopcmalidhaaaGreatAl
import Derived.Calls
import Derived.Orders
import Derived.Below
import Derived.Maps.AppendAt
import Derived.Laws.StructEq
import Derived.KernelRfl
import Derived.RangeFuncOwn
set_option linter.all false
namespace Go.Proofs.YteiopcmalidhaaaGreat
def dz (_:Go.World):Nat:=0
namespace Abs
open Go Go.RowKit
abbrev Str:=List UInt8
inductive Tree where
 |mk (kind:Int) (text:Str) (leads:List Str) (kids:List Tree)
inductive Ty where
 |int (k:IntKind)|bool|str|slice (t:Ty)|unit|cons (a b:Ty)|tree|jsl (e:TypeId)
 deriving DecidableEq
abbrev Ty.den:Ty→Type
 |.int _=>Int
 |.bool=>Bool
 |.str=>Str
 |.slice t=>List t.den
 |.unit=>Unit
 |.cons a b=>a.den×b.den
 |.tree=>Tree
 |.jsl _=>Nat
inductive D where
 |sc (v:Value)|nil|cons (a b:D)|sl (d:D)|jk (e:TypeId) (n:Nat)
def D.len:D→Nat
 |.cons _ b=>b.len+1
 |_=>0
def chain {g:Type}(f:g→D):List g→D
 |[]=>.nil
 |x::l=>.cons (f x) (chain f l)
def Uw (s:Str):D :=.sc (.string ⟨s.toArray⟩)
mutual
def rz:Tree→D
 |.mk k t f g=>.cons (.sc (.int .i64 k)) (.cons (Uw t) (.cons (.sl (chain Uw f)) (.cons (.sl (rT g)) .nil)))
def rT:List Tree→D
 |[]=>.nil
 |t::ts=>.cons (rz t) (rT ts)
end
def toD:(t:Ty)→t.den→D
 |.int k,n=>.sc (.int k n)
 |.bool,b=>.sc (.bool b)
 |.str,s=>Uw s
 |.slice t,l=>.sl (chain (toD t) l)
 |.unit,_=>.nil
 |.cons a b,x=>.cons (toD a x.1) (toD b x.2)
 |.tree,t=>rz t
 |.jsl e,n=>.jk e n
def iD (l:List Tree):rT l=chain rz l:=by
 induction l with
 |nil=>simp[rT,chain]
 |cons t g f=>simp[rT,chain,f]
def len_chain {g:Type}(f:g→D)(l:List g):(chain f l).len=l.length:=by
 induction l with
 |nil=>rfl
 |cons x l j=>simp[chain,D.len,j]
def Ty.size:Ty→Nat
 |.unit=>0
 |.cons a b=>a.size+b.size
 |.tree=>4
 |_=>1
def Ty.isStruct:Ty→Bool
 |.unit|.cons _ _|.tree=>true
 |_=>false
structure Sb where
 s:Nat→Nat→Prop
 j:Nat→TypeId→Nat→Nat→Prop:=λ_ _ _ _=>False
instance:CoeFun Sb λ_=>Nat→Nat→Prop:=⟨Sb.s⟩
structure Sb.le (a b:Sb):Prop where
 s:∀x o,a.s x o→b.s x o
 j:∀x e c n,a.j x e c n→b.j x e c n
def Sb.le.refl (a:Sb):a.le a:=⟨λ_ _ h=>h,λ_ _ _ _ h=>h⟩
def Sb.le.trans {a b c:Sb}(h:a.le b)(k:b.le c):a.le c:=⟨λ_ _ x=>k.s _ _ (h.s _ _ x),λ_ _ _ _ x=>k.j _ _ _ _ (h.j _ _ _ _ x)⟩
def Rep (w:World)(St:Sb):D→List Value→Prop
 |.sc v,f=>f=[v]∧v.oneCell'=true
 |.nil,f=>f=[]
 |.cons a b,f=>∃c1 c2,f=c1++c2∧Rep w St a c1∧Rep w St b c2
 |.sl d,f=>∃A n c,f=[.slice A n c]∧n=d.len∧n≤c ∧
   (n=0∨∃g l,A=some g∧g.spot=none∧Rep w St d l∧∀j u,l[j]? = some u→w.cell? (g.add j)=some u∧St g.block (g.off+j))
 |.jk e n,f=>∃A c,f=[.slice A n c]∧((A=none∧n=0∧c=0)∨∃b,A=some ⟨b,0,none⟩∧St.j b e c n)
def Rep.one {w:World}{St:Sb}:∀{d:D} {g:List Value},Rep w St d g→∀u∈g,u.oneCell'=true
 |.sc v,g,h,u,f=>by obtain⟨rfl,j⟩:=h;simp at f;rw[f];exact j
 |.nil,g,h,u,f=>by have h:g=[]:=h;subst h;simp at f
 |.cons a b,g,h,u,f=>by
  obtain⟨c1,c2,rfl,p,l⟩:=h;obtain j|j:=O'.1 f
  ·exact p.one u j
  ·exact l.one u j
 |.sl d,g,h,u,f=>by obtain⟨A,n,c,rfl,_⟩:=h;simp at f;rw[f];rfl
 |.jk e n,g,h,u,f=>by obtain⟨A,c,rfl,_⟩:=h;simp at f;rw[f];rfl
def Rep.mono {w w':World}{St St':Sb}(l:St.le St')
  (C:∀(a:Addr) v,St a.block a.off→a.spot=none→w.cell? a=some v→w'.cell? a=some v) :
  ∀{d:D} {r:List Value},Rep w St d r→Rep w' St' d r
 |.sc _,_,h=>h
 |.nil,_,h=>h
 |.cons a b,r,h=>by obtain⟨c1,c2,rfl,ha,p⟩:=h;exact⟨c1,c2,rfl,ha.mono l C,p.mono l C⟩
 |.sl d,r,h=>by
  obtain⟨A,n,c,rfl,U,P,h⟩:=h;refine⟨A,n,c,rfl,U,P, ?_⟩;obtain h|⟨g,ds,rfl,J,hd,f⟩:=h
  ·exact .inl h
  ·refine .inr ⟨g,ds,rfl,J,hd.mono l C,λj u T=>?_⟩;obtain⟨h1,R⟩:=f j u T;have p:(g.add j).block=g.block∧(g.add j).off=g.off+j∧(g.add j).spot=none:=by
    unfold Addr.add;split <;> simp_all
   exact⟨C _ _ (by rw[p.1,p.2.1];exact R) p.2.2 h1,l.s _ _ R⟩
 |.jk e n,r,h=>by obtain⟨A,c,rfl,h⟩:=h;exact⟨A,c,rfl,h.imp id λ⟨b,e1,e2⟩=>⟨b,e1,l.j _ _ _ _ e2⟩⟩
mutual
def PD {w:World}{St:Sb}:∀{t:Tree} {f:List Value},Rep w St (rz t) f→f.length=4
 |.mk k t j l,f,h=>by simp only[rz,Uw,Rep]at h;obtain⟨c1,c2,rfl,⟨rfl,_⟩,c3,c4,rfl,⟨rfl,_⟩,c5,c6,rfl,⟨A,n,c,rfl,_⟩,c7,c8,rfl,⟨r,g,p,rfl,_⟩,rfl⟩:=h;rfl
end
def Rep.size {w:World}{St:Sb}:∀{t:Ty} {x:t.den} {cs:List Value},Rep w St (toD t x) cs→cs.length=t.size
 |.int _,_,_,h=>by obtain⟨rfl,_⟩:=h;rfl
 |.bool,_,_,h=>by obtain⟨rfl,_⟩:=h;rfl
 |.str,_,_,h=>by obtain⟨rfl,_⟩:=h;rfl
 |.slice _,_,_,h=>by obtain⟨A,n,c,rfl,_⟩:=h;rfl
 |.unit,_,_,h=>by have h:_=[]:=h;subst h;rfl
 |.cons a b,x,_,h=>by obtain⟨c1,c2,rfl,g,f⟩:=h;simp[Ty.size,g.size,f.size]
 |.tree,_,_,h=>PD h
 |.jsl _,_,_,h=>by obtain⟨A,c,rfl,_⟩:=h;rfl
def D.nojk:D→Bool
 |.jk _ _=>false
 |.cons a b=>a.nojk&&b.nojk
 |.sl d=>d.nojk
 |_=>true
def Ty.nojk:Ty→Bool
 |.jsl _=>false
 |.slice t=>t.nojk
 |.cons a b=>a.nojk&&b.nojk
 |_=>true
def wJ {g:Type}{f:g→D}:∀{l:List g},(∀x∈l,(f x).nojk=true)→(chain f l).nojk=true
 |[],_=>rfl
 |x::l,h=>by simp[chain,D.nojk,h x (S' ..),wJ λy j=>h y (J' _ j)]
mutual
def HJ:∀t:Tree,(rz t).nojk=true
 |.mk k t g j=>by simp[rz,D.nojk,Uw,wJ (f:=Uw) (l:=g) λ_ _=>rfl,D7 j]
def D7:∀f:List Tree,(rT f).nojk=true
 |[]=>rfl
 |t::f=>by simp[rT,D.nojk,HJ t,D7 f]
end
def yi:∀{t:Ty} (x:t.den),t.nojk=true→(toD t x).nojk=true
 |.int _,_,_=>rfl
 |.bool,_,_=>rfl
 |.str,_,_=>rfl
 |.unit,_,_=>rfl
 |.jsl _,_,h=>by cases h
 |.tree,x,_=>HJ x
 |.slice t,l,h=>wJ λx _=>yi x h
 |.cons a b,x,h=>by simp[Ty.nojk]at h;simp[toD,D.nojk,yi x.1 h.1,yi x.2 h.2]
def Rep.nj {w:World}{St St':Sb}(l:∀b o,St b o→St' b o):∀{d:D} {p:List Value},d.nojk=true→Rep w St d p→Rep w St' d p
 |.sc _,_,_,h=>h
 |.nil,_,_,h=>h
 |.cons a b,p,g,h=>by simp[D.nojk]at g;obtain⟨c1,c2,rfl,U,T⟩:=h;exact⟨c1,c2,rfl,U.nj l g.1,T.nj l g.2⟩
 |.sl d,p,g,h=>by
  obtain⟨A,n,c,rfl,R,C,h⟩:=h;refine⟨A,n,c,rfl,R,C, ?_⟩;obtain h|⟨ad,ds,rfl,r,J,f⟩:=h
  ·exact .inl h
  ·exact .inr ⟨ad,ds,rfl,r,J.nj l g,λj u P=>⟨(f j u P).1,l _ _ (f j u P).2⟩⟩
 |.jk _ _,_,g,_=>by cases g
def RepV (w:World)(St:Sb)(t:Ty)(x:t.den)(v:Value):Prop :=
 if t.isStruct then ∃f,v = .agg f.toArray∧Rep w St (toD t x) f else Rep w St (toD t x) [v]
def RepV.cells {w:World}{St:Sb}{t:Ty}{x:t.den}{v:Value}(h:RepV w St t x v):Rep w St (toD t x) v.cells.toList:=by
 unfold RepV at h;split at h
 ·obtain⟨g,rfl,h⟩:=h;simpa[Value.cells]using h
 ·have f:=h.one v Ψ;have:v.cells = #[v]:=by cases v <;> simp_all[Value.oneCell',Value.cells]
  rw[this];exact h
def RepV.mono {w w':World}{St St':Sb}(f:St.le St')
  (g:∀(a:Addr) v,St a.block a.off→a.spot=none→w.cell? a=some v→w'.cell? a=some v) {t:Ty} {x:t.den} {v:Value} (h:RepV w St t x v):RepV w' St' t x v:=by
 unfold RepV at *;split
 next ht=>simp[ht]at h;obtain⟨j,rfl,h⟩:=h;exact⟨j,rfl,h.mono f g⟩
 next ht=>simp[ht]at h;exact Rep.mono f g h
def RepV.nj {w:World}{St St':Sb}(f:∀b o,St b o→St' b o){t:Ty}{x:t.den}{v:Value}(j:t.nojk=true)(h:RepV w St t x v):RepV w St' t x v:=by
 have g:=yi x j;unfold RepV at *;split
 next q=>simp[q]at h;obtain⟨l,rfl,h⟩:=h;exact⟨l,rfl,h.nj f g⟩
 next q=>simp[q]at h;exact Rep.nj f g h
def dw {w:World}{St:Sb}{t:Ty}{l:List t.den}{p:List Value}(h:Rep w St (toD (.slice t) l) p) :
  ∃A c,p=[.slice A l.length c]∧l.length≤c∧(l.length=0∨∃f g,A=some f∧f.spot=none∧Rep w St (chain (toD t) l) g∧∀j u,g[j]? = some u→w.cell? (f.add j)=some u∧St f.block (f.off+j)):=by
 simp only[toD,Rep,len_chain]at h;obtain⟨A,n,c,rfl,rfl,r,h⟩:=h;exact⟨A,c,rfl,r,h⟩
def pT {w:World}{St:Sb}{t:Ty}:∀{l:List t.den} {f:List Value},Rep w St (chain (toD t) l) f→∀i (h:i<l.length),
  Rep w St (toD t l[i]) ((f.drop (i*t.size)).take t.size)
 |[],_,_,i,h=>absurd h Ψ
 |x::l,f,hr,i,h=>by
  obtain⟨c1,c2,rfl,j,p⟩:=hr;have g:=j.size;cases i with
  |zero=>simp;rw[←g,Q?];exact j
  |succ i =>have:=pT p i (by simpa using h);rw[show(i+1)*t.size=c1.length+i*t.size by rw[Q_,g];omega,a?];simpa using this
def bh {w:World}{St:Sb}{t:Ty}:∀{l:List t.den} {f:List Value},Rep w St (chain (toD t) l) f→f.length=l.length*t.size
 |[],f,h=>by have h:f=[]:=h;subst h;simp
 |x::l,f,h=>by obtain⟨c1,c2,rfl,j,g⟩:=h;simp[j.size,bh g,Q_,G?]
def fC {w:World}{St:Sb}{t:Ty}:∀{l j:List t.den} {g f:List Value},Rep w St (chain (toD t) l) g→Rep w St (chain (toD t) j) f→Rep w St (chain (toD t) (l++j)) (g++f)
 |[],_,g,_,h,p=>by have h:g=[]:=h;subst h;simpa using p
 |x::l,j,g,f,h,p=>by obtain⟨c1,c2,rfl,C,r⟩:=h;exact⟨c1,c2++f,Ψ,C,fC r p⟩
def rm {w:World}{St:Sb}{t:Ty}:∀{l:List t.den} {f:List Value} (k:Nat),k≤l.length→Rep w St (chain (toD t) l) f→Rep w St (chain (toD t) (l.drop k)) (f.drop (k*t.size))
 |l,f,0,_,h=>by simpa using h
 |[],f,k+1,hk,h=>by simp at hk
 |x::l,f,k+1,hk,h=>by obtain⟨c1,c2,rfl,j,g⟩:=h;have:=rm k (by simpa using hk) g;rw[show(k+1)*t.size=c1.length+k*t.size by rw[Q_,j.size];omega,a?];simpa using this
def iW {w:World}{St:Sb}{t:Ty}:∀{l:List t.den} {f:List Value} (k:Nat),k≤l.length→Rep w St (chain (toD t) l) f→Rep w St (chain (toD t) (l.take k)) (f.take (k*t.size))
 |l,f,0,_,h=>by simp[chain,Rep]
 |[],f,k+1,hk,h=>by simp at hk
 |x::l,f,k+1,hk,h=>by obtain⟨c1,c2,rfl,g,j⟩:=h;have:=iW k (by simpa using hk) j;rw[show(k+1)*t.size=c1.length+k*t.size by rw[Q_,g.size];omega];refine⟨c1,c2.take (k*t.size), ?_,g,this⟩;rw[ai1]
inductive AV where
 |unk
 |val (t:Ty) (x:t.den)
 |nil
 |own (k v:Nat) (t:Ty) (l:List t.den)
 |ref (t:Ty) (x:t.den)
 |box (k off:Nat)
 |fn (f:FuncId) (caps:AV)
 |agg (parts:AV)
 |tup (parts:AV)
 |pnil
 |pcons (a b:AV)
 |cond (c:Bool) (a:AV)
 |msl (k v lo hi:Nat)
 |mpt (k v i off:Nat)
 |yld (j:Nat)
 |fix (C:Nat→Nat→Prop) (w:World)
inductive HO where
 |none
 |box (cells:List AV)
 |row (t:Ty) (e:TypeId) (ver:Nat)
 |mrow (t:Ty) (e:TypeId) (ver:Nat) (l:List t.den)
 |dead
def AV.nojk:AV→Bool
 |.val t _|.own _ _ t _|.ref t _=>t.nojk
 |.fn _ p|.agg p|.tup p=>p.nojk
 |.pcons a b=>a.nojk&&b.nojk
 |.cond _ a=>a.nojk
 |_=>true
structure Sg where
 env:List AV
 heap:List HO
def be (a b:Bool):Bool:=match b with|true=>true|false=>!a
def aL (a:Bool):be a a=true:=by cases a <;> rfl
def cE (a:Bool):be a true=true:=rfl
def ua (a:Bool):be true a=a:=by cases a <;> rfl
def EX (a:Bool):be false a=true:=by cases a <;> rfl
def cast? (t f:Ty)(x:t.den):Option f.den:=if h:t=f then some (h ▸ x)else none
def Ty.fields:Ty→List Ty
 |.cons a b=>a::b.fields
 |.tree=>[.int .i64,.str,.slice .str,.slice .tree]
 |_=>[]
def zero:(t:Ty)→t.den
 |.int _=>(0:Int)
 |.bool=>false
 |.str=>([]:Str)
 |.slice _=>[]
 |.unit=>()
 |.cons a b=>(zero a,zero b)
 |.tree=>Tree.mk 0 [] [] []
 |.jsl _=>(0:Nat)
def Tree.kind:Tree→Int|.mk k _ _ _=>k
def Tree.text:Tree→Str|.mk _ t _ _=>t
def Tree.leads:Tree→List Str|.mk _ _ l _=>l
def Tree.kids:Tree→List Tree|.mk _ _ _ k=>k
def pf:(t:Ty)→t.den→Nat→Option ((f:Ty)×f.den)
 |.cons a _,x,0=>some ⟨a,x.1⟩
 |.cons _ b,x,i+1=>pf b x.2 i
 |.tree,x,0=>some ⟨.int .i64,x.kind⟩
 |.tree,x,1=>some ⟨.str,x.text⟩
 |.tree,x,2=>some ⟨.slice .str,x.leads⟩
 |.tree,x,3=>some ⟨.slice .tree,x.kids⟩
 |_,_,_=>none
def flat:(t:Ty)→t.den→List AV
 |.int k,x=>[.val (.int k) x]
 |.bool,x=>[.val .bool x]
 |.str,x=>[.val .str x]
 |.slice t,x=>[.val (.slice t) x]
 |.unit,_=>[]
 |.cons a b,x=>flat a x.1++flat b x.2
 |.tree,x=>[.val (.int .i64) x.kind,.val .str x.text,.val (.slice .str) x.leads,.val (.slice .tree) x.kids]
 |.jsl e,x=>[.val (.jsl e) x]
def AF:Ty→List AV
 |.int k=>[.val (.int k) (0:Int)]
 |.bool=>[.val .bool false]
 |.str=>[.val .str ([]:Str)]
 |.slice _=>[.nil]
 |.unit=>[]
 |.cons a b=>AF a++AF b
 |.tree=>[.val (.int .i64) (0:Int),.val .str ([]:Str),.nil,.nil]
 |.jsl _=>[.nil]
def one? (t:Ty):AV→Option t.den
 |.val f x=>cast? f t x
 |.nil=>match t with|.slice _=>some []|.jsl _=>some (0:Nat)|_=>none
 |.own _ _ f l=>cast? (.slice f) t l
 |_=>none
def asm:(t:Ty)→List AV→Option t.den
 |.unit,[]=>some ()
 |.cons a b,l=>match asm a (l.take a.size),asm b (l.drop a.size)with|some x,some y=>some (x,y)|_,_=>none
 |.tree,[a,b,c,d]=>match one? (.int .i64) a,one? .str b,one? (.slice .str) c,one? (.slice .tree) d with
  |some k,some t,some f,some g=>some (Tree.mk k t f g)
  |_,_,_,_=>none
 |.int k,[a]=>one? (.int k) a
 |.bool,[a]=>one? .bool a
 |.str,[a]=>one? .str a
 |.slice t,[a]=>one? (.slice t) a
 |.jsl e,[a]=>one? (.jsl e) a
 |_,_=>none
def AV.parts:AV→List AV
 |.pcons a b=>a::b.parts
 |_=>[]
def dF:List AV→AV
 |[]=>.pnil
 |a::l=>.pcons a (dF l)
def dat? (t:Ty):AV→Option t.den
 |.agg p=>if t.isStruct then asm t p.parts else none
 |a=>one? t a
def AV.solid:AV→Bool
 |.cond _ _|.unk|.tup _|.pcons _ _|.pnil|.fix _ _=>false
 |_=>true
def AV.single:AV→Bool
 |.nil|.own _ _ _ _|.ref _ _|.box _ _|.fn _ _|.msl _ _ _ _|.mpt _ _ _ _|.yld _=>true
 |.val t _=>!t.isStruct
 |_=>false
def cellsOf:AV→List AV
 |.val t x=>flat t x
 |.agg p=>p.parts
 |a=>[a]
def Au:Value→AV
 |.int k n=>.val (.int k) n
 |.bool b=>.val .bool b
 |.string s=>.val .str s.data.toList
 |.slice none 0 0=>.nil
 |_=>.unk
def KS:Value→AV
 |.agg f=>match (f.toList.map Au).all AV.single with
  |true=>.agg (dF (f.toList.map Au))
  |false=>.unk
 |v=>Au v
def Ql (env:List AV):Operand→AV
 |.tmp t=>env.getD t .unk
 |.const v=>KS v
 |.func f=>.fn f .pnil
 |.global _=>.unk
structure Tab where
 ty:TypeId→Option Ty
 cells:TypeId→Option Nat
 offs:TypeId→Nat→Option Nat
 elem:TypeId→Option TypeId
 one:TypeId→Option Nat
 inp:TypeId→Bool
 arr:TypeId→Option Nat
structure Rw where
 t:Ty
 e:TypeId
 F:List t.den→List AV→Option (Bool×List t.den)
structure Nw where
 t:Ty
 e:TypeId
 F:List AV→Option (Bool×List t.den)
structure Specs where
 call:FuncId→List AV→Option (Bool×AV)
 rd:FuncId→List AV→List AV→Option (Bool×AV):=λ_ _ _=>none
 wr:FuncId→Bool:=λ_=>false
 bx:FuncId→List AV→List AV→Option (Bool×List AV×AV):=λ_ _ _=>none
 rb:FuncId→Option Rw:=λ_=>none
 nw:FuncId→Option Nw:=λ_=>none
def afg (T:Specs):Operand→Bool
 |.func f=>(T.nw f).isSome
 |_=>false
def T8 (T:Specs):Operand→Bool
 |.func f=>T.wr f
 |_=>false
def sQ (x y:Int):Int:=if y>x then y else x
def LIM:Nat:=4294967296
def agn:Nat:=9223372036854775807
def wv (tt:Option Ty)(s:AV):Option ((t:Ty)×List t.den) :=
 match tt with
 |some (.slice t)=>match one? (.slice t) s with
  |some l=>some ⟨t,l⟩
  |none=>none
 |_=>none
def xD (tt:Option Ty)(s:AV):Option Str :=
 match tt with
 |some .str=>one? .str s
 |_=>none
def Xr (k:IntKind)(a b:Int):Int:=k.wrap (a*2^(min b.toNat k.bits))
def UH (k:IntKind)(a b:Int):Int:=a.fdiv (2^(min b.toNat k.bits))
def ahj (k:IntKind)(a b:Int):Int:=k.wrap ((BitVec.ofInt k.bits a &&& BitVec.ofInt k.bits b).toNat:Int)
def orI (k:IntKind)(a b:Int):Int:=k.wrap ((BitVec.ofInt k.bits a ||| BitVec.ofInt k.bits b).toNat:Int)
def agv (k:IntKind)(a b:Int):Int:=k.wrap ((BitVec.ofInt k.bits a ^^^ BitVec.ofInt k.bits b).toNat:Int)
def Q3 (op:BinOp)(k:IntKind)(a b:Int):Option (Bool×AV) :=
 match op with
 |.add=>some (true,.val (.int k) (k.wrap (a+b)))
 |.sub=>some (true,.val (.int k) (k.wrap (a-b)))
 |.mul=>some (true,.val (.int k) (k.wrap (a*b)))
 |.quo=>some (!decide (b=0),.val (.int k) (k.wrap (a.tdiv b)))
 |.rem=>some (!decide (b=0),.val (.int k) (a.tmod b))
 |.and=>some (true,.val (.int k) (ahj k a b))
 |.or=>some (true,.val (.int k) (orI k a b))
 |.xor=>some (true,.val (.int k) (agv k a b))
 |.eql=>some (true,.val .bool (decide (a=b)))
 |.neq=>some (true,.val .bool (!decide (a=b)))
 |.lss=>some (true,.val .bool (decide (a<b)))
 |.leq=>some (true,.val .bool (decide (a≤b)))
 |.gtr=>some (true,.val .bool (decide (a>b)))
 |.geq=>some (true,.val .bool (decide (a≥b)))
 |_=>none
def Ty.flatEq:Ty→Bool
 |.int _|.bool|.str|.unit=>true
 |.cons a b=>a.flatEq&&b.flatEq&&b.isStruct
 |_=>false
def Ty.dep:Ty→Nat
 |.cons a b=>max (a.dep+1) b.dep
 |_=>1
def eqD:(t:Ty)→t.den→t.den→Bool
 |.int _,x,y=>decide (x=y)
 |.bool,x,y=>decide (x=y)
 |.str,x,y=>decide (x=y)
 |.unit,_,_=>true
 |.cons a b,x,y=>eqD a x.1 y.1&&eqD b x.2 y.2
 |_,_,_=>false
def oH (op:BinOp)(f:Option Ty)(x y:AV):Option (Bool×AV) :=
 match x,y with
 |.val (.int k) a,.val (.int k') b=>match op with
  |.shl=>some (decide (0≤b),.val (.int k) (Xr k a b))
  |.shr=>some (decide (0≤b),.val (.int k) (UH k a b))
  |_=>if k=k' then Q3 op k a b else none
 |.val .str a,.val .str b=>
  match op with
  |.add=>some (decide (a.length+b.length≤agn),.val .str (a++b))
  |.eql=>some (true,.val .bool (decide (a=b)))
  |.neq=>some (true,.val .bool (!decide (a=b)))
  |.lss=>some (true,.val .bool (Op.bytesLess a b))
  |.leq=>some (true,.val .bool (Op.bytesLess a b||decide (a=b)))
  |.gtr=>some (true,.val .bool (!(Op.bytesLess a b||decide (a=b))))
  |.geq=>some (true,.val .bool (!Op.bytesLess a b))
  |_=>none
 |.val .bool a,.val .bool b=>if f=some .bool then
  match op with
  |.eql=>some (true,.val .bool (decide (a=b)))
  |.neq=>some (true,.val .bool (!decide (a=b)))
  |_=>none
  else none
 |.val (.slice t) l,.nil=>if f=some (.slice t)then
  match op with
  |.eql=>some (!l.isEmpty,.val .bool false)
  |.neq=>some (!l.isEmpty,.val .bool true)
  |_=>none
  else none
 |.val (.cons u v) a,.val t' b=>
  if f=some (.cons u v)then
   if (Ty.cons u v).flatEq&&decide ((Ty.cons u v).dep≤10000)then
    match cast? t' (.cons u v) b with
    |some b=>
     match op with
     |.eql=>some (true,.val .bool (eqD (.cons u v) a b))
     |.neq=>some (true,.val .bool (!eqD (.cons u v) a b))
     |_=>none
    |none=>none
   else none
  else none
 |_,_=>none
def wz:(t:Ty)→t.den→Nat→AV→Option t.den
 |.cons a _,x,0,v=>match dat? a v with|some y=>some (y,x.2)|none=>none
 |.cons _ b,x,i+1,v=>match wz b x.2 i v with|some y=>some (x.1,y)|none=>none
 |.tree,x,0,v=>match dat? (.int .i64) v with|some y=>some (Tree.mk y x.text x.leads x.kids)|none=>none
 |.tree,x,1,v=>match dat? .str v with|some y=>some (Tree.mk x.kind y x.leads x.kids)|none=>none
 |.tree,x,2,v=>match dat? (.slice .str) v with|some y=>some (Tree.mk x.kind x.text y x.kids)|none=>none
 |.tree,x,3,v=>match dat? (.slice .tree) v with|some y=>some (Tree.mk x.kind x.text x.leads y)|none=>none
 |_,_,_,_=>none
def Fy (t:Ty):List (Nat×AV)→t.den→Option t.den
 |[],x=>some x
 |(i,v)::r,x=>match wz t x i v with|some y=>Fy t r y|none=>none
def tG (t:Ty):List AV→Option (List t.den)
 |[]=>some []
 |a::l=>match dat? t a,tG t l with|some x,some r=>some (x::r)|_,_=>none
def dU:Nat→List Nat→Bool
 |_,[]=>true
 |i,j::r=>i == j&&dU (i+1) r
def agZ (n:Option Nat)(g:List Nat)(f:List AV):Bool :=
 match n with
 |some n=>decide (g.length≤n)&&dU 0 g&&f.all AV.single
 |none=>false
def abR (n:Option Nat)(l:List AV):Bool :=
 match n with
 |some n=>Nat.beq l.length n&&l.all AV.single
 |none=>false
def du (cells:List AV)(f:Nat)(new:List AV):List AV:=cells.take f++new++cells.drop (f+new.length)
def ya (f:Bool):AV→Bool×AV
 |.cond c a=>(be f c,a)
 |a=>(true,a)
def aI (f g:Option Int)(n:Nat):Bool×Nat×Nat :=
 match f,g with
 |none,none=>(true,0,n)
 |some a,none=>(decide (0≤a)&&decide (a≤(n:Int)),a.toNat,n)
 |none,some b=>(decide (0≤b)&&decide (b≤(n:Int)),0,b.toNat)
 |some a,some b=>(decide (0≤a)&&decide (a≤b)&&decide (b≤(n:Int)),a.toNat,b.toNat)
def EC:AV→Option Int
 |.val (.int _) n=>some n
 |_=>none
def Ay (g f:Option Operand)(r:List AV):Option (Option Int×Option Int) :=
 match g,f,r with
 |none,none,[]=>some (none,none)
 |some _,none,[a]=>match EC a with|some a=>some (some a,none)|none=>none
 |none,some _,[b]=>match EC b with|some b=>some (none,some b)|none=>none
 |some _,some _,[a,b]=>match EC a,EC b with|some a,some b=>some (some a,some b)|_,_=>none
 |_,_,_=>none
def bu (T:Specs)(op:Op)(f:List AV)(fresh:Nat):Option Nat :=
 match op with
 |.alloc _|.box _ _|.buildSlice _ _ _|.makeSlice _ _ _=>some fresh
 |.load _ _=>match f with|[.box k _]=>some k|[.mpt k _ _ _]=>some k|_=>none
 |.store _ _ _=>match f with|[.box k _,_]=>some k|[.mpt k _ _ _,_]=>some k|_=>none
 |.indexAddr _ _ _=>match f with|[.msl k _ _ _,_]=>some k|_=>none
 |.fieldAddr _ _ _=>match f with|[.mpt k _ _ _]=>some k|_=>none
 |.slice _ _ _ _ _=>match f with|.msl k _ _ _::_=>some k|_=>none
 |.call cl=>match cl.callee with
  |.builtin .append=>match f with|[.own k _ _ _,_]=>some k|[.msl k _ _ _,_]=>some k|_=>some fresh
  |.builtin .len=>match f with|[.msl k _ _ _]=>some k|_=>none
  |.value x=>match afg T x with
   |true=>some fresh
   |false=>match f with
    |.fn _ .pnil :: .box k _::_=>some k
    |.fn _ .pnil :: .own k _ _ _::_=>match T8 T x with|true=>some k|false=>none
    |.fn _ .pnil :: .nil::_=>match T8 T x with|true=>some fresh|false=>none
    |_=>none
  |_=>none
 |_=>none
def cT (T:Specs):Op→Bool
 |.alloc _|.box _ _|.buildSlice _ _ _|.makeSlice _ _ _|.store _ _ _=>false
 |.call cl=>match cl.callee with
  |.builtin .append=>false
  |.value x=>!T8 T x && !afg T x
  |_=>true
 |_=>true
def vJ (f:Ty):(t:Ty)→t.den→Nat→Option f.den
 |t,x,0=>match cast? t f x with
  |some y=>some y
  |none=>match t,x with
   |.cons a _,x=>vJ f a x.1 0
   |_,_=>none
 |.cons a b,x,n+1=>if n+1<a.size then vJ f a x.1 (n+1)else vJ f b x.2 (n+1-a.size)
 |_,_,_=>none
def vM (f:Ty)(y:f.den):(t:Ty)→t.den→Nat→Option t.den
 |t,x,0=>match cast? f t y with
  |some y=>some y
  |none=>match t,x with
   |.cons a _,x=>match vM f y a x.1 0 with|some z=>some (z,x.2)|none=>none
   |_,_=>none
 |.cons a b,x,n+1=>if n+1<a.size then match vM f y a x.1 (n+1)with|some z=>some (z,x.2)|none=>none
  else match vM f y b x.2 (n+1-a.size)with|some z=>some (x.1,z)|none=>none
 |_,_,_=>none
def ZD (j:Tab)(o:Oper)(g:List AV)(P:HO):Option (Bool×AV×HO) :=
 match P with
 |.mrow C e J l=>match o.op with
  |.indexAddr t _ _=>match g with
   |[.msl k v lo hi,.val (.int _) n]=>if J=v then if j.ty t=some (.slice C)then if j.elem t=some e then
     some (decide (0≤n)&&decide (n<((hi-lo:Nat):Int)),.mpt k v (lo+n.toNat) 0,P)
    else none else none else none
   |_=>none
  |.fieldAddr s _ f=>match g with
   |[.mpt k v i off]=>if J=v then match j.offs s f with
    |some d=>some (true,.mpt k v i (off+d),P)
    |none=>none
    else none
   |_=>none
  |.load t _=>match g with
   |[.mpt _ v i off]=>if J=v then match j.ty t with
     |some p=>match vJ p C (l.getD i (zero C)) off with
      |some y=>some (true,.val p y,P)
      |none=>none
     |none=>none
    else none
   |_=>none
  |.store t _ _=>match g with
   |[.mpt _ v i off,u]=>if J=v then match j.ty t with
     |some p=>match dat? p u with
      |some y=>match vM p y C (l.getD i (zero C)) off with
       |some z=>some (true,.unk,.mrow C e J (l.set i z))
       |none=>none
      |none=>none
     |none=>none
    else none
   |_=>none
  |.slice t _ low T none=>match g with
   |.msl k v lo hi::r=>if J=v then if j.ty t=some (.slice C)then if j.elem t=some e then match Ay low T r with
     |some (a,b)=>some ((aI a b (hi-lo)).1,.msl k v (lo+(aI a b (hi-lo)).2.1) (lo+(aI a b (hi-lo)).2.2),P)
     |none=>none
    else none else none else none
   |_=>none
  |.call c=>match c.callee with
   |.builtin .len=>match g with
    |[.msl _ v lo hi]=>if J=v then if (c.argTypes[0]?).bind j.ty=some (.slice C)then some (true,.val (.int .i64) ((hi-lo:Nat):Int),P)else none else none
    |_=>none
   |.builtin .append=>match g,c.argTypes.toList with
    |[.msl k v 0 m,x],[t1,t2]=>if t1=t2 then if J=v then match j.elem t1,wv (j.ty t1) x with
      |some e1,some ⟨U,R⟩=>if e=e1 then match cast? (.slice U) (.slice C) R with
        |some R=>some (decide (m+R.length≤LIM),.msl k (v+1) 0 (m+R.length),.mrow C e (v+1) (l.take m++R))
        |none=>none
       else none
      |_,_=>none
     else none else none
    |_,_=>none
   |_=>none
  |_=>none
 |_=>none
def ZE (C:Tab)(T:Specs)(o:Oper)(g:Bool)(j:List AV)(fresh:Nat)(J:HO):Option (Bool×AV×HO) :=
 match o.op with
 |.move _|.assign _=>match j with
  |[.cond _ _]=>none
  |[a]=>some (true,a,J)
  |_=>none
 |.pick _ _ _=>match j with
  |[.val .bool c,a,b]=>
   let p:=ya (g&&c) a;let q:=ya (g && !c) b;match p.2,q.2 with
   |.val t x,.val t' y=>match cast? t' t y with
    |some y=>some (p.1&&q.1,.val t (bif c then x else y),J)
    |none=>none
   |_,_=>none
  |_=>none
 |.alloc t=>match J with
  |.none=>match C.ty t with
   |some P=>some (true,.box fresh 0,.box (AF P))
   |none=>match C.cells t with
    |some n=>some (true,.box fresh 0,.box (List.replicate n .unk))
    |none=>none
  |_=>none
 |.box _ _=>match j,J with
  |[a],.none=>if a.solid then some (true,.box fresh 0,.box (cellsOf a))else none
  |_,_=>none
 |.load t _=>match j,J with
  |[.box _ off],.box cells=>
   match C.ty t with
   |some P=>
    if P.isStruct then if abR (C.one t) ((cells.drop off).take P.size)then some (true,.agg (dF ((cells.drop off).take P.size)),J)
     else match asm P ((cells.drop off).take P.size)with
      |some x=>some (true,.val P x,J)
      |none=>none
    else match cells[off]? with
     |some a=>some (true,a,J)
     |none=>none
   |none=>if C.cells t=some 1 then match cells[off]? with
     |some a=>some (true,a,J)
     |none=>none
    else none
  |[.ref P x],_=>if C.ty t=some P then some (true,.val P x,J)else none
  |_,_=>none
 |.store t _ _=>match j,J with
  |[.box _ off,v],.box cells=>
   if v.solid&&decide (off+(cellsOf v).length≤cells.length)&&decide (C.cells t=some (cellsOf v).length)then some (true,.unk,.box (du cells off (cellsOf v)))else none
  |_,_=>none
 |.fieldAddr s _ f=>match j with
  |[.box k off]=>match C.offs s f with
   |some d=>some (true,.box k (off+d),J)
   |none=>none
  |[.ref P x]=>if C.ty s=some P then match pf P x f with
    |some ⟨U,y⟩=>some (true,.ref U y,J)
    |none=>none
   else none
  |_=>none
 |.field s _ f=>match j with
  |[.val P x]=>if C.ty s=some P then match pf P x f with
    |some ⟨U,y⟩=>some (true,.val U y,J)
    |none=>none
   else none
  |_=>none
 |.indexAddr t _ _=>match j with
  |[.box k off,.val (.int _) n]=>match C.arr t with
   |some m=>some (decide (0≤n)&&decide (n<(m:Int)),.box k (off+n.toNat),J)
   |none=>none
  |[s,.val (.int _) n]=>match wv (C.ty t) s with
   |some ⟨P,l⟩=>some (decide (0≤n)&&decide (n<(l.length:Int)),.ref P (l.getD n.toNat (zero P)),J)
   |none=>none
  |_=>none
 |.index t _ _=>match j with
  |[s,.val (.int _) n]=>match xD (C.ty t) s with
   |some l=>some (decide (0≤n)&&decide (n<(l.length:Int)),.val (.int .u8) ((l.getD n.toNat 0).toNat:Int),J)
   |none=>none
  |_=>none
 |.binOp op tx _ _ _=>match j with
  |[x,y]=>match oH op (C.ty tx) x y with
   |some (c,v)=>some (c,v,J)
   |none=>none
  |_=>none
 |.unOp .not _ _=>match j with
  |[.val .bool b]=>some (true,.val .bool (!b),J)
  |_=>none
 |.unOp .neg _ _=>match j with
  |[.val (.int k) n]=>some (true,.val (.int k) (k.wrap (0-n)),J)
  |_=>none
 |.convert s t _=>match j,C.ty t,C.ty s with
  |[.val (.int _) n],some (.int k),some _=>some (true,.val (.int k) (k.wrap n),J)
  |[x],some .str,some (.slice (.int .u8))=>match one? (.slice (.int .u8)) x with
   |some l=>some (true,.val .str (l.map λn:Int=>UInt8.ofNat n.toNat),J)
   |none=>none
  |_,_,_=>none
 |.build t parts=>match C.ty t with
  |some P=>if P.isStruct then if agZ (C.one t) (parts.toList.map (·.1)) j then some (true,.agg (dF (j++(AF P).drop parts.size)),J)
    else match Fy P ((parts.toList.map (·.1)).zip j) (zero P)with
     |some x=>some (true,.val P x,J)
     |none=>none
   else none
  |none=>match C.one t with
   |some n=>if Nat.beq n parts.size&&dU 0 (parts.toList.map (·.1))&&j.all AV.single then some (true,.agg (dF j),J)else none
   |none=>match C.arr t with
    |some n=>if Nat.beq n parts.size&&dU 0 (parts.toList.map (·.1))&&j.all AV.single then some (true,.agg (dF j),J)else none
    |none=>none
 |.buildSlice t len parts=>match C.ty t,C.elem t,J with
  |some (.slice P),some e,.none=>if decide (len=parts.size)&&dU 0 (parts.toList.map (·.1))&&decide (len*P.size≤4096)then match tG P j with
    |some l=>match C.inp t&&Nat.beq len 0 with
     |false=>some (true,.own fresh 0 P l,.row P e 0)
     |true=>some (true,.msl fresh 0 0 0,.mrow P e 0 [])
    |none=>none
   else none
  |_,_,_=>none
 |.makeSlice t _ _=>match j,J with
  |[.val (.int _) n,.val (.int _) m],.none=>match C.ty t,C.elem t with
   |some (.slice P),some e=>some (decide (0≤n)&&decide (n≤m)&&decide (m≤(LIM:Int)),.msl fresh 0 0 n.toNat,.mrow P e 0 (List.replicate n.toNat (zero P)))
   |_,_=>none
  |_,_=>none
 |.slice t _ low high none=>match j with
  |s::r=>match Ay low high r with
   |some (lo,hi)=>match wv (C.ty t) s with
    |some ⟨P,l⟩=>some ((aI lo hi l.length).1,.val (.slice P) ((l.take (aI lo hi l.length).2.2).drop (aI lo hi l.length).2.1),J)
    |none=>match xD (C.ty t) s with
     |some l=>some ((aI lo hi l.length).1,.val .str ((l.take (aI lo hi l.length).2.2).drop (aI lo hi l.length).2.1),J)
     |none=>none
   |none=>none
  |_=>none
 |.extract _ i=>match j with
  |[.tup p]=>match p.parts[i]? with
   |some a=>some (true,a,J)
   |none=>none
  |_=>none
 |.makeFunc (.func f) first _=>if first.size=0 then some (true,.fn f (dF j),J)else none
 |.call c=>match c.callee with
  |.builtin .len=>match j with
   |[s]=>match wv ((c.argTypes[0]?).bind C.ty) s with
    |some ⟨_,l⟩=>some (true,.val (.int .i64) (l.length:Int),J)
    |none=>match xD ((c.argTypes[0]?).bind C.ty) s with
     |some l=>some (true,.val (.int .i64) (l.length:Int),J)
     |none=>none
   |_=>none
  |.builtin .append=>match j,c.argTypes.toList with
   |[s,x],[t1,t2]=>if t1=t2 then match C.elem t1,wv (C.ty t1) x with
     |some e,some ⟨P,R⟩=>match s with
       |.own k v t l=>match J with
        |.row t' e' v'=>if t'=t then if e'=e then if v'=v then match cast? (.slice t) (.slice P) l with
          |some l=>some (decide (l.length+R.length≤LIM),.own k (v+1) P (l++R),.row P e (v+1))
          |none=>none
         else none else none else none
        |_=>none
       |.nil=>match J with
        |.none=>match C.inp t1 with
         |false=>some (decide (R.length≤LIM),.own fresh 1 P R,.row P e 1)
         |true=>some (decide (R.length≤LIM),.msl fresh 1 0 R.length,.mrow P e 1 R)
        |_=>none
       |_=>none
     |_,_=>none
    else none
   |_,_=>none
  |.builtin .max=>match j with
   |[.val (.int k) x,.val (.int k') y]=>if k=k' then some (true,.val (.int k) (sQ x y),J)else none
   |_=>none
  |.value x=>match afg T x with
   |true=>match j with
    |.fn f .pnil::args=>match T.nw f,J with
     |some q,.none=>match q.F args with
      |some (b,R)=>some (b,.own fresh 1 q.t R,.row q.t q.e 1)
      |none=>none
     |_,_=>none
    |_=>none
   |false=>match j with
    |.fn f .pnil :: .box _ off::au=>match J with
     |.box cells=>if off=0 then match T8 T x with
       |false=>match T.rd f cells au with
        |some (b,v)=>some (b,v,J)
        |none=>none
       |true=>match T.bx f cells au with
        |some (b,cells',v)=>some (b,v,.box cells')
        |none=>none
      else none
     |_=>none
    |.fn f .pnil :: .own k v t l::au=>match T8 T x with
     |true=>match T.rb f,J with
      |some q,.row t' e' v'=>if t'=t then if e'=q.e then if v'=v then match cast? (.slice t) (.slice q.t) l with
        |some l=>match q.F l au with
         |some (b,R)=>some (b,.own k (v+1) q.t R,.row q.t q.e (v+1))
         |none=>none
        |none=>none
       else none else none else none
      |_,_=>none
     |false=>match T.call f (.own k v t l::au)with
      |some (b,v)=>some (b,v,J)
      |none=>none
    |.fn f .pnil :: .nil::au=>match T8 T x with
     |true=>match T.rb f,J with
      |some q,.none=>match q.F [] au with
       |some (b,R)=>some (b,.own fresh 1 q.t R,.row q.t q.e 1)
       |none=>none
      |_,_=>none
     |false=>match T.call f (.nil::au)with
      |some (b,v)=>some (b,v,J)
      |none=>none
    |.fn f .pnil::args=>match T.call f args with
     |some (b,v)=>some (b,v,J)
     |none=>none
    |_=>none
  |_=>none
 |.nilCheck _=>match j with
  |[.box k off]=>some (true,.box k off,J)
  |[.ref t x]=>some (true,.ref t x,J)
  |_=>none
 |_=>none
def afT (g:Tab)(o:Oper)(f:List AV):Option AV :=
 match o.op with
 |.buildSlice t len parts=>match g.ty t,g.elem t with
  |some (.slice τ),some _=>if decide (len=parts.size)&&dU 0 (parts.toList.map (·.1))&&decide (len*τ.size≤4096)then match tG τ f with
    |some l=>some (.val (.slice τ) l)
    |none=>none
   else none
  |_,_=>none
 |_=>none
def eff (j:Tab)(T:Specs)(o:Oper)(g:Bool)(f:List AV)(fresh:Nat)(l:HO):Option (Bool×AV×HO) :=
 match ZD j o f l with
 |some r=>some r
 |none=>ZE j T o g f fresh l
def AV.isCh:AV→Bool
 |.pnil=>true
 |.pcons _ b=>b.isCh
 |_=>false
def e8 (q:List AV):(dF q).isCh=true:=by
 induction q with
 |nil=>rfl
 |cons a q f=>exact f
structure Gh where
 heap:List HO
 St:Sb
 blk:Nat→Nat
 rv:Nat→Value
 w:World
 lp:Nat→Nat:=λ_=>0
def rG (c:Gh)(k v:Nat)(Q:Ty→Prop):Prop :=
 (∃t e f l,c.heap[k]? = some (.mrow t e f l)∧v≤f∧(f=v→Q t))∨c.heap[k]? = some .dead
def rH (r:Value)(size f j:Nat)(s:Value):Prop :=
 (r = .slice none 0 0∧f=0∧j=0∧s = .slice none 0 0) ∨
 ∃g n cap A,r = .slice (some ⟨g,0,none⟩) n cap∧f≤j∧j≤n∧s = .slice A (j-f) (cap-f)∧(A=some ⟨g,f*size,none⟩∨(cap=f∧0<f))
def ptS (r:Value)(size i f:Nat)(p:Value):Prop:=∃g n cap,r = .slice (some ⟨g,0,none⟩) n cap∧i<n∧p = .pointer (some ⟨g,i*size+f,none⟩)
def RA (c:Gh):AV→List Value→Prop
 |.unk,J=>∃v,J=[v]
 |.val t x,J=>∃v,J=[v]∧RepV c.w c.St t x v
 |.nil,J=>J=[.slice none 0 0]
 |.own k v t l,J=>∃s,J=[s]∧RepV c.w c.St (.slice t) l s∧∃t' e' v',c.heap[k]? = some (.row t' e' v')∧v≤v'∧(v'=v→s=c.rv k)
 |.ref t x,J=>∃U ds,J=[.pointer (some U)]∧U.spot=none∧Rep c.w c.St (toD t x) ds∧∀j u,ds[j]? = some u→c.w.cell? (U.add j)=some u∧c.St U.block (U.off+j)
 |.box k T,J=>∃cells,c.heap[k]? = some (.box cells)∧J=[.pointer (some ⟨c.blk k,T,none⟩)]
 |.fn f R,J=>∃P,J=[.func (.func f) #[] P.toArray]∧RA c R P∧R.isCh=true
 |.agg p,J=>∃P,J=[.agg P.toArray]∧RA c p P∧p.isCh=true∧∀u∈P,u.oneCell'=true
 |.tup p,J=>∃P,J=[.tuple P.toArray]∧RA c p P∧p.isCh=true
 |.pnil,J=>J=[]
 |.pcons a b,J=>∃v r,J=v::r∧RA c a [v]∧RA c b r
 |.cond g a,J=>if g then RA c a J else J=[undef]
 |.msl k v lo hi,J=>∃s,J=[s]∧s.oneCell'=true∧rG c k v (λt=>rH (c.rv k) t.size lo hi s)
 |.mpt k v i T,J=>∃p,J=[p]∧p.oneCell'=true∧rG c k v (λt=>ptS (c.rv k) t.size i T p)
 |.yld j,J=>c.heap[j]? = some .dead∧J=[.func (.yield (c.lp j)) #[] #[]]
 |.fix C w,J=>J=[undef]∧(∀b o,C b o→c.St b o)∧∀(a:Addr) v,C a.block a.off→a.spot=none→w.cell? a=some v→c.w.cell? a=some v
def RAs (c:Gh):List AV→List Value→Prop
 |[],[]=>True
 |a::l,v::vs=>RA c a [v]∧RAs c l vs
 |_,_=>False
structure Ev (c c':Gh):Prop where
 st:c.St.le c'.St
 cell:∀(a:Addr) v,c.St a.block a.off→a.spot=none→c.w.cell? a=some v→c'.w.cell? a=some v
 box:∀k cells,c.heap[k]? = some (.box cells)→∃cells',c'.heap[k]? = some (.box cells')∧c'.blk k=c.blk k
 row:∀k t e v,c.heap[k]? = some (.row t e v)→∃t' e' v',c'.heap[k]? = some (.row t' e' v')∧v≤v'∧(v'=v→c'.rv k=c.rv k)
 mrow:∀k t e v l,c.heap[k]? = some (.mrow t e v l)→(∃v' l',c'.heap[k]? = some (.mrow t e v' l')∧v≤v'∧(v'=v→c'.rv k=c.rv k))∨c'.heap[k]? = some .dead
 dead:∀(k:Nat),c.heap[k]? = some HO.dead→c'.heap[k]? = some HO.dead
 lp:∀(k:Nat),c.heap[k]? = some HO.dead→c'.lp k=c.lp k
def Ev.refl (c:Gh):Ev c c:=⟨Sb.le.refl _,λ_ _ _ _ h=>h,λ_ cells h=>⟨cells,h,rfl⟩,λ_ t e v h=>⟨t,e,v,h,ζ _,λ_=>rfl⟩,λ_ _ _ v l h=>.inl ⟨v,l,h,ζ _,λ_=>rfl⟩,λ_ h=>h,λ_ _=>rfl⟩
def Ev.trans {a b c:Gh}(h:Ev a b)(k:Ev b c):Ev a c:=by
 refine⟨h.st.trans k.st,λU v x s y=>k.cell U v (h.st.s _ _ x) s (h.cell U v x s y),λi cells x=>?_,λi t e v x=>?_,λi t e v l x=>?_,λi x=>k.dead i (h.dead i x),λi x=>(k.lp i (h.dead i x)).trans (h.lp i x)⟩
 ·obtain⟨c1,g,T⟩:=h.box i cells x;obtain⟨c2,f,R⟩:=k.box i c1 g;exact⟨c2,f,R.trans T⟩
 ·obtain⟨t1,T,p,g,P,q1⟩:=h.row i t e v x;obtain⟨t2,R,j,f,J,q2⟩:=k.row i t1 T p g;refine⟨t2,R,j,f,Θ P J,λe=>?_⟩;have:j=p:=Ω
  exact(q2 this).trans (q1 Ω)
 ·rcases h.mrow i t e v l x with⟨p,P,g,C,q1⟩|hd
  ·rcases k.mrow i t e p P g with⟨j,J,f,r,q2⟩|hd
   ·refine .inl ⟨j,J,f,Θ C r,λe=>?_⟩;exact(q2 Ω).trans (q1 Ω)
   ·exact .inr hd
  ·exact .inr (k.dead i hd)
variable{c:Gh}{t:Ty}{v:Value}{w P:World}{F:Nat→Prop}{b:Nat}{e:TypeId}{J:Sb}
def rG.mono {c' :Gh}(h:Ev c c'){k v:Nat}{Q:Value→Ty→Prop}(m:rG c k v (Q (c.rv k))):rG c' k v (Q (c'.rv k)):=by
 rcases m with⟨t,e,p,l,J,g,C⟩|hd
 ·rcases h.mrow k t e p l J with⟨j,r,P,f,q2⟩|hd
  ·refine .inl ⟨t,e,j,r,P,Θ g f,λe=>?_⟩;rw[q2 Ω];exact C Ω
  ·exact .inr hd
 ·exact .inr (h.dead k hd)
def gJ (f:Addr)(h:f.spot=none)(j:Nat):(f.add j).block=f.block∧(f.add j).off=f.off+j∧(f.add j).spot=none:=by unfold Addr.add;split <;> simp_all
def add_zero (f:Addr):f.add 0=f:=by simp[Addr.add]
def Cw (f:Addr)(i j:Nat):(f.add i).add j=f.add (i+j):=by unfold Addr.add;by_cases l:i=0 <;> by_cases g:j=0 <;> simp[l,g,O_]
def RA.mono {c c':Gh}(h:Ev c c'):∀{a:AV} {vs:List Value},RA c a vs→RA c' a vs
 |.unk,_,r=>r
 |.val t x,_,⟨v,e,r⟩=>⟨v,e,r.mono h.st h.cell⟩
 |.nil,_,r=>r
 |.own k v t l,_,⟨s,e,r,t',e',v',hr,hle,heq⟩=>by obtain⟨t2,e2,v2,J,l2,q2⟩:=h.row k t' e' v' hr;exact⟨s,e,r.mono h.st h.cell,t2,e2,v2,J,Θ hle l2,λx=>(heq Ω).trans (q2 Ω).symm⟩
 |.ref t x,_,⟨ad,ds,e,hs,T,hc⟩=>by refine⟨ad,ds,e,hs,T.mono h.st h.cell,λj u hu=>?_⟩;obtain⟨U,J⟩:=hc j u hu;obtain⟨f1,f2,f3⟩:=gJ ad hs j;exact⟨h.cell _ _ (by rw[f1,f2];exact J) f3 U,h.st.s _ _ J⟩
 |.box k P,_,⟨cells,hk,e⟩=>by obtain⟨c2,J,e2⟩:=h.box k cells hk;exact⟨c2,J,by rw[e2];exact e⟩
 |.fn f caps,_,⟨R,e,r,o⟩=>⟨R,e,RA.mono h r,o⟩
 |.agg p,_,⟨R,e,r,o⟩=>⟨R,e,RA.mono h r,o⟩
 |.tup p,_,⟨R,e,r,o⟩=>⟨R,e,RA.mono h r,o⟩
 |.pnil,_,r=>r
 |.pcons a b,_,⟨v,r,e,ha,hb⟩=>⟨v,r,e,RA.mono h ha,RA.mono h hb⟩
 |.cond g a,vs,r=>by
  simp[RA]at r⊢;split
  next hg=>simp[hg]at r;exact RA.mono h r
  next hg=>simp[hg]at r;exact r
 |.msl k v lo hi,_,⟨s,e,o,m⟩=>⟨s,e,o,rG.mono (Q:=λr t=>rH r t.size lo hi s) h m⟩
 |.mpt k v i P,_,⟨s,e,o,m⟩=>⟨s,e,o,rG.mono (Q:=λr t=>ptS r t.size i P s) h m⟩
 |.yld j,_,⟨T,e⟩=>⟨h.dead j T,by rw[h.lp j T];exact e⟩
 |.fix C w,_,⟨e,U,J⟩=>⟨e,λb o x=>h.st.s b o (U b o x),λa v x s y=>h.cell a v (U _ _ x) s (J a v x s y)⟩
def RAs.mono {c c':Gh}(h:Ev c c'):∀{l:List AV} {f:List Value},RAs c l f→RAs c' l f
 |[],[],_=>trivial
 |_::_,_::_,⟨a,b⟩=>⟨RA.mono h a,RAs.mono h b⟩
def RAs.length {c:Gh}:∀{l:List AV} {vs:List Value},RAs c l vs→l.length=vs.length
 |[],[],_=>rfl
 |_::_,_::_,⟨_,b⟩=>by simp[RAs.length b]
def RAs.append {c:Gh}:∀{l j:List AV} {g f:List Value},RAs c l g→RAs c j f→RAs c (l++j) (g++f)
 |[],_,[],_,_,h=>h
 |_::_,_,_::_,_,⟨a,b⟩,h=>⟨a,RAs.append b h⟩
def RAs.get {c:Gh}:∀{l:List AV} {f:List Value},RAs c l f→∀(i:Nat) a,l[i]? = some a→∃v,f[i]? = some v∧RA c a [v]
 |[],[],_,i,a,h=>by simp at h
 |x::l,v::f,⟨r,g⟩,i,a,h=>by
  cases i with
  |zero=>simp at h;subst h;exact⟨v,rfl,r⟩
  |succ i=>simp at h;simpa using g.get i a h
def RAs.take {c:Gh}:∀{l:List AV} {f:List Value} (n:Nat),RAs c l f→RAs c (l.take n) (f.take n)
 |[],[],n,_=>by simp[RAs]
 |_::_,_::_,0,_=>by simp[RAs]
 |_::_,_::_,n+1,⟨a,b⟩=>⟨a,RAs.take n b⟩
def RAs.drop {c:Gh}:∀{l:List AV} {f:List Value} (n:Nat),RAs c l f→RAs c (l.drop n) (f.drop n)
 |[],[],n,_=>by simp[RAs]
 |_::_,_::_,0,h=>h
 |_::_,_::_,n+1,⟨_,b⟩=>by simpa using RAs.drop n b
def RAs.set {c:Gh}:∀{l:List AV} {f:List Value} (i:Nat) {a:AV} {v:Value},RAs c l f→RA c a [v]→RAs c (l.set i a) (f.set i v)
 |[],[],_,_,_,_,_=>trivial
 |_::_,_::_,0,_,_,⟨_,b⟩,h=>⟨h,b⟩
 |_::_,_::_,i+1,_,_,⟨a,b⟩,h=>⟨a,RAs.set i b h⟩
def RA.parts {c:Gh}:∀{p:AV} {f:List Value},RA c p f→p.isCh=true→RAs c p.parts f
 |.pnil,f,h,_=>by have h:f=[]:=h;subst h;trivial
 |.pcons a b,f,h,g=>by obtain⟨v,r,rfl,l,j⟩:=h;exact⟨l,RA.parts j g⟩
def RA.of_chain {c:Gh}:∀{q:List AV} {f:List Value},RAs c q f→RA c (dF q) f
 |[],[],_=>rfl
 |_::_,v::g,⟨a,b⟩=>⟨v,g,rfl,a,RA.of_chain b⟩
def RA.one {a:AV}{f:List Value}(h:RA c a f)(g:(∃t x,a = .val t x)∨a = .nil∨(∃k v t l,a = .own k v t l)):∃v,f=[v]:=by
 rcases g with⟨t,x,rfl⟩|rfl|⟨k,v,t,l,rfl⟩
 ·obtain⟨v,e,_⟩:=h;exact⟨v,e⟩
 ·exact⟨_,h⟩
 ·obtain⟨s,e,_⟩:=h;exact⟨s,e⟩
def cast?_some {f :Ty}{x:t.den}{y:f.den}(h:cast? t f x=some y):∃e:t=f,y=e ▸ x:=by
 unfold cast? at h;split at h
 next e=>exact⟨e,(π h).symm⟩
 ·cases h
def one?_sound {a:AV}{x:t.den}(h:one? t a=some x)(r:RA c a [v]):RepV c.w c.St t x v:=by
 cases a with
 |val f y =>obtain⟨e,g⟩:=cast?_some (h:cast? f t y=some x);subst e;subst g;obtain⟨j,e,r⟩:=r;simp at e;subst e;exact r
 |nil=>
  cases t with
  |slice t =>simp only[one?]at h;have:x=[]:=(π h).symm;subst this;have r:[v]=[.slice none 0 0]:=r;simp at r;subst r;show Rep _ _ _ _;exact⟨none,0,0,rfl,rfl,ζ _,.inl rfl⟩
  |jsl e =>simp only[one?]at h;have:x=(0:Nat):=(π h).symm;subst this;have r:[v]=[.slice none 0 0]:=r;simp at r;subst r;show Rep _ _ _ _;exact⟨none,0,rfl,.inl ⟨rfl,rfl,rfl⟩⟩
  |_=>simp[one?]at h
 |own k j f l =>obtain⟨e,g⟩:=cast?_some (h:cast? (.slice f) t l=some x);subst e;subst g;obtain⟨s,e,r,_⟩:=r;simp at e;subst e;exact r
 |_=>simp[one?]at h
def repv_cell {St:Sb}(f:t.isStruct=false){x:t.den}:RepV w St t x v↔Rep w St (toD t x) [v]:=by simp[RepV,f]
def wT {c:Gh}:∀{t:Ty} {x:t.den} {f:List Value},Rep c.w c.St (toD t x) f→RAs c (flat t x) f
 |.int k,x,f,h=>by obtain⟨rfl,g⟩:=h;exact⟨⟨_,rfl,(repv_cell rfl).2 ⟨rfl,g⟩⟩,ans⟩
 |.bool,x,f,h=>by obtain⟨rfl,g⟩:=h;exact⟨⟨_,rfl,(repv_cell rfl).2 ⟨rfl,g⟩⟩,ans⟩
 |.str,x,f,h=>by obtain⟨rfl,g⟩:=h;exact⟨⟨_,rfl,(repv_cell rfl).2 ⟨rfl,g⟩⟩,ans⟩
 |.slice t,x,f,h=>by have C:=h;obtain⟨A,n,R,rfl,_⟩:=h;exact⟨⟨_,rfl,(repv_cell rfl).2 C⟩,ans⟩
 |.jsl e,x,f,h=>by have C:=h;obtain⟨A,R,rfl,_⟩:=h;exact⟨⟨_,rfl,(repv_cell rfl).2 C⟩,ans⟩
 |.unit,x,f,h=>by have h:f=[]:=h;subst h;trivial
 |.cons a b,x,f,h=>by obtain⟨c1,c2,rfl,g,r⟩:=h;exact(wT g).append (wT r)
 |.tree,.mk k t ls ks,f,h=>by simp[toD,rz]at h;obtain⟨c1,c2,rfl,g,c3,c4,rfl,r,c5,c6,rfl,P,c7,c8,rfl,J,l⟩:=h;have l:c8=[]:=l;subst l;obtain⟨rfl,U⟩:=g;obtain⟨rfl,T⟩:=r;have p:=P;obtain⟨A,n,R,rfl,_⟩:=P;have j:=J;obtain⟨A',n',cp',rfl,_⟩:=J;refine⟨⟨_,rfl,(repv_cell rfl).2 ⟨rfl,U⟩⟩,⟨_,rfl,(repv_cell rfl).2 ⟨rfl,T⟩⟩,⟨_,rfl,(repv_cell rfl).2 p⟩,⟨_,rfl,(repv_cell rfl).2 ?_⟩,ans⟩;rw[iD]at j;exact j
def pZ {c:Gh}:∀{t:Ty} {l:List AV} {x:t.den} {f:List Value},asm t l=some x→RAs c l f→Rep c.w c.St (toD t x) f
 |.int k,[a],x,[v],h,r=>(repv_cell rfl).1 (one?_sound h r.1)
 |.bool,[a],x,[v],h,r=>(repv_cell rfl).1 (one?_sound h r.1)
 |.str,[a],x,[v],h,r=>(repv_cell rfl).1 (one?_sound h r.1)
 |.slice t,[a],x,[v],h,r=>(repv_cell rfl).1 (one?_sound h r.1)
 |.jsl e,[a],x,[v],h,r=>(repv_cell rfl).1 (one?_sound h r.1)
 |.unit,[],x,[],h,r=>rfl
 |.cons a b,l,x,f,h,r=>by
  simp[asm]at h;split at h
  next y z J C=>have:x=(y,z):=(π h).symm;subst this;exact⟨_,_,(g? a.size f).symm,pZ J (r.take _),pZ C (r.drop _)⟩
  ·cases h
 |.tree,[a,b,d,e],x,[p,j,g,v4],h,r=>by
  simp[asm]at h;split at h
  next k t ls ks T R P h4=>have:x=Tree.mk k t ls ks:=(π h).symm;subst this;obtain⟨r1,r2,r3,r4,_⟩:=r;refine⟨[p],[j,g,v4],rfl,(repv_cell rfl).1 (one?_sound T r1),[j],[g,v4],rfl,(repv_cell rfl).1 (one?_sound R r2),[g],[v4],rfl,(repv_cell rfl).1 (one?_sound P r3),[v4],[],rfl, ?_,rfl⟩;rw[iD];exact(repv_cell rfl).1 (one?_sound h4 r4)
  ·cases h
def RA.nj {c c':Gh}(R:c'.heap=c.heap)(hb:c'.blk=c.blk)(T:c'.rv=c.rv)(J:c'.w=c.w)(U:c'.lp=c.lp)(P:∀b o,c.St b o→c'.St b o):∀{a:AV} {vs:List Value},a.nojk=true→RA c a vs→RA c' a vs
 |.unk,_,_,r=>r
 |.val t x,_,h,⟨v,e,r⟩=>⟨v,e,by rw[J];exact r.nj P h⟩
 |.nil,_,_,r=>r
 |.own k v t l,_,h,⟨s,e,r,t',e',v',q1,q2,q3⟩=>⟨s,e,by rw[J];exact RepV.nj (t :=.slice t) P h r,t',e',v',by rw[R];exact q1,q2,by rw[T];exact q3⟩
 |.ref t x,_,h,⟨ad,ds,e,q1,q2,q3⟩=>⟨ad,ds,e,q1,by rw[J];exact q2.nj P (yi x h),λj u hu=>⟨by rw[J];exact(q3 j u hu).1,P _ _ (q3 j u hu).2⟩⟩
 |.box k off,_,_,⟨cells,q1,q2⟩=>⟨cells,by rw[R];exact q1,by rw[hb];exact q2⟩
 |.fn f caps,_,h,⟨cs,e,r,q⟩=>⟨cs,e,r.nj R hb T J U P h,q⟩
 |.agg p,_,h,⟨cs,e,r,q⟩=>⟨cs,e,r.nj R hb T J U P h,q⟩
 |.tup p,_,h,⟨cs,e,r,q⟩=>⟨cs,e,r.nj R hb T J U P h,q⟩
 |.pnil,_,_,r=>r
 |.pcons a b,_,h,⟨v,r,e,q1,q2⟩=>by simp only[AV.nojk,κ]at h;exact⟨v,r,e,q1.nj R hb T J U P h.1,q2.nj R hb T J U P h.2⟩
 |.cond g a,vs,h,r=>by
  cases g
  ·exact r
  ·exact RA.nj (a:=a) R hb T J U P h r
 |.msl k v lo hi,_,_,⟨s,e,q1,q2⟩=>⟨s,e,q1,by unfold rG at *;rw[R,T];exact q2⟩
 |.mpt k v i off,_,_,⟨p,e,q1,q2⟩=>⟨p,e,q1,by unfold rG at *;rw[R,T];exact q2⟩
 |.yld j,_,_,⟨q1,q2⟩=>⟨by rw[R];exact q1,by rw[U];exact q2⟩
 |.fix C w,_,_,⟨e,q1,q2⟩=>⟨e,λb o x=>P b o (q1 b o x),by rw[J];exact q2⟩
def RAs.nj {c c':Gh}(J:c'.heap=c.heap)(P:c'.blk=c.blk)(p:c'.rv=c.rv)(j:c'.w=c.w)(C:c'.lp=c.lp)(l:∀b o,c.St b o→c'.St b o):∀{f:List AV} {g:List Value},f.all AV.nojk=true→RAs c f g→RAs c' f g
 |[],[],_,_=>trivial
 |a::f,v::g,h,⟨r,R⟩=>by simp only[q?,κ]at h;exact⟨r.nj J P p j C l h.1,R.nj J P p j C l h.2⟩
def obk (c:Gh)(k:Nat):Option Nat :=
 match c.heap[k]? with
 |some (.box _)=>some (c.blk k)
 |some (.row _ _ _)=>(c.rv k).ownBlock
 |some (.mrow _ _ _ _)=>(c.rv k).ownBlock
 |_=>none
structure Bd where
 b:Nat
 F:Nat→Prop:=λ_=>False
instance bdNat:Coe Bd Nat:=⟨Bd.b⟩
structure Og (F:Nat→Prop)(w w':World):Prop where
 dr:dz w≤dz w'
 keep:∀(k:Nat) (o:Obj),w.heap[k]? = some o→o.isCells=false→w'.heap[k]? = some o
 kb:∀b,F b→w'.heap[b]? = w.heap[b]?
def Og.refl (w:World):Og F w w:=⟨ζ _,λ_ _ h _=>h,λ_ _=>rfl⟩
def Og.trans {F:Nat→Prop}{w w' j:World}(h:Og F w w')(g:Og F w' j):Og F w j:=⟨Θ h.dr g.dr,λk o x y=>g.keep k o (h.keep k o x y) y,λb f=>(g.kb b f).trans (h.kb b f)⟩
def Og.of_below {g :World}(j:Below w.heap.size w g)(p:dz w≤dz g)(l:∀b,F b→b<w.heap.size):Og F w g:=⟨p,λk _ x _=>(j.block k (η.1 x).1).trans x,λb f=>j.block b (l b f)⟩
def Og.of_grown {j :World}{row:Option Nat}(l:w.grownBy j row)(r:∀b,row=some b→∃g t m,w.heap[b]? = some (.cells g t m))(C:dz w≤dz j)(p:∀b,F b→b<w.heap.size∧some b≠row):Og F w j :=
 ⟨C,λk o x y=>(l.block k (η.1 x).1 (λe=>by
  obtain⟨g,t,m,h⟩:=r k e.symm;rw[x]at h;cases h;cases y)).trans x,λb f=>l.block b (p b f).1 (p b f).2⟩
structure Jk (B:Bd)(c:Gh)(b:Nat)(e:TypeId)(cap n:Nat):Prop where
 lo:B.b≤b
 nf:¬B.F b
 le:n≤cap∧cap≤maxLen
 cells:∃arr,c.w.heap[b]? = some (.cells arr e (0,0))∧arr.size=cap∧∀u∈arr.toList,u.oneCell'=true
 free:∀o,¬c.St b o
 own:∀k,obk c k≠some b
structure Inv (B:Bd)(P:World)(J:Sb)(c:Gh):Prop where
 below:Below B P c.w
 size:B≤c.w.heap.size
 bnd:∀b o,c.St b o→b<c.w.heap.size
 st0:J.le c.St
 stN:∀b o,c.St b o→J b o∨(B.b≤b∧¬B.F b)
 box:∀k cells,c.heap[k]? = some (.box cells)→∃arr t,c.w.heap[c.blk k]? = some (.cells arr t (0,0))∧B≤c.blk k∧(∀o,¬c.St (c.blk k) o)∧RAs c cells arr.toList
 row:∀k t e v,c.heap[k]? = some (.row t e v)→∃n xs,c.w.ownsRow B e t.size (c.rv k) n xs∧∀b,(c.rv k).ownBlock=some b→∀o,n*t.size≤o→¬c.St b o
 sep:∀k k' b,k≠k'→obk c k=some b→obk c k'≠some b
 mrow:∀k t e v l,c.heap[k]? = some (.mrow t e v l)→∃xs,c.w.ownsRow B e t.size (c.rv k) l.length xs∧Rep c.w c.St (chain (toD t) l) xs∧∀b,(c.rv k).ownBlock=some b→∀o,¬c.St b o
 drawn:Og B.F P c.w
 fo:∀k b,obk c k=some b→¬B.F b
 fl:∀b,B.F b→b<c.w.heap.size
 j0:∀b e cap n,¬J.j b e cap n
 junk:∀b e cap n,c.St.j b e cap n→J.j b e cap n∨Jk B c b e cap n
variable{B:Bd}
def Jk.keep {f :Gh}{cap n:Nat}(h:Jk B c b e cap n)(g:f.w.heap[b]? = c.w.heap[b]?)(j:∀o,f.St b o→c.St b o)(l:∀k,obk f k=some b→obk c k=some b):Jk B f b e cap n :=
 ⟨h.lo,h.nf,h.le,by rw[g];exact h.cells,λo x=>h.free o (j o x),λk x=>h.own k (l k x)⟩
structure NJ (base:Nat)(w:World)(St:Sb)(b:Nat)(e:TypeId)(cap n:Nat):Prop where
 lo:base≤b
 le:n≤cap∧cap≤maxLen
 cells:∃arr,w.heap[b]? = some (.cells arr e (0,0))∧arr.size=cap∧∀u∈arr.toList,u.oneCell'=true
 free:∀o,¬St b o
def Jk.lt {cap n:Nat}(h:Jk B c b e cap n):b<c.w.heap.size:=by obtain⟨f,h,_⟩:=h.cells;exact(η.1 h).1
def HI (h:Inv B P J c){k:Nat}(f:obk c k=some b):∃j t m,c.w.heap[b]? = some (.cells j t m):=by
 unfold obk at f;split at f
 next cells hk=>obtain⟨j,t,h1,_⟩:=h.box k cells hk;have:=π f;subst this;exact⟨j,t,_,h1⟩
 next t e v hk=>
  obtain⟨n,U,p,_⟩:=h.row k t e v hk;rcases p.2 with⟨x,_⟩|⟨g,cap,T,R,e2,C,r⟩
  ·rw[x]at f;cases f
  ·rw[R]at f;cases f;exact⟨_,_,_,C⟩
 next t e v l hk=>
  obtain⟨U,p,_⟩:=h.mrow k t e v l hk;rcases p.2 with⟨x,_⟩|⟨g,cap,T,R,e2,C,r⟩
  ·rw[x]at f;cases f
  ·rw[R]at f;cases f;exact⟨_,_,_,C⟩
 ·cases f
def fF (h:Inv B P J c){k:Nat}(f:obk c k=some b):b<c.w.heap.size∧B≤b:=by
 unfold obk at f;split at f
 next cells hk=>obtain⟨C,t,r,p,_⟩:=h.box k cells hk;have:=π f;subst this;exact⟨(η.1 r).1,p⟩
 next t e v hk=>obtain⟨n,j,g,_⟩:=h.row k t e v hk;have:=g.lt b f;exact⟨this.2,this.1⟩
 next t e v l hk=>obtain⟨j,g,_⟩:=h.mrow k t e v l hk;have:=g.lt b f;exact⟨this.2,this.1⟩
 ·cases f
end Abs
namespace Abs
open Go Go.RowKit
section
variable {B:Bd}{C:World}{p:Sb}{c:Gh}
variable{k:Nat}{w' :World}{St' :Sb}{J:Type}{arr:Array Value}{t e:TypeId}{xs:List Value}
def fA {c f:Gh}(j:f.heap[k]? = c.heap[k]?)(l:f.blk k=c.blk k)(g:f.rv k=c.rv k):obk f k=obk c k:=by unfold obk;rw[j,l,g]
def Inv.grow (h:Inv B C p c)(P:Below c.w.heap.size c.w w')(hs:c.St.le St')
  (hn:∀b o,St' b o→c.St b o∨(c.w.heap.size≤b∧b<w'.heap.size)) (hdr:dz c.w≤dz w')
  (hj:∀b e cap n,St'.j b e cap n→c.St.j b e cap n∨NJ c.w.heap.size w' St' b e cap n) :
  Inv B C p { c with w:=w',St:=St' }∧Ev c { c with w:=w',St:=St' }:=by
 have ev:Ev c { c with w:=w',St:=St' }:=⟨hs,λa v hst _ hc=>(P.cell (h.bnd _ _ hst)).trans hc,λ_ cells x=>⟨cells,x,rfl⟩,λ_ t e v x=>⟨t,e,v,x,ζ _,λ_=>rfl⟩,λ_ _ _ v l x=>.inl ⟨v,l,x,ζ _,λ_=>rfl⟩,λ_ x=>x,λ_ _=>rfl⟩;refine⟨⟨h.below.trans (P.mono h.size),Θ h.size P.size, ?_,h.st0.trans hs, ?_, ?_, ?_, ?_, ?_,h.drawn.trans (Og.of_below P hdr h.fl),h.fo,λb f=>k_ (h.fl b f) P.size,h.j0,λb e cap n x=>?_⟩,ev⟩
 rotate_right 1
 ·obtain x|x:=hj b e cap n x
  ·refine(h.junk b e cap n x).imp id λq=>q.keep (P.block b q.lt) (λo y=>?_) λk y=>y;obtain y|y:=hn b o y
   ·exact y
   ·have:=q.lt;omega
  ·exact .inr ⟨Θ h.size x.lo,λf=>by have:=h.fl b f;have:=x.lo;omega,x.le,x.cells,x.free,λk y=>by have:=(fF h y).1;have:=x.lo;omega⟩
 ·intro b o x;obtain x|x:=hn b o x
  ·exact k_ (h.bnd _ _ x) P.size
  ·exact x.2
 ·intro b o x;obtain x|x:=hn b o x
  ·exact h.stN _ _ x
  ·exact .inr ⟨Θ h.size x.1,λf=>by have:=h.fl b f;omega⟩
 ·intro k cells hk;obtain⟨arr,t,h1,h2,h3,h4⟩:=h.box k cells hk;have hlt:=(η.1 h1).1;refine⟨arr,t,(P.block _ hlt).trans h1,h2,λo x=>?_,h4.mono ev⟩;obtain x|x:=hn _ o x
  ·exact h3 o x
  ·have:c.w.heap.size≤c.blk k:=x.1;omega
 ·intro k t e v hk;obtain⟨n,xs,T,R⟩:=h.row k t e v hk;refine⟨n,xs,⟨T.1, ?_⟩,λb J o hle x=>?_⟩
  ·obtain x|⟨g,cap,U,e1,e2,e3,r⟩:=T.2
   ·exact .inl x
   ·exact .inr ⟨g,cap,U,e1,e2,(P.block _ (η.1 e3).1).trans e3,r⟩
  ·obtain x|x:=hn _ o x
   ·exact R b J o hle x
   ·have:=T.lt b J;omega
 ·exact h.sep
 ·intro k t e v l hk;obtain⟨xs,T,hrep,R⟩:=h.mrow k t e v l hk;refine⟨xs,⟨T.1, ?_⟩,hrep.mono ev.st ev.cell,λb J o x=>?_⟩
  ·obtain x|⟨g,cap,U,e1,e2,e3,r⟩:=T.2
   ·exact .inl x
   ·exact .inr ⟨g,cap,U,e1,e2,(P.block _ (η.1 e3).1).trans e3,r⟩
  ·obtain x|x:=hn _ o x
   ·exact R b J o x
   ·have:=T.lt b J;omega
def Inv.drew (h:Inv B C p c):Inv B C p { c with w:=c.w.drew }∧Ev c { c with w:=c.w.drew } :=
 h.grow (w':=c.w.drew) (St':=c.St) ⟨rfl,rfl,rfl,ζ _,λ_ _=>rfl⟩ (Sb.le.refl _) (λ_ _ x=>.inl x) ((by first|exact ai9 _|exact c_ _)) (λ_ _ _ _ x=>.inl x)
def get_set {l:List J}{i:Nat}{x:J}:(l.set k x)[i]? = if k=i then(if k<l.length then some x else none)else l[i]?:=by rw[ajM]
def ak {l:List J}{x:J}(h:l[k]? = some x):k<l.length:=(N'.1 h).1
def Inv.addBox (h:Inv B C p c){g:Nat}{cells:List AV}(hk:c.heap[k]? = some .none)(hg:c.w.heap[g]? = some (.cells arr t (0,0)))(hB:B≤g)(hF:¬B.F g)
  (hst:∀o,¬c.St g o) (T:∀k',obk c k'≠some g) (hjk:∀e cap n,c.St.j g e cap n→p.j g e cap n) (hr:RAs c cells arr.toList) :
  Inv B C p { c with heap:=c.heap.set k (.box cells),blk:=λi=>if i=k then g else c.blk i }∧Ev c { c with heap:=c.heap.set k (.box cells),blk:=λi=>if i=k then g else c.blk i }:=by
 have hlt:=ak hk;have r:∀i,i≠k→(c.heap.set k (.box cells))[i]? = c.heap[i]?:=λi f=>by rw[get_set,B' (λe=>f e.symm)]
 have new:(c.heap.set k (.box cells))[k]? = some (.box cells):=by rw[get_set,β rfl,β hlt]
 have ev:Ev c { c with heap:=c.heap.set k (.box cells),blk:=λi=>if i=k then g else c.blk i }:=by
  refine⟨Sb.le.refl _,λ_ _ _ _ x=>x,λi cs x=>?_,λi t e v x=>?_,λi t e v l x=>?_,λi x=>?_,λ_ _=>rfl⟩
  ·have f:i≠k:=λe=>by subst e;rw[hk]at x;cases x
   exact⟨cs,(r i f).trans x,B' f⟩
  ·have f:i≠k:=λe=>by subst e;rw[hk]at x;cases x
   exact⟨t,e,v,(r i f).trans x,ζ _,λ_=>rfl⟩
  ·have f:i≠k:=λe=>by subst e;rw[hk]at x;cases x
   exact .inl ⟨v,l,(r i f).trans x,ζ _,λ_=>rfl⟩
  ·have f:i≠k:=λe=>by subst e;rw[hk]at x;cases x
   exact(r i f).trans x
 have R:∀i,i≠k→obk { c with heap:=c.heap.set k (.box cells),blk:=λi=>if i=k then g else c.blk i } i=obk c i:=λi f=>fA (r i f) (B' f) rfl;have J:obk { c with heap:=c.heap.set k (.box cells),blk:=λi=>if i=k then g else c.blk i } k=some g:=by unfold obk;simp[new]
 refine⟨⟨h.below,h.size,h.bnd,h.st0,h.stN, ?_, ?_, ?_,λi t' e' v' l' f=>?_,h.drawn,λi b U=>(by
  by_cases ei:i=k
  ·subst ei;rw[J]at U;cases U;exact hF
  ·rw[R i ei]at U;exact h.fo i b U),h.fl,h.j0,λb e cap n x=>?_⟩,ev⟩
 rotate_right 1
 ·by_cases eb:b=g
  ·subst eb;exact .inl (hjk e cap n x)
  ·refine(h.junk b e cap n x).imp id λq=>q.keep rfl (λ_ y=>y) λi y=>?_;by_cases ei:i=k
   ·subst ei;rw[J]at y;injection y with y;exact absurd y.symm eb
   ·rw[R i ei]at y;exact y
 rotate_left 3
 ·by_cases e:i=k
  ·subst e;have:=new.symm.trans f;injection this with this;cases this
  ·exact h.mrow i t' e' v' l' ((r i e).symm.trans f)
 ·intro i cs f;by_cases e:i=k
  ·subst e;have:=new.symm.trans f;cases this;exact⟨arr,t,by simpa using hg,by simpa using hB,by simpa using hst,hr.mono ev⟩
  ·have f:=(r i e).symm.trans f;obtain⟨a1,t1,h1,h2,h3,h4⟩:=h.box i cs f;exact⟨a1,t1,by simpa[e]using h1,by simpa[e]using h2,by simpa[e]using h3,h4.mono ev⟩
 ·intro i t' e' v' f;by_cases e:i=k
  ·subst e;have:=new.symm.trans f;injection this with this;cases this
  ·exact h.row i t' e' v' ((r i e).symm.trans f)
 ·intro i j b hij U P;by_cases ei:i=k
  ·subst ei;have hj:j≠i:=λe=>hij e.symm;rw[J]at U;rw[R j hj]at P;cases U;exact T j P
  ·rw[R i ei]at U;by_cases ej:j=k
   ·subst ej;rw[J]at P;cases P;exact T i U
   ·rw[R j ej]at P;exact h.sep i j b hij U P
def Inv.addRow (h:Inv B C p c){n:Nat}{t:Ty}{s:Value}(hk:c.heap[k]? = some .none)(ho:c.w.ownsRow B e t.size s n xs)
  (hsp:∀b,s.ownBlock=some b→∀o,n*t.size≤o→¬c.St b o) (T:∀k' b,s.ownBlock=some b→obk c k'≠some b) (hF:∀b,s.ownBlock=some b→¬B.F b) (hjk:∀b,s.ownBlock=some b→∀e cap n,c.St.j b e cap n→p.j b e cap n) :
  Inv B C p { c with heap:=c.heap.set k (.row t e 0),rv:=λi=>if i=k then s else c.rv i }∧Ev c { c with heap:=c.heap.set k (.row t e 0),rv:=λi=>if i=k then s else c.rv i }:=by
 have hlt:=ak hk;have g:∀i,i≠k→(c.heap.set k (.row t e 0))[i]? = c.heap[i]?:=λi f=>by rw[get_set,B' (λe=>f e.symm)]
 have new:(c.heap.set k (.row t e 0))[k]? = some (.row t e 0):=by rw[get_set,β rfl,β hlt]
 have ev:Ev c { c with heap:=c.heap.set k (.row t e 0),rv:=λi=>if i=k then s else c.rv i }:=by
  refine⟨Sb.le.refl _,λ_ _ _ _ x=>x,λi cs x=>?_,λi t e v x=>?_,λi t e v l x=>?_,λi x=>?_,λ_ _=>rfl⟩
  ·have f:i≠k:=λe=>by subst e;rw[hk]at x;cases x
   exact⟨cs,(g i f).trans x,rfl⟩
  ·have f:i≠k:=λe=>by subst e;rw[hk]at x;cases x
   exact⟨t,e,v,(g i f).trans x,ζ _,λ_=>B' f⟩
  ·have f:i≠k:=λe=>by subst e;rw[hk]at x;cases x
   exact .inl ⟨v,l,(g i f).trans x,ζ _,λ_=>B' f⟩
  ·have f:i≠k:=λe=>by subst e;rw[hk]at x;cases x
   exact(g i f).trans x
 have R:∀i,i≠k→obk { c with heap:=c.heap.set k (.row t e 0),rv:=λi=>if i=k then s else c.rv i } i=obk c i:=λi f=>fA (g i f) rfl (B' f);have r:obk { c with heap:=c.heap.set k (.row t e 0),rv:=λi=>if i=k then s else c.rv i } k=s.ownBlock:=by unfold obk;simp[new]
 refine⟨⟨h.below,h.size,h.bnd,h.st0,h.stN, ?_, ?_, ?_,λi t' e' v' l' f=>?_,h.drawn,λi b U=>(by
  by_cases P:i=k
  ·subst P;rw[r]at U;exact hF b U
  ·rw[R i P]at U;exact h.fo i b U),h.fl,h.j0,λb e cap n x=>?_⟩,ev⟩
 rotate_right 1
 ·by_cases eb:s.ownBlock=some b
  ·exact .inl (hjk b eb e cap n x)
  ·refine(h.junk b e cap n x).imp id λq=>q.keep rfl (λ_ y=>y) λi y=>?_;by_cases P:i=k
   ·subst P;rw[r]at y;exact absurd y eb
   ·rw[R i P]at y;exact y
 rotate_left 3
 ·by_cases e:i=k
  ·subst e;have:=new.symm.trans f;injection this with this;cases this
  ·obtain⟨xs',h1,h2,h3⟩:=h.mrow i t' e' v' l' ((g i e).symm.trans f);exact⟨xs',by simpa[e]using h1,h2,by simpa[e]using h3⟩
 ·intro i cs f;by_cases e:i=k
  ·subst e;have:=new.symm.trans f;injection this with this;cases this
  ·have f:=(g i e).symm.trans f;obtain⟨a1,t1,h1,h2,h3,h4⟩:=h.box i cs f;exact⟨a1,t1,h1,h2,h3,h4.mono ev⟩
 ·intro i t' e' v' f;by_cases P:i=k
  ·subst P;have:=new.symm.trans f;injection this with this;injection this with e1 e2 e3;subst e1;subst e2;subst e3;exact⟨n,xs,by simpa using ho,by simpa using hsp⟩
  ·obtain⟨n',xs',h1,h2⟩:=h.row i t' e' v' ((g i P).symm.trans f);exact⟨n',xs',by simpa[P]using h1,by simpa[P]using h2⟩
 ·intro i j b hij U J;by_cases P:i=k
  ·subst P;have hj:j≠i:=λe=>hij e.symm;rw[r]at U;rw[R j hj]at J;exact T j b U J
  ·rw[R i P]at U;by_cases ej:j=k
   ·subst ej;rw[r]at J;exact T i b J U
   ·rw[R j ej]at J;exact h.sep i j b hij U J
def Inv.setBox (h:Inv B C p c){cells cells':List AV}{arr' :Array Value}(hk:c.heap[k]? = some (.box cells))(hg:c.w.heap[c.blk k]? = some (.cells arr t (0,0)))
  (hr:RAs c cells' arr'.toList) :
  Inv B C p { c with heap:=c.heap.set k (.box cells'),w:=c.w.setRow (c.blk k) arr' }∧Ev c { c with heap:=c.heap.set k (.box cells'),w:=c.w.setRow (c.blk k) arr' }:=by
 have hlt:=ak hk;have P:∀i,i≠k→(c.heap.set k (.box cells'))[i]? = c.heap[i]?:=λi J=>by rw[get_set,B' (λe=>J e.symm)]
 have new:(c.heap.set k (.box cells'))[k]? = some (.box cells'):=by rw[get_set,β rfl,β hlt]
 have hns:∀o,¬c.St (c.blk k) o:=by obtain⟨_,_,_,_,h3,_⟩:=h.box k cells hk;exact h3
 have hBk:B≤c.blk k:=by obtain⟨_,_,_,h2,_⟩:=h.box k cells hk;exact h2
 have R:∀b,b≠c.blk k→(c.w.setRow (c.blk k) arr').heap[b]? = c.w.heap[b]?:=λb hb=>aiY _ _ _ _ hb;have ev:Ev c { c with heap:=c.heap.set k (.box cells'),w:=c.w.setRow (c.blk k) arr' }:=by
  refine⟨Sb.le.refl _,λa v hst _ hc=>?_,λi cs x=>?_,λi t e v x=>?_,λi t e v l x=>?_,λi x=>?_,λ_ _=>rfl⟩
  rotate_left 3
  ·have J:i≠k:=λe=>by subst e;rw[hk]at x;cases x
   exact .inl ⟨v,l,(P i J).trans x,ζ _,λ_=>rfl⟩
  ·have J:i≠k:=λe=>by subst e;rw[hk]at x;cases x
   exact(P i J).trans x
  ·exact(ais (R a.block (λe=>hns a.off (e ▸ hst)))).trans hc
  ·by_cases J:i=k
   ·subst J;exact⟨cells',new,rfl⟩
   ·exact⟨cs,(P i J).trans x,rfl⟩
  ·have J:i≠k:=λe=>by subst e;rw[hk]at x;cases x
   exact⟨t,e,v,(P i J).trans x,ζ _,λ_=>rfl⟩
 have hbk:∀i cs,c.heap[i]? = some (.box cs)→i≠k→c.blk i≠c.blk k:=λi cs J T e=>by
  refine h.sep i k (c.blk i) T ?_ ?_
  ·unfold obk;rw[J]
  ·unfold obk;rw[hk,e]
 have hob:∀i,obk { c with heap:=c.heap.set k (.box cells'),w:=c.w.setRow (c.blk k) arr' } i=obk c i:=λi=>by
  by_cases J:i=k
  ·subst J;unfold obk;simp[new,hk]
  ·exact fA (P i J) rfl rfl
 have hok:obk c k=some (c.blk k):=by unfold obk;rw[hk]
 have U:∀b,B.F b→(c.w.setRow (c.blk k) arr').heap[b]? = c.w.heap[b]?:=λb f=>R b (λe=>h.fo k b (by rw[e];exact hok) f);have hog:Og B.F c.w (c.w.setRow (c.blk k) arr'):=⟨ζ _,λb o x y=>(R b (λe=>by rw[e,hg]at x;cases x;cases y)).trans x,U⟩;refine⟨⟨?_, ?_, ?_,h.st0,h.stN, ?_, ?_, ?_,λi t' e' v' l' J=>?_,h.drawn.trans hog,λi b hb=>h.fo i b (by rw[hob i]at hb;exact hb),λb f=>(by
  have e:=U b f;rw[W_ (h.fl b f)]at e;exact(η.1 e).1),h.j0,λb e cap n x=>(h.junk b e cap n x).imp id λq=>q.keep (R b λe=>q.own k (by rw[e];exact hok)) (λ_ y=>y) λi y=>by rw[hob i]at y;exact y⟩,ev⟩
 rotate_left 6
 ·have T:i≠k:=λe=>by subst e;have:=new.symm.trans J;injection this with this;cases this
  have J:=(P i T).symm.trans J;obtain⟨xs,ho,hrep,hsp⟩:=h.mrow i t' e' v' l' J;refine⟨xs,⟨ho.1, ?_⟩,hrep.mono ev.st ev.cell,hsp⟩;obtain x|⟨g,cap,cur,e1,e2,e3,r⟩:=ho.2
  ·exact .inl x
  ·refine .inr ⟨g,cap,cur,e1,e2,(R g λe=>?_).trans e3,r⟩;refine h.sep i k g T ?_ ?_
   ·have e1:c.rv i=_:=e1;unfold obk;rw[J];simp[e1,Value.ownBlock]
   ·unfold obk;rw[hk,e]
 ·refine h.below.trans ⟨rfl,rfl,rfl,Ψ,λi J=>R i Ω⟩
 ·simpa using h.size
 ·intro b o x;simpa using h.bnd b o x
 ·intro i cs J;by_cases ei:i=k
  ·subst ei;have:=new.symm.trans J;cases this;exact⟨arr',t,ajo _ _ _ _ _ _ hg,hBk,hns,hr.mono ev⟩
  ·have J:=(P i ei).symm.trans J;obtain⟨a1,t1,h1,h2,h3,h4⟩:=h.box i cs J;exact⟨a1,t1,(R _ (hbk i cs J ei)).trans h1,h2,h3,h4.mono ev⟩
 ·intro i t' e' v' J;have T:i≠k:=λe=>by subst e;have:=new.symm.trans J;injection this with this;cases this
  have J:=(P i T).symm.trans J;obtain⟨n,xs,ho,hsp⟩:=h.row i t' e' v' J;refine⟨n,xs,⟨ho.1, ?_⟩,hsp⟩;obtain x|⟨g,cap,cur,e1,e2,e3,r⟩:=ho.2
  ·exact .inl x
  ·refine .inr ⟨g,cap,cur,e1,e2,(R g λe=>?_).trans e3,r⟩;refine h.sep i k g T ?_ ?_
   ·have e1:c.rv i=_:=e1;unfold obk;rw[J];simp[e1,Value.ownBlock]
   ·unfold obk;rw[hk,e]
 ·intro i j b hij hb hb';rw[hob]at hb hb';exact h.sep i j b hij hb hb'
def cV {P:Program}(w:World)(t ty e:TypeId)(i:TypeInfo)(z:Value)(size bytes:Nat)(ht:P.underlying t=some (.slice e))(hi:P.info? e=some i)(hz:i.zero=some z)
  (r:i.size=size) (hby:i.bytes=bytes) (hzs:z.cells.size=size) (hsz:0<size)
  (v:Value) (n:Nat) (xs:List Value) (p:w.ownsRow B e size v n xs)
  (A:Option Addr) (m cp:Nat) (f:List Value) (hl:f.length=m*size) (hA:m=0∨∃ad,A=some ad∧∀j u,f[j]? = some u→w.cell? (ad.add j)=some u) (h1:∀u∈f,u.oneCell'=true)
  (h63:n+m≤maxLen) (J:(n+m)*bytes≤140737488355328) (hbase:B≤w.heap.size) :
  ∃v' w',(Builtin.append_ #[t,t] ty #[v,.slice A m cp]).run P w = .ok v' w'∧w'.ownsRow B e size v' (n+m) (xs++f)∧w.grownBy w' v.ownBlock ∧
   (v'.ownBlock=v.ownBlock∨v'.ownBlock=some w.heap.size)∧(∀g,v.ownBlock=some g→∀j,j<n*size→w'.cell? ⟨g,j,none⟩=w.cell? ⟨g,j,none⟩)∧dz w≤dz w':=by
 have hsmall:n+m≤9223372036854775807:=by simp[maxLen]at h63;omega
 by_cases hm:m=0
 ·subst hm;have hn:f=[]:=U' (by simpa using hl);subst hn;refine⟨v,w, ?_,by simpa using p,⟨rfl,rfl,rfl,ζ _,λ_ _ _=>rfl⟩,.inl rfl,λ_ _ _ _=>rfl,ζ _⟩;rcases p.2 with⟨rfl,rfl⟩|⟨g,cap,U,rfl,_,hg,hnc,_⟩
  ·cases A <;> simp[Builtin.append_,ε ht,sizeOf,typeInfo,hi,Builtin.lenOf,Builtin.firstCells,loadCells,loadCellsFrom]
  ·cases A <;> simp[Builtin.append_,ε ht,sizeOf,typeInfo,hi,Builtin.lenOf,Builtin.firstCells,loadCells,loadCellsFrom,hnc,storeCells]
 ·obtain⟨a,rfl,C⟩:=hA.resolve_left hm;obtain⟨v',w',l,h2,h3,_,h5⟩:=run_append_own_at (P:=P) w B t ty e i z size bytes ht hi hz r hby hzs hsz v n xs p a m cp f hl C h1 h63 J hbase;refine⟨v',w',l,h2,h3,h5,λg hg j hj=>?_, ?_⟩
  rotate_left
  ·rcases p.2 with⟨rfl,rfl⟩|⟨g',cap,U,rfl,hbg,hgg,hnc,hcm,hcs,htake⟩
   ·have hr:=run_append_nil (P:=P) w t ty e i z ht hi hz a m cp f (by rw[r];exact hl) C Ω Ω (by rw[hby];simp at J;omega);rw[hr]at l;injection l with hv hw;subst hw;exact(by first|exact ai9 _|exact c_ _)
   ·by_cases R:n+m≤cap
    ·subst r;have hfit:n*i.size+f.length≤U.size:=by rw[hl,hcs,←Nat.add_mul];exact g_ _ R
     have hr:=run_append_room (P:=P) w t ty e i ht hi g' n cap U hgg a m cp f hl C h1 R hfit;rw[hr]at l;injection l with hv hw;subst hw;exact ζ _
    ·have T:∀j u,xs[j]? = some u→w.cell? ((⟨g',0,none⟩:Addr).add j)=some u:=p.cells (g:=g') rfl;have hr:=run_append_grow (P:=P) w t ty e i z ht hi hz ⟨g',0,none⟩ n cap xs (by rw[r];exact p.1) T a m cp f (by rw[r];exact hl) C Ω Ω (aj5 Ω (by rw[hby];exact J));rw[hr]at l;injection l with hv hw;subst hw;exact(by first|exact ai9 _|exact c_ _)
  obtain h5|h5:=h5
  ·have hc:=p.cells hg;have hc':=h2.cells (h5.trans hg);have hlx:j<xs.length:=by rw[p.1];exact hj
   have e1:=hc j xs[j] (δ hlx);have e2:=hc' j xs[j] (by rw[ο hlx];exact δ hlx);have hadd:(⟨g,0,none⟩:Addr).add j=⟨g,j,none⟩:=by unfold Addr.add;split <;> simp_all
   rw[hadd]at e1 e2;rw[e1,e2]
  ·subst r;rcases p.2 with⟨rfl,_⟩|⟨g',cap,U,rfl,hbg,hgg,hnc,hcm,hcs,htake⟩
   ·simp[Value.ownBlock]at hg
   ·have:g'=g:=by simpa[Value.ownBlock]using hg
    subst this;have hglt:=(η.1 hgg).1;by_cases R:n+m≤cap
    ·have hfit:n*i.size+f.length≤U.size:=by rw[hl,hcs,←Nat.add_mul];exact g_ _ R
     have hr:=run_append_room (P:=P) w t ty e i ht hi g' n cap U hgg a m cp f hl C h1 R hfit;rw[hr]at l;injection l with hv hw;subst hv;simp[Value.ownBlock]at h5;omega
    ·have T:∀j u,xs[j]? = some u→w.cell? ((⟨g',0,none⟩:Addr).add j)=some u:=p.cells (g:=g') rfl;have hr:=run_append_grow (P:=P) w t ty e i z ht hi hz ⟨g',0,none⟩ n cap xs p.1 T a m cp f hl C Ω Ω (aj5 Ω (by rw[hby];exact J));rw[hr]at l;injection l with hv hw;subst hw;exact ais (a:=⟨g',j,none⟩) (Below.heap_alloc w.drew _ g' hglt)
def Inv.appendRow (h:Inv B C p c){v n m:Nat}{t:Ty}{s':Value}{news:List Value}(hk:c.heap[k]? = some (.row t e v))
  (ho:c.w.ownsRow B e t.size (c.rv k) n xs) (hsp:∀b,(c.rv k).ownBlock=some b→∀o,n*t.size≤o→¬c.St b o)
  (ho':w'.ownsRow B e t.size s' (n+m) (xs++news)) (hg:c.w.grownBy w' (c.rv k).ownBlock) (hat:s'.ownBlock=(c.rv k).ownBlock∨s'.ownBlock=some c.w.heap.size)
  (hpre:∀g,(c.rv k).ownBlock=some g→∀j,j<n*t.size→w'.cell? ⟨g,j,none⟩=c.w.cell? ⟨g,j,none⟩) (hdr:dz c.w≤dz w') :
  let c':Gh:={ c with heap:=c.heap.set k (.row t e (v+1)),rv:=λi=>if i=k then s' else c.rv i,w:=w',St:=⟨λb o=>c.St b o∨(s'.ownBlock=some b∧o<(n+m)*t.size),c.St.j⟩ }
  Inv B C p c'∧Ev c c':=by
 intro c';have hlt:=ak hk;have R:∀i,i≠k→c'.heap[i]? = c.heap[i]?:=λi J=>by show(c.heap.set k _)[i]? = _;rw[get_set,B' (λe=>J e.symm)]
 have new:c'.heap[k]? = some (.row t e (v+1)):=by show(c.heap.set k _)[k]? = _;rw[get_set,β rfl,β hlt]
 have T:∀i,i≠k→c'.rv i=c.rv i:=λi J=>B' J;have rvn:c'.rv k=s':=β rfl;have P:obk c k=(c.rv k).ownBlock:=by unfold obk;rw[hk]
 have free:∀i b,i≠k→s'.ownBlock=some b→obk c i≠some b:=by
  intro i b J l U;obtain x|x:=hat
  ·rw[x,←P]at l;exact h.sep k i b (λe=>J e.symm) l U
  ·have:=(fF h U).1;rw[x]at l;injection l with l;omega
 have blkne:∀i b,i≠k→obk c i=some b→some b≠(c.rv k).ownBlock:=by intro i b J l e;rw[←P]at e;exact h.sep i k b J l e.symm
 have ev:Ev c c':=by
  refine⟨⟨λ_ _ x=>.inl x,λ_ _ _ _ x=>x⟩,λa u hst hsp' hc=>?_,λi cs x=>?_,λi t1 e1 v1 x=>?_,λi t1 e1 v1 l1 x=>?_,λi x=>?_,λ_ _=>rfl⟩
  rotate_left 3
  ·have J:i≠k:=λe=>by subst e;rw[hk]at x;cases x
   exact .inl ⟨v1,l1,(R i J).trans x,ζ _,λ_=>T i J⟩
  ·have J:i≠k:=λe=>by subst e;rw[hk]at x;cases x
   exact(R i J).trans x
  ·by_cases hbk:(c.rv k).ownBlock=some a.block
   ·have hoff:a.off<n*t.size:=by
     rcases d_ a.off (n*t.size)with y|y
     ·exact y
     ·exact absurd hst (hsp _ hbk _ y)
    have ea:a=⟨a.block,a.off,none⟩:=by cases a;simp at hsp'⊢;exact hsp'
    rw[ea];have:=hpre _ hbk _ hoff;rw[ea]at hc;exact this.trans hc
   ·exact hg.cell hc (λe=>hbk e.symm)
  ·have J:i≠k:=λe=>by subst e;rw[hk]at x;cases x
   exact⟨cs,(R i J).trans x,rfl⟩
  ·by_cases J:i=k
   ·subst J;have:=hk.symm.trans x;injection this with this;injection this with _ _ e3;subst e3;exact⟨t,e,v+1,new,Ω,λx=>Ω⟩
   ·exact⟨t1,e1,v1,(R i J).trans x,ζ _,λ_=>T i J⟩
 have hbn:∀b,s'.ownBlock=some b→b<w'.heap.size∧B≤b:=λb l=>by have:=ho'.lt b l;exact⟨this.2,this.1⟩
 have hnF:∀b,s'.ownBlock=some b→¬B.F b:=λb l f=>by
  obtain y|y:=hat
  ·exact h.fo k b (P.trans (y ▸ l)) f
  ·rw[y]at l;injection l with l;have:=h.fl b f;omega
 have hobk2:obk c' k=s'.ownBlock:=by unfold obk;rw[new];show(c'.rv k).ownBlock=_;rw[rvn]
 have hrowB:∀g,(c.rv k).ownBlock=some g→B≤g:=λg hg'=>(ho.lt g hg').1;refine⟨⟨h.below.grown hg h.size hrowB,Θ h.size hg.size, ?_,⟨λb o x=>.inl (h.st0.s _ _ x),h.st0.j⟩, ?_, ?_, ?_, ?_,λi t1 e1 v1 l1 J=>?_,h.drawn.trans (Og.of_grown hg (λb l=>HI h (P.trans l)) hdr (λb f=>⟨h.fl b f,λe=>h.fo k b (P.trans e.symm) f⟩)),λi b l=>(by
  by_cases ei:i=k
  ·subst ei;rw[hobk2]at l;exact hnF b l
  ·exact h.fo i b ((fA (R i ei) rfl (T i ei)).symm.trans l)),λb f=>k_ (h.fl b f) hg.size,h.j0,λb e cap n x=>?_⟩,ev⟩
 rotate_right 1
 ·refine(h.junk b e cap n x).imp id λq=>?_;have hns:s'.ownBlock≠some b:=λy=>by
   obtain z|z:=hat
   ·exact q.own k (P.trans (z ▸ y))
   ·rw[z]at y;injection y with y;have:=q.lt;omega
  refine q.keep (hg.block b q.lt λy=>q.own k (P.trans y.symm)) (λo y=>?_) λi y=>?_
  ·obtain y|⟨y,_⟩:=y
   ·exact y
   ·exact absurd y hns
  ·by_cases ei:i=k
   ·subst ei;rw[hobk2]at y;exact absurd y hns
   ·exact(fA (R i ei) rfl (T i ei)).symm.trans y
 rotate_left 5
 ·have r:i≠k:=λe=>by subst e;have:=new.symm.trans J;injection this with this;cases this
  have hi':=(R i r).symm.trans J;obtain⟨xs1,h1,hrep,h2⟩:=h.mrow i t1 e1 v1 l1 hi';have hoi:obk c i=(c.rv i).ownBlock:=by unfold obk;rw[hi']
  refine⟨xs1, ?_,hrep.mono ev.st ev.cell,λb l o x=>?_⟩
  ·rw[T i r];refine h1.kept hg ?_;cases l:(c.rv i).ownBlock with
   |none=>exact .inl rfl
   |some b=>exact .inr (blkne i b r (hoi.trans l))
  ·rw[T i r]at l;obtain x|⟨x,_⟩:=x
   ·exact h2 b l o x
   ·exact free i b r x (hoi.trans l)
 ·intro b o x;obtain x|⟨x,_⟩:=x
  ·exact k_ (h.bnd _ _ x) hg.size
  ·exact(hbn b x).1
 ·intro b o x;obtain x|⟨x,_⟩:=x
  ·exact h.stN _ _ x
  ·exact .inr ⟨(hbn b x).2,hnF b x⟩
 ·intro i cs J;have r:i≠k:=λe=>by subst e;have:=new.symm.trans J;injection this with this;cases this
  have J:=(R i r).symm.trans J;obtain⟨a1,t1,h1,h2,h3,h4⟩:=h.box i cs J;have hoi:obk c i=some (c.blk i):=by unfold obk;rw[J]
  refine⟨a1,t1,(hg.block _ (η.1 h1).1 (blkne i _ r hoi)).trans h1,h2,λo x=>?_,h4.mono ev⟩;obtain x|⟨x,_⟩:=x
  ·exact h3 o x
  ·exact free i _ r x hoi
 ·intro i t1 e1 v1 J;by_cases r:i=k
  ·subst r;have:=new.symm.trans J;injection this with this;injection this with q1 q2 q3;subst q1;subst q2;subst q3;refine⟨n+m,xs++news,by rw[rvn];exact ho',λb l o hle x=>?_⟩;rw[rvn]at l;obtain x|⟨_,x⟩:=x
   ·obtain y|y:=hat
    ·exact hsp b (y ▸ l) o (Θ (g_ _ Ω) hle) x
    ·have:=h.bnd _ _ x;rw[y]at l;injection l with l;omega
   ·omega
  ·have hi':=(R i r).symm.trans J;obtain⟨n1,xs1,h1,h2⟩:=h.row i t1 e1 v1 hi';have hoi:obk c i=(c.rv i).ownBlock:=by unfold obk;rw[hi']
   refine⟨n1,xs1, ?_,λb l o hle x=>?_⟩
   ·rw[T i r];refine h1.kept hg ?_;cases l:(c.rv i).ownBlock with
    |none=>exact .inl rfl
    |some b=>exact .inr (blkne i b r (hoi.trans l))
   ·rw[T i r]at l;obtain x|⟨x,_⟩:=x
    ·exact h2 b l o hle x
    ·exact free i b r x (hoi.trans l)
 ·intro i j b hij l U;have hobn:∀i,i≠k→obk c' i=obk c i:=λi J=>fA (R i J) rfl (T i J);have hobk':obk c' k=s'.ownBlock:=by unfold obk;rw[new];show(c'.rv k).ownBlock=_;rw[rvn]
  by_cases ei:i=k
  ·subst ei;have hj:j≠i:=λe=>hij e.symm;rw[hobk']at l;rw[hobn j hj]at U;exact free j b hj l U
  ·rw[hobn i ei]at l;by_cases ej:j=k
   ·subst ej;rw[hobk']at U;exact free i b ei U l
   ·rw[hobn j ej]at U;exact h.sep i j b hij l U
def Inv.obj (h:Inv B C p c){ho':HO}{r':Value}(hlt:k<c.heap.length)
  (hg:c.w.grownBy w' (obk c k)) (hdr:dz c.w≤dz w') (hs:c.St.le St') (hj:∀b e cap n,St'.j b e cap n→c.St.j b e cap n)
  (hn:∀b o,St' b o→c.St b o∨((obk c k=some b∨c.w.heap.size≤b)∧b<w'.heap.size))
  (hcell:∀(a:Addr) v,c.St a.block a.off→a.spot=none→c.w.cell? a=some v→w'.cell? a=some v)
  (hk:c.heap[k]? = some .none∨∃t e v l,c.heap[k]? = some (.mrow t e v l)∧((∃v' l',ho' = .mrow t e v' l'∧v≤v'∧(v'=v→r'=c.rv k))∨ho' = .dead))
  (hho:ho' = .dead∨∃t e v l,ho' = .mrow t e v l∧(r'.ownBlock=none∨r'.ownBlock=obk c k∨r'.ownBlock=some c.w.heap.size)∧∃xs,w'.ownsRow B e t.size r' l.length xs∧Rep w' St' (chain (toD t) l) xs∧∀b,r'.ownBlock=some b→∀o,¬St' b o) :
  let c':Gh:={ c with heap:=c.heap.set k ho',w:=w',St:=St',rv:=λi=>if i=k then r' else c.rv i }
  Inv B C p c'∧Ev c c':=by
 intro c';have T:∀i,i≠k→c'.heap[i]? = c.heap[i]?:=λi J=>by show(c.heap.set k _)[i]? = _;rw[get_set,B' (λe=>J e.symm)]
 have new:c'.heap[k]? = some ho':=by show(c.heap.set k _)[k]? = _;rw[get_set,β rfl,β hlt]
 have rvo:∀i,i≠k→c'.rv i=c.rv i:=λi J=>B' J;have rvn:c'.rv k=r':=β rfl;have nbox:∀cells,c.heap[k]? ≠ some (.box cells):=λcells q=>by obtain x|⟨_,_,_,_,x,_⟩:=hk <;> rw[x]at q <;> cases q
 have nrow:∀t e v,c.heap[k]? ≠ some (.row t e v):=λt e v q=>by obtain x|⟨_,_,_,_,x,_⟩:=hk <;> rw[x]at q <;> cases q
 have ndead:c.heap[k]? ≠ some .dead:=λq=>by obtain x|⟨_,_,_,_,x,_⟩:=hk <;> rw[x]at q <;> cases q
 have ev:Ev c c':=by
  refine⟨hs,hcell,λi cs x=>?_,λi t e v x=>?_,λi t e v l x=>?_,λi x=>?_,λ_ _=>rfl⟩
  ·have J:i≠k:=λe=>nbox cs (e ▸ x);exact⟨cs,(T i J).trans x,rfl⟩
  ·have J:i≠k:=λe'=>nrow t e v (e' ▸ x);exact⟨t,e,v,(T i J).trans x,ζ _,λ_=>rvo i J⟩
  ·by_cases J:i=k
   ·subst J;obtain y|⟨t1,e1,v1,l1,y,z⟩:=hk
    ·rw[y]at x;cases x
    ·rw[y]at x;injection x with x;injection x with x1 x2 x3 x4;subst x1;subst x2;subst x3;rcases z with⟨v',l',z1,z2,z3⟩|z
     ·exact .inl ⟨v',l',by rw[new,z1],z2,λe=>by rw[rvn];exact z3 e⟩
     ·exact .inr (by rw[new,z])
   ·exact .inl ⟨v,l,(T i J).trans x,ζ _,λ_=>rvo i J⟩
  ·have J:i≠k:=λe=>ndead (e ▸ x);exact(T i J).trans x
 have hobk:obk c' k=none∨obk c' k=obk c k∨obk c' k=some c.w.heap.size:=by
  obtain rfl|⟨t,e,v,l,rfl,x,_⟩:=hho
  ·left;unfold obk;rw[new]
  ·have:obk c' k=r'.ownBlock:=by unfold obk;rw[new];show(c'.rv k).ownBlock=_;rw[rvn]
   rw[this];exact x
 have hobn:∀i,i≠k→obk c' i=obk c i:=λi J=>fA (T i J) rfl (rvo i J);have ne:∀i b,i≠k→obk c i=some b→some b≠obk c k:=λi b J r e=>h.sep i k b J r e.symm;have hlow:∀b,obk c k=some b∨c.w.heap.size≤b→B≤b:=λb r=>by
  obtain r|r:=r
  ·exact(fF h r).2
  ·exact Θ h.size r
 have fresh:∀i b o,i≠k→obk c i=some b→St' b o→c.St b o:=λi b o J r x=>by
  obtain x|⟨x|x,_⟩:=hn b o x
  ·exact x
  ·exact absurd x (h.sep i k b J r)
  ·have:=(fF h r).1;omega
 refine⟨⟨?_,Θ h.size hg.size, ?_,h.st0.trans hs, ?_, ?_, ?_, ?_, ?_,h.drawn.trans (Og.of_grown hg (λb r=>HI h r) hdr (λb f=>⟨h.fl b f,λe=>h.fo k b e.symm f⟩)),λi b r f=>(by
  by_cases ei:i=k
  ·subst ei;obtain x|x|x:=hobk <;> rw[x]at r
   ·cases r
   ·exact h.fo i b r f
   ·injection r with r;have:=h.fl b f;omega
  ·rw[hobn i ei]at r;exact h.fo i b r f),λb f=>k_ (h.fl b f) hg.size,h.j0,λb e cap n x=>?_⟩,ev⟩
 rotate_right 1
 ·refine(h.junk b e cap n (hj b e cap n x)).imp id λq=>q.keep (hg.block b q.lt λy=>q.own k y.symm) (λo y=>?_) λi y=>?_
  ·obtain y|⟨y|y,_⟩:=hn b o y
   ·exact y
   ·exact absurd y (q.own k)
   ·have:=q.lt;omega
  ·by_cases ei:i=k
   ·subst ei;obtain z|z|z:=hobk <;> rw[z]at y
    ·cases y
    ·exact y
    ·injection y with y;have:=q.lt;omega
   ·rw[hobn i ei]at y;exact y
 ·exact h.below.grown hg h.size (λg hg'=>(fF h hg').2)
 ·intro b o x;obtain x|x:=hn b o x
  ·exact k_ (h.bnd _ _ x) hg.size
  ·exact x.2
 ·intro b o x;obtain x|x:=hn b o x
  ·exact h.stN _ _ x
  ·refine .inr ⟨hlow b x.1,λf=>?_⟩;obtain y|y:=x.1
   ·exact h.fo k b y f
   ·have:=h.fl b f;omega
 ·intro i cs J;have P:i≠k:=λe=>by subst e;have:=new.symm.trans J;injection this with this;obtain y|⟨_,_,_,_,y,_⟩:=hho <;> rw[y]at this <;> cases this
  have J:=(T i P).symm.trans J;obtain⟨a1,t1,h1,h2,h3,h4⟩:=h.box i cs J;have U:obk c i=some (c.blk i):=by unfold obk;rw[J]
  exact⟨a1,t1,(hg.block _ (η.1 h1).1 (ne i _ P U)).trans h1,h2,λo x=>h3 o (fresh i _ o P U x),h4.mono ev⟩
 ·intro i t1 e1 v1 J;have P:i≠k:=λe=>by subst e;have:=new.symm.trans J;injection this with this;obtain y|⟨_,_,_,_,y,_⟩:=hho <;> rw[y]at this <;> cases this
  have J:=(T i P).symm.trans J;obtain⟨n1,xs1,h1,h2⟩:=h.row i t1 e1 v1 J;have U:obk c i=(c.rv i).ownBlock:=by unfold obk;rw[J]
  refine⟨n1,xs1, ?_,λb r o hle x=>?_⟩
  ·rw[rvo i P];refine h1.kept hg ?_;cases r:(c.rv i).ownBlock with
   |none=>exact .inl rfl
   |some b=>exact .inr (ne i b P (U.trans r))
  ·rw[rvo i P]at r;exact h2 b r o hle (fresh i b o P (U.trans r) x)
 ·intro i j b hij r R;by_cases ei:i=k
  ·subst ei;have hj:j≠i:=λe=>hij e.symm;rw[hobn j hj]at R;obtain x|x|x:=hobk <;> rw[x]at r
   ·cases r
   ·exact h.sep i j b hij r R
   ·injection r with r;have:=(fF h R).1;omega
  ·rw[hobn i ei]at r;by_cases ej:j=k
   ·subst ej;obtain x|x|x:=hobk <;> rw[x]at R
    ·cases R
    ·exact h.sep i j b hij r R
    ·injection R with R;have:=(fF h r).1;omega
   ·rw[hobn j ej]at R;exact h.sep i j b hij r R
 ·intro i t1 e1 v1 l1 J;by_cases P:i=k
  ·subst P;have e:=new.symm.trans J;injection e with e;obtain y|⟨t,e',v,l,y,_,xs,z1,z2,z3⟩:=hho
   ·rw[y]at e;cases e
   ·rw[y]at e;injection e with q1 q2 q3 q4;subst q1;subst q2;have q4:=ai2 q4;subst q4;exact⟨xs,by rw[rvn];exact z1,z2,by rw[rvn];exact z3⟩
  ·have J:=(T i P).symm.trans J;obtain⟨xs1,h1,hrep,h2⟩:=h.mrow i t1 e1 v1 l1 J;have U:obk c i=(c.rv i).ownBlock:=by unfold obk;rw[J]
   refine⟨xs1, ?_,hrep.mono ev.st ev.cell,λb r o x=>?_⟩
   ·rw[rvo i P];refine h1.kept hg ?_;cases r:(c.rv i).ownBlock with
    |none=>exact .inl rfl
    |some b=>exact .inr (ne i b P (U.trans r))
   ·rw[rvo i P]at r;exact h2 b r o (fresh i b o P (U.trans r) x)
end
end Abs
namespace Abs
open Go Go.RowKit
def zl:Ty→List Value
 |.int k=>[.int k 0]
 |.bool=>[.bool false]
 |.str=>[.string ⟨#[]⟩]
 |.slice _=>[.slice none 0 0]
 |.unit=>[]
 |.cons a b=>zl a++zl b
 |.tree=>[.int .i64 0,.string ⟨#[]⟩,.slice none 0 0,.slice none 0 0]
 |.jsl _=>[.slice none 0 0]
def sC:TypeDesc→Bool
 |.struct _|.array _ _=>false
 |_=>true
def FOk (ty:TypeId→Option Ty):List Field→List Ty→Nat→Prop
 |[],[],_=>True
 |f::fs,a::as,off=>(∃b,ty f.type=some b∧b.size=a.size∧b.isStruct=a.isStruct∧(a.nojk=true→b=a))∧f.offset=off∧0<a.size∧f.name ≠ "_" ∧ FOk ty fs as (off+a.size)
 |_,_,_=>False
def T1 (P:Program)(f:Tab)(t:TypeId):Ty→Prop
 |.int k=>P.underlying t=some (.int k)
 |.bool=>P.underlying t=some .bool
 |.str=>P.underlying t=some .string
 |.slice a=>∃e,P.underlying t=some (.slice e)∧f.ty e=some a∧f.elem t=some e∧0<a.size
 |.jsl e=>∃a,P.underlying t=some (.slice e)∧f.ty e=some a∧a.size=1∧f.elem t=some e
 |j=>∃g,P.underlying t=some (.struct g)∧P.stoodInHeld t=false∧P.eqGuardType P.depth t=false∧FOk f.ty g.toList j.fields 0
structure TabOk (P:Program)(tab:Tab):Prop where
 ty:∀t τ,tab.ty t=some τ→∃i z,P.info? t=some i∧i.size=τ.size∧i.zero=some z∧z.cells.toList=zl τ∧i.bytes≤16384∧(τ.isStruct=true→∃cs,z = .agg cs)∧T1 P tab t τ
 cells:∀t n,tab.cells t=some n→∃i z d,P.info? t=some i∧i.size=n∧i.zero=some z∧z.cells.size=n∧P.underlying t=some d∧(tab.ty t=none→n=1→sC d=true)
 offs:∀t i d,tab.offs t i=some d→∃fs f j,P.underlying t=some (.struct fs)∧fs[i]? = some f∧f.offset=d∧P.info? f.type=some j∧0<j.size
 elem:∀t e,tab.elem t=some e→P.underlying t=some (.slice e)
 one:∀t n,tab.one t=some n→∃fs i z,P.underlying t=some (.struct fs)∧fs.size=n∧(∀(k:Nat) f,fs[k]? = some f→f.offset=k∧∃j,P.info? f.type=some j∧j.size=1)∧P.info? t=some i∧i.zero=some z∧z.cells.size=n
 arr:∀t n,tab.arr t=some n→∃e i z j,P.underlying t=some (.array n e)∧P.info? e=some j∧j.size=1∧P.info? t=some i∧i.zero=some z∧z.cells.size=n
section
variable {P:Program}{tab:Tab}
variable{t:TypeId}{τ:Ty}
def f0 (g:τ.isStruct=true)(h:T1 P tab t τ):∃f,P.underlying t=some (.struct f)∧P.stoodInHeld t=false∧P.eqGuardType P.depth t=false∧FOk tab.ty f.toList τ.fields 0:=by cases τ <;> simp[Ty.isStruct]at g <;> exact h
def cD (p:TabOk P tab)(h:tab.ty t=some τ)(w:World):(isAgg t).run P w = .ok τ.isStruct w:=by
 obtain⟨i,z,_,_,_,_,_,_,f⟩:=p.ty t τ h;cases τ with
 |slice a=>obtain⟨e,j,_⟩:=f;simp[isAgg,ε j,Ty.isStruct]
 |jsl e=>obtain⟨a,j,_⟩:=f;simp[isAgg,ε j,Ty.isStruct]
 |int k=>have f:P.underlying t=some (.int k):=f;simp[isAgg,ε f,Ty.isStruct]
 |bool=>have f:P.underlying t=some .bool:=f;simp[isAgg,ε f,Ty.isStruct]
 |str=>have f:P.underlying t=some .string:=f;simp[isAgg,ε f,Ty.isStruct]
 |unit=>obtain⟨l,g,_⟩:=f;simp[isAgg,ε g,Ty.isStruct]
 |cons a b=>obtain⟨l,g,_⟩:=f;simp[isAgg,ε g,Ty.isStruct]
 |tree=>obtain⟨l,g,_⟩:=f;simp[isAgg,ε g,Ty.isStruct]
def az (f:TabOk P tab)(h:tab.ty t=some τ)(w:World):(sizeOf t).run P w = .ok τ.size w:=by obtain⟨i,z,j,g,_⟩:=f.ty t τ h;simp[sizeOf,typeInfo,j,g]
def qu (h:τ.isStruct=false):τ.size=1:=by cases τ <;> simp[Ty.isStruct]at h <;> rfl
def cB (p:TabOk P tab)(h:tab.ty t=some τ)(w:World)(l:Addr)(f:List Value)(g:f.length=τ.size)(r:∀j u,f[j]? = some u→w.cell? (l.add j)=some u) :
  ∃v,(loadVar t l).run P w = .ok v w∧(if τ.isStruct then v = .agg f.toArray else f=[v]):=by
 simp[loadVar,ξ,cD p h];cases C:τ.isStruct with
 |true =>simp[ξ,az p h];rw[←g,T? (P:=P) w l f r];simp
 |false=>
  have J:=qu C;rw[J]at g;match f,g with
  |[u],_ =>have:=r 0 u rfl;rw[add_zero]at this;simp[run_load,this]
def fO {w:World}{St:Sb}{x:τ.den}{g:List Value}{v:Value}(h:Rep w St (toD τ x) g)(f:if τ.isStruct then v = .agg g.toArray else g=[v]):RepV w St τ x v:=by
 unfold RepV;split
 next hs=>simp[hs]at f;exact⟨g,f,h⟩
 next hs=>simp only[hs]at f;simp at f;rw[f]at h;exact h
end
section
variable {P:Program}{tab:Tab}{B:Bd}{R:World}{J:Sb}{c:Gh}{o:Oper}{a:Act}
def Ok (P:Program)(B:Bd)(R:World)(J:Sb)(o:Oper)(a:Act)(c:Gh)(f:List HO)(out:AV):Prop :=
 ∀(K:Act→World→Prop) (Q:Exit→Act→World→Prop),(∀v g,g.heap=f→Inv B R J g→Ev c g→RA g out [v]→K (a.put o.dst v) g.w)→o.wp P a c.w K Q
variable{v:Value}{out u:AV}{x:Operand}{w:World}{St:Sb}{b:Bool}{t:TypeId}{fresh k off:Nat}{τ:Ty}{d:TypeDesc}
def db {g:Gh}{f:List HO}(j:(execOp a.eval o).run P c.w = .ok (.value v) g.w)(r:g.heap=f)(p:Inv B R J g)(C:Ev c g)(l:RA g out [v]) :
  Ok P B R J o a c f out:=λK Q h=>by
 unfold Oper.wp;rw[j];exact h v g r p C l
def ao (j:Inv B R J c)(f:(execOp a.eval o).run P c.w = .ok (.value v) c.w)(g:RA c out [v]):Ok P B R J o a c c.heap out :=
 db f rfl j (Ev.refl c) g
def SH (j:Inv B R J c)(f:o.op = .move x∨o.op = .assign x)(g:RA c u [a.eval x]):Ok P B R J o a c c.heap u:=by refine ao j (v:=a.eval x) ?_ g;unfold execOp;obtain f|f:=f <;> simp[f]
def RA.val_inv {t:Ty}{x:t.den}(h:RA c (.val t x) [v]):RepV c.w c.St t x v:=by obtain⟨v',e,h⟩:=h;simp at e;subst e;exact h
def fM (h:RepV w St .bool b v):v = .bool b:=by have h:=(repv_cell rfl).1 h;obtain⟨h,_⟩:=h;simpa using h
def da {k:IntKind}{n:Int}(h:RepV w St (.int k) n v):v = .int k n:=by have h:=(repv_cell rfl).1 h;obtain⟨h,_⟩:=h;simpa using h
def xQ {s:Str}(h:RepV w St .str s v):v = .string ⟨s.toArray⟩:=by have h:=(repv_cell rfl).1 h;obtain⟨h,_⟩:=h;simpa using h
def Mu (w:World)(St:Sb)(b:Bool):RepV w St .bool b (.bool b):=(repv_cell rfl).2 ⟨rfl,rfl⟩
def P1 (w:World)(St:Sb)(k:IntKind)(n:Int):RepV w St (.int k) n (.int k n):=(repv_cell rfl).2 ⟨rfl,rfl⟩
def P0 (w:World)(St:Sb)(s:Str):RepV w St .str s (.string ⟨s.toArray⟩):=(repv_cell rfl).2 ⟨rfl,rfl⟩
def bZ (b:Bool):RA c (.val .bool b) [.bool b]:=⟨_,rfl,Mu _ _ b⟩
def cU (k:IntKind)(n:Int):RA c (.val (.int k) n) [.int k n]:=⟨_,rfl,P1 _ _ k n⟩
def zQ (s:Str):RA c (.val .str s) [.string ⟨s.toArray⟩]:=⟨_,rfl,P0 _ _ s⟩
def vQ {f:Bool}(h:RA c u [v])(j:(ya f u).1=true)(l:f=true):RA c (ya f u).2 [v]:=by
 unfold ya at *;split at j
 next g u'=>have j:be f g=true:=j;rw[l,ua]at j;simp[RA,j]at h;exact h
 ·exact h
def JV {y z:Operand}(U:Inv B R J c)(T:o.op = .pick x y z){p q:AV}(j:RA c (.val .bool b) [a.eval x])(g:b=true→RA c p [a.eval y])(f:b=false→RA c q [a.eval z])
  {t:Ty} {s r:t.den} (C:p = .val t s) (l:q = .val t r):Ok P B R J o a c c.heap (.val t (bif b then s else r)):=by
 subst C;subst l;have hb:=fM j.val_inv;refine ao U (v:=if b then a.eval y else a.eval z) ?_ ?_
 ·unfold execOp;simp[T,hb,asBool]
 ·cases b
  ·exact f rfl
  ·exact g rfl
def dn {w:World}{St:Sb}:∀t:Ty,Rep w St (toD t (zero t)) (zl t)
 |.int _=>⟨rfl,rfl⟩
 |.bool=>⟨rfl,rfl⟩
 |.str=>⟨rfl,rfl⟩
 |.slice _=>⟨none,0,0,rfl,rfl,ζ _,.inl rfl⟩
 |.jsl _=>⟨none,0,rfl,.inl ⟨rfl,rfl,rfl⟩⟩
 |.unit=>rfl
 |.cons a b=>⟨_,_,rfl,dn a,dn b⟩
 |.tree=>⟨[.int .i64 0],_,rfl,⟨rfl,rfl⟩,[.string ⟨#[]⟩],_,rfl,⟨rfl,rfl⟩,[.slice none 0 0],_,rfl,⟨none,0,0,rfl,rfl,ζ _,.inl rfl⟩,[.slice none 0 0],_,rfl,⟨none,0,0,rfl,rfl,ζ _,.inl rfl⟩,rfl⟩
def mM:∀t:Ty,RAs c (AF t) (zl t)
 |.int k=>⟨cU k 0,ans⟩
 |.bool=>⟨bZ false,ans⟩
 |.str=>⟨zQ [],ans⟩
 |.slice _=>⟨rfl,ans⟩
 |.jsl _=>⟨rfl,ans⟩
 |.unit=>trivial
 |.cons a b=>(mM a).append (mM b)
 |.tree=>⟨cU .i64 0,zQ [],rfl,rfl,ans⟩
def Kc (j:Inv B R J c)(p:c.heap[fresh]? = some .none){arr:Array Value}{cells:List AV}(P:RAs c cells arr.toList) :
  ∃l,l.w=c.w.alloc (.cells arr t)∧l.heap=c.heap.set fresh (.box cells)∧Inv B R J l∧Ev c l∧RA l (.box fresh 0) [.pointer (some ⟨c.w.heap.size,0,none⟩)]:=by
 obtain⟨U,r⟩:=j.grow (w':=c.w.alloc (.cells arr t)) (St':=c.St) ((Below.refl _ _).alloc (ζ _) _) (Sb.le.refl _) (λ_ _ x=>.inl x) (ζ _) (λ_ _ _ _ x=>.inl x);obtain⟨T,e2⟩:=U.addBox (k:=fresh) (g:=c.w.heap.size) (arr:=arr) (t:=t) (cells:=cells) p (z_ c.w _) j.size (λf=>by have:=j.fl _ f;omega)
  (λo x=>by have:=j.bnd _ _ x;omega) (λC x=>by have:=(fF j (k:=C) x).1;omega) (λe cap n x=>(j.junk _ e cap n x).resolve_right λq=>Nat.lt_irrefl _ q.lt) (P.mono r)
 refine⟨_,rfl,rfl,T,r.trans e2,cells, ?_, ?_⟩
 ·show(c.heap.set fresh _)[fresh]? = _;rw[get_set,β rfl,β (ak p)]
 ·simp
def DW (p:Inv B R J c)(f:TabOk P tab)(l:o.op = .alloc t)(C:c.heap[fresh]? = some .none)(j:tab.ty t=some τ) :
  Ok P B R J o a c (c.heap.set fresh (.box (AF τ))) (.box fresh 0):=by
 obtain⟨i,z,h1,h2,h3,h4,_⟩:=f.ty t τ j;obtain⟨c',g,r,U,hE,T⟩:=Kc (t:=t) p C (arr:=z.cells) (cells:=AF τ) (by rw[h4];exact mM τ);refine db (v :=.pointer (some ⟨c.w.heap.size,0,none⟩)) ?_ r U hE T;rw[g];unfold execOp;simp[l,Instr.alloc,zeroValue,typeInfo,h1,h3,newVar,newRow]
def Cx:∀{n:Nat} {f:List Value},f.length=n→RAs c (List.replicate n .unk) f
 |0,[],_=>trivial
 |n+1,v::f,h=>⟨⟨v,rfl⟩,Cx (by simpa using h)⟩
def J7 (p:Inv B R J c)(f:TabOk P tab)(l:o.op = .alloc t)(C:c.heap[fresh]? = some .none){n:Nat}(j:tab.cells t=some n) :
  Ok P B R J o a c (c.heap.set fresh (.box (List.replicate n .unk))) (.box fresh 0):=by
 obtain⟨i,z,d,h1,h2,h3,h4,_⟩:=f.cells t n j;obtain⟨c',g,r,U,hE,T⟩:=Kc (t:=t) p C (arr:=z.cells) (cells:=List.replicate n .unk) (Cx (by simpa using h4));refine db (v :=.pointer (some ⟨c.w.heap.size,0,none⟩)) ?_ r U hE T;rw[g];unfold execOp;simp[l,Instr.alloc,zeroValue,typeInfo,h1,h3,newVar,newRow]
def oG (h:RA c u [v])(R:u.solid=true) :
  RAs c (cellsOf u) v.cells.toList∧∀x∈v.cells.toList,x.oneCell'=true:=by
 cases u with
 |unk=>simp[AV.solid]at R
 |cond g u=>simp[AV.solid]at R
 |tup p=>simp[AV.solid]at R
 |pcons a b=>simp[AV.solid]at R
 |pnil=>simp[AV.solid]at R
 |fix C w=>simp[AV.solid]at R
 |val t x=>exact⟨wT h.val_inv.cells,h.val_inv.cells.one⟩
 |nil =>have h:[v]=[.slice none 0 0]:=h;simp at h;subst h;exact⟨⟨rfl,ans⟩,by simp[Value.cells,Value.oneCell']⟩
 |own k n t l =>have J:=h;obtain⟨s,e,r,_⟩:=h;simp at e;subst e;have P:=((repv_cell (t :=.slice t) rfl).1 r);obtain⟨A,n',cp,e,_⟩:=P;simp at e;subst e;exact⟨⟨J,ans⟩,by simp[Value.cells,Value.oneCell']⟩
 |ref t x =>have J:=h;obtain⟨ad,ds,e,_⟩:=h;simp at e;subst e;exact⟨⟨J,ans⟩,by simp[Value.cells,Value.oneCell']⟩
 |box k off =>have J:=h;obtain⟨U,_,e⟩:=h;simp at e;subst e;exact⟨⟨J,ans⟩,by simp[Value.cells,Value.oneCell']⟩
 |fn f caps =>have J:=h;obtain⟨U,e,_⟩:=h;simp at e;subst e;exact⟨⟨J,ans⟩,by simp[Value.cells,Value.oneCell']⟩
 |agg p =>obtain⟨U,e,r,P,h1⟩:=h;simp at e;subst e;exact⟨by simpa[Value.cells,cellsOf]using r.parts P,by simpa[Value.cells]using h1⟩
 |msl k n lo hi=>
  have J:=h;obtain⟨s,e,T,_⟩:=h;simp at e;subst e;have P:v.cells = #[v]:=by cases v <;> simp_all[Value.oneCell',Value.cells]
  rw[P];exact⟨⟨J,ans⟩,by simpa using T⟩
 |yld j =>have J:=h;obtain⟨_,e⟩:=h;simp at e;subst e;exact⟨⟨J,ans⟩,by simp[Value.cells,Value.oneCell']⟩
 |mpt k n i off=>
  have J:=h;obtain⟨s,e,T,_⟩:=h;simp at e;subst e;have P:v.cells = #[v]:=by cases v <;> simp_all[Value.oneCell',Value.cells]
  rw[P];exact⟨⟨J,ans⟩,by simpa using T⟩
def Qv (r:Inv B R J c)(p:o.op = .box t x)(T:c.heap[fresh]? = some .none)(g:RA c u [a.eval x])
  (j:u.solid=true) :
  Ok P B R J o a c (c.heap.set fresh (.box (cellsOf u))) (.box fresh 0):=by
 obtain⟨l,_⟩:=oG g j;obtain⟨c',f,C,hI,hE,U⟩:=Kc (t:=t) r T l;refine db (v :=.pointer (some ⟨c.w.heap.size,0,none⟩)) ?_ C hI hE U;rw[f];unfold execOp;simp[p,Instr.box,newVar,newRow]
def pU (p:Inv B R J c){cells:List AV}(l:c.heap[k]? = some (.box cells)) :
  ∃f t,c.w.heap[c.blk k]? = some (.cells f t (0,0))∧RAs c cells f.toList∧∀j,c.w.cell? ⟨c.blk k,j,none⟩=f.toList[j]?:=by
 obtain⟨f,t,g,_,_,r⟩:=p.box k cells l;refine⟨f,t,g,r,λj=>?_⟩;rw[ajq c.w (c.blk k) j f t (0,0) g];simp
def cN (b off j:Nat):(⟨b,off,none⟩:Addr).add j=⟨b,off+j,none⟩:=by unfold Addr.add;split <;> simp_all
def DT (r:Inv B R J c)(C:TabOk P tab)(ho:o.op = .load t x)(U:RA c (.box k off) [a.eval x]){cells:List AV}(hk:c.heap[k]? = some (.box cells))
  (ht:tab.ty t=some τ) {y:τ.den} (T:asm τ ((cells.drop off).take τ.size)=some y):Ok P B R J o a c c.heap (.val τ y):=by
 obtain⟨cs,hk',e⟩:=U;obtain⟨arr,t',h1,h2,h3⟩:=pU r hk;have f:=pZ T ((h2.drop off).take τ.size);obtain⟨v,l,g⟩:=cB C ht c.w ⟨c.blk k,off,none⟩ _ f.size (λj u p=>by
  rw[cN,h3,←p,K'];have hj:j<τ.size:=by
   obtain h|h:=d_ j τ.size
   ·exact h
   ·rw[K',B' Ω]at p;cases p
  rw[β hj,b_])
 refine ao r (v:=v) ?_ ⟨v,rfl,fO f g⟩;unfold execOp;simp at e;simp[ho,e,Instr.loadAt,Instr.sureAddr,l]
def zN (j:P.underlying t=some d)(g:sC d=true)(w:World)(f:Addr)(u:Value)(l:w.cell? f=some u):(loadVar t f).run P w = .ok u w:=by
 have:(isAgg t).run P w = .ok false w:=by cases d <;> simp[isAgg,ε j,sC]at g⊢
 simp[loadVar,this,run_load,l]
def ye (j:Inv B R J c)(r:o.op = .load t x)(l:RA c (.box k off) [a.eval x]){cells:List AV}(U:c.heap[k]? = some (.box cells))(hd:P.underlying t=some d)
  (C:sC d=true) {u:AV} (p:cells[off]? = some u):Ok P B R J o a c c.heap u:=by
 obtain⟨cs,T,e⟩:=l;obtain⟨arr,t',h1,h2,h3⟩:=pU j U;obtain⟨v,g,f⟩:=h2.get off u p;refine ao j (v:=v) ?_ f;unfold execOp;simp at e;simp[r,e,Instr.loadAt,Instr.sureAddr,zN hd C c.w ⟨c.blk k,off,none⟩ v ((h3 off).trans g)]
def CN (g:τ.isStruct=false)(h:T1 P tab t τ):∃d,P.underlying t=some d∧sC d=true:=by
 cases τ with
 |int k=>exact⟨_,h,rfl⟩
 |bool=>exact⟨_,h,rfl⟩
 |str=>exact⟨_,h,rfl⟩
 |slice t=>obtain⟨e,f,_⟩:=h;exact⟨_,f,rfl⟩
 |jsl e=>obtain⟨a,f,_⟩:=h;exact⟨_,f,rfl⟩
 |_=>simp[Ty.isStruct]at g
def M6 (hi:Inv B R J c)(p:TabOk P tab)(U:o.op = .load t x){y:τ.den}(r:RA c (.ref τ y) [a.eval x])(T:tab.ty t=some τ):Ok P B R J o a c c.heap (.val τ y):=by obtain⟨ad,ds,e,hs,l,hc⟩:=r;obtain⟨v,g,f⟩:=cB p T c.w ad ds l.size (λj u C=>(hc j u C).1);refine ao hi (v:=v) ?_ ⟨v,rfl,fO l f⟩;unfold execOp;simp at e;simp[U,e,Instr.loadAt,Instr.sureAddr,g]
def DS (hi:Inv B R J c)(tk:TabOk P tab){y:Operand}(ho:o.op = .store t x y)(hx:RA c (.box k off) [a.eval x])(hy:RA c u [a.eval y]){cells:List AV}(hk:c.heap[k]? = some (.box cells))
  (hu:u.solid=true) (hoff:off+(cellsOf u).length≤cells.length) (ht:tab.cells t=some (cellsOf u).length) :
  Ok P B R J o a c (c.heap.set k (.box (du cells off (cellsOf u)))) .unk:=by
 obtain⟨hr,h1c⟩:=oG hy hu;obtain⟨cs,hk',e⟩:=hx;obtain⟨g,t',h1,h2,h3⟩:=pU hi hk;obtain⟨i,z,d,j,T,_⟩:=tk.cells t _ ht;have r:=h2.length;have f:=hr.length;have C:off+0+(a.eval y).cells.toList.length≤g.size:=by rw[←f];simp at r;omega
 have l:=j? (P:=P) (c.blk k) off t' (a.eval y).cells.toList 0 g c.w h1 C h1c;obtain⟨hI,hE⟩:=hi.setBox (cells':=du cells off (cellsOf u)) (arr':=(g.toList.take off++(a.eval y).cells.toList++g.toList.drop (off+(a.eval y).cells.toList.length)).toArray) hk h1 (by
  have:=((h2.take off).append hr).append (h2.drop (off+(cellsOf u).length));rw[f]at this;unfold du;rw[f];simpa using this)
 intro K Q h;have p:(execOp a.eval o).run P c.w = .ok .skip (c.w.setRow (c.blk k) (g.toList.take off++(a.eval y).cells.toList++g.toList.drop (off+(a.eval y).cells.toList.length)).toArray):=by
  unfold execOp;simp at e;have U:(a.eval y).cells.size=i.size:=by rw[T,f];simp
  simp at l;simp[ho,e,Instr.storeAt,Instr.sureAddr,storeVar,sizeOf,typeInfo,j,U,l]
 unfold Oper.wp;rw[p];exact h undef _ rfl hI hE ⟨_,rfl⟩
def zX (T:Inv B R J c)(g:TabOk P tab){s:TypeId}{f:Nat}(p:o.op = .fieldAddr s x f){d:Nat}(l:RA c (.box k off) [a.eval x])(U:tab.offs s f=some d) :
  Ok P B R J o a c c.heap (.box k (off+d)):=by
 obtain⟨cs,r,e⟩:=l;obtain⟨fs,fl,j,h1,h2,h3,h4,h5⟩:=g.offs s f d U;refine ao T (v :=.pointer (some ⟨c.blk k,off+d,none⟩)) ?_ ⟨cs,r,rfl⟩;unfold execOp;simp at e;have C:¬j.size=0:=Ω
 simp[p,e,Instr.fieldAt,ε h1,h2,Instr.sureAddr,fieldPlace,sizeOf,typeInfo,h4,C,cN,h3]
end
end Abs
namespace Abs
open Go Go.RowKit
def mi:List Ty→Nat→Nat
 |a::r,i+1=>a.size+mi r i
 |_,_=>0
def FOk.at {ty:TypeId→Option Ty}:∀{fs:List Field} {as:List Ty} {off i:Nat} {b:Ty},FOk ty fs as off→as[i]? = some b →
  ∃f,fs[i]? = some f∧(∃b',ty f.type=some b'∧b'.size=b.size∧b'.isStruct=b.isStruct)∧f.offset=off+mi as i∧0<b.size∧f.name ≠ "_"
 |[],[],_,_,_,_,h=>by simp at h
 |f::fs,x::as,off,i,b,h,hi=>by
  obtain⟨h1,h2,h3,h4,h5⟩:=h;cases i with
  |zero=>simp at hi;subst hi;exact⟨f,rfl,(let ⟨b',q1,q2,q3,_⟩:=h1;⟨b',q1,q2,q3⟩),by simpa[mi]using h2,h3,h4⟩
  |succ i =>simp at hi;obtain⟨g,g1,g2,g3,g4⟩:=FOk.at h5 hi;exact⟨g,by simpa using g1,g2,by rw[g3];simp[mi];omega,g4⟩
def DB {w:World}{St:Sb}:∀{t:Ty} {x:t.den} {i:Nat} {g:Ty} {y:g.den} {C:List Value},pf t x i=some ⟨g,y⟩→Rep w St (toD t x) C →
  t.fields[i]? = some g∧Rep w St (toD g y) ((C.drop (mi t.fields i)).take g.size)
 |.cons a b,x,0,g,y,C,h,r=>by simp only[pf]at h;injection h with h;injection h with l j;subst l;have j:=ai2 j;subst j;obtain⟨c1,c2,rfl,r1,r2⟩:=r;refine⟨rfl, ?_⟩;simp[mi,Ty.fields];rw[←r1.size,Q?];exact r1
 |.cons a b,x,i+1,g,y,C,h,r=>by simp[pf]at h;obtain⟨c1,c2,rfl,r1,r2⟩:=r;obtain⟨l,j⟩:=DB h r2;refine⟨by simpa[Ty.fields]using l, ?_⟩;simp[mi,Ty.fields];rw[←r1.size,a?];exact j
 |.tree,.mk k t ls ks,i,g,y,C,h,r=>by
  simp[toD,rz]at r;obtain⟨c1,c2,rfl,l,c3,c4,rfl,j,c5,c6,rfl,h3,c7,c8,rfl,U,J⟩:=r;have J:c8=[]:=J;subst J;have T:=l;obtain⟨rfl,o1⟩:=l;have R:=j;obtain⟨rfl,o2⟩:=j;have P:=h3;obtain⟨A,n,cp,rfl,_⟩:=h3;have p:=U;obtain⟨A',n',cp',rfl,_⟩:=U;match i with
  |0=>simp only[pf]at h;injection h with h;injection h with e1 f;subst e1;have f:=ai2 f;subst f;exact⟨rfl,T⟩
  |1=>simp only[pf]at h;injection h with h;injection h with e1 f;subst e1;have f:=ai2 f;subst f;exact⟨rfl,R⟩
  |2=>simp only[pf]at h;injection h with h;injection h with e1 f;subst e1;have f:=ai2 f;subst f;exact⟨rfl,P⟩
  |3=>simp only[pf]at h;injection h with h;injection h with e1 f;subst e1;have f:=ai2 f;subst f;rw[iD]at p;exact⟨rfl,p⟩
  |i+4=>simp[pf]at h
 |.int _,_,_,_,_,_,h,_=>by simp[pf]at h
 |.bool,_,_,_,_,_,h,_=>by simp[pf]at h
 |.str,_,_,_,_,_,h,_=>by simp[pf]at h
 |.slice _,_,_,_,_,_,h,_=>by simp[pf]at h
 |.unit,_,_,_,_,_,h,_=>by simp[pf]at h
def sx {t:Ty}{x:t.den}{i:Nat}{y:(f:Ty)×f.den}(h:pf t x i=some y):t.isStruct=true:=by
 cases t <;> first|rfl|simp[pf]at h
section
variable {P:Program}{tab:Tab}{B:Bd}{C:World}{p:Sb}{c:Gh}{o:Oper}{a:Act}
variable{x y:Operand}{f:Nat}{τ:Ty}{t:TypeId}{s:AV}{tt:Option Ty}{v:Value}{l:Str}{k:IntKind}{n:Int}{op:BinOp}{cl:Call}
def zW (hi:Inv B C p c)(tk:TabOk P tab){s:TypeId}(ho:o.op = .fieldAddr s x f){g :Ty}{z:τ.den}{y:g.den}(hx:RA c (.ref τ z) [a.eval x])(ht:tab.ty s=some τ)(hp:pf τ z f=some ⟨g,y⟩) :
  Ok P B C p o a c c.heap (.ref g y):=by
 obtain⟨ad,ds,e,hs,hd,hc⟩:=hx;obtain⟨i,zz,_,_,_,_,_,_,l⟩:=tk.ty s τ ht;obtain⟨fs,h1,_,_,hf⟩:=f0 (sx hp) l;obtain⟨T,r⟩:=DB hp hd;obtain⟨fl,h2,⟨R,h3,U,_⟩,h4,h5,_⟩:=hf.at T;obtain⟨j,_,hj,J,_⟩:=tk.ty fl.type R h3;rw[U]at J;simp at h4;refine ao hi (v :=.pointer (some (ad.add fl.offset))) ?_ ⟨_,_,rfl,(gJ ad hs _).2.2,r,λk u l=>?_⟩
 ·unfold execOp;simp at e;have hz:¬g.size=0:=Ω
  have h2:fs[f]? = some fl:=by simpa using h2
  simp[ho,e,Instr.fieldAt,ε h1,h2,Instr.sureAddr,fieldPlace,sizeOf,typeInfo,hj,J,hz]
 ·have hk:ds[mi τ.fields f+k]? = some u:=by
   rw[K']at l;split at l
   ·rwa[b_]at l
   ·cases l
  obtain⟨g1,g2⟩:=hc _ _ hk;obtain⟨f1,f2,_⟩:=gJ ad hs fl.offset;rw[Cw,f1,f2,h4,O_];exact⟨g1,g2⟩
def Da (R:TabOk P tab){j:Ty}(T:tab.ty t=some j)(J:j.size=τ.size)(C:j.isStruct=τ.isStruct)(w:World){St:Sb}{x:τ.den}(g:Array Value)(f:Nat)(l:Rep w St (toD τ x) ((g.toList.drop f).take τ.size)) :
  ∃v,(part t g f).run P w = .ok v w∧RepV w St τ x v:=by
 simp[part,ξ,cD R T,C];cases r:τ.isStruct with
 |true =>simp only[h?,ξ,az R T,Δ,J];refine⟨_,rfl, ?_⟩;refine fO l ?_;simp[r];congr 1;apply m_;simp
 |false=>
  have h1:=qu r;have U:=l.size;rw[h1]at U l;have p:f<g.size:=by simp at U;omega
  have e:(g.toList.drop f).take 1=[g[f]]:=by rw[aj9 (by simpa using p)];simp
  rw[e]at l;have hg:g[f]? = some g[f]:=by simp[p]
  refine⟨g[f], ?_,(repv_cell r).2 l⟩;simp[hg]
def Yq (hi:Inv B C p c)(tk:TabOk P tab){s:TypeId}(ho:o.op = .field s x f){g :Ty}{z:τ.den}{y:g.den}(hx:RA c (.val τ z) [a.eval x])(ht:tab.ty s=some τ)(J:pf τ z f=some ⟨g,y⟩) :
  Ok P B C p o a c c.heap (.val g y):=by
 have j:=hx.val_inv;unfold RepV at j;rw[β (sx J)]at j;obtain⟨cs,e,hr⟩:=j;obtain⟨i,zz,_,_,_,_,_,_,hu⟩:=tk.ty s τ ht;obtain⟨fs,h1,_,_,hf⟩:=f0 (sx J) hu;obtain⟨R,r⟩:=DB J hr;obtain⟨fl,h2,⟨τb,h3,U,T⟩,h4,h5,_⟩:=hf.at R;simp at h4;obtain⟨v,l,j⟩:=Da tk h3 U T c.w cs.toArray fl.offset (by rw[h4];exact r);refine ao hi (v:=v) ?_ ⟨v,rfl,j⟩;unfold execOp;have h2:fs[f]? = some fl:=by simpa using h2
 simp[ho,e,Instr.field,ε h1,h2,asAgg,l]
def eP {l:List τ.den}(h:wv tt s=some ⟨τ,l⟩)(r:RA c s [v]):tt=some (.slice τ)∧RepV c.w c.St (.slice τ) l v:=by
 unfold wv at h;split at h
 next t=>
  split at h
  next l' g=>injection h with h;injection h with h1 f;subst h1;have f:=ai2 f;subst f;exact⟨rfl,one?_sound g r⟩
  ·cases h
 ·cases h
def rX (h:xD tt s=some l)(r:RA c s [v]):tt=some .str∧v = .string ⟨l.toArray⟩:=by
 unfold xD at h;split at h
 ·exact⟨rfl,xQ (one?_sound h r)⟩
 ·cases h
def JZ (hi:Inv B C p c)(tk:TabOk P tab)(ho:o.op = .indexAddr t x y)(hx:RA c s [a.eval x])(hy:RA c (.val (.int k) n) [a.eval y]){l:List τ.den}
  (hl:wv (tab.ty t) s=some ⟨τ,l⟩) (h0:0≤n) (h1:n<(l.length:Int)):Ok P B C p o a c c.heap (.ref τ (l.getD n.toNat (zero τ))):=by
 obtain⟨ht,hv⟩:=eP hl hx;obtain⟨i,z,_,_,_,_,_,_,f⟩:=tk.ty t _ ht;obtain⟨e,he,U,_,hpos⟩:=f;have hr:=(repv_cell (t :=.slice τ) rfl).1 hv;obtain⟨A,cp,ev,hcap,hds⟩:=dw hr;have hn:n.toNat<l.length:=Ω
 obtain⟨ad,ds,rfl,r,J,g⟩:=hds.resolve_left Ω;have hei:=pT J n.toNat hn;have R:l.getD n.toNat (zero τ)=l[n.toNat]:=by simp[List.getD,δ hn]
 refine ao hi (v :=.pointer (some (ad.add (n.toNat*τ.size)))) ?_ ⟨_,_,rfl,(gJ ad r _).2.2,by rw[R];exact hei,λj u f=>?_⟩
 ·unfold execOp;have T:=da hy.val_inv;simp at ev;simp[ho,T,ev,Instr.indexAt,asIntOf,ε he,h0,h1,az tk U]
 ·rw[K']at f;split at f
  ·rw[b_]at f;obtain⟨g1,g2⟩:=g _ _ f;obtain⟨f1,f2,_⟩:=gJ ad r (n.toNat*τ.size);rw[Cw,f1,f2,O_];exact⟨g1,g2⟩
  ·cases f
def JX (hi:Inv B C p c)(J:TabOk P tab)(ho:o.op = .index t x y)(T:RA c s [a.eval x])(R:RA c (.val (.int k) n) [a.eval y])
  (hl:xD (tab.ty t) s=some l) (h0:0≤n) (h1:n<(l.length:Int)):Ok P B C p o a c c.heap (.val (.int .u8) ((l.getD n.toNat 0).toNat:Int)):=by
 obtain⟨ht,U⟩:=rX hl T;obtain⟨i,z,_,_,_,_,_,_,j⟩:=J.ty t _ ht;have j:P.underlying t=some .string:=j;have r:n.toNat<l.length:=Ω
 have f:l.getD n.toNat 0=l[n.toNat]:=by simp[List.getD,δ r]
 rw[f];refine ao hi (v :=.int .u8 (l[n.toNat].toNat:Int)) ?_ (cU _ _);unfold execOp;have g:=da R.val_inv;have hb:(⟨l.toArray⟩:ByteArray)[n.toNat]? = some l[n.toNat]:=by rw[getElem?_pos (⟨l.toArray⟩:ByteArray) n.toNat (by simpa[ByteArray.size]using r)];rfl
 simp[ho,g,U,Instr.index,asIntOf,ε j,h0,hb]
def iu (l:Str):(⟨l.toArray⟩:ByteArray).toList=l:=by rw[ByteArray.toList_eq]
def rq (m n:Int):(m == n)=decide (m=n):=by by_cases h:m=n <;> simp[h]
def Qy (l:Inv B C p c){R J:TypeId}(j:o.op = .binOp op R x y J){m:Int}(U:RA c (.val (.int k) m) [a.eval x])(T:RA c (.val (.int k) n) [a.eval y]){v:AV}
  (h:Q3 op k m n=some (true,v)):Ok P B C p o a c c.heap v:=by
 have g:=da U.val_inv;have f:=da T.val_inv;cases op <;> simp only[Q3]at h <;> first|(cases h;done)|skip
 all_goals (injection h with h;injection h with r h;subst h)
 case quo=>
  have r:¬n=0:=by simpa using r
  refine ao l ?_ (cU _ _);unfold execOp;simp[j,g,f,eqGuard,binOp,Op.intDiv,r]
 case rem=>
  have r:¬n=0:=by simpa using r
  refine ao l ?_ (cU _ _);unfold execOp;simp[j,g,f,eqGuard,binOp,Op.intDiv,r]
 case add=>refine ao l ?_ (cU _ _);unfold execOp;simp[j,g,f,eqGuard,binOp,Op.intArith]
 case sub=>refine ao l ?_ (cU _ _);unfold execOp;simp[j,g,f,eqGuard,binOp,Op.intArith]
 case mul=>refine ao l ?_ (cU _ _);unfold execOp;simp[j,g,f,eqGuard,binOp,Op.intArith]
 case and=>refine ao l ?_ (cU _ _);unfold execOp;simp[j,g,f,eqGuard,binOp,Op.intBits,ahj]
 case or=>refine ao l ?_ (cU _ _);unfold execOp;simp[j,g,f,eqGuard,binOp,Op.intBits,orI]
 case xor=>refine ao l ?_ (cU _ _);unfold execOp;simp[j,g,f,eqGuard,binOp,Op.intBits,agv]
 case eql=>refine ao l ?_ (bZ _);unfold execOp;simp[j,g,f,eqGuard,binOp,Op.intCmp,rq]
 case neq=>refine ao l ?_ (bZ _);unfold execOp;simp[j,g,f,eqGuard,binOp,Op.intCmp,bne,rq]
 case lss=>refine ao l ?_ (bZ _);unfold execOp;simp[j,g,f,eqGuard,binOp,Op.intCmp]
 case leq=>refine ao l ?_ (bZ _);unfold execOp;simp[j,g,f,eqGuard,binOp,Op.intCmp]
 case gtr=>refine ao l ?_ (bZ _);unfold execOp;simp[j,g,f,eqGuard,binOp,Op.intCmp]
 case geq=>refine ao l ?_ (bZ _);unfold execOp;simp[j,g,f,eqGuard,binOp,Op.intCmp]
def M2 (r:Inv B C p c){R J:TypeId}(l:o.op = .binOp op R x y J){T :IntKind}{m:Int}(hx:RA c (.val (.int k) m) [a.eval x])(U:RA c (.val (.int T) n) [a.eval y])(j:0≤n) :
  (op = .shl→Ok P B C p o a c c.heap (.val (.int k) (Xr k m n)))∧(op = .shr→Ok P B C p o a c c.heap (.val (.int k) (UH k m n))):=by
 have g:=da hx.val_inv;have f:=da U.val_inv;have j:¬n<0:=Ω
 refine⟨λe=>?_,λe=>?_⟩
 ·subst e;refine ao r ?_ (cU _ _);unfold execOp;simp[l,g,f,eqGuard,binOp,Op.shift,j,Xr]
 ·subst e;refine ao r ?_ (cU _ _);unfold execOp;simp[l,g,f,eqGuard,binOp,Op.shift,j,UH]
def aeY (l:Inv B C p c)(j:o.op = .unOp .neg t x)(g:RA c (.val (.int k) n) [a.eval x]):Ok P B C p o a c c.heap (.val (.int k) (k.wrap (0-n))):=by have f:=da g.val_inv;refine ao l ?_ (cU _ _);unfold execOp;simp[j,f,Op.unary,Op.intArith]
def M9 (U:Inv B C p c)(j:TabOk P tab){s:TypeId}(T:o.op = .convert s t x){l :IntKind}(r:RA c (.val (.int l) n) [a.eval x])(J:tab.ty t=some (.int k))(R:∃d,P.underlying s=some d) :
  Ok P B C p o a c c.heap (.val (.int k) (k.wrap n)):=by
 have f:=da r.val_inv;obtain⟨i,z,_,_,_,_,_,_,g⟩:=j.ty t _ J;have g:P.underlying t=some (.int k):=g;obtain⟨d,hd⟩:=R;refine ao U ?_ (cU _ _);unfold execOp;simp[T,f,convert,ε g,ε hd,Conv.intToInt]
def aeW (l:Inv B C p c)(j:o.op = .unOp .not t x){b:Bool}(g:RA c (.val .bool b) [a.eval x]):Ok P B C p o a c c.heap (.val .bool (!b)):=by have f:=fM g.val_inv;refine ao l ?_ (bZ _);unfold execOp;simp[j,f,Op.unary]
def ae4 (hi:Inv B C p c)(r:TabOk P tab)(ho:o.op = .call cl)(j:cl.callee = .builtin .len)(f:cl.args = #[x])(g:cl.argTypes[0]? = some t)(J:RA c s [a.eval x]){l:List τ.den}
  (hl:wv (tab.ty t) s=some ⟨τ,l⟩):Ok P B C p o a c c.heap (.val (.int .i64) (l.length:Int)):=by
 obtain⟨U,R⟩:=eP hl J;obtain⟨i,z,_,_,_,_,_,_,T⟩:=r.ty t _ U;obtain⟨e,he,_⟩:=T;obtain⟨A,cp,ev,_⟩:=dw ((repv_cell (t :=.slice τ) rfl).1 R);refine ao hi ?_ (cU _ _);unfold execOp;simp at ev;simp[ho,resolve,j,f,invoke,builtin,Builtin.len_,g,ev,ε he,goInt]
def Qs (hi:Inv B C p c)(R:TabOk P tab)(ho:o.op = .call cl)(J:cl.callee = .builtin .len)(f:cl.args = #[x])(j:cl.argTypes[0]? = some t)(T:RA c s [a.eval x])
  (hl:xD (tab.ty t) s=some l):Ok P B C p o a c c.heap (.val (.int .i64) (l.length:Int)):=by
 obtain⟨ht,U⟩:=rX hl T;obtain⟨i,z,_,_,_,_,_,_,g⟩:=R.ty t _ ht;have g:P.underlying t=some .string:=g;refine ao hi ?_ (cU _ _);unfold execOp;have r:(⟨l.toArray⟩:ByteArray).size=l.length:=by simp[ByteArray.size]
 simp[ho,resolve,J,f,invoke,builtin,Builtin.len_,j,U,ε g,goInt,r]
end
end Abs
namespace Abs
open Go Go.RowKit
section
variable {P:Program}{tab:Tab}{B:Bd}{j:World}{g:Sb}{c:Gh}{o:Oper}{a:Act}
def dat?_sound {t:Ty}{u:AV}{x:t.den}{v:Value}(h:dat? t u=some x)(r:RA c u [v]):RepV c.w c.St t x v:=by
 cases u with
 |agg p=>
  simp only[dat?]at h;split at h
  next hs=>obtain⟨j,e,f,g,_⟩:=r;simp at e;subst e;unfold RepV;rw[β hs];exact⟨j,rfl,pZ h (f.parts g)⟩
  ·cases h
 |_=>simp[dat?]at h;exact one?_sound h r
def jP (a b:Str):(a == b)=decide (a=b):=by by_cases h:a=b <;> simp[h]
variable{v:AV}{op:BinOp}{tx ty:TypeId}{x y:Operand}
def Qw (r:Inv B j g c)(p:o.op = .binOp op tx x y ty){m n:Str}(U:RA c (.val .str m) [a.eval x])(T:RA c (.val .str n) [a.eval y]){tt:Option Ty}
  (h:oH op tt (.val .str m) (.val .str n)=some (true,v)):Ok P B j g o a c c.heap v:=by
 have l:=xQ U.val_inv;have f:=xQ T.val_inv;cases op <;> simp only[oH]at h <;> first|(cases h;done)|skip
 all_goals (injection h with h;injection h with R h;subst h)
 case add=>
  have R:m.length+n.length≤agn:=by simpa using R
  have J:¬(((⟨m.toArray⟩:ByteArray).size+(⟨n.toArray⟩:ByteArray).size:Nat):Int)>IntKind.i64.max:=by
   have h1:(⟨m.toArray⟩:ByteArray).size=m.length:=by simp[ByteArray.size]
   have h2:(⟨n.toArray⟩:ByteArray).size=n.length:=by simp[ByteArray.size]
   rw[h1,h2];have:IntKind.i64.max=9223372036854775807:=by decide
   rw[this];unfold agn at R;omega
  have C:(⟨m.toArray⟩:ByteArray)++⟨n.toArray⟩=⟨(m++n).toArray⟩:=by apply ajA;simp
  refine ao r (v :=.string ⟨(m++n).toArray⟩) ?_ (zQ _);unfold execOp;simp only[p,l,f,eqGuard,binOp,Op.stringOp,B' J,C];rfl
 case eql=>refine ao r ?_ (bZ _);unfold execOp;simp[p,l,f,eqGuard,binOp,Op.stringOp,jP]
 case neq=>refine ao r ?_ (bZ _);unfold execOp;simp[p,l,f,eqGuard,binOp,Op.stringOp,jP]
 case lss=>refine ao r ?_ (bZ _);unfold execOp;simp[p,l,f,eqGuard,binOp,Op.stringOp]
 case leq=>refine ao r ?_ (bZ _);unfold execOp;simp[p,l,f,eqGuard,binOp,Op.stringOp,jP]
 case gtr=>refine ao r ?_ (bZ _);unfold execOp;simp[p,l,f,eqGuard,binOp,Op.stringOp,jP]
 case geq=>refine ao r ?_ (bZ _);unfold execOp;simp[p,l,f,eqGuard,binOp,Op.stringOp]
def Na (C:Inv B j g c)(R:TabOk P tab)(r:o.op = .binOp op tx x y ty){m n:Bool}(U:RA c (.val .bool m) [a.eval x])(T:RA c (.val .bool n) [a.eval y])
  (h:oH op (tab.ty tx) (.val .bool m) (.val .bool n)=some (true,v)):Ok P B j g o a c c.heap v:=by
 have l:=fM U.val_inv;have f:=fM T.val_inv;simp only[oH]at h;split at h
 next ht=>
  obtain⟨i,z,_,_,_,_,_,_,p⟩:=R.ty tx _ ht;have p:P.underlying tx=some .bool:=p;have J:(m == n)=decide (m=n):=by cases m <;> cases n <;> rfl
  cases op <;> simp only at h <;> first|(cases h;done)|skip
  all_goals (injection h with h;injection h with hc h;subst h)
  case eql=>refine ao C ?_ (bZ _);unfold execOp;simp[r,l,f,eqGuard,binOp,run_equal_bool c.w tx m n p,J]
  case neq=>refine ao C ?_ (bZ _);unfold execOp;simp[r,l,f,eqGuard,binOp,run_equal_bool c.w tx m n p,J]
 ·cases h
def Qx (hi:Inv B j g c)(tk:TabOk P tab)(U:o.op = .binOp op tx x y ty){t:Ty}{l:List t.den}(hx:RA c (.val (.slice t) l) [a.eval x])(hy:RA c .nil [a.eval y])
  (h:oH op (tab.ty tx) (.val (.slice t) l) .nil=some (true,v)):Ok P B j g o a c c.heap v:=by
 have r:a.eval y = .slice none 0 0:=by have:[a.eval y]=[.slice none 0 0]:=hy;simpa using this
 simp only[oH]at h;split at h
 next ht=>
  obtain⟨i,z,_,_,_,_,_,_,hu⟩:=tk.ty tx _ ht;obtain⟨e,u1,_⟩:=hu;have T:l.isEmpty=false→∃f n p,a.eval x = .slice (some f) n p:=λhl=>by
   obtain⟨A,p,e1,_,h0|⟨f,ds,rfl,_⟩⟩:=dw ((repv_cell rfl).1 hx.val_inv)
   ·rw[List.length_eq_zero_iff.1 h0]at hl;cases hl
   ·simp at e1;exact⟨f,_,_,e1⟩
  have J:∀d f n p,(Op.equalIn (d+1) tx (.slice (some f) n p) (.slice none 0 0)).run P c.w = .ok false c.w:=λd f n p=>by simp[Op.equalIn,ε u1]
  have R:∀f n p,(Op.equal tx (.slice (some f) n p) (.slice none 0 0)).run P c.w = .ok false c.w:=λf n p=>J 9999 f n p;cases op <;> simp only at h <;> first|(cases h;done)|skip
  all_goals (injection h with h;injection h with hc h;subst h;simp only[aiq]at hc;obtain⟨f,n,p,C⟩:=T hc)
  case eql=>refine ao hi ?_ (bZ _);unfold execOp;simp[U,C,r,eqGuard,binOp,R]
  case neq=>refine ao hi ?_ (bZ _);unfold execOp;simp[U,C,r,eqGuard,binOp,R]
 ·cases h
def tq:∀{t:Ty},t.flatEq=true→t.nojk=true
 |.int _,_|.bool,_|.str,_|.unit,_|.tree,_=>rfl
 |.slice _,h|.jsl _,h=>by simp[Ty.flatEq]at h
 |.cons a b,h=>by simp[Ty.flatEq]at h;simp[Ty.nojk,tq h.1.1,tq h.1.2]
def eqT (tk:TabOk P tab){w:World}{St:Sb}:∀(τ:Ty),
  (∀(j:List Field) (g:Nat) (p l:Array Value) (x y:τ.den) (d:Nat),FOk tab.ty j τ.fields g→τ.flatEq=true→τ.isStruct=true→τ.dep≤d+1→Rep w St (toD τ x) (p.toList.drop g)→Rep w St (toD τ y) (l.toList.drop g) →
   (Op.eqFields d p l j).run P w = .ok (eqD τ x y) w) ∧
  (∀(t:TypeId) (d:Nat) (x y:τ.den) (vx vy:Value),tab.ty t=some τ→τ.flatEq=true→τ.dep≤d→RepV w St τ x vx→RepV w St τ y vy→(Op.equalIn d t vx vy).run P w = .ok (eqD τ x y) w):=by
 intro τ;have lift:∀(τ:Ty),τ.isStruct=true→(∀(j:List Field) (g:Nat) (p l:Array Value) (x y:τ.den) (d:Nat),FOk tab.ty j τ.fields g→τ.flatEq=true→τ.isStruct=true→τ.dep≤d+1→Rep w St (toD τ x) (p.toList.drop g)→Rep w St (toD τ y) (l.toList.drop g) →
   (Op.eqFields d p l j).run P w = .ok (eqD τ x y) w)→τ.dep≥1 →
   (∀(t:TypeId) (d:Nat) (x y:τ.den) (vx vy:Value),tab.ty t=some τ→τ.flatEq=true→τ.dep≤d→RepV w St τ x vx→RepV w St τ y vy→(Op.equalIn d t vx vy).run P w = .ok (eqD τ x y) w):=by
  intro τ hs hB hd1 t d x y vx vy ht hf U J C;obtain⟨i,z,_,_,_,_,_,_,R⟩:=tk.ty t τ ht;obtain⟨j,h1,h2,_,h3⟩:=f0 hs R;unfold RepV at J C;rw[β hs]at J C;obtain⟨cs,rfl,J⟩:=J;obtain⟨cs',rfl,C⟩:=C;obtain⟨r,rfl⟩:∃r,d=r+1:=⟨d-1,Ω⟩;have hfo:P.fieldsOf t=j:=by simp[Program.fieldsOf,h1]
  rw[run_equalIn_struct w r t _ _ (by rw[hfo];exact h1) h2,hfo];exact hB j.toList 0 _ _ x y r h3 hf hs U (by simpa using J) (by simpa using C)
 induction τ with
 |int k =>refine⟨λ_ _ _ _ _ _ _ _ _ h=>by simp[Ty.isStruct]at h,λt d x y vx vy ht _ U J C=>?_⟩;obtain⟨i,z,_,_,_,_,_,_,R⟩:=tk.ty t _ ht;have R:P.underlying t=some (.int k):=R;obtain⟨r,rfl⟩:∃r,d=r+1:=⟨d-1,by simp[Ty.dep]at U;omega⟩;rw[da J,da C,aj2 w r t k k x y R];simp[eqD];rw[show(x == y)=decide (x=y) from rq x y]
 |bool=>
  refine⟨λ_ _ _ _ _ _ _ _ _ h=>by simp[Ty.isStruct]at h,λt d x y vx vy ht _ U J C=>?_⟩;obtain⟨i,z,_,_,_,_,_,_,R⟩:=tk.ty t _ ht;have R:P.underlying t=some .bool:=R;obtain⟨r,rfl⟩:∃r,d=r+1:=⟨d-1,by simp[Ty.dep]at U;omega⟩;rw[fM J,fM C,ajT w r t x y R];have U:(x == y)=decide (x=y):=by cases x <;> cases y <;> rfl
  simp[eqD,U]
 |str =>refine⟨λ_ _ _ _ _ _ _ _ _ h=>by simp[Ty.isStruct]at h,λt d x y vx vy ht _ U J C=>?_⟩;obtain⟨i,z,_,_,_,_,_,_,R⟩:=tk.ty t _ ht;have R:P.underlying t=some .string:=R;obtain⟨r,rfl⟩:∃r,d=r+1:=⟨d-1,by simp[Ty.dep]at U;omega⟩;rw[xQ J,xQ C,ajB w r t _ _ R,iu,iu];simp[eqD];rw[show(List.instBEq.beq x y)=decide (x=y) from jP x y]
 |slice t ih=>exact⟨λ_ _ _ _ _ _ _ _ h=>by simp[Ty.flatEq]at h,λ_ _ _ _ _ _ _ h=>by simp[Ty.flatEq]at h⟩
 |tree=>exact⟨λ_ _ _ _ _ _ _ _ h=>by simp[Ty.flatEq]at h,λ_ _ _ _ _ _ _ h=>by simp[Ty.flatEq]at h⟩
 |jsl e=>exact⟨λ_ _ _ _ _ _ _ _ h=>by simp[Ty.flatEq]at h,λ_ _ _ _ _ _ _ h=>by simp[Ty.flatEq]at h⟩
 |unit=>
  have hB:∀(j:List Field) (g:Nat) (p l:Array Value) (x y:Ty.unit.den) (d:Nat),FOk tab.ty j Ty.unit.fields g→Ty.unit.flatEq=true→Ty.unit.isStruct=true→Ty.unit.dep≤d+1→Rep w St (toD .unit x) (p.toList.drop g)→Rep w St (toD .unit y) (l.toList.drop g) →
    (Op.eqFields d p l j).run P w = .ok (eqD .unit x y) w:=by
   intro j g p l x y d hf _ _ _ _ _;cases j with
   |nil=>simp[Op.eqFields,eqD]
   |cons f j=>exact hf.elim
  exact⟨hB,lift .unit rfl hB (by simp[Ty.dep])⟩
 |cons A Bt ihA ihB=>
  have hB:∀(j:List Field) (g:Nat) (p l:Array Value) (x y:(Ty.cons A Bt).den) (d:Nat),FOk tab.ty j (Ty.cons A Bt).fields g→(Ty.cons A Bt).flatEq=true→(Ty.cons A Bt).isStruct=true→(Ty.cons A Bt).dep≤d+1 →
    Rep w St (toD (.cons A Bt) x) (p.toList.drop g)→Rep w St (toD (.cons A Bt) y) (l.toList.drop g)→(Op.eqFields d p l j).run P w = .ok (eqD (.cons A Bt) x y) w:=by
   intro j g p l x y d hf T _ U J C;cases j with
   |nil=>exact hf.elim
   |cons f j=>
    obtain⟨f1,f2,f3,f4,f5⟩:=hf;obtain⟨c1,c2,e1,r1,r2⟩:=J;obtain⟨k1,k2,e2,s1,s2⟩:=C;simp[Ty.flatEq]at T;simp[Ty.dep]at U;obtain⟨Ab,f1,_,_,q3⟩:=f1;rw[q3 (tq T.1.1)]at f1;obtain⟨va,hva,rva⟩:=Da (P:=P) tk f1 rfl rfl w (x:=x.1) p f.offset (by rw[f2,e1,←r1.size,Q?];exact r1);obtain⟨vb,hvb,rvb⟩:=Da (P:=P) tk f1 rfl rfl w (x:=y.1) l f.offset (by rw[f2,e2,←s1.size,Q?];exact s1);have hA:=ihA.2 f.type d x.1 y.1 va vb f1 T.1.1 Ω rva rvb;have d1:p.toList.drop (g+A.size)=c2:=by rw[←List.drop_drop,e1,←r1.size];simp
    have d2:l.toList.drop (g+A.size)=k2:=by rw[←List.drop_drop,e2,←s1.size];simp
    have hr:(Op.eqFields d p l j).run P w = .ok (eqD Bt x.2 y.2) w:=ihB.1 j (g+A.size) p l x.2 y.2 d f5 T.1.2 T.2 Ω (by rw[d1];exact r2) (by rw[d2];exact s2);simp[Op.eqFields,f4,ξ,hva,hvb,hA,eqD];cases eqD A x.1 y.1 with
    |false=>simp
    |true=>simp[hr]
  exact⟨hB,lift (.cons A Bt) rfl hB (by simp[Ty.dep];omega)⟩
end
end Abs
namespace Abs
open Go Go.RowKit
section
variable {P:Program}{tab:Tab}{B:Bd}{J:World}{C:Sb}{c:Gh}{o:Oper}{a:Act}
def F6 (hi:Inv B J C c)(tk:TabOk P tab){op:BinOp}{l ty:TypeId}{x y:Operand}(ho:o.op = .binOp op l x y ty){U V p:Ty}{m:(Ty.cons U V).den}{n:p.den}(hx:RA c (.val (.cons U V) m) [a.eval x])(hy:RA c (.val p n) [a.eval y]){v:AV}
  (h:oH op (tab.ty l) (.val (.cons U V) m) (.val p n)=some (true,v)):Ok P B J C o a c c.heap v:=by
 simp only[oH]at h;split at h
 next ht=>
  split at h
  next hfe=>
   simp at hfe;split at h
   ·rename_i n' j;obtain⟨e,j⟩:=cast?_some j;subst e;have j:n'=n:=j;subst j;obtain⟨i,z,_,_,_,_,_,_,hu⟩:=tk.ty l _ ht;obtain⟨fs,h1,h2,h3,_⟩:=f0 (τ :=.cons U V) rfl hu;have r:=(eqT (P:=P) tk (w:=c.w) (St:=c.St) (.cons U V)).2 l 10000 m _ _ _ ht hfe.1 hfe.2 hx.val_inv hy.val_inv;have g:=hx.val_inv;have f:=hy.val_inv;unfold RepV at g f;rw[β (show(Ty.cons U V).isStruct=true from rfl)]at g f;obtain⟨cs,T,_⟩:=g;obtain⟨cs',R,_⟩:=f;rw[T,R]at r;cases op <;> simp only at h <;> first|(cases h;done)|skip
    all_goals (injection h with h;injection h with hc h;subst h)
    case eql=>refine ao hi ?_ (bZ _);unfold execOp;simp[ho,T,R,eqGuard,h3,P_,binOp,Op.equal,Op.maxDepth,r]
    case neq=>refine ao hi ?_ (bZ _);unfold execOp;simp[ho,T,R,eqGuard,h3,P_,binOp,Op.equal,Op.maxDepth,r]
   ·cases h
  ·cases h
 ·cases h
def mq (f:Nat):∀(g:List Value) (k:Nat) (cells:Array Value),f+k+g.length≤cells.size →
  ((g.zipIdx k).foldl (λp (x:Value×Nat)=>p.setIfInBounds (f+x.2) x.1) cells).toList=cells.toList.take (f+k)++g++cells.toList.drop (f+k+g.length)
 |[],k,cells,_=>by simp
 |v::g,k,cells,h=>by
  simp;simp at h;rw[mq f g (k+1) _ Ξ];have j:f+k<cells.toList.length:=by simp;omega
  simp;rw[show f+(k+1)=f+k+1 by omega,show f+k+1+g.length=f+k+(g.length+1)by omega,List.take_set,List.drop_set_of_lt Ω,
   v_ j,ajm _ _ Ξ]
  have l:min (f+k) cells.size=f+k:=Ω
  simp[l]
def iT (off:Nat)(v:Value)(cells:Array Value)(h:off+v.cells.size≤cells.size) :
  (v.cells.zipIdx.foldl (λf (x:Value×Nat)=>f.setIfInBounds (off+x.2) x.1) cells).toList=cells.toList.take off++v.cells.toList++cells.toList.drop (off+v.cells.size):=by
 rw[←Array.foldl_toList,Array.toList_zipIdx];have:=mq off v.cells.toList 0 cells (by simpa using h);simpa using this
def Mb:∀{t:Ty} {x y:t.den} {i:Nat} {u:AV} {v:Value} {T:List Value},wz t x i u=some y→RA c u [v]→Rep c.w c.St (toD t x) T →
  ∃A,t.fields[i]? = some A∧v.cells.size=A.size∧mi t.fields i+A.size≤T.length∧Rep c.w c.St (toD t y) (T.take (mi t.fields i)++v.cells.toList++T.drop (mi t.fields i+A.size))
 |.cons A Bt,x,y,0,u,v,T,h,l,r=>by
  simp[wz]at h;split at h
  next z j=>cases h;obtain⟨c1,c2,rfl,r1,r2⟩:=r;have f:=(dat?_sound j l).cells;have g:=f.size;refine⟨A,rfl,by simpa using g,by simp[mi,Ty.fields,r1.size], ?_⟩;simp[mi,Ty.fields];rw[←r1.size,ai3];exact⟨_,_,rfl,f,r2⟩
  ·cases h
 |.cons A Bt,x,y,i+1,u,v,T,h,l,r=>by
  simp[wz]at h;split at h
  next z j=>cases h;obtain⟨c1,c2,rfl,r1,r2⟩:=r;obtain⟨A',h1,h2,h3,h4⟩:=Mb j l r2;refine⟨A',by simpa[Ty.fields]using h1,h2,by simp[mi,Ty.fields,r1.size];omega, ?_⟩;simp[mi,Ty.fields];rw[←r1.size,O_,ai1,a?];exact⟨c1,_,Ψ,r1,h4⟩
  ·cases h
 |.tree,.mk k t ls ks,y,i,u,v,T,h,l,r=>by
  simp[toD,rz]at r;obtain⟨c1,c2,rfl,h1,c3,c4,rfl,h2,c5,c6,rfl,h3,c7,c8,rfl,h4,h5⟩:=r;have h5:c8=[]:=h5;subst h5;have R:=h1;obtain⟨rfl,o1⟩:=h1;have P:=h2;obtain⟨rfl,o2⟩:=h2;have J:=h3;obtain⟨A1,n,cp,rfl,_⟩:=h3;have C:=h4;obtain⟨A2,n',cp',rfl,_⟩:=h4;match i with
  |0=>
   simp[wz]at h;split at h
   next z j=>cases h;have f:=(dat?_sound j l).cells;have g:=f.size;obtain⟨e,p⟩:=X?.1 g;rw[p]at f⊢;exact⟨_,rfl,by simpa using g,by simp[mi,Ty.fields,Ty.size],⟨[e],_,rfl,f,[_],_,rfl,P,[_],_,rfl,J,[_],_,rfl,C,rfl⟩⟩
   ·cases h
  |1=>
   simp[wz]at h;split at h
   next z j=>cases h;have f:=(dat?_sound j l).cells;have g:=f.size;obtain⟨e,p⟩:=X?.1 g;rw[p]at f⊢;exact⟨_,rfl,by simpa using g,by simp[mi,Ty.fields,Ty.size],⟨[_],_,rfl,R,[e],_,rfl,f,[_],_,rfl,J,[_],_,rfl,C,rfl⟩⟩
   ·cases h
  |2=>
   simp[wz]at h;split at h
   next z j=>cases h;have f:=(dat?_sound j l).cells;have g:=f.size;obtain⟨e,p⟩:=X?.1 g;rw[p]at f⊢;exact⟨_,rfl,by simpa using g,by simp[mi,Ty.fields,Ty.size],⟨[_],_,rfl,R,[_],_,rfl,P,[e],_,rfl,f,[_],_,rfl,C,rfl⟩⟩
   ·cases h
  |3=>
   simp[wz]at h;split at h
   ·rename_i z j;cases h;have f:=(dat?_sound j l).cells;have g:=f.size;have U:Rep c.w c.St (.sl (rT z)) v.cells.toList:=by rw[iD];exact f
    obtain⟨e,p⟩:=X?.1 g;rw[p]at U⊢;exact⟨_,rfl,by simpa using g,by simp[mi,Ty.fields,Ty.size],⟨[_],_,rfl,R,[_],_,rfl,P,[_],_,rfl,J,[e],_,rfl,U,rfl⟩⟩
   ·cases h
  |i+4=>simp[wz]at h
 |.int _,_,_,_,_,_,_,h,_,_=>by simp[wz]at h
 |.bool,_,_,_,_,_,_,h,_,_=>by simp[wz]at h
 |.str,_,_,_,_,_,_,h,_,_=>by simp[wz]at h
 |.slice _,_,_,_,_,_,_,h,_,_=>by simp[wz]at h
 |.unit,_,_,_,_,_,_,h,_,_=>by simp[wz]at h
def Bw (tk:TabOk P tab){p:Ty}{T:Array Field}(hf:FOk tab.ty T.toList p.fields 0):∀(l:List Nat) (J:List AV) (R:List Value) (x y:p.den) (g:Array Value),l.length=J.length→RAs c J R →
  Fy p (l.zip J) x=some y→Rep c.w c.St (toD p x) g.toList →
  ∃j,Instr.fill ((T.map λf=>(f.offset,P.cellsOf f.type))[·]?) g (l.zip R)=some j∧Rep c.w c.St (toD p y) j.toList
 |[],[],[],x,y,g,_,_,h,r=>by cases h;exact⟨g,by simp[Instr.fill],r⟩
 |i::l,u::J,v::R,x,y,g,hl,⟨hu,U⟩,h,r=>by
  simp[Fy]at h;split at h
  next z hz=>
   obtain⟨A,h1,h2,h3,h4⟩:=Mb hz hu r;obtain⟨fl,g1,⟨Ab,g2,gs,_⟩,g3,g4,_⟩:=hf.at h1;obtain⟨ti,tz,t1,t2,_⟩:=tk.ty fl.type Ab g2;rw[gs]at t2;simp at g3;have C:(T.map λf=>(f.offset,P.cellsOf f.type))[i]? = some (mi p.fields i,A.size):=by
    have:T[i]? = some fl:=by simpa using g1
    simp[this,g3,Program.cellsOf,t1,t2]
   have hfc:=iT (mi p.fields i) v g (by rw[h2];simpa using h3);obtain⟨j,e1,e2⟩:=Bw tk hf l J R z y (v.cells.zipIdx.foldl (λcs (x:Value×Nat)=>cs.setIfInBounds (mi p.fields i+x.2) x.1) g) (by simpa using hl) U h (by rw[hfc,h2];exact h4);refine⟨j, ?_,e2⟩;simp only[aiD,Instr.fill,C];have hno:¬(v.cells.size≠A.size||mi p.fields i+v.cells.size>g.size)=true:=by simp[h2];simpa using h3
   rw[B' hno];exact e1
  ·cases h
def yh (hi:Inv B J C c)(tk:TabOk P tab){t:TypeId}{parts:Array (Nat×Operand)}(ho:o.op = .build t parts){us:List AV}(hv:RAs c us ((parts.toList.map (·.2)).map a.eval)){R:Ty}(ht:tab.ty t=some R)(hs:R.isStruct=true){y:R.den}
  (hy:Fy R ((parts.toList.map (·.1)).zip us) (zero R)=some y):Ok P B J C o a c c.heap (.val R y):=by
 obtain⟨i,z,h1,h2,h3,h4,_,h5,hu⟩:=tk.ty t R ht;obtain⟨fs,f1,_,_,f2⟩:=f0 hs hu;have hl:(parts.toList.map (·.1)).length=us.length:=by rw[hv.length];simp
 obtain⟨T,e1,e2⟩:=Bw tk f2 (parts.toList.map (·.1)) us _ (zero R) y z.cells hl hv hy (by rw[h4];exact dn R);have hzip:(parts.toList.map (·.1)).zip ((parts.toList.map (·.2)).map a.eval)=parts.toList.map (λp=>(p.1,a.eval p.2)):=by rw[W?,ajz];rfl
 rw[hzip]at e1;refine ao hi (v :=.agg T) ?_ ⟨_,rfl, ?_⟩
 ·have hm:∀(l:List Field) (w:World),(∀f∈l,∃j,P.info? f.type=some j)→(l.mapM (λf=>(do pure (f.offset,←sizeOf f.type):Sem (Nat×Nat)))).run P w = .ok (l.map λf=>(f.offset,P.cellsOf f.type)) w:=by
   intro l;induction l with
   |nil=>intro w _;simp
   |cons f l ih=>
    intro w r;obtain⟨j,hj⟩:=r f Ψ;have h1:(do pure (f.offset,←sizeOf f.type):Sem (Nat×Nat)).run P w = .ok (f.offset,P.cellsOf f.type) w:=by simp[sizeOf,typeInfo,hj,Program.cellsOf]
    rw[aiJ,ξ,h1,Δ,ξ,ih w (λg hg=>r g (by simp[hg])),Δ];rfl
  have r:∀f∈fs.toList,∃j,P.info? f.type=some j:=by
   intro f hfm;obtain⟨k,hk,rfl⟩:=ajv hfm;have hlen:∀{fl:List Field} {as:List Ty} {U:Nat},FOk tab.ty fl as U→fl.length=as.length:=by
    intro fl;induction fl with
    |nil=>intro as U h;cases as with|nil=>rfl|cons _ _=>exact h.elim
    |cons g fl ih=>intro as U h;cases as with|nil=>exact h.elim|cons _ as=>obtain⟨_,_,_,_,h⟩:=h;simp[ih h]
   have hk':k<R.fields.length:=by rw[←hlen f2];exact hk
   obtain⟨fl,g1,⟨_,g2,_⟩,_⟩:=f2.at (δ hk');rw[δ hk]at g1;injection g1 with g1;rw[g1];obtain⟨ti,tz,t1,_⟩:=tk.ty fl.type _ g2;exact⟨ti,t1⟩
  have hmA:(fs.mapM (λf=>(do pure (f.offset,←sizeOf f.type):Sem (Nat×Nat)))).run P c.w = .ok (fs.map λf=>(f.offset,P.cellsOf f.type)) c.w:=by have:=hm fs.toList c.w r;rw[B?,ajc,ξ,this,Δ];exact Y' (λl=>Result.ok l c.w) (m_ Ψ)
  unfold execOp;simp only[ho,Instr.build,zeroValue,typeInfo,ξ,P_,h1,a_,Δ,h3,ε f1,hmA];rw[show(parts.map λp=>(p.1,a.eval p.2)).toList=parts.toList.map λp=>(p.1,a.eval p.2)by simp,e1];simp
 ·unfold RepV;rw[β hs];exact⟨T.toList,Ψ,e2⟩
end
end Abs
namespace Abs
open Go Go.RowKit
section
variable {P:Program}{tab:Tab}{B:Bd}{R:World}{C:Sb}{c:Gh}{o:Oper}{a:Act}
variable{τ:Ty}{e t:TypeId}{ds:List Value}{J:List AV}{n:Nat}
def acv (P:Inv B R C c){fresh:Nat}(hf:c.heap[fresh]? = some .none){l:List τ.den}(hr:Rep c.w c.St (chain (toD τ) l) ds)(hm:l.length≤maxLen) :
  ∃T,T.w=c.w.alloc (.cells ds.toArray e)∧T.heap=c.heap.set fresh (.row τ e 0)∧Inv B R C T∧Ev c T∧RA T (.own fresh 0 τ l) [.slice (some ⟨c.w.heap.size,0,none⟩) l.length l.length]:=by
 obtain⟨h1,e1⟩:=P.grow (w':=c.w.alloc (.cells ds.toArray e)) (St':=⟨λb o=>c.St b o∨(b=c.w.heap.size∧o<l.length*τ.size),c.St.j⟩) ((Below.refl _ _).alloc (ζ _) _) ⟨λ_ _ x=>.inl x,λ_ _ _ _ x=>x⟩
  (λb o x=>x.elim .inl (λx=>.inr ⟨Ω,by rw[x.1];simp⟩)) (ζ _) (λ_ _ _ _ x=>.inl x)
 have p:=bh hr;have r:(c.w.alloc (.cells ds.toArray e)).ownsRow B e τ.size (.slice (some ⟨c.w.heap.size,0,none⟩) l.length l.length) l.length ds :=
  ⟨p,.inr ⟨c.w.heap.size,l.length,ds.toArray,rfl,P.size,z_ c.w _,ζ _,hm,by simpa using p,by rw[←p];simp⟩⟩
 obtain⟨h2,U⟩:=h1.addRow (k:=fresh) (n:=l.length) (t:=τ) (e:=e) (s :=.slice (some ⟨c.w.heap.size,0,none⟩) l.length l.length) (xs:=ds) hf r
  (λb J o hle x=>by
   simp only[Value.ownBlock,θ]at J;obtain x|x:=x
   ·have:=P.bnd _ _ x;omega
   ·omega)
  (λk' b J x=>by
   simp only[Value.ownBlock,θ]at J;have:=(fF P (k:=k') x).1;omega)
  (λb J f=>by
   simp only[Value.ownBlock,θ]at J;have:=P.fl b f;omega)
  (λb J e cap n x=>(P.junk b e cap n x).resolve_right λq=>by
   simp only[Value.ownBlock,θ]at J;have:=q.lt;omega)
 refine⟨_,rfl,rfl,h2,e1.trans U,_,rfl,(repv_cell rfl).2 ?_,τ,e,0, ?_,ζ _,λ_=>?_⟩
 ·refine⟨_,_,_,rfl,(len_chain _ _).symm,ζ _,.inr ⟨_,ds,rfl,rfl,(hr.mono e1.st e1.cell).mono U.st U.cell,λj u hu=>⟨?_, ?_⟩⟩⟩
  ·exact r.cells (g:=c.w.heap.size) rfl j u hu
  ·have hj:j<ds.length:=ak hu;refine .inr ⟨rfl, ?_⟩;simp;omega
 ·show(c.heap.set fresh _)[fresh]? = _;rw[get_set,β rfl,β (ak hf)]
 ·simp
def Fh {τ:Ty}:∀{J:List AV} {l:List τ.den} {f:List Value},tG τ J=some l→RAs c J f→Rep c.w c.St (chain (toD τ) l) ((f.map λv=>v.cells.toList).flatten)∧l.length=f.length∧∀v∈f,v.cells.size=τ.size
 |[],l,[],h,_=>by cases h;exact⟨rfl,rfl,Ψ⟩
 |u::J,l,v::f,h,⟨C,j⟩=>by
  simp[tG]at h;split at h
  next x r hx hr=>
   cases h;obtain⟨T,R,P⟩:=Fh hr j;have p:=(dat?_sound hx C).cells;refine⟨⟨_,_,rfl,p,T⟩,by simp[R],λw g=>?_⟩;obtain rfl|g:=C'.1 g
   ·simpa using p.size
   ·exact P w g
  ·cases h
def tA (size:Nat):∀(j:List Value) (i:Nat) (f:Array Value),(∀v∈j,v.cells.size=size)→(i+j.length)*size=f.size →
  ∃g,Instr.fill (λi=>some (i*size,size)) f ((List.range' i j.length).zip j)=some g∧g.toList=f.toList.take (i*size)++(j.map λv=>v.cells.toList).flatten
 |[],i,f,_,h=>⟨f,by simp[Instr.fill],by simp at h;rw[h];simp[V?]⟩
 |v::j,i,f,hv,h=>by
  have C:=hv v Ψ;have l:i*size+v.cells.size≤f.size:=by rw[C,←h,←Nat.succ_mul];exact g_ _ Ψ
  have p:=iT (i*size) v f l;obtain⟨g,U,T⟩:=tA size j (i+1) (v.cells.zipIdx.foldl (λJ (x:Value×Nat)=>J.setIfInBounds (i*size+x.2) x.1) f) (λu P=>hv u (by simp[P])) (by
   have:(v.cells.zipIdx.foldl (λJ (x:Value×Nat)=>J.setIfInBounds (i*size+x.2) x.1) f).size=f.size:=by rw[←Array.length_toList,p];simp;omega
   rw[this,←h];congr 1;simp;omega)
  refine⟨g, ?_, ?_⟩
  ·simp only[r_,U_,aiD,Instr.fill];have r:¬(v.cells.size≠size||i*size+v.cells.size>f.size)=true:=by
    simp[C];omega
   rw[B' r];exact U
  ·rw[T,p];have R:(f.toList.take (i*size)++v.cells.toList).length=(i+1)*size:=by
    simp[C,T_];omega
   rw[←R,Q?];simp
def qW:∀(l:List Nat) (i:Nat),dU i l=true→l=List.range' i l.length
 |[],_,_=>rfl
 |j::l,i,h=>by simp[dU]at h;obtain⟨rfl,f⟩:=h;rw[r_,U_,←qW l (i+1) f]
def se (tk:TabOk P tab){len:Nat}{parts:Array (Nat×Operand)}(ho:o.op = .buildSlice t len parts)(hv:RAs c J ((parts.toList.map (·.2)).map a.eval))
  (u1:P.underlying t=some (.slice e)) (u2:tab.ty e=some τ) (T:len=parts.size) (R:dU 0 (parts.toList.map (·.1))=true) (hsz:len*τ.size≤4096) {l:List τ.den} (hl:tG τ J=some l) :
  ∃ds,Rep c.w c.St (chain (toD τ) l) ds∧l.length=len∧(execOp a.eval o).run P c.w = .ok (.value (.slice (some ⟨c.w.heap.size,0,none⟩) len len)) (c.w.alloc (.cells ds.toArray e)):=by
 obtain⟨ie,ze,t1,t2,t3,t4,_⟩:=tk.ty e τ u2;obtain⟨C,hll,U⟩:=Fh hl hv;have r:((parts.toList.map (·.2)).map a.eval).length=len:=by simp[T]
 have j:(parts.map λp=>(p.1,a.eval p.2)).toList=(List.range' 0 ((parts.toList.map (·.2)).map a.eval).length).zip ((parts.toList.map (·.2)).map a.eval):=by
  have h1:=qW _ 0 R;have h2:(parts.toList.map (·.1)).length=((parts.toList.map (·.2)).map a.eval).length:=by simp
  rw[←h2,←h1,W?,ajz];simp
 have g:∀f:Array Value,Instr.fill (λi=>some (i*τ.size,τ.size)) ((Array.range (len*τ.size)).map λx=>f[x%f.size]!) (parts.map λp=>(p.1,a.eval p.2)).toList=some (((parts.toList.map (·.2)).map a.eval).map λv=>v.cells.toList).flatten.toArray:=by intro f;obtain⟨arr',e1,e2⟩:=tA τ.size ((parts.toList.map (·.2)).map a.eval) 0 ((Array.range (len*τ.size)).map λx=>f[x%f.size]!) U (by rw[r];simp);simp only[aiv,t?,t_]at e2;rw[j,e1,←e2]
 refine⟨_,C,hll.trans r, ?_⟩;generalize (((parts.toList.map (·.2)).map a.eval).map λv=>v.cells.toList).flatten=ds at *;unfold execOp;have hno:¬(len*τ.size>2^24):=Ω
 simp only[ho,Instr.buildSlice,ξ,ε u1,Δ,az tk u2,B' hno];by_cases h0:len*τ.size=0
 ·rw[β h0,ξ,a_,Δ,g #[]];simp[newRow]
 ·rw[B' h0];simp only[zeroValue,typeInfo,ξ,P_,t1,t3,a_,Δ];rw[g ze.cells];simp[newRow]
def F5 (hi:Inv B R C c)(tk:TabOk P tab){len:Nat}{parts:Array (Nat×Operand)}(ho:o.op = .buildSlice t len parts)(hv:RAs c J ((parts.toList.map (·.2)).map a.eval))
  (ht:tab.ty t=some (.slice τ)) (he:tab.elem t=some e) (T:len=parts.size) (p:dU 0 (parts.toList.map (·.1))=true) (U:len*τ.size≤4096) {l:List τ.den} (hl:tG τ J=some l)
  {fresh:Nat} (hf:c.heap[fresh]? = some .none):Ok P B R C o a c (c.heap.set fresh (.row τ e 0)) (.own fresh 0 τ l):=by
 obtain⟨i,z,_,_,_,_,_,_,hu⟩:=tk.ty t _ ht;obtain⟨e',u1,u2,u3,j⟩:=hu;have:e'=e:=by rw[he]at u3;exact(π u3).symm
 subst this;obtain⟨ds,g,r,f⟩:=se tk ho hv u1 u2 T p U hl;obtain⟨c',hw,hh,hI,hE,hR⟩:=acv (e:=e') hi hf g (by rw[r];simp[maxLen];have:len*1≤len*τ.size:=Nat.mul_le_mul_left _ j;omega);exact db (v :=.slice (some ⟨c.w.heap.size,0,none⟩) len len) (by rw[hw];exact f) hh hI hE (by rw[r]at hR;exact hR)
def acu (U:Inv B R C c){l:List τ.den}(T:Rep c.w c.St (chain (toD τ) l) ds)(hm:l.length≤maxLen) :
  ∃r,r.w=c.w.alloc (.cells ds.toArray e)∧r.heap=c.heap∧Inv B R C r∧Ev c r∧RA r (.val (.slice τ) l) [.slice (some ⟨c.w.heap.size,0,none⟩) l.length l.length]:=by
 obtain⟨h1,J⟩:=U.grow (w':=c.w.alloc (.cells ds.toArray e)) (St':=⟨λb o=>c.St b o∨(b=c.w.heap.size∧o<l.length*τ.size),c.St.j⟩) ((Below.refl _ _).alloc (ζ _) _) ⟨λ_ _ x=>.inl x,λ_ _ _ _ x=>x⟩
  (λb o x=>x.elim .inl (λx=>.inr ⟨Ω,by rw[x.1];simp⟩)) (ζ _) (λ_ _ _ _ x=>.inl x)
 have f:=bh T;have p:(c.w.alloc (.cells ds.toArray e)).ownsRow B e τ.size (.slice (some ⟨c.w.heap.size,0,none⟩) l.length l.length) l.length ds :=
  ⟨f,.inr ⟨c.w.heap.size,l.length,ds.toArray,rfl,U.size,z_ c.w _,ζ _,hm,by simpa using f,by rw[←f];simp⟩⟩
 refine⟨{ c with w:=c.w.alloc (.cells ds.toArray e),St:=⟨λb o=>c.St b o∨(b=c.w.heap.size∧o<l.length*τ.size),c.St.j⟩ },rfl,rfl,h1,J,_,rfl,(repv_cell rfl).2 ⟨_,_,_,rfl,(len_chain _ _).symm,ζ _,.inr ⟨_,ds,rfl,rfl,T.mono J.st J.cell,λj u P=>⟨p.cells (g:=c.w.heap.size) rfl j u P, ?_⟩⟩⟩⟩;have hj:j<ds.length:=ak P;refine .inr ⟨rfl, ?_⟩;simp;omega
def yg (hi:Inv B R C c)(tk:TabOk P tab){len:Nat}{parts:Array (Nat×Operand)}(ho:o.op = .buildSlice t len parts)(hv:RAs c J ((parts.toList.map (·.2)).map a.eval))
  (ht:tab.ty t=some (.slice τ)) (he:tab.elem t=some e) (T:len=parts.size) (p:dU 0 (parts.toList.map (·.1))=true) (U:len*τ.size≤4096) {l:List τ.den} (hl:tG τ J=some l):Ok P B R C o a c c.heap (.val (.slice τ) l):=by
 obtain⟨i,z,_,_,_,_,_,_,hu⟩:=tk.ty t _ ht;obtain⟨e',u1,u2,u3,j⟩:=hu;have:e'=e:=by rw[he]at u3;exact(π u3).symm
 subst this;obtain⟨ds,g,r,f⟩:=se tk ho hv u1 u2 T p U hl;obtain⟨c',hw,hh,hI,hE,hR⟩:=acu (e:=e') hi g (by rw[r];simp[maxLen];have:len*1≤len*τ.size:=Nat.mul_le_mul_left _ j;omega);exact db (v :=.slice (some ⟨c.w.heap.size,0,none⟩) len len) (by rw[hw];exact f) hh hI hE (by rw[r]at hR;exact hR)
def wU {f g:Nat→Option (Nat×Nat)}:∀(l:List (Nat×Value)) (j:Array Value),(∀p∈l,f p.1=g p.1)→Instr.fill f j l=Instr.fill g j l
 |[],_,_=>by simp[Instr.fill]
 |p::l,j,h=>by
  simp[Instr.fill];rw[h p Ψ];split
  ·rfl
  ·split
   ·rfl
   ·exact wU l _ (λq r=>h q (by simp[r]))
def xI {u:AV}{v:Value}(h:RA c u [v])(g:u.single=true):v.cells.toList=[v]∧v.oneCell'=true:=by
 have U:u.solid=true:=by cases u <;> simp[AV.single,AV.solid]at g⊢
 obtain⟨h1,h2⟩:=oG h U;have hl:(cellsOf u).length=1:=by
  cases u with
  |val t x =>simp only[AV.single,aiq]at g;cases t <;> simp[Ty.isStruct]at g <;> rfl
  |_=>first|rfl|(simp[AV.single]at g)
 have hl2:v.cells.toList.length=1:=by rw[←h1.length,hl]
 cases v with
 |agg R=>
  exfalso;cases u with
  |val t x =>simp only[AV.single,aiq]at g;have:=(repv_cell g).1 h.val_inv;have:=this.one (Value.agg R) Ψ;simp[Value.oneCell']at this
  |nil=>have h:[Value.agg R]=[.slice none 0 0]:=h;simp at h
  |own k n t l=>obtain⟨s,e,r,_⟩:=h;obtain⟨A,n',cp,J,_⟩:=(repv_cell (t :=.slice t) rfl).1 r;simp at e J;rw[←e]at J;cases J
  |ref t x=>obtain⟨ad,ds,e,_⟩:=h;simp at e
  |box k p=>obtain⟨P,_,e⟩:=h;simp at e
  |fn f T=>obtain⟨P,e,_⟩:=h;simp at e
  |msl k n lo hi=>obtain⟨s,e,C,_⟩:=h;simp at e;subst e;simp[Value.oneCell']at C
  |yld j=>obtain⟨_,e⟩:=h;simp at e
  |mpt k n i p=>obtain⟨s,e,C,_⟩:=h;simp at e;subst e;simp[Value.oneCell']at C
  |_=>simp[AV.single]at g
 |_=>exact⟨by simp[Value.cells],by simpa[Value.cells]using h2⟩
def fJ:∀{J:List AV} {g:List Value},RAs c J g→J.all AV.single=true→(∀v∈g,v.cells.size=1)∧(g.map λv=>v.cells.toList).flatten=g∧∀v∈g,v.oneCell'=true
 |[],[],_,_=>⟨Ψ,rfl,Ψ⟩
 |u::J,v::g,⟨h,r⟩,ha=>by
  simp only[q?,κ]at ha;obtain⟨j,p⟩:=xI h ha.1;obtain⟨P,C,l⟩:=fJ r ha.2;refine⟨λx f=>?_,by simp[j,C],λx f=>?_⟩
  ·obtain rfl|f:=C'.1 f
   ·have:=Y' List.length j;simpa using this
   ·exact P x f
  ·obtain rfl|f:=C'.1 f
   ·exact p
   ·exact l x f
def An:∀(j:List Value) (i:Nat) (f:Array Value),(∀v∈j,v.cells.size=1)→i+j.length≤f.size →
  ∃g,Instr.fill (λi=>some (i,1)) f ((List.range' i j.length).zip j)=some g∧g.toList=f.toList.take i++(j.map λv=>v.cells.toList).flatten++f.toList.drop (i+j.length)
 |[],i,f,_,h=>⟨f,by simp[Instr.fill],Ψ⟩
 |v::j,i,f,hv,h=>by
  have C:=hv v Ψ;simp at h;have l:=iT i v f Ω;have p:(v.cells.zipIdx.foldl (λJ (x:Value×Nat)=>J.setIfInBounds (i+x.2) x.1) f).size=f.size:=by rw[←Array.length_toList,l];simp;omega
  obtain⟨g,U,T⟩:=An j (i+1) (v.cells.zipIdx.foldl (λJ (x:Value×Nat)=>J.setIfInBounds (i+x.2) x.1) f) (λu P=>hv u (by simp[P])) (by rw[p];omega);refine⟨g, ?_, ?_⟩
  ·simp only[r_,U_,aiD,Instr.fill];have r:¬(v.cells.size≠1||i+v.cells.size>f.size)=true:=by
    simp[C];omega
   rw[B' r];exact U
  ·rw[T,l];have R:(f.toList.take i++v.cells.toList).length=i+1:=by
    simp[C];omega
   rw[←R,Q?,a?,C,K_];simp;rw[show i+1+j.length=i+(j.length+1)by omega]
def yf (hi:Inv B R C c)(tk:TabOk P tab){parts:Array (Nat×Operand)}(ho:o.op = .build t parts)(hv:RAs c J ((parts.toList.map (·.2)).map a.eval))(ht:tab.one t=some n)(hn:parts.size≤n)
  (hord:dU 0 (parts.toList.map (·.1))=true) (hs:J.all AV.single=true) {zs:List AV} (hzs:∀i z,P.info? t=some i→i.zero=some z→z.cells.size=n→RAs c zs (z.cells.toList.drop parts.size)∧∀v∈z.cells.toList.drop parts.size,v.oneCell'=true):Ok P B R C o a c c.heap (.agg (dF (J++zs))):=by
 obtain⟨U,i,z,f1,f2,f3,f4,f5,f6⟩:=tk.one t n ht;obtain⟨s1,s2,s3⟩:=fJ hv hs;have hvl:((parts.toList.map (·.2)).map a.eval).length=parts.size:=by simp
 obtain⟨z1,z2⟩:=hzs i z f4 f5 f6;have hzip:(parts.map λp=>(p.1,a.eval p.2)).toList=(List.range' 0 ((parts.toList.map (·.2)).map a.eval).length).zip ((parts.toList.map (·.2)).map a.eval):=by
  have h1:=qW _ 0 hord;have h2:(parts.toList.map (·.1)).length=((parts.toList.map (·.2)).map a.eval).length:=by simp
  rw[←h2,←h1,W?,ajz];simp
 obtain⟨T,e1,e2⟩:=An ((parts.toList.map (·.2)).map a.eval) 0 z.cells s1 (by rw[hvl,f6];omega);simp only[t?,t_,s2,Z',hvl]at e2;have hfill:Instr.fill ((U.map λf=>(f.offset,P.cellsOf f.type))[·]?) z.cells (parts.map λp=>(p.1,a.eval p.2)).toList=some T:=by
  rw[hzip,←e1];refine wU _ _ (λp hp=>?_);have hpl:p.1<n:=by have:=List.of_mem_zip hp;have:=List.mem_range'_1.1 this.1;omega
  have hg:U[p.1]? = some (U[p.1]'Ω):=W_ Ω;obtain⟨g1,j,g2,g3⟩:=f3 p.1 _ hg;simp[hg,g1,Program.cellsOf,g2,g3]
 have hm:∀(l:List Field) (w:World),(∀f∈l,∃j,P.info? f.type=some j)→(l.mapM (λf=>(do pure (f.offset,←sizeOf f.type):Sem (Nat×Nat)))).run P w = .ok (l.map λf=>(f.offset,P.cellsOf f.type)) w:=by
  intro l;induction l with
  |nil=>intro w _;simp
  |cons f l ih=>
   intro w r;obtain⟨j,hj⟩:=r f Ψ;have h1:(do pure (f.offset,←sizeOf f.type):Sem (Nat×Nat)).run P w = .ok (f.offset,P.cellsOf f.type) w:=by simp[sizeOf,typeInfo,hj,Program.cellsOf]
   rw[aiJ,ξ,h1,Δ,ξ,ih w (λg hg=>r g (by simp[hg])),Δ];rfl
 have r:∀f∈U.toList,∃j,P.info? f.type=some j:=by intro f hfm;obtain⟨k,hk,rfl⟩:=ajv hfm;obtain⟨_,j,g2,_⟩:=f3 k U.toList[k] Ψ;exact⟨j,g2⟩
 have hmA:(U.mapM (λf=>(do pure (f.offset,←sizeOf f.type):Sem (Nat×Nat)))).run P c.w = .ok (U.map λf=>(f.offset,P.cellsOf f.type)) c.w:=by have:=hm U.toList c.w r;rw[B?,ajc,ξ,this,Δ];exact Y' (λl=>Result.ok l c.w) (m_ Ψ)
 refine ao hi (v :=.agg T) ?_ ⟨_,by rw[←Array.toArray_toList (xs:=T),e2],RA.of_chain (hv.append z1),e8 _,λv hx=>(O'.1 hx).elim (s3 v) (z2 v)⟩;unfold execOp;simp only[ho,Instr.build,zeroValue,typeInfo,ξ,P_,f4,a_,Δ,f5,ε f1,hmA];rw[hfill];simp
def J6 (U:Inv B R C c)(l:TabOk P tab){parts:Array (Nat×Operand)}(T:o.op = .build t parts)(g:RAs c J ((parts.toList.map (·.2)).map a.eval))(p:tab.one t=some n)(j:n=parts.size)
  (f:dU 0 (parts.toList.map (·.1))=true) (r:J.all AV.single=true):Ok P B R C o a c c.heap (.agg (dF J)):=by
 have:=yf U l T g p (Nat.le_of_eq j.symm) f r (zs:=[]) (λi z _ _ h=>by
  have:z.cells.toList.drop parts.size=[]:=by rw[←j,←h];simp
  rw[this];exact⟨ans,λv g=>by cases g⟩)
 rwa[m?]at this
def F4 (hi:Inv B R C c)(l:TabOk P tab){parts:Array (Nat×Operand)}(ho:o.op = .build t parts)(g:RAs c J ((parts.toList.map (·.2)).map a.eval))(j:tab.ty t=some τ)(T:tab.one t=some n)(hn:parts.size≤n)
  (f:dU 0 (parts.toList.map (·.1))=true) (U:J.all AV.single=true):Ok P B R C o a c c.heap (.agg (dF (J++(AF τ).drop parts.size))):=by
 refine yf hi l ho g T hn f U (λi z h1 h2 _=>?_);obtain⟨i',z',r,_,p,g4,_⟩:=l.ty t τ j;rw[h1]at r;cases r;rw[h2]at p;cases p;rw[g4];exact⟨(mM τ).drop _,λv g=>(dn (w:=c.w) (St:=c.St) τ).one v (K? g)⟩
def J5 (hi:Inv B R C c)(tk:TabOk P tab){parts:Array (Nat×Operand)}(ho:o.op = .build t parts)(hv:RAs c J ((parts.toList.map (·.2)).map a.eval))(ht:tab.arr t=some n)(hn:n=parts.size)
  (U:dU 0 (parts.toList.map (·.1))=true) (hs:J.all AV.single=true):Ok P B R C o a c c.heap (.agg (dF J)):=by
 obtain⟨e,i,z,j,f1,f2,f3,f4,f5,f6⟩:=tk.arr t n ht;obtain⟨s1,s2,s3⟩:=fJ hv hs;have T:((parts.toList.map (·.2)).map a.eval).length=parts.size:=by simp
 have r:(parts.map λp=>(p.1,a.eval p.2)).toList=(List.range' 0 ((parts.toList.map (·.2)).map a.eval).length).zip ((parts.toList.map (·.2)).map a.eval):=by
  have h1:=qW _ 0 U;have h2:(parts.toList.map (·.1)).length=((parts.toList.map (·.2)).map a.eval).length:=by simp
  rw[←h2,←h1,W?,ajz];simp
 obtain⟨f,e1,e2⟩:=An ((parts.toList.map (·.2)).map a.eval) 0 z.cells s1 (by rw[T,f6];omega);simp only[t?,t_,s2,Z',T]at e2;have l:z.cells.toList.drop parts.size=[]:=by rw[←hn,←f6];simp
 rw[l,m?]at e2;have g:Instr.fill (λi=>some (i*1,1)) z.cells (parts.map λp=>(p.1,a.eval p.2)).toList=some f:=by rw[r,←e1];exact wU _ _ (λp _=>by simp)
 refine ao hi (v :=.agg f) ?_ ⟨_,by rw[←Array.toArray_toList (xs:=f),e2],RA.of_chain hv,e8 _,s3⟩;unfold execOp;have hsz:(sizeOf e).run P c.w = .ok 1 c.w:=by simp[sizeOf,typeInfo,f2,f3]
 simp only[ho,Instr.build,zeroValue,typeInfo,ξ,P_,f4,a_,Δ,f5,ε f1,hsz];rw[g];simp
def JY (hi:Inv B R C c)(r:TabOk P tab){x y:Operand}(ho:o.op = .indexAddr t x y){k f:Nat}(T:RA c (.box k f) [a.eval x]){q:IntKind}{n:Int}(J:RA c (.val (.int q) n) [a.eval y]){m:Nat}(U:tab.arr t=some m)(h0:0≤n)(h1:n<(m:Int)) :
  Ok P B R C o a c c.heap (.box k (f+n.toNat)):=by
 obtain⟨e,i,z,j,f1,f2,f3,f4,f5,f6⟩:=r.arr t m U;obtain⟨cs,p,ev⟩:=T;simp at ev;have g:=da J.val_inv;have l:(sizeOf e).run P c.w = .ok 1 c.w:=by simp[sizeOf,typeInfo,f2,f3]
 refine ao hi (v :=.pointer (some ⟨c.blk k,f+n.toNat,none⟩)) ?_ ⟨cs,p,rfl⟩;unfold execOp;simp[ho,ev,g,Instr.indexAt,ε f1,Instr.sureAddr,asIntOf,h0,h1,l,Addr.add]
def M7 (hi:Inv B R C c)(r:TabOk P tab){x:Operand}(ho:o.op = .load t x){k f:Nat}(hv:RA c (.box k f) [a.eval x]){cells:List AV}(hk:c.heap[k]? = some (.box cells))
  (ht:tab.ty t=some τ) (hst:τ.isStruct=true) {n:Nat} (hn:tab.one t=some n) (hl:((cells.drop f).take τ.size).length=n) (hs:((cells.drop f).take τ.size).all AV.single=true):Ok P B R C o a c c.heap (.agg (dF ((cells.drop f).take τ.size))):=by
 obtain⟨cs,hk',e⟩:=hv;obtain⟨l,t',h1,h2,h3⟩:=pU hi hk;have h4:=(h2.drop f).take τ.size;obtain⟨_,_,s3⟩:=fJ h4 hs;have U:((l.toList.drop f).take τ.size).length=τ.size:=by rw[←h4.length,hl];obtain⟨i,z,q1,q2,q3,q4,_⟩:=r.ty t τ ht;obtain⟨fs,i',z',f1,f2,f3,f4,f5,f6⟩:=r.one t n hn;rw[q1]at f4;cases f4;rw[q3]at f5;cases f5;rw[←f6,←Array.length_toList,q4];exact(dn (w:=c.w) (St:=c.St) τ).size
 obtain⟨v,p,g⟩:=cB r ht c.w ⟨c.blk k,f,none⟩ _ U (λj u T=>by
  rw[cN,h3,←T,K'];have hj:j<τ.size:=by
   obtain h|h:=d_ j τ.size
   ·exact h
   ·rw[K',B' Ω]at T;cases T
  rw[β hj,b_])
 have J:v = .agg ((l.toList.drop f).take τ.size).toArray:=by rw[hst]at g;simpa using g
 subst J;refine ao hi (v :=.agg ((l.toList.drop f).take τ.size).toArray) ?_ ⟨_,rfl,RA.of_chain h4,e8 _,s3⟩;unfold execOp;simp at e;simp[ho,e,Instr.loadAt,Instr.sureAddr,p]
end
end Abs
namespace Abs
open Go Go.RowKit
section
variable {P:Program}{tab:Tab}{B:Bd}{J:World}{C:Sb}{c:Gh}{o:Oper}{a:Act}
def GP:Option Value→Option Int→Prop
 |none,none=>True
 |some v,some n=>∃k,v = .int k n
 |_,_=>False
variable{r :Option Int}{τ:Ty}{t e:TypeId}{x s:Operand}{u:AV}{cl:Call}{v' :Value}{fresh:Nat}
def jT (w:World)(g:Bool)(len cap:Nat){l C:Option Value}{f :Option Int}(p:GP l f)(J:GP C r)(j:(aI f r len).1=true)(T:len≤cap) :
  (Instr.sliceBounds g len cap l C none).run P w = .ok ((aI f r len).2.1,(aI f r len).2.2,cap) w∧(aI f r len).2.1≤(aI f r len).2.2∧(aI f r len).2.2≤len:=by
 match l,f,p,C,r,J with
 |none,none,_,none,none,_=>simp[Instr.sliceBounds,aI]
 |some _,some n,⟨k,rfl⟩,none,none,_=>
  simp[aI]at j;refine⟨?_, ?_, ?_⟩
  ·simp[Instr.sliceBounds,aI,Instr.sliceBound,asIntOf,j.1,j.2]
  ·simp[aI];omega
  ·simp[aI]
 |none,none,_,some _,some m,⟨k,rfl⟩=>
  simp[aI]at j;have R:m≤(cap:Int):=Ω
  refine⟨?_, ?_, ?_⟩
  ·simp[Instr.sliceBounds,aI,Instr.sliceBound,asIntOf,j.1,R]
  ·simp[aI]
  ·simp[aI];omega
 |some _,some n,⟨k,rfl⟩,some _,some m,⟨k',rfl⟩=>
  simp[aI]at j;have R:m≤(cap:Int):=Ω
  have h3:0≤m:=Ω
  refine⟨?_, ?_, ?_⟩
  ·have h5:max m 0=m:=Ω
   have U:¬m<n:=Ω
   simp[Instr.sliceBounds,aI,Instr.sliceBound,asIntOf,h3,R,j.1.1,h5,U]
  ·simp[aI];omega
  ·simp[aI];omega
def Sv {w:World}{St:Sb}{l:List τ.den}{A:Option Addr}{cap i j:Nat}(R:Rep w St (toD (.slice τ) l) [.slice A l.length cap])(U:i≤j)(T:j≤l.length) :
  Rep w St (toD (.slice τ) ((l.take j).drop i)) [.slice (if cap=i then A else A.map (·.add (i*τ.size))) (j-i) (cap-i)]:=by
 obtain⟨A',cp,e,hc,J⟩:=dw R;cases e;have r:((l.take j).drop i).length=j-i:=by simp;omega
 refine⟨_,_,_,rfl,by rw[len_chain,r],Ω, ?_⟩;by_cases h0:j-i=0
 ·exact .inl h0
 ·obtain⟨P,ds,rfl,g,p,f⟩:=J.resolve_left Ω;rw[B' Ω];have h1:=iW j T p;have h2:=rm i Ξ h1;refine .inr ⟨_,_,rfl,(gJ P g _).2.2,h2,λk u C=>?_⟩;rw[b_,K']at C;split at C
  ·obtain⟨g1,g2⟩:=f _ _ C;obtain⟨f1,f2,_⟩:=gJ P g (i*τ.size);rw[Cw,f1,f2,O_];exact⟨g1,g2⟩
  ·cases C
def Ym (hi:Inv B J C c)(tk:TabOk P tab){g f:Option Operand}(ho:o.op = .slice t x g f none){s:AV}(hx:RA c s [a.eval x]){p:Option Int}(U:GP (g.map a.eval) p)(hhi:GP (f.map a.eval) r)
  {τ:Ty} {l:List τ.den} (hl:wv (tab.ty t) s=some ⟨τ,l⟩) (hc:(aI p r l.length).1=true) :
  Ok P B J C o a c c.heap (.val (.slice τ) ((l.take (aI p r l.length).2.2).drop (aI p r l.length).2.1)):=by
 obtain⟨ht,hv⟩:=eP hl hx;obtain⟨i,z,_,_,_,_,_,_,hu⟩:=tk.ty t _ ht;obtain⟨e,he,R,_⟩:=hu;have T:=(repv_cell (t :=.slice τ) rfl).1 hv;obtain⟨A,cp,ev,j,_⟩:=dw T;simp at ev;rw[ev]at T;obtain⟨h1,h2,h3⟩:=jT (P:=P) c.w true l.length cp U hhi hc j;refine ao hi ?_ ⟨_,rfl,(repv_cell rfl).2 (Sv T h2 h3)⟩;unfold execOp;simp[ho,ev,Instr.sliceAt,ξ,ε he,Instr.slice,h1,az tk R,a_]
def JU (hi:Inv B J C c)(tk:TabOk P tab){j f:Option Operand}(ho:o.op = .slice t x j f none){s:AV}(hx:RA c s [a.eval x]){g:Option Int}(hlo:GP (j.map a.eval) g)(hhi:GP (f.map a.eval) r)
  {l:Str} (hl:xD (tab.ty t) s=some l) (hc:(aI g r l.length).1=true) :
  Ok P B J C o a c c.heap (.val .str ((l.take (aI g r l.length).2.2).drop (aI g r l.length).2.1)):=by
 obtain⟨ht,hv⟩:=rX hl hx;obtain⟨i,z,_,_,_,_,_,_,T⟩:=tk.ty t _ ht;have T:P.underlying t=some .string:=T;obtain⟨h1,h2,h3⟩:=jT (P:=P) c.w false l.length l.length hlo hhi hc (ζ _);have U:(⟨l.toArray⟩:ByteArray).size=l.length:=by simp[ByteArray.size]
 generalize (aI g r l.length).2.1=p at *;generalize (aI g r l.length).2.2=q at *;have R:(⟨l.toArray⟩:ByteArray).extract p q=⟨((l.take q).drop p).toArray⟩:=by apply ajA;simp[akh,List.drop_take,aj8]
 refine ao hi (v :=.string ⟨((l.take q).drop p).toArray⟩) ?_ (zQ _);unfold execOp;simp[ho,hv,Instr.sliceAt,ξ,ε T,Instr.slice,U,h1,a_,R]
def Qt (T:Inv B J C c){i:Nat}(R:o.op = .extract x i){p:AV}(g:RA c (.tup p) [a.eval x])(r:p.parts[i]? = some u):Ok P B J C o a c c.heap u:=by obtain⟨cs,e,l,U⟩:=g;obtain⟨v,j,f⟩:=(l.parts U).get i u r;simp at e;refine ao T (v:=v) ?_ f;unfold execOp;simp[R,e,Instr.extract,j]
def M4 (r:Inv B J C c){f:FuncId}{first g:Array Operand}(p:o.op = .makeFunc (.func f) first g)(R:first.size=0){j:List AV}(l:RAs c j (g.toList.map a.eval)):Ok P B J C o a c c.heap (.fn f (dF j)):=by
 have:first = #[]:=aki.1 R
 subst this;refine ao r (v :=.func (.func f) #[] (g.toList.map a.eval).toArray) ?_ ⟨_,rfl,RA.of_chain l,e8 j⟩;have e:g.map a.eval=(g.toList.map a.eval).toArray:=m_ Ψ;unfold execOp;simp[p,Instr.makeFunc,e]
def xF {l:List τ.den}{v:Value}(h:RepV c.w c.St (.slice τ) l v):∃A r p,v = .slice A l.length r∧Rep c.w c.St (chain (toD τ) l) p∧p.length=l.length*τ.size∧(l.length=0∨∃C,A=some C∧∀j u,p[j]? = some u→c.w.cell? (C.add j)=some u):=by
 obtain⟨A,r,ev,P,J⟩:=dw ((repv_cell (t :=.slice τ) rfl).1 h);simp at ev;obtain h0|⟨C,p,rfl,_,f,g⟩:=J
 ·have:l=[]:=U' h0;subst this;exact⟨A,r,[],ev,rfl,Ψ,.inl rfl⟩
 ·exact⟨_,r,p,ev,f,bh f,.inr ⟨C,rfl,λj u R=>(g j u R).1⟩⟩
def nW {n bytes:Nat}(h:n≤LIM)(f:bytes≤16384):n≤maxLen∧n*bytes≤140737488355328:=by unfold LIM at h;refine⟨by simp[maxLen];omega, ?_⟩;have:n*bytes≤4294967296*16384:=Nat.mul_le_mul h f;omega
def fX (r:o.op = .call cl)(l:cl.callee = .builtin .append)(f:cl.args = #[s,x])(j:cl.argTypes = #[t,t]){w p:World}
  (g:(Builtin.append_ #[t,t] o.type #[a.eval s,a.eval x]).run P w = .ok v' p):(execOp a.eval o).run P w = .ok (.value v') p:=by
 unfold execOp;simp[r,resolve,l,f,j,invoke,builtin,g]
def zV {f:World}{St':Sb}{l:List τ.den}{n:Nat}{J:List Value}(C:f.ownsRow B e τ.size v' n J)(p:Rep f St' (chain (toD τ) l) J)(T:l.length=n)
  (r:∀b o,v'.ownBlock=some b→o<n*τ.size→St' b o):Rep f St' (toD (.slice τ) l) [v']:=by
 subst T;rcases C.2 with⟨q1,q2⟩|⟨g,cap,U,q1,q2,q3,R,q5,_⟩
 ·rw[q1];have:l=[]:=U' q2;rw[this];exact⟨none,0,0,rfl,rfl,ζ _,.inl rfl⟩
 ·subst q1;refine⟨_,_,_,rfl,by rw[len_chain],R,.inr ⟨_,_,rfl,rfl,p,λj u P=>⟨C.cells (g:=g) rfl j u P, ?_⟩⟩⟩;have:=ak P;rw[C.1]at this;exact r _ _ rfl (by simpa using this)
def vT (hi:Inv B J C c)(tk:TabOk P tab)(ho:o.op = .call cl)(hcl:cl.callee = .builtin .append)(hargs:cl.args = #[s,x])(hty:cl.argTypes = #[t,t]){k v:Nat}{l l':List τ.den}
  (hs:RA c (.own k v τ l) [a.eval s]) (hx:∃A cp U,a.eval x = .slice A l'.length cp∧Rep c.w c.St (chain (toD τ) l') U∧U.length=l'.length*τ.size∧(l'.length=0∨∃ad,A=some ad∧∀j u,U[j]? = some u→c.w.cell? (ad.add j)=some u)) (ht:tab.ty t=some (.slice τ)) (he:tab.elem t=some e) (hk:c.heap[k]? = some (.row τ e v)) (hlim:l.length+l'.length≤LIM) :
  Ok P B J C o a c (c.heap.set k (.row τ e (v+1))) (.own k (v+1) τ (l++l')):=by
 obtain⟨i,z,_,_,_,_,_,_,hu⟩:=tk.ty t _ ht;obtain⟨e',u1,u2,u3,hpos⟩:=hu;have:e'=e:=by rw[he]at u3;exact(π u3).symm
 subst this;obtain⟨ie,ze,t1,t2,t3,t4,t5,_⟩:=tk.ty e' τ u2;obtain⟨sv,es,hsv,tt,te,vv,r,_,hcur⟩:=hs;simp at es;rw[hk]at r;injection r with r;injection r with r1 r2 r3;have p:sv=c.rv k:=hcur r3.symm;obtain⟨n,xs,f,hsp⟩:=hi.row k τ e' v hk;have hn:n=l.length∧Rep c.w c.St (chain (toD τ) l) xs:=by
  obtain⟨A,cp,ev,hcap,hds⟩:=dw ((repv_cell (t :=.slice τ) rfl).1 hsv);simp at ev;rcases f.2 with⟨h1,T⟩|⟨g,cap,cur,h1,_⟩
  ·rw[←p,ev]at h1;injection h1 with _ h3 _;have:l=[]:=U' h3;subst this;have hx0:xs=[]:=U' (by rw[f.1,T];simp);subst hx0;exact⟨T,rfl⟩
  ·rw[←p,ev]at h1;injection h1 with T h3 _;refine⟨h3.symm, ?_⟩;obtain h0|⟨ad,U,hA,_,R,hcell⟩:=hds
   ·have:l=[]:=U' h0;subst this;have hx0:xs=[]:=U' (by rw[f.1,←h3];simp);subst hx0;rfl
   ·rw[hA]at T;cases T;have hc2:=f.cells (g:=g) (by rw[←p,ev,hA];rfl);have hdx:U=xs:=by
     apply X_;intro j;have hl1:=bh R;have hl2:xs.length=U.length:=by rw[f.1,hl1,h3]
     by_cases hj:j<U.length
     ·have e1:=(hcell j U[j] (δ hj)).1;have e2:=hc2 j xs[j] (δ Ω);rw[δ hj,δ (by omega:j<xs.length),←e1,←e2]
     ·rw[u_ Ω,u_ Ω]
    rw[←hdx];exact R
 obtain⟨rfl,R⟩:=hn;obtain⟨A,cp,U,ex,hrx,hdl,hsrc⟩:=hx;obtain⟨r63,rby⟩:=nW hlim t5;obtain⟨v',w',hrun,T,h3,h4,h5,hd⟩:=cV (P:=P) (B:=B) c.w t o.type e' ie ze τ.size ie.bytes u1 t1 t3 t2 rfl (by rw[←Array.length_toList,t4,←(dn (w:=c.w) (St:=c.St) τ).size]) hpos (c.rv k) l.length xs f A l'.length cp U hdl hsrc hrx.one r63 rby hi.size;obtain⟨hI,hE⟩:=hi.appendRow hk f hsp T h3 h4 h5 hd;refine db (v:=v') (fX ho hcl hargs hty (by rw[es,p,ex];exact hrun)) rfl hI hE ⟨v',rfl,(repv_cell rfl).2 ?_,τ,e',v+1, ?_,ζ _,λ_=>by simp⟩
 ·exact zV T (fC (R.mono hE.st hE.cell) (hrx.mono hE.st hE.cell)) Ψ (λb o h1 T=>.inr ⟨h1,T⟩)
 ·show(c.heap.set k _)[k]? = _;rw[get_set,β rfl,β (ak hk)]
def nB (hi:Inv B J C c)(tk:TabOk P tab)(ho:o.op = .call cl)(hcl:cl.callee = .builtin .append)(r:cl.args = #[s,x])(hty:cl.argTypes = #[t,t]){l:List τ.den}
  (hs:RA c .nil [a.eval s]) (hx:∃A cp R,a.eval x = .slice A l.length cp∧Rep c.w c.St (chain (toD τ) l) R∧R.length=l.length*τ.size∧(l.length=0∨∃ad,A=some ad∧∀j u,R[j]? = some u→c.w.cell? (ad.add j)=some u)) (ht:tab.ty t=some (.slice τ)) (he:tab.elem t=some e) (hf:c.heap[fresh]? = some .none) (hlim:l.length≤LIM) :
  Ok P B J C o a c (c.heap.set fresh (.row τ e 1)) (.own fresh 1 τ l):=by
 obtain⟨hI,hE⟩:=hi.addRow (k:=fresh) (n:=0) (t:=τ) (e:=e) (s :=.slice none 0 0) (xs:=[]) hf (M_ _ _ _ _) (λb f=>by simp[Value.ownBlock]at f) (λk' b f=>by simp[Value.ownBlock]at f) (λb f=>by simp[Value.ownBlock]at f) (λb f=>by simp[Value.ownBlock]at f);obtain⟨i,z,_,_,_,_,_,_,hu⟩:=tk.ty t _ ht;obtain⟨p,u1,u2,u3,hpos⟩:=hu;have:p=e:=by rw[he]at u3;exact(π u3).symm
 subst this;obtain⟨ie,ze,t1,t2,t3,t4,t5,_⟩:=tk.ty p τ u2;obtain⟨A,cp,R,ex,U,hdl,T⟩:=hx;obtain⟨r63,rby⟩:=nW hlim t5;have hs:[a.eval s]=[.slice none 0 0]:=hs;simp at hs;obtain⟨v',w',hrun,h2,h3,h4,h5,hd⟩:=cV (P:=P) (B:=B) c.w t o.type p ie ze τ.size ie.bytes u1 t1 t3 t2 rfl (by rw[←Array.length_toList,t4,←(dn (w:=c.w) (St:=c.St) τ).size]) hpos (.slice none 0 0) 0 [] (M_ _ _ _ _) A l.length cp R hdl T U.one (by simpa using r63) (by simpa using rby) hi.size;have hk:(c.heap.set fresh (.row τ p 0))[fresh]? = some (.row τ p 0):=by rw[get_set,β rfl,β (ak hf)]
 obtain⟨hJ,hF⟩:=hI.appendRow (k:=fresh) (v:=0) (n:=0) (m:=l.length) (t:=τ) (e:=p) (s':=v') (w':=w') (xs:=[]) (news:=R) hk (by simpa using M_ c.w B p τ.size) (λb f=>by simp[Value.ownBlock]at f)
  h2 (by simpa using h3) (by simpa using h4) (λg hg=>by simp[Value.ownBlock]at hg) hd
 refine db (v:=v') (fX ho hcl r hty (by rw[hs,ex];exact hrun)) ?_ hJ (hE.trans hF) ⟨v',rfl,(repv_cell rfl).2 ?_,τ,p,1, ?_,ζ _,λ_=>by simp⟩
 ·simp
 ·exact zV h2 (by simpa using(U.mono hE.st hE.cell).mono hF.st hF.cell) Ψ (λb o h1 h2=>.inr ⟨h1,h2⟩)
 ·show((c.heap.set fresh _).set fresh _)[fresh]? = _;rw[get_set,β rfl,β (by simpa using ak hf)]
def Vb (hi:Inv B J C c)(T:TabOk P tab)(ho:o.op = .call cl)(R:cl.callee = .builtin .append)(f:cl.args = #[s,x])(r:cl.argTypes = #[t,t]){k v:Nat}{l j:List τ.den}
  (hs:RA c (.own k v τ l) [a.eval s]) (U:RA c u [a.eval x]) (hl:wv (tab.ty t) u=some ⟨τ,j⟩) (he:tab.elem t=some e) (hk:c.heap[k]? = some (.row τ e v)) (g:l.length+j.length≤LIM) :
  Ok P B J C o a c (c.heap.set k (.row τ e (v+1))) (.own k (v+1) τ (l++j)):=by
 obtain⟨ht,p⟩:=eP hl U;exact vT hi T ho R f r hs (xF p) ht he hk g
def F7 (hi:Inv B J C c)(R:TabOk P tab)(ho:o.op = .call cl)(r:cl.callee = .builtin .append)(f:cl.args = #[s,x])(p:cl.argTypes = #[t,t]){j:List τ.den}
  (hs:RA c .nil [a.eval s]) (T:RA c u [a.eval x]) (hl:wv (tab.ty t) u=some ⟨τ,j⟩) (he:tab.elem t=some e) (hf:c.heap[fresh]? = some .none) (g:j.length≤LIM) :
  Ok P B J C o a c (c.heap.set fresh (.row τ e 1)) (.own fresh 1 τ j):=by
 obtain⟨U,l⟩:=eP hl T;exact nB hi R ho r f p hs (xF l) U he hf g
end
end Abs
