/- What the steps of the model's memory. -/
import Derived.Test.YthfdnklcgfkjoaaGreatDoorAl
import Derived.Calls
import Derived.Orders
import Derived.Below
import Derived.Maps.AppendAt
import Derived.Laws.StructEq
import Derived.KernelRfl
import Derived.RangeFuncOwn
set_option linter.all false
namespace Go.Proofs.YthfdnklcgfkjoaaGreatDoor.Abs
open Go Go.RowKit
abbrev Str:=List UInt8
inductive Tree where
 |mk (kind:Int) (text:Str) (leads:List Str) (kids:List Tree)
inductive Ty where
 |int (k:IntKind)|bool|str|slice (t:Ty)|unit|cons (a b:Ty)|tree|jsl (e:TypeId)
 deriving DecidableEq
abbrev Ty.den:Ty→Type
 |.int _=>Int
 |.bool=>Bool
 |.str=>Str
 |.slice t=>List t.den
 |.unit=>Unit
 |.cons a b=>a.den×b.den
 |.tree=>Tree
 |.jsl _=>Nat
inductive D where
 |sc (v:Value)|nil|cons (a b:D)|sl (d:D)|jk (e:TypeId) (n:Nat)
def D.len:D→Nat
 |.cons _ b=>b.len+1
 |_=>0
def chain {U:Type}(f:U→D):List U→D
 |[]=>.nil
 |x::l=>.cons (f x) (chain f l)
def Y6 (s:Str):D :=.sc (.string ⟨s.toArray⟩)
mutual
def sS:Tree→D
 |.mk k t f g=>.cons (.sc (.int .i64 k)) (.cons (Y6 t) (.cons (.sl (chain Y6 f)) (.cons (.sl (tq g)) .nil)))
def tq:List Tree→D
 |[]=>.nil
 |t::ts=>.cons (sS t) (tq ts)
end
def toD:(t:Ty)→t.den→D
 |.int k,n=>.sc (.int k n)
 |.bool,b=>.sc (.bool b)
 |.str,s=>Y6 s
 |.slice t,l=>.sl (chain (toD t) l)
 |.unit,_=>.nil
 |.cons a b,x=>.cons (toD a x.1) (toD b x.2)
 |.tree,t=>sS t
 |.jsl e,n=>.jk e n
def i9 (l:List Tree):tq l=chain sS l:=by
 induction l with
 |nil=>simp[tq,chain]
 |cons t g f=>simp[tq,chain,f]
def len_chain {U:Type}(f:U→D)(l:List U):(chain f l).len=l.length:=by
 induction l with
 |nil=>rfl
 |cons x l g=>simp[chain,D.len,g]
def Ty.size:Ty→Nat
 |.unit=>0
 |.cons a b=>a.size+b.size
 |.tree=>4
 |_=>1
def Ty.isStruct:Ty→Bool
 |.unit|.cons _ _|.tree=>true
 |_=>false
structure Sb where
 s:Nat→Nat→Prop
 j:Nat→TypeId→Nat→Nat→Prop:=λ_ _ _ _=>False
instance:CoeFun Sb λ_=>Nat→Nat→Prop:=⟨Sb.s⟩
structure Sb.le (a b:Sb):Prop where
 s:∀x o,a.s x o→b.s x o
 j:∀x e c n,a.j x e c n→b.j x e c n
def Sb.le.refl (a:Sb):a.le a:=⟨λ_ _ h=>h,λ_ _ _ _ h=>h⟩
def Sb.le.trans {a b c:Sb}(h:a.le b)(k:b.le c):a.le c:=⟨λ_ _ x=>k.s _ _ (h.s _ _ x),λ_ _ _ _ x=>k.j _ _ _ _ (h.j _ _ _ _ x)⟩
def Rep (w:World)(St:Sb):D→List Value→Prop
 |.sc v,f=>f=[v]∧v.oneCell'=true
 |.nil,f=>f=[]
 |.cons a b,f=>∃c1 c2,f=c1++c2∧Rep w St a c1∧Rep w St b c2
 |.sl d,f=>∃A n c,f=[.slice A n c]∧n=d.len∧n≤c ∧
   (n=0∨∃g l,A=some g∧g.spot=none∧Rep w St d l∧∀j u,l[j]? = some u→w.cell? (g.add j)=some u∧St g.block (g.off+j))
 |.jk e n,f=>∃A c,f=[.slice A n c]∧((A=none∧n=0∧c=0)∨∃b,A=some ⟨b,0,none⟩∧St.j b e c n)
def Rep.one {w:World}{St:Sb}:∀{d:D} {g:List Value},Rep w St d g→∀u∈g,u.oneCell'=true
 |.sc v,g,h,u,f=>by obtain⟨rfl,j⟩:=h;simp at f;rw[f];exact j
 |.nil,g,h,u,f=>by have h:g=[]:=h;subst h;simp at f
 |.cons a b,g,h,u,f=>by
  obtain⟨c1,c2,rfl,p,l⟩:=h;obtain j|j:=Q'.1 f
  ·exact p.one u j
  ·exact l.one u j
 |.sl d,g,h,u,f=>by obtain⟨A,n,c,rfl,_⟩:=h;simp at f;rw[f];rfl
 |.jk e n,g,h,u,f=>by obtain⟨A,c,rfl,_⟩:=h;simp at f;rw[f];rfl
def Rep.mono {w w':World}{St St':Sb}(l:St.le St')
  (C:∀(a:Addr) v,St a.block a.off→a.spot=none→w.cell? a=some v→w'.cell? a=some v) :
  ∀{d:D} {r:List Value},Rep w St d r→Rep w' St' d r
 |.sc _,_,h=>h
 |.nil,_,h=>h
 |.cons a b,r,h=>by obtain⟨c1,c2,rfl,ha,p⟩:=h;exact⟨c1,c2,rfl,ha.mono l C,p.mono l C⟩
 |.sl d,r,h=>by
  obtain⟨A,n,c,rfl,U,P,h⟩:=h;refine⟨A,n,c,rfl,U,P, ?_⟩;obtain h|⟨g,ds,rfl,J,hd,f⟩:=h
  ·exact .inl h
  ·refine .inr ⟨g,ds,rfl,J,hd.mono l C,λj u T=>?_⟩;obtain⟨h1,R⟩:=f j u T;have p:(g.add j).block=g.block∧(g.add j).off=g.off+j∧(g.add j).spot=none:=by
    unfold Addr.add;split <;> simp_all
   exact⟨C _ _ (by rw[p.1,p.2.1];exact R) p.2.2 h1,l.s _ _ R⟩
 |.jk e n,r,h=>by obtain⟨A,c,rfl,h⟩:=h;exact⟨A,c,rfl,h.imp id λ⟨b,e1,e2⟩=>⟨b,e1,l.j _ _ _ _ e2⟩⟩
mutual
def T3 {w:World}{St:Sb}:∀{t:Tree} {f:List Value},Rep w St (sS t) f→f.length=4
 |.mk k t j l,f,h=>by simp only[sS,Y6,Rep]at h;obtain⟨c1,c2,rfl,⟨rfl,_⟩,c3,c4,rfl,⟨rfl,_⟩,c5,c6,rfl,⟨A,n,c,rfl,_⟩,c7,c8,rfl,⟨r,g,p,rfl,_⟩,rfl⟩:=h;rfl
end
def Rep.size {w:World}{St:Sb}:∀{t:Ty} {x:t.den} {cs:List Value},Rep w St (toD t x) cs→cs.length=t.size
 |.int _,_,_,h=>by obtain⟨rfl,_⟩:=h;rfl
 |.bool,_,_,h=>by obtain⟨rfl,_⟩:=h;rfl
 |.str,_,_,h=>by obtain⟨rfl,_⟩:=h;rfl
 |.slice _,_,_,h=>by obtain⟨A,n,c,rfl,_⟩:=h;rfl
 |.unit,_,_,h=>by have h:_=[]:=h;subst h;rfl
 |.cons a b,x,_,h=>by obtain⟨c1,c2,rfl,g,f⟩:=h;simp[Ty.size,g.size,f.size]
 |.tree,_,_,h=>T3 h
 |.jsl _,_,_,h=>by obtain⟨A,c,rfl,_⟩:=h;rfl
def D.nojk:D→Bool
 |.jk _ _=>false
 |.cons a b=>a.nojk&&b.nojk
 |.sl d=>d.nojk
 |_=>true
def Ty.nojk:Ty→Bool
 |.jsl _=>false
 |.slice t=>t.nojk
 |.cons a b=>a.nojk&&b.nojk
 |_=>true
def yz {U:Type}{f:U→D}:∀{l:List U},(∀x∈l,(f x).nojk=true)→(chain f l).nojk=true
 |[],_=>rfl
 |x::l,h=>by simp[chain,D.nojk,h x (c_ ..),yz λy g=>h y (C' _ g)]
mutual
def KO:∀t:Tree,(sS t).nojk=true
 |.mk k t g j=>by simp[sS,D.nojk,Y6,yz (f:=Y6) (l:=g) λ_ _=>rfl,GY j]
def GY:∀f:List Tree,(tq f).nojk=true
 |[]=>rfl
 |t::f=>by simp[tq,D.nojk,KO t,GY f]
end
def An:∀{t:Ty} (x:t.den),t.nojk=true→(toD t x).nojk=true
 |.int _,_,_=>rfl
 |.bool,_,_=>rfl
 |.str,_,_=>rfl
 |.unit,_,_=>rfl
 |.jsl _,_,h=>by cases h
 |.tree,x,_=>KO x
 |.slice t,l,h=>yz λx _=>An x h
 |.cons a b,x,h=>by simp[Ty.nojk]at h;simp[toD,D.nojk,An x.1 h.1,An x.2 h.2]
def Rep.nj {w:World}{St St':Sb}(l:∀b o,St b o→St' b o):∀{d:D} {p:List Value},d.nojk=true→Rep w St d p→Rep w St' d p
 |.sc _,_,_,h=>h
 |.nil,_,_,h=>h
 |.cons a b,p,g,h=>by simp[D.nojk]at g;obtain⟨c1,c2,rfl,U,T⟩:=h;exact⟨c1,c2,rfl,U.nj l g.1,T.nj l g.2⟩
 |.sl d,p,g,h=>by
  obtain⟨A,n,c,rfl,R,C,h⟩:=h;refine⟨A,n,c,rfl,R,C, ?_⟩;obtain h|⟨ad,ds,rfl,r,J,f⟩:=h
  ·exact .inl h
  ·exact .inr ⟨ad,ds,rfl,r,J.nj l g,λj u P=>⟨(f j u P).1,l _ _ (f j u P).2⟩⟩
 |.jk _ _,_,g,_=>by cases g
def RepV (w:World)(St:Sb)(t:Ty)(x:t.den)(v:Value):Prop :=
 if t.isStruct then ∃f,v = .agg f.toArray∧Rep w St (toD t x) f else Rep w St (toD t x) [v]
def RepV.cells {w:World}{St:Sb}{t:Ty}{x:t.den}{v:Value}(h:RepV w St t x v):Rep w St (toD t x) v.cells.toList:=by
 unfold RepV at h;split at h
 ·obtain⟨g,rfl,h⟩:=h;simpa[Value.cells]using h
 ·have f:=h.one v Ψ;have:v.cells = #[v]:=by cases v <;> simp_all[Value.oneCell',Value.cells]
  rw[this];exact h
def RepV.mono {w w':World}{St St':Sb}(f:St.le St')
  (g:∀(a:Addr) v,St a.block a.off→a.spot=none→w.cell? a=some v→w'.cell? a=some v) {t:Ty} {x:t.den} {v:Value} (h:RepV w St t x v):RepV w' St' t x v:=by
 unfold RepV at *;split
 next ht=>simp[ht]at h;obtain⟨j,rfl,h⟩:=h;exact⟨j,rfl,h.mono f g⟩
 next ht=>simp[ht]at h;exact Rep.mono f g h
def RepV.nj {w:World}{St St':Sb}(f:∀b o,St b o→St' b o){t:Ty}{x:t.den}{v:Value}(j:t.nojk=true)(h:RepV w St t x v):RepV w St' t x v:=by
 have g:=An x j;unfold RepV at *;split
 next q=>simp[q]at h;obtain⟨l,rfl,h⟩:=h;exact⟨l,rfl,h.nj f g⟩
 next q=>simp[q]at h;exact Rep.nj f g h
variable{w R:World}{St J:Sb}{v:Value}{F:Nat→Prop}{b:Nat}{e:TypeId}
def dI {t:Ty}{l:List t.den}{p:List Value}(h:Rep w St (toD (.slice t) l) p) :
  ∃A c,p=[.slice A l.length c]∧l.length≤c∧(l.length=0∨∃f g,A=some f∧f.spot=none∧Rep w St (chain (toD t) l) g∧∀j u,g[j]? = some u→w.cell? (f.add j)=some u∧St f.block (f.off+j)):=by
 simp only[toD,Rep,len_chain]at h;obtain⟨A,n,c,rfl,rfl,r,h⟩:=h;exact⟨A,c,rfl,r,h⟩
def u6 {w:World}{St:Sb}{t:Ty}:∀{l:List t.den} {f:List Value},Rep w St (chain (toD t) l) f→∀i (h:i<l.length),
  Rep w St (toD t l[i]) ((f.drop (i*t.size)).take t.size)
 |[],_,_,i,h=>absurd h Ψ
 |x::l,f,hr,i,h=>by
  obtain⟨c1,c2,rfl,j,p⟩:=hr;have g:=j.size;cases i with
  |zero=>simp;rw[←g,o?];exact j
  |succ i =>have:=u6 p i (by simpa using h);rw[show(i+1)*t.size=c1.length+i*t.size by rw[F_,g];omega,a?];simpa using this
def ba {w:World}{St:Sb}{t:Ty}:∀{l:List t.den} {f:List Value},Rep w St (chain (toD t) l) f→f.length=l.length*t.size
 |[],f,h=>by have h:f=[]:=h;subst h;simp
 |x::l,f,h=>by obtain⟨c1,c2,rfl,j,g⟩:=h;simp[j.size,ba g,F_,U?]
def dx {w:World}{St:Sb}{t:Ty}:∀{l j:List t.den} {g f:List Value},Rep w St (chain (toD t) l) g→Rep w St (chain (toD t) j) f→Rep w St (chain (toD t) (l++j)) (g++f)
 |[],_,g,_,h,p=>by have h:g=[]:=h;subst h;simpa using p
 |x::l,j,g,f,h,p=>by obtain⟨c1,c2,rfl,C,r⟩:=h;exact⟨c1,c2++f,Ψ,C,dx r p⟩
def jt {w:World}{St:Sb}{t:Ty}:∀{l:List t.den} {f:List Value} (k:Nat),k≤l.length→Rep w St (chain (toD t) l) f→Rep w St (chain (toD t) (l.drop k)) (f.drop (k*t.size))
 |l,f,0,_,h=>by simpa using h
 |[],f,k+1,hk,h=>by simp at hk
 |x::l,f,k+1,hk,h=>by obtain⟨c1,c2,rfl,j,g⟩:=h;have:=jt k (by simpa using hk) g;rw[show(k+1)*t.size=c1.length+k*t.size by rw[F_,j.size];omega,a?];simpa using this
def fJ {w:World}{St:Sb}{t:Ty}:∀{l:List t.den} {f:List Value} (k:Nat),k≤l.length→Rep w St (chain (toD t) l) f→Rep w St (chain (toD t) (l.take k)) (f.take (k*t.size))
 |l,f,0,_,h=>by simp[chain,Rep]
 |[],f,k+1,hk,h=>by simp at hk
 |x::l,f,k+1,hk,h=>by obtain⟨c1,c2,rfl,g,j⟩:=h;have:=fJ k (by simpa using hk) j;rw[show(k+1)*t.size=c1.length+k*t.size by rw[F_,g.size];omega];refine⟨c1,c2.take (k*t.size), ?_,g,this⟩;rw[ar9]
open Go Go.RowKit
inductive AV where
 |unk
 |val (t:Ty) (x:t.den)
 |nil
 |own (k v:Nat) (t:Ty) (l:List t.den)
 |ref (t:Ty) (x:t.den)
 |box (k off:Nat)
 |fn (f:FuncId) (caps:AV)
 |agg (parts:AV)
 |tup (parts:AV)
 |pnil
 |pcons (a b:AV)
 |cond (c:Bool) (a:AV)
 |msl (k v lo hi:Nat)
 |mpt (k v i off:Nat)
 |yld (j:Nat)
 |fix (C:Nat→Nat→Prop) (w:World)
inductive HO where
 |none
 |box (cells:List AV)
 |row (t:Ty) (e:TypeId) (ver:Nat)
 |mrow (t:Ty) (e:TypeId) (ver:Nat) (l:List t.den)
 |dead
def AV.nojk:AV→Bool
 |.val t _|.own _ _ t _|.ref t _=>t.nojk
 |.fn _ p|.agg p|.tup p=>p.nojk
 |.pcons a b=>a.nojk&&b.nojk
 |.cond _ a=>a.nojk
 |_=>true
structure Sg where
 env:List AV
 heap:List HO
def az (a b:Bool):Bool:=match b with|true=>true|false=>!a
def aD (a:Bool):az a a=true:=by cases a <;> rfl
def bf (a:Bool):az a true=true:=rfl
def pZ (a:Bool):az true a=a:=by cases a <;> rfl
def yJ (a:Bool):az false a=true:=by cases a <;> rfl
def cast? (t f:Ty)(x:t.den):Option f.den:=if h:t=f then some (h ▸ x)else none
def Ty.fields:Ty→List Ty
 |.cons a b=>a::b.fields
 |.tree=>[.int .i64,.str,.slice .str,.slice .tree]
 |_=>[]
def zero:(t:Ty)→t.den
 |.int _=>(0:Int)
 |.bool=>false
 |.str=>([]:Str)
 |.slice _=>[]
 |.unit=>()
 |.cons a b=>(zero a,zero b)
 |.tree=>Tree.mk 0 [] [] []
 |.jsl _=>(0:Nat)
def Tree.kind:Tree→Int|.mk k _ _ _=>k
def Tree.text:Tree→Str|.mk _ t _ _=>t
def Tree.leads:Tree→List Str|.mk _ _ l _=>l
def Tree.kids:Tree→List Tree|.mk _ _ _ k=>k
def qu:(t:Ty)→t.den→Nat→Option ((f:Ty)×f.den)
 |.cons a _,x,0=>some ⟨a,x.1⟩
 |.cons _ b,x,i+1=>qu b x.2 i
 |.tree,x,0=>some ⟨.int .i64,x.kind⟩
 |.tree,x,1=>some ⟨.str,x.text⟩
 |.tree,x,2=>some ⟨.slice .str,x.leads⟩
 |.tree,x,3=>some ⟨.slice .tree,x.kids⟩
 |_,_,_=>none
def flat:(t:Ty)→t.den→List AV
 |.int k,x=>[.val (.int k) x]
 |.bool,x=>[.val .bool x]
 |.str,x=>[.val .str x]
 |.slice t,x=>[.val (.slice t) x]
 |.unit,_=>[]
 |.cons a b,x=>flat a x.1++flat b x.2
 |.tree,x=>[.val (.int .i64) x.kind,.val .str x.text,.val (.slice .str) x.leads,.val (.slice .tree) x.kids]
 |.jsl e,x=>[.val (.jsl e) x]
def C1:Ty→List AV
 |.int k=>[.val (.int k) (0:Int)]
 |.bool=>[.val .bool false]
 |.str=>[.val .str ([]:Str)]
 |.slice _=>[.nil]
 |.unit=>[]
 |.cons a b=>C1 a++C1 b
 |.tree=>[.val (.int .i64) (0:Int),.val .str ([]:Str),.nil,.nil]
 |.jsl _=>[.nil]
def one? (t:Ty):AV→Option t.den
 |.val f x=>cast? f t x
 |.nil=>match t with|.slice _=>some []|.jsl _=>some (0:Nat)|_=>none
 |.own _ _ f l=>cast? (.slice f) t l
 |_=>none
def asm:(t:Ty)→List AV→Option t.den
 |.unit,[]=>some ()
 |.cons a b,l=>match asm a (l.take a.size),asm b (l.drop a.size)with|some x,some y=>some (x,y)|_,_=>none
 |.tree,[a,b,c,d]=>match one? (.int .i64) a,one? .str b,one? (.slice .str) c,one? (.slice .tree) d with
  |some k,some t,some f,some g=>some (Tree.mk k t f g)
  |_,_,_,_=>none
 |.int k,[a]=>one? (.int k) a
 |.bool,[a]=>one? .bool a
 |.str,[a]=>one? .str a
 |.slice t,[a]=>one? (.slice t) a
 |.jsl e,[a]=>one? (.jsl e) a
 |_,_=>none
def AV.parts:AV→List AV
 |.pcons a b=>a::b.parts
 |_=>[]
def aF:List AV→AV
 |[]=>.pnil
 |a::l=>.pcons a (aF l)
def dat? (t:Ty):AV→Option t.den
 |.agg p=>if t.isStruct then asm t p.parts else none
 |a=>one? t a
def AV.solid:AV→Bool
 |.cond _ _|.unk|.tup _|.pcons _ _|.pnil|.fix _ _=>false
 |_=>true
def AV.single:AV→Bool
 |.nil|.own _ _ _ _|.ref _ _|.box _ _|.fn _ _|.msl _ _ _ _|.mpt _ _ _ _|.yld _=>true
 |.val t _=>!t.isStruct
 |_=>false
def cellsOf:AV→List AV
 |.val t x=>flat t x
 |.agg p=>p.parts
 |a=>[a]
def CO:Value→AV
 |.int k n=>.val (.int k) n
 |.bool b=>.val .bool b
 |.string s=>.val .str s.data.toList
 |.slice none 0 0=>.nil
 |_=>.unk
def Ol:Value→AV
 |.agg f=>match (f.toList.map CO).all AV.single with
  |true=>.agg (aF (f.toList.map CO))
  |false=>.unk
 |v=>CO v
def QP (env:List AV):Operand→AV
 |.tmp t=>env.getD t .unk
 |.const v=>Ol v
 |.func f=>.fn f .pnil
 |.global _=>.unk
structure Tab where
 ty:TypeId→Option Ty
 cells:TypeId→Option Nat
 offs:TypeId→Nat→Option Nat
 elem:TypeId→Option TypeId
 one:TypeId→Option Nat
 inp:TypeId→Bool
 arr:TypeId→Option Nat
structure Rw where
 t:Ty
 e:TypeId
 F:List t.den→List AV→Option (Bool×List t.den)
structure Nw where
 t:Ty
 e:TypeId
 F:List AV→Option (Bool×List t.den)
structure Specs where
 call:FuncId→List AV→Option (Bool×AV)
 rd:FuncId→List AV→List AV→Option (Bool×AV):=λ_ _ _=>none
 wr:FuncId→Bool:=λ_=>false
 bx:FuncId→List AV→List AV→Option (Bool×List AV×AV):=λ_ _ _=>none
 rb:FuncId→Option Rw:=λ_=>none
 nw:FuncId→Option Nw:=λ_=>none
def amI (T:Specs):Operand→Bool
 |.func f=>(T.nw f).isSome
 |_=>false
def YF (T:Specs):Operand→Bool
 |.func f=>T.wr f
 |_=>false
def uu (x y:Int):Int:=if y>x then y else x
def LIM:Nat:=4294967296
def an0:Nat:=9223372036854775807
def yh (tt:Option Ty)(s:AV):Option ((t:Ty)×List t.den) :=
 match tt with
 |some (.slice t)=>match one? (.slice t) s with
  |some l=>some ⟨t,l⟩
  |none=>none
 |_=>none
def zo (tt:Option Ty)(s:AV):Option Str :=
 match tt with
 |some .str=>one? .str s
 |_=>none
def acE (k:IntKind)(a b:Int):Int:=k.wrap (a*2^(min b.toNat k.bits))
def aV (k:IntKind)(a b:Int):Int:=a.fdiv (2^(min b.toNat k.bits))
def aoR (k:IntKind)(a b:Int):Int:=k.wrap ((BitVec.ofInt k.bits a &&& BitVec.ofInt k.bits b).toNat:Int)
def orI (k:IntKind)(a b:Int):Int:=k.wrap ((BitVec.ofInt k.bits a ||| BitVec.ofInt k.bits b).toNat:Int)
def an7 (k:IntKind)(a b:Int):Int:=k.wrap ((BitVec.ofInt k.bits a ^^^ BitVec.ofInt k.bits b).toNat:Int)
def Vm (op:BinOp)(k:IntKind)(a b:Int):Option (Bool×AV) :=
 match op with
 |.add=>some (true,.val (.int k) (k.wrap (a+b)))
 |.sub=>some (true,.val (.int k) (k.wrap (a-b)))
 |.mul=>some (true,.val (.int k) (k.wrap (a*b)))
 |.quo=>some (!decide (b=0),.val (.int k) (k.wrap (a.tdiv b)))
 |.rem=>some (!decide (b=0),.val (.int k) (a.tmod b))
 |.and=>some (true,.val (.int k) (aoR k a b))
 |.or=>some (true,.val (.int k) (orI k a b))
 |.xor=>some (true,.val (.int k) (an7 k a b))
 |.eql=>some (true,.val .bool (decide (a=b)))
 |.neq=>some (true,.val .bool (!decide (a=b)))
 |.lss=>some (true,.val .bool (decide (a<b)))
 |.leq=>some (true,.val .bool (decide (a≤b)))
 |.gtr=>some (true,.val .bool (decide (a>b)))
 |.geq=>some (true,.val .bool (decide (a≥b)))
 |_=>none
def Ty.flatEq:Ty→Bool
 |.int _|.bool|.str|.unit=>true
 |.cons a b=>a.flatEq&&b.flatEq&&b.isStruct
 |_=>false
def Ty.dep:Ty→Nat
 |.cons a b=>max (a.dep+1) b.dep
 |_=>1
def eqD:(t:Ty)→t.den→t.den→Bool
 |.int _,x,y=>decide (x=y)
 |.bool,x,y=>decide (x=y)
 |.str,x,y=>decide (x=y)
 |.unit,_,_=>true
 |.cons a b,x,y=>eqD a x.1 y.1&&eqD b x.2 y.2
 |_,_,_=>false
def pR (op:BinOp)(f:Option Ty)(x y:AV):Option (Bool×AV) :=
 match x,y with
 |.val (.int k) a,.val (.int k') b=>match op with
  |.shl=>some (decide (0≤b),.val (.int k) (acE k a b))
  |.shr=>some (decide (0≤b),.val (.int k) (aV k a b))
  |_=>if k=k' then Vm op k a b else none
 |.val .str a,.val .str b=>
  match op with
  |.add=>some (decide (a.length+b.length≤an0),.val .str (a++b))
  |.eql=>some (true,.val .bool (decide (a=b)))
  |.neq=>some (true,.val .bool (!decide (a=b)))
  |.lss=>some (true,.val .bool (Op.bytesLess a b))
  |.leq=>some (true,.val .bool (Op.bytesLess a b||decide (a=b)))
  |.gtr=>some (true,.val .bool (!(Op.bytesLess a b||decide (a=b))))
  |.geq=>some (true,.val .bool (!Op.bytesLess a b))
  |_=>none
 |.val .bool a,.val .bool b=>if f=some .bool then
  match op with
  |.eql=>some (true,.val .bool (decide (a=b)))
  |.neq=>some (true,.val .bool (!decide (a=b)))
  |_=>none
  else none
 |.val (.slice t) l,.nil=>if f=some (.slice t)then
  match op with
  |.eql=>some (!l.isEmpty,.val .bool false)
  |.neq=>some (!l.isEmpty,.val .bool true)
  |_=>none
  else none
 |.val (.cons u v) a,.val t' b=>
  if f=some (.cons u v)then
   if (Ty.cons u v).flatEq&&decide ((Ty.cons u v).dep≤10000)then
    match cast? t' (.cons u v) b with
    |some b=>
     match op with
     |.eql=>some (true,.val .bool (eqD (.cons u v) a b))
     |.neq=>some (true,.val .bool (!eqD (.cons u v) a b))
     |_=>none
    |none=>none
   else none
  else none
 |_,_=>none
def yl:(t:Ty)→t.den→Nat→AV→Option t.den
 |.cons a _,x,0,v=>match dat? a v with|some y=>some (y,x.2)|none=>none
 |.cons _ b,x,i+1,v=>match yl b x.2 i v with|some y=>some (x.1,y)|none=>none
 |.tree,x,0,v=>match dat? (.int .i64) v with|some y=>some (Tree.mk y x.text x.leads x.kids)|none=>none
 |.tree,x,1,v=>match dat? .str v with|some y=>some (Tree.mk x.kind y x.leads x.kids)|none=>none
 |.tree,x,2,v=>match dat? (.slice .str) v with|some y=>some (Tree.mk x.kind x.text y x.kids)|none=>none
 |.tree,x,3,v=>match dat? (.slice .tree) v with|some y=>some (Tree.mk x.kind x.text x.leads y)|none=>none
 |_,_,_,_=>none
def IH (t:Ty):List (Nat×AV)→t.den→Option t.den
 |[],x=>some x
 |(i,v)::r,x=>match yl t x i v with|some y=>IH t r y|none=>none
def uY (t:Ty):List AV→Option (List t.den)
 |[]=>some []
 |a::l=>match dat? t a,uY t l with|some x,some r=>some (x::r)|_,_=>none
def ez:Nat→List Nat→Bool
 |_,[]=>true
 |i,j::r=>i == j&&ez (i+1) r
def aop (n:Option Nat)(g:List Nat)(f:List AV):Bool :=
 match n with
 |some n=>decide (g.length≤n)&&ez 0 g&&f.all AV.single
 |none=>false
def aiS (n:Option Nat)(l:List AV):Bool :=
 match n with
 |some n=>Nat.beq l.length n&&l.all AV.single
 |none=>false
def dF (cells:List AV)(f:Nat)(new:List AV):List AV:=cells.take f++new++cells.drop (f+new.length)
def Ag (f:Bool):AV→Bool×AV
 |.cond c a=>(az f c,a)
 |a=>(true,a)
def aY (f g:Option Int)(n:Nat):Bool×Nat×Nat :=
 match f,g with
 |none,none=>(true,0,n)
 |some a,none=>(decide (0≤a)&&decide (a≤(n:Int)),a.toNat,n)
 |none,some b=>(decide (0≤b)&&decide (b≤(n:Int)),0,b.toNat)
 |some a,some b=>(decide (0≤a)&&decide (a≤b)&&decide (b≤(n:Int)),a.toNat,b.toNat)
def HB:AV→Option Int
 |.val (.int _) n=>some n
 |_=>none
def CS (g f:Option Operand)(r:List AV):Option (Option Int×Option Int) :=
 match g,f,r with
 |none,none,[]=>some (none,none)
 |some _,none,[a]=>match HB a with|some a=>some (some a,none)|none=>none
 |none,some _,[b]=>match HB b with|some b=>some (none,some b)|none=>none
 |some _,some _,[a,b]=>match HB a,HB b with|some a,some b=>some (some a,some b)|_,_=>none
 |_,_,_=>none
def bH (T:Specs)(op:Op)(f:List AV)(fresh:Nat):Option Nat :=
 match op with
 |.alloc _|.box _ _|.buildSlice _ _ _|.makeSlice _ _ _=>some fresh
 |.load _ _=>match f with|[.box k _]=>some k|[.mpt k _ _ _]=>some k|_=>none
 |.store _ _ _=>match f with|[.box k _,_]=>some k|[.mpt k _ _ _,_]=>some k|_=>none
 |.indexAddr _ _ _=>match f with|[.msl k _ _ _,_]=>some k|_=>none
 |.fieldAddr _ _ _=>match f with|[.mpt k _ _ _]=>some k|_=>none
 |.slice _ _ _ _ _=>match f with|.msl k _ _ _::_=>some k|_=>none
 |.call cl=>match cl.callee with
  |.builtin .append=>match f with|[.own k _ _ _,_]=>some k|[.msl k _ _ _,_]=>some k|_=>some fresh
  |.builtin .len=>match f with|[.msl k _ _ _]=>some k|_=>none
  |.value x=>match amI T x with
   |true=>some fresh
   |false=>match f with
    |.fn _ .pnil :: .box k _::_=>some k
    |.fn _ .pnil :: .own k _ _ _::_=>match YF T x with|true=>some k|false=>none
    |.fn _ .pnil :: .nil::_=>match YF T x with|true=>some fresh|false=>none
    |_=>none
  |_=>none
 |_=>none
def dh (T:Specs):Op→Bool
 |.alloc _|.box _ _|.buildSlice _ _ _|.makeSlice _ _ _|.store _ _ _=>false
 |.call cl=>match cl.callee with
  |.builtin .append=>false
  |.value x=>!YF T x && !amI T x
  |_=>true
 |_=>true
def xC (f:Ty):(t:Ty)→t.den→Nat→Option f.den
 |t,x,0=>match cast? t f x with
  |some y=>some y
  |none=>match t,x with
   |.cons a _,x=>xC f a x.1 0
   |_,_=>none
 |.cons a b,x,n+1=>if n+1<a.size then xC f a x.1 (n+1)else xC f b x.2 (n+1-a.size)
 |_,_,_=>none
def xF (f:Ty)(y:f.den):(t:Ty)→t.den→Nat→Option t.den
 |t,x,0=>match cast? f t y with
  |some y=>some y
  |none=>match t,x with
   |.cons a _,x=>match xF f y a x.1 0 with|some z=>some (z,x.2)|none=>none
   |_,_=>none
 |.cons a b,x,n+1=>if n+1<a.size then match xF f y a x.1 (n+1)with|some z=>some (z,x.2)|none=>none
  else match xF f y b x.2 (n+1-a.size)with|some z=>some (x.1,z)|none=>none
 |_,_,_=>none
def aeN (j:Tab)(o:Oper)(g:List AV)(P:HO):Option (Bool×AV×HO) :=
 match P with
 |.mrow C e J l=>match o.op with
  |.indexAddr t _ _=>match g with
   |[.msl k v lo hi,.val (.int _) n]=>if J=v then if j.ty t=some (.slice C)then if j.elem t=some e then
     some (decide (0≤n)&&decide (n<((hi-lo:Nat):Int)),.mpt k v (lo+n.toNat) 0,P)
    else none else none else none
   |_=>none
  |.fieldAddr s _ f=>match g with
   |[.mpt k v i off]=>if J=v then match j.offs s f with
    |some d=>some (true,.mpt k v i (off+d),P)
    |none=>none
    else none
   |_=>none
  |.load t _=>match g with
   |[.mpt _ v i off]=>if J=v then match j.ty t with
     |some p=>match xC p C (l.getD i (zero C)) off with
      |some y=>some (true,.val p y,P)
      |none=>none
     |none=>none
    else none
   |_=>none
  |.store t _ _=>match g with
   |[.mpt _ v i off,u]=>if J=v then match j.ty t with
     |some p=>match dat? p u with
      |some y=>match xF p y C (l.getD i (zero C)) off with
       |some z=>some (true,.unk,.mrow C e J (l.set i z))
       |none=>none
      |none=>none
     |none=>none
    else none
   |_=>none
  |.slice t _ low T none=>match g with
   |.msl k v lo hi::r=>if J=v then if j.ty t=some (.slice C)then if j.elem t=some e then match CS low T r with
     |some (a,b)=>some ((aY a b (hi-lo)).1,.msl k v (lo+(aY a b (hi-lo)).2.1) (lo+(aY a b (hi-lo)).2.2),P)
     |none=>none
    else none else none else none
   |_=>none
  |.call c=>match c.callee with
   |.builtin .len=>match g with
    |[.msl _ v lo hi]=>if J=v then if (c.argTypes[0]?).bind j.ty=some (.slice C)then some (true,.val (.int .i64) ((hi-lo:Nat):Int),P)else none else none
    |_=>none
   |.builtin .append=>match g,c.argTypes.toList with
    |[.msl k v 0 m,x],[t1,t2]=>if t1=t2 then if J=v then match j.elem t1,yh (j.ty t1) x with
      |some e1,some ⟨U,R⟩=>if e=e1 then match cast? (.slice U) (.slice C) R with
        |some R=>some (decide (m+R.length≤LIM),.msl k (v+1) 0 (m+R.length),.mrow C e (v+1) (l.take m++R))
        |none=>none
       else none
      |_,_=>none
     else none else none
    |_,_=>none
   |_=>none
  |_=>none
 |_=>none
def aeO (C:Tab)(T:Specs)(o:Oper)(g:Bool)(j:List AV)(fresh:Nat)(J:HO):Option (Bool×AV×HO) :=
 match o.op with
 |.move _|.assign _=>match j with
  |[.cond _ _]=>none
  |[a]=>some (true,a,J)
  |_=>none
 |.pick _ _ _=>match j with
  |[.val .bool c,a,b]=>
   let p:=Ag (g&&c) a;let q:=Ag (g && !c) b;match p.2,q.2 with
   |.val t x,.val t' y=>match cast? t' t y with
    |some y=>some (p.1&&q.1,.val t (bif c then x else y),J)
    |none=>none
   |_,_=>none
  |_=>none
 |.alloc t=>match J with
  |.none=>match C.ty t with
   |some P=>some (true,.box fresh 0,.box (C1 P))
   |none=>match C.cells t with
    |some n=>some (true,.box fresh 0,.box (List.replicate n .unk))
    |none=>none
  |_=>none
 |.box _ _=>match j,J with
  |[a],.none=>if a.solid then some (true,.box fresh 0,.box (cellsOf a))else none
  |_,_=>none
 |.load t _=>match j,J with
  |[.box _ off],.box cells=>
   match C.ty t with
   |some P=>
    if P.isStruct then if aiS (C.one t) ((cells.drop off).take P.size)then some (true,.agg (aF ((cells.drop off).take P.size)),J)
     else match asm P ((cells.drop off).take P.size)with
      |some x=>some (true,.val P x,J)
      |none=>none
    else match cells[off]? with
     |some a=>some (true,a,J)
     |none=>none
   |none=>if C.cells t=some 1 then match cells[off]? with
     |some a=>some (true,a,J)
     |none=>none
    else none
  |[.ref P x],_=>if C.ty t=some P then some (true,.val P x,J)else none
  |_,_=>none
 |.store t _ _=>match j,J with
  |[.box _ off,v],.box cells=>
   if v.solid&&decide (off+(cellsOf v).length≤cells.length)&&decide (C.cells t=some (cellsOf v).length)then some (true,.unk,.box (dF cells off (cellsOf v)))else none
  |_,_=>none
 |.fieldAddr s _ f=>match j with
  |[.box k off]=>match C.offs s f with
   |some d=>some (true,.box k (off+d),J)
   |none=>none
  |[.ref P x]=>if C.ty s=some P then match qu P x f with
    |some ⟨U,y⟩=>some (true,.ref U y,J)
    |none=>none
   else none
  |_=>none
 |.field s _ f=>match j with
  |[.val P x]=>if C.ty s=some P then match qu P x f with
    |some ⟨U,y⟩=>some (true,.val U y,J)
    |none=>none
   else none
  |_=>none
 |.indexAddr t _ _=>match j with
  |[.box k off,.val (.int _) n]=>match C.arr t with
   |some m=>some (decide (0≤n)&&decide (n<(m:Int)),.box k (off+n.toNat),J)
   |none=>none
  |[s,.val (.int _) n]=>match yh (C.ty t) s with
   |some ⟨P,l⟩=>some (decide (0≤n)&&decide (n<(l.length:Int)),.ref P (l.getD n.toNat (zero P)),J)
   |none=>none
  |_=>none
 |.index t _ _=>match j with
  |[s,.val (.int _) n]=>match zo (C.ty t) s with
   |some l=>some (decide (0≤n)&&decide (n<(l.length:Int)),.val (.int .u8) ((l.getD n.toNat 0).toNat:Int),J)
   |none=>none
  |_=>none
 |.binOp op tx _ _ _=>match j with
  |[x,y]=>match pR op (C.ty tx) x y with
   |some (c,v)=>some (c,v,J)
   |none=>none
  |_=>none
 |.unOp .not _ _=>match j with
  |[.val .bool b]=>some (true,.val .bool (!b),J)
  |_=>none
 |.unOp .neg _ _=>match j with
  |[.val (.int k) n]=>some (true,.val (.int k) (k.wrap (0-n)),J)
  |_=>none
 |.convert s t _=>match j,C.ty t,C.ty s with
  |[.val (.int _) n],some (.int k),some _=>some (true,.val (.int k) (k.wrap n),J)
  |[x],some .str,some (.slice (.int .u8))=>match one? (.slice (.int .u8)) x with
   |some l=>some (true,.val .str (l.map λn:Int=>UInt8.ofNat n.toNat),J)
   |none=>none
  |_,_,_=>none
 |.build t parts=>match C.ty t with
  |some P=>if P.isStruct then if aop (C.one t) (parts.toList.map (·.1)) j then some (true,.agg (aF (j++(C1 P).drop parts.size)),J)
    else match IH P ((parts.toList.map (·.1)).zip j) (zero P)with
     |some x=>some (true,.val P x,J)
     |none=>none
   else none
  |none=>match C.one t with
   |some n=>if Nat.beq n parts.size&&ez 0 (parts.toList.map (·.1))&&j.all AV.single then some (true,.agg (aF j),J)else none
   |none=>match C.arr t with
    |some n=>if Nat.beq n parts.size&&ez 0 (parts.toList.map (·.1))&&j.all AV.single then some (true,.agg (aF j),J)else none
    |none=>none
 |.buildSlice t len parts=>match C.ty t,C.elem t,J with
  |some (.slice P),some e,.none=>if decide (len=parts.size)&&ez 0 (parts.toList.map (·.1))&&decide (len*P.size≤4096)then match uY P j with
    |some l=>match C.inp t&&Nat.beq len 0 with
     |false=>some (true,.own fresh 0 P l,.row P e 0)
     |true=>some (true,.msl fresh 0 0 0,.mrow P e 0 [])
    |none=>none
   else none
  |_,_,_=>none
 |.makeSlice t _ _=>match j,J with
  |[.val (.int _) n,.val (.int _) m],.none=>match C.ty t,C.elem t with
   |some (.slice P),some e=>some (decide (0≤n)&&decide (n≤m)&&decide (m≤(LIM:Int)),.msl fresh 0 0 n.toNat,.mrow P e 0 (List.replicate n.toNat (zero P)))
   |_,_=>none
  |_,_=>none
 |.slice t _ low high none=>match j with
  |s::r=>match CS low high r with
   |some (lo,hi)=>match yh (C.ty t) s with
    |some ⟨P,l⟩=>some ((aY lo hi l.length).1,.val (.slice P) ((l.take (aY lo hi l.length).2.2).drop (aY lo hi l.length).2.1),J)
    |none=>match zo (C.ty t) s with
     |some l=>some ((aY lo hi l.length).1,.val .str ((l.take (aY lo hi l.length).2.2).drop (aY lo hi l.length).2.1),J)
     |none=>none
   |none=>none
  |_=>none
 |.extract _ i=>match j with
  |[.tup p]=>match p.parts[i]? with
   |some a=>some (true,a,J)
   |none=>none
  |_=>none
 |.makeFunc (.func f) first _=>if first.size=0 then some (true,.fn f (aF j),J)else none
 |.call c=>match c.callee with
  |.builtin .len=>match j with
   |[s]=>match yh ((c.argTypes[0]?).bind C.ty) s with
    |some ⟨_,l⟩=>some (true,.val (.int .i64) (l.length:Int),J)
    |none=>match zo ((c.argTypes[0]?).bind C.ty) s with
     |some l=>some (true,.val (.int .i64) (l.length:Int),J)
     |none=>none
   |_=>none
  |.builtin .append=>match j,c.argTypes.toList with
   |[s,x],[t1,t2]=>if t1=t2 then match C.elem t1,yh (C.ty t1) x with
     |some e,some ⟨P,R⟩=>match s with
       |.own k v t l=>match J with
        |.row t' e' v'=>if t'=t then if e'=e then if v'=v then match cast? (.slice t) (.slice P) l with
          |some l=>some (decide (l.length+R.length≤LIM),.own k (v+1) P (l++R),.row P e (v+1))
          |none=>none
         else none else none else none
        |_=>none
       |.nil=>match J with
        |.none=>match C.inp t1 with
         |false=>some (decide (R.length≤LIM),.own fresh 1 P R,.row P e 1)
         |true=>some (decide (R.length≤LIM),.msl fresh 1 0 R.length,.mrow P e 1 R)
        |_=>none
       |_=>none
     |_,_=>none
    else none
   |_,_=>none
  |.builtin .max=>match j with
   |[.val (.int k) x,.val (.int k') y]=>if k=k' then some (true,.val (.int k) (uu x y),J)else none
   |_=>none
  |.value x=>match amI T x with
   |true=>match j with
    |.fn f .pnil::args=>match T.nw f,J with
     |some q,.none=>match q.F args with
      |some (b,R)=>some (b,.own fresh 1 q.t R,.row q.t q.e 1)
      |none=>none
     |_,_=>none
    |_=>none
   |false=>match j with
    |.fn f .pnil :: .box _ off::aQ=>match J with
     |.box cells=>if off=0 then match YF T x with
       |false=>match T.rd f cells aQ with
        |some (b,v)=>some (b,v,J)
        |none=>none
       |true=>match T.bx f cells aQ with
        |some (b,cells',v)=>some (b,v,.box cells')
        |none=>none
      else none
     |_=>none
    |.fn f .pnil :: .own k v t l::aQ=>match YF T x with
     |true=>match T.rb f,J with
      |some q,.row t' e' v'=>if t'=t then if e'=q.e then if v'=v then match cast? (.slice t) (.slice q.t) l with
        |some l=>match q.F l aQ with
         |some (b,R)=>some (b,.own k (v+1) q.t R,.row q.t q.e (v+1))
         |none=>none
        |none=>none
       else none else none else none
      |_,_=>none
     |false=>match T.call f (.own k v t l::aQ)with
      |some (b,v)=>some (b,v,J)
      |none=>none
    |.fn f .pnil :: .nil::aQ=>match YF T x with
     |true=>match T.rb f,J with
      |some q,.none=>match q.F [] aQ with
       |some (b,R)=>some (b,.own fresh 1 q.t R,.row q.t q.e 1)
       |none=>none
      |_,_=>none
     |false=>match T.call f (.nil::aQ)with
      |some (b,v)=>some (b,v,J)
      |none=>none
    |.fn f .pnil::args=>match T.call f args with
     |some (b,v)=>some (b,v,J)
     |none=>none
    |_=>none
  |_=>none
 |.nilCheck _=>match j with
  |[.box k off]=>some (true,.box k off,J)
  |[.ref t x]=>some (true,.ref t x,J)
  |_=>none
 |_=>none
def ann (g:Tab)(o:Oper)(f:List AV):Option AV :=
 match o.op with
 |.buildSlice t len parts=>match g.ty t,g.elem t with
  |some (.slice τ),some _=>if decide (len=parts.size)&&ez 0 (parts.toList.map (·.1))&&decide (len*τ.size≤4096)then match uY τ f with
    |some l=>some (.val (.slice τ) l)
    |none=>none
   else none
  |_,_=>none
 |_=>none
def eff (j:Tab)(T:Specs)(o:Oper)(g:Bool)(f:List AV)(fresh:Nat)(l:HO):Option (Bool×AV×HO) :=
 match aeN j o f l with
 |some r=>some r
 |none=>aeO j T o g f fresh l
open Go Go.RowKit
def AV.isCh:AV→Bool
 |.pnil=>true
 |.pcons _ b=>b.isCh
 |_=>false
def fD (q:List AV):(aF q).isCh=true:=by
 induction q with
 |nil=>rfl
 |cons a q f=>exact f
structure Gh where
 heap:List HO
 St:Sb
 blk:Nat→Nat
 rv:Nat→Value
 w:World
 lp:Nat→Nat:=λ_=>0
def sX (c:Gh)(k v:Nat)(Q:Ty→Prop):Prop :=
 (∃t e f l,c.heap[k]? = some (.mrow t e f l)∧v≤f∧(f=v→Q t))∨c.heap[k]? = some .dead
def sZ (r:Value)(size f j:Nat)(s:Value):Prop :=
 (r = .slice none 0 0∧f=0∧j=0∧s = .slice none 0 0) ∨
 ∃g n cap A,r = .slice (some ⟨g,0,none⟩) n cap∧f≤j∧j≤n∧s = .slice A (j-f) (cap-f)∧(A=some ⟨g,f*size,none⟩∨(cap=f∧0<f))
def ptS (r:Value)(size i f:Nat)(p:Value):Prop:=∃g n cap,r = .slice (some ⟨g,0,none⟩) n cap∧i<n∧p = .pointer (some ⟨g,i*size+f,none⟩)
def RA (c:Gh):AV→List Value→Prop
 |.unk,J=>∃v,J=[v]
 |.val t x,J=>∃v,J=[v]∧RepV c.w c.St t x v
 |.nil,J=>J=[.slice none 0 0]
 |.own k v t l,J=>∃s,J=[s]∧RepV c.w c.St (.slice t) l s∧∃t' e' v',c.heap[k]? = some (.row t' e' v')∧v≤v'∧(v'=v→s=c.rv k)
 |.ref t x,J=>∃U ds,J=[.pointer (some U)]∧U.spot=none∧Rep c.w c.St (toD t x) ds∧∀j u,ds[j]? = some u→c.w.cell? (U.add j)=some u∧c.St U.block (U.off+j)
 |.box k T,J=>∃cells,c.heap[k]? = some (.box cells)∧J=[.pointer (some ⟨c.blk k,T,none⟩)]
 |.fn f R,J=>∃P,J=[.func (.func f) #[] P.toArray]∧RA c R P∧R.isCh=true
 |.agg p,J=>∃P,J=[.agg P.toArray]∧RA c p P∧p.isCh=true∧∀u∈P,u.oneCell'=true
 |.tup p,J=>∃P,J=[.tuple P.toArray]∧RA c p P∧p.isCh=true
 |.pnil,J=>J=[]
 |.pcons a b,J=>∃v r,J=v::r∧RA c a [v]∧RA c b r
 |.cond g a,J=>if g then RA c a J else J=[undef]
 |.msl k v lo hi,J=>∃s,J=[s]∧s.oneCell'=true∧sX c k v (λt=>sZ (c.rv k) t.size lo hi s)
 |.mpt k v i T,J=>∃p,J=[p]∧p.oneCell'=true∧sX c k v (λt=>ptS (c.rv k) t.size i T p)
 |.yld j,J=>c.heap[j]? = some .dead∧J=[.func (.yield (c.lp j)) #[] #[]]
 |.fix C w,J=>J=[undef]∧(∀b o,C b o→c.St b o)∧∀(a:Addr) v,C a.block a.off→a.spot=none→w.cell? a=some v→c.w.cell? a=some v
def RAs (c:Gh):List AV→List Value→Prop
 |[],[]=>True
 |a::l,v::vs=>RA c a [v]∧RAs c l vs
 |_,_=>False
structure Ev (c c':Gh):Prop where
 st:c.St.le c'.St
 cell:∀(a:Addr) v,c.St a.block a.off→a.spot=none→c.w.cell? a=some v→c'.w.cell? a=some v
 box:∀k cells,c.heap[k]? = some (.box cells)→∃cells',c'.heap[k]? = some (.box cells')∧c'.blk k=c.blk k
 row:∀k t e v,c.heap[k]? = some (.row t e v)→∃t' e' v',c'.heap[k]? = some (.row t' e' v')∧v≤v'∧(v'=v→c'.rv k=c.rv k)
 mrow:∀k t e v l,c.heap[k]? = some (.mrow t e v l)→(∃v' l',c'.heap[k]? = some (.mrow t e v' l')∧v≤v'∧(v'=v→c'.rv k=c.rv k))∨c'.heap[k]? = some .dead
 dead:∀(k:Nat),c.heap[k]? = some HO.dead→c'.heap[k]? = some HO.dead
 lp:∀(k:Nat),c.heap[k]? = some HO.dead→c'.lp k=c.lp k
def Ev.refl (c:Gh):Ev c c:=⟨Sb.le.refl _,λ_ _ _ _ h=>h,λ_ cells h=>⟨cells,h,rfl⟩,λ_ t e v h=>⟨t,e,v,h,δ _,λ_=>rfl⟩,λ_ _ _ v l h=>.inl ⟨v,l,h,δ _,λ_=>rfl⟩,λ_ h=>h,λ_ _=>rfl⟩
def Ev.trans {a b c:Gh}(h:Ev a b)(k:Ev b c):Ev a c:=by
 refine⟨h.st.trans k.st,λU v x s y=>k.cell U v (h.st.s _ _ x) s (h.cell U v x s y),λi cells x=>?_,λi t e v x=>?_,λi t e v l x=>?_,λi x=>k.dead i (h.dead i x),λi x=>(k.lp i (h.dead i x)).trans (h.lp i x)⟩
 ·obtain⟨c1,g,T⟩:=h.box i cells x;obtain⟨c2,f,R⟩:=k.box i c1 g;exact⟨c2,f,R.trans T⟩
 ·obtain⟨t1,T,p,g,P,q1⟩:=h.row i t e v x;obtain⟨t2,R,j,f,J,q2⟩:=k.row i t1 T p g;refine⟨t2,R,j,f,υ P J,λe=>?_⟩;have:j=p:=Ω
  exact(q2 this).trans (q1 Ω)
 ·rcases h.mrow i t e v l x with⟨p,P,g,C,q1⟩|hd
  ·rcases k.mrow i t e p P g with⟨j,J,f,r,q2⟩|hd
   ·refine .inl ⟨j,J,f,υ C r,λe=>?_⟩;exact(q2 Ω).trans (q1 Ω)
   ·exact .inr hd
  ·exact .inr (k.dead i hd)
variable{c:Gh}
def sX.mono {c' :Gh}(h:Ev c c'){k v:Nat}{Q:Value→Ty→Prop}(m:sX c k v (Q (c.rv k))):sX c' k v (Q (c'.rv k)):=by
 rcases m with⟨t,e,p,l,J,g,C⟩|hd
 ·rcases h.mrow k t e p l J with⟨j,r,P,f,q2⟩|hd
  ·refine .inl ⟨t,e,j,r,P,υ g f,λe=>?_⟩;rw[q2 Ω];exact C Ω
  ·exact .inr hd
 ·exact .inr (h.dead k hd)
def ip (f:Addr)(h:f.spot=none)(j:Nat):(f.add j).block=f.block∧(f.add j).off=f.off+j∧(f.add j).spot=none:=by unfold Addr.add;split <;> simp_all
def add_zero (f:Addr):f.add 0=f:=by simp[Addr.add]
def EY (f:Addr)(i j:Nat):(f.add i).add j=f.add (i+j):=by unfold Addr.add;by_cases l:i=0 <;> by_cases g:j=0 <;> simp[l,g,b?]
def RA.mono {c c':Gh}(h:Ev c c'):∀{a:AV} {vs:List Value},RA c a vs→RA c' a vs
 |.unk,_,r=>r
 |.val t x,_,⟨v,e,r⟩=>⟨v,e,r.mono h.st h.cell⟩
 |.nil,_,r=>r
 |.own k v t l,_,⟨s,e,r,t',e',v',hr,hle,heq⟩=>by obtain⟨t2,e2,v2,J,l2,q2⟩:=h.row k t' e' v' hr;exact⟨s,e,r.mono h.st h.cell,t2,e2,v2,J,υ hle l2,λx=>(heq Ω).trans (q2 Ω).symm⟩
 |.ref t x,_,⟨ad,ds,e,hs,T,hc⟩=>by refine⟨ad,ds,e,hs,T.mono h.st h.cell,λj u hu=>?_⟩;obtain⟨U,J⟩:=hc j u hu;obtain⟨f1,f2,f3⟩:=ip ad hs j;exact⟨h.cell _ _ (by rw[f1,f2];exact J) f3 U,h.st.s _ _ J⟩
 |.box k P,_,⟨cells,hk,e⟩=>by obtain⟨c2,J,e2⟩:=h.box k cells hk;exact⟨c2,J,by rw[e2];exact e⟩
 |.fn f caps,_,⟨R,e,r,o⟩=>⟨R,e,RA.mono h r,o⟩
 |.agg p,_,⟨R,e,r,o⟩=>⟨R,e,RA.mono h r,o⟩
 |.tup p,_,⟨R,e,r,o⟩=>⟨R,e,RA.mono h r,o⟩
 |.pnil,_,r=>r
 |.pcons a b,_,⟨v,r,e,ha,hb⟩=>⟨v,r,e,RA.mono h ha,RA.mono h hb⟩
 |.cond g a,vs,r=>by
  simp[RA]at r⊢;split
  next hg=>simp[hg]at r;exact RA.mono h r
  next hg=>simp[hg]at r;exact r
 |.msl k v lo hi,_,⟨s,e,o,m⟩=>⟨s,e,o,sX.mono (Q:=λr t=>sZ r t.size lo hi s) h m⟩
 |.mpt k v i P,_,⟨s,e,o,m⟩=>⟨s,e,o,sX.mono (Q:=λr t=>ptS r t.size i P s) h m⟩
 |.yld j,_,⟨T,e⟩=>⟨h.dead j T,by rw[h.lp j T];exact e⟩
 |.fix C w,_,⟨e,U,J⟩=>⟨e,λb o x=>h.st.s b o (U b o x),λa v x s y=>h.cell a v (U _ _ x) s (J a v x s y)⟩
def RAs.mono {c c':Gh}(h:Ev c c'):∀{l:List AV} {vs:List Value},RAs c l vs→RAs c' l vs
 |[],[],_=>trivial
 |_::_,_::_,⟨a,b⟩=>⟨RA.mono h a,RAs.mono h b⟩
def RAs.length {c:Gh}:∀{l:List AV} {vs:List Value},RAs c l vs→l.length=vs.length
 |[],[],_=>rfl
 |_::_,_::_,⟨_,b⟩=>by simp[RAs.length b]
def RAs.append {c:Gh}:∀{l j:List AV} {g f:List Value},RAs c l g→RAs c j f→RAs c (l++j) (g++f)
 |[],_,[],_,_,h=>h
 |_::_,_,_::_,_,⟨a,b⟩,h=>⟨a,RAs.append b h⟩
def RAs.get {c:Gh}:∀{l:List AV} {f:List Value},RAs c l f→∀(i:Nat) a,l[i]? = some a→∃v,f[i]? = some v∧RA c a [v]
 |[],[],_,i,a,h=>by simp at h
 |x::l,v::f,⟨r,g⟩,i,a,h=>by
  cases i with
  |zero=>simp at h;subst h;exact⟨v,rfl,r⟩
  |succ i=>simp at h;simpa using g.get i a h
def RAs.take {c:Gh}:∀{l:List AV} {f:List Value} (n:Nat),RAs c l f→RAs c (l.take n) (f.take n)
 |[],[],n,_=>by simp[RAs]
 |_::_,_::_,0,_=>by simp[RAs]
 |_::_,_::_,n+1,⟨a,b⟩=>⟨a,RAs.take n b⟩
def RAs.drop {c:Gh}:∀{l:List AV} {f:List Value} (n:Nat),RAs c l f→RAs c (l.drop n) (f.drop n)
 |[],[],n,_=>by simp[RAs]
 |_::_,_::_,0,h=>h
 |_::_,_::_,n+1,⟨_,b⟩=>by simpa using RAs.drop n b
def RAs.set {c:Gh}:∀{l:List AV} {f:List Value} (i:Nat) {a:AV} {v:Value},RAs c l f→RA c a [v]→RAs c (l.set i a) (f.set i v)
 |[],[],_,_,_,_,_=>trivial
 |_::_,_::_,0,_,_,⟨_,b⟩,h=>⟨h,b⟩
 |_::_,_::_,i+1,_,_,⟨a,b⟩,h=>⟨a,RAs.set i b h⟩
def RA.parts {c:Gh}:∀{p:AV} {f:List Value},RA c p f→p.isCh=true→RAs c p.parts f
 |.pnil,f,h,_=>by have h:f=[]:=h;subst h;trivial
 |.pcons a b,f,h,g=>by obtain⟨v,r,rfl,l,j⟩:=h;exact⟨l,RA.parts j g⟩
def RA.of_chain {c:Gh}:∀{q:List AV} {f:List Value},RAs c q f→RA c (aF q) f
 |[],[],_=>rfl
 |_::_,v::g,⟨a,b⟩=>⟨v,g,rfl,a,RA.of_chain b⟩
def RA.one {a:AV}{f:List Value}(h:RA c a f)(g:(∃t x,a = .val t x)∨a = .nil∨(∃k v t l,a = .own k v t l)):∃v,f=[v]:=by
 rcases g with⟨t,x,rfl⟩|rfl|⟨k,v,t,l,rfl⟩
 ·obtain⟨v,e,_⟩:=h;exact⟨v,e⟩
 ·exact⟨_,h⟩
 ·obtain⟨s,e,_⟩:=h;exact⟨s,e⟩
def cast?_some {t f:Ty}{x:t.den}{y:f.den}(h:cast? t f x=some y):∃e:t=f,y=e ▸ x:=by
 unfold cast? at h;split at h
 next e=>exact⟨e,(χ h).symm⟩
 ·cases h
def one?_sound {t:Ty}{a:AV}{x:t.den}(h:one? t a=some x)(r:RA c a [v]):RepV c.w c.St t x v:=by
 cases a with
 |val f y =>obtain⟨e,g⟩:=cast?_some (h:cast? f t y=some x);subst e;subst g;obtain⟨j,e,r⟩:=r;simp at e;subst e;exact r
 |nil=>
  cases t with
  |slice t =>simp only[one?]at h;have:x=[]:=(χ h).symm;subst this;have r:[v]=[.slice none 0 0]:=r;simp at r;subst r;show Rep _ _ _ _;exact⟨none,0,0,rfl,rfl,δ _,.inl rfl⟩
  |jsl e =>simp only[one?]at h;have:x=(0:Nat):=(χ h).symm;subst this;have r:[v]=[.slice none 0 0]:=r;simp at r;subst r;show Rep _ _ _ _;exact⟨none,0,rfl,.inl ⟨rfl,rfl,rfl⟩⟩
  |_=>simp[one?]at h
 |own k j f l =>obtain⟨e,g⟩:=cast?_some (h:cast? (.slice f) t l=some x);subst e;subst g;obtain⟨s,e,r,_⟩:=r;simp at e;subst e;exact r
 |_=>simp[one?]at h
def repv_cell {t:Ty}(f:t.isStruct=false){x:t.den}:RepV w St t x v↔Rep w St (toD t x) [v]:=by simp[RepV,f]
def yH {c:Gh}:∀{t:Ty} {x:t.den} {f:List Value},Rep c.w c.St (toD t x) f→RAs c (flat t x) f
 |.int k,x,f,h=>by obtain⟨rfl,g⟩:=h;exact⟨⟨_,rfl,(repv_cell rfl).2 ⟨rfl,g⟩⟩,awN⟩
 |.bool,x,f,h=>by obtain⟨rfl,g⟩:=h;exact⟨⟨_,rfl,(repv_cell rfl).2 ⟨rfl,g⟩⟩,awN⟩
 |.str,x,f,h=>by obtain⟨rfl,g⟩:=h;exact⟨⟨_,rfl,(repv_cell rfl).2 ⟨rfl,g⟩⟩,awN⟩
 |.slice t,x,f,h=>by have C:=h;obtain⟨A,n,R,rfl,_⟩:=h;exact⟨⟨_,rfl,(repv_cell rfl).2 C⟩,awN⟩
 |.jsl e,x,f,h=>by have C:=h;obtain⟨A,R,rfl,_⟩:=h;exact⟨⟨_,rfl,(repv_cell rfl).2 C⟩,awN⟩
 |.unit,x,f,h=>by have h:f=[]:=h;subst h;trivial
 |.cons a b,x,f,h=>by obtain⟨c1,c2,rfl,g,r⟩:=h;exact(yH g).append (yH r)
 |.tree,.mk k t ls ks,f,h=>by simp[toD,sS]at h;obtain⟨c1,c2,rfl,g,c3,c4,rfl,r,c5,c6,rfl,P,c7,U,rfl,J,l⟩:=h;have l:U=[]:=l;subst l;obtain⟨rfl,o1⟩:=g;obtain⟨rfl,o2⟩:=r;have p:=P;obtain⟨A,n,R,rfl,_⟩:=P;have j:=J;obtain⟨A',n',T,rfl,_⟩:=J;refine⟨⟨_,rfl,(repv_cell rfl).2 ⟨rfl,o1⟩⟩,⟨_,rfl,(repv_cell rfl).2 ⟨rfl,o2⟩⟩,⟨_,rfl,(repv_cell rfl).2 p⟩,⟨_,rfl,(repv_cell rfl).2 ?_⟩,awN⟩;rw[i9]at j;exact j
def ra {c:Gh}:∀{t:Ty} {l:List AV} {x:t.den} {f:List Value},asm t l=some x→RAs c l f→Rep c.w c.St (toD t x) f
 |.int k,[a],x,[v],h,r=>(repv_cell rfl).1 (one?_sound h r.1)
 |.bool,[a],x,[v],h,r=>(repv_cell rfl).1 (one?_sound h r.1)
 |.str,[a],x,[v],h,r=>(repv_cell rfl).1 (one?_sound h r.1)
 |.slice t,[a],x,[v],h,r=>(repv_cell rfl).1 (one?_sound h r.1)
 |.jsl e,[a],x,[v],h,r=>(repv_cell rfl).1 (one?_sound h r.1)
 |.unit,[],x,[],h,r=>rfl
 |.cons a b,l,x,f,h,r=>by
  simp[asm]at h;split at h
  next y z J C=>have:x=(y,z):=(χ h).symm;subst this;exact⟨_,_,(W_ a.size f).symm,ra J (r.take _),ra C (r.drop _)⟩
  ·cases h
 |.tree,[a,b,d,e],x,[p,j,g,v4],h,r=>by
  simp[asm]at h;split at h
  next k t ls ks T R P h4=>have:x=Tree.mk k t ls ks:=(χ h).symm;subst this;obtain⟨r1,r2,r3,r4,_⟩:=r;refine⟨[p],[j,g,v4],rfl,(repv_cell rfl).1 (one?_sound T r1),[j],[g,v4],rfl,(repv_cell rfl).1 (one?_sound R r2),[g],[v4],rfl,(repv_cell rfl).1 (one?_sound P r3),[v4],[],rfl, ?_,rfl⟩;rw[i9];exact(repv_cell rfl).1 (one?_sound h4 r4)
  ·cases h
def RA.nj {c c':Gh}(R:c'.heap=c.heap)(hb:c'.blk=c.blk)(T:c'.rv=c.rv)(J:c'.w=c.w)(U:c'.lp=c.lp)(P:∀b o,c.St b o→c'.St b o):∀{a:AV} {vs:List Value},a.nojk=true→RA c a vs→RA c' a vs
 |.unk,_,_,r=>r
 |.val t x,_,h,⟨v,e,r⟩=>⟨v,e,by rw[J];exact r.nj P h⟩
 |.nil,_,_,r=>r
 |.own k v t l,_,h,⟨s,e,r,t',e',v',q1,q2,q3⟩=>⟨s,e,by rw[J];exact RepV.nj (t :=.slice t) P h r,t',e',v',by rw[R];exact q1,q2,by rw[T];exact q3⟩
 |.ref t x,_,h,⟨ad,ds,e,q1,q2,q3⟩=>⟨ad,ds,e,q1,by rw[J];exact q2.nj P (An x h),λj u hu=>⟨by rw[J];exact(q3 j u hu).1,P _ _ (q3 j u hu).2⟩⟩
 |.box k off,_,_,⟨cells,q1,q2⟩=>⟨cells,by rw[R];exact q1,by rw[hb];exact q2⟩
 |.fn f caps,_,h,⟨cs,e,r,q⟩=>⟨cs,e,r.nj R hb T J U P h,q⟩
 |.agg p,_,h,⟨cs,e,r,q⟩=>⟨cs,e,r.nj R hb T J U P h,q⟩
 |.tup p,_,h,⟨cs,e,r,q⟩=>⟨cs,e,r.nj R hb T J U P h,q⟩
 |.pnil,_,_,r=>r
 |.pcons a b,_,h,⟨v,r,e,q1,q2⟩=>by simp only[AV.nojk,ι]at h;exact⟨v,r,e,q1.nj R hb T J U P h.1,q2.nj R hb T J U P h.2⟩
 |.cond g a,vs,h,r=>by
  cases g
  ·exact r
  ·exact RA.nj (a:=a) R hb T J U P h r
 |.msl k v lo hi,_,_,⟨s,e,q1,q2⟩=>⟨s,e,q1,by unfold sX at *;rw[R,T];exact q2⟩
 |.mpt k v i off,_,_,⟨p,e,q1,q2⟩=>⟨p,e,q1,by unfold sX at *;rw[R,T];exact q2⟩
 |.yld j,_,_,⟨q1,q2⟩=>⟨by rw[R];exact q1,by rw[U];exact q2⟩
 |.fix C w,_,_,⟨e,q1,q2⟩=>⟨e,λb o x=>P b o (q1 b o x),by rw[J];exact q2⟩
def RAs.nj {c c':Gh}(J:c'.heap=c.heap)(P:c'.blk=c.blk)(p:c'.rv=c.rv)(j:c'.w=c.w)(C:c'.lp=c.lp)(l:∀b o,c.St b o→c'.St b o):∀{f:List AV} {g:List Value},f.all AV.nojk=true→RAs c f g→RAs c' f g
 |[],[],_,_=>trivial
 |a::f,v::g,h,⟨r,R⟩=>by simp only[n?,ι]at h;exact⟨r.nj J P p j C l h.1,R.nj J P p j C l h.2⟩
def obk (c:Gh)(k:Nat):Option Nat :=
 match c.heap[k]? with
 |some (.box _)=>some (c.blk k)
 |some (.row _ _ _)=>(c.rv k).ownBlock
 |some (.mrow _ _ _ _)=>(c.rv k).ownBlock
 |_=>none
structure Bd where
 b:Nat
 F:Nat→Prop:=λ_=>False
instance bdNat:Coe Bd Nat:=⟨Bd.b⟩
structure Og (F:Nat→Prop)(w w':World):Prop where
 dr:w.drawn≤w'.drawn
 keep:∀(k:Nat) (o:Obj),w.heap[k]? = some o→o.isCells=false→w'.heap[k]? = some o
 kb:∀b,F b→w'.heap[b]? = w.heap[b]?
def Og.refl (w:World):Og F w w:=⟨δ _,λ_ _ h _=>h,λ_ _=>rfl⟩
def Og.trans {F:Nat→Prop}{w w' j:World}(h:Og F w w')(g:Og F w' j):Og F w j:=⟨υ h.dr g.dr,λk o x y=>g.keep k o (h.keep k o x y) y,λb f=>(g.kb b f).trans (h.kb b f)⟩
def Og.of_below {g :World}(j:Below w.heap.size w g)(p:w.drawn≤g.drawn)(l:∀b,F b→b<w.heap.size):Og F w g:=⟨p,λk _ x _=>(j.block k (θ.1 x).1).trans x,λb f=>j.block b (l b f)⟩
def Og.of_grown {j :World}{row:Option Nat}(l:w.grownBy j row)(r:∀b,row=some b→∃g t m,w.heap[b]? = some (.cells g t m))(C:w.drawn≤j.drawn)(p:∀b,F b→b<w.heap.size∧some b≠row):Og F w j :=
 ⟨C,λk o x y=>(l.block k (θ.1 x).1 (λe=>by
  obtain⟨g,t,m,h⟩:=r k e.symm;rw[x]at h;cases h;cases y)).trans x,λb f=>l.block b (p b f).1 (p b f).2⟩
structure Jk (B:Bd)(c:Gh)(b:Nat)(e:TypeId)(cap n:Nat):Prop where
 lo:B.b≤b
 nf:¬B.F b
 le:n≤cap∧cap≤maxLen
 cells:∃arr,c.w.heap[b]? = some (.cells arr e (0,0))∧arr.size=cap∧∀u∈arr.toList,u.oneCell'=true
 free:∀o,¬c.St b o
 own:∀k,obk c k≠some b
structure Inv (B:Bd)(R:World)(J:Sb)(c:Gh):Prop where
 below:Below B R c.w
 size:B≤c.w.heap.size
 bnd:∀b o,c.St b o→b<c.w.heap.size
 st0:J.le c.St
 stN:∀b o,c.St b o→J b o∨(B.b≤b∧¬B.F b)
 box:∀k cells,c.heap[k]? = some (.box cells)→∃arr t,c.w.heap[c.blk k]? = some (.cells arr t (0,0))∧B≤c.blk k∧(∀o,¬c.St (c.blk k) o)∧RAs c cells arr.toList
 row:∀k t e v,c.heap[k]? = some (.row t e v)→∃n xs,c.w.ownsRow B e t.size (c.rv k) n xs∧∀b,(c.rv k).ownBlock=some b→∀o,n*t.size≤o→¬c.St b o
 sep:∀k k' b,k≠k'→obk c k=some b→obk c k'≠some b
 mrow:∀k t e v l,c.heap[k]? = some (.mrow t e v l)→∃xs,c.w.ownsRow B e t.size (c.rv k) l.length xs∧Rep c.w c.St (chain (toD t) l) xs∧∀b,(c.rv k).ownBlock=some b→∀o,¬c.St b o
 drawn:Og B.F R c.w
 fo:∀k b,obk c k=some b→¬B.F b
 fl:∀b,B.F b→b<c.w.heap.size
 j0:∀b e cap n,¬J.j b e cap n
 junk:∀b e cap n,c.St.j b e cap n→J.j b e cap n∨Jk B c b e cap n
variable{B:Bd}
def Jk.keep {f :Gh}{cap n:Nat}(h:Jk B c b e cap n)(g:f.w.heap[b]? = c.w.heap[b]?)(j:∀o,f.St b o→c.St b o)(l:∀k,obk f k=some b→obk c k=some b):Jk B f b e cap n :=
 ⟨h.lo,h.nf,h.le,by rw[g];exact h.cells,λo x=>h.free o (j o x),λk x=>h.own k (l k x)⟩
structure NJ (base:Nat)(w:World)(St:Sb)(b:Nat)(e:TypeId)(cap n:Nat):Prop where
 lo:base≤b
 le:n≤cap∧cap≤maxLen
 cells:∃arr,w.heap[b]? = some (.cells arr e (0,0))∧arr.size=cap∧∀u∈arr.toList,u.oneCell'=true
 free:∀o,¬St b o
def Jk.lt {cap n:Nat}(h:Jk B c b e cap n):b<c.w.heap.size:=by obtain⟨f,h,_⟩:=h.cells;exact(θ.1 h).1
def KN (h:Inv B R J c){k:Nat}(f:obk c k=some b):∃j t m,c.w.heap[b]? = some (.cells j t m):=by
 unfold obk at f;split at f
 next cells hk=>obtain⟨j,t,h1,_⟩:=h.box k cells hk;have:=χ f;subst this;exact⟨j,t,_,h1⟩
 next t e v hk=>
  obtain⟨n,U,p,_⟩:=h.row k t e v hk;rcases p.2 with⟨x,_⟩|⟨g,cap,T,P,e2,C,r⟩
  ·rw[x]at f;cases f
  ·rw[P]at f;cases f;exact⟨_,_,_,C⟩
 next t e v l hk=>
  obtain⟨U,p,_⟩:=h.mrow k t e v l hk;rcases p.2 with⟨x,_⟩|⟨g,cap,T,P,e2,C,r⟩
  ·rw[x]at f;cases f
  ·rw[P]at f;cases f;exact⟨_,_,_,C⟩
 ·cases f
def gi (h:Inv B R J c){k:Nat}(f:obk c k=some b):b<c.w.heap.size∧B≤b:=by
 unfold obk at f;split at f
 next cells hk=>obtain⟨C,t,r,p,_⟩:=h.box k cells hk;have:=χ f;subst this;exact⟨(θ.1 r).1,p⟩
 next t e v hk=>obtain⟨n,j,g,_⟩:=h.row k t e v hk;have:=g.lt b f;exact⟨this.2,this.1⟩
 next t e v l hk=>obtain⟨j,g,_⟩:=h.mrow k t e v l hk;have:=g.lt b f;exact⟨this.2,this.1⟩
 ·cases f
open Go Go.RowKit
section
variable {B:Bd}{R:World}{J:Sb}{c:Gh}
variable{k:Nat}{w' :World}{St' :Sb}{U:Type}{arr:Array Value}{t e:TypeId}{xs:List Value}
def fY {c f:Gh}(j:f.heap[k]? = c.heap[k]?)(l:f.blk k=c.blk k)(g:f.rv k=c.rv k):obk f k=obk c k:=by unfold obk;rw[j,l,g]
def Inv.grow (h:Inv B R J c)(C:Below c.w.heap.size c.w w')(hs:c.St.le St')
  (hn:∀b o,St' b o→c.St b o∨(c.w.heap.size≤b∧b<w'.heap.size)) (hdr:c.w.drawn≤w'.drawn)
  (hj:∀b e cap n,St'.j b e cap n→c.St.j b e cap n∨NJ c.w.heap.size w' St' b e cap n) :
  Inv B R J { c with w:=w',St:=St' }∧Ev c { c with w:=w',St:=St' }:=by
 have ev:Ev c { c with w:=w',St:=St' }:=⟨hs,λa v hst _ hc=>(C.cell (h.bnd _ _ hst)).trans hc,λ_ cells x=>⟨cells,x,rfl⟩,λ_ t e v x=>⟨t,e,v,x,δ _,λ_=>rfl⟩,λ_ _ _ v l x=>.inl ⟨v,l,x,δ _,λ_=>rfl⟩,λ_ x=>x,λ_ _=>rfl⟩;refine⟨⟨h.below.trans (C.mono h.size),υ h.size C.size, ?_,h.st0.trans hs, ?_, ?_, ?_, ?_, ?_,h.drawn.trans (Og.of_below C hdr h.fl),h.fo,λb f=>J' (h.fl b f) C.size,h.j0,λb e cap n x=>?_⟩,ev⟩
 rotate_right 1
 ·obtain x|x:=hj b e cap n x
  ·refine(h.junk b e cap n x).imp id λq=>q.keep (C.block b q.lt) (λo y=>?_) λk y=>y;obtain y|y:=hn b o y
   ·exact y
   ·have:=q.lt;omega
  ·exact .inr ⟨υ h.size x.lo,λf=>by have:=h.fl b f;have:=x.lo;omega,x.le,x.cells,x.free,λk y=>by have:=(gi h y).1;have:=x.lo;omega⟩
 ·intro b o x;obtain x|x:=hn b o x
  ·exact J' (h.bnd _ _ x) C.size
  ·exact x.2
 ·intro b o x;obtain x|x:=hn b o x
  ·exact h.stN _ _ x
  ·exact .inr ⟨υ h.size x.1,λf=>by have:=h.fl b f;omega⟩
 ·intro k cells hk;obtain⟨arr,t,h1,h2,h3,h4⟩:=h.box k cells hk;have hlt:=(θ.1 h1).1;refine⟨arr,t,(C.block _ hlt).trans h1,h2,λo x=>?_,h4.mono ev⟩;obtain x|x:=hn _ o x
  ·exact h3 o x
  ·have:c.w.heap.size≤c.blk k:=x.1;omega
 ·intro k t e v hk;obtain⟨n,xs,T,P⟩:=h.row k t e v hk;refine⟨n,xs,⟨T.1, ?_⟩,λb p o hle x=>?_⟩
  ·obtain x|⟨g,cap,U,e1,e2,e3,r⟩:=T.2
   ·exact .inl x
   ·exact .inr ⟨g,cap,U,e1,e2,(C.block _ (θ.1 e3).1).trans e3,r⟩
  ·obtain x|x:=hn _ o x
   ·exact P b p o hle x
   ·have:=T.lt b p;omega
 ·exact h.sep
 ·intro k t e v l hk;obtain⟨xs,T,hrep,P⟩:=h.mrow k t e v l hk;refine⟨xs,⟨T.1, ?_⟩,hrep.mono ev.st ev.cell,λb p o x=>?_⟩
  ·obtain x|⟨g,cap,U,e1,e2,e3,r⟩:=T.2
   ·exact .inl x
   ·exact .inr ⟨g,cap,U,e1,e2,(C.block _ (θ.1 e3).1).trans e3,r⟩
  ·obtain x|x:=hn _ o x
   ·exact P b p o x
   ·have:=T.lt b p;omega
def Inv.drew (h:Inv B R J c):Inv B R J { c with w:=c.w.drew }∧Ev c { c with w:=c.w.drew } :=
 h.grow (w':=c.w.drew) (St':=c.St) ⟨rfl,rfl,rfl,δ _,λ_ _=>rfl⟩ (Sb.le.refl _) (λ_ _ x=>.inl x) (j? _) (λ_ _ _ _ x=>.inl x)
def get_set {l:List U}{i:Nat}{x:U}:(l.set k x)[i]? = if k=i then(if k<l.length then some x else none)else l[i]?:=by rw[List.getElem?_set]
def aq {l:List U}{x:U}(h:l[k]? = some x):k<l.length:=(g_.1 h).1
def Inv.addBox (h:Inv B R J c){g:Nat}{cells:List AV}(hk:c.heap[k]? = some .none)(hg:c.w.heap[g]? = some (.cells arr t (0,0)))(hB:B≤g)(hF:¬B.F g)
  (hst:∀o,¬c.St g o) (T:∀k',obk c k'≠some g) (hjk:∀e cap n,c.St.j g e cap n→J.j g e cap n) (hr:RAs c cells arr.toList) :
  Inv B R J { c with heap:=c.heap.set k (.box cells),blk:=λi=>if i=k then g else c.blk i }∧Ev c { c with heap:=c.heap.set k (.box cells),blk:=λi=>if i=k then g else c.blk i }:=by
 have hlt:=aq hk;have p:∀i,i≠k→(c.heap.set k (.box cells))[i]? = c.heap[i]?:=λi f=>by rw[get_set,ο (λe=>f e.symm)]
 have new:(c.heap.set k (.box cells))[k]? = some (.box cells):=by rw[get_set,β rfl,β hlt]
 have ev:Ev c { c with heap:=c.heap.set k (.box cells),blk:=λi=>if i=k then g else c.blk i }:=by
  refine⟨Sb.le.refl _,λ_ _ _ _ x=>x,λi cs x=>?_,λi t e v x=>?_,λi t e v l x=>?_,λi x=>?_,λ_ _=>rfl⟩
  ·have f:i≠k:=λe=>by subst e;rw[hk]at x;cases x
   exact⟨cs,(p i f).trans x,ο f⟩
  ·have f:i≠k:=λe=>by subst e;rw[hk]at x;cases x
   exact⟨t,e,v,(p i f).trans x,δ _,λ_=>rfl⟩
  ·have f:i≠k:=λe=>by subst e;rw[hk]at x;cases x
   exact .inl ⟨v,l,(p i f).trans x,δ _,λ_=>rfl⟩
  ·have f:i≠k:=λe=>by subst e;rw[hk]at x;cases x
   exact(p i f).trans x
 have P:∀i,i≠k→obk { c with heap:=c.heap.set k (.box cells),blk:=λi=>if i=k then g else c.blk i } i=obk c i:=λi f=>fY (p i f) (ο f) rfl;have r:obk { c with heap:=c.heap.set k (.box cells),blk:=λi=>if i=k then g else c.blk i } k=some g:=by unfold obk;simp[new]
 refine⟨⟨h.below,h.size,h.bnd,h.st0,h.stN, ?_, ?_, ?_,λi t' e' v' l' f=>?_,h.drawn,λi b U=>(by
  by_cases ei:i=k
  ·subst ei;rw[r]at U;cases U;exact hF
  ·rw[P i ei]at U;exact h.fo i b U),h.fl,h.j0,λb e cap n x=>?_⟩,ev⟩
 rotate_right 1
 ·by_cases eb:b=g
  ·subst eb;exact .inl (hjk e cap n x)
  ·refine(h.junk b e cap n x).imp id λq=>q.keep rfl (λ_ y=>y) λi y=>?_;by_cases ei:i=k
   ·subst ei;rw[r]at y;injection y with y;exact absurd y.symm eb
   ·rw[P i ei]at y;exact y
 rotate_left 3
 ·by_cases e:i=k
  ·subst e;have:=new.symm.trans f;injection this with this;cases this
  ·exact h.mrow i t' e' v' l' ((p i e).symm.trans f)
 ·intro i cs f;by_cases e:i=k
  ·subst e;have:=new.symm.trans f;cases this;exact⟨arr,t,by simpa using hg,by simpa using hB,by simpa using hst,hr.mono ev⟩
  ·have f:=(p i e).symm.trans f;obtain⟨a1,t1,h1,h2,h3,h4⟩:=h.box i cs f;exact⟨a1,t1,by simpa[e]using h1,by simpa[e]using h2,by simpa[e]using h3,h4.mono ev⟩
 ·intro i t' e' v' f;by_cases e:i=k
  ·subst e;have:=new.symm.trans f;injection this with this;cases this
  ·exact h.row i t' e' v' ((p i e).symm.trans f)
 ·intro i j b hij U C;by_cases ei:i=k
  ·subst ei;have hj:j≠i:=λe=>hij e.symm;rw[r]at U;rw[P j hj]at C;cases U;exact T j C
  ·rw[P i ei]at U;by_cases ej:j=k
   ·subst ej;rw[r]at C;cases C;exact T i U
   ·rw[P j ej]at C;exact h.sep i j b hij U C
def Inv.addRow (h:Inv B R J c){n:Nat}{t:Ty}{s:Value}(hk:c.heap[k]? = some .none)(ho:c.w.ownsRow B e t.size s n xs)
  (hsp:∀b,s.ownBlock=some b→∀o,n*t.size≤o→¬c.St b o) (T:∀k' b,s.ownBlock=some b→obk c k'≠some b) (hF:∀b,s.ownBlock=some b→¬B.F b) (hjk:∀b,s.ownBlock=some b→∀e cap n,c.St.j b e cap n→J.j b e cap n) :
  Inv B R J { c with heap:=c.heap.set k (.row t e 0),rv:=λi=>if i=k then s else c.rv i }∧Ev c { c with heap:=c.heap.set k (.row t e 0),rv:=λi=>if i=k then s else c.rv i }:=by
 have hlt:=aq hk;have g:∀i,i≠k→(c.heap.set k (.row t e 0))[i]? = c.heap[i]?:=λi f=>by rw[get_set,ο (λe=>f e.symm)]
 have new:(c.heap.set k (.row t e 0))[k]? = some (.row t e 0):=by rw[get_set,β rfl,β hlt]
 have ev:Ev c { c with heap:=c.heap.set k (.row t e 0),rv:=λi=>if i=k then s else c.rv i }:=by
  refine⟨Sb.le.refl _,λ_ _ _ _ x=>x,λi cs x=>?_,λi t e v x=>?_,λi t e v l x=>?_,λi x=>?_,λ_ _=>rfl⟩
  ·have f:i≠k:=λe=>by subst e;rw[hk]at x;cases x
   exact⟨cs,(g i f).trans x,rfl⟩
  ·have f:i≠k:=λe=>by subst e;rw[hk]at x;cases x
   exact⟨t,e,v,(g i f).trans x,δ _,λ_=>ο f⟩
  ·have f:i≠k:=λe=>by subst e;rw[hk]at x;cases x
   exact .inl ⟨v,l,(g i f).trans x,δ _,λ_=>ο f⟩
  ·have f:i≠k:=λe=>by subst e;rw[hk]at x;cases x
   exact(g i f).trans x
 have P:∀i,i≠k→obk { c with heap:=c.heap.set k (.row t e 0),rv:=λi=>if i=k then s else c.rv i } i=obk c i:=λi f=>fY (g i f) rfl (ο f);have p:obk { c with heap:=c.heap.set k (.row t e 0),rv:=λi=>if i=k then s else c.rv i } k=s.ownBlock:=by unfold obk;simp[new]
 refine⟨⟨h.below,h.size,h.bnd,h.st0,h.stN, ?_, ?_, ?_,λi t' e' v' l' f=>?_,h.drawn,λi b U=>(by
  by_cases C:i=k
  ·subst C;rw[p]at U;exact hF b U
  ·rw[P i C]at U;exact h.fo i b U),h.fl,h.j0,λb e cap n x=>?_⟩,ev⟩
 rotate_right 1
 ·by_cases eb:s.ownBlock=some b
  ·exact .inl (hjk b eb e cap n x)
  ·refine(h.junk b e cap n x).imp id λq=>q.keep rfl (λ_ y=>y) λi y=>?_;by_cases C:i=k
   ·subst C;rw[p]at y;exact absurd y eb
   ·rw[P i C]at y;exact y
 rotate_left 3
 ·by_cases e:i=k
  ·subst e;have:=new.symm.trans f;injection this with this;cases this
  ·obtain⟨xs',h1,h2,h3⟩:=h.mrow i t' e' v' l' ((g i e).symm.trans f);exact⟨xs',by simpa[e]using h1,h2,by simpa[e]using h3⟩
 ·intro i cs f;by_cases e:i=k
  ·subst e;have:=new.symm.trans f;injection this with this;cases this
  ·have f:=(g i e).symm.trans f;obtain⟨a1,t1,h1,h2,h3,h4⟩:=h.box i cs f;exact⟨a1,t1,h1,h2,h3,h4.mono ev⟩
 ·intro i t' e' v' f;by_cases C:i=k
  ·subst C;have:=new.symm.trans f;injection this with this;injection this with e1 e2 e3;subst e1;subst e2;subst e3;exact⟨n,xs,by simpa using ho,by simpa using hsp⟩
  ·obtain⟨n',xs',h1,h2⟩:=h.row i t' e' v' ((g i C).symm.trans f);exact⟨n',xs',by simpa[C]using h1,by simpa[C]using h2⟩
 ·intro i j b hij U r;by_cases C:i=k
  ·subst C;have hj:j≠i:=λe=>hij e.symm;rw[p]at U;rw[P j hj]at r;exact T j b U r
  ·rw[P i C]at U;by_cases ej:j=k
   ·subst ej;rw[p]at r;exact T i b r U
   ·rw[P j ej]at r;exact h.sep i j b hij U r
def Inv.setBox (h:Inv B R J c){cells cells':List AV}{arr' :Array Value}(hk:c.heap[k]? = some (.box cells))(hg:c.w.heap[c.blk k]? = some (.cells arr t (0,0)))
  (hr:RAs c cells' arr'.toList) :
  Inv B R J { c with heap:=c.heap.set k (.box cells'),w:=c.w.setRow (c.blk k) arr' }∧Ev c { c with heap:=c.heap.set k (.box cells'),w:=c.w.setRow (c.blk k) arr' }:=by
 have hlt:=aq hk;have C:∀i,i≠k→(c.heap.set k (.box cells'))[i]? = c.heap[i]?:=λi p=>by rw[get_set,ο (λe=>p e.symm)]
 have new:(c.heap.set k (.box cells'))[k]? = some (.box cells'):=by rw[get_set,β rfl,β hlt]
 have hns:∀o,¬c.St (c.blk k) o:=by obtain⟨_,_,_,_,h3,_⟩:=h.box k cells hk;exact h3
 have hBk:B≤c.blk k:=by obtain⟨_,_,_,h2,_⟩:=h.box k cells hk;exact h2
 have P:∀b,b≠c.blk k→(c.w.setRow (c.blk k) arr').heap[b]? = c.w.heap[b]?:=λb hb=>ar8 _ _ _ _ hb;have ev:Ev c { c with heap:=c.heap.set k (.box cells'),w:=c.w.setRow (c.blk k) arr' }:=by
  refine⟨Sb.le.refl _,λa v hst _ hc=>?_,λi cs x=>?_,λi t e v x=>?_,λi t e v l x=>?_,λi x=>?_,λ_ _=>rfl⟩
  rotate_left 3
  ·have p:i≠k:=λe=>by subst e;rw[hk]at x;cases x
   exact .inl ⟨v,l,(C i p).trans x,δ _,λ_=>rfl⟩
  ·have p:i≠k:=λe=>by subst e;rw[hk]at x;cases x
   exact(C i p).trans x
  ·exact(X' (P a.block (λe=>hns a.off (e ▸ hst)))).trans hc
  ·by_cases p:i=k
   ·subst p;exact⟨cells',new,rfl⟩
   ·exact⟨cs,(C i p).trans x,rfl⟩
  ·have p:i≠k:=λe=>by subst e;rw[hk]at x;cases x
   exact⟨t,e,v,(C i p).trans x,δ _,λ_=>rfl⟩
 have hbk:∀i cs,c.heap[i]? = some (.box cs)→i≠k→c.blk i≠c.blk k:=λi cs p T e=>by
  refine h.sep i k (c.blk i) T ?_ ?_
  ·unfold obk;rw[p]
  ·unfold obk;rw[hk,e]
 have hob:∀i,obk { c with heap:=c.heap.set k (.box cells'),w:=c.w.setRow (c.blk k) arr' } i=obk c i:=λi=>by
  by_cases p:i=k
  ·subst p;unfold obk;simp[new,hk]
  ·exact fY (C i p) rfl rfl
 have hok:obk c k=some (c.blk k):=by unfold obk;rw[hk]
 have U:∀b,B.F b→(c.w.setRow (c.blk k) arr').heap[b]? = c.w.heap[b]?:=λb f=>P b (λe=>h.fo k b (by rw[e];exact hok) f);have hog:Og B.F c.w (c.w.setRow (c.blk k) arr'):=⟨δ _,λb o x y=>(P b (λe=>by rw[e,hg]at x;cases x;cases y)).trans x,U⟩;refine⟨⟨?_, ?_, ?_,h.st0,h.stN, ?_, ?_, ?_,λi t' e' v' l' p=>?_,h.drawn.trans hog,λi b hb=>h.fo i b (by rw[hob i]at hb;exact hb),λb f=>(by
  have e:=U b f;rw[ask (h.fl b f)]at e;exact(θ.1 e).1),h.j0,λb e cap n x=>(h.junk b e cap n x).imp id λq=>q.keep (P b λe=>q.own k (by rw[e];exact hok)) (λ_ y=>y) λi y=>by rw[hob i]at y;exact y⟩,ev⟩
 rotate_left 6
 ·have T:i≠k:=λe=>by subst e;have:=new.symm.trans p;injection this with this;cases this
  have p:=(C i T).symm.trans p;obtain⟨xs,ho,hrep,hsp⟩:=h.mrow i t' e' v' l' p;refine⟨xs,⟨ho.1, ?_⟩,hrep.mono ev.st ev.cell,hsp⟩;obtain x|⟨g,cap,cur,e1,e2,e3,r⟩:=ho.2
  ·exact .inl x
  ·refine .inr ⟨g,cap,cur,e1,e2,(P g λe=>?_).trans e3,r⟩;refine h.sep i k g T ?_ ?_
   ·have e1:c.rv i=_:=e1;unfold obk;rw[p];simp[e1,Value.ownBlock]
   ·unfold obk;rw[hk,e]
 ·refine h.below.trans ⟨rfl,rfl,rfl,Ψ,λi p=>P i Ω⟩
 ·simpa using h.size
 ·intro b o x;simpa using h.bnd b o x
 ·intro i cs p;by_cases ei:i=k
  ·subst ei;have:=new.symm.trans p;cases this;exact⟨arr',t,asJ _ _ _ _ _ _ hg,hBk,hns,hr.mono ev⟩
  ·have p:=(C i ei).symm.trans p;obtain⟨a1,t1,h1,h2,h3,h4⟩:=h.box i cs p;exact⟨a1,t1,(P _ (hbk i cs p ei)).trans h1,h2,h3,h4.mono ev⟩
 ·intro i t' e' v' p;have T:i≠k:=λe=>by subst e;have:=new.symm.trans p;injection this with this;cases this
  have p:=(C i T).symm.trans p;obtain⟨n,xs,ho,hsp⟩:=h.row i t' e' v' p;refine⟨n,xs,⟨ho.1, ?_⟩,hsp⟩;obtain x|⟨g,cap,cur,e1,e2,e3,r⟩:=ho.2
  ·exact .inl x
  ·refine .inr ⟨g,cap,cur,e1,e2,(P g λe=>?_).trans e3,r⟩;refine h.sep i k g T ?_ ?_
   ·have e1:c.rv i=_:=e1;unfold obk;rw[p];simp[e1,Value.ownBlock]
   ·unfold obk;rw[hk,e]
 ·intro i j b hij hb hb';rw[hob]at hb hb';exact h.sep i j b hij hb hb'
def eE {P:Program}(w:World)(t ty e:TypeId)(i:TypeInfo)(z:Value)(size bytes:Nat)(ht:P.underlying t=some (.slice e))(hi:P.info? e=some i)(hz:i.zero=some z)
  (r:i.size=size) (hby:i.bytes=bytes) (hzs:z.cells.size=size) (hsz:0<size)
  (v:Value) (n:Nat) (xs:List Value) (p:w.ownsRow B e size v n xs)
  (A:Option Addr) (m cp:Nat) (f:List Value) (hl:f.length=m*size) (hA:m=0∨∃ad,A=some ad∧∀j u,f[j]? = some u→w.cell? (ad.add j)=some u) (h1:∀u∈f,u.oneCell'=true)
  (h63:n+m≤maxLen) (J:(n+m)*bytes≤140737488355328) (hbase:B≤w.heap.size) :
  ∃v' w',(Builtin.append_ #[t,t] ty #[v,.slice A m cp]).run P w = .ok v' w'∧w'.ownsRow B e size v' (n+m) (xs++f)∧w.grownBy w' v.ownBlock ∧
   (v'.ownBlock=v.ownBlock∨v'.ownBlock=some w.heap.size)∧(∀g,v.ownBlock=some g→∀j,j<n*size→w'.cell? ⟨g,j,none⟩=w.cell? ⟨g,j,none⟩)∧w.drawn≤w'.drawn:=by
 have hsmall:n+m≤9223372036854775807:=by simp[maxLen]at h63;omega
 by_cases hm:m=0
 ·subst hm;have hn:f=[]:=K' (by simpa using hl);subst hn;refine⟨v,w, ?_,by simpa using p,⟨rfl,rfl,rfl,δ _,λ_ _ _=>rfl⟩,.inl rfl,λ_ _ _ _=>rfl,δ _⟩;rcases p.2 with⟨rfl,rfl⟩|⟨g,cap,U,rfl,_,hg,hnc,_⟩
  ·cases A <;> simp[Builtin.append_,ε ht,sizeOf,typeInfo,hi,Builtin.lenOf,Builtin.firstCells,loadCells,loadCellsFrom]
  ·cases A <;> simp[Builtin.append_,ε ht,sizeOf,typeInfo,hi,Builtin.lenOf,Builtin.firstCells,loadCells,loadCellsFrom,hnc,storeCells]
 ·obtain⟨a,rfl,C⟩:=hA.resolve_left hm;obtain⟨v',w',l,h2,h3,_,h5⟩:=run_append_own_at (P:=P) w B t ty e i z size bytes ht hi hz r hby hzs hsz v n xs p a m cp f hl C h1 h63 J hbase;refine⟨v',w',l,h2,h3,h5,λg hg j hj=>?_, ?_⟩
  rotate_left
  ·rcases p.2 with⟨rfl,rfl⟩|⟨g',cap,U,rfl,hbg,hgg,hnc,hcm,hcs,htake⟩
   ·have hr:=run_append_nil (P:=P) w t ty e i z ht hi hz a m cp f (by rw[r];exact hl) C Ω Ω (by rw[hby];simp at J;omega);rw[hr]at l;injection l with hv hw;subst hw;exact j? _
   ·by_cases R:n+m≤cap
    ·subst r;have hfit:n*i.size+f.length≤U.size:=by rw[hl,hcs,←Nat.add_mul];exact Y' _ R
     have hr:=run_append_room (P:=P) w t ty e i ht hi g' n cap U hgg a m cp f hl C h1 R hfit;rw[hr]at l;injection l with hv hw;subst hw;exact δ _
    ·have T:∀j u,xs[j]? = some u→w.cell? ((⟨g',0,none⟩:Addr).add j)=some u:=p.cells (g:=g') rfl;have hr:=atj (P:=P) w t ty e i z ht hi hz ⟨g',0,none⟩ n cap xs (by rw[r];exact p.1) T a m cp f (by rw[r];exact hl) C Ω Ω (asM Ω (by rw[hby];exact J));rw[hr]at l;injection l with hv hw;subst hw;exact j? _
  obtain h5|h5:=h5
  ·have hc:=p.cells hg;have hc':=h2.cells (h5.trans hg);have hlx:j<xs.length:=by rw[p.1];exact hj
   have e1:=hc j xs[j] (ζ hlx);have e2:=hc' j xs[j] (by rw[ω hlx];exact ζ hlx);have hadd:(⟨g,0,none⟩:Addr).add j=⟨g,j,none⟩:=by unfold Addr.add;split <;> simp_all
   rw[hadd]at e1 e2;rw[e1,e2]
  ·subst r;rcases p.2 with⟨rfl,_⟩|⟨g',cap,U,rfl,hbg,hgg,hnc,hcm,hcs,htake⟩
   ·simp[Value.ownBlock]at hg
   ·have:g'=g:=by simpa[Value.ownBlock]using hg
    subst this;have hglt:=(θ.1 hgg).1;by_cases R:n+m≤cap
    ·have hfit:n*i.size+f.length≤U.size:=by rw[hl,hcs,←Nat.add_mul];exact Y' _ R
     have hr:=run_append_room (P:=P) w t ty e i ht hi g' n cap U hgg a m cp f hl C h1 R hfit;rw[hr]at l;injection l with hv hw;subst hv;simp[Value.ownBlock]at h5;omega
    ·have T:∀j u,xs[j]? = some u→w.cell? ((⟨g',0,none⟩:Addr).add j)=some u:=p.cells (g:=g') rfl;have hr:=atj (P:=P) w t ty e i z ht hi hz ⟨g',0,none⟩ n cap xs p.1 T a m cp f hl C Ω Ω (asM Ω (by rw[hby];exact J));rw[hr]at l;injection l with hv hw;subst hw;exact X' (a:=⟨g',j,none⟩) (Below.heap_alloc w.drew _ g' hglt)
def Inv.appendRow (h:Inv B R J c){v n m:Nat}{t:Ty}{s':Value}{news:List Value}(hk:c.heap[k]? = some (.row t e v))
  (ho:c.w.ownsRow B e t.size (c.rv k) n xs) (hsp:∀b,(c.rv k).ownBlock=some b→∀o,n*t.size≤o→¬c.St b o)
  (ho':w'.ownsRow B e t.size s' (n+m) (xs++news)) (hg:c.w.grownBy w' (c.rv k).ownBlock) (hat:s'.ownBlock=(c.rv k).ownBlock∨s'.ownBlock=some c.w.heap.size)
  (hpre:∀g,(c.rv k).ownBlock=some g→∀j,j<n*t.size→w'.cell? ⟨g,j,none⟩=c.w.cell? ⟨g,j,none⟩) (hdr:c.w.drawn≤w'.drawn) :
  let c':Gh:={ c with heap:=c.heap.set k (.row t e (v+1)),rv:=λi=>if i=k then s' else c.rv i,w:=w',St:=⟨λb o=>c.St b o∨(s'.ownBlock=some b∧o<(n+m)*t.size),c.St.j⟩ }
  Inv B R J c'∧Ev c c':=by
 intro c';have hlt:=aq hk;have P:∀i,i≠k→c'.heap[i]? = c.heap[i]?:=λi r=>by show(c.heap.set k _)[i]? = _;rw[get_set,ο (λe=>r e.symm)]
 have new:c'.heap[k]? = some (.row t e (v+1)):=by show(c.heap.set k _)[k]? = _;rw[get_set,β rfl,β hlt]
 have T:∀i,i≠k→c'.rv i=c.rv i:=λi r=>ο r;have rvn:c'.rv k=s':=β rfl;have C:obk c k=(c.rv k).ownBlock:=by unfold obk;rw[hk]
 have free:∀i b,i≠k→s'.ownBlock=some b→obk c i≠some b:=by
  intro i b r l U;obtain x|x:=hat
  ·rw[x,←C]at l;exact h.sep k i b (λe=>r e.symm) l U
  ·have:=(gi h U).1;rw[x]at l;injection l with l;omega
 have blkne:∀i b,i≠k→obk c i=some b→some b≠(c.rv k).ownBlock:=by intro i b r l e;rw[←C]at e;exact h.sep i k b r l e.symm
 have ev:Ev c c':=by
  refine⟨⟨λ_ _ x=>.inl x,λ_ _ _ _ x=>x⟩,λa u hst hsp' hc=>?_,λi cs x=>?_,λi t1 e1 v1 x=>?_,λi t1 e1 v1 l1 x=>?_,λi x=>?_,λ_ _=>rfl⟩
  rotate_left 3
  ·have r:i≠k:=λe=>by subst e;rw[hk]at x;cases x
   exact .inl ⟨v1,l1,(P i r).trans x,δ _,λ_=>T i r⟩
  ·have r:i≠k:=λe=>by subst e;rw[hk]at x;cases x
   exact(P i r).trans x
  ·by_cases hbk:(c.rv k).ownBlock=some a.block
   ·have hoff:a.off<n*t.size:=by
     rcases T' a.off (n*t.size)with y|y
     ·exact y
     ·exact absurd hst (hsp _ hbk _ y)
    have ea:a=⟨a.block,a.off,none⟩:=by cases a;simp at hsp'⊢;exact hsp'
    rw[ea];have:=hpre _ hbk _ hoff;rw[ea]at hc;exact this.trans hc
   ·exact hg.cell hc (λe=>hbk e.symm)
  ·have r:i≠k:=λe=>by subst e;rw[hk]at x;cases x
   exact⟨cs,(P i r).trans x,rfl⟩
  ·by_cases r:i=k
   ·subst r;have:=hk.symm.trans x;injection this with this;injection this with _ _ e3;subst e3;exact⟨t,e,v+1,new,Ω,λx=>Ω⟩
   ·exact⟨t1,e1,v1,(P i r).trans x,δ _,λ_=>T i r⟩
 have hbn:∀b,s'.ownBlock=some b→b<w'.heap.size∧B≤b:=λb l=>by have:=ho'.lt b l;exact⟨this.2,this.1⟩
 have hnF:∀b,s'.ownBlock=some b→¬B.F b:=λb l f=>by
  obtain y|y:=hat
  ·exact h.fo k b (C.trans (y ▸ l)) f
  ·rw[y]at l;injection l with l;have:=h.fl b f;omega
 have hobk2:obk c' k=s'.ownBlock:=by unfold obk;rw[new];show(c'.rv k).ownBlock=_;rw[rvn]
 have hrowB:∀g,(c.rv k).ownBlock=some g→B≤g:=λg hg'=>(ho.lt g hg').1;refine⟨⟨h.below.grown hg h.size hrowB,υ h.size hg.size, ?_,⟨λb o x=>.inl (h.st0.s _ _ x),h.st0.j⟩, ?_, ?_, ?_, ?_,λi t1 e1 v1 l1 r=>?_,h.drawn.trans (Og.of_grown hg (λb l=>KN h (C.trans l)) hdr (λb f=>⟨h.fl b f,λe=>h.fo k b (C.trans e.symm) f⟩)),λi b l=>(by
  by_cases ei:i=k
  ·subst ei;rw[hobk2]at l;exact hnF b l
  ·exact h.fo i b ((fY (P i ei) rfl (T i ei)).symm.trans l)),λb f=>J' (h.fl b f) hg.size,h.j0,λb e cap n x=>?_⟩,ev⟩
 rotate_right 1
 ·refine(h.junk b e cap n x).imp id λq=>?_;have hns:s'.ownBlock≠some b:=λy=>by
   obtain z|z:=hat
   ·exact q.own k (C.trans (z ▸ y))
   ·rw[z]at y;injection y with y;have:=q.lt;omega
  refine q.keep (hg.block b q.lt λy=>q.own k (C.trans y.symm)) (λo y=>?_) λi y=>?_
  ·obtain y|⟨y,_⟩:=y
   ·exact y
   ·exact absurd y hns
  ·by_cases ei:i=k
   ·subst ei;rw[hobk2]at y;exact absurd y hns
   ·exact(fY (P i ei) rfl (T i ei)).symm.trans y
 rotate_left 5
 ·have p:i≠k:=λe=>by subst e;have:=new.symm.trans r;injection this with this;cases this
  have hi':=(P i p).symm.trans r;obtain⟨xs1,h1,hrep,h2⟩:=h.mrow i t1 e1 v1 l1 hi';have hoi:obk c i=(c.rv i).ownBlock:=by unfold obk;rw[hi']
  refine⟨xs1, ?_,hrep.mono ev.st ev.cell,λb l o x=>?_⟩
  ·rw[T i p];refine h1.kept hg ?_;cases l:(c.rv i).ownBlock with
   |none=>exact .inl rfl
   |some b=>exact .inr (blkne i b p (hoi.trans l))
  ·rw[T i p]at l;obtain x|⟨x,_⟩:=x
   ·exact h2 b l o x
   ·exact free i b p x (hoi.trans l)
 ·intro b o x;obtain x|⟨x,_⟩:=x
  ·exact J' (h.bnd _ _ x) hg.size
  ·exact(hbn b x).1
 ·intro b o x;obtain x|⟨x,_⟩:=x
  ·exact h.stN _ _ x
  ·exact .inr ⟨(hbn b x).2,hnF b x⟩
 ·intro i cs r;have p:i≠k:=λe=>by subst e;have:=new.symm.trans r;injection this with this;cases this
  have r:=(P i p).symm.trans r;obtain⟨a1,t1,h1,h2,h3,h4⟩:=h.box i cs r;have hoi:obk c i=some (c.blk i):=by unfold obk;rw[r]
  refine⟨a1,t1,(hg.block _ (θ.1 h1).1 (blkne i _ p hoi)).trans h1,h2,λo x=>?_,h4.mono ev⟩;obtain x|⟨x,_⟩:=x
  ·exact h3 o x
  ·exact free i _ p x hoi
 ·intro i t1 e1 v1 r;by_cases p:i=k
  ·subst p;have:=new.symm.trans r;injection this with this;injection this with q1 q2 q3;subst q1;subst q2;subst q3;refine⟨n+m,xs++news,by rw[rvn];exact ho',λb l o hle x=>?_⟩;rw[rvn]at l;obtain x|⟨_,x⟩:=x
   ·obtain y|y:=hat
    ·exact hsp b (y ▸ l) o (υ (Y' _ Ω) hle) x
    ·have:=h.bnd _ _ x;rw[y]at l;injection l with l;omega
   ·omega
  ·have hi':=(P i p).symm.trans r;obtain⟨n1,xs1,h1,h2⟩:=h.row i t1 e1 v1 hi';have hoi:obk c i=(c.rv i).ownBlock:=by unfold obk;rw[hi']
   refine⟨n1,xs1, ?_,λb l o hle x=>?_⟩
   ·rw[T i p];refine h1.kept hg ?_;cases l:(c.rv i).ownBlock with
    |none=>exact .inl rfl
    |some b=>exact .inr (blkne i b p (hoi.trans l))
   ·rw[T i p]at l;obtain x|⟨x,_⟩:=x
    ·exact h2 b l o hle x
    ·exact free i b p x (hoi.trans l)
 ·intro i j b hij l U;have hobn:∀i,i≠k→obk c' i=obk c i:=λi r=>fY (P i r) rfl (T i r);have hobk':obk c' k=s'.ownBlock:=by unfold obk;rw[new];show(c'.rv k).ownBlock=_;rw[rvn]
  by_cases ei:i=k
  ·subst ei;have hj:j≠i:=λe=>hij e.symm;rw[hobk']at l;rw[hobn j hj]at U;exact free j b hj l U
  ·rw[hobn i ei]at l;by_cases ej:j=k
   ·subst ej;rw[hobk']at U;exact free i b ei U l
   ·rw[hobn j ej]at U;exact h.sep i j b hij l U
def Inv.obj (h:Inv B R J c){ho':HO}{r':Value}(hlt:k<c.heap.length)
  (hg:c.w.grownBy w' (obk c k)) (hdr:c.w.drawn≤w'.drawn) (hs:c.St.le St') (hj:∀b e cap n,St'.j b e cap n→c.St.j b e cap n)
  (hn:∀b o,St' b o→c.St b o∨((obk c k=some b∨c.w.heap.size≤b)∧b<w'.heap.size))
  (hcell:∀(a:Addr) v,c.St a.block a.off→a.spot=none→c.w.cell? a=some v→w'.cell? a=some v)
  (hk:c.heap[k]? = some .none∨∃t e v l,c.heap[k]? = some (.mrow t e v l)∧((∃v' l',ho' = .mrow t e v' l'∧v≤v'∧(v'=v→r'=c.rv k))∨ho' = .dead))
  (hho:ho' = .dead∨∃t e v l,ho' = .mrow t e v l∧(r'.ownBlock=none∨r'.ownBlock=obk c k∨r'.ownBlock=some c.w.heap.size)∧∃xs,w'.ownsRow B e t.size r' l.length xs∧Rep w' St' (chain (toD t) l) xs∧∀b,r'.ownBlock=some b→∀o,¬St' b o) :
  let c':Gh:={ c with heap:=c.heap.set k ho',w:=w',St:=St',rv:=λi=>if i=k then r' else c.rv i }
  Inv B R J c'∧Ev c c':=by
 intro c';have T:∀i,i≠k→c'.heap[i]? = c.heap[i]?:=λi r=>by show(c.heap.set k _)[i]? = _;rw[get_set,ο (λe=>r e.symm)]
 have new:c'.heap[k]? = some ho':=by show(c.heap.set k _)[k]? = _;rw[get_set,β rfl,β hlt]
 have rvo:∀i,i≠k→c'.rv i=c.rv i:=λi r=>ο r;have rvn:c'.rv k=r':=β rfl;have nbox:∀cells,c.heap[k]? ≠ some (.box cells):=λcells q=>by obtain x|⟨_,_,_,_,x,_⟩:=hk <;> rw[x]at q <;> cases q
 have nrow:∀t e v,c.heap[k]? ≠ some (.row t e v):=λt e v q=>by obtain x|⟨_,_,_,_,x,_⟩:=hk <;> rw[x]at q <;> cases q
 have ndead:c.heap[k]? ≠ some .dead:=λq=>by obtain x|⟨_,_,_,_,x,_⟩:=hk <;> rw[x]at q <;> cases q
 have ev:Ev c c':=by
  refine⟨hs,hcell,λi cs x=>?_,λi t e v x=>?_,λi t e v l x=>?_,λi x=>?_,λ_ _=>rfl⟩
  ·have r:i≠k:=λe=>nbox cs (e ▸ x);exact⟨cs,(T i r).trans x,rfl⟩
  ·have r:i≠k:=λe'=>nrow t e v (e' ▸ x);exact⟨t,e,v,(T i r).trans x,δ _,λ_=>rvo i r⟩
  ·by_cases r:i=k
   ·subst r;obtain y|⟨t1,e1,v1,l1,y,z⟩:=hk
    ·rw[y]at x;cases x
    ·rw[y]at x;injection x with x;injection x with x1 x2 x3 x4;subst x1;subst x2;subst x3;rcases z with⟨v',l',z1,z2,z3⟩|z
     ·exact .inl ⟨v',l',by rw[new,z1],z2,λe=>by rw[rvn];exact z3 e⟩
     ·exact .inr (by rw[new,z])
   ·exact .inl ⟨v,l,(T i r).trans x,δ _,λ_=>rvo i r⟩
  ·have r:i≠k:=λe=>ndead (e ▸ x);exact(T i r).trans x
 have hobk:obk c' k=none∨obk c' k=obk c k∨obk c' k=some c.w.heap.size:=by
  obtain rfl|⟨t,e,v,l,rfl,x,_⟩:=hho
  ·left;unfold obk;rw[new]
  ·have:obk c' k=r'.ownBlock:=by unfold obk;rw[new];show(c'.rv k).ownBlock=_;rw[rvn]
   rw[this];exact x
 have hobn:∀i,i≠k→obk c' i=obk c i:=λi r=>fY (T i r) rfl (rvo i r);have ne:∀i b,i≠k→obk c i=some b→some b≠obk c k:=λi b r p e=>h.sep i k b r p e.symm;have hlow:∀b,obk c k=some b∨c.w.heap.size≤b→B≤b:=λb p=>by
  obtain p|p:=p
  ·exact(gi h p).2
  ·exact υ h.size p
 have fresh:∀i b o,i≠k→obk c i=some b→St' b o→c.St b o:=λi b o r p x=>by
  obtain x|⟨x|x,_⟩:=hn b o x
  ·exact x
  ·exact absurd x (h.sep i k b r p)
  ·have:=(gi h p).1;omega
 refine⟨⟨?_,υ h.size hg.size, ?_,h.st0.trans hs, ?_, ?_, ?_, ?_, ?_,h.drawn.trans (Og.of_grown hg (λb p=>KN h p) hdr (λb f=>⟨h.fl b f,λe=>h.fo k b e.symm f⟩)),λi b p f=>(by
  by_cases ei:i=k
  ·subst ei;obtain x|x|x:=hobk <;> rw[x]at p
   ·cases p
   ·exact h.fo i b p f
   ·injection p with p;have:=h.fl b f;omega
  ·rw[hobn i ei]at p;exact h.fo i b p f),λb f=>J' (h.fl b f) hg.size,h.j0,λb e cap n x=>?_⟩,ev⟩
 rotate_right 1
 ·refine(h.junk b e cap n (hj b e cap n x)).imp id λq=>q.keep (hg.block b q.lt λy=>q.own k y.symm) (λo y=>?_) λi y=>?_
  ·obtain y|⟨y|y,_⟩:=hn b o y
   ·exact y
   ·exact absurd y (q.own k)
   ·have:=q.lt;omega
  ·by_cases ei:i=k
   ·subst ei;obtain z|z|z:=hobk <;> rw[z]at y
    ·cases y
    ·exact y
    ·injection y with y;have:=q.lt;omega
   ·rw[hobn i ei]at y;exact y
 ·exact h.below.grown hg h.size (λg hg'=>(gi h hg').2)
 ·intro b o x;obtain x|x:=hn b o x
  ·exact J' (h.bnd _ _ x) hg.size
  ·exact x.2
 ·intro b o x;obtain x|x:=hn b o x
  ·exact h.stN _ _ x
  ·refine .inr ⟨hlow b x.1,λf=>?_⟩;obtain y|y:=x.1
   ·exact h.fo k b y f
   ·have:=h.fl b f;omega
 ·intro i cs r;have C:i≠k:=λe=>by subst e;have:=new.symm.trans r;injection this with this;obtain y|⟨_,_,_,_,y,_⟩:=hho <;> rw[y]at this <;> cases this
  have r:=(T i C).symm.trans r;obtain⟨a1,t1,h1,h2,h3,h4⟩:=h.box i cs r;have U:obk c i=some (c.blk i):=by unfold obk;rw[r]
  exact⟨a1,t1,(hg.block _ (θ.1 h1).1 (ne i _ C U)).trans h1,h2,λo x=>h3 o (fresh i _ o C U x),h4.mono ev⟩
 ·intro i t1 e1 v1 r;have C:i≠k:=λe=>by subst e;have:=new.symm.trans r;injection this with this;obtain y|⟨_,_,_,_,y,_⟩:=hho <;> rw[y]at this <;> cases this
  have r:=(T i C).symm.trans r;obtain⟨n1,xs1,h1,h2⟩:=h.row i t1 e1 v1 r;have U:obk c i=(c.rv i).ownBlock:=by unfold obk;rw[r]
  refine⟨n1,xs1, ?_,λb p o hle x=>?_⟩
  ·rw[rvo i C];refine h1.kept hg ?_;cases p:(c.rv i).ownBlock with
   |none=>exact .inl rfl
   |some b=>exact .inr (ne i b C (U.trans p))
  ·rw[rvo i C]at p;exact h2 b p o hle (fresh i b o C (U.trans p) x)
 ·intro i j b hij p P;by_cases ei:i=k
  ·subst ei;have hj:j≠i:=λe=>hij e.symm;rw[hobn j hj]at P;obtain x|x|x:=hobk <;> rw[x]at p
   ·cases p
   ·exact h.sep i j b hij p P
   ·injection p with p;have:=(gi h P).1;omega
  ·rw[hobn i ei]at p;by_cases ej:j=k
   ·subst ej;obtain x|x|x:=hobk <;> rw[x]at P
    ·cases P
    ·exact h.sep i j b hij p P
    ·injection P with P;have:=(gi h p).1;omega
   ·rw[hobn j ej]at P;exact h.sep i j b hij p P
 ·intro i t1 e1 v1 l1 r;by_cases C:i=k
  ·subst C;have e:=new.symm.trans r;injection e with e;obtain y|⟨t,e',v,l,y,_,xs,z1,z2,z3⟩:=hho
   ·rw[y]at e;cases e
   ·rw[y]at e;injection e with q1 q2 q3 q4;subst q1;subst q2;have q4:=asa q4;subst q4;exact⟨xs,by rw[rvn];exact z1,z2,by rw[rvn];exact z3⟩
  ·have r:=(T i C).symm.trans r;obtain⟨xs1,h1,hrep,h2⟩:=h.mrow i t1 e1 v1 l1 r;have U:obk c i=(c.rv i).ownBlock:=by unfold obk;rw[r]
   refine⟨xs1, ?_,hrep.mono ev.st ev.cell,λb p o x=>?_⟩
   ·rw[rvo i C];refine h1.kept hg ?_;cases p:(c.rv i).ownBlock with
    |none=>exact .inl rfl
    |some b=>exact .inr (ne i b C (U.trans p))
   ·rw[rvo i C]at p;exact h2 b p o (fresh i b o C (U.trans p) x)
end
