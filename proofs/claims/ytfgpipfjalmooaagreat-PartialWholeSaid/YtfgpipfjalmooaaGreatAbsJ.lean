/- One operation. -/
import Derived.Test.YtfgpipfjalmooaaGreatAl
import Derived.Calls
import Derived.Orders
import Derived.Below
import Derived.Maps.AppendAt
import Derived.Laws.StructEq
import Derived.KernelRfl
import Derived.RangeFuncOwn
open Option renaming some→ä,none→ö
open Bool renaming true→ü,false→ß
open Go renaming World→æ,Value→ø,Program→å,TypeId→é,Operand→è,execOp→ê,Oper→ë,eqGuard→ï
set_option linter.all false
namespace Go.Proofs.YtfgpipfjalmooaaGreat
def dz (_:Go.World):Nat:=0
namespace Abs
open Go Go.RowKit
abbrev Str:=List UInt8
inductive Tree where
 |mk (kind:Int) (text:Str) (leads:List Str) (kids:List Tree)
inductive Ty where
 |int (k:IntKind)|bool|str|slice (t:Ty)|unit|cons (a b:Ty)|tree|jsl (e:é)
 deriving DecidableEq
abbrev Ty.den:Ty→Type
 |.int _=>Int
 |.bool=>Bool
 |.str=>Str
 |.slice t=>List t.den
 |.unit=>Unit
 |.cons a b=>a.den×b.den
 |.tree=>Tree
 |.jsl _=>Nat
inductive D where
 |sc (v:ø)|nil|cons (a b:D)|sl (d:D)|jk (e:é) (n:Nat)
def D.len:D→Nat
 |.cons _ b=>b.len+1
 |_=>0
def chain {g:Type}(f:g→D):List g→D
 |[]=>.nil
 |x::l=>.cons (f x) (chain f l)
def Wo (s:Str):D :=.sc (.string ⟨s.toArray⟩)
mutual
def sn:Tree→D
 |.mk k t f g=>.cons (.sc (.int .i64 k)) (.cons (Wo t) (.cons (.sl (chain Wo f)) (.cons (.sl (sN g)) .nil)))
def sN:List Tree→D
 |[]=>.nil
 |t::ts=>.cons (sn t) (sN ts)
end
def toD:(t:Ty)→t.den→D
 |.int k,n=>.sc (.int k n)
 |.bool,b=>.sc (.bool b)
 |.str,s=>Wo s
 |.slice t,l=>.sl (chain (toD t) l)
 |.unit,_=>.nil
 |.cons a b,x=>.cons (toD a x.1) (toD b x.2)
 |.tree,t=>sn t
 |.jsl e,n=>.jk e n
def iH (l:List Tree):sN l=chain sn l:=by
 induction l with
 |nil=>simp[sN,chain]
 |cons t g f=>simp[sN,chain,f]
def len_chain {g:Type}(f:g→D)(l:List g):(chain f l).len=l.length:=by
 induction l with
 |nil=>rfl
 |cons x l j=>simp[chain,D.len,j]
def Ty.size:Ty→Nat
 |.unit=>0
 |.cons a b=>a.size+b.size
 |.tree=>4
 |_=>1
def Ty.an:Ty→Bool
 |.unit|.cons _ _|.tree=>ü
 |_=>ß
structure Sb where
 s:Nat→Nat→Prop
 j:Nat→é→Nat→Nat→Prop:=λ_ _ _ _=>False
instance:CoeFun Sb λ_=>Nat→Nat→Prop:=⟨Sb.s⟩
structure Sb.le (a b:Sb):Prop where
 s:∀x o,a.s x o→b.s x o
 j:∀x e c n,a.j x e c n→b.j x e c n
def Sb.le.refl (a:Sb):a.le a:=⟨λ_ _ h=>h,λ_ _ _ _ h=>h⟩
def Sb.le.trans {a b c:Sb}(h:a.le b)(k:b.le c):a.le c:=⟨λ_ _ x=>k.s _ _ (h.s _ _ x),λ_ _ _ _ x=>k.j _ _ _ _ (h.j _ _ _ _ x)⟩
def Rep (w:æ)(St:Sb):D→List ø→Prop
 |.sc v,f=>f=[v]∧v.oneCell'=ü
 |.nil,f=>f=[]
 |.cons a b,f=>∃c1 c2,f=c1++c2∧Rep w St a c1∧Rep w St b c2
 |.sl d,f=>∃A n c,f=[.slice A n c]∧n=d.len∧n≤c ∧
   (n=0∨∃g l,A=ä g∧g.spot=ö∧Rep w St d l∧∀j u,l[j]? = ä u→w.cell? (g.add j)=ä u∧St g.block (g.off+j))
 |.jk e n,f=>∃A c,f=[.slice A n c]∧((A=ö∧n=0∧c=0)∨∃b,A=ä ⟨b,0,ö⟩∧St.j b e c n)
def Rep.one {w:æ}{St:Sb}:∀{d:D} {g:List ø},Rep w St d g→∀u∈g,u.oneCell'=ü
 |.sc v,g,h,u,f=>by obtain⟨rfl,j⟩:=h;simp at f;rw[f];exact j
 |.nil,g,h,u,f=>by have h:g=[]:=h;subst h;simp at f
 |.cons a b,g,h,u,f=>by
  obtain⟨c1,c2,rfl,p,l⟩:=h;obtain j|j:=q'.1 f
  ·exact p.one u j
  ·exact l.one u j
 |.sl d,g,h,u,f=>by obtain⟨A,n,c,rfl,_⟩:=h;simp at f;rw[f];rfl
 |.jk e n,g,h,u,f=>by obtain⟨A,c,rfl,_⟩:=h;simp at f;rw[f];rfl
def Rep.mono {w w':æ}{St St':Sb}(l:St.le St')
  (C:∀(a:Addr) v,St a.block a.off→a.spot=ö→w.cell? a=ä v→w'.cell? a=ä v) :
  ∀{d:D} {r:List ø},Rep w St d r→Rep w' St' d r
 |.sc _,_,h=>h
 |.nil,_,h=>h
 |.cons a b,r,h=>by obtain⟨c1,c2,rfl,ha,p⟩:=h;exact⟨c1,c2,rfl,ha.mono l C,p.mono l C⟩
 |.sl d,r,h=>by
  obtain⟨A,n,c,rfl,U,P,h⟩:=h;refine⟨A,n,c,rfl,U,P, ?_⟩;obtain h|⟨g,ds,rfl,J,hd,f⟩:=h
  ·exact .inl h
  ·refine .inr ⟨g,ds,rfl,J,hd.mono l C,λj u T=>?_⟩;obtain⟨h1,R⟩:=f j u T;have p:(g.add j).block=g.block∧(g.add j).off=g.off+j∧(g.add j).spot=none:=by
    unfold Addr.add;split <;> simp_all
   exact⟨C _ _ (by rw[p.1,p.2.1];exact R) p.2.2 h1,l.s _ _ R⟩
 |.jk e n,r,h=>by obtain⟨A,c,rfl,h⟩:=h;exact⟨A,c,rfl,h.imp id λ⟨b,e1,e2⟩=>⟨b,e1,l.j _ _ _ _ e2⟩⟩
mutual
def Rk {w:æ}{St:Sb}:∀{t:Tree} {f:List ø},Rep w St (sn t) f→f.length=4
 |.mk k t j l,f,h=>by simp only[sn,Wo,Rep]at h;obtain⟨c1,c2,rfl,⟨rfl,_⟩,c3,c4,rfl,⟨rfl,_⟩,c5,c6,rfl,⟨A,n,c,rfl,_⟩,c7,c8,rfl,⟨r,g,p,rfl,_⟩,rfl⟩:=h;rfl
end
def Rep.size {w:æ}{St:Sb}:∀{t:Ty} {x:t.den} {cs:List ø},Rep w St (toD t x) cs→cs.length=t.size
 |.int _,_,_,h=>by obtain⟨rfl,_⟩:=h;rfl
 |.bool,_,_,h=>by obtain⟨rfl,_⟩:=h;rfl
 |.str,_,_,h=>by obtain⟨rfl,_⟩:=h;rfl
 |.slice _,_,_,h=>by obtain⟨A,n,c,rfl,_⟩:=h;rfl
 |.unit,_,_,h=>by have h:_=[]:=h;subst h;rfl
 |.cons a b,x,_,h=>by obtain⟨c1,c2,rfl,g,f⟩:=h;simp[Ty.size,g.size,f.size]
 |.tree,_,_,h=>Rk h
 |.jsl _,_,_,h=>by obtain⟨A,c,rfl,_⟩:=h;rfl
def D.j5:D→Bool
 |.jk _ _=>ß
 |.cons a b=>a.j5&&b.j5
 |.sl d=>d.j5
 |_=>ü
def Ty.j5:Ty→Bool
 |.jsl _=>ß
 |.slice t=>t.j5
 |.cons a b=>a.j5&&b.j5
 |_=>ü
def xH {g:Type}{f:g→D}:∀{l:List g},(∀x∈l,(f x).j5=ü)→(chain f l).j5=ü
 |[],_=>rfl
 |x::l,h=>by simp[chain,D.j5,h x (m_ ..),xH λy j=>h y (e_ _ j)]
mutual
def IN:∀t:Tree,(sn t).j5=ü
 |.mk k t g j=>by simp[sn,D.j5,Wo,xH (f:=Wo) (l:=g) λ_ _=>rfl,FE j]
def FE:∀f:List Tree,(sN f).j5=ü
 |[]=>rfl
 |t::f=>by simp[sN,D.j5,IN t,FE f]
end
def zn:∀{t:Ty} (x:t.den),t.j5=ü→(toD t x).j5=ü
 |.int _,_,_=>rfl
 |.bool,_,_=>rfl
 |.str,_,_=>rfl
 |.unit,_,_=>rfl
 |.jsl _,_,h=>by cases h
 |.tree,x,_=>IN x
 |.slice t,l,h=>xH λx _=>zn x h
 |.cons a b,x,h=>by simp[Ty.j5]at h;simp[toD,D.j5,zn x.1 h.1,zn x.2 h.2]
def Rep.nj {w:æ}{St St':Sb}(l:∀b o,St b o→St' b o):∀{d:D} {p:List ø},d.j5=ü→Rep w St d p→Rep w St' d p
 |.sc _,_,_,h=>h
 |.nil,_,_,h=>h
 |.cons a b,p,g,h=>by simp[D.j5]at g;obtain⟨c1,c2,rfl,U,T⟩:=h;exact⟨c1,c2,rfl,U.nj l g.1,T.nj l g.2⟩
 |.sl d,p,g,h=>by
  obtain⟨A,n,c,rfl,R,C,h⟩:=h;refine⟨A,n,c,rfl,R,C, ?_⟩;obtain h|⟨ad,ds,rfl,r,J,f⟩:=h
  ·exact .inl h
  ·exact .inr ⟨ad,ds,rfl,r,J.nj l g,λj u P=>⟨(f j u P).1,l _ _ (f j u P).2⟩⟩
 |.jk _ _,_,g,_=>by cases g
def RepV (w:æ)(St:Sb)(t:Ty)(x:t.den)(v:ø):Prop :=
 if t.an then ∃f,v = .agg f.toArray∧Rep w St (toD t x) f else Rep w St (toD t x) [v]
def RepV.cells {w:æ}{St:Sb}{t:Ty}{x:t.den}{v:ø}(h:RepV w St t x v):Rep w St (toD t x) v.cells.toList:=by
 unfold RepV at h;split at h
 ·obtain⟨g,rfl,h⟩:=h;simpa[Value.cells]using h
 ·have f:=h.one v Ψ;have:v.cells = #[v]:=by cases v <;> simp_all[Value.oneCell',Value.cells]
  rw[this];exact h
def RepV.mono {w w':æ}{St St':Sb}(f:St.le St')
  (g:∀(a:Addr) v,St a.block a.off→a.spot=ö→w.cell? a=ä v→w'.cell? a=ä v) {t:Ty} {x:t.den} {v:ø} (h:RepV w St t x v):RepV w' St' t x v:=by
 unfold RepV at *;split
 next ht=>simp[ht]at h;obtain⟨j,rfl,h⟩:=h;exact⟨j,rfl,h.mono f g⟩
 next ht=>simp[ht]at h;exact Rep.mono f g h
def RepV.nj {w:æ}{St St':Sb}(f:∀b o,St b o→St' b o){t:Ty}{x:t.den}{v:ø}(j:t.j5=ü)(h:RepV w St t x v):RepV w St' t x v:=by
 have g:=zn x j;unfold RepV at *;split
 next q=>simp[q]at h;obtain⟨l,rfl,h⟩:=h;exact⟨l,rfl,h.nj f g⟩
 next q=>simp[q]at h;exact Rep.nj f g h
def dV {w:æ}{St:Sb}{t:Ty}{l:List t.den}{p:List ø}(h:Rep w St (toD (.slice t) l) p) :
  ∃A c,p=[.slice A l.length c]∧l.length≤c∧(l.length=0∨∃f g,A=ä f∧f.spot=ö∧Rep w St (chain (toD t) l) g∧∀j u,g[j]? = ä u→w.cell? (f.add j)=ä u∧St f.block (f.off+j)):=by
 simp only[toD,Rep,len_chain]at h;obtain⟨A,n,c,rfl,rfl,r,h⟩:=h;exact⟨A,c,rfl,r,h⟩
def qh {w:æ}{St:Sb}{t:Ty}:∀{l:List t.den} {f:List ø},Rep w St (chain (toD t) l) f→∀i (h:i<l.length),
  Rep w St (toD t l[i]) ((f.drop (i*t.size)).take t.size)
 |[],_,_,i,h=>absurd h Ψ
 |x::l,f,hr,i,h=>by
  obtain⟨c1,c2,rfl,j,p⟩:=hr;have g:=j.size;cases i with
  |zero=>simp;rw[←g,R?];exact j
  |succ i =>have:=qh p i (by simpa using h);rw[show(i+1)*t.size=c1.length+i*t.size by rw[d?,g];omega,g?];simpa using this
def bv {w:æ}{St:Sb}{t:Ty}:∀{l:List t.den} {f:List ø},Rep w St (chain (toD t) l) f→f.length=l.length*t.size
 |[],f,h=>by have h:f=[]:=h;subst h;simp
 |x::l,f,h=>by obtain⟨c1,c2,rfl,j,g⟩:=h;simp[j.size,bv g,d?,U?]
def kN {w:æ}{St:Sb}{t:Ty}:∀{l j:List t.den} {g f:List ø},Rep w St (chain (toD t) l) g→Rep w St (chain (toD t) j) f→Rep w St (chain (toD t) (l++j)) (g++f)
 |[],_,g,_,h,p=>by have h:g=[]:=h;subst h;simpa using p
 |x::l,j,g,f,h,p=>by obtain⟨c1,c2,rfl,C,r⟩:=h;exact⟨c1,c2++f,Ψ,C,kN r p⟩
def xZ {w:æ}{St:Sb}{t:Ty}:∀{l:List t.den} {f:List ø} (k:Nat),k≤l.length→Rep w St (chain (toD t) l) f→Rep w St (chain (toD t) (l.drop k)) (f.drop (k*t.size))
 |l,f,0,_,h=>by simpa using h
 |[],f,k+1,hk,h=>by simp at hk
 |x::l,f,k+1,hk,h=>by obtain⟨c1,c2,rfl,j,g⟩:=h;have:=xZ k (by simpa using hk) g;rw[show(k+1)*t.size=c1.length+k*t.size by rw[d?,j.size];omega,g?];simpa using this
def rV {w:æ}{St:Sb}{t:Ty}:∀{l:List t.den} {f:List ø} (k:Nat),k≤l.length→Rep w St (chain (toD t) l) f→Rep w St (chain (toD t) (l.take k)) (f.take (k*t.size))
 |l,f,0,_,h=>by simp[chain,Rep]
 |[],f,k+1,hk,h=>by simp at hk
 |x::l,f,k+1,hk,h=>by obtain⟨c1,c2,rfl,g,j⟩:=h;have:=rV k (by simpa using hk) j;rw[show(k+1)*t.size=c1.length+k*t.size by rw[d?,g.size];omega];refine⟨c1,c2.take (k*t.size), ?_,g,this⟩;rw[akC]
inductive AV where
 |unk
 |val (t:Ty) (x:t.den)
 |nil
 |own (k v:Nat) (t:Ty) (l:List t.den)
 |ref (t:Ty) (x:t.den)
 |box (k off:Nat)
 |fn (f:FuncId) (caps:AV)
 |agg (parts:AV)
 |tup (parts:AV)
 |pnil
 |pcons (a b:AV)
 |cond (c:Bool) (a:AV)
 |msl (k v lo hi:Nat)
 |mpt (k v i off:Nat)
 |yld (j:Nat)
 |fix (C:Nat→Nat→Prop) (w:æ)
inductive HO where
 |none
 |box (cells:List AV)
 |row (t:Ty) (e:é) (ver:Nat)
 |cu (t:Ty) (e:é) (ver:Nat) (l:List t.den)
 |dead
def AV.j5:AV→Bool
 |.val t _|.own _ _ t _|.ref t _=>t.j5
 |.fn _ p|.agg p|.tup p=>p.j5
 |.pcons a b=>a.j5&&b.j5
 |.cond _ a=>a.j5
 |_=>ü
structure Sg where
 env:List AV
 heap:List HO
def aL (a b:Bool):Bool:=match b with|true=>ü|false=>!a
def aI (a:Bool):aL a a=true:=by cases a <;> rfl
def cd (a:Bool):aL a ü=true:=rfl
def uO (a:Bool):aL ü a=a:=by cases a <;> rfl
def GH (a:Bool):aL ß a=true:=by cases a <;> rfl
def cast? (t f:Ty)(x:t.den):Option f.den:=if h:t=f then ä (h ▸ x)else ö
def Ty.fields:Ty→List Ty
 |.cons a b=>a::b.fields
 |.tree=>[.int .i64,.str,.slice .str,.slice .tree]
 |_=>[]
def zero:(t:Ty)→t.den
 |.int _=>(0:Int)
 |.bool=>ß
 |.str=>([]:Str)
 |.slice _=>[]
 |.unit=>()
 |.cons a b=>(zero a,zero b)
 |.tree=>Tree.mk 0 [] [] []
 |.jsl _=>(0:Nat)
def Tree.kind:Tree→Int|.mk k _ _ _=>k
def Tree.text:Tree→Str|.mk _ t _ _=>t
def Tree.leads:Tree→List Str|.mk _ _ l _=>l
def Tree.kids:Tree→List Tree|.mk _ _ _ k=>k
def pE:(t:Ty)→t.den→Nat→Option ((f:Ty)×f.den)
 |.cons a _,x,0=>ä ⟨a,x.1⟩
 |.cons _ b,x,i+1=>pE b x.2 i
 |.tree,x,0=>ä ⟨.int .i64,x.kind⟩
 |.tree,x,1=>ä ⟨.str,x.text⟩
 |.tree,x,2=>ä ⟨.slice .str,x.leads⟩
 |.tree,x,3=>ä ⟨.slice .tree,x.kids⟩
 |_,_,_=>ö
def flat:(t:Ty)→t.den→List AV
 |.int k,x=>[.val (.int k) x]
 |.bool,x=>[.val .bool x]
 |.str,x=>[.val .str x]
 |.slice t,x=>[.val (.slice t) x]
 |.unit,_=>[]
 |.cons a b,x=>flat a x.1++flat b x.2
 |.tree,x=>[.val (.int .i64) x.kind,.val .str x.text,.val (.slice .str) x.leads,.val (.slice .tree) x.kids]
 |.jsl e,x=>[.val (.jsl e) x]
def BM:Ty→List AV
 |.int k=>[.val (.int k) (0:Int)]
 |.bool=>[.val .bool ß]
 |.str=>[.val .str ([]:Str)]
 |.slice _=>[.nil]
 |.unit=>[]
 |.cons a b=>BM a++BM b
 |.tree=>[.val (.int .i64) (0:Int),.val .str ([]:Str),.nil,.nil]
 |.jsl _=>[.nil]
def one? (t:Ty):AV→Option t.den
 |.val f x=>cast? f t x
 |.nil=>match t with|.slice _=>ä []|.jsl _=>ä (0:Nat)|_=>ö
 |.own _ _ f l=>cast? (.slice f) t l
 |_=>ö
def asm:(t:Ty)→List AV→Option t.den
 |.unit,[]=>ä ()
 |.cons a b,l=>match asm a (l.take a.size),asm b (l.drop a.size)with|some x,ä y=>ä (x,y)|_,_=>ö
 |.tree,[a,b,c,d]=>match one? (.int .i64) a,one? .str b,one? (.slice .str) c,one? (.slice .tree) d with
  |some k,ä t,ä f,ä g=>ä (Tree.mk k t f g)
  |_,_,_,_=>ö
 |.int k,[a]=>one? (.int k) a
 |.bool,[a]=>one? .bool a
 |.str,[a]=>one? .str a
 |.slice t,[a]=>one? (.slice t) a
 |.jsl e,[a]=>one? (.jsl e) a
 |_,_=>ö
def AV.parts:AV→List AV
 |.pcons a b=>a::b.parts
 |_=>[]
def aY:List AV→AV
 |[]=>.pnil
 |a::l=>.pcons a (aY l)
def bb? (t:Ty):AV→Option t.den
 |.agg p=>if t.an then asm t p.parts else ö
 |a=>one? t a
def AV.pk:AV→Bool
 |.cond _ _|.unk|.tup _|.pcons _ _|.pnil|.fix _ _=>ß
 |_=>ü
def AV.single:AV→Bool
 |.nil|.own _ _ _ _|.ref _ _|.box _ _|.fn _ _|.msl _ _ _ _|.mpt _ _ _ _|.yld _=>ü
 |.val t _=>!t.an
 |_=>ß
def cellsOf:AV→List AV
 |.val t x=>flat t x
 |.agg p=>p.parts
 |a=>[a]
def Bx:ø→AV
 |.int k n=>.val (.int k) n
 |.bool b=>.val .bool b
 |.string s=>.val .str s.data.toList
 |.slice ö 0 0=>.nil
 |_=>.unk
def L9:ø→AV
 |.agg f=>match (f.toList.map Bx).all AV.single with
  |true=>.agg (aY (f.toList.map Bx))
  |false=>.unk
 |v=>Bx v
def R8 (env:List AV):è→AV
 |.tmp t=>env.getD t .unk
 |.const v=>L9 v
 |.func f=>.fn f .pnil
 |.global _=>.unk
structure Tab where
 ty:é→Option Ty
 cells:é→Option Nat
 si:é→Nat→Option Nat
 elem:é→Option é
 one:é→Option Nat
 inp:é→Bool
 e7:é→Option Nat
structure Nw where
 t:Ty
 e:é
 F:List AV→Option (Bool×List t.den)
structure Specs where
 call:FuncId→List AV→Option (Bool×AV)
 nw:FuncId→Option Nw:=λ_=>ö
def ahJ (T:Specs):è→Bool
 |.func f=>(T.nw f).isSome
 |_=>ß
def tJ (x y:Int):Int:=if y>x then y else x
def LIM:Nat:=4294967296
def yF (tt:Option Ty)(s:AV):Option ((t:Ty)×List t.den) :=
 match tt with
 |some (.slice t)=>match one? (.slice t) s with
  |some l=>ä ⟨t,l⟩
  |none=>ö
 |_=>ö
def yC (tt:Option Ty)(s:AV):Option Str :=
 match tt with
 |some .str=>one? .str s
 |_=>ö
def ZU (k:IntKind)(a b:Int):Int:=k.wrap (a*2^(min b.toNat k.bits))
def ZT (k:IntKind)(a b:Int):Int:=a.fdiv (2^(min b.toNat k.bits))
def ST (op:BinOp)(k:IntKind)(a b:Int):Option (Bool×AV) :=
 match op with
 |.add=>ä (ü,.val (.int k) (k.wrap (a+b)))
 |.sub=>ä (ü,.val (.int k) (k.wrap (a-b)))
 |.mul=>ä (ü,.val (.int k) (k.wrap (a*b)))
 |.quo=>ä (!decide (b=0),.val (.int k) (k.wrap (a.tdiv b)))
 |.rem=>ä (!decide (b=0),.val (.int k) (a.tmod b))
 |.eql=>ä (ü,.val .bool (decide (a=b)))
 |.neq=>ä (ü,.val .bool (!decide (a=b)))
 |.lss=>ä (ü,.val .bool (decide (a<b)))
 |.leq=>ä (ü,.val .bool (decide (a≤b)))
 |.gtr=>ä (ü,.val .bool (decide (a>b)))
 |.geq=>ä (ü,.val .bool (decide (a≥b)))
 |_=>ö
def Ty.fu:Ty→Bool
 |.int _|.bool|.str|.unit=>ü
 |.cons a b=>a.fu&&b.fu&&b.an
 |_=>ß
def Ty.dep:Ty→Nat
 |.cons a b=>max (a.dep+1) b.dep
 |_=>1
def eqD:(t:Ty)→t.den→t.den→Bool
 |.int _,x,y=>decide (x=y)
 |.bool,x,y=>decide (x=y)
 |.str,x,y=>decide (x=y)
 |.unit,_,_=>ü
 |.cons a b,x,y=>eqD a x.1 y.1&&eqD b x.2 y.2
 |_,_,_=>ß
def ur (op:BinOp)(f:Option Ty)(x y:AV):Option (Bool×AV) :=
 match x,y with
 |.val (.int k) a,.val (.int k') b=>match op with
  |.shl=>ä (decide (0≤b),.val (.int k) (ZU k a b))
  |.shr=>ä (decide (0≤b),.val (.int k) (ZT k a b))
  |_=>if k=k' then ST op k a b else ö
 |.val .str a,.val .str b=>
  match op with
  |.eql=>ä (ü,.val .bool (decide (a=b)))
  |.neq=>ä (ü,.val .bool (!decide (a=b)))
  |_=>ö
 |.val .bool a,.val .bool b=>if f=ä .bool then
  match op with
  |.eql=>ä (ü,.val .bool (decide (a=b)))
  |.neq=>ä (ü,.val .bool (!decide (a=b)))
  |_=>ö
  else ö
 |.val (.cons u v) a,.val t' b=>
  if f=ä (.cons u v)then
   if (Ty.cons u v).fu&&decide ((Ty.cons u v).dep≤10000)then
    match cast? t' (.cons u v) b with
    |some b=>
     match op with
     |.eql=>ä (ü,.val .bool (eqD (.cons u v) a b))
     |.neq=>ä (ü,.val .bool (!eqD (.cons u v) a b))
     |_=>ö
    |none=>ö
   else ö
  else ö
 |_,_=>ö
def xw:(t:Ty)→t.den→Nat→AV→Option t.den
 |.cons a _,x,0,v=>match bb? a v with|some y=>ä (y,x.2)|none=>ö
 |.cons _ b,x,i+1,v=>match xw b x.2 i v with|some y=>ä (x.1,y)|none=>ö
 |.tree,x,0,v=>match bb? (.int .i64) v with|some y=>ä (Tree.mk y x.text x.leads x.kids)|none=>ö
 |.tree,x,1,v=>match bb? .str v with|some y=>ä (Tree.mk x.kind y x.leads x.kids)|none=>ö
 |.tree,x,2,v=>match bb? (.slice .str) v with|some y=>ä (Tree.mk x.kind x.text y x.kids)|none=>ö
 |.tree,x,3,v=>match bb? (.slice .tree) v with|some y=>ä (Tree.mk x.kind x.text x.leads y)|none=>ö
 |_,_,_,_=>ö
def G9 (t:Ty):List (Nat×AV)→t.den→Option t.den
 |[],x=>ä x
 |(i,v)::r,x=>match xw t x i v with|some y=>G9 t r y|none=>ö
def um (t:Ty):List AV→Option (List t.den)
 |[]=>ä []
 |a::l=>match bb? t a,um t l with|some x,ä r=>ä (x::r)|_,_=>ö
def dK:Nat→List Nat→Bool
 |_,[]=>ü
 |i,j::r=>i == j&&dK (i+1) r
def ai4 (n:Option Nat)(g:List Nat)(f:List AV):Bool :=
 match n with
 |some n=>decide (g.length≤n)&&dK 0 g&&f.all AV.single
 |none=>ß
def aek (n:Option Nat)(l:List AV):Bool :=
 match n with
 |some n=>Nat.beq l.length n&&l.all AV.single
 |none=>ß
def dh (cells:List AV)(f:Nat)(new:List AV):List AV:=cells.take f++new++cells.drop (f+new.length)
def zd (f:Bool):AV→Bool×AV
 |.cond c a=>(aL f c,a)
 |a=>(ü,a)
def aJ (f g:Option Int)(n:Nat):Bool×Nat×Nat :=
 match f,g with
 |none,ö=>(ü,0,n)
 |some a,ö=>(decide (0≤a)&&decide (a≤(n:Int)),a.toNat,n)
 |none,ä b=>(decide (0≤b)&&decide (b≤(n:Int)),0,b.toNat)
 |some a,ä b=>(decide (0≤a)&&decide (a≤b)&&decide (b≤(n:Int)),a.toNat,b.toNat)
def Gd:AV→Option Int
 |.val (.int _) n=>ä n
 |_=>ö
def BB (g f:Option è)(r:List AV):Option (Option Int×Option Int) :=
 match g,f,r with
 |none,ö,[]=>ä (ö,ö)
 |some _,ö,[a]=>match Gd a with|some a=>ä (ä a,ö)|none=>ö
 |none,ä _,[b]=>match Gd b with|some b=>ä (ö,ä b)|none=>ö
 |some _,ä _,[a,b]=>match Gd a,Gd b with|some a,ä b=>ä (ä a,ä b)|_,_=>ö
 |_,_,_=>ö
def co (T:Specs)(op:Op)(f:List AV)(fresh:Nat):Option Nat :=
 match op with
 |.alloc _|.box _ _|.buildSlice _ _ _=>ä fresh
 |.load _ _=>match f with|[.box k _]=>ä k|[.mpt k _ _ _]=>ä k|_=>ö
 |.store _ _ _=>match f with|[.box k _,_]=>ä k|[.mpt k _ _ _,_]=>ä k|_=>ö
 |.indexAddr _ _ _=>match f with|[.msl k _ _ _,_]=>ä k|_=>ö
 |.fieldAddr _ _ _=>match f with|[.mpt k _ _ _]=>ä k|_=>ö
 |.slice _ _ _ _ _=>match f with|.msl k _ _ _::_=>ä k|_=>ö
 |.call cl=>match cl.callee with
  |.builtin .append=>match f with|[.own k _ _ _,_]=>ä k|[.msl k _ _ _,_]=>ä k|_=>ä fresh
  |.builtin .len=>match f with|[.msl k _ _ _]=>ä k|_=>ö
  |.value x=>match ahJ T x with
   |true=>ä fresh
   |false=>ö
  |_=>ö
 |_=>ö
def cW (T:Specs):Op→Bool
 |.alloc _|.box _ _|.buildSlice _ _ _|.store _ _ _=>ß
 |.call cl=>match cl.callee with
  |.builtin .append=>ß
  |.value x=>!ahJ T x
  |_=>ü
 |_=>ü
def wN (f:Ty):(t:Ty)→t.den→Nat→Option f.den
 |t,x,0=>match cast? t f x with
  |some y=>ä y
  |none=>match t,x with
   |.cons a _,x=>wN f a x.1 0
   |_,_=>ö
 |.cons a b,x,n+1=>if n+1<a.size then wN f a x.1 (n+1)else wN f b x.2 (n+1-a.size)
 |_,_,_=>ö
def wQ (f:Ty)(y:f.den):(t:Ty)→t.den→Nat→Option t.den
 |t,x,0=>match cast? f t y with
  |some y=>ä y
  |none=>match t,x with
   |.cons a _,x=>match wQ f y a x.1 0 with|some z=>ä (z,x.2)|none=>ö
   |_,_=>ö
 |.cons a b,x,n+1=>if n+1<a.size then match wQ f y a x.1 (n+1)with|some z=>ä (z,x.2)|none=>ö
  else match wQ f y b x.2 (n+1-a.size)with|some z=>ä (x.1,z)|none=>ö
 |_,_,_=>ö
def ab1 (j:Tab)(o:ë)(g:List AV)(P:HO):Option (Bool×AV×HO) :=
 match P with
 |.cu C e J l=>match o.op with
  |.indexAddr t _ _=>match g with
   |[.msl k v lo hi,.val (.int _) n]=>if J=v then if j.ty t=ä (.slice C)then if j.elem t=ä e then
     ä (decide (0≤n)&&decide (n<((hi-lo:Nat):Int)),.mpt k v (lo+n.toNat) 0,P)
    else ö else ö else ö
   |_=>ö
  |.fieldAddr s _ f=>match g with
   |[.mpt k v i off]=>if J=v then match j.si s f with
    |some d=>ä (ü,.mpt k v i (off+d),P)
    |none=>ö
    else ö
   |_=>ö
  |.load t _=>match g with
   |[.mpt _ v i off]=>if J=v then match j.ty t with
     |some p=>match wN p C (l.getD i (zero C)) off with
      |some y=>ä (ü,.val p y,P)
      |none=>ö
     |none=>ö
    else ö
   |_=>ö
  |.store t _ _=>match g with
   |[.mpt _ v i off,u]=>if J=v then match j.ty t with
     |some p=>match bb? p u with
      |some y=>match wQ p y C (l.getD i (zero C)) off with
       |some z=>ä (ü,.unk,.cu C e J (l.set i z))
       |none=>ö
      |none=>ö
     |none=>ö
    else ö
   |_=>ö
  |.slice t _ low T ö=>match g with
   |.msl k v lo hi::r=>if J=v then if j.ty t=ä (.slice C)then if j.elem t=ä e then match BB low T r with
     |some (a,b)=>ä ((aJ a b (hi-lo)).1,.msl k v (lo+(aJ a b (hi-lo)).2.1) (lo+(aJ a b (hi-lo)).2.2),P)
     |none=>ö
    else ö else ö else ö
   |_=>ö
  |.call c=>match c.callee with
   |.builtin .len=>match g with
    |[.msl _ v lo hi]=>if J=v then if (c.argTypes[0]?).bind j.ty=ä (.slice C)then ä (ü,.val (.int .i64) ((hi-lo:Nat):Int),P)else ö else ö
    |_=>ö
   |.builtin .append=>match g,c.argTypes.toList with
    |[.msl k v 0 m,x],[t1,t2]=>if t1=t2 then if J=v then match j.elem t1,yF (j.ty t1) x with
      |some e1,ä ⟨U,R⟩=>if e=e1 then match cast? (.slice U) (.slice C) R with
        |some R=>ä (decide (m+R.length≤LIM),.msl k (v+1) 0 (m+R.length),.cu C e (v+1) (l.take m++R))
        |none=>ö
       else ö
      |_,_=>ö
     else ö else ö
    |_,_=>ö
   |_=>ö
  |_=>ö
 |_=>ö
def ab2 (C:Tab)(T:Specs)(o:ë)(g:Bool)(j:List AV)(fresh:Nat)(P:HO):Option (Bool×AV×HO) :=
 match o.op with
 |.move _|.assign _=>match j with
  |[.cond _ _]=>ö
  |[a]=>ä (ü,a,P)
  |_=>ö
 |.pick _ _ _=>match j with
  |[.val .bool c,a,b]=>
   let p:=zd (g&&c) a;let q:=zd (g && !c) b;match p.2,q.2 with
   |.val t x,.val t' y=>match cast? t' t y with
    |some y=>ä (p.1&&q.1,.val t (bif c then x else y),P)
    |none=>ö
   |_,_=>ö
  |_=>ö
 |.alloc t=>match P with
  |.none=>match C.ty t with
   |some J=>ä (ü,.box fresh 0,.box (BM J))
   |none=>match C.cells t with
    |some n=>ä (ü,.box fresh 0,.box (List.replicate n .unk))
    |none=>ö
  |_=>ö
 |.box _ _=>match j,P with
  |[a],.none=>if a.pk then ä (ü,.box fresh 0,.box (cellsOf a))else ö
  |_,_=>ö
 |.load t _=>match j,P with
  |[.box _ off],.box cells=>
   match C.ty t with
   |some J=>
    if J.an then if aek (C.one t) ((cells.drop off).take J.size)then ä (ü,.agg (aY ((cells.drop off).take J.size)),P)
     else match asm J ((cells.drop off).take J.size)with
      |some x=>ä (ü,.val J x,P)
      |none=>ö
    else match cells[off]? with
     |some a=>ä (ü,a,P)
     |none=>ö
   |none=>if C.cells t=ä 1 then match cells[off]? with
     |some a=>ä (ü,a,P)
     |none=>ö
    else ö
  |[.ref J x],_=>if C.ty t=ä J then ä (ü,.val J x,P)else ö
  |_,_=>ö
 |.store t _ _=>match j,P with
  |[.box _ off,v],.box cells=>
   if v.pk&&decide (off+(cellsOf v).length≤cells.length)&&decide (C.cells t=ä (cellsOf v).length)then ä (ü,.unk,.box (dh cells off (cellsOf v)))else ö
  |_,_=>ö
 |.fieldAddr s _ f=>match j with
  |[.box k off]=>match C.si s f with
   |some d=>ä (ü,.box k (off+d),P)
   |none=>ö
  |[.ref J x]=>if C.ty s=ä J then match pE J x f with
    |some ⟨U,y⟩=>ä (ü,.ref U y,P)
    |none=>ö
   else ö
  |_=>ö
 |.field s _ f=>match j with
  |[.val J x]=>if C.ty s=ä J then match pE J x f with
    |some ⟨U,y⟩=>ä (ü,.val U y,P)
    |none=>ö
   else ö
  |_=>ö
 |.indexAddr t _ _=>match j with
  |[.box k off,.val (.int _) n]=>match C.e7 t with
   |some m=>ä (decide (0≤n)&&decide (n<(m:Int)),.box k (off+n.toNat),P)
   |none=>ö
  |[s,.val (.int _) n]=>match yF (C.ty t) s with
   |some ⟨J,l⟩=>ä (decide (0≤n)&&decide (n<(l.length:Int)),.ref J (l.getD n.toNat (zero J)),P)
   |none=>ö
  |_=>ö
 |.index t _ _=>match j with
  |[s,.val (.int _) n]=>match yC (C.ty t) s with
   |some l=>ä (decide (0≤n)&&decide (n<(l.length:Int)),.val (.int .u8) ((l.getD n.toNat 0).toNat:Int),P)
   |none=>ö
  |_=>ö
 |.binOp op tx _ _ _=>match j with
  |[x,y]=>match ur op (C.ty tx) x y with
   |some (c,v)=>ä (c,v,P)
   |none=>ö
  |_=>ö
 |.unOp .not _ _=>match j with
  |[.val .bool b]=>ä (ü,.val .bool (!b),P)
  |_=>ö
 |.convert s t _=>match j,C.ty t,C.ty s with
  |[.val (.int _) n],ä (.int k),ä _=>ä (ü,.val (.int k) (k.wrap n),P)
  |[x],ä .str,ä (.slice (.int .u8))=>match one? (.slice (.int .u8)) x with
   |some l=>ä (ü,.val .str (l.map λn:Int=>UInt8.ofNat n.toNat),P)
   |none=>ö
  |_,_,_=>ö
 |.build t parts=>match C.ty t with
  |some J=>if J.an then if ai4 (C.one t) (parts.toList.map (·.1)) j then ä (ü,.agg (aY (j++(BM J).drop parts.size)),P)
    else match G9 J ((parts.toList.map (·.1)).zip j) (zero J)with
     |some x=>ä (ü,.val J x,P)
     |none=>ö
   else ö
  |none=>match C.one t with
   |some n=>if Nat.beq n parts.size&&dK 0 (parts.toList.map (·.1))&&j.all AV.single then ä (ü,.agg (aY j),P)else ö
   |none=>match C.e7 t with
    |some n=>if Nat.beq n parts.size&&dK 0 (parts.toList.map (·.1))&&j.all AV.single then ä (ü,.agg (aY j),P)else ö
    |none=>ö
 |.buildSlice t len parts=>match C.ty t,C.elem t,P with
  |some (.slice J),ä e,.none=>if decide (len=parts.size)&&dK 0 (parts.toList.map (·.1))&&decide (len*J.size≤4096)then match um J j with
    |some l=>match C.inp t&&Nat.beq len 0 with
     |false=>ä (ü,.own fresh 0 J l,.row J e 0)
     |true=>ä (ü,.msl fresh 0 0 0,.cu J e 0 [])
    |none=>ö
   else ö
  |_,_,_=>ö
 |.slice t _ low high ö=>match j with
  |s::r=>match BB low high r with
   |some (lo,hi)=>match yF (C.ty t) s with
    |some ⟨J,l⟩=>ä ((aJ lo hi l.length).1,.val (.slice J) ((l.take (aJ lo hi l.length).2.2).drop (aJ lo hi l.length).2.1),P)
    |none=>match yC (C.ty t) s with
     |some l=>ä ((aJ lo hi l.length).1,.val .str ((l.take (aJ lo hi l.length).2.2).drop (aJ lo hi l.length).2.1),P)
     |none=>ö
   |none=>ö
  |_=>ö
 |.extract _ i=>match j with
  |[.tup p]=>match p.parts[i]? with
   |some a=>ä (ü,a,P)
   |none=>ö
  |_=>ö
 |.call c=>match c.callee with
  |.builtin .len=>match j with
   |[s]=>match yF ((c.argTypes[0]?).bind C.ty) s with
    |some ⟨_,l⟩=>ä (ü,.val (.int .i64) (l.length:Int),P)
    |none=>match yC ((c.argTypes[0]?).bind C.ty) s with
     |some l=>ä (ü,.val (.int .i64) (l.length:Int),P)
     |none=>ö
   |_=>ö
  |.builtin .append=>match j,c.argTypes.toList with
   |[s,x],[t1,t2]=>if t1=t2 then match C.elem t1,yF (C.ty t1) x with
     |some e,ä ⟨J,R⟩=>match s with
       |.own k v t l=>match P with
        |.row t' e' v'=>if t'=t then if e'=e then if v'=v then match cast? (.slice t) (.slice J) l with
          |some l=>ä (decide (l.length+R.length≤LIM),.own k (v+1) J (l++R),.row J e (v+1))
          |none=>ö
         else ö else ö else ö
        |_=>ö
       |.nil=>match P with
        |.none=>match C.inp t1 with
         |false=>ä (decide (R.length≤LIM),.own fresh 1 J R,.row J e 1)
         |true=>ä (decide (R.length≤LIM),.msl fresh 1 0 R.length,.cu J e 1 R)
        |_=>ö
       |_=>ö
     |_,_=>ö
    else ö
   |_,_=>ö
  |.builtin .max=>match j with
   |[.val (.int k) x,.val (.int k') y]=>if k=k' then ä (ü,.val (.int k) (tJ x y),P)else ö
   |_=>ö
  |.value x=>match ahJ T x with
   |true=>match j with
    |.fn f .pnil::args=>match T.nw f,P with
     |some q,.none=>match q.F args with
      |some (b,R)=>ä (b,.own fresh 1 q.t R,.row q.t q.e 1)
      |none=>ö
     |_,_=>ö
    |_=>ö
   |false=>match j with
    |.fn f .pnil::args=>match T.call f args with
     |some (b,v)=>ä (b,v,P)
     |none=>ö
    |_=>ö
  |_=>ö
 |_=>ö
def aih (g:Tab)(o:ë)(f:List AV):Option AV :=
 match o.op with
 |.buildSlice t len parts=>match g.ty t,g.elem t with
  |some (.slice τ),ä _=>if decide (len=parts.size)&&dK 0 (parts.toList.map (·.1))&&decide (len*τ.size≤4096)then match um τ f with
    |some l=>ä (.val (.slice τ) l)
    |none=>ö
   else ö
  |_,_=>ö
 |_=>ö
def eff (j:Tab)(T:Specs)(o:ë)(g:Bool)(f:List AV)(fresh:Nat)(l:HO):Option (Bool×AV×HO) :=
 match ab1 j o f l with
 |some r=>ä r
 |none=>ab2 j T o g f fresh l
def AV.isCh:AV→Bool
 |.pnil=>ü
 |.pcons _ b=>b.isCh
 |_=>ß
def gJ (q:List AV):(aY q).isCh=true:=by
 induction q with
 |nil=>rfl
 |cons a q f=>exact f
structure Gh where
 heap:List HO
 St:Sb
 kd:Nat→Nat
 rv:Nat→ø
 w:æ
 lp:Nat→Nat:=λ_=>0
def sA (c:Gh)(k v:Nat)(Q:Ty→Prop):Prop :=
 (∃t e f l,c.heap[k]? = ä (.cu t e f l)∧v≤f∧(f=v→Q t))∨c.heap[k]? = ä .dead
def sT (r:ø)(size f j:Nat)(s:ø):Prop :=
 (r = .slice ö 0 0∧f=0∧j=0∧s = .slice ö 0 0) ∨
 ∃g n cap A,r = .slice (ä ⟨g,0,ö⟩) n cap∧f≤j∧j≤n∧s = .slice A (j-f) (cap-f)∧(A=ä ⟨g,f*size,ö⟩∨(cap=f∧0<f))
def ptS (r:ø)(size i f:Nat)(p:ø):Prop:=∃g n cap,r = .slice (ä ⟨g,0,ö⟩) n cap∧i<n∧p = .pointer (ä ⟨g,i*size+f,ö⟩)
def RA (c:Gh):AV→List ø→Prop
 |.unk,J=>∃v,J=[v]
 |.val t x,J=>∃v,J=[v]∧RepV c.w c.St t x v
 |.nil,J=>J=[.slice ö 0 0]
 |.own k v t l,J=>∃s,J=[s]∧RepV c.w c.St (.slice t) l s∧∃t' e' v',c.heap[k]? = ä (.row t' e' v')∧v≤v'∧(v'=v→s=c.rv k)
 |.ref t x,J=>∃U ds,J=[.pointer (ä U)]∧U.spot=ö∧Rep c.w c.St (toD t x) ds∧∀j u,ds[j]? = ä u→c.w.cell? (U.add j)=ä u∧c.St U.block (U.off+j)
 |.box k T,J=>∃cells,c.heap[k]? = ä (.box cells)∧J=[.pointer (ä ⟨c.kd k,T,ö⟩)]
 |.fn f R,J=>∃P,J=[.func (.func f) #[] P.toArray]∧RA c R P∧R.isCh=ü
 |.agg p,J=>∃P,J=[.agg P.toArray]∧RA c p P∧p.isCh=ü∧∀u∈P,u.oneCell'=ü
 |.tup p,J=>∃P,J=[.tuple P.toArray]∧RA c p P∧p.isCh=ü
 |.pnil,J=>J=[]
 |.pcons a b,J=>∃v r,J=v::r∧RA c a [v]∧RA c b r
 |.cond g a,J=>if g then RA c a J else J=[undef]
 |.msl k v lo hi,J=>∃s,J=[s]∧s.oneCell'=ü∧sA c k v (λt=>sT (c.rv k) t.size lo hi s)
 |.mpt k v i T,J=>∃p,J=[p]∧p.oneCell'=ü∧sA c k v (λt=>ptS (c.rv k) t.size i T p)
 |.yld j,J=>c.heap[j]? = ä .dead∧J=[.func (.yield (c.lp j)) #[] #[]]
 |.fix C w,J=>J=[undef]∧(∀b o,C b o→c.St b o)∧∀(a:Addr) v,C a.block a.off→a.spot=ö→w.cell? a=ä v→c.w.cell? a=ä v
def RAs (c:Gh):List AV→List ø→Prop
 |[],[]=>True
 |a::l,v::vs=>RA c a [v]∧RAs c l vs
 |_,_=>False
structure Ev (c c':Gh):Prop where
 st:c.St.le c'.St
 cell:∀(a:Addr) v,c.St a.block a.off→a.spot=ö→c.w.cell? a=ä v→c'.w.cell? a=ä v
 box:∀k cells,c.heap[k]? = ä (.box cells)→∃cells',c'.heap[k]? = ä (.box cells')∧c'.kd k=c.kd k
 row:∀k t e v,c.heap[k]? = ä (.row t e v)→∃t' e' v',c'.heap[k]? = ä (.row t' e' v')∧v≤v'∧(v'=v→c'.rv k=c.rv k)
 cu:∀k t e v l,c.heap[k]? = ä (.cu t e v l)→(∃v' l',c'.heap[k]? = ä (.cu t e v' l')∧v≤v'∧(v'=v→c'.rv k=c.rv k))∨c'.heap[k]? = ä .dead
 dead:∀(k:Nat),c.heap[k]? = ä HO.dead→c'.heap[k]? = ä HO.dead
 lp:∀(k:Nat),c.heap[k]? = ä HO.dead→c'.lp k=c.lp k
def Ev.refl (c:Gh):Ev c c:=⟨Sb.le.refl _,λ_ _ _ _ h=>h,λ_ cells h=>⟨cells,h,rfl⟩,λ_ t e v h=>⟨t,e,v,h,ε _,λ_=>rfl⟩,λ_ _ _ v l h=>.inl ⟨v,l,h,ε _,λ_=>rfl⟩,λ_ h=>h,λ_ _=>rfl⟩
def Ev.trans {a b c:Gh}(h:Ev a b)(k:Ev b c):Ev a c:=by
 refine⟨h.st.trans k.st,λR v x s y=>k.cell R v (h.st.s _ _ x) s (h.cell R v x s y),λi cells x=>?_,λi t e v x=>?_,λi t e v l x=>?_,λi x=>k.dead i (h.dead i x),λi x=>(k.lp i (h.dead i x)).trans (h.lp i x)⟩
 ·obtain⟨c1,g,P⟩:=h.box i cells x;obtain⟨c2,f,J⟩:=k.box i c1 g;exact⟨c2,f,J.trans P⟩
 ·obtain⟨U,P,v1,g,C,q1⟩:=h.row i t e v x;obtain⟨T,J,v2,f,r,q2⟩:=k.row i U P v1 g;refine⟨T,J,v2,f,ξ C r,λe=>?_⟩;have:v2=v1:=Ω
  exact(q2 this).trans (q1 Ω)
 ·rcases h.cu i t e v l x with⟨v1,C,g,p,q1⟩|hd
  ·rcases k.cu i t e v1 C g with⟨v2,r,f,j,q2⟩|hd
   ·refine .inl ⟨v2,r,f,ξ p j,λe=>?_⟩;exact(q2 Ω).trans (q1 Ω)
   ·exact .inr hd
  ·exact .inr (k.dead i hd)
variable{c:Gh}{t:Ty}{v:ø}{w P:æ}{F:Nat→Prop}{b:Nat}{e:é}{J:Sb}
def sA.mono {c' :Gh}(h:Ev c c'){k v:Nat}{Q:ø→Ty→Prop}(m:sA c k v (Q (c.rv k))):sA c' k v (Q (c'.rv k)):=by
 rcases m with⟨t,e,p,l,J,g,C⟩|hd
 ·rcases h.cu k t e p l J with⟨j,r,P,f,q2⟩|hd
  ·refine .inl ⟨t,e,j,r,P,ξ g f,λe=>?_⟩;rw[q2 Ω];exact C Ω
  ·exact .inr hd
 ·exact .inr (h.dead k hd)
def gM (f:Addr)(h:f.spot=ö)(j:Nat):(f.add j).block=f.block∧(f.add j).off=f.off+j∧(f.add j).spot=none:=by unfold Addr.add;split <;> simp_all
def add_zero (f:Addr):f.add 0=f:=by simp[Addr.add]
def DJ (f:Addr)(i j:Nat):(f.add i).add j=f.add (i+j):=by unfold Addr.add;by_cases l:i=0 <;> by_cases g:j=0 <;> simp[l,g,A_]
def RA.mono {c c':Gh}(h:Ev c c'):∀{a:AV} {vs:List ø},RA c a vs→RA c' a vs
 |.unk,_,r=>r
 |.val t x,_,⟨v,e,r⟩=>⟨v,e,r.mono h.st h.cell⟩
 |.nil,_,r=>r
 |.own k v t l,_,⟨s,e,r,t',e',v',hr,hle,heq⟩=>by obtain⟨t2,e2,v2,J,l2,q2⟩:=h.row k t' e' v' hr;exact⟨s,e,r.mono h.st h.cell,t2,e2,v2,J,ξ hle l2,λx=>(heq Ω).trans (q2 Ω).symm⟩
 |.ref t x,_,⟨ad,ds,e,hs,T,hc⟩=>by refine⟨ad,ds,e,hs,T.mono h.st h.cell,λj u hu=>?_⟩;obtain⟨U,J⟩:=hc j u hu;obtain⟨f1,f2,f3⟩:=gM ad hs j;exact⟨h.cell _ _ (by rw[f1,f2];exact J) f3 U,h.st.s _ _ J⟩
 |.box k P,_,⟨cells,hk,e⟩=>by obtain⟨c2,J,e2⟩:=h.box k cells hk;exact⟨c2,J,by rw[e2];exact e⟩
 |.fn f caps,_,⟨R,e,r,o⟩=>⟨R,e,RA.mono h r,o⟩
 |.agg p,_,⟨R,e,r,o⟩=>⟨R,e,RA.mono h r,o⟩
 |.tup p,_,⟨R,e,r,o⟩=>⟨R,e,RA.mono h r,o⟩
 |.pnil,_,r=>r
 |.pcons a b,_,⟨v,r,e,ha,hb⟩=>⟨v,r,e,RA.mono h ha,RA.mono h hb⟩
 |.cond g a,vs,r=>by
  simp[RA]at r⊢;split
  next hg=>simp[hg]at r;exact RA.mono h r
  next hg=>simp[hg]at r;exact r
 |.msl k v lo hi,_,⟨s,e,o,m⟩=>⟨s,e,o,sA.mono (Q:=λr t=>sT r t.size lo hi s) h m⟩
 |.mpt k v i P,_,⟨s,e,o,m⟩=>⟨s,e,o,sA.mono (Q:=λr t=>ptS r t.size i P s) h m⟩
 |.yld j,_,⟨T,e⟩=>⟨h.dead j T,by rw[h.lp j T];exact e⟩
 |.fix C w,_,⟨e,U,J⟩=>⟨e,λb o x=>h.st.s b o (U b o x),λa v x s y=>h.cell a v (U _ _ x) s (J a v x s y)⟩
def RAs.mono {c c':Gh}(h:Ev c c'):∀{l:List AV} {f:List ø},RAs c l f→RAs c' l f
 |[],[],_=>trivial
 |_::_,_::_,⟨a,b⟩=>⟨RA.mono h a,RAs.mono h b⟩
def RAs.length {c:Gh}:∀{l:List AV} {vs:List ø},RAs c l vs→l.length=vs.length
 |[],[],_=>rfl
 |_::_,_::_,⟨_,b⟩=>by simp[RAs.length b]
def RAs.append {c:Gh}:∀{l j:List AV} {g f:List ø},RAs c l g→RAs c j f→RAs c (l++j) (g++f)
 |[],_,[],_,_,h=>h
 |_::_,_,_::_,_,⟨a,b⟩,h=>⟨a,RAs.append b h⟩
def RAs.get {c:Gh}:∀{l:List AV} {f:List ø},RAs c l f→∀(i:Nat) a,l[i]? = ä a→∃v,f[i]? = ä v∧RA c a [v]
 |[],[],_,i,a,h=>by simp at h
 |x::l,v::f,⟨r,g⟩,i,a,h=>by
  cases i with
  |zero=>simp at h;subst h;exact⟨v,rfl,r⟩
  |succ i=>simp at h;simpa using g.get i a h
def RAs.take {c:Gh}:∀{l:List AV} {f:List ø} (n:Nat),RAs c l f→RAs c (l.take n) (f.take n)
 |[],[],n,_=>by simp[RAs]
 |_::_,_::_,0,_=>by simp[RAs]
 |_::_,_::_,n+1,⟨a,b⟩=>⟨a,RAs.take n b⟩
def RAs.drop {c:Gh}:∀{l:List AV} {f:List ø} (n:Nat),RAs c l f→RAs c (l.drop n) (f.drop n)
 |[],[],n,_=>by simp[RAs]
 |_::_,_::_,0,h=>h
 |_::_,_::_,n+1,⟨_,b⟩=>by simpa using RAs.drop n b
def RAs.set {c:Gh}:∀{l:List AV} {f:List ø} (i:Nat) {a:AV} {v:ø},RAs c l f→RA c a [v]→RAs c (l.set i a) (f.set i v)
 |[],[],_,_,_,_,_=>trivial
 |_::_,_::_,0,_,_,⟨_,b⟩,h=>⟨h,b⟩
 |_::_,_::_,i+1,_,_,⟨a,b⟩,h=>⟨a,RAs.set i b h⟩
def RA.parts {c:Gh}:∀{p:AV} {f:List ø},RA c p f→p.isCh=ü→RAs c p.parts f
 |.pnil,f,h,_=>by have h:f=[]:=h;subst h;trivial
 |.pcons a b,f,h,g=>by obtain⟨v,r,rfl,l,j⟩:=h;exact⟨l,RA.parts j g⟩
def RA.o6 {c:Gh}:∀{q:List AV} {f:List ø},RAs c q f→RA c (aY q) f
 |[],[],_=>rfl
 |_::_,v::g,⟨a,b⟩=>⟨v,g,rfl,a,RA.o6 b⟩
def RA.one {a:AV}{f:List ø}(h:RA c a f)(g:(∃t x,a = .val t x)∨a = .nil∨(∃k v t l,a = .own k v t l)):∃v,f=[v]:=by
 rcases g with⟨t,x,rfl⟩|rfl|⟨k,v,t,l,rfl⟩
 ·obtain⟨v,e,_⟩:=h;exact⟨v,e⟩
 ·exact⟨_,h⟩
 ·obtain⟨s,e,_⟩:=h;exact⟨s,e⟩
def cast?_some {f :Ty}{x:t.den}{y:f.den}(h:cast? t f x=ä y):∃e:t=f,y=e ▸ x:=by
 unfold cast? at h;split at h
 next e=>exact⟨e,(Δ h).symm⟩
 ·cases h
def one?_sound {a:AV}{x:t.den}(h:one? t a=ä x)(r:RA c a [v]):RepV c.w c.St t x v:=by
 cases a with
 |val f y =>obtain⟨e,g⟩:=cast?_some (h:cast? f t y=ä x);subst e;subst g;obtain⟨j,e,r⟩:=r;simp at e;subst e;exact r
 |nil=>
  cases t with
  |slice t =>simp only[one?]at h;have:x=[]:=(Δ h).symm;subst this;have r:[v]=[.slice ö 0 0]:=r;simp at r;subst r;show Rep _ _ _ _;exact⟨ö,0,0,rfl,rfl,ε _,.inl rfl⟩
  |jsl e =>simp only[one?]at h;have:x=(0:Nat):=(Δ h).symm;subst this;have r:[v]=[.slice ö 0 0]:=r;simp at r;subst r;show Rep _ _ _ _;exact⟨ö,0,rfl,.inl ⟨rfl,rfl,rfl⟩⟩
  |_=>simp[one?]at h
 |own k j f l =>obtain⟨e,g⟩:=cast?_some (h:cast? (.slice f) t l=ä x);subst e;subst g;obtain⟨s,e,r,_⟩:=r;simp at e;subst e;exact r
 |_=>simp[one?]at h
def repv_cell {St:Sb}(f:t.an=ß){x:t.den}:RepV w St t x v↔Rep w St (toD t x) [v]:=by simp[RepV,f]
def xS {c:Gh}:∀{t:Ty} {x:t.den} {f:List ø},Rep c.w c.St (toD t x) f→RAs c (flat t x) f
 |.int k,x,f,h=>by obtain⟨rfl,g⟩:=h;exact⟨⟨_,rfl,(repv_cell rfl).2 ⟨rfl,g⟩⟩,apa⟩
 |.bool,x,f,h=>by obtain⟨rfl,g⟩:=h;exact⟨⟨_,rfl,(repv_cell rfl).2 ⟨rfl,g⟩⟩,apa⟩
 |.str,x,f,h=>by obtain⟨rfl,g⟩:=h;exact⟨⟨_,rfl,(repv_cell rfl).2 ⟨rfl,g⟩⟩,apa⟩
 |.slice t,x,f,h=>by have C:=h;obtain⟨A,n,R,rfl,_⟩:=h;exact⟨⟨_,rfl,(repv_cell rfl).2 C⟩,apa⟩
 |.jsl e,x,f,h=>by have C:=h;obtain⟨A,R,rfl,_⟩:=h;exact⟨⟨_,rfl,(repv_cell rfl).2 C⟩,apa⟩
 |.unit,x,f,h=>by have h:f=[]:=h;subst h;trivial
 |.cons a b,x,f,h=>by obtain⟨c1,c2,rfl,g,r⟩:=h;exact(xS g).append (xS r)
 |.tree,.mk k t ls ks,f,h=>by simp[toD,sn]at h;obtain⟨c1,c2,rfl,g,c3,c4,rfl,r,c5,c6,rfl,P,c7,c8,rfl,J,l⟩:=h;have l:c8=[]:=l;subst l;obtain⟨rfl,U⟩:=g;obtain⟨rfl,T⟩:=r;have p:=P;obtain⟨A,n,R,rfl,_⟩:=P;have j:=J;obtain⟨A',n',cp',rfl,_⟩:=J;refine⟨⟨_,rfl,(repv_cell rfl).2 ⟨rfl,U⟩⟩,⟨_,rfl,(repv_cell rfl).2 ⟨rfl,T⟩⟩,⟨_,rfl,(repv_cell rfl).2 p⟩,⟨_,rfl,(repv_cell rfl).2 ?_⟩,apa⟩;rw[iH]at j;exact j
def ql {c:Gh}:∀{t:Ty} {l:List AV} {x:t.den} {f:List ø},asm t l=ä x→RAs c l f→Rep c.w c.St (toD t x) f
 |.int k,[a],x,[v],h,r=>(repv_cell rfl).1 (one?_sound h r.1)
 |.bool,[a],x,[v],h,r=>(repv_cell rfl).1 (one?_sound h r.1)
 |.str,[a],x,[v],h,r=>(repv_cell rfl).1 (one?_sound h r.1)
 |.slice t,[a],x,[v],h,r=>(repv_cell rfl).1 (one?_sound h r.1)
 |.jsl e,[a],x,[v],h,r=>(repv_cell rfl).1 (one?_sound h r.1)
 |.unit,[],x,[],h,r=>rfl
 |.cons a b,l,x,f,h,r=>by
  simp[asm]at h;split at h
  next y z T R=>have:x=(y,z):=(Δ h).symm;subst this;exact⟨_,_,(G? a.size f).symm,ql T (r.take _),ql R (r.drop _)⟩
  ·cases h
 |.tree,[a,b,d,e],x,[p,j,g,v4],h,r=>by
  simp[asm]at h;split at h
  next k t ls ks h1 h2 U h4=>have:x=Tree.mk k t ls ks:=(Δ h).symm;subst this;obtain⟨r1,P,J,C,_⟩:=r;refine⟨[p],[j,g,v4],rfl,(repv_cell rfl).1 (one?_sound h1 r1),[j],[g,v4],rfl,(repv_cell rfl).1 (one?_sound h2 P),[g],[v4],rfl,(repv_cell rfl).1 (one?_sound U J),[v4],[],rfl, ?_,rfl⟩;rw[iH];exact(repv_cell rfl).1 (one?_sound h4 C)
  ·cases h
def RA.nj {c c':Gh}(R:c'.heap=c.heap)(hb:c'.kd=c.kd)(T:c'.rv=c.rv)(J:c'.w=c.w)(U:c'.lp=c.lp)(P:∀b o,c.St b o→c'.St b o):∀{a:AV} {vs:List ø},a.j5=ü→RA c a vs→RA c' a vs
 |.unk,_,_,r=>r
 |.val t x,_,h,⟨v,e,r⟩=>⟨v,e,by rw[J];exact r.nj P h⟩
 |.nil,_,_,r=>r
 |.own k v t l,_,h,⟨s,e,r,t',e',v',q1,q2,q3⟩=>⟨s,e,by rw[J];exact RepV.nj (t :=.slice t) P h r,t',e',v',by rw[R];exact q1,q2,by rw[T];exact q3⟩
 |.ref t x,_,h,⟨ad,ds,e,q1,q2,q3⟩=>⟨ad,ds,e,q1,by rw[J];exact q2.nj P (zn x h),λj u hu=>⟨by rw[J];exact(q3 j u hu).1,P _ _ (q3 j u hu).2⟩⟩
 |.box k off,_,_,⟨cells,q1,q2⟩=>⟨cells,by rw[R];exact q1,by rw[hb];exact q2⟩
 |.fn f caps,_,h,⟨cs,e,r,q⟩=>⟨cs,e,r.nj R hb T J U P h,q⟩
 |.agg p,_,h,⟨cs,e,r,q⟩=>⟨cs,e,r.nj R hb T J U P h,q⟩
 |.tup p,_,h,⟨cs,e,r,q⟩=>⟨cs,e,r.nj R hb T J U P h,q⟩
 |.pnil,_,_,r=>r
 |.pcons a b,_,h,⟨v,r,e,q1,q2⟩=>by simp only[AV.j5,θ]at h;exact⟨v,r,e,q1.nj R hb T J U P h.1,q2.nj R hb T J U P h.2⟩
 |.cond g a,vs,h,r=>by
  cases g
  ·exact r
  ·exact RA.nj (a:=a) R hb T J U P h r
 |.msl k v lo hi,_,_,⟨s,e,q1,q2⟩=>⟨s,e,q1,by unfold sA at *;rw[R,T];exact q2⟩
 |.mpt k v i off,_,_,⟨p,e,q1,q2⟩=>⟨p,e,q1,by unfold sA at *;rw[R,T];exact q2⟩
 |.yld j,_,_,⟨q1,q2⟩=>⟨by rw[R];exact q1,by rw[U];exact q2⟩
 |.fix C w,_,_,⟨e,q1,q2⟩=>⟨e,λb o x=>P b o (q1 b o x),by rw[J];exact q2⟩
def RAs.nj {c c':Gh}(J:c'.heap=c.heap)(P:c'.kd=c.kd)(p:c'.rv=c.rv)(j:c'.w=c.w)(C:c'.lp=c.lp)(l:∀b o,c.St b o→c'.St b o):∀{f:List AV} {g:List ø},f.all AV.j5=ü→RAs c f g→RAs c' f g
 |[],[],_,_=>trivial
 |a::f,v::g,h,⟨r,R⟩=>by simp only[C?,θ]at h;exact⟨r.nj J P p j C l h.1,R.nj J P p j C l h.2⟩
def obk (c:Gh)(k:Nat):Option Nat :=
 match c.heap[k]? with
 |some (.box _)=>ä (c.kd k)
 |some (.row _ _ _)=>(c.rv k).ownBlock
 |some (.cu _ _ _ _)=>(c.rv k).ownBlock
 |_=>ö
structure Bd where
 b:Nat
 F:Nat→Prop:=λ_=>False
instance bdNat:Coe Bd Nat:=⟨Bd.b⟩
structure Og (F:Nat→Prop)(w w':æ):Prop where
 dr:dz w≤dz w'
 keep:∀(k:Nat) (o:Obj),w.heap[k]? = ä o→o.isCells=ß→w'.heap[k]? = ä o
 kb:∀b,F b→w'.heap[b]? = w.heap[b]?
def Og.refl (w:æ):Og F w w:=⟨ε _,λ_ _ h _=>h,λ_ _=>rfl⟩
def Og.trans {F:Nat→Prop}{w w' j:æ}(h:Og F w w')(g:Og F w' j):Og F w j:=⟨ξ h.dr g.dr,λk o x y=>g.keep k o (h.keep k o x y) y,λb f=>(g.kb b f).trans (h.kb b f)⟩
def Og.of_below {g :æ}(j:Below w.heap.size w g)(p:dz w≤dz g)(l:∀b,F b→b<w.heap.size):Og F w g:=⟨p,λk _ x _=>(j.block k (δ.1 x).1).trans x,λb f=>j.block b (l b f)⟩
def Og.of_grown {j :æ}{row:Option Nat}(l:w.grownBy j row)(r:∀b,row=ä b→∃g t m,w.heap[b]? = ä (.cells g t m))(C:dz w≤dz j)(p:∀b,F b→b<w.heap.size∧ä b≠row):Og F w j :=
 ⟨C,λk o x y=>(l.block k (δ.1 x).1 (λe=>by
  obtain⟨g,t,m,h⟩:=r k e.symm;rw[x]at h;cases h;cases y)).trans x,λb f=>l.block b (p b f).1 (p b f).2⟩
structure Jk (B:Bd)(c:Gh)(b:Nat)(e:é)(cap n:Nat):Prop where
 lo:B.b≤b
 nf:¬B.F b
 le:n≤cap∧cap≤maxLen
 cells:∃e7,c.w.heap[b]? = ä (.cells e7 e (0,0))∧e7.size=cap∧∀u∈e7.toList,u.oneCell'=ü
 free:∀o,¬c.St b o
 own:∀k,obk c k≠ä b
structure Inv (B:Bd)(P:æ)(J:Sb)(c:Gh):Prop where
 below:Below B P c.w
 size:B≤c.w.heap.size
 to:∀b o,c.St b o→b<c.w.heap.size
 st0:J.le c.St
 stN:∀b o,c.St b o→J b o∨(B.b≤b∧¬B.F b)
 box:∀k cells,c.heap[k]? = ä (.box cells)→∃e7 t,c.w.heap[c.kd k]? = ä (.cells e7 t (0,0))∧B≤c.kd k∧(∀o,¬c.St (c.kd k) o)∧RAs c cells e7.toList
 row:∀k t e v,c.heap[k]? = ä (.row t e v)→∃n xs,c.w.ownsRow B e t.size (c.rv k) n xs∧∀b,(c.rv k).ownBlock=ä b→∀o,n*t.size≤o→¬c.St b o
 sep:∀k k' b,k≠k'→obk c k=ä b→obk c k'≠ä b
 cu:∀k t e v l,c.heap[k]? = ä (.cu t e v l)→∃xs,c.w.ownsRow B e t.size (c.rv k) l.length xs∧Rep c.w c.St (chain (toD t) l) xs∧∀b,(c.rv k).ownBlock=ä b→∀o,¬c.St b o
 drawn:Og B.F P c.w
 fo:∀k b,obk c k=ä b→¬B.F b
 fl:∀b,B.F b→b<c.w.heap.size
 j0:∀b e cap n,¬J.j b e cap n
 vh:∀b e cap n,c.St.j b e cap n→J.j b e cap n∨Jk B c b e cap n
variable{B:Bd}
def Jk.keep {f :Gh}{cap n:Nat}(h:Jk B c b e cap n)(g:f.w.heap[b]? = c.w.heap[b]?)(j:∀o,f.St b o→c.St b o)(l:∀k,obk f k=ä b→obk c k=ä b):Jk B f b e cap n :=
 ⟨h.lo,h.nf,h.le,by rw[g];exact h.cells,λo x=>h.free o (j o x),λk x=>h.own k (l k x)⟩
structure NJ (base:Nat)(w:æ)(St:Sb)(b:Nat)(e:é)(cap n:Nat):Prop where
 lo:base≤b
 le:n≤cap∧cap≤maxLen
 cells:∃e7,w.heap[b]? = ä (.cells e7 e (0,0))∧e7.size=cap∧∀u∈e7.toList,u.oneCell'=ü
 free:∀o,¬St b o
def Jk.lt {cap n:Nat}(h:Jk B c b e cap n):b<c.w.heap.size:=by obtain⟨f,h,_⟩:=h.cells;exact(δ.1 h).1
def IM (h:Inv B P J c){k:Nat}(f:obk c k=ä b):∃j t m,c.w.heap[b]? = ä (.cells j t m):=by
 unfold obk at f;split at f
 next cells hk=>obtain⟨j,t,h1,_⟩:=h.box k cells hk;have:=Δ f;subst this;exact⟨j,t,_,h1⟩
 next t e v hk=>
  obtain⟨n,U,p,_⟩:=h.row k t e v hk;rcases p.2 with⟨x,_⟩|⟨g,cap,T,R,e2,C,r⟩
  ·rw[x]at f;cases f
  ·rw[R]at f;cases f;exact⟨_,_,_,C⟩
 next t e v l hk=>
  obtain⟨U,p,_⟩:=h.cu k t e v l hk;rcases p.2 with⟨x,_⟩|⟨g,cap,T,R,e2,C,r⟩
  ·rw[x]at f;cases f
  ·rw[R]at f;cases f;exact⟨_,_,_,C⟩
 ·cases f
def jP (h:Inv B P J c){k:Nat}(f:obk c k=ä b):b<c.w.heap.size∧B≤b:=by
 unfold obk at f;split at f
 next cells hk=>obtain⟨C,t,r,p,_⟩:=h.box k cells hk;have:=Δ f;subst this;exact⟨(δ.1 r).1,p⟩
 next t e v hk=>obtain⟨n,j,g,_⟩:=h.row k t e v hk;have:=g.lt b f;exact⟨this.2,this.1⟩
 next t e v l hk=>obtain⟨j,g,_⟩:=h.cu k t e v l hk;have:=g.lt b f;exact⟨this.2,this.1⟩
 ·cases f
end Abs
namespace Abs
open Go Go.RowKit
section
variable {B:Bd}{C:æ}{p:Sb}{c:Gh}
variable{k:Nat}{w' :æ}{St' :Sb}{J:Type}{e7:Array ø}{t e:é}{xs:List ø}
def gF {c f:Gh}(j:f.heap[k]? = c.heap[k]?)(l:f.kd k=c.kd k)(g:f.rv k=c.rv k):obk f k=obk c k:=by unfold obk;rw[j,l,g]
def Inv.grow (h:Inv B C p c)(P:Below c.w.heap.size c.w w')(hs:c.St.le St')
  (hn:∀b o,St' b o→c.St b o∨(c.w.heap.size≤b∧b<w'.heap.size)) (hdr:dz c.w≤dz w')
  (hj:∀b e cap n,St'.j b e cap n→c.St.j b e cap n∨NJ c.w.heap.size w' St' b e cap n) :
  Inv B C p { c with w:=w',St:=St' }∧Ev c { c with w:=w',St:=St' }:=by
 have ev:Ev c { c with w:=w',St:=St' }:=⟨hs,λa v hst _ hc=>(P.cell (h.to _ _ hst)).trans hc,λ_ cells x=>⟨cells,x,rfl⟩,λ_ t e v x=>⟨t,e,v,x,ε _,λ_=>rfl⟩,λ_ _ _ v l x=>.inl ⟨v,l,x,ε _,λ_=>rfl⟩,λ_ x=>x,λ_ _=>rfl⟩;refine⟨⟨h.below.trans (P.mono h.size),ξ h.size P.size, ?_,h.st0.trans hs, ?_, ?_, ?_, ?_, ?_,h.drawn.trans (Og.of_below P hdr h.fl),h.fo,λb f=>d_ (h.fl b f) P.size,h.j0,λb e cap n x=>?_⟩,ev⟩
 rotate_right 1
 ·obtain x|x:=hj b e cap n x
  ·refine(h.vh b e cap n x).imp id λq=>q.keep (P.block b q.lt) (λo y=>?_) λk y=>y;obtain y|y:=hn b o y
   ·exact y
   ·have:=q.lt;omega
  ·exact .inr ⟨ξ h.size x.lo,λf=>by have:=h.fl b f;have:=x.lo;omega,x.le,x.cells,x.free,λk y=>by have:=(jP h y).1;have:=x.lo;omega⟩
 ·intro b o x;obtain x|x:=hn b o x
  ·exact d_ (h.to _ _ x) P.size
  ·exact x.2
 ·intro b o x;obtain x|x:=hn b o x
  ·exact h.stN _ _ x
  ·exact .inr ⟨ξ h.size x.1,λf=>by have:=h.fl b f;omega⟩
 ·intro k cells hk;obtain⟨e7,t,h1,h2,h3,h4⟩:=h.box k cells hk;have hlt:=(δ.1 h1).1;refine⟨e7,t,(P.block _ hlt).trans h1,h2,λo x=>?_,h4.mono ev⟩;obtain x|x:=hn _ o x
  ·exact h3 o x
  ·have:c.w.heap.size≤c.kd k:=x.1;omega
 ·intro k t e v hk;obtain⟨n,xs,T,R⟩:=h.row k t e v hk;refine⟨n,xs,⟨T.1, ?_⟩,λb J o hle x=>?_⟩
  ·obtain x|⟨g,cap,U,e1,e2,e3,r⟩:=T.2
   ·exact .inl x
   ·exact .inr ⟨g,cap,U,e1,e2,(P.block _ (δ.1 e3).1).trans e3,r⟩
  ·obtain x|x:=hn _ o x
   ·exact R b J o hle x
   ·have:=T.lt b J;omega
 ·exact h.sep
 ·intro k t e v l hk;obtain⟨xs,T,hrep,R⟩:=h.cu k t e v l hk;refine⟨xs,⟨T.1, ?_⟩,hrep.mono ev.st ev.cell,λb J o x=>?_⟩
  ·obtain x|⟨g,cap,U,e1,e2,e3,r⟩:=T.2
   ·exact .inl x
   ·exact .inr ⟨g,cap,U,e1,e2,(P.block _ (δ.1 e3).1).trans e3,r⟩
  ·obtain x|x:=hn _ o x
   ·exact R b J o x
   ·have:=T.lt b J;omega
def Inv.drew (h:Inv B C p c):Inv B C p { c with w:=c.w.drew }∧Ev c { c with w:=c.w.drew } :=
 h.grow (w':=c.w.drew) (St':=c.St) ⟨rfl,rfl,rfl,ε _,λ_ _=>rfl⟩ (Sb.le.refl _) (λ_ _ x=>.inl x) ((by first|exact(by first|exact(by first|exact ak1 _|exact Y' _)|exact Y' _)|exact Y' _)) (λ_ _ _ _ x=>.inl x)
def cf {l:List J}{i:Nat}{x:J}:(l.set k x)[i]? = if k=i then(if k<l.length then ä x else ö)else l[i]?:=by rw[List.getElem?_set]
def ar {l:List J}{x:J}(h:l[k]? = ä x):k<l.length:=(f_.1 h).1
def Inv.addBox (h:Inv B C p c){g:Nat}{cells:List AV}(hk:c.heap[k]? = ä .none)(hg:c.w.heap[g]? = ä (.cells e7 t (0,0)))(hB:B≤g)(hF:¬B.F g)
  (hst:∀o,¬c.St g o) (T:∀k',obk c k'≠ä g) (hjk:∀e cap n,c.St.j g e cap n→p.j g e cap n) (hr:RAs c cells e7.toList) :
  Inv B C p { c with heap:=c.heap.set k (.box cells),kd:=λi=>if i=k then g else c.kd i }∧Ev c { c with heap:=c.heap.set k (.box cells),kd:=λi=>if i=k then g else c.kd i }:=by
 have hlt:=ar hk;have r:∀i,i≠k→(c.heap.set k (.box cells))[i]? = c.heap[i]?:=λi f=>by rw[cf,ω (λe=>f e.symm)]
 have new:(c.heap.set k (.box cells))[k]? = ä (.box cells):=by rw[cf,Θ rfl,Θ hlt]
 have ev:Ev c { c with heap:=c.heap.set k (.box cells),kd:=λi=>if i=k then g else c.kd i }:=by
  refine⟨Sb.le.refl _,λ_ _ _ _ x=>x,λi cs x=>?_,λi t e v x=>?_,λi t e v l x=>?_,λi x=>?_,λ_ _=>rfl⟩
  ·have f:i≠k:=λe=>by subst e;rw[hk]at x;cases x
   exact⟨cs,(r i f).trans x,ω f⟩
  ·have f:i≠k:=λe=>by subst e;rw[hk]at x;cases x
   exact⟨t,e,v,(r i f).trans x,ε _,λ_=>rfl⟩
  ·have f:i≠k:=λe=>by subst e;rw[hk]at x;cases x
   exact .inl ⟨v,l,(r i f).trans x,ε _,λ_=>rfl⟩
  ·have f:i≠k:=λe=>by subst e;rw[hk]at x;cases x
   exact(r i f).trans x
 have R:∀i,i≠k→obk { c with heap:=c.heap.set k (.box cells),kd:=λi=>if i=k then g else c.kd i } i=obk c i:=λi f=>gF (r i f) (ω f) rfl;have J:obk { c with heap:=c.heap.set k (.box cells),kd:=λi=>if i=k then g else c.kd i } k=ä g:=by unfold obk;simp[new]
 refine⟨⟨h.below,h.size,h.to,h.st0,h.stN, ?_, ?_, ?_,λi t' e' v' l' f=>?_,h.drawn,λi b U=>(by
  by_cases ei:i=k
  ·subst ei;rw[J]at U;cases U;exact hF
  ·rw[R i ei]at U;exact h.fo i b U),h.fl,h.j0,λb e cap n x=>?_⟩,ev⟩
 rotate_right 1
 ·by_cases eb:b=g
  ·subst eb;exact .inl (hjk e cap n x)
  ·refine(h.vh b e cap n x).imp id λq=>q.keep rfl (λ_ y=>y) λi y=>?_;by_cases ei:i=k
   ·subst ei;rw[J]at y;injection y with y;exact absurd y.symm eb
   ·rw[R i ei]at y;exact y
 rotate_left 3
 ·by_cases e:i=k
  ·subst e;have:=new.symm.trans f;injection this with this;cases this
  ·exact h.cu i t' e' v' l' ((r i e).symm.trans f)
 ·intro i cs f;by_cases e:i=k
  ·subst e;have:=new.symm.trans f;cases this;exact⟨e7,t,by simpa using hg,by simpa using hB,by simpa using hst,hr.mono ev⟩
  ·have f:=(r i e).symm.trans f;obtain⟨a1,t1,h1,h2,h3,h4⟩:=h.box i cs f;exact⟨a1,t1,by simpa[e]using h1,by simpa[e]using h2,by simpa[e]using h3,h4.mono ev⟩
 ·intro i t' e' v' f;by_cases e:i=k
  ·subst e;have:=new.symm.trans f;injection this with this;cases this
  ·exact h.row i t' e' v' ((r i e).symm.trans f)
 ·intro i j b hij U P;by_cases ei:i=k
  ·subst ei;have hj:j≠i:=λe=>hij e.symm;rw[J]at U;rw[R j hj]at P;cases U;exact T j P
  ·rw[R i ei]at U;by_cases ej:j=k
   ·subst ej;rw[J]at P;cases P;exact T i U
   ·rw[R j ej]at P;exact h.sep i j b hij U P
def Inv.addRow (h:Inv B C p c){n:Nat}{t:Ty}{s:ø}(hk:c.heap[k]? = ä .none)(ho:c.w.ownsRow B e t.size s n xs)
  (hsp:∀b,s.ownBlock=ä b→∀o,n*t.size≤o→¬c.St b o) (T:∀k' b,s.ownBlock=ä b→obk c k'≠ä b) (hF:∀b,s.ownBlock=ä b→¬B.F b) (hjk:∀b,s.ownBlock=ä b→∀e cap n,c.St.j b e cap n→p.j b e cap n) :
  Inv B C p { c with heap:=c.heap.set k (.row t e 0),rv:=λi=>if i=k then s else c.rv i }∧Ev c { c with heap:=c.heap.set k (.row t e 0),rv:=λi=>if i=k then s else c.rv i }:=by
 have hlt:=ar hk;have g:∀i,i≠k→(c.heap.set k (.row t e 0))[i]? = c.heap[i]?:=λi f=>by rw[cf,ω (λe=>f e.symm)]
 have new:(c.heap.set k (.row t e 0))[k]? = ä (.row t e 0):=by rw[cf,Θ rfl,Θ hlt]
 have ev:Ev c { c with heap:=c.heap.set k (.row t e 0),rv:=λi=>if i=k then s else c.rv i }:=by
  refine⟨Sb.le.refl _,λ_ _ _ _ x=>x,λi cs x=>?_,λi t e v x=>?_,λi t e v l x=>?_,λi x=>?_,λ_ _=>rfl⟩
  ·have f:i≠k:=λe=>by subst e;rw[hk]at x;cases x
   exact⟨cs,(g i f).trans x,rfl⟩
  ·have f:i≠k:=λe=>by subst e;rw[hk]at x;cases x
   exact⟨t,e,v,(g i f).trans x,ε _,λ_=>ω f⟩
  ·have f:i≠k:=λe=>by subst e;rw[hk]at x;cases x
   exact .inl ⟨v,l,(g i f).trans x,ε _,λ_=>ω f⟩
  ·have f:i≠k:=λe=>by subst e;rw[hk]at x;cases x
   exact(g i f).trans x
 have R:∀i,i≠k→obk { c with heap:=c.heap.set k (.row t e 0),rv:=λi=>if i=k then s else c.rv i } i=obk c i:=λi f=>gF (g i f) rfl (ω f);have r:obk { c with heap:=c.heap.set k (.row t e 0),rv:=λi=>if i=k then s else c.rv i } k=s.ownBlock:=by unfold obk;simp[new]
 refine⟨⟨h.below,h.size,h.to,h.st0,h.stN, ?_, ?_, ?_,λi t' e' v' l' f=>?_,h.drawn,λi b U=>(by
  by_cases P:i=k
  ·subst P;rw[r]at U;exact hF b U
  ·rw[R i P]at U;exact h.fo i b U),h.fl,h.j0,λb e cap n x=>?_⟩,ev⟩
 rotate_right 1
 ·by_cases eb:s.ownBlock=ä b
  ·exact .inl (hjk b eb e cap n x)
  ·refine(h.vh b e cap n x).imp id λq=>q.keep rfl (λ_ y=>y) λi y=>?_;by_cases P:i=k
   ·subst P;rw[r]at y;exact absurd y eb
   ·rw[R i P]at y;exact y
 rotate_left 3
 ·by_cases e:i=k
  ·subst e;have:=new.symm.trans f;injection this with this;cases this
  ·obtain⟨xs',h1,h2,h3⟩:=h.cu i t' e' v' l' ((g i e).symm.trans f);exact⟨xs',by simpa[e]using h1,h2,by simpa[e]using h3⟩
 ·intro i cs f;by_cases e:i=k
  ·subst e;have:=new.symm.trans f;injection this with this;cases this
  ·have f:=(g i e).symm.trans f;obtain⟨a1,t1,h1,h2,h3,h4⟩:=h.box i cs f;exact⟨a1,t1,h1,h2,h3,h4.mono ev⟩
 ·intro i t' e' v' f;by_cases P:i=k
  ·subst P;have:=new.symm.trans f;injection this with this;injection this with e1 e2 e3;subst e1;subst e2;subst e3;exact⟨n,xs,by simpa using ho,by simpa using hsp⟩
  ·obtain⟨n',xs',h1,h2⟩:=h.row i t' e' v' ((g i P).symm.trans f);exact⟨n',xs',by simpa[P]using h1,by simpa[P]using h2⟩
 ·intro i j b hij U J;by_cases P:i=k
  ·subst P;have hj:j≠i:=λe=>hij e.symm;rw[r]at U;rw[R j hj]at J;exact T j b U J
  ·rw[R i P]at U;by_cases ej:j=k
   ·subst ej;rw[r]at J;exact T i b J U
   ·rw[R j ej]at J;exact h.sep i j b hij U J
def Inv.setBox (h:Inv B C p c){cells cells':List AV}{arr' :Array ø}(hk:c.heap[k]? = ä (.box cells))(hg:c.w.heap[c.kd k]? = ä (.cells e7 t (0,0)))
  (hr:RAs c cells' arr'.toList) :
  Inv B C p { c with heap:=c.heap.set k (.box cells'),w:=c.w.setRow (c.kd k) arr' }∧Ev c { c with heap:=c.heap.set k (.box cells'),w:=c.w.setRow (c.kd k) arr' }:=by
 have hlt:=ar hk;have P:∀i,i≠k→(c.heap.set k (.box cells'))[i]? = c.heap[i]?:=λi J=>by rw[cf,ω (λe=>J e.symm)]
 have new:(c.heap.set k (.box cells'))[k]? = ä (.box cells'):=by rw[cf,Θ rfl,Θ hlt]
 have hns:∀o,¬c.St (c.kd k) o:=by obtain⟨_,_,_,_,h3,_⟩:=h.box k cells hk;exact h3
 have hBk:B≤c.kd k:=by obtain⟨_,_,_,h2,_⟩:=h.box k cells hk;exact h2
 have R:∀b,b≠c.kd k→(c.w.setRow (c.kd k) arr').heap[b]? = c.w.heap[b]?:=λb hb=>akz _ _ _ _ hb;have ev:Ev c { c with heap:=c.heap.set k (.box cells'),w:=c.w.setRow (c.kd k) arr' }:=by
  refine⟨Sb.le.refl _,λa v hst _ hc=>?_,λi cs x=>?_,λi t e v x=>?_,λi t e v l x=>?_,λi x=>?_,λ_ _=>rfl⟩
  rotate_left 3
  ·have J:i≠k:=λe=>by subst e;rw[hk]at x;cases x
   exact .inl ⟨v,l,(P i J).trans x,ε _,λ_=>rfl⟩
  ·have J:i≠k:=λe=>by subst e;rw[hk]at x;cases x
   exact(P i J).trans x
  ·exact(akq (R a.block (λe=>hns a.off (e ▸ hst)))).trans hc
  ·by_cases J:i=k
   ·subst J;exact⟨cells',new,rfl⟩
   ·exact⟨cs,(P i J).trans x,rfl⟩
  ·have J:i≠k:=λe=>by subst e;rw[hk]at x;cases x
   exact⟨t,e,v,(P i J).trans x,ε _,λ_=>rfl⟩
 have hbk:∀i cs,c.heap[i]? = ä (.box cs)→i≠k→c.kd i≠c.kd k:=λi cs J T e=>by
  refine h.sep i k (c.kd i) T ?_ ?_
  ·unfold obk;rw[J]
  ·unfold obk;rw[hk,e]
 have hob:∀i,obk { c with heap:=c.heap.set k (.box cells'),w:=c.w.setRow (c.kd k) arr' } i=obk c i:=λi=>by
  by_cases J:i=k
  ·subst J;unfold obk;simp[new,hk]
  ·exact gF (P i J) rfl rfl
 have hok:obk c k=ä (c.kd k):=by unfold obk;rw[hk]
 have U:∀b,B.F b→(c.w.setRow (c.kd k) arr').heap[b]? = c.w.heap[b]?:=λb f=>R b (λe=>h.fo k b (by rw[e];exact hok) f);have hog:Og B.F c.w (c.w.setRow (c.kd k) arr'):=⟨ε _,λb o x y=>(R b (λe=>by rw[e,hg]at x;cases x;cases y)).trans x,U⟩;refine⟨⟨?_, ?_, ?_,h.st0,h.stN, ?_, ?_, ?_,λi t' e' v' l' J=>?_,h.drawn.trans hog,λi b hb=>h.fo i b (by rw[hob i]at hb;exact hb),λb f=>(by
  have e:=U b f;rw[X_ (h.fl b f)]at e;exact(δ.1 e).1),h.j0,λb e cap n x=>(h.vh b e cap n x).imp id λq=>q.keep (R b λe=>q.own k (by rw[e];exact hok)) (λ_ y=>y) λi y=>by rw[hob i]at y;exact y⟩,ev⟩
 rotate_left 6
 ·have T:i≠k:=λe=>by subst e;have:=new.symm.trans J;injection this with this;cases this
  have J:=(P i T).symm.trans J;obtain⟨xs,ho,hrep,hsp⟩:=h.cu i t' e' v' l' J;refine⟨xs,⟨ho.1, ?_⟩,hrep.mono ev.st ev.cell,hsp⟩;obtain x|⟨g,cap,cur,e1,e2,e3,r⟩:=ho.2
  ·exact .inl x
  ·refine .inr ⟨g,cap,cur,e1,e2,(R g λe=>?_).trans e3,r⟩;refine h.sep i k g T ?_ ?_
   ·have e1:c.rv i=_:=e1;unfold obk;rw[J];simp[e1,Value.ownBlock]
   ·unfold obk;rw[hk,e]
 ·refine h.below.trans ⟨rfl,rfl,rfl,Ψ,λi J=>R i Ω⟩
 ·simpa using h.size
 ·intro b o x;simpa using h.to b o x
 ·intro i cs J;by_cases ei:i=k
  ·subst ei;have:=new.symm.trans J;cases this;exact⟨arr',t,akY _ _ _ _ _ _ hg,hBk,hns,hr.mono ev⟩
  ·have J:=(P i ei).symm.trans J;obtain⟨a1,t1,h1,h2,h3,h4⟩:=h.box i cs J;exact⟨a1,t1,(R _ (hbk i cs J ei)).trans h1,h2,h3,h4.mono ev⟩
 ·intro i t' e' v' J;have T:i≠k:=λe=>by subst e;have:=new.symm.trans J;injection this with this;cases this
  have J:=(P i T).symm.trans J;obtain⟨n,xs,ho,hsp⟩:=h.row i t' e' v' J;refine⟨n,xs,⟨ho.1, ?_⟩,hsp⟩;obtain x|⟨g,cap,cur,e1,e2,e3,r⟩:=ho.2
  ·exact .inl x
  ·refine .inr ⟨g,cap,cur,e1,e2,(R g λe=>?_).trans e3,r⟩;refine h.sep i k g T ?_ ?_
   ·have e1:c.rv i=_:=e1;unfold obk;rw[J];simp[e1,Value.ownBlock]
   ·unfold obk;rw[hk,e]
 ·intro i j b hij hb hb';rw[hob]at hb hb';exact h.sep i j b hij hb hb'
def cg {P:å}(w:æ)(t ty e:é)(i:TypeInfo)(z:ø)(size bytes:Nat)(ht:P.underlying t=ä (.slice e))(hi:P.info? e=ä i)(hz:i.zero=ä z)
  (r:i.size=size) (hby:i.bytes=bytes) (hzs:z.cells.size=size) (hsz:0<size)
  (v:ø) (n:Nat) (xs:List ø) (p:w.ownsRow B e size v n xs)
  (A:Option Addr) (m cp:Nat) (f:List ø) (hl:f.length=m*size) (hA:m=0∨∃ad,A=ä ad∧∀j u,f[j]? = ä u→w.cell? (ad.add j)=ä u) (h1:∀u∈f,u.oneCell'=ü)
  (h63:n+m≤maxLen) (J:(n+m)*bytes≤140737488355328) (hbase:B≤w.heap.size) :
  ∃v' w',(Builtin.append_ #[t,t] ty #[v,.slice A m cp]).run P w = .ok v' w'∧w'.ownsRow B e size v' (n+m) (xs++f)∧w.grownBy w' v.ownBlock ∧
   (v'.ownBlock=v.ownBlock∨v'.ownBlock=ä w.heap.size)∧(∀g,v.ownBlock=ä g→∀j,j<n*size→w'.cell? ⟨g,j,ö⟩=w.cell? ⟨g,j,ö⟩)∧dz w≤dz w':=by
 have hsmall:n+m≤9223372036854775807:=by simp[maxLen]at h63;omega
 by_cases hm:m=0
 ·subst hm;have hn:f=[]:=Q' (by simpa using hl);subst hn;refine⟨v,w, ?_,by simpa using p,⟨rfl,rfl,rfl,ε _,λ_ _ _=>rfl⟩,.inl rfl,λ_ _ _ _=>rfl,ε _⟩;rcases p.2 with⟨rfl,rfl⟩|⟨g,cap,U,rfl,_,hg,hnc,_⟩
  ·cases A <;> simp[Builtin.append_,η ht,sizeOf,typeInfo,hi,Builtin.lenOf,Builtin.firstCells,loadCells,loadCellsFrom]
  ·cases A <;> simp[Builtin.append_,η ht,sizeOf,typeInfo,hi,Builtin.lenOf,Builtin.firstCells,loadCells,loadCellsFrom,hnc,storeCells]
 ·obtain⟨a,rfl,C⟩:=hA.resolve_left hm;obtain⟨v',w',l,h2,h3,_,h5⟩:=run_append_own_at (P:=P) w B t ty e i z size bytes ht hi hz r hby hzs hsz v n xs p a m cp f hl C h1 h63 J hbase;refine⟨v',w',l,h2,h3,h5,λg hg j hj=>?_, ?_⟩
  rotate_left
  ·rcases p.2 with⟨rfl,rfl⟩|⟨g',cap,U,rfl,hbg,hgg,hnc,hcm,hcs,htake⟩
   ·have hr:=run_append_nil (P:=P) w t ty e i z ht hi hz a m cp f (by rw[r];exact hl) C Ω Ω (by rw[hby];simp at J;omega);rw[hr]at l;injection l with hv hw;subst hw;exact(by first|exact(by first|exact(by first|exact ak1 _|exact Y' _)|exact Y' _)|exact Y' _)
   ·by_cases R:n+m≤cap
    ·subst r;have hfit:n*i.size+f.length≤U.size:=by rw[hl,hcs,←Nat.add_mul];exact r_ _ R
     have hr:=run_append_room (P:=P) w t ty e i ht hi g' n cap U hgg a m cp f hl C h1 R hfit;rw[hr]at l;injection l with hv hw;subst hw;exact ε _
    ·have T:∀j u,xs[j]? = ä u→w.cell? ((⟨g',0,ö⟩:Addr).add j)=ä u:=p.cells (g:=g') rfl;have hr:=run_append_grow (P:=P) w t ty e i z ht hi hz ⟨g',0,ö⟩ n cap xs (by rw[r];exact p.1) T a m cp f (by rw[r];exact hl) C Ω Ω (alC Ω (by rw[hby];exact J));rw[hr]at l;injection l with hv hw;subst hw;exact(by first|exact(by first|exact(by first|exact ak1 _|exact Y' _)|exact Y' _)|exact Y' _)
  obtain h5|h5:=h5
  ·have hc:=p.cells hg;have hc':=h2.cells (h5.trans hg);have hlx:j<xs.length:=by rw[p.1];exact hj
   have e1:=hc j xs[j] (ζ hlx);have e2:=hc' j xs[j] (by rw[I' hlx];exact ζ hlx);have hadd:(⟨g,0,ö⟩:Addr).add j=⟨g,j,ö⟩:=by unfold Addr.add;split <;> simp_all
   rw[hadd]at e1 e2;rw[e1,e2]
  ·subst r;rcases p.2 with⟨rfl,_⟩|⟨g',cap,U,rfl,hbg,hgg,hnc,hcm,hcs,htake⟩
   ·simp[Value.ownBlock]at hg
   ·have:g'=g:=by simpa[Value.ownBlock]using hg
    subst this;have hglt:=(δ.1 hgg).1;by_cases R:n+m≤cap
    ·have hfit:n*i.size+f.length≤U.size:=by rw[hl,hcs,←Nat.add_mul];exact r_ _ R
     have hr:=run_append_room (P:=P) w t ty e i ht hi g' n cap U hgg a m cp f hl C h1 R hfit;rw[hr]at l;injection l with hv hw;subst hv;simp[Value.ownBlock]at h5;omega
    ·have T:∀j u,xs[j]? = ä u→w.cell? ((⟨g',0,ö⟩:Addr).add j)=ä u:=p.cells (g:=g') rfl;have hr:=run_append_grow (P:=P) w t ty e i z ht hi hz ⟨g',0,ö⟩ n cap xs p.1 T a m cp f hl C Ω Ω (alC Ω (by rw[hby];exact J));rw[hr]at l;injection l with hv hw;subst hw;exact akq (a:=⟨g',j,ö⟩) (Below.heap_alloc w.drew _ g' hglt)
def Inv.appendRow (h:Inv B C p c){v n m:Nat}{t:Ty}{s':ø}{news:List ø}(hk:c.heap[k]? = ä (.row t e v))
  (ho:c.w.ownsRow B e t.size (c.rv k) n xs) (hsp:∀b,(c.rv k).ownBlock=ä b→∀o,n*t.size≤o→¬c.St b o)
  (ho':w'.ownsRow B e t.size s' (n+m) (xs++news)) (hg:c.w.grownBy w' (c.rv k).ownBlock) (hat:s'.ownBlock=(c.rv k).ownBlock∨s'.ownBlock=ä c.w.heap.size)
  (hpre:∀g,(c.rv k).ownBlock=ä g→∀j,j<n*t.size→w'.cell? ⟨g,j,ö⟩=c.w.cell? ⟨g,j,ö⟩) (hdr:dz c.w≤dz w') :
  let c':Gh:={ c with heap:=c.heap.set k (.row t e (v+1)),rv:=λi=>if i=k then s' else c.rv i,w:=w',St:=⟨λb o=>c.St b o∨(s'.ownBlock=ä b∧o<(n+m)*t.size),c.St.j⟩ }
  Inv B C p c'∧Ev c c':=by
 intro c';have hlt:=ar hk;have R:∀i,i≠k→c'.heap[i]? = c.heap[i]?:=λi J=>by show(c.heap.set k _)[i]? = _;rw[cf,ω (λe=>J e.symm)]
 have new:c'.heap[k]? = ä (.row t e (v+1)):=by show(c.heap.set k _)[k]? = _;rw[cf,Θ rfl,Θ hlt]
 have T:∀i,i≠k→c'.rv i=c.rv i:=λi J=>ω J;have rvn:c'.rv k=s':=Θ rfl;have P:obk c k=(c.rv k).ownBlock:=by unfold obk;rw[hk]
 have free:∀i b,i≠k→s'.ownBlock=ä b→obk c i≠ä b:=by
  intro i b J l U;obtain x|x:=hat
  ·rw[x,←P]at l;exact h.sep k i b (λe=>J e.symm) l U
  ·have:=(jP h U).1;rw[x]at l;injection l with l;omega
 have blkne:∀i b,i≠k→obk c i=ä b→ä b≠(c.rv k).ownBlock:=by intro i b J l e;rw[←P]at e;exact h.sep i k b J l e.symm
 have ev:Ev c c':=by
  refine⟨⟨λ_ _ x=>.inl x,λ_ _ _ _ x=>x⟩,λa u hst hsp' hc=>?_,λi cs x=>?_,λi t1 e1 v1 x=>?_,λi t1 e1 v1 l1 x=>?_,λi x=>?_,λ_ _=>rfl⟩
  rotate_left 3
  ·have J:i≠k:=λe=>by subst e;rw[hk]at x;cases x
   exact .inl ⟨v1,l1,(R i J).trans x,ε _,λ_=>T i J⟩
  ·have J:i≠k:=λe=>by subst e;rw[hk]at x;cases x
   exact(R i J).trans x
  ·by_cases hbk:(c.rv k).ownBlock=ä a.block
   ·have hoff:a.off<n*t.size:=by
     rcases i_ a.off (n*t.size)with y|y
     ·exact y
     ·exact absurd hst (hsp _ hbk _ y)
    have ea:a=⟨a.block,a.off,ö⟩:=by cases a;simp at hsp'⊢;exact hsp'
    rw[ea];have:=hpre _ hbk _ hoff;rw[ea]at hc;exact this.trans hc
   ·exact hg.cell hc (λe=>hbk e.symm)
  ·have J:i≠k:=λe=>by subst e;rw[hk]at x;cases x
   exact⟨cs,(R i J).trans x,rfl⟩
  ·by_cases J:i=k
   ·subst J;have:=hk.symm.trans x;injection this with this;injection this with _ _ e3;subst e3;exact⟨t,e,v+1,new,Ω,λx=>Ω⟩
   ·exact⟨t1,e1,v1,(R i J).trans x,ε _,λ_=>T i J⟩
 have hbn:∀b,s'.ownBlock=ä b→b<w'.heap.size∧B≤b:=λb l=>by have:=ho'.lt b l;exact⟨this.2,this.1⟩
 have hnF:∀b,s'.ownBlock=ä b→¬B.F b:=λb l f=>by
  obtain y|y:=hat
  ·exact h.fo k b (P.trans (y ▸ l)) f
  ·rw[y]at l;injection l with l;have:=h.fl b f;omega
 have hobk2:obk c' k=s'.ownBlock:=by unfold obk;rw[new];show(c'.rv k).ownBlock=_;rw[rvn]
 have hrowB:∀g,(c.rv k).ownBlock=ä g→B≤g:=λg hg'=>(ho.lt g hg').1;refine⟨⟨h.below.grown hg h.size hrowB,ξ h.size hg.size, ?_,⟨λb o x=>.inl (h.st0.s _ _ x),h.st0.j⟩, ?_, ?_, ?_, ?_,λi t1 e1 v1 l1 J=>?_,h.drawn.trans (Og.of_grown hg (λb l=>IM h (P.trans l)) hdr (λb f=>⟨h.fl b f,λe=>h.fo k b (P.trans e.symm) f⟩)),λi b l=>(by
  by_cases ei:i=k
  ·subst ei;rw[hobk2]at l;exact hnF b l
  ·exact h.fo i b ((gF (R i ei) rfl (T i ei)).symm.trans l)),λb f=>d_ (h.fl b f) hg.size,h.j0,λb e cap n x=>?_⟩,ev⟩
 rotate_right 1
 ·refine(h.vh b e cap n x).imp id λq=>?_;have hns:s'.ownBlock≠ä b:=λy=>by
   obtain z|z:=hat
   ·exact q.own k (P.trans (z ▸ y))
   ·rw[z]at y;injection y with y;have:=q.lt;omega
  refine q.keep (hg.block b q.lt λy=>q.own k (P.trans y.symm)) (λo y=>?_) λi y=>?_
  ·obtain y|⟨y,_⟩:=y
   ·exact y
   ·exact absurd y hns
  ·by_cases ei:i=k
   ·subst ei;rw[hobk2]at y;exact absurd y hns
   ·exact(gF (R i ei) rfl (T i ei)).symm.trans y
 rotate_left 5
 ·have r:i≠k:=λe=>by subst e;have:=new.symm.trans J;injection this with this;cases this
  have hi':=(R i r).symm.trans J;obtain⟨xs1,h1,hrep,h2⟩:=h.cu i t1 e1 v1 l1 hi';have hoi:obk c i=(c.rv i).ownBlock:=by unfold obk;rw[hi']
  refine⟨xs1, ?_,hrep.mono ev.st ev.cell,λb l o x=>?_⟩
  ·rw[T i r];refine h1.kept hg ?_;cases l:(c.rv i).ownBlock with
   |none=>exact .inl rfl
   |some b=>exact .inr (blkne i b r (hoi.trans l))
  ·rw[T i r]at l;obtain x|⟨x,_⟩:=x
   ·exact h2 b l o x
   ·exact free i b r x (hoi.trans l)
 ·intro b o x;obtain x|⟨x,_⟩:=x
  ·exact d_ (h.to _ _ x) hg.size
  ·exact(hbn b x).1
 ·intro b o x;obtain x|⟨x,_⟩:=x
  ·exact h.stN _ _ x
  ·exact .inr ⟨(hbn b x).2,hnF b x⟩
 ·intro i cs J;have r:i≠k:=λe=>by subst e;have:=new.symm.trans J;injection this with this;cases this
  have J:=(R i r).symm.trans J;obtain⟨a1,t1,h1,h2,h3,h4⟩:=h.box i cs J;have hoi:obk c i=ä (c.kd i):=by unfold obk;rw[J]
  refine⟨a1,t1,(hg.block _ (δ.1 h1).1 (blkne i _ r hoi)).trans h1,h2,λo x=>?_,h4.mono ev⟩;obtain x|⟨x,_⟩:=x
  ·exact h3 o x
  ·exact free i _ r x hoi
 ·intro i t1 e1 v1 J;by_cases r:i=k
  ·subst r;have:=new.symm.trans J;injection this with this;injection this with q1 q2 q3;subst q1;subst q2;subst q3;refine⟨n+m,xs++news,by rw[rvn];exact ho',λb l o hle x=>?_⟩;rw[rvn]at l;obtain x|⟨_,x⟩:=x
   ·obtain y|y:=hat
    ·exact hsp b (y ▸ l) o (ξ (r_ _ Ω) hle) x
    ·have:=h.to _ _ x;rw[y]at l;injection l with l;omega
   ·omega
  ·have hi':=(R i r).symm.trans J;obtain⟨n1,xs1,h1,h2⟩:=h.row i t1 e1 v1 hi';have hoi:obk c i=(c.rv i).ownBlock:=by unfold obk;rw[hi']
   refine⟨n1,xs1, ?_,λb l o hle x=>?_⟩
   ·rw[T i r];refine h1.kept hg ?_;cases l:(c.rv i).ownBlock with
    |none=>exact .inl rfl
    |some b=>exact .inr (blkne i b r (hoi.trans l))
   ·rw[T i r]at l;obtain x|⟨x,_⟩:=x
    ·exact h2 b l o hle x
    ·exact free i b r x (hoi.trans l)
 ·intro i j b hij l U;have hobn:∀i,i≠k→obk c' i=obk c i:=λi J=>gF (R i J) rfl (T i J);have hobk':obk c' k=s'.ownBlock:=by unfold obk;rw[new];show(c'.rv k).ownBlock=_;rw[rvn]
  by_cases ei:i=k
  ·subst ei;have hj:j≠i:=λe=>hij e.symm;rw[hobk']at l;rw[hobn j hj]at U;exact free j b hj l U
  ·rw[hobn i ei]at l;by_cases ej:j=k
   ·subst ej;rw[hobk']at U;exact free i b ei U l
   ·rw[hobn j ej]at U;exact h.sep i j b hij l U
def Inv.obj (h:Inv B C p c){ho':HO}{r':ø}(hlt:k<c.heap.length)
  (hg:c.w.grownBy w' (obk c k)) (hdr:dz c.w≤dz w') (hs:c.St.le St') (hj:∀b e cap n,St'.j b e cap n→c.St.j b e cap n)
  (hn:∀b o,St' b o→c.St b o∨((obk c k=ä b∨c.w.heap.size≤b)∧b<w'.heap.size))
  (hcell:∀(a:Addr) v,c.St a.block a.off→a.spot=ö→c.w.cell? a=ä v→w'.cell? a=ä v)
  (hk:c.heap[k]? = ä .none∨∃t e v l,c.heap[k]? = ä (.cu t e v l)∧((∃v' l',ho' = .cu t e v' l'∧v≤v'∧(v'=v→r'=c.rv k))∨ho' = .dead))
  (hho:ho' = .dead∨∃t e v l,ho' = .cu t e v l∧(r'.ownBlock=ö∨r'.ownBlock=obk c k∨r'.ownBlock=ä c.w.heap.size)∧∃xs,w'.ownsRow B e t.size r' l.length xs∧Rep w' St' (chain (toD t) l) xs∧∀b,r'.ownBlock=ä b→∀o,¬St' b o) :
  let c':Gh:={ c with heap:=c.heap.set k ho',w:=w',St:=St',rv:=λi=>if i=k then r' else c.rv i }
  Inv B C p c'∧Ev c c':=by
 intro c';have T:∀i,i≠k→c'.heap[i]? = c.heap[i]?:=λi J=>by show(c.heap.set k _)[i]? = _;rw[cf,ω (λe=>J e.symm)]
 have new:c'.heap[k]? = ä ho':=by show(c.heap.set k _)[k]? = _;rw[cf,Θ rfl,Θ hlt]
 have rvo:∀i,i≠k→c'.rv i=c.rv i:=λi J=>ω J;have rvn:c'.rv k=r':=Θ rfl;have nbox:∀cells,c.heap[k]? ≠ ä (.box cells):=λcells q=>by obtain x|⟨_,_,_,_,x,_⟩:=hk <;> rw[x]at q <;> cases q
 have nrow:∀t e v,c.heap[k]? ≠ ä (.row t e v):=λt e v q=>by obtain x|⟨_,_,_,_,x,_⟩:=hk <;> rw[x]at q <;> cases q
 have ndead:c.heap[k]? ≠ ä .dead:=λq=>by obtain x|⟨_,_,_,_,x,_⟩:=hk <;> rw[x]at q <;> cases q
 have ev:Ev c c':=by
  refine⟨hs,hcell,λi cs x=>?_,λi t e v x=>?_,λi t e v l x=>?_,λi x=>?_,λ_ _=>rfl⟩
  ·have J:i≠k:=λe=>nbox cs (e ▸ x);exact⟨cs,(T i J).trans x,rfl⟩
  ·have J:i≠k:=λe'=>nrow t e v (e' ▸ x);exact⟨t,e,v,(T i J).trans x,ε _,λ_=>rvo i J⟩
  ·by_cases J:i=k
   ·subst J;obtain y|⟨t1,e1,v1,l1,y,z⟩:=hk
    ·rw[y]at x;cases x
    ·rw[y]at x;injection x with x;injection x with x1 x2 x3 x4;subst x1;subst x2;subst x3;rcases z with⟨v',l',z1,z2,z3⟩|z
     ·exact .inl ⟨v',l',by rw[new,z1],z2,λe=>by rw[rvn];exact z3 e⟩
     ·exact .inr (by rw[new,z])
   ·exact .inl ⟨v,l,(T i J).trans x,ε _,λ_=>rvo i J⟩
  ·have J:i≠k:=λe=>ndead (e ▸ x);exact(T i J).trans x
 have hobk:obk c' k=ö∨obk c' k=obk c k∨obk c' k=ä c.w.heap.size:=by
  obtain rfl|⟨t,e,v,l,rfl,x,_⟩:=hho
  ·left;unfold obk;rw[new]
  ·have:obk c' k=r'.ownBlock:=by unfold obk;rw[new];show(c'.rv k).ownBlock=_;rw[rvn]
   rw[this];exact x
 have hobn:∀i,i≠k→obk c' i=obk c i:=λi J=>gF (T i J) rfl (rvo i J);have ne:∀i b,i≠k→obk c i=ä b→ä b≠obk c k:=λi b J r e=>h.sep i k b J r e.symm;have hlow:∀b,obk c k=ä b∨c.w.heap.size≤b→B≤b:=λb r=>by
  obtain r|r:=r
  ·exact(jP h r).2
  ·exact ξ h.size r
 have fresh:∀i b o,i≠k→obk c i=ä b→St' b o→c.St b o:=λi b o J r x=>by
  obtain x|⟨x|x,_⟩:=hn b o x
  ·exact x
  ·exact absurd x (h.sep i k b J r)
  ·have:=(jP h r).1;omega
 refine⟨⟨?_,ξ h.size hg.size, ?_,h.st0.trans hs, ?_, ?_, ?_, ?_, ?_,h.drawn.trans (Og.of_grown hg (λb r=>IM h r) hdr (λb f=>⟨h.fl b f,λe=>h.fo k b e.symm f⟩)),λi b r f=>(by
  by_cases ei:i=k
  ·subst ei;obtain x|x|x:=hobk <;> rw[x]at r
   ·cases r
   ·exact h.fo i b r f
   ·injection r with r;have:=h.fl b f;omega
  ·rw[hobn i ei]at r;exact h.fo i b r f),λb f=>d_ (h.fl b f) hg.size,h.j0,λb e cap n x=>?_⟩,ev⟩
 rotate_right 1
 ·refine(h.vh b e cap n (hj b e cap n x)).imp id λq=>q.keep (hg.block b q.lt λy=>q.own k y.symm) (λo y=>?_) λi y=>?_
  ·obtain y|⟨y|y,_⟩:=hn b o y
   ·exact y
   ·exact absurd y (q.own k)
   ·have:=q.lt;omega
  ·by_cases ei:i=k
   ·subst ei;obtain z|z|z:=hobk <;> rw[z]at y
    ·cases y
    ·exact y
    ·injection y with y;have:=q.lt;omega
   ·rw[hobn i ei]at y;exact y
 ·exact h.below.grown hg h.size (λg hg'=>(jP h hg').2)
 ·intro b o x;obtain x|x:=hn b o x
  ·exact d_ (h.to _ _ x) hg.size
  ·exact x.2
 ·intro b o x;obtain x|x:=hn b o x
  ·exact h.stN _ _ x
  ·refine .inr ⟨hlow b x.1,λf=>?_⟩;obtain y|y:=x.1
   ·exact h.fo k b y f
   ·have:=h.fl b f;omega
 ·intro i cs J;have P:i≠k:=λe=>by subst e;have:=new.symm.trans J;injection this with this;obtain y|⟨_,_,_,_,y,_⟩:=hho <;> rw[y]at this <;> cases this
  have J:=(T i P).symm.trans J;obtain⟨a1,t1,h1,h2,h3,h4⟩:=h.box i cs J;have U:obk c i=ä (c.kd i):=by unfold obk;rw[J]
  exact⟨a1,t1,(hg.block _ (δ.1 h1).1 (ne i _ P U)).trans h1,h2,λo x=>h3 o (fresh i _ o P U x),h4.mono ev⟩
 ·intro i t1 e1 v1 J;have P:i≠k:=λe=>by subst e;have:=new.symm.trans J;injection this with this;obtain y|⟨_,_,_,_,y,_⟩:=hho <;> rw[y]at this <;> cases this
  have J:=(T i P).symm.trans J;obtain⟨n1,xs1,h1,h2⟩:=h.row i t1 e1 v1 J;have U:obk c i=(c.rv i).ownBlock:=by unfold obk;rw[J]
  refine⟨n1,xs1, ?_,λb r o hle x=>?_⟩
  ·rw[rvo i P];refine h1.kept hg ?_;cases r:(c.rv i).ownBlock with
   |none=>exact .inl rfl
   |some b=>exact .inr (ne i b P (U.trans r))
  ·rw[rvo i P]at r;exact h2 b r o hle (fresh i b o P (U.trans r) x)
 ·intro i j b hij r R;by_cases ei:i=k
  ·subst ei;have hj:j≠i:=λe=>hij e.symm;rw[hobn j hj]at R;obtain x|x|x:=hobk <;> rw[x]at r
   ·cases r
   ·exact h.sep i j b hij r R
   ·injection r with r;have:=(jP h R).1;omega
  ·rw[hobn i ei]at r;by_cases ej:j=k
   ·subst ej;obtain x|x|x:=hobk <;> rw[x]at R
    ·cases R
    ·exact h.sep i j b hij r R
    ·injection R with R;have:=(jP h r).1;omega
   ·rw[hobn j ej]at R;exact h.sep i j b hij r R
 ·intro i t1 e1 v1 l1 J;by_cases P:i=k
  ·subst P;have e:=new.symm.trans J;injection e with e;obtain y|⟨t,e',v,l,y,_,xs,z1,z2,z3⟩:=hho
   ·rw[y]at e;cases e
   ·rw[y]at e;injection e with q1 q2 q3 q4;subst q1;subst q2;have q4:=akD q4;subst q4;exact⟨xs,by rw[rvn];exact z1,z2,by rw[rvn];exact z3⟩
  ·have J:=(T i P).symm.trans J;obtain⟨xs1,h1,hrep,h2⟩:=h.cu i t1 e1 v1 l1 J;have U:obk c i=(c.rv i).ownBlock:=by unfold obk;rw[J]
   refine⟨xs1, ?_,hrep.mono ev.st ev.cell,λb r o x=>?_⟩
   ·rw[rvo i P];refine h1.kept hg ?_;cases r:(c.rv i).ownBlock with
    |none=>exact .inl rfl
    |some b=>exact .inr (ne i b P (U.trans r))
   ·rw[rvo i P]at r;exact h2 b r o (fresh i b o P (U.trans r) x)
end
end Abs
namespace Abs
open Go Go.RowKit
def zl:Ty→List ø
 |.int k=>[.int k 0]
 |.bool=>[.bool ß]
 |.str=>[.string ⟨#[]⟩]
 |.slice _=>[.slice ö 0 0]
 |.unit=>[]
 |.cons a b=>zl a++zl b
 |.tree=>[.int .i64 0,.string ⟨#[]⟩,.slice ö 0 0,.slice ö 0 0]
 |.jsl _=>[.slice ö 0 0]
def tw:TypeDesc→Bool
 |.struct _|.array _ _=>ß
 |_=>ü
def FOk (ty:é→Option Ty):List Field→List Ty→Nat→Prop
 |[],[],_=>True
 |f::fs,a::as,off=>(∃b,ty f.type=ä b∧b.size=a.size∧b.an=a.an∧(a.j5=ü→b=a))∧f.offset=off∧0<a.size∧f.name ≠ "_" ∧ FOk ty fs as (off+a.size)
 |_,_,_=>False
def VJ (P:å)(f:Tab)(t:é):Ty→Prop
 |.int k=>P.underlying t=ä (.int k)
 |.bool=>P.underlying t=ä .bool
 |.str=>P.underlying t=ä .string
 |.slice a=>∃e,P.underlying t=ä (.slice e)∧f.ty e=ä a∧f.elem t=ä e∧0<a.size
 |.jsl e=>∃a,P.underlying t=ä (.slice e)∧f.ty e=ä a∧a.size=1∧f.elem t=ä e
 |j=>∃g,P.underlying t=ä (.struct g)∧P.stoodInHeld t=ß∧P.eqGuardType P.depth t=ß∧FOk f.ty g.toList j.fields 0
structure TabOk (P:å)(tab:Tab):Prop where
 ty:∀t τ,tab.ty t=ä τ→∃i z,P.info? t=ä i∧i.size=τ.size∧i.zero=ä z∧z.cells.toList=zl τ∧i.bytes≤16384∧(τ.an=ü→∃cs,z = .agg cs)∧VJ P tab t τ
 cells:∀t n,tab.cells t=ä n→∃i z d,P.info? t=ä i∧i.size=n∧i.zero=ä z∧z.cells.size=n∧P.underlying t=ä d∧(tab.ty t=ö→n=1→tw d=ü)
 si:∀t i d,tab.si t i=ä d→∃fs f j,P.underlying t=ä (.struct fs)∧fs[i]? = ä f∧f.offset=d∧P.info? f.type=ä j∧0<j.size
 elem:∀t e,tab.elem t=ä e→P.underlying t=ä (.slice e)
 one:∀t n,tab.one t=ä n→∃fs i z,P.underlying t=ä (.struct fs)∧fs.size=n∧(∀(k:Nat) f,fs[k]? = ä f→f.offset=k∧∃j,P.info? f.type=ä j∧j.size=1)∧P.info? t=ä i∧i.zero=ä z∧z.cells.size=n
 e7:∀t n,tab.e7 t=ä n→∃e i z j,P.underlying t=ä (.array n e)∧P.info? e=ä j∧j.size=1∧P.info? t=ä i∧i.zero=ä z∧z.cells.size=n
section
variable {P:å}{tab:Tab}
variable{t:é}{τ:Ty}
def fY (g:τ.an=ü)(h:VJ P tab t τ):∃f,P.underlying t=ä (.struct f)∧P.stoodInHeld t=ß∧P.eqGuardType P.depth t=ß∧FOk tab.ty f.toList τ.fields 0:=by cases τ <;> simp[Ty.an]at g <;> exact h
def cF (p:TabOk P tab)(h:tab.ty t=ä τ)(w:æ):(isAgg t).run P w = .ok τ.an w:=by
 obtain⟨i,z,_,_,_,_,_,_,f⟩:=p.ty t τ h;cases τ with
 |slice a=>obtain⟨e,j,_⟩:=f;simp[isAgg,η j,Ty.an]
 |jsl e=>obtain⟨a,j,_⟩:=f;simp[isAgg,η j,Ty.an]
 |int k=>have f:P.underlying t=ä (.int k):=f;simp[isAgg,η f,Ty.an]
 |bool=>have f:P.underlying t=ä .bool:=f;simp[isAgg,η f,Ty.an]
 |str=>have f:P.underlying t=ä .string:=f;simp[isAgg,η f,Ty.an]
 |unit=>obtain⟨l,g,_⟩:=f;simp[isAgg,η g,Ty.an]
 |cons a b=>obtain⟨l,g,_⟩:=f;simp[isAgg,η g,Ty.an]
 |tree=>obtain⟨l,g,_⟩:=f;simp[isAgg,η g,Ty.an]
def aH (f:TabOk P tab)(h:tab.ty t=ä τ)(w:æ):(sizeOf t).run P w = .ok τ.size w:=by obtain⟨i,z,j,g,_⟩:=f.ty t τ h;simp[sizeOf,typeInfo,j,g]
def qV (h:τ.an=ß):τ.size=1:=by cases τ <;> simp[Ty.an]at h <;> rfl
def cE (p:TabOk P tab)(h:tab.ty t=ä τ)(w:æ)(l:Addr)(f:List ø)(g:f.length=τ.size)(r:∀j u,f[j]? = ä u→w.cell? (l.add j)=ä u) :
  ∃v,(loadVar t l).run P w = .ok v w∧(if τ.an then v = .agg f.toArray else f=[v]):=by
 simp[loadVar,π,cF p h];cases C:τ.an with
 |true =>simp[π,aH p h];rw[←g,aj9 (P:=P) w l f r];simp
 |false=>
  have J:=qV C;rw[J]at g;match f,g with
  |[u],_ =>have:=r 0 u rfl;rw[add_zero]at this;simp[run_load,this]
def fG {w:æ}{St:Sb}{x:τ.den}{g:List ø}{v:ø}(h:Rep w St (toD τ x) g)(f:if τ.an then v = .agg g.toArray else g=[v]):RepV w St τ x v:=by
 unfold RepV;split
 next hs=>simp[hs]at f;exact⟨g,f,h⟩
 next hs=>simp only[hs]at f;simp at f;rw[f]at h;exact h
end
section
variable {P:å}{tab:Tab}{B:Bd}{R:æ}{J:Sb}{c:Gh}{o:ë}{a:Act}
def Ok (P:å)(B:Bd)(R:æ)(J:Sb)(o:ë)(a:Act)(c:Gh)(f:List HO)(out:AV):Prop :=
 ∀(K:Act→æ→Prop) (Q:Exit→Act→æ→Prop),(∀v g,g.heap=f→Inv B R J g→Ev c g→RA g out [v]→K (a.put o.dst v) g.w)→o.wp P a c.w K Q
variable{v:ø}{out u:AV}{x:è}{w:æ}{St:Sb}{b:Bool}{t:é}{fresh k off:Nat}{τ:Ty}{d:TypeDesc}
def eT {g:Gh}{f:List HO}(j:(ê a.eval o).run P c.w = .ok (.value v) g.w)(r:g.heap=f)(p:Inv B R J g)(C:Ev c g)(l:RA g out [v]) :
  Ok P B R J o a c f out:=λK Q h=>by
 unfold Oper.wp;rw[j];exact h v g r p C l
def aA (j:Inv B R J c)(f:(ê a.eval o).run P c.w = .ok (.value v) c.w)(g:RA c out [v]):Ok P B R J o a c c.heap out :=
 eT f rfl j (Ev.refl c) g
def Uw (j:Inv B R J c)(f:o.op = .move x∨o.op = .assign x)(g:RA c u [a.eval x]):Ok P B R J o a c c.heap u:=by refine aA j (v:=a.eval x) ?_ g;unfold ê;obtain f|f:=f <;> simp[f]
def RA.ey {t:Ty}{x:t.den}(h:RA c (.val t x) [v]):RepV c.w c.St t x v:=by obtain⟨v',e,h⟩:=h;simp at e;subst e;exact h
def fF (h:RepV w St .bool b v):v = .bool b:=by have h:=(repv_cell rfl).1 h;obtain⟨h,_⟩:=h;simpa using h
def eh {k:IntKind}{n:Int}(h:RepV w St (.int k) n v):v = .int k n:=by have h:=(repv_cell rfl).1 h;obtain⟨h,_⟩:=h;simpa using h
def yQ {s:Str}(h:RepV w St .str s v):v = .string ⟨s.toArray⟩:=by have h:=(repv_cell rfl).1 h;obtain⟨h,_⟩:=h;simpa using h
def Od (w:æ)(St:Sb)(b:Bool):RepV w St .bool b (.bool b):=(repv_cell rfl).2 ⟨rfl,rfl⟩
def RR (w:æ)(St:Sb)(k:IntKind)(n:Int):RepV w St (.int k) n (.int k n):=(repv_cell rfl).2 ⟨rfl,rfl⟩
def RQ (w:æ)(St:Sb)(s:Str):RepV w St .str s (.string ⟨s.toArray⟩):=(repv_cell rfl).2 ⟨rfl,rfl⟩
def dF (b:Bool):RA c (.val .bool b) [.bool b]:=⟨_,rfl,Od _ _ b⟩
def fx (k:IntKind)(n:Int):RA c (.val (.int k) n) [.int k n]:=⟨_,rfl,RR _ _ k n⟩
def E3 (s:Str):RA c (.val .str s) [.string ⟨s.toArray⟩]:=⟨_,rfl,RQ _ _ s⟩
def wT {f:Bool}(h:RA c u [v])(j:(zd f u).1=ü)(l:f=ü):RA c (zd f u).2 [v]:=by
 unfold zd at *;split at j
 next g u'=>have j:aL f g=true:=j;rw[l,uO]at j;simp[RA,j]at h;exact h
 ·exact h
def Le {y z:è}(U:Inv B R J c)(T:o.op = .pick x y z){p q:AV}(j:RA c (.val .bool b) [a.eval x])(g:b=ü→RA c p [a.eval y])(f:b=ß→RA c q [a.eval z])
  {t:Ty} {s r:t.den} (C:p = .val t s) (l:q = .val t r):Ok P B R J o a c c.heap (.val t (bif b then s else r)):=by
 subst C;subst l;have hb:=fF j.ey;refine aA U (v:=if b then a.eval y else a.eval z) ?_ ?_
 ·unfold ê;simp[T,hb,asBool]
 ·cases b
  ·exact f rfl
  ·exact g rfl
def fB {w:æ}{St:Sb}:∀t:Ty,Rep w St (toD t (zero t)) (zl t)
 |.int _=>⟨rfl,rfl⟩
 |.bool=>⟨rfl,rfl⟩
 |.str=>⟨rfl,rfl⟩
 |.slice _=>⟨ö,0,0,rfl,rfl,ε _,.inl rfl⟩
 |.jsl _=>⟨ö,0,rfl,.inl ⟨rfl,rfl,rfl⟩⟩
 |.unit=>rfl
 |.cons a b=>⟨_,_,rfl,fB a,fB b⟩
 |.tree=>⟨[.int .i64 0],_,rfl,⟨rfl,rfl⟩,[.string ⟨#[]⟩],_,rfl,⟨rfl,rfl⟩,[.slice ö 0 0],_,rfl,⟨ö,0,0,rfl,rfl,ε _,.inl rfl⟩,[.slice ö 0 0],_,rfl,⟨ö,0,0,rfl,rfl,ε _,.inl rfl⟩,rfl⟩
def mV:∀t:Ty,RAs c (BM t) (zl t)
 |.int k=>⟨fx k 0,apa⟩
 |.bool=>⟨dF ß,apa⟩
 |.str=>⟨E3 [],apa⟩
 |.slice _=>⟨rfl,apa⟩
 |.jsl _=>⟨rfl,apa⟩
 |.unit=>trivial
 |.cons a b=>(mV a).append (mV b)
 |.tree=>⟨fx .i64 0,E3 [],rfl,rfl,apa⟩
def Lr (j:Inv B R J c)(p:c.heap[fresh]? = ä .none){e7:Array ø}{cells:List AV}(P:RAs c cells e7.toList) :
  ∃l,l.w=c.w.alloc (.cells e7 t)∧l.heap=c.heap.set fresh (.box cells)∧Inv B R J l∧Ev c l∧RA l (.box fresh 0) [.pointer (ä ⟨c.w.heap.size,0,ö⟩)]:=by
 obtain⟨U,r⟩:=j.grow (w':=c.w.alloc (.cells e7 t)) (St':=c.St) ((Below.refl _ _).alloc (ε _) _) (Sb.le.refl _) (λ_ _ x=>.inl x) (ε _) (λ_ _ _ _ x=>.inl x);obtain⟨T,e2⟩:=U.addBox (k:=fresh) (g:=c.w.heap.size) (e7:=e7) (t:=t) (cells:=cells) p (w? c.w _) j.size (λf=>by have:=j.fl _ f;omega)
  (λo x=>by have:=j.to _ _ x;omega) (λC x=>by have:=(jP j (k:=C) x).1;omega) (λe cap n x=>(j.vh _ e cap n x).resolve_right λq=>Nat.lt_irrefl _ q.lt) (P.mono r)
 refine⟨_,rfl,rfl,T,r.trans e2,cells, ?_, ?_⟩
 ·show(c.heap.set fresh _)[fresh]? = _;rw[cf,Θ rfl,Θ (ar p)]
 ·simp
def Fu (p:Inv B R J c)(f:TabOk P tab)(l:o.op = .alloc t)(C:c.heap[fresh]? = ä .none)(j:tab.ty t=ä τ) :
  Ok P B R J o a c (c.heap.set fresh (.box (BM τ))) (.box fresh 0):=by
 obtain⟨i,z,h1,h2,h3,h4,_⟩:=f.ty t τ j;obtain⟨c',g,r,U,hE,T⟩:=Lr (t:=t) p C (e7:=z.cells) (cells:=BM τ) (by rw[h4];exact mV τ);refine eT (v :=.pointer (ä ⟨c.w.heap.size,0,ö⟩)) ?_ r U hE T;rw[g];unfold ê;simp[l,Instr.alloc,zeroValue,typeInfo,h1,h3,newVar,newRow]
def DK:∀{n:Nat} {f:List ø},f.length=n→RAs c (List.replicate n .unk) f
 |0,[],_=>trivial
 |n+1,v::f,h=>⟨⟨v,rfl⟩,DK (by simpa using h)⟩
def Lm (p:Inv B R J c)(f:TabOk P tab)(l:o.op = .alloc t)(C:c.heap[fresh]? = ä .none){n:Nat}(j:tab.cells t=ä n) :
  Ok P B R J o a c (c.heap.set fresh (.box (List.replicate n .unk))) (.box fresh 0):=by
 obtain⟨i,z,d,h1,h2,h3,h4,_⟩:=f.cells t n j;obtain⟨c',g,r,U,hE,T⟩:=Lr (t:=t) p C (e7:=z.cells) (cells:=List.replicate n .unk) (DK (by simpa using h4));refine eT (v :=.pointer (ä ⟨c.w.heap.size,0,ö⟩)) ?_ r U hE T;rw[g];unfold ê;simp[l,Instr.alloc,zeroValue,typeInfo,h1,h3,newVar,newRow]
def oP (h:RA c u [v])(R:u.pk=ü) :
  RAs c (cellsOf u) v.cells.toList∧∀x∈v.cells.toList,x.oneCell'=true:=by
 cases u with
 |unk=>simp[AV.pk]at R
 |cond g u=>simp[AV.pk]at R
 |tup p=>simp[AV.pk]at R
 |pcons a b=>simp[AV.pk]at R
 |pnil=>simp[AV.pk]at R
 |fix C w=>simp[AV.pk]at R
 |val t x=>exact⟨xS h.ey.cells,h.ey.cells.one⟩
 |nil =>have h:[v]=[.slice ö 0 0]:=h;simp at h;subst h;exact⟨⟨rfl,apa⟩,by simp[Value.cells,Value.oneCell']⟩
 |own k n t l =>have J:=h;obtain⟨s,e,r,_⟩:=h;simp at e;subst e;have P:=((repv_cell (t :=.slice t) rfl).1 r);obtain⟨A,n',cp,e,_⟩:=P;simp at e;subst e;exact⟨⟨J,apa⟩,by simp[Value.cells,Value.oneCell']⟩
 |ref t x =>have J:=h;obtain⟨ad,ds,e,_⟩:=h;simp at e;subst e;exact⟨⟨J,apa⟩,by simp[Value.cells,Value.oneCell']⟩
 |box k off =>have J:=h;obtain⟨U,_,e⟩:=h;simp at e;subst e;exact⟨⟨J,apa⟩,by simp[Value.cells,Value.oneCell']⟩
 |fn f caps =>have J:=h;obtain⟨U,e,_⟩:=h;simp at e;subst e;exact⟨⟨J,apa⟩,by simp[Value.cells,Value.oneCell']⟩
 |agg p =>obtain⟨U,e,r,P,h1⟩:=h;simp at e;subst e;exact⟨by simpa[Value.cells,cellsOf]using r.parts P,by simpa[Value.cells]using h1⟩
 |msl k n lo hi=>
  have J:=h;obtain⟨s,e,T,_⟩:=h;simp at e;subst e;have P:v.cells = #[v]:=by cases v <;> simp_all[Value.oneCell',Value.cells]
  rw[P];exact⟨⟨J,apa⟩,by simpa using T⟩
 |yld j =>have J:=h;obtain⟨_,e⟩:=h;simp at e;subst e;exact⟨⟨J,apa⟩,by simp[Value.cells,Value.oneCell']⟩
 |mpt k n i off=>
  have J:=h;obtain⟨s,e,T,_⟩:=h;simp at e;subst e;have P:v.cells = #[v]:=by cases v <;> simp_all[Value.oneCell',Value.cells]
  rw[P];exact⟨⟨J,apa⟩,by simpa using T⟩
def Sl (r:Inv B R J c)(p:o.op = .box t x)(T:c.heap[fresh]? = ä .none)(g:RA c u [a.eval x])
  (j:u.pk=ü) :
  Ok P B R J o a c (c.heap.set fresh (.box (cellsOf u))) (.box fresh 0):=by
 obtain⟨l,_⟩:=oP g j;obtain⟨c',f,C,hI,hE,U⟩:=Lr (t:=t) r T l;refine eT (v :=.pointer (ä ⟨c.w.heap.size,0,ö⟩)) ?_ C hI hE U;rw[f];unfold ê;simp[p,Instr.box,newVar,newRow]
def qi (p:Inv B R J c){cells:List AV}(l:c.heap[k]? = ä (.box cells)) :
  ∃f t,c.w.heap[c.kd k]? = ä (.cells f t (0,0))∧RAs c cells f.toList∧∀j,c.w.cell? ⟨c.kd k,j,ö⟩=f.toList[j]?:=by
 obtain⟨f,t,g,_,_,r⟩:=p.box k cells l;refine⟨f,t,g,r,λj=>?_⟩;rw[ak0 c.w (c.kd k) j f t (0,0) g];simp
def cV (b off j:Nat):(⟨b,off,ö⟩:Addr).add j=⟨b,off+j,ö⟩:=by unfold Addr.add;split <;> simp_all
def Fq (r:Inv B R J c)(C:TabOk P tab)(ho:o.op = .load t x)(U:RA c (.box k off) [a.eval x]){cells:List AV}(hk:c.heap[k]? = ä (.box cells))
  (ht:tab.ty t=ä τ) {y:τ.den} (T:asm τ ((cells.drop off).take τ.size)=ä y):Ok P B R J o a c c.heap (.val τ y):=by
 obtain⟨cs,hk',e⟩:=U;obtain⟨e7,t',h1,h2,h3⟩:=qi r hk;have f:=ql T ((h2.drop off).take τ.size);obtain⟨v,l,g⟩:=cE C ht c.w ⟨c.kd k,off,ö⟩ _ f.size (λj u p=>by
  rw[cV,h3,←p,b_];have hj:j<τ.size:=by
   obtain h|h:=i_ j τ.size
   ·exact h
   ·rw[b_,ω Ω]at p;cases p
  rw[Θ hj,o_])
 refine aA r (v:=v) ?_ ⟨v,rfl,fG f g⟩;unfold ê;simp at e;simp[ho,e,Instr.loadAt,Instr.sureAddr,l]
def AN (j:P.underlying t=ä d)(g:tw d=ü)(w:æ)(f:Addr)(u:ø)(l:w.cell? f=ä u):(loadVar t f).run P w = .ok u w:=by
 have:(isAgg t).run P w = .ok ß w:=by cases d <;> simp[isAgg,η j,tw]at g⊢
 simp[loadVar,this,run_load,l]
def zi (j:Inv B R J c)(r:o.op = .load t x)(l:RA c (.box k off) [a.eval x]){cells:List AV}(U:c.heap[k]? = ä (.box cells))(hd:P.underlying t=ä d)
  (C:tw d=ü) {u:AV} (p:cells[off]? = ä u):Ok P B R J o a c c.heap u:=by
 obtain⟨cs,T,e⟩:=l;obtain⟨e7,t',h1,h2,h3⟩:=qi j U;obtain⟨v,g,f⟩:=h2.get off u p;refine aA j (v:=v) ?_ f;unfold ê;simp at e;simp[r,e,Instr.loadAt,Instr.sureAddr,AN hd C c.w ⟨c.kd k,off,ö⟩ v ((h3 off).trans g)]
def Eb (g:τ.an=ß)(h:VJ P tab t τ):∃d,P.underlying t=ä d∧tw d=true:=by
 cases τ with
 |int k=>exact⟨_,h,rfl⟩
 |bool=>exact⟨_,h,rfl⟩
 |str=>exact⟨_,h,rfl⟩
 |slice t=>obtain⟨e,f,_⟩:=h;exact⟨_,f,rfl⟩
 |jsl e=>obtain⟨a,f,_⟩:=h;exact⟨_,f,rfl⟩
 |_=>simp[Ty.an]at g
def OG (hi:Inv B R J c)(p:TabOk P tab)(U:o.op = .load t x){y:τ.den}(r:RA c (.ref τ y) [a.eval x])(T:tab.ty t=ä τ):Ok P B R J o a c c.heap (.val τ y):=by obtain⟨ad,ds,e,hs,l,hc⟩:=r;obtain⟨v,g,f⟩:=cE p T c.w ad ds l.size (λj u C=>(hc j u C).1);refine aA hi (v:=v) ?_ ⟨v,rfl,fG l f⟩;unfold ê;simp at e;simp[U,e,Instr.loadAt,Instr.sureAddr,g]
def Fp (hi:Inv B R J c)(tk:TabOk P tab){y:è}(ho:o.op = .store t x y)(hx:RA c (.box k off) [a.eval x])(hy:RA c u [a.eval y]){cells:List AV}(hk:c.heap[k]? = ä (.box cells))
  (hu:u.pk=ü) (hoff:off+(cellsOf u).length≤cells.length) (ht:tab.cells t=ä (cellsOf u).length) :
  Ok P B R J o a c (c.heap.set k (.box (dh cells off (cellsOf u)))) .unk:=by
 obtain⟨hr,h1c⟩:=oP hy hu;obtain⟨cs,hk',e⟩:=hx;obtain⟨g,t',h1,h2,h3⟩:=qi hi hk;obtain⟨i,z,d,j,T,_⟩:=tk.cells t _ ht;have r:=h2.length;have f:=hr.length;have C:off+0+(a.eval y).cells.toList.length≤g.size:=by rw[←f];simp at r;omega
 have l:=akI (P:=P) (c.kd k) off t' (a.eval y).cells.toList 0 g c.w h1 C h1c;obtain⟨hI,hE⟩:=hi.setBox (cells':=dh cells off (cellsOf u)) (arr':=(g.toList.take off++(a.eval y).cells.toList++g.toList.drop (off+(a.eval y).cells.toList.length)).toArray) hk h1 (by
  have:=((h2.take off).append hr).append (h2.drop (off+(cellsOf u).length));rw[f]at this;unfold dh;rw[f];simpa using this)
 intro K Q h;have p:(ê a.eval o).run P c.w = .ok .skip (c.w.setRow (c.kd k) (g.toList.take off++(a.eval y).cells.toList++g.toList.drop (off+(a.eval y).cells.toList.length)).toArray):=by
  unfold ê;simp at e;have U:(a.eval y).cells.size=i.size:=by rw[T,f];simp
  simp at l;simp[ho,e,Instr.storeAt,Instr.sureAddr,storeVar,sizeOf,typeInfo,j,U,l]
 unfold Oper.wp;rw[p];exact h undef _ rfl hI hE ⟨_,rfl⟩
def AT (T:Inv B R J c)(g:TabOk P tab){s:é}{f:Nat}(p:o.op = .fieldAddr s x f){d:Nat}(l:RA c (.box k off) [a.eval x])(U:tab.si s f=ä d) :
  Ok P B R J o a c c.heap (.box k (off+d)):=by
 obtain⟨cs,r,e⟩:=l;obtain⟨fs,fl,j,h1,h2,h3,h4,h5⟩:=g.si s f d U;refine aA T (v :=.pointer (ä ⟨c.kd k,off+d,ö⟩)) ?_ ⟨cs,r,rfl⟩;unfold ê;simp at e;have C:¬j.size=0:=Ω
 simp[p,e,Instr.fieldAt,η h1,h2,Instr.sureAddr,fieldPlace,sizeOf,typeInfo,h4,C,cV,h3]
end
end Abs
namespace Abs
open Go Go.RowKit
def mq:List Ty→Nat→Nat
 |a::r,i+1=>a.size+mq r i
 |_,_=>0
def FOk.at {ty:é→Option Ty}:∀{fs:List Field} {as:List Ty} {off i:Nat} {b:Ty},FOk ty fs as off→as[i]? = ä b →
  ∃f,fs[i]? = ä f∧(∃b',ty f.type=ä b'∧b'.size=b.size∧b'.an=b.an)∧f.offset=off+mq as i∧0<b.size∧f.name ≠ "_"
 |[],[],_,_,_,_,h=>by simp at h
 |f::fs,x::as,off,i,b,h,hi=>by
  obtain⟨h1,h2,h3,h4,h5⟩:=h;cases i with
  |zero=>simp at hi;subst hi;exact⟨f,rfl,(let ⟨b',q1,q2,q3,_⟩:=h1;⟨b',q1,q2,q3⟩),by simpa[mq]using h2,h3,h4⟩
  |succ i =>simp at hi;obtain⟨g,g1,g2,g3,g4⟩:=FOk.at h5 hi;exact⟨g,by simpa using g1,g2,by rw[g3];simp[mq];omega,g4⟩
def E8 {w:æ}{St:Sb}:∀{t:Ty} {x:t.den} {i:Nat} {g:Ty} {y:g.den} {C:List ø},pE t x i=ä ⟨g,y⟩→Rep w St (toD t x) C →
  t.fields[i]? = ä g∧Rep w St (toD g y) ((C.drop (mq t.fields i)).take g.size)
 |.cons a b,x,0,g,y,C,h,r=>by simp only[pE]at h;injection h with h;injection h with l j;subst l;have j:=akD j;subst j;obtain⟨c1,c2,rfl,r1,U⟩:=r;refine⟨rfl, ?_⟩;simp[mq,Ty.fields];rw[←r1.size,R?];exact r1
 |.cons a b,x,i+1,g,y,C,h,r=>by simp[pE]at h;obtain⟨c1,c2,rfl,r1,U⟩:=r;obtain⟨l,j⟩:=E8 h U;refine⟨by simpa[Ty.fields]using l, ?_⟩;simp[mq,Ty.fields];rw[←r1.size,g?];exact j
 |.tree,.mk k t ls ks,i,g,y,C,h,r=>by
  simp[toD,sn]at r;obtain⟨c1,c2,rfl,l,c3,c4,rfl,j,c5,c6,rfl,h3,c7,c8,rfl,h4,J⟩:=r;have J:c8=[]:=J;subst J;have T:=l;obtain⟨rfl,o1⟩:=l;have R:=j;obtain⟨rfl,o2⟩:=j;have P:=h3;obtain⟨A,n,cp,rfl,_⟩:=h3;have p:=h4;obtain⟨A',n',cp',rfl,_⟩:=h4;match i with
  |0=>simp only[pE]at h;injection h with h;injection h with e1 f;subst e1;have f:=akD f;subst f;exact⟨rfl,T⟩
  |1=>simp only[pE]at h;injection h with h;injection h with e1 f;subst e1;have f:=akD f;subst f;exact⟨rfl,R⟩
  |2=>simp only[pE]at h;injection h with h;injection h with e1 f;subst e1;have f:=akD f;subst f;exact⟨rfl,P⟩
  |3=>simp only[pE]at h;injection h with h;injection h with e1 f;subst e1;have f:=akD f;subst f;rw[iH]at p;exact⟨rfl,p⟩
  |i+4=>simp[pE]at h
 |.int _,_,_,_,_,_,h,_=>by simp[pE]at h
 |.bool,_,_,_,_,_,h,_=>by simp[pE]at h
 |.str,_,_,_,_,_,h,_=>by simp[pE]at h
 |.slice _,_,_,_,_,_,h,_=>by simp[pE]at h
 |.unit,_,_,_,_,_,h,_=>by simp[pE]at h
def tu {t:Ty}{x:t.den}{i:Nat}{y:(f:Ty)×f.den}(h:pE t x i=ä y):t.an=true:=by
 cases t <;> first|rfl|simp[pE]at h
section
variable {P:å}{tab:Tab}{B:Bd}{C:æ}{p:Sb}{c:Gh}{o:ë}{a:Act}
variable{x y:è}{f:Nat}{τ:Ty}{t:é}{s:AV}{tt:Option Ty}{v:ø}{l:Str}{k:IntKind}{n:Int}{op:BinOp}{cl:Call}
def AS (hi:Inv B C p c)(tk:TabOk P tab){s:é}(ho:o.op = .fieldAddr s x f){g :Ty}{z:τ.den}{y:g.den}(hx:RA c (.ref τ z) [a.eval x])(ht:tab.ty s=ä τ)(hp:pE τ z f=ä ⟨g,y⟩) :
  Ok P B C p o a c c.heap (.ref g y):=by
 obtain⟨ad,ds,e,hs,hd,hc⟩:=hx;obtain⟨i,zz,_,_,_,_,_,_,l⟩:=tk.ty s τ ht;obtain⟨fs,h1,_,_,hf⟩:=fY (tu hp) l;obtain⟨T,r⟩:=E8 hp hd;obtain⟨fl,h2,⟨R,h3,U,_⟩,h4,h5,_⟩:=hf.at T;obtain⟨j,_,hj,J,_⟩:=tk.ty fl.type R h3;rw[U]at J;simp at h4;refine aA hi (v :=.pointer (ä (ad.add fl.offset))) ?_ ⟨_,_,rfl,(gM ad hs _).2.2,r,λk u l=>?_⟩
 ·unfold ê;simp at e;have hz:¬g.size=0:=Ω
  have h2:fs[f]? = ä fl:=by simpa using h2
  simp[ho,e,Instr.fieldAt,η h1,h2,Instr.sureAddr,fieldPlace,sizeOf,typeInfo,hj,J,hz]
 ·have hk:ds[mq τ.fields f+k]? = ä u:=by
   rw[b_]at l;split at l
   ·rwa[o_]at l
   ·cases l
  obtain⟨g1,g2⟩:=hc _ _ hk;obtain⟨f1,f2,_⟩:=gM ad hs fl.offset;rw[DJ,f1,f2,h4,A_];exact⟨g1,g2⟩
def EI (R:TabOk P tab){j:Ty}(T:tab.ty t=ä j)(J:j.size=τ.size)(C:j.an=τ.an)(w:æ){St:Sb}{x:τ.den}(g:Array ø)(f:Nat)(l:Rep w St (toD τ x) ((g.toList.drop f).take τ.size)) :
  ∃v,(part t g f).run P w = .ok v w∧RepV w St τ x v:=by
 simp[part,π,cF R T,C];cases r:τ.an with
 |true =>simp only[i?,π,aH R T,χ,J];refine⟨_,rfl, ?_⟩;refine fG l ?_;simp[r];congr 1;apply D_;simp
 |false=>
  have h1:=qV r;have U:=l.size;rw[h1]at U l;have p:f<g.size:=by simp at U;omega
  have e:(g.toList.drop f).take 1=[g[f]]:=by rw[alG (by simpa using p)];simp
  rw[e]at l;have hg:g[f]? = ä g[f]:=by simp[p]
  refine⟨g[f], ?_,(repv_cell r).2 l⟩;simp[hg]
def aaC (hi:Inv B C p c)(tk:TabOk P tab){s:é}(ho:o.op = .field s x f){g :Ty}{z:τ.den}{y:g.den}(hx:RA c (.val τ z) [a.eval x])(ht:tab.ty s=ä τ)(J:pE τ z f=ä ⟨g,y⟩) :
  Ok P B C p o a c c.heap (.val g y):=by
 have j:=hx.ey;unfold RepV at j;rw[Θ (tu J)]at j;obtain⟨cs,e,hr⟩:=j;obtain⟨i,zz,_,_,_,_,_,_,hu⟩:=tk.ty s τ ht;obtain⟨fs,h1,_,_,hf⟩:=fY (tu J) hu;obtain⟨R,r⟩:=E8 J hr;obtain⟨fl,h2,⟨τb,h3,U,T⟩,h4,h5,_⟩:=hf.at R;simp at h4;obtain⟨v,l,j⟩:=EI tk h3 U T c.w cs.toArray fl.offset (by rw[h4];exact r);refine aA hi (v:=v) ?_ ⟨v,rfl,j⟩;unfold ê;have h2:fs[f]? = ä fl:=by simpa using h2
 simp[ho,e,Instr.field,η h1,h2,asAgg,l]
def ga {l:List τ.den}(h:yF tt s=ä ⟨τ,l⟩)(r:RA c s [v]):tt=ä (.slice τ)∧RepV c.w c.St (.slice τ) l v:=by
 unfold yF at h;split at h
 next t=>
  split at h
  next l' g=>injection h with h;injection h with h1 f;subst h1;have f:=akD f;subst f;exact⟨rfl,one?_sound g r⟩
  ·cases h
 ·cases h
def sV (h:yC tt s=ä l)(r:RA c s [v]):tt=ä .str∧v = .string ⟨l.toArray⟩:=by
 unfold yC at h;split at h
 ·exact⟨rfl,yQ (one?_sound h r)⟩
 ·cases h
def Lj (hi:Inv B C p c)(tk:TabOk P tab)(ho:o.op = .indexAddr t x y)(hx:RA c s [a.eval x])(hy:RA c (.val (.int k) n) [a.eval y]){l:List τ.den}
  (hl:yF (tab.ty t) s=ä ⟨τ,l⟩) (h0:0≤n) (h1:n<(l.length:Int)):Ok P B C p o a c c.heap (.ref τ (l.getD n.toNat (zero τ))):=by
 obtain⟨ht,hv⟩:=ga hl hx;obtain⟨i,z,_,_,_,_,_,_,f⟩:=tk.ty t _ ht;obtain⟨e,he,U,_,hpos⟩:=f;have hr:=(repv_cell (t :=.slice τ) rfl).1 hv;obtain⟨A,cp,ev,hcap,hds⟩:=dV hr;have hn:n.toNat<l.length:=Ω
 obtain⟨ad,ds,rfl,r,J,g⟩:=hds.resolve_left Ω;have hei:=qh J n.toNat hn;have R:l.getD n.toNat (zero τ)=l[n.toNat]:=by simp[List.getD,ζ hn]
 refine aA hi (v :=.pointer (ä (ad.add (n.toNat*τ.size)))) ?_ ⟨_,_,rfl,(gM ad r _).2.2,by rw[R];exact hei,λj u f=>?_⟩
 ·unfold ê;have T:=eh hy.ey;simp at ev;simp[ho,T,ev,Instr.indexAt,asIntOf,η he,h0,h1,aH tk U]
 ·rw[b_]at f;split at f
  ·rw[o_]at f;obtain⟨g1,g2⟩:=g _ _ f;obtain⟨f1,f2,_⟩:=gM ad r (n.toNat*τ.size);rw[DJ,f1,f2,A_];exact⟨g1,g2⟩
  ·cases f
def Lh (hi:Inv B C p c)(J:TabOk P tab)(ho:o.op = .index t x y)(T:RA c s [a.eval x])(R:RA c (.val (.int k) n) [a.eval y])
  (hl:yC (tab.ty t) s=ä l) (h0:0≤n) (h1:n<(l.length:Int)):Ok P B C p o a c c.heap (.val (.int .u8) ((l.getD n.toNat 0).toNat:Int)):=by
 obtain⟨ht,U⟩:=sV hl T;obtain⟨i,z,_,_,_,_,_,_,j⟩:=J.ty t _ ht;have j:P.underlying t=ä .string:=j;have r:n.toNat<l.length:=Ω
 have f:l.getD n.toNat 0=l[n.toNat]:=by simp[List.getD,ζ r]
 rw[f];refine aA hi (v :=.int .u8 (l[n.toNat].toNat:Int)) ?_ (fx _ _);unfold ê;have g:=eh R.ey;have hb:(⟨l.toArray⟩:ByteArray)[n.toNat]? = ä l[n.toNat]:=by rw[getElem?_pos (⟨l.toArray⟩:ByteArray) n.toNat (by simpa[ByteArray.size]using r)];rfl
 simp[ho,g,U,Instr.index,asIntOf,η j,h0,hb]
def bytes_toList (l:Str):(⟨l.toArray⟩:ByteArray).toList=l:=by rw[ByteArray.toList_eq]
def rY (m n:Int):(m == n)=decide (m=n):=by by_cases h:m=n <;> simp[h]
def Sn (l:Inv B C p c){R J:é}(j:o.op = .binOp op R x y J){m:Int}(U:RA c (.val (.int k) m) [a.eval x])(T:RA c (.val (.int k) n) [a.eval y]){v:AV}
  (h:ST op k m n=ä (ü,v)):Ok P B C p o a c c.heap v:=by
 have g:=eh U.ey;have f:=eh T.ey;cases op <;> simp only[ST]at h <;> first|(cases h;done)|skip
 all_goals (injection h with h;injection h with r h;subst h)
 case quo=>
  have r:¬n=0:=by simpa using r
  refine aA l ?_ (fx _ _);unfold ê;simp[j,g,f,ï,binOp,Op.intDiv,r]
 case rem=>
  have r:¬n=0:=by simpa using r
  refine aA l ?_ (fx _ _);unfold ê;simp[j,g,f,ï,binOp,Op.intDiv,r]
 case add=>refine aA l ?_ (fx _ _);unfold ê;simp[j,g,f,ï,binOp,Op.intArith]
 case sub=>refine aA l ?_ (fx _ _);unfold ê;simp[j,g,f,ï,binOp,Op.intArith]
 case mul=>refine aA l ?_ (fx _ _);unfold ê;simp[j,g,f,ï,binOp,Op.intArith]
 case eql=>refine aA l ?_ (dF _);unfold ê;simp[j,g,f,ï,binOp,Op.intCmp,rY]
 case neq=>refine aA l ?_ (dF _);unfold ê;simp[j,g,f,ï,binOp,Op.intCmp,bne,rY]
 case lss=>refine aA l ?_ (dF _);unfold ê;simp[j,g,f,ï,binOp,Op.intCmp]
 case leq=>refine aA l ?_ (dF _);unfold ê;simp[j,g,f,ï,binOp,Op.intCmp]
 case gtr=>refine aA l ?_ (dF _);unfold ê;simp[j,g,f,ï,binOp,Op.intCmp]
 case geq=>refine aA l ?_ (dF _);unfold ê;simp[j,g,f,ï,binOp,Op.intCmp]
def OD (r:Inv B C p c){R J:é}(l:o.op = .binOp op R x y J){T :IntKind}{m:Int}(hx:RA c (.val (.int k) m) [a.eval x])(U:RA c (.val (.int T) n) [a.eval y])(j:0≤n) :
  (op = .shl→Ok P B C p o a c c.heap (.val (.int k) (ZU k m n)))∧(op = .shr→Ok P B C p o a c c.heap (.val (.int k) (ZT k m n))):=by
 have g:=eh hx.ey;have f:=eh U.ey;have j:¬n<0:=Ω
 refine⟨λe=>?_,λe=>?_⟩
 ·subst e;refine aA r ?_ (fx _ _);unfold ê;simp[l,g,f,ï,binOp,Op.shift,j,ZU]
 ·subst e;refine aA r ?_ (fx _ _);unfold ê;simp[l,g,f,ï,binOp,Op.shift,j,ZT]
def OJ (U:Inv B C p c)(j:TabOk P tab){s:é}(T:o.op = .convert s t x){l :IntKind}(r:RA c (.val (.int l) n) [a.eval x])(J:tab.ty t=ä (.int k))(R:∃d,P.underlying s=ä d) :
  Ok P B C p o a c c.heap (.val (.int k) (k.wrap n)):=by
 have f:=eh r.ey;obtain⟨i,z,_,_,_,_,_,_,g⟩:=j.ty t _ J;have g:P.underlying t=ä (.int k):=g;obtain⟨d,hd⟩:=R;refine aA U ?_ (fx _ _);unfold ê;simp[T,f,convert,η g,η hd,Conv.intToInt]
def ahu (l:Inv B C p c)(j:o.op = .unOp .not t x){b:Bool}(g:RA c (.val .bool b) [a.eval x]):Ok P B C p o a c c.heap (.val .bool (!b)):=by have f:=fF g.ey;refine aA l ?_ (dF _);unfold ê;simp[j,f,Op.unary]
def ahA (hi:Inv B C p c)(r:TabOk P tab)(ho:o.op = .call cl)(j:cl.callee = .builtin .len)(f:cl.args = #[x])(g:cl.argTypes[0]? = ä t)(J:RA c s [a.eval x]){l:List τ.den}
  (hl:yF (tab.ty t) s=ä ⟨τ,l⟩):Ok P B C p o a c c.heap (.val (.int .i64) (l.length:Int)):=by
 obtain⟨U,R⟩:=ga hl J;obtain⟨i,z,_,_,_,_,_,_,T⟩:=r.ty t _ U;obtain⟨e,he,_⟩:=T;obtain⟨A,cp,ev,_⟩:=dV ((repv_cell (t :=.slice τ) rfl).1 R);refine aA hi ?_ (fx _ _);unfold ê;simp at ev;simp[ho,resolve,j,f,invoke,builtin,Builtin.len_,g,ev,η he,goInt]
def Si (hi:Inv B C p c)(R:TabOk P tab)(ho:o.op = .call cl)(J:cl.callee = .builtin .len)(f:cl.args = #[x])(j:cl.argTypes[0]? = ä t)(T:RA c s [a.eval x])
  (hl:yC (tab.ty t) s=ä l):Ok P B C p o a c c.heap (.val (.int .i64) (l.length:Int)):=by
 obtain⟨ht,U⟩:=sV hl T;obtain⟨i,z,_,_,_,_,_,_,g⟩:=R.ty t _ ht;have g:P.underlying t=ä .string:=g;refine aA hi ?_ (fx _ _);unfold ê;have r:(⟨l.toArray⟩:ByteArray).size=l.length:=by simp[ByteArray.size]
 simp[ho,resolve,J,f,invoke,builtin,Builtin.len_,j,U,η g,goInt,r]
end
end Abs
namespace Abs
open Go Go.RowKit
section
variable {P:å}{tab:Tab}{B:Bd}{j:æ}{g:Sb}{c:Gh}{o:ë}{a:Act}
def bb?_sound {t:Ty}{u:AV}{x:t.den}{v:ø}(h:bb? t u=ä x)(r:RA c u [v]):RepV c.w c.St t x v:=by
 cases u with
 |agg p=>
  simp only[bb?]at h;split at h
  next hs=>obtain⟨j,e,f,g,_⟩:=r;simp at e;subst e;unfold RepV;rw[Θ hs];exact⟨j,rfl,ql h (f.parts g)⟩
  ·cases h
 |_=>simp[bb?]at h;exact one?_sound h r
def ut (a b:Str):(a == b)=decide (a=b):=by by_cases h:a=b <;> simp[h]
variable{op:BinOp}
def Sm (r:Inv B j g c){J C:é}{x y:è}(p:o.op = .binOp op J x y C){m n:Str}(T:RA c (.val .str m) [a.eval x])(R:RA c (.val .str n) [a.eval y]){tt:Option Ty}{v:AV}
  (h:ur op tt (.val .str m) (.val .str n)=ä (ü,v)):Ok P B j g o a c c.heap v:=by
 have l:=yQ T.ey;have f:=yQ R.ey;cases op <;> simp only[ur]at h <;> first|(cases h;done)|skip
 all_goals (injection h with h;injection h with hc h;subst h)
 case eql=>refine aA r ?_ (dF _);unfold ê;simp[p,l,f,ï,binOp,Op.stringOp,ut]
 case neq=>refine aA r ?_ (dF _);unfold ê;simp[p,l,f,ï,binOp,Op.stringOp,ut]
def OK (J:Inv B j g c)(U:TabOk P tab){f T:é}{x y:è}(C:o.op = .binOp op f x y T){m n:Bool}(hx:RA c (.val .bool m) [a.eval x])(hy:RA c (.val .bool n) [a.eval y]){v:AV}
  (h:ur op (tab.ty f) (.val .bool m) (.val .bool n)=ä (ü,v)):Ok P B j g o a c c.heap v:=by
 have p:=fF hx.ey;have l:=fF hy.ey;simp only[ur]at h;split at h
 next ht=>
  obtain⟨i,z,_,_,_,_,_,_,r⟩:=U.ty f _ ht;have r:P.underlying f=ä .bool:=r;have R:(m == n)=decide (m=n):=by cases m <;> cases n <;> rfl
  cases op <;> simp only at h <;> first|(cases h;done)|skip
  all_goals (injection h with h;injection h with hc h;subst h)
  case eql=>refine aA J ?_ (dF _);unfold ê;simp[C,p,l,ï,binOp,run_equal_bool c.w f m n r,R]
  case neq=>refine aA J ?_ (dF _);unfold ê;simp[C,p,l,ï,binOp,run_equal_bool c.w f m n r,R]
 ·cases h
def ud:∀{t:Ty},t.fu=ü→t.j5=ü
 |.int _,_|.bool,_|.str,_|.unit,_|.tree,_=>rfl
 |.slice _,h|.jsl _,h=>by simp[Ty.fu]at h
 |.cons a b,h=>by simp[Ty.fu]at h;simp[Ty.j5,ud h.1.1,ud h.1.2]
def eqT (tk:TabOk P tab){w:æ}{St:Sb}:∀(τ:Ty),
  (∀(j:List Field) (g:Nat) (p l:Array ø) (x y:τ.den) (d:Nat),FOk tab.ty j τ.fields g→τ.fu=ü→τ.an=ü→τ.dep≤d+1→Rep w St (toD τ x) (p.toList.drop g)→Rep w St (toD τ y) (l.toList.drop g) →
   (Op.eqFields d p l j).run P w = .ok (eqD τ x y) w) ∧
  (∀(t:é) (d:Nat) (x y:τ.den) (vx vy:ø),tab.ty t=ä τ→τ.fu=ü→τ.dep≤d→RepV w St τ x vx→RepV w St τ y vy→(Op.equalIn d t vx vy).run P w = .ok (eqD τ x y) w):=by
 intro τ;have lift:∀(τ:Ty),τ.an=ü→(∀(j:List Field) (g:Nat) (p l:Array ø) (x y:τ.den) (d:Nat),FOk tab.ty j τ.fields g→τ.fu=ü→τ.an=ü→τ.dep≤d+1→Rep w St (toD τ x) (p.toList.drop g)→Rep w St (toD τ y) (l.toList.drop g) →
   (Op.eqFields d p l j).run P w = .ok (eqD τ x y) w)→τ.dep≥1 →
   (∀(t:é) (d:Nat) (x y:τ.den) (vx vy:ø),tab.ty t=ä τ→τ.fu=ü→τ.dep≤d→RepV w St τ x vx→RepV w St τ y vy→(Op.equalIn d t vx vy).run P w = .ok (eqD τ x y) w):=by
  intro τ hs hB hd1 t d x y vx vy ht hf U J C;obtain⟨i,z,_,_,_,_,_,_,R⟩:=tk.ty t τ ht;obtain⟨j,h1,h2,_,h3⟩:=fY hs R;unfold RepV at J C;rw[Θ hs]at J C;obtain⟨cs,rfl,J⟩:=J;obtain⟨cs',rfl,C⟩:=C;obtain⟨r,rfl⟩:∃r,d=r+1:=⟨d-1,Ω⟩;have hfo:P.fieldsOf t=j:=by simp[Program.fieldsOf,h1]
  rw[run_equalIn_struct w r t _ _ (by rw[hfo];exact h1) h2,hfo];exact hB j.toList 0 _ _ x y r h3 hf hs U (by simpa using J) (by simpa using C)
 induction τ with
 |int k =>refine⟨λ_ _ _ _ _ _ _ _ _ h=>by simp[Ty.an]at h,λt d x y vx vy ht _ U J C=>?_⟩;obtain⟨i,z,_,_,_,_,_,_,R⟩:=tk.ty t _ ht;have R:P.underlying t=ä (.int k):=R;obtain⟨r,rfl⟩:∃r,d=r+1:=⟨d-1,by simp[Ty.dep]at U;omega⟩;rw[eh J,eh C,alw w r t k k x y R];simp[eqD];rw[show(x == y)=decide (x=y) from rY x y]
 |bool=>
  refine⟨λ_ _ _ _ _ _ _ _ _ h=>by simp[Ty.an]at h,λt d x y vx vy ht _ U J C=>?_⟩;obtain⟨i,z,_,_,_,_,_,_,R⟩:=tk.ty t _ ht;have R:P.underlying t=ä .bool:=R;obtain⟨r,rfl⟩:∃r,d=r+1:=⟨d-1,by simp[Ty.dep]at U;omega⟩;rw[fF J,fF C,aln w r t x y R];have U:(x == y)=decide (x=y):=by cases x <;> cases y <;> rfl
  simp[eqD,U]
 |str =>refine⟨λ_ _ _ _ _ _ _ _ _ h=>by simp[Ty.an]at h,λt d x y vx vy ht _ U J C=>?_⟩;obtain⟨i,z,_,_,_,_,_,_,R⟩:=tk.ty t _ ht;have R:P.underlying t=ä .string:=R;obtain⟨r,rfl⟩:∃r,d=r+1:=⟨d-1,by simp[Ty.dep]at U;omega⟩;rw[yQ J,yQ C,ak8 w r t _ _ R,bytes_toList,bytes_toList];simp[eqD];rw[show(List.instBEq.beq x y)=decide (x=y) from ut x y]
 |slice t ih=>exact⟨λ_ _ _ _ _ _ _ _ h=>by simp[Ty.fu]at h,λ_ _ _ _ _ _ _ h=>by simp[Ty.fu]at h⟩
 |tree=>exact⟨λ_ _ _ _ _ _ _ _ h=>by simp[Ty.fu]at h,λ_ _ _ _ _ _ _ h=>by simp[Ty.fu]at h⟩
 |jsl e=>exact⟨λ_ _ _ _ _ _ _ _ h=>by simp[Ty.fu]at h,λ_ _ _ _ _ _ _ h=>by simp[Ty.fu]at h⟩
 |unit=>
  have hB:∀(j:List Field) (g:Nat) (p l:Array ø) (x y:Ty.unit.den) (d:Nat),FOk tab.ty j Ty.unit.fields g→Ty.unit.fu=ü→Ty.unit.an=ü→Ty.unit.dep≤d+1→Rep w St (toD .unit x) (p.toList.drop g)→Rep w St (toD .unit y) (l.toList.drop g) →
    (Op.eqFields d p l j).run P w = .ok (eqD .unit x y) w:=by
   intro j g p l x y d hf _ _ _ _ _;cases j with
   |nil=>simp[Op.eqFields,eqD]
   |cons f j=>exact hf.elim
  exact⟨hB,lift .unit rfl hB (by simp[Ty.dep])⟩
 |cons A Bt ihA ihB=>
  have hB:∀(j:List Field) (g:Nat) (p l:Array ø) (x y:(Ty.cons A Bt).den) (d:Nat),FOk tab.ty j (Ty.cons A Bt).fields g→(Ty.cons A Bt).fu=ü→(Ty.cons A Bt).an=ü→(Ty.cons A Bt).dep≤d+1 →
    Rep w St (toD (.cons A Bt) x) (p.toList.drop g)→Rep w St (toD (.cons A Bt) y) (l.toList.drop g)→(Op.eqFields d p l j).run P w = .ok (eqD (.cons A Bt) x y) w:=by
   intro j g p l x y d hf T _ U J C;cases j with
   |nil=>exact hf.elim
   |cons f j=>
    obtain⟨f1,f2,f3,f4,f5⟩:=hf;obtain⟨c1,c2,e1,r1,r2⟩:=J;obtain⟨k1,k2,e2,s1,s2⟩:=C;simp[Ty.fu]at T;simp[Ty.dep]at U;obtain⟨Ab,f1,_,_,q3⟩:=f1;rw[q3 (ud T.1.1)]at f1;obtain⟨va,hva,rva⟩:=EI (P:=P) tk f1 rfl rfl w (x:=x.1) p f.offset (by rw[f2,e1,←r1.size,R?];exact r1);obtain⟨vb,hvb,rvb⟩:=EI (P:=P) tk f1 rfl rfl w (x:=y.1) l f.offset (by rw[f2,e2,←s1.size,R?];exact s1);have hA:=ihA.2 f.type d x.1 y.1 va vb f1 T.1.1 Ω rva rvb;have d1:p.toList.drop (g+A.size)=c2:=by rw[←List.drop_drop,e1,←r1.size];simp
    have d2:l.toList.drop (g+A.size)=k2:=by rw[←List.drop_drop,e2,←s1.size];simp
    have hr:(Op.eqFields d p l j).run P w = .ok (eqD Bt x.2 y.2) w:=ihB.1 j (g+A.size) p l x.2 y.2 d f5 T.1.2 T.2 Ω (by rw[d1];exact r2) (by rw[d2];exact s2);simp[Op.eqFields,f4,π,hva,hvb,hA,eqD];cases eqD A x.1 y.1 with
    |false=>simp
    |true=>simp[hr]
  exact⟨hB,lift (.cons A Bt) rfl hB (by simp[Ty.dep];omega)⟩
end
end Abs
namespace Abs
open Go Go.RowKit
section
variable {P:å}{tab:Tab}{B:Bd}{J:æ}{C:Sb}{c:Gh}{o:ë}{a:Act}
def Hz (hi:Inv B J C c)(tk:TabOk P tab){op:BinOp}{l ty:é}{x y:è}(ho:o.op = .binOp op l x y ty){U V p:Ty}{m:(Ty.cons U V).den}{n:p.den}(hx:RA c (.val (.cons U V) m) [a.eval x])(hy:RA c (.val p n) [a.eval y]){v:AV}
  (h:ur op (tab.ty l) (.val (.cons U V) m) (.val p n)=ä (ü,v)):Ok P B J C o a c c.heap v:=by
 simp only[ur]at h;split at h
 next ht=>
  split at h
  next hfe=>
   simp at hfe;split at h
   ·rename_i n' j;obtain⟨e,j⟩:=cast?_some j;subst e;have j:n'=n:=j;subst j;obtain⟨i,z,_,_,_,_,_,_,hu⟩:=tk.ty l _ ht;obtain⟨fs,h1,h2,h3,_⟩:=fY (τ :=.cons U V) rfl hu;have r:=(eqT (P:=P) tk (w:=c.w) (St:=c.St) (.cons U V)).2 l 10000 m _ _ _ ht hfe.1 hfe.2 hx.ey hy.ey;have g:=hx.ey;have f:=hy.ey;unfold RepV at g f;rw[Θ (show(Ty.cons U V).an=ü from rfl)]at g f;obtain⟨cs,T,_⟩:=g;obtain⟨cs',R,_⟩:=f;rw[T,R]at r;cases op <;> simp only at h <;> first|(cases h;done)|skip
    all_goals (injection h with h;injection h with hc h;subst h)
    case eql=>refine aA hi ?_ (dF _);unfold ê;simp[ho,T,R,ï,h3,p?,binOp,Op.equal,Op.maxDepth,r]
    case neq=>refine aA hi ?_ (dF _);unfold ê;simp[ho,T,R,ï,h3,p?,binOp,Op.equal,Op.maxDepth,r]
   ·cases h
  ·cases h
 ·cases h
def mz (f:Nat):∀(g:List ø) (k:Nat) (cells:Array ø),f+k+g.length≤cells.size →
  ((g.zipIdx k).foldl (λp (x:ø×Nat)=>p.setIfInBounds (f+x.2) x.1) cells).toList=cells.toList.take (f+k)++g++cells.toList.drop (f+k+g.length)
 |[],k,cells,_=>by simp
 |v::g,k,cells,h=>by
  simp;simp at h;rw[mz f g (k+1) _ Ξ];have j:f+k<cells.toList.length:=by simp;omega
  simp;rw[show f+(k+1)=f+k+1 by omega,show f+k+1+g.length=f+k+(g.length+1)by omega,List.take_set,List.drop_set_of_lt Ω,
   N' j,alX _ _ Ξ]
  have l:min (f+k) cells.size=f+k:=Ω
  simp[l]
def iO (off:Nat)(v:ø)(cells:Array ø)(h:off+v.cells.size≤cells.size) :
  (v.cells.zipIdx.foldl (λf (x:ø×Nat)=>f.setIfInBounds (off+x.2) x.1) cells).toList=cells.toList.take off++v.cells.toList++cells.toList.drop (off+v.cells.size):=by
 rw[←Array.foldl_toList,Array.toList_zipIdx];have:=mz off v.cells.toList 0 cells (by simpa using h);simpa using this
def NP:∀{t:Ty} {x y:t.den} {i:Nat} {u:AV} {v:ø} {T:List ø},xw t x i u=ä y→RA c u [v]→Rep c.w c.St (toD t x) T →
  ∃A,t.fields[i]? = ä A∧v.cells.size=A.size∧mq t.fields i+A.size≤T.length∧Rep c.w c.St (toD t y) (T.take (mq t.fields i)++v.cells.toList++T.drop (mq t.fields i+A.size))
 |.cons A Bt,x,y,0,u,v,T,h,l,r=>by
  simp[xw]at h;split at h
  next z j=>cases h;obtain⟨c1,c2,rfl,r1,r2⟩:=r;have f:=(bb?_sound j l).cells;have g:=f.size;refine⟨A,rfl,by simpa using g,by simp[mq,Ty.fields,r1.size], ?_⟩;simp[mq,Ty.fields];rw[←r1.size,akF];exact⟨_,_,rfl,f,r2⟩
  ·cases h
 |.cons A Bt,x,y,i+1,u,v,T,h,l,r=>by
  simp[xw]at h;split at h
  next z j=>cases h;obtain⟨c1,c2,rfl,r1,r2⟩:=r;obtain⟨A',h1,h2,h3,h4⟩:=NP j l r2;refine⟨A',by simpa[Ty.fields]using h1,h2,by simp[mq,Ty.fields,r1.size];omega, ?_⟩;simp[mq,Ty.fields];rw[←r1.size,A_,akC,g?];exact⟨c1,_,Ψ,r1,h4⟩
  ·cases h
 |.tree,.mk k t ls ks,y,i,u,v,T,h,l,r=>by
  simp[toD,sn]at r;obtain⟨c1,c2,rfl,h1,c3,c4,rfl,h2,c5,c6,rfl,h3,c7,c8,rfl,h4,h5⟩:=r;have h5:c8=[]:=h5;subst h5;have R:=h1;obtain⟨rfl,o1⟩:=h1;have P:=h2;obtain⟨rfl,o2⟩:=h2;have J:=h3;obtain⟨A1,n,cp,rfl,_⟩:=h3;have C:=h4;obtain⟨A2,n',cp',rfl,_⟩:=h4;match i with
  |0=>
   simp[xw]at h;split at h
   next z j=>cases h;have f:=(bb?_sound j l).cells;have g:=f.size;obtain⟨e,p⟩:=V?.1 g;rw[p]at f⊢;exact⟨_,rfl,by simpa using g,by simp[mq,Ty.fields,Ty.size],⟨[e],_,rfl,f,[_],_,rfl,P,[_],_,rfl,J,[_],_,rfl,C,rfl⟩⟩
   ·cases h
  |1=>
   simp[xw]at h;split at h
   next z j=>cases h;have f:=(bb?_sound j l).cells;have g:=f.size;obtain⟨e,p⟩:=V?.1 g;rw[p]at f⊢;exact⟨_,rfl,by simpa using g,by simp[mq,Ty.fields,Ty.size],⟨[_],_,rfl,R,[e],_,rfl,f,[_],_,rfl,J,[_],_,rfl,C,rfl⟩⟩
   ·cases h
  |2=>
   simp[xw]at h;split at h
   next z j=>cases h;have f:=(bb?_sound j l).cells;have g:=f.size;obtain⟨e,p⟩:=V?.1 g;rw[p]at f⊢;exact⟨_,rfl,by simpa using g,by simp[mq,Ty.fields,Ty.size],⟨[_],_,rfl,R,[_],_,rfl,P,[e],_,rfl,f,[_],_,rfl,C,rfl⟩⟩
   ·cases h
  |3=>
   simp[xw]at h;split at h
   ·rename_i z j;cases h;have f:=(bb?_sound j l).cells;have g:=f.size;have U:Rep c.w c.St (.sl (sN z)) v.cells.toList:=by rw[iH];exact f
    obtain⟨e,p⟩:=V?.1 g;rw[p]at U⊢;exact⟨_,rfl,by simpa using g,by simp[mq,Ty.fields,Ty.size],⟨[_],_,rfl,R,[_],_,rfl,P,[_],_,rfl,J,[e],_,rfl,U,rfl⟩⟩
   ·cases h
  |i+4=>simp[xw]at h
 |.int _,_,_,_,_,_,_,h,_,_=>by simp[xw]at h
 |.bool,_,_,_,_,_,_,h,_,_=>by simp[xw]at h
 |.str,_,_,_,_,_,_,h,_,_=>by simp[xw]at h
 |.slice _,_,_,_,_,_,_,h,_,_=>by simp[xw]at h
 |.unit,_,_,_,_,_,_,h,_,_=>by simp[xw]at h
def CC (tk:TabOk P tab){p:Ty}{T:Array Field}(hf:FOk tab.ty T.toList p.fields 0):∀(l:List Nat) (J:List AV) (R:List ø) (x y:p.den) (g:Array ø),l.length=J.length→RAs c J R →
  G9 p (l.zip J) x=ä y→Rep c.w c.St (toD p x) g.toList →
  ∃j,Instr.fill ((T.map λf=>(f.offset,P.cellsOf f.type))[·]?) g (l.zip R)=ä j∧Rep c.w c.St (toD p y) j.toList
 |[],[],[],x,y,g,_,_,h,r=>by cases h;exact⟨g,by simp[Instr.fill],r⟩
 |i::l,u::J,v::R,x,y,g,hl,⟨hu,U⟩,h,r=>by
  simp[G9]at h;split at h
  next z hz=>
   obtain⟨A,h1,h2,h3,h4⟩:=NP hz hu r;obtain⟨fl,g1,⟨Ab,g2,gs,_⟩,g3,g4,_⟩:=hf.at h1;obtain⟨ti,tz,t1,t2,_⟩:=tk.ty fl.type Ab g2;rw[gs]at t2;simp at g3;have C:(T.map λf=>(f.offset,P.cellsOf f.type))[i]? = ä (mq p.fields i,A.size):=by
    have:T[i]? = ä fl:=by simpa using g1
    simp[this,g3,Program.cellsOf,t1,t2]
   have hfc:=iO (mq p.fields i) v g (by rw[h2];simpa using h3);obtain⟨j,e1,e2⟩:=CC tk hf l J R z y (v.cells.zipIdx.foldl (λcs (x:ø×Nat)=>cs.setIfInBounds (mq p.fields i+x.2) x.1) g) (by simpa using hl) U h (by rw[hfc,h2];exact h4);refine⟨j, ?_,e2⟩;simp only[aka,Instr.fill,C];have hno:¬(v.cells.size≠A.size||mq p.fields i+v.cells.size>g.size)=true:=by simp[h2];simpa using h3
   rw[ω hno];exact e1
  ·cases h
def zm (hi:Inv B J C c)(tk:TabOk P tab){t:é}{parts:Array (Nat×è)}(ho:o.op = .build t parts){us:List AV}(hv:RAs c us ((parts.toList.map (·.2)).map a.eval)){R:Ty}(ht:tab.ty t=ä R)(hs:R.an=ü){y:R.den}
  (hy:G9 R ((parts.toList.map (·.1)).zip us) (zero R)=ä y):Ok P B J C o a c c.heap (.val R y):=by
 obtain⟨i,z,h1,h2,h3,h4,_,h5,hu⟩:=tk.ty t R ht;obtain⟨fs,f1,_,_,f2⟩:=fY hs hu;have hl:(parts.toList.map (·.1)).length=us.length:=by rw[hv.length];simp
 obtain⟨T,e1,e2⟩:=CC tk f2 (parts.toList.map (·.1)) us _ (zero R) y z.cells hl hv hy (by rw[h4];exact fB R);have hzip:(parts.toList.map (·.1)).zip ((parts.toList.map (·.2)).map a.eval)=parts.toList.map (λp=>(p.1,a.eval p.2)):=by rw[V_,ak7];rfl
 rw[hzip]at e1;refine aA hi (v :=.agg T) ?_ ⟨_,rfl, ?_⟩
 ·have hm:∀(l:List Field) (w:æ),(∀f∈l,∃j,P.info? f.type=ä j)→(l.mapM (λf=>(do pure (f.offset,←sizeOf f.type):Sem (Nat×Nat)))).run P w = .ok (l.map λf=>(f.offset,P.cellsOf f.type)) w:=by
   intro l;induction l with
   |nil=>intro w _;simp
   |cons f l ih=>
    intro w r;obtain⟨j,hj⟩:=r f Ψ;have h1:(do pure (f.offset,←sizeOf f.type):Sem (Nat×Nat)).run P w = .ok (f.offset,P.cellsOf f.type) w:=by simp[sizeOf,typeInfo,hj,Program.cellsOf]
    rw[akk,π,h1,χ,π,ih w (λg hg=>r g (by simp[hg])),χ];rfl
  have r:∀f∈fs.toList,∃j,P.info? f.type=ä j:=by
   intro f hfm;obtain⟨k,hk,rfl⟩:=ak5 hfm;have hlen:∀{fl:List Field} {as:List Ty} {U:Nat},FOk tab.ty fl as U→fl.length=as.length:=by
    intro fl;induction fl with
    |nil=>intro as U h;cases as with|nil=>rfl|cons _ _=>exact h.elim
    |cons g fl ih=>intro as U h;cases as with|nil=>exact h.elim|cons _ as=>obtain⟨_,_,_,_,h⟩:=h;simp[ih h]
   have hk':k<R.fields.length:=by rw[←hlen f2];exact hk
   obtain⟨fl,g1,⟨_,g2,_⟩,_⟩:=f2.at (ζ hk');rw[ζ hk]at g1;injection g1 with g1;rw[g1];obtain⟨ti,tz,t1,_⟩:=tk.ty fl.type _ g2;exact⟨ti,t1⟩
  have hmA:(fs.mapM (λf=>(do pure (f.offset,←sizeOf f.type):Sem (Nat×Nat)))).run P c.w = .ok (fs.map λf=>(f.offset,P.cellsOf f.type)) c.w:=by have:=hm fs.toList c.w r;rw[H?,akL,π,this,χ];exact l_ (λl=>Result.ok l c.w) (D_ Ψ)
  unfold ê;simp only[ho,Instr.build,zeroValue,typeInfo,π,p?,h1,n_,χ,h3,η f1,hmA];rw[show(parts.map λp=>(p.1,a.eval p.2)).toList=parts.toList.map λp=>(p.1,a.eval p.2)by simp,e1];simp
 ·unfold RepV;rw[Θ hs];exact⟨T.toList,Ψ,e2⟩
end
end Abs
namespace Abs
open Go Go.RowKit
section
variable {P:å}{tab:Tab}{B:Bd}{R:æ}{C:Sb}{c:Gh}{o:ë}{a:Act}
variable{τ:Ty}{e t:é}{ds:List ø}{J:List AV}{n:Nat}
def aeO (P:Inv B R C c){fresh:Nat}(hf:c.heap[fresh]? = ä .none){l:List τ.den}(hr:Rep c.w c.St (chain (toD τ) l) ds)(hm:l.length≤maxLen) :
  ∃T,T.w=c.w.alloc (.cells ds.toArray e)∧T.heap=c.heap.set fresh (.row τ e 0)∧Inv B R C T∧Ev c T∧RA T (.own fresh 0 τ l) [.slice (ä ⟨c.w.heap.size,0,ö⟩) l.length l.length]:=by
 obtain⟨h1,e1⟩:=P.grow (w':=c.w.alloc (.cells ds.toArray e)) (St':=⟨λb o=>c.St b o∨(b=c.w.heap.size∧o<l.length*τ.size),c.St.j⟩) ((Below.refl _ _).alloc (ε _) _) ⟨λ_ _ x=>.inl x,λ_ _ _ _ x=>x⟩
  (λb o x=>x.elim .inl (λx=>.inr ⟨Ω,by rw[x.1];simp⟩)) (ε _) (λ_ _ _ _ x=>.inl x)
 have p:=bv hr;have r:(c.w.alloc (.cells ds.toArray e)).ownsRow B e τ.size (.slice (ä ⟨c.w.heap.size,0,ö⟩) l.length l.length) l.length ds :=
  ⟨p,.inr ⟨c.w.heap.size,l.length,ds.toArray,rfl,P.size,w? c.w _,ε _,hm,by simpa using p,by rw[←p];simp⟩⟩
 obtain⟨h2,U⟩:=h1.addRow (k:=fresh) (n:=l.length) (t:=τ) (e:=e) (s :=.slice (ä ⟨c.w.heap.size,0,ö⟩) l.length l.length) (xs:=ds) hf r
  (λb J o hle x=>by
   simp only[Value.ownBlock,ι]at J;obtain x|x:=x
   ·have:=P.to _ _ x;omega
   ·omega)
  (λk' b J x=>by
   simp only[Value.ownBlock,ι]at J;have:=(jP P (k:=k') x).1;omega)
  (λb J f=>by
   simp only[Value.ownBlock,ι]at J;have:=P.fl b f;omega)
  (λb J e cap n x=>(P.vh b e cap n x).resolve_right λq=>by
   simp only[Value.ownBlock,ι]at J;have:=q.lt;omega)
 refine⟨_,rfl,rfl,h2,e1.trans U,_,rfl,(repv_cell rfl).2 ?_,τ,e,0, ?_,ε _,λ_=>?_⟩
 ·refine⟨_,_,_,rfl,(len_chain _ _).symm,ε _,.inr ⟨_,ds,rfl,rfl,(hr.mono e1.st e1.cell).mono U.st U.cell,λj u hu=>⟨?_, ?_⟩⟩⟩
  ·exact r.cells (g:=c.w.heap.size) rfl j u hu
  ·have hj:j<ds.length:=ar hu;refine .inr ⟨rfl, ?_⟩;simp;omega
 ·show(c.heap.set fresh _)[fresh]? = _;rw[cf,Θ rfl,Θ (ar hf)]
 ·simp
def GV {τ:Ty}:∀{J:List AV} {l:List τ.den} {f:List ø},um τ J=ä l→RAs c J f→Rep c.w c.St (chain (toD τ) l) ((f.map λv=>v.cells.toList).flatten)∧l.length=f.length∧∀v∈f,v.cells.size=τ.size
 |[],l,[],h,_=>by cases h;exact⟨rfl,rfl,Ψ⟩
 |u::J,l,v::f,h,⟨C,j⟩=>by
  simp[um]at h;split at h
  next x r hx hr=>
   cases h;obtain⟨T,R,P⟩:=GV hr j;have p:=(bb?_sound hx C).cells;refine⟨⟨_,_,rfl,p,T⟩,by simp[R],λw g=>?_⟩;obtain rfl|g:=c_.1 g
   ·simpa using p.size
   ·exact P w g
  ·cases h
def uf (size:Nat):∀(j:List ø) (i:Nat) (f:Array ø),(∀v∈j,v.cells.size=size)→(i+j.length)*size=f.size →
  ∃g,Instr.fill (λi=>ä (i*size,size)) f ((List.range' i j.length).zip j)=ä g∧g.toList=f.toList.take (i*size)++(j.map λv=>v.cells.toList).flatten
 |[],i,f,_,h=>⟨f,by simp[Instr.fill],by simp at h;rw[h];simp[k?]⟩
 |v::j,i,f,hv,h=>by
  have C:=hv v Ψ;have l:i*size+v.cells.size≤f.size:=by rw[C,←h,←Nat.succ_mul];exact r_ _ Ψ
  have p:=iO (i*size) v f l;obtain⟨g,U,T⟩:=uf size j (i+1) (v.cells.zipIdx.foldl (λJ (x:ø×Nat)=>J.setIfInBounds (i*size+x.2) x.1) f) (λu P=>hv u (by simp[P])) (by
   have:(v.cells.zipIdx.foldl (λJ (x:ø×Nat)=>J.setIfInBounds (i*size+x.2) x.1) f).size=f.size:=by rw[←Array.length_toList,p];simp;omega
   rw[this,←h];congr 1;simp;omega)
  refine⟨g, ?_, ?_⟩
  ·simp only[v_,e?,aka,Instr.fill];have r:¬(v.cells.size≠size||i*size+v.cells.size>f.size)=true:=by
    simp[C];omega
   rw[ω r];exact U
  ·rw[T,p];have R:(f.toList.take (i*size)++v.cells.toList).length=(i+1)*size:=by
    simp[C,j?];omega
   rw[←R,R?];simp
def rE:∀(l:List Nat) (i:Nat),dK i l=ü→l=List.range' i l.length
 |[],_,_=>rfl
 |j::l,i,h=>by simp[dK]at h;obtain⟨rfl,f⟩:=h;rw[v_,e?,←rE l (i+1) f]
def tf (tk:TabOk P tab){len:Nat}{parts:Array (Nat×è)}(ho:o.op = .buildSlice t len parts)(hv:RAs c J ((parts.toList.map (·.2)).map a.eval))
  (u1:P.underlying t=ä (.slice e)) (u2:tab.ty e=ä τ) (T:len=parts.size) (R:dK 0 (parts.toList.map (·.1))=ü) (hsz:len*τ.size≤4096) {l:List τ.den} (hl:um τ J=ä l) :
  ∃ds,Rep c.w c.St (chain (toD τ) l) ds∧l.length=len∧(ê a.eval o).run P c.w = .ok (.value (.slice (ä ⟨c.w.heap.size,0,ö⟩) len len)) (c.w.alloc (.cells ds.toArray e)):=by
 obtain⟨ie,ze,t1,t2,t3,t4,_⟩:=tk.ty e τ u2;obtain⟨C,hll,U⟩:=GV hl hv;have r:((parts.toList.map (·.2)).map a.eval).length=len:=by simp[T]
 have j:(parts.map λp=>(p.1,a.eval p.2)).toList=(List.range' 0 ((parts.toList.map (·.2)).map a.eval).length).zip ((parts.toList.map (·.2)).map a.eval):=by
  have h1:=rE _ 0 R;have h2:(parts.toList.map (·.1)).length=((parts.toList.map (·.2)).map a.eval).length:=by simp
  rw[←h2,←h1,V_,ak7];simp
 have g:∀f:Array ø,Instr.fill (λi=>ä (i*τ.size,τ.size)) ((Array.range (len*τ.size)).map λx=>f[x%f.size]!) (parts.map λp=>(p.1,a.eval p.2)).toList=ä (((parts.toList.map (·.2)).map a.eval).map λv=>v.cells.toList).flatten.toArray:=by intro f;obtain⟨arr',e1,e2⟩:=uf τ.size ((parts.toList.map (·.2)).map a.eval) 0 ((Array.range (len*τ.size)).map λx=>f[x%f.size]!) U (by rw[r];simp);simp only[akj,E?,s_]at e2;rw[j,e1,←e2]
 refine⟨_,C,hll.trans r, ?_⟩;generalize (((parts.toList.map (·.2)).map a.eval).map λv=>v.cells.toList).flatten=ds at *;unfold ê;have hno:¬(len*τ.size>2^24):=Ω
 simp only[ho,Instr.buildSlice,π,η u1,χ,aH tk u2,ω hno];by_cases h0:len*τ.size=0
 ·rw[Θ h0,π,n_,χ,g #[]];simp[newRow]
 ·rw[ω h0];simp only[zeroValue,typeInfo,π,p?,t1,t3,n_,χ];rw[g ze.cells];simp[newRow]
def Hy (hi:Inv B R C c)(tk:TabOk P tab){len:Nat}{parts:Array (Nat×è)}(ho:o.op = .buildSlice t len parts)(hv:RAs c J ((parts.toList.map (·.2)).map a.eval))
  (ht:tab.ty t=ä (.slice τ)) (he:tab.elem t=ä e) (T:len=parts.size) (p:dK 0 (parts.toList.map (·.1))=ü) (U:len*τ.size≤4096) {l:List τ.den} (hl:um τ J=ä l)
  {fresh:Nat} (hf:c.heap[fresh]? = ä .none):Ok P B R C o a c (c.heap.set fresh (.row τ e 0)) (.own fresh 0 τ l):=by
 obtain⟨i,z,_,_,_,_,_,_,hu⟩:=tk.ty t _ ht;obtain⟨e',u1,u2,u3,j⟩:=hu;have:e'=e:=by rw[he]at u3;exact(Δ u3).symm
 subst this;obtain⟨ds,g,r,f⟩:=tf tk ho hv u1 u2 T p U hl;obtain⟨c',hw,hh,hI,hE,hR⟩:=aeO (e:=e') hi hf g (by rw[r];simp[maxLen];have:len*1≤len*τ.size:=Nat.mul_le_mul_left _ j;omega);exact eT (v :=.slice (ä ⟨c.w.heap.size,0,ö⟩) len len) (by rw[hw];exact f) hh hI hE (by rw[r]at hR;exact hR)
def aeN (U:Inv B R C c){l:List τ.den}(T:Rep c.w c.St (chain (toD τ) l) ds)(hm:l.length≤maxLen) :
  ∃r,r.w=c.w.alloc (.cells ds.toArray e)∧r.heap=c.heap∧Inv B R C r∧Ev c r∧RA r (.val (.slice τ) l) [.slice (ä ⟨c.w.heap.size,0,ö⟩) l.length l.length]:=by
 obtain⟨h1,J⟩:=U.grow (w':=c.w.alloc (.cells ds.toArray e)) (St':=⟨λb o=>c.St b o∨(b=c.w.heap.size∧o<l.length*τ.size),c.St.j⟩) ((Below.refl _ _).alloc (ε _) _) ⟨λ_ _ x=>.inl x,λ_ _ _ _ x=>x⟩
  (λb o x=>x.elim .inl (λx=>.inr ⟨Ω,by rw[x.1];simp⟩)) (ε _) (λ_ _ _ _ x=>.inl x)
 have f:=bv T;have p:(c.w.alloc (.cells ds.toArray e)).ownsRow B e τ.size (.slice (ä ⟨c.w.heap.size,0,ö⟩) l.length l.length) l.length ds :=
  ⟨f,.inr ⟨c.w.heap.size,l.length,ds.toArray,rfl,U.size,w? c.w _,ε _,hm,by simpa using f,by rw[←f];simp⟩⟩
 refine⟨{ c with w:=c.w.alloc (.cells ds.toArray e),St:=⟨λb o=>c.St b o∨(b=c.w.heap.size∧o<l.length*τ.size),c.St.j⟩ },rfl,rfl,h1,J,_,rfl,(repv_cell rfl).2 ⟨_,_,_,rfl,(len_chain _ _).symm,ε _,.inr ⟨_,ds,rfl,rfl,T.mono J.st J.cell,λj u P=>⟨p.cells (g:=c.w.heap.size) rfl j u P, ?_⟩⟩⟩⟩;have hj:j<ds.length:=ar P;refine .inr ⟨rfl, ?_⟩;simp;omega
def zk (hi:Inv B R C c)(tk:TabOk P tab){len:Nat}{parts:Array (Nat×è)}(ho:o.op = .buildSlice t len parts)(hv:RAs c J ((parts.toList.map (·.2)).map a.eval))
  (ht:tab.ty t=ä (.slice τ)) (he:tab.elem t=ä e) (T:len=parts.size) (p:dK 0 (parts.toList.map (·.1))=ü) (U:len*τ.size≤4096) {l:List τ.den} (hl:um τ J=ä l):Ok P B R C o a c c.heap (.val (.slice τ) l):=by
 obtain⟨i,z,_,_,_,_,_,_,hu⟩:=tk.ty t _ ht;obtain⟨e',u1,u2,u3,j⟩:=hu;have:e'=e:=by rw[he]at u3;exact(Δ u3).symm
 subst this;obtain⟨ds,g,r,f⟩:=tf tk ho hv u1 u2 T p U hl;obtain⟨c',hw,hh,hI,hE,hR⟩:=aeN (e:=e') hi g (by rw[r];simp[maxLen];have:len*1≤len*τ.size:=Nat.mul_le_mul_left _ j;omega);exact eT (v :=.slice (ä ⟨c.w.heap.size,0,ö⟩) len len) (by rw[hw];exact f) hh hI hE (by rw[r]at hR;exact hR)
def xT {f g:Nat→Option (Nat×Nat)}:∀(l:List (Nat×ø)) (j:Array ø),(∀p∈l,f p.1=g p.1)→Instr.fill f j l=Instr.fill g j l
 |[],_,_=>by simp[Instr.fill]
 |p::l,j,h=>by
  simp[Instr.fill];rw[h p Ψ];split
  ·rfl
  ·split
   ·rfl
   ·exact xT l _ (λq r=>h q (by simp[r]))
def yH {u:AV}{v:ø}(h:RA c u [v])(g:u.single=ü):v.cells.toList=[v]∧v.oneCell'=true:=by
 have U:u.pk=true:=by cases u <;> simp[AV.single,AV.pk]at g⊢
 obtain⟨h1,h2⟩:=oP h U;have hl:(cellsOf u).length=1:=by
  cases u with
  |val t x =>simp only[AV.single,akm]at g;cases t <;> simp[Ty.an]at g <;> rfl
  |_=>first|rfl|(simp[AV.single]at g)
 have hl2:v.cells.toList.length=1:=by rw[←h1.length,hl]
 cases v with
 |agg R=>
  exfalso;cases u with
  |val t x =>simp only[AV.single,akm]at g;have:=(repv_cell g).1 h.ey;have:=this.one (Value.agg R) Ψ;simp[Value.oneCell']at this
  |nil=>have h:[Value.agg R]=[.slice ö 0 0]:=h;simp at h
  |own k n t l=>obtain⟨s,e,r,_⟩:=h;obtain⟨A,n',cp,J,_⟩:=(repv_cell (t :=.slice t) rfl).1 r;simp at e J;rw[←e]at J;cases J
  |ref t x=>obtain⟨ad,ds,e,_⟩:=h;simp at e
  |box k p=>obtain⟨P,_,e⟩:=h;simp at e
  |fn f T=>obtain⟨P,e,_⟩:=h;simp at e
  |msl k n lo hi=>obtain⟨s,e,C,_⟩:=h;simp at e;subst e;simp[Value.oneCell']at C
  |yld j=>obtain⟨_,e⟩:=h;simp at e
  |mpt k n i p=>obtain⟨s,e,C,_⟩:=h;simp at e;subst e;simp[Value.oneCell']at C
  |_=>simp[AV.single]at g
 |_=>exact⟨by simp[Value.cells],by simpa[Value.cells]using h2⟩
def fD:∀{J:List AV} {g:List ø},RAs c J g→J.all AV.single=ü→(∀v∈g,v.cells.size=1)∧(g.map λv=>v.cells.toList).flatten=g∧∀v∈g,v.oneCell'=ü
 |[],[],_,_=>⟨Ψ,rfl,Ψ⟩
 |u::J,v::g,⟨h,r⟩,ha=>by
  simp only[C?,θ]at ha;obtain⟨j,p⟩:=yH h ha.1;obtain⟨P,C,l⟩:=fD r ha.2;refine⟨λx f=>?_,by simp[j,C],λx f=>?_⟩
  ·obtain rfl|f:=c_.1 f
   ·have:=l_ List.length j;simpa using this
   ·exact P x f
  ·obtain rfl|f:=c_.1 f
   ·exact p
   ·exact l x f
def Bp:∀(j:List ø) (i:Nat) (f:Array ø),(∀v∈j,v.cells.size=1)→i+j.length≤f.size →
  ∃g,Instr.fill (λi=>ä (i,1)) f ((List.range' i j.length).zip j)=ä g∧g.toList=f.toList.take i++(j.map λv=>v.cells.toList).flatten++f.toList.drop (i+j.length)
 |[],i,f,_,h=>⟨f,by simp[Instr.fill],Ψ⟩
 |v::j,i,f,hv,h=>by
  have C:=hv v Ψ;simp at h;have l:=iO i v f Ω;have p:(v.cells.zipIdx.foldl (λJ (x:ø×Nat)=>J.setIfInBounds (i+x.2) x.1) f).size=f.size:=by rw[←Array.length_toList,l];simp;omega
  obtain⟨g,U,T⟩:=Bp j (i+1) (v.cells.zipIdx.foldl (λJ (x:ø×Nat)=>J.setIfInBounds (i+x.2) x.1) f) (λu P=>hv u (by simp[P])) (by rw[p];omega);refine⟨g, ?_, ?_⟩
  ·simp only[v_,e?,aka,Instr.fill];have r:¬(v.cells.size≠1||i+v.cells.size>f.size)=true:=by
    simp[C];omega
   rw[ω r];exact U
  ·rw[T,l];have R:(f.toList.take i++v.cells.toList).length=i+1:=by
    simp[C];omega
   rw[←R,R?,g?,C,O_];simp;rw[show i+1+j.length=i+(j.length+1)by omega]
def zj (hi:Inv B R C c)(tk:TabOk P tab){parts:Array (Nat×è)}(ho:o.op = .build t parts)(hv:RAs c J ((parts.toList.map (·.2)).map a.eval))(ht:tab.one t=ä n)(hn:parts.size≤n)
  (hord:dK 0 (parts.toList.map (·.1))=ü) (hs:J.all AV.single=ü) {zs:List AV} (hzs:∀i z,P.info? t=ä i→i.zero=ä z→z.cells.size=n→RAs c zs (z.cells.toList.drop parts.size)∧∀v∈z.cells.toList.drop parts.size,v.oneCell'=ü):Ok P B R C o a c c.heap (.agg (aY (J++zs))):=by
 obtain⟨U,i,z,f1,f2,f3,f4,f5,f6⟩:=tk.one t n ht;obtain⟨s1,s2,s3⟩:=fD hv hs;have hvl:((parts.toList.map (·.2)).map a.eval).length=parts.size:=by simp
 obtain⟨z1,z2⟩:=hzs i z f4 f5 f6;have hzip:(parts.map λp=>(p.1,a.eval p.2)).toList=(List.range' 0 ((parts.toList.map (·.2)).map a.eval).length).zip ((parts.toList.map (·.2)).map a.eval):=by
  have h1:=rE _ 0 hord;have h2:(parts.toList.map (·.1)).length=((parts.toList.map (·.2)).map a.eval).length:=by simp
  rw[←h2,←h1,V_,ak7];simp
 obtain⟨T,e1,e2⟩:=Bp ((parts.toList.map (·.2)).map a.eval) 0 z.cells s1 (by rw[hvl,f6];omega);simp only[E?,s_,s2,Z',hvl]at e2;have hfill:Instr.fill ((U.map λf=>(f.offset,P.cellsOf f.type))[·]?) z.cells (parts.map λp=>(p.1,a.eval p.2)).toList=ä T:=by
  rw[hzip,←e1];refine xT _ _ (λp hp=>?_);have hpl:p.1<n:=by have:=List.of_mem_zip hp;have:=List.mem_range'_1.1 this.1;omega
  have hg:U[p.1]? = ä (U[p.1]'Ω):=X_ Ω;obtain⟨g1,j,g2,g3⟩:=f3 p.1 _ hg;simp[hg,g1,Program.cellsOf,g2,g3]
 have hm:∀(l:List Field) (w:æ),(∀f∈l,∃j,P.info? f.type=ä j)→(l.mapM (λf=>(do pure (f.offset,←sizeOf f.type):Sem (Nat×Nat)))).run P w = .ok (l.map λf=>(f.offset,P.cellsOf f.type)) w:=by
  intro l;induction l with
  |nil=>intro w _;simp
  |cons f l ih=>
   intro w r;obtain⟨j,hj⟩:=r f Ψ;have h1:(do pure (f.offset,←sizeOf f.type):Sem (Nat×Nat)).run P w = .ok (f.offset,P.cellsOf f.type) w:=by simp[sizeOf,typeInfo,hj,Program.cellsOf]
   rw[akk,π,h1,χ,π,ih w (λg hg=>r g (by simp[hg])),χ];rfl
 have r:∀f∈U.toList,∃j,P.info? f.type=ä j:=by intro f hfm;obtain⟨k,hk,rfl⟩:=ak5 hfm;obtain⟨_,j,g2,_⟩:=f3 k U.toList[k] Ψ;exact⟨j,g2⟩
 have hmA:(U.mapM (λf=>(do pure (f.offset,←sizeOf f.type):Sem (Nat×Nat)))).run P c.w = .ok (U.map λf=>(f.offset,P.cellsOf f.type)) c.w:=by have:=hm U.toList c.w r;rw[H?,akL,π,this,χ];exact l_ (λl=>Result.ok l c.w) (D_ Ψ)
 refine aA hi (v :=.agg T) ?_ ⟨_,by rw[←Array.toArray_toList (xs:=T),e2],RA.o6 (hv.append z1),gJ _,λv hx=>(q'.1 hx).elim (s3 v) (z2 v)⟩;unfold ê;simp only[ho,Instr.build,zeroValue,typeInfo,π,p?,f4,n_,χ,f5,η f1,hmA];rw[hfill];simp
def Ll (U:Inv B R C c)(l:TabOk P tab){parts:Array (Nat×è)}(T:o.op = .build t parts)(g:RAs c J ((parts.toList.map (·.2)).map a.eval))(p:tab.one t=ä n)(j:n=parts.size)
  (f:dK 0 (parts.toList.map (·.1))=ü) (r:J.all AV.single=ü):Ok P B R C o a c c.heap (.agg (aY J)):=by
 have:=zj U l T g p (alQ j.symm) f r (zs:=[]) (λi z _ _ h=>by
  have:z.cells.toList.drop parts.size=[]:=by rw[←j,←h];simp
  rw[this];exact⟨apa,λv g=>by cases g⟩)
 rwa[Y?]at this
def Hx (hi:Inv B R C c)(l:TabOk P tab){parts:Array (Nat×è)}(ho:o.op = .build t parts)(g:RAs c J ((parts.toList.map (·.2)).map a.eval))(j:tab.ty t=ä τ)(T:tab.one t=ä n)(hn:parts.size≤n)
  (f:dK 0 (parts.toList.map (·.1))=ü) (U:J.all AV.single=ü):Ok P B R C o a c c.heap (.agg (aY (J++(BM τ).drop parts.size))):=by
 refine zj hi l ho g T hn f U (λi z h1 h2 _=>?_);obtain⟨i',z',r,_,p,g4,_⟩:=l.ty t τ j;rw[h1]at r;cases r;rw[h2]at p;cases p;rw[g4];exact⟨(mV τ).drop _,λv g=>(fB (w:=c.w) (St:=c.St) τ).one v (aj0 g)⟩
def Lk (hi:Inv B R C c)(tk:TabOk P tab){parts:Array (Nat×è)}(ho:o.op = .build t parts)(hv:RAs c J ((parts.toList.map (·.2)).map a.eval))(ht:tab.e7 t=ä n)(hn:n=parts.size)
  (U:dK 0 (parts.toList.map (·.1))=ü) (hs:J.all AV.single=ü):Ok P B R C o a c c.heap (.agg (aY J)):=by
 obtain⟨e,i,z,j,f1,f2,f3,f4,f5,f6⟩:=tk.e7 t n ht;obtain⟨s1,s2,s3⟩:=fD hv hs;have T:((parts.toList.map (·.2)).map a.eval).length=parts.size:=by simp
 have r:(parts.map λp=>(p.1,a.eval p.2)).toList=(List.range' 0 ((parts.toList.map (·.2)).map a.eval).length).zip ((parts.toList.map (·.2)).map a.eval):=by
  have h1:=rE _ 0 U;have h2:(parts.toList.map (·.1)).length=((parts.toList.map (·.2)).map a.eval).length:=by simp
  rw[←h2,←h1,V_,ak7];simp
 obtain⟨f,e1,e2⟩:=Bp ((parts.toList.map (·.2)).map a.eval) 0 z.cells s1 (by rw[T,f6];omega);simp only[E?,s_,s2,Z',T]at e2;have l:z.cells.toList.drop parts.size=[]:=by rw[←hn,←f6];simp
 rw[l,Y?]at e2;have g:Instr.fill (λi=>ä (i*1,1)) z.cells (parts.map λp=>(p.1,a.eval p.2)).toList=ä f:=by rw[r,←e1];exact xT _ _ (λp _=>by simp)
 refine aA hi (v :=.agg f) ?_ ⟨_,by rw[←Array.toArray_toList (xs:=f),e2],RA.o6 hv,gJ _,s3⟩;unfold ê;have hsz:(sizeOf e).run P c.w = .ok 1 c.w:=by simp[sizeOf,typeInfo,f2,f3]
 simp only[ho,Instr.build,zeroValue,typeInfo,π,p?,f4,n_,χ,f5,η f1,hsz];rw[g];simp
def Li (hi:Inv B R C c)(r:TabOk P tab){x y:è}(ho:o.op = .indexAddr t x y){k f:Nat}(T:RA c (.box k f) [a.eval x]){q:IntKind}{n:Int}(J:RA c (.val (.int q) n) [a.eval y]){m:Nat}(U:tab.e7 t=ä m)(h0:0≤n)(h1:n<(m:Int)) :
  Ok P B R C o a c c.heap (.box k (f+n.toNat)):=by
 obtain⟨e,i,z,j,f1,f2,f3,f4,f5,f6⟩:=r.e7 t m U;obtain⟨cs,p,ev⟩:=T;simp at ev;have g:=eh J.ey;have l:(sizeOf e).run P c.w = .ok 1 c.w:=by simp[sizeOf,typeInfo,f2,f3]
 refine aA hi (v :=.pointer (ä ⟨c.kd k,f+n.toNat,ö⟩)) ?_ ⟨cs,p,rfl⟩;unfold ê;simp[ho,ev,g,Instr.indexAt,η f1,Instr.sureAddr,asIntOf,h0,h1,l,Addr.add]
def OH (hi:Inv B R C c)(r:TabOk P tab){x:è}(ho:o.op = .load t x){k f:Nat}(hv:RA c (.box k f) [a.eval x]){cells:List AV}(hk:c.heap[k]? = ä (.box cells))
  (ht:tab.ty t=ä τ) (hst:τ.an=ü) {n:Nat} (hn:tab.one t=ä n) (hl:((cells.drop f).take τ.size).length=n) (hs:((cells.drop f).take τ.size).all AV.single=ü):Ok P B R C o a c c.heap (.agg (aY ((cells.drop f).take τ.size))):=by
 obtain⟨cs,hk',e⟩:=hv;obtain⟨l,t',h1,h2,h3⟩:=qi hi hk;have h4:=(h2.drop f).take τ.size;obtain⟨_,_,s3⟩:=fD h4 hs;have U:((l.toList.drop f).take τ.size).length=τ.size:=by rw[←h4.length,hl];obtain⟨i,z,q1,q2,q3,q4,_⟩:=r.ty t τ ht;obtain⟨fs,i',z',f1,f2,f3,f4,f5,f6⟩:=r.one t n hn;rw[q1]at f4;cases f4;rw[q3]at f5;cases f5;rw[←f6,←Array.length_toList,q4];exact(fB (w:=c.w) (St:=c.St) τ).size
 obtain⟨v,p,g⟩:=cE r ht c.w ⟨c.kd k,f,ö⟩ _ U (λj u T=>by
  rw[cV,h3,←T,b_];have hj:j<τ.size:=by
   obtain h|h:=i_ j τ.size
   ·exact h
   ·rw[b_,ω Ω]at T;cases T
  rw[Θ hj,o_])
 have J:v = .agg ((l.toList.drop f).take τ.size).toArray:=by rw[hst]at g;simpa using g
 subst J;refine aA hi (v :=.agg ((l.toList.drop f).take τ.size).toArray) ?_ ⟨_,rfl,RA.o6 h4,gJ _,s3⟩;unfold ê;simp at e;simp[ho,e,Instr.loadAt,Instr.sureAddr,p]
end
end Abs
namespace Abs
open Go Go.RowKit
section
variable {P:å}{tab:Tab}{B:Bd}{C:æ}{r:Sb}{c:Gh}{o:ë}{a:Act}
def HT:Option ø→Option Int→Prop
 |none,ö=>True
 |some v,ä n=>∃k,v = .int k n
 |_,_=>False
variable{f :Option Int}{τ:Ty}{t e:é}{x s:è}{u:AV}{cl:Call}{v' :ø}{fresh:Nat}
def jN (w:æ)(j:Bool)(len cap:Nat){p C:Option ø}{g :Option Int}(r:HT p g)(J:HT C f)(l:(aJ g f len).1=ü)(T:len≤cap) :
  (Instr.sliceBounds j len cap p C ö).run P w = .ok ((aJ g f len).2.1,(aJ g f len).2.2,cap) w∧(aJ g f len).2.1≤(aJ g f len).2.2∧(aJ g f len).2.2≤len:=by
 match p,g,r,C,f,J with
 |none,ö,_,ö,ö,_=>simp[Instr.sliceBounds,aJ]
 |some _,ä n,⟨k,rfl⟩,ö,ö,_=>
  simp[aJ]at l;refine⟨?_, ?_, ?_⟩
  ·simp[Instr.sliceBounds,aJ,Instr.sliceBound,asIntOf,l.1,l.2]
  ·simp[aJ];omega
  ·simp[aJ]
 |none,ö,_,ä _,ä m,⟨k,rfl⟩=>
  simp[aJ]at l;have R:m≤(cap:Int):=Ω
  refine⟨?_, ?_, ?_⟩
  ·simp[Instr.sliceBounds,aJ,Instr.sliceBound,asIntOf,l.1,R]
  ·simp[aJ]
  ·simp[aJ];omega
 |some _,ä n,⟨k,rfl⟩,ä _,ä m,⟨k',rfl⟩=>
  simp[aJ]at l;have R:m≤(cap:Int):=Ω
  have h3:0≤m:=Ω
  refine⟨?_, ?_, ?_⟩
  ·have h5:max m 0=m:=Ω
   have U:¬m<n:=Ω
   simp[Instr.sliceBounds,aJ,Instr.sliceBound,asIntOf,h3,R,l.1.1,h5,U]
  ·simp[aJ];omega
  ·simp[aJ];omega
def Um {w:æ}{St:Sb}{l:List τ.den}{A:Option Addr}{cap i j:Nat}(R:Rep w St (toD (.slice τ) l) [.slice A l.length cap])(U:i≤j)(T:j≤l.length) :
  Rep w St (toD (.slice τ) ((l.take j).drop i)) [.slice (if cap=i then A else A.map (·.add (i*τ.size))) (j-i) (cap-i)]:=by
 obtain⟨A',cp,e,hc,J⟩:=dV R;cases e;have r:((l.take j).drop i).length=j-i:=by simp;omega
 refine⟨_,_,_,rfl,by rw[len_chain,r],Ω, ?_⟩;by_cases h0:j-i=0
 ·exact .inl h0
 ·obtain⟨P,ds,rfl,g,p,f⟩:=J.resolve_left Ω;rw[ω Ω];have h1:=rV j T p;have h2:=xZ i Ξ h1;refine .inr ⟨_,_,rfl,(gM P g _).2.2,h2,λk u C=>?_⟩;rw[o_,b_]at C;split at C
  ·obtain⟨g1,g2⟩:=f _ _ C;obtain⟨f1,f2,_⟩:=gM P g (i*τ.size);rw[DJ,f1,f2,A_];exact⟨g1,g2⟩
  ·cases C
def aaz (hi:Inv B C r c)(tk:TabOk P tab){j g:Option è}(ho:o.op = .slice t x j g ö){s:AV}(hx:RA c s [a.eval x]){J:Option Int}(U:HT (j.map a.eval) J)(hhi:HT (g.map a.eval) f)
  {τ:Ty} {l:List τ.den} (hl:yF (tab.ty t) s=ä ⟨τ,l⟩) (hc:(aJ J f l.length).1=ü) :
  Ok P B C r o a c c.heap (.val (.slice τ) ((l.take (aJ J f l.length).2.2).drop (aJ J f l.length).2.1)):=by
 obtain⟨ht,hv⟩:=ga hl hx;obtain⟨i,z,_,_,_,_,_,_,hu⟩:=tk.ty t _ ht;obtain⟨e,he,R,_⟩:=hu;have T:=(repv_cell (t :=.slice τ) rfl).1 hv;obtain⟨A,cp,ev,p,_⟩:=dV T;simp at ev;rw[ev]at T;obtain⟨h1,h2,h3⟩:=jN (P:=P) c.w ü l.length cp U hhi hc p;refine aA hi ?_ ⟨_,rfl,(repv_cell rfl).2 (Um T h2 h3)⟩;unfold ê;simp[ho,ev,Instr.sliceAt,π,η he,Instr.slice,h1,aH tk R,n_]
def Ld (hi:Inv B C r c)(tk:TabOk P tab){J g:Option è}(ho:o.op = .slice t x J g ö){s:AV}(hx:RA c s [a.eval x]){j:Option Int}(hlo:HT (J.map a.eval) j)(hhi:HT (g.map a.eval) f)
  {l:Str} (hl:yC (tab.ty t) s=ä l) (hc:(aJ j f l.length).1=ü) :
  Ok P B C r o a c c.heap (.val .str ((l.take (aJ j f l.length).2.2).drop (aJ j f l.length).2.1)):=by
 obtain⟨ht,hv⟩:=sV hl hx;obtain⟨i,z,_,_,_,_,_,_,T⟩:=tk.ty t _ ht;have T:P.underlying t=ä .string:=T;obtain⟨h1,h2,h3⟩:=jN (P:=P) c.w ß l.length l.length hlo hhi hc (ε _);have U:(⟨l.toArray⟩:ByteArray).size=l.length:=by simp[ByteArray.size]
 generalize (aJ j f l.length).2.1=p at *;generalize (aJ j f l.length).2.2=q at *;have R:(⟨l.toArray⟩:ByteArray).extract p q=⟨((l.take q).drop p).toArray⟩:=by apply alH;simp[alV,List.drop_take,alF]
 refine aA hi (v :=.string ⟨((l.take q).drop p).toArray⟩) ?_ (E3 _);unfold ê;simp[ho,hv,Instr.sliceAt,π,η T,Instr.slice,U,h1,n_,R]
def Sj (T:Inv B C r c){i:Nat}(R:o.op = .extract x i){p:AV}(g:RA c (.tup p) [a.eval x])(J:p.parts[i]? = ä u):Ok P B C r o a c c.heap u:=by obtain⟨cs,e,l,U⟩:=g;obtain⟨v,j,f⟩:=(l.parts U).get i u J;simp at e;refine aA T (v:=v) ?_ f;unfold ê;simp[R,e,Instr.extract,j]
def CZ {l:List τ.den}{v:ø}(h:RepV c.w c.St (.slice τ) l v):∃A r p,v = .slice A l.length r∧Rep c.w c.St (chain (toD τ) l) p∧p.length=l.length*τ.size∧(l.length=0∨∃C,A=ä C∧∀j u,p[j]? = ä u→c.w.cell? (C.add j)=ä u):=by
 obtain⟨A,r,ev,P,J⟩:=dV ((repv_cell (t :=.slice τ) rfl).1 h);simp at ev;obtain h0|⟨C,p,rfl,_,f,g⟩:=J
 ·have:l=[]:=Q' h0;subst this;exact⟨A,r,[],ev,rfl,Ψ,.inl rfl⟩
 ·exact⟨_,r,p,ev,f,bv f,.inr ⟨C,rfl,λj u R=>(g j u R).1⟩⟩
def og {n bytes:Nat}(h:n≤LIM)(f:bytes≤16384):n≤maxLen∧n*bytes≤140737488355328:=by unfold LIM at h;refine⟨by simp[maxLen];omega, ?_⟩;have:n*bytes≤4294967296*16384:=Nat.mul_le_mul h f;omega
def fQ (r:o.op = .call cl)(l:cl.callee = .builtin .append)(f:cl.args = #[s,x])(j:cl.argTypes = #[t,t]){w p:æ}
  (g:(Builtin.append_ #[t,t] o.type #[a.eval s,a.eval x]).run P w = .ok v' p):(ê a.eval o).run P w = .ok (.value v') p:=by
 unfold ê;simp[r,resolve,l,f,j,invoke,builtin,g]
def AR {f:æ}{St':Sb}{l:List τ.den}{n:Nat}{J:List ø}(C:f.ownsRow B e τ.size v' n J)(p:Rep f St' (chain (toD τ) l) J)(T:l.length=n)
  (r:∀b o,v'.ownBlock=ä b→o<n*τ.size→St' b o):Rep f St' (toD (.slice τ) l) [v']:=by
 subst T;rcases C.2 with⟨q1,q2⟩|⟨g,cap,U,q1,q2,q3,R,q5,_⟩
 ·rw[q1];have:l=[]:=Q' q2;rw[this];exact⟨ö,0,0,rfl,rfl,ε _,.inl rfl⟩
 ·subst q1;refine⟨_,_,_,rfl,by rw[len_chain],R,.inr ⟨_,_,rfl,rfl,p,λj u P=>⟨C.cells (g:=g) rfl j u P, ?_⟩⟩⟩;have:=ar P;rw[C.1]at this;exact r _ _ rfl (by simpa using this)
def wX (hi:Inv B C r c)(tk:TabOk P tab)(ho:o.op = .call cl)(hcl:cl.callee = .builtin .append)(hargs:cl.args = #[s,x])(hty:cl.argTypes = #[t,t]){k v:Nat}{l l':List τ.den}
  (hs:RA c (.own k v τ l) [a.eval s]) (hx:∃A cp U,a.eval x = .slice A l'.length cp∧Rep c.w c.St (chain (toD τ) l') U∧U.length=l'.length*τ.size∧(l'.length=0∨∃ad,A=ä ad∧∀j u,U[j]? = ä u→c.w.cell? (ad.add j)=ä u)) (ht:tab.ty t=ä (.slice τ)) (he:tab.elem t=ä e) (hk:c.heap[k]? = ä (.row τ e v)) (hlim:l.length+l'.length≤LIM) :
  Ok P B C r o a c (c.heap.set k (.row τ e (v+1))) (.own k (v+1) τ (l++l')):=by
 obtain⟨i,z,_,_,_,_,_,_,hu⟩:=tk.ty t _ ht;obtain⟨e',u1,u2,u3,hpos⟩:=hu;have:e'=e:=by rw[he]at u3;exact(Δ u3).symm
 subst this;obtain⟨ie,ze,t1,t2,t3,t4,t5,_⟩:=tk.ty e' τ u2;obtain⟨sv,es,hsv,tt,te,vv,J,_,hcur⟩:=hs;simp at es;rw[hk]at J;injection J with J;injection J with r1 r2 r3;have p:sv=c.rv k:=hcur r3.symm;obtain⟨n,xs,f,hsp⟩:=hi.row k τ e' v hk;have hn:n=l.length∧Rep c.w c.St (chain (toD τ) l) xs:=by
  obtain⟨A,cp,ev,hcap,hds⟩:=dV ((repv_cell (t :=.slice τ) rfl).1 hsv);simp at ev;rcases f.2 with⟨h1,T⟩|⟨g,cap,cur,h1,_⟩
  ·rw[←p,ev]at h1;injection h1 with _ h3 _;have:l=[]:=Q' h3;subst this;have hx0:xs=[]:=Q' (by rw[f.1,T];simp);subst hx0;exact⟨T,rfl⟩
  ·rw[←p,ev]at h1;injection h1 with T h3 _;refine⟨h3.symm, ?_⟩;obtain h0|⟨ad,U,hA,_,R,hcell⟩:=hds
   ·have:l=[]:=Q' h0;subst this;have hx0:xs=[]:=Q' (by rw[f.1,←h3];simp);subst hx0;rfl
   ·rw[hA]at T;cases T;have hc2:=f.cells (g:=g) (by rw[←p,ev,hA];rfl);have hdx:U=xs:=by
     apply N?;intro j;have hl1:=bv R;have hl2:xs.length=U.length:=by rw[f.1,hl1,h3]
     by_cases hj:j<U.length
     ·have e1:=(hcell j U[j] (ζ hj)).1;have e2:=hc2 j xs[j] (ζ Ω);rw[ζ hj,ζ (by omega:j<xs.length),←e1,←e2]
     ·rw[w_ Ω,w_ Ω]
    rw[←hdx];exact R
 obtain⟨rfl,R⟩:=hn;obtain⟨A,cp,U,ex,hrx,hdl,hsrc⟩:=hx;obtain⟨r63,rby⟩:=og hlim t5;obtain⟨v',w',hrun,T,h3,h4,h5,hd⟩:=cg (P:=P) (B:=B) c.w t o.type e' ie ze τ.size ie.bytes u1 t1 t3 t2 rfl (by rw[←Array.length_toList,t4,←(fB (w:=c.w) (St:=c.St) τ).size]) hpos (c.rv k) l.length xs f A l'.length cp U hdl hsrc hrx.one r63 rby hi.size;obtain⟨hI,hE⟩:=hi.appendRow hk f hsp T h3 h4 h5 hd;refine eT (v:=v') (fQ ho hcl hargs hty (by rw[es,p,ex];exact hrun)) rfl hI hE ⟨v',rfl,(repv_cell rfl).2 ?_,τ,e',v+1, ?_,ε _,λ_=>by simp⟩
 ·exact AR T (kN (R.mono hE.st hE.cell) (hrx.mono hE.st hE.cell)) Ψ (λb o h1 T=>.inr ⟨h1,T⟩)
 ·show(c.heap.set k _)[k]? = _;rw[cf,Θ rfl,Θ (ar hk)]
def nP (hi:Inv B C r c)(tk:TabOk P tab)(ho:o.op = .call cl)(hcl:cl.callee = .builtin .append)(J:cl.args = #[s,x])(hty:cl.argTypes = #[t,t]){l:List τ.den}
  (hs:RA c .nil [a.eval s]) (hx:∃A cp R,a.eval x = .slice A l.length cp∧Rep c.w c.St (chain (toD τ) l) R∧R.length=l.length*τ.size∧(l.length=0∨∃ad,A=ä ad∧∀j u,R[j]? = ä u→c.w.cell? (ad.add j)=ä u)) (ht:tab.ty t=ä (.slice τ)) (he:tab.elem t=ä e) (hf:c.heap[fresh]? = ä .none) (hlim:l.length≤LIM) :
  Ok P B C r o a c (c.heap.set fresh (.row τ e 1)) (.own fresh 1 τ l):=by
 obtain⟨hI,hE⟩:=hi.addRow (k:=fresh) (n:=0) (t:=τ) (e:=e) (s :=.slice ö 0 0) (xs:=[]) hf (Y_ _ _ _ _) (λb f=>by simp[Value.ownBlock]at f) (λk' b f=>by simp[Value.ownBlock]at f) (λb f=>by simp[Value.ownBlock]at f) (λb f=>by simp[Value.ownBlock]at f);obtain⟨i,z,_,_,_,_,_,_,hu⟩:=tk.ty t _ ht;obtain⟨p,u1,u2,u3,hpos⟩:=hu;have:p=e:=by rw[he]at u3;exact(Δ u3).symm
 subst this;obtain⟨ie,ze,t1,t2,t3,t4,t5,_⟩:=tk.ty p τ u2;obtain⟨A,cp,R,ex,U,hdl,T⟩:=hx;obtain⟨r63,rby⟩:=og hlim t5;have hs:[a.eval s]=[.slice ö 0 0]:=hs;simp at hs;obtain⟨v',w',hrun,h2,h3,h4,h5,hd⟩:=cg (P:=P) (B:=B) c.w t o.type p ie ze τ.size ie.bytes u1 t1 t3 t2 rfl (by rw[←Array.length_toList,t4,←(fB (w:=c.w) (St:=c.St) τ).size]) hpos (.slice ö 0 0) 0 [] (Y_ _ _ _ _) A l.length cp R hdl T U.one (by simpa using r63) (by simpa using rby) hi.size;have hk:(c.heap.set fresh (.row τ p 0))[fresh]? = ä (.row τ p 0):=by rw[cf,Θ rfl,Θ (ar hf)]
 obtain⟨hJ,hF⟩:=hI.appendRow (k:=fresh) (v:=0) (n:=0) (m:=l.length) (t:=τ) (e:=p) (s':=v') (w':=w') (xs:=[]) (news:=R) hk (by simpa using Y_ c.w B p τ.size) (λb f=>by simp[Value.ownBlock]at f)
  h2 (by simpa using h3) (by simpa using h4) (λg hg=>by simp[Value.ownBlock]at hg) hd
 refine eT (v:=v') (fQ ho hcl J hty (by rw[hs,ex];exact hrun)) ?_ hJ (hE.trans hF) ⟨v',rfl,(repv_cell rfl).2 ?_,τ,p,1, ?_,ε _,λ_=>by simp⟩
 ·simp
 ·exact AR h2 (by simpa using(U.mono hE.st hE.cell).mono hF.st hF.cell) Ψ (λb o h1 h2=>.inr ⟨h1,h2⟩)
 ·show((c.heap.set fresh _).set fresh _)[fresh]? = _;rw[cf,Θ rfl,Θ (by simpa using ar hf)]
def Xf (hi:Inv B C r c)(T:TabOk P tab)(ho:o.op = .call cl)(R:cl.callee = .builtin .append)(f:cl.args = #[s,x])(J:cl.argTypes = #[t,t]){k v:Nat}{l j:List τ.den}
  (hs:RA c (.own k v τ l) [a.eval s]) (U:RA c u [a.eval x]) (hl:yF (tab.ty t) u=ä ⟨τ,j⟩) (he:tab.elem t=ä e) (hk:c.heap[k]? = ä (.row τ e v)) (g:l.length+j.length≤LIM) :
  Ok P B C r o a c (c.heap.set k (.row τ e (v+1))) (.own k (v+1) τ (l++j)):=by
 obtain⟨ht,p⟩:=ga hl U;exact wX hi T ho R f J hs (CZ p) ht he hk g
def HA (hi:Inv B C r c)(R:TabOk P tab)(ho:o.op = .call cl)(J:cl.callee = .builtin .append)(f:cl.args = #[s,x])(p:cl.argTypes = #[t,t]){j:List τ.den}
  (hs:RA c .nil [a.eval s]) (T:RA c u [a.eval x]) (hl:yF (tab.ty t) u=ä ⟨τ,j⟩) (he:tab.elem t=ä e) (hf:c.heap[fresh]? = ä .none) (g:j.length≤LIM) :
  Ok P B C r o a c (c.heap.set fresh (.row τ e 1)) (.own fresh 1 τ j):=by
 obtain⟨U,l⟩:=ga hl T;exact nP hi R ho J f p hs (CZ l) U he hf g
end
end Abs
