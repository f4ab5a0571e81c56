/- The typed data of the abstract machine, and how they lie in the model's memory. -/
import Derived.Calls
import Derived.Orders
import Derived.Below
import Derived.Maps.AppendAt
import Derived.Laws.StructEq
import Derived.KernelRfl
namespace Go.Proofs.YtboikinjlmjgjaaGreat.Abs
open Go Go.RowKit
abbrev Str:=List UInt8
inductive Tree where
 | mk (kind:Int) (text:Str) (leads:List Str) (kids:List Tree)
inductive Ty where
 | int (k:IntKind) | bool | str | slice (t:Ty) | unit | cons (a b:Ty) | tree | jsl (e:TypeId)
 deriving DecidableEq
abbrev Ty.den:Ty→Type
 | .int _=>Int
 | .bool=>Bool
 | .str=>Str
 | .slice t=>List t.den
 | .unit=>Unit
 | .cons a b=>a.den×b.den
 | .tree=>Tree
 | .jsl _=>Nat
inductive D where
 | sc (v:Value) | nil | cons (a b:D) | sl (d:D) | jk (e:TypeId) (n:Nat)
def D.len:D→Nat
 | .cons _ b=>b.len+1
 | _=>0
def bA {α:Type} (f:α→D):List α→D
 | [] => .nil
 | x::l => .cons (f x) (bA f l)
def U6 (s:Str):D := .sc (.string ⟨s.toArray⟩)
mutual
def qj:Tree→D
 | .mk k t ls ks => .cons (.sc (.int .i64 k)) (.cons (U6 t) (.cons (.sl (bA U6 ls)) (.cons (.sl (qy ks)) .nil)))
def qy:List Tree→D
 | [] => .nil
 | t::ts => .cons (qj t) (qy ts)
end
def toD:(t:Ty)→t.den→D
 | .int k,n => .sc (.int k n)
 | .bool,b => .sc (.bool b)
 | .str,s=>U6 s
 | .slice t,l => .sl (bA (toD t) l)
 | .unit,_ => .nil
 | .cons a b,x => .cons (toD a x.1) (toD b x.2)
 | .tree,t=>qj t
 | .jsl e,n => .jk e n
theorem g0 (l:List Tree):qy l=bA qj l:=by
 induction l with
 | nil=>simp [qy,bA]
 | cons t ts ih=>simp [qy,bA,ih]
theorem e6 {α:Type} (f:α→D) (l:List α):(bA f l).len=l.length:=by
 induction l with
 | nil=>rfl
 | cons x l ih=>simp [bA,D.len,ih]
def Ty.size:Ty→Nat
 | .unit=>0
 | .cons a b=>a.size+b.size
 | .tree=>4
 | _=>1
def Ty.isStruct:Ty→Bool
 | .unit | .cons _ _ | .tree=>true
 | _=>false
structure Sb where
 s:Nat→Nat→Prop
 j:Nat→TypeId→Nat→Nat→Prop:=fun _ _ _ _=>False
instance:CoeFun Sb fun _=>Nat→Nat→Prop:=⟨Sb.s⟩
structure Sb.le (a b:Sb):Prop where
 s : ∀ x o,a.s x o→b.s x o
 j : ∀ x e c n,a.j x e c n→b.j x e c n
theorem Sb.le.refl (a:Sb):a.le a:=⟨fun _ _ h=>h,fun _ _ _ _ h=>h⟩
theorem Sb.le.trans {a b c:Sb} (h:a.le b) (k:b.le c):a.le c:=⟨fun _ _ x=>k.s _ _ (h.s _ _ x),fun _ _ _ _ x=>k.j _ _ _ _ (h.j _ _ _ _ x)⟩
def Rep (w:World) (St:Sb):D→List Value→Prop
 | .sc v,cs=>cs=[v]∧v.oneCell'=true
 | .nil,cs=>cs=[]
 | .cons a b,cs => ∃ c1 c2,cs=c1++c2∧Rep w St a c1∧Rep w St b c2
 | .sl d,cs => ∃ A n c,cs=[.slice A n c]∧n=d.len∧n≤c ∧
   (n=0 ∨ ∃ ad ds,A=some ad∧ad.spot=none∧Rep w St d ds ∧ ∀ j u,ds[j]? = some u→w.cell? (ad.add j)=some u∧St ad.block (ad.off+j))
 | .jk e n,cs => ∃ A c,cs=[.slice A n c]∧((A=none∧n=0∧c=0) ∨ ∃ b,A=some ⟨b,0,none⟩∧St.j b e c n)
theorem Rep.one {w:World} {St:Sb} : ∀ {d:D} {cs:List Value},Rep w St d cs → ∀ u∈cs,u.oneCell'=true
 | .sc v,cs,h,u,hu=>by obtain ⟨rfl,h1⟩:=h; simp at hu; rw [hu]; exact h1
 | .nil,cs,h,u,hu=>by have h:cs=[]:=h; subst h; simp at hu
 | .cons a b,cs,h,u,hu=>by
  obtain ⟨c1,c2,rfl,ha,hb⟩:=h
  rcases List.mem_append.1 hu with h1 | h1
  ·exact ha.one u h1
  ·exact hb.one u h1
 | .sl d,cs,h,u,hu=>by
  obtain ⟨A,n,c,rfl,_⟩:=h
  simp at hu; rw [hu]; rfl
 | .jk e n,cs,h,u,hu=>by
  obtain ⟨A,c,rfl,_⟩:=h
  simp at hu; rw [hu]; rfl
theorem Rep.mono {w w':World} {St St':Sb} (hs:St.le St')
  (hc : ∀ (a:Addr) v,St a.block a.off→a.spot=none→w.cell? a=some v→w'.cell? a=some v) :
  ∀ {d:D} {cs:List Value},Rep w St d cs→Rep w' St' d cs
 | .sc _,_,h=>h
 | .nil,_,h=>h
 | .cons a b,cs,h=>by
  obtain ⟨c1,c2,rfl,ha,hb⟩:=h
  exact ⟨c1,c2,rfl,ha.mono hs hc,hb.mono hs hc⟩
 | .sl d,cs,h=>by
  obtain ⟨A,n,c,rfl,hn,hnc,h⟩:=h
  refine ⟨A,n,c,rfl,hn,hnc, ?_⟩
  rcases h with h | ⟨ad,ds,rfl,hsp,hd,hcell⟩
  ·exact .inl h
  ·refine .inr ⟨ad,ds,rfl,hsp,hd.mono hs hc,fun j u hu => ?_⟩
   obtain ⟨h1,h2⟩:=hcell j u hu
   have hb:(ad.add j).block=ad.block∧(ad.add j).off=ad.off+j∧(ad.add j).spot=none:=by
    unfold Addr.add; split <;> simp_all
   exact ⟨hc _ _ (by rw [hb.1,hb.2.1]; exact h2) hb.2.2 h1,hs.s _ _ h2⟩
 | .jk e n,cs,h=>by
  obtain ⟨A,c,rfl,h⟩:=h
  exact ⟨A,c,rfl,h.imp id fun ⟨b,e1,e2⟩=>⟨b,e1,hs.j _ _ _ _ e2⟩⟩
mutual
theorem PB {w:World} {St:Sb} : ∀ {t:Tree} {cs:List Value},Rep w St (qj t) cs→cs.length=4
 | .mk k t ls ks,cs,h=>by
  simp only [qj,U6,Rep] at h
  obtain ⟨c1,c2,rfl,⟨rfl,_⟩,c3,c4,rfl,⟨rfl,_⟩,c5,c6,rfl,⟨A,n,c,rfl,_⟩,c7,c8,rfl,⟨A',n',c',rfl,_⟩,rfl⟩:=h
  rfl
end
theorem Rep.size {w:World} {St:Sb} : ∀ {t:Ty} {x:t.den} {cs:List Value},Rep w St (toD t x) cs→cs.length=t.size
 | .int _,_,_,h=>by obtain ⟨rfl,_⟩:=h; rfl
 | .bool,_,_,h=>by obtain ⟨rfl,_⟩:=h; rfl
 | .str,_,_,h=>by obtain ⟨rfl,_⟩:=h; rfl
 | .slice _,_,_,h=>by obtain ⟨A,n,c,rfl,_⟩:=h; rfl
 | .unit,_,_,h=>by have h:_=[]:=h; subst h; rfl
 | .cons a b,x,_,h=>by
  obtain ⟨c1,c2,rfl,ha,hb⟩:=h
  simp [Ty.size,ha.size,hb.size]
 | .tree,_,_,h=>PB h
 | .jsl _,_,_,h=>by obtain ⟨A,c,rfl,_⟩:=h; rfl
def D.nojk:D→Bool
 | .jk _ _=>false
 | .cons a b=>a.nojk&&b.nojk
 | .sl d=>d.nojk
 | _=>true
def Ty.nojk:Ty→Bool
 | .jsl _=>false
 | .slice t=>t.nojk
 | .cons a b=>a.nojk&&b.nojk
 | _=>true
theorem uI {α:Type} {f:α→D} : ∀ {l:List α},(∀ x∈l,(f x).nojk=true)→(bA f l).nojk=true
 | [],_=>rfl
 | x::l,h=>by simp only [bA,D.nojk,h x (List.mem_cons_self ..),uI fun y hy=>h y (List.mem_cons_of_mem _ hy),Bool.and_self]
mutual
theorem Gm : ∀ t:Tree,(qj t).nojk=true
 | .mk k t ls ks=>by simp only [qj,D.nojk,U6,uI (f:=U6) (l:=ls) fun _ _=>rfl,C1 ks,Bool.and_self]
theorem C1 : ∀ ts:List Tree,(qy ts).nojk=true
 | []=>rfl
 | t::ts=>by simp only [qy,D.nojk,Gm t,C1 ts,Bool.and_self]
end
theorem sN : ∀ {t:Ty} (x:t.den),t.nojk=true→(toD t x).nojk=true
 | .int _,_,_=>rfl
 | .bool,_,_=>rfl
 | .str,_,_=>rfl
 | .unit,_,_=>rfl
 | .jsl _,_,h=>by cases h
 | .tree,x,_=>Gm x
 | .slice t,l,h=>uI fun x _=>sN x h
 | .cons a b,x,h=>by
  simp only [Ty.nojk,Bool.and_eq_true] at h
  simp only [toD,D.nojk,sN x.1 h.1,sN x.2 h.2,Bool.and_self]
theorem Rep.nj {w:World} {St St':Sb} (hs : ∀ b o,St b o→St' b o) : ∀ {d:D} {cs:List Value},d.nojk=true→Rep w St d cs→Rep w St' d cs
 | .sc _,_,_,h=>h
 | .nil,_,_,h=>h
 | .cons a b,cs,hd,h=>by
  simp only [D.nojk,Bool.and_eq_true] at hd
  obtain ⟨c1,c2,rfl,ha,hb⟩:=h
  exact ⟨c1,c2,rfl,ha.nj hs hd.1,hb.nj hs hd.2⟩
 | .sl d,cs,hd,h=>by
  obtain ⟨A,n,c,rfl,hn,hnc,h⟩:=h
  refine ⟨A,n,c,rfl,hn,hnc, ?_⟩
  rcases h with h | ⟨ad,ds,rfl,hsp,hd',hcell⟩
  ·exact .inl h
  ·exact .inr ⟨ad,ds,rfl,hsp,hd'.nj hs hd,fun j u hu=>⟨(hcell j u hu).1,hs _ _ (hcell j u hu).2⟩⟩
 | .jk _ _,_,hd,_=>by cases hd
def cE (w:World) (St:Sb) (t:Ty) (x:t.den) (v:Value):Prop :=
 if t.isStruct then ∃ cs,v = .agg cs.toArray∧Rep w St (toD t x) cs else Rep w St (toD t x) [v]
theorem cE.cells {w:World} {St:Sb} {t:Ty} {x:t.den} {v:Value} (h:cE w St t x v):Rep w St (toD t x) v.cells.toList:=by
 unfold cE at h
 split at h
 ·obtain ⟨cs,rfl,h⟩:=h
  simpa [Value.cells] using h
 ·have h1:=h.one v (by simp)
  have:v.cells = #[v]:=by cases v <;> simp_all [Value.oneCell',Value.cells]
  rw [this]; exact h
theorem cE.mono {w w':World} {St St':Sb} (hs:St.le St')
  (hc : ∀ (a:Addr) v,St a.block a.off→a.spot=none→w.cell? a=some v→w'.cell? a=some v) {t:Ty} {x:t.den} {v:Value} (h:cE w St t x v):cE w' St' t x v:=by
 unfold cE at *
 split
 ·rename_i ht
  simp only [ht,if_true] at h
  obtain ⟨cs,rfl,h⟩:=h
  exact ⟨cs,rfl,h.mono hs hc⟩
 ·rename_i ht
  simp only [ht] at h
  exact Rep.mono hs hc h
theorem cE.nj {w:World} {St St':Sb} (hs : ∀ b o,St b o→St' b o) {t:Ty} {x:t.den} {v:Value} (ht:t.nojk=true) (h:cE w St t x v):cE w St' t x v:=by
 have hd:=sN x ht
 unfold cE at *
 split
 ·rename_i q
  simp only [q,if_true] at h
  obtain ⟨cs,rfl,h⟩:=h
  exact ⟨cs,rfl,h.nj hs hd⟩
 ·rename_i q
  simp only [q] at h
  exact Rep.nj hs hd h
theorem fT {w:World} {St:Sb} {t:Ty} {l:List t.den} {cs:List Value} (h:Rep w St (toD (.slice t) l) cs) :
  ∃ A c,cs=[.slice A l.length c]∧l.length≤c∧(l.length=0 ∨ ∃ ad ds,A=some ad∧ad.spot=none∧Rep w St (bA (toD t) l) ds ∧ ∀ j u,ds[j]? = some u→w.cell? (ad.add j)=some u∧St ad.block (ad.off+j)):=by
 simp only [toD,Rep,e6] at h
 obtain ⟨A,n,c,rfl,rfl,hc,h⟩:=h
 exact ⟨A,c,rfl,hc,h⟩
theorem xN {w:World} {St:Sb} {t:Ty} : ∀ {l:List t.den} {ds:List Value},Rep w St (bA (toD t) l) ds → ∀ i (h:i<l.length),
  Rep w St (toD t l[i]) ((ds.drop (i * t.size)).take t.size)
 | [],_,_,i,h=>absurd h (by simp)
 | x::l,ds,hr,i,h=>by
  obtain ⟨c1,c2,rfl,h1,h2⟩:=hr
  have hs:=h1.size
  cases i with
  | zero=>simp only [List.getElem_cons_zero,Nat.zero_mul,List.drop_zero]; rw [← hs,List.take_left]; exact h1
  | succ i =>
   have:=xN h2 i (by simpa using h)
   rw [show (i+1) * t.size=c1.length+i * t.size by rw [Nat.add_mul,hs]; omega,List.drop_length_add_append]
   simpa using this
theorem bG {w:World} {St:Sb} {t:Ty} : ∀ {l:List t.den} {ds:List Value},Rep w St (bA (toD t) l) ds→ds.length=l.length * t.size
 | [],ds,h=>by have h:ds=[]:=h; subst h; simp
 | x::l,ds,h=>by
  obtain ⟨c1,c2,rfl,h1,h2⟩:=h
  simp [h1.size,bG h2,Nat.add_mul,Nat.add_comm]
theorem di {w:World} {St:Sb} {t:Ty} : ∀ {l l':List t.den} {ds ds':List Value},Rep w St (bA (toD t) l) ds→Rep w St (bA (toD t) l') ds'→Rep w St (bA (toD t) (l++l')) (ds++ds')
 | [],_,ds,_,h,h'=>by have h:ds=[]:=h; subst h; simpa using h'
 | x::l,l',ds,ds',h,h'=>by
  obtain ⟨c1,c2,rfl,h1,h2⟩:=h
  exact ⟨c1,c2++ds',by simp,h1,di h2 h'⟩
theorem im {w:World} {St:Sb} {t:Ty} : ∀ {l:List t.den} {ds:List Value} (k:Nat),k≤l.length→Rep w St (bA (toD t) l) ds→Rep w St (bA (toD t) (l.drop k)) (ds.drop (k * t.size))
 | l,ds,0,_,h=>by simpa using h
 | [],ds,k+1,hk,h=>by simp at hk
 | x::l,ds,k+1,hk,h=>by
  obtain ⟨c1,c2,rfl,h1,h2⟩:=h
  have:=im k (by simpa using hk) h2
  rw [show (k+1) * t.size=c1.length+k * t.size by rw [Nat.add_mul,h1.size]; omega,List.drop_length_add_append]
  simpa using this
theorem eO {w:World} {St:Sb} {t:Ty} : ∀ {l:List t.den} {ds:List Value} (k:Nat),k≤l.length→Rep w St (bA (toD t) l) ds→Rep w St (bA (toD t) (l.take k)) (ds.take (k * t.size))
 | l,ds,0,_,h=>by simp [bA,Rep]
 | [],ds,k+1,hk,h=>by simp at hk
 | x::l,ds,k+1,hk,h=>by
  obtain ⟨c1,c2,rfl,h1,h2⟩:=h
  have:=eO k (by simpa using hk) h2
  rw [show (k+1) * t.size=c1.length+k * t.size by rw [Nat.add_mul,h1.size]; omega]
  refine ⟨c1,c2.take (k * t.size), ?_,h1,this⟩
  rw [List.take_length_add_append]
end Go.Proofs.YtboikinjlmjgjaaGreat.Abs
