/- One operation. -/
import Derived.Test.YthfdnklcgfkjoaaGreatDoorAbsD
set_option linter.all false
namespace Go.Proofs.YthfdnklcgfkjoaaGreatDoor.Abs
open Go Go.RowKit
def zl:Ty→List Value
 |.int k=>[.int k 0]
 |.bool=>[.bool false]
 |.str=>[.string ⟨#[]⟩]
 |.slice _=>[.slice none 0 0]
 |.unit=>[]
 |.cons a b=>zl a++zl b
 |.tree=>[.int .i64 0,.string ⟨#[]⟩,.slice none 0 0,.slice none 0 0]
 |.jsl _=>[.slice none 0 0]
def ug:TypeDesc→Bool
 |.struct _|.array _ _=>false
 |_=>true
def FOk (ty:TypeId→Option Ty):List Field→List Ty→Nat→Prop
 |[],[],_=>True
 |f::fs,a::as,off=>(∃b,ty f.type=some b∧b.size=a.size∧b.isStruct=a.isStruct∧(a.nojk=true→b=a))∧f.offset=off∧0<a.size∧f.name ≠ "_" ∧ FOk ty fs as (off+a.size)
 |_,_,_=>False
def Yz (P:Program)(f:Tab)(t:TypeId):Ty→Prop
 |.int k=>P.underlying t=some (.int k)
 |.bool=>P.underlying t=some .bool
 |.str=>P.underlying t=some .string
 |.slice a=>∃e,P.underlying t=some (.slice e)∧f.ty e=some a∧f.elem t=some e∧0<a.size
 |.jsl e=>∃a,P.underlying t=some (.slice e)∧f.ty e=some a∧a.size=1∧f.elem t=some e
 |j=>∃g,P.underlying t=some (.struct g)∧P.stoodInHeld t=false∧P.eqGuardType P.depth t=false∧FOk f.ty g.toList j.fields 0
structure TabOk (P:Program)(tab:Tab):Prop where
 ty:∀t τ,tab.ty t=some τ→∃i z,P.info? t=some i∧i.size=τ.size∧i.zero=some z∧z.cells.toList=zl τ∧i.bytes≤16384∧(τ.isStruct=true→∃cs,z = .agg cs)∧Yz P tab t τ
 cells:∀t n,tab.cells t=some n→∃i z d,P.info? t=some i∧i.size=n∧i.zero=some z∧z.cells.size=n∧P.underlying t=some d∧(tab.ty t=none→n=1→ug d=true)
 offs:∀t i d,tab.offs t i=some d→∃fs f j,P.underlying t=some (.struct fs)∧fs[i]? = some f∧f.offset=d∧P.info? f.type=some j∧0<j.size
 elem:∀t e,tab.elem t=some e→P.underlying t=some (.slice e)
 one:∀t n,tab.one t=some n→∃fs i z,P.underlying t=some (.struct fs)∧fs.size=n∧(∀(k:Nat) f,fs[k]? = some f→f.offset=k∧∃j,P.info? f.type=some j∧j.size=1)∧P.info? t=some i∧i.zero=some z∧z.cells.size=n
 arr:∀t n,tab.arr t=some n→∃e i z j,P.underlying t=some (.array n e)∧P.info? e=some j∧j.size=1∧P.info? t=some i∧i.zero=some z∧z.cells.size=n
section
variable {P:Program}{tab:Tab}
variable{t:TypeId}{τ:Ty}
def gL (g:τ.isStruct=true)(h:Yz P tab t τ):∃f,P.underlying t=some (.struct f)∧P.stoodInHeld t=false∧P.eqGuardType P.depth t=false∧FOk tab.ty f.toList τ.fields 0:=by cases τ <;> simp[Ty.isStruct]at g <;> exact h
def run_isAgg (p:TabOk P tab)(h:tab.ty t=some τ)(w:World):(isAgg t).run P w = .ok τ.isStruct w:=by
 obtain⟨i,z,_,_,_,_,_,_,f⟩:=p.ty t τ h;cases τ with
 |slice a=>obtain⟨e,j,_⟩:=f;simp[isAgg,ε j,Ty.isStruct]
 |jsl e=>obtain⟨a,j,_⟩:=f;simp[isAgg,ε j,Ty.isStruct]
 |int k=>have f:P.underlying t=some (.int k):=f;simp[isAgg,ε f,Ty.isStruct]
 |bool=>have f:P.underlying t=some .bool:=f;simp[isAgg,ε f,Ty.isStruct]
 |str=>have f:P.underlying t=some .string:=f;simp[isAgg,ε f,Ty.isStruct]
 |unit=>obtain⟨l,g,_⟩:=f;simp[isAgg,ε g,Ty.isStruct]
 |cons a b=>obtain⟨l,g,_⟩:=f;simp[isAgg,ε g,Ty.isStruct]
 |tree=>obtain⟨l,g,_⟩:=f;simp[isAgg,ε g,Ty.isStruct]
def aJ (f:TabOk P tab)(h:tab.ty t=some τ)(w:World):(sizeOf t).run P w = .ok τ.size w:=by obtain⟨i,z,j,g,_⟩:=f.ty t τ h;simp[sizeOf,typeInfo,j,g]
def rJ (h:τ.isStruct=false):τ.size=1:=by cases τ <;> simp[Ty.isStruct]at h <;> rfl
def cO (p:TabOk P tab)(h:tab.ty t=some τ)(w:World)(l:Addr)(f:List Value)(g:f.length=τ.size)(r:∀j u,f[j]? = some u→w.cell? (l.add j)=some u) :
  ∃v,(loadVar t l).run P w = .ok v w∧(if τ.isStruct then v = .agg f.toArray else f=[v]):=by
 simp[loadVar,ν,run_isAgg p h];cases C:τ.isStruct with
 |true =>simp[ν,aJ p h];rw[←g,B? (P:=P) w l f r];simp
 |false=>
  have J:=rJ C;rw[J]at g;match f,g with
  |[u],_ =>have:=r 0 u rfl;rw[add_zero]at this;simp[run_load,this]
def gr {w:World}{St:Sb}{x:τ.den}{g:List Value}{v:Value}(h:Rep w St (toD τ x) g)(f:if τ.isStruct then v = .agg g.toArray else g=[v]):RepV w St τ x v:=by
 unfold RepV;split
 next hs=>simp[hs]at f;exact⟨g,f,h⟩
 next hs=>simp only[hs]at f;simp at f;rw[f]at h;exact h
end
section
variable {P:Program}{tab:Tab}{B:Bd}{R:World}{J:Sb}{c:Gh}{o:Oper}{a:Act}
def Ok (P:Program)(B:Bd)(R:World)(J:Sb)(o:Oper)(a:Act)(c:Gh)(f:List HO)(out:AV):Prop :=
 ∀(K:Act→World→Prop) (Q:Exit→Act→World→Prop),(∀v g,g.heap=f→Inv B R J g→Ev c g→RA g out [v]→K (a.put o.dst v) g.w)→o.wp P a c.w K Q
variable{v:Value}{out u:AV}{x:Operand}{w:World}{St:Sb}{b:Bool}{t:TypeId}{fresh k off:Nat}{cells:List AV}{τ:Ty}{d:TypeDesc}
def du {g:Gh}{f:List HO}(j:(execOp a.eval o).run P c.w = .ok (.value v) g.w)(r:g.heap=f)(p:Inv B R J g)(C:Ev c g)(l:RA g out [v]) :
  Ok P B R J o a c f out:=λK Q h=>by
 unfold Oper.wp;rw[j];exact h v g r p C l
def av (j:Inv B R J c)(f:(execOp a.eval o).run P c.w = .ok (.value v) c.w)(g:RA c out [v]):Ok P B R J o a c c.heap out :=
 du f rfl j (Ev.refl c) g
def Xm (j:Inv B R J c)(f:o.op = .move x∨o.op = .assign x)(g:RA c u [a.eval x]):Ok P B R J o a c c.heap u:=by refine av j (v:=a.eval x) ?_ g;unfold execOp;obtain f|f:=f <;> simp[f]
def RA.val_inv {t:Ty}{x:t.den}(h:RA c (.val t x) [v]):RepV c.w c.St t x v:=by obtain⟨v',e,h⟩:=h;simp at e;subst e;exact h
def gq (h:RepV w St .bool b v):v = .bool b:=by have h:=(repv_cell rfl).1 h;obtain⟨h,_⟩:=h;simpa using h
def cI {k:IntKind}{n:Int}(h:RepV w St (.int k) n v):v = .int k n:=by have h:=(repv_cell rfl).1 h;obtain⟨h,_⟩:=h;simpa using h
def zN {s:Str}(h:RepV w St .str s v):v = .string ⟨s.toArray⟩:=by have h:=(repv_cell rfl).1 h;obtain⟨h,_⟩:=h;simpa using h
def Qq (w:World)(St:Sb)(b:Bool):RepV w St .bool b (.bool b):=(repv_cell rfl).2 ⟨rfl,rfl⟩
def yt (w:World)(St:Sb)(k:IntKind)(n:Int):RepV w St (.int k) n (.int k n):=(repv_cell rfl).2 ⟨rfl,rfl⟩
def Ur (w:World)(St:Sb)(s:Str):RepV w St .str s (.string ⟨s.toArray⟩):=(repv_cell rfl).2 ⟨rfl,rfl⟩
def bZ (b:Bool):RA c (.val .bool b) [.bool b]:=⟨_,rfl,Qq _ _ b⟩
def di (k:IntKind)(n:Int):RA c (.val (.int k) n) [.int k n]:=⟨_,rfl,yt _ _ k n⟩
def Cb (s:Str):RA c (.val .str s) [.string ⟨s.toArray⟩]:=⟨_,rfl,Ur _ _ s⟩
def xI {f:Bool}(h:RA c u [v])(j:(Ag f u).1=true)(l:f=true):RA c (Ag f u).2 [v]:=by
 unfold Ag at *;split at j
 next g u'=>have j:az f g=true:=j;rw[l,pZ]at j;simp[RA,j]at h;exact h
 ·exact h
def Nm {y z:Operand}(U:Inv B R J c)(T:o.op = .pick x y z){p q:AV}(j:RA c (.val .bool b) [a.eval x])(g:b=true→RA c p [a.eval y])(f:b=false→RA c q [a.eval z])
  {t:Ty} {s r:t.den} (C:p = .val t s) (l:q = .val t r):Ok P B R J o a c c.heap (.val t (bif b then s else r)):=by
 subst C;subst l;have hb:=gq j.val_inv;refine av U (v:=if b then a.eval y else a.eval z) ?_ ?_
 ·unfold execOp;simp[T,hb,asBool]
 ·cases b
  ·exact f rfl
  ·exact g rfl
def dl {w:World}{St:Sb}:∀t:Ty,Rep w St (toD t (zero t)) (zl t)
 |.int _=>⟨rfl,rfl⟩
 |.bool=>⟨rfl,rfl⟩
 |.str=>⟨rfl,rfl⟩
 |.slice _=>⟨none,0,0,rfl,rfl,δ _,.inl rfl⟩
 |.jsl _=>⟨none,0,rfl,.inl ⟨rfl,rfl,rfl⟩⟩
 |.unit=>rfl
 |.cons a b=>⟨_,_,rfl,dl a,dl b⟩
 |.tree=>⟨[.int .i64 0],_,rfl,⟨rfl,rfl⟩,[.string ⟨#[]⟩],_,rfl,⟨rfl,rfl⟩,[.slice none 0 0],_,rfl,⟨none,0,0,rfl,rfl,δ _,.inl rfl⟩,[.slice none 0 0],_,rfl,⟨none,0,0,rfl,rfl,δ _,.inl rfl⟩,rfl⟩
def nW:∀t:Ty,RAs c (C1 t) (zl t)
 |.int k=>⟨di k 0,awN⟩
 |.bool=>⟨bZ false,awN⟩
 |.str=>⟨Cb [],awN⟩
 |.slice _=>⟨rfl,awN⟩
 |.jsl _=>⟨rfl,awN⟩
 |.unit=>trivial
 |.cons a b=>(nW a).append (nW b)
 |.tree=>⟨di .i64 0,Cb [],rfl,rfl,awN⟩
def NB (j:Inv B R J c)(p:c.heap[fresh]? = some .none){arr:Array Value}(P:RAs c cells arr.toList) :
  ∃l,l.w=c.w.alloc (.cells arr t)∧l.heap=c.heap.set fresh (.box cells)∧Inv B R J l∧Ev c l∧RA l (.box fresh 0) [.pointer (some ⟨c.w.heap.size,0,none⟩)]:=by
 obtain⟨U,r⟩:=j.grow (w':=c.w.alloc (.cells arr t)) (St':=c.St) ((Below.refl _ _).alloc (δ _) _) (Sb.le.refl _) (λ_ _ x=>.inl x) (δ _) (λ_ _ _ _ x=>.inl x);obtain⟨T,e2⟩:=U.addBox (k:=fresh) (g:=c.w.heap.size) (arr:=arr) (t:=t) (cells:=cells) p (B_ c.w _) j.size (λf=>by have:=j.fl _ f;omega)
  (λo x=>by have:=j.bnd _ _ x;omega) (λC x=>by have:=(gi j (k:=C) x).1;omega) (λe cap n x=>(j.junk _ e cap n x).resolve_right λq=>Nat.lt_irrefl _ q.lt) (P.mono r)
 refine⟨_,rfl,rfl,T,r.trans e2,cells, ?_, ?_⟩
 ·show(c.heap.set fresh _)[fresh]? = _;rw[get_set,β rfl,β (aq p)]
 ·simp
def GO (p:Inv B R J c)(f:TabOk P tab)(l:o.op = .alloc t)(C:c.heap[fresh]? = some .none)(j:tab.ty t=some τ) :
  Ok P B R J o a c (c.heap.set fresh (.box (C1 τ))) (.box fresh 0):=by
 obtain⟨i,z,h1,h2,h3,h4,_⟩:=f.ty t τ j;obtain⟨c',g,r,U,hE,T⟩:=NB (t:=t) p C (arr:=z.cells) (cells:=C1 τ) (by rw[h4];exact nW τ);refine du (v :=.pointer (some ⟨c.w.heap.size,0,none⟩)) ?_ r U hE T;rw[g];unfold execOp;simp[l,Instr.alloc,zeroValue,typeInfo,h1,h3,newVar,newRow]
def EZ:∀{n:Nat} {f:List Value},f.length=n→RAs c (List.replicate n .unk) f
 |0,[],_=>trivial
 |n+1,v::f,h=>⟨⟨v,rfl⟩,EZ (by simpa using h)⟩
def Nv (p:Inv B R J c)(f:TabOk P tab)(l:o.op = .alloc t)(C:c.heap[fresh]? = some .none){n:Nat}(j:tab.cells t=some n) :
  Ok P B R J o a c (c.heap.set fresh (.box (List.replicate n .unk))) (.box fresh 0):=by
 obtain⟨i,z,d,h1,h2,h3,h4,_⟩:=f.cells t n j;obtain⟨c',g,r,U,hE,T⟩:=NB (t:=t) p C (arr:=z.cells) (cells:=List.replicate n .unk) (EZ (by simpa using h4));refine du (v :=.pointer (some ⟨c.w.heap.size,0,none⟩)) ?_ r U hE T;rw[g];unfold execOp;simp[l,Instr.alloc,zeroValue,typeInfo,h1,h3,newVar,newRow]
def pQ (h:RA c u [v])(R:u.solid=true) :
  RAs c (cellsOf u) v.cells.toList∧∀x∈v.cells.toList,x.oneCell'=true:=by
 cases u with
 |unk=>simp[AV.solid]at R
 |cond g u=>simp[AV.solid]at R
 |tup p=>simp[AV.solid]at R
 |pcons a b=>simp[AV.solid]at R
 |pnil=>simp[AV.solid]at R
 |fix C w=>simp[AV.solid]at R
 |val t x=>exact⟨yH h.val_inv.cells,h.val_inv.cells.one⟩
 |nil =>have h:[v]=[.slice none 0 0]:=h;simp at h;subst h;exact⟨⟨rfl,awN⟩,by simp[Value.cells,Value.oneCell']⟩
 |own k n t l =>have J:=h;obtain⟨s,e,r,_⟩:=h;simp at e;subst e;have P:=((repv_cell (t :=.slice t) rfl).1 r);obtain⟨A,n',cp,e,_⟩:=P;simp at e;subst e;exact⟨⟨J,awN⟩,by simp[Value.cells,Value.oneCell']⟩
 |ref t x =>have J:=h;obtain⟨ad,ds,e,_⟩:=h;simp at e;subst e;exact⟨⟨J,awN⟩,by simp[Value.cells,Value.oneCell']⟩
 |box k off =>have J:=h;obtain⟨T,_,e⟩:=h;simp at e;subst e;exact⟨⟨J,awN⟩,by simp[Value.cells,Value.oneCell']⟩
 |fn f U =>have J:=h;obtain⟨T,e,_⟩:=h;simp at e;subst e;exact⟨⟨J,awN⟩,by simp[Value.cells,Value.oneCell']⟩
 |agg p =>obtain⟨T,e,r,P,h1⟩:=h;simp at e;subst e;exact⟨by simpa[Value.cells,cellsOf]using r.parts P,by simpa[Value.cells]using h1⟩
 |msl k n lo hi=>
  have J:=h;obtain⟨s,e,o1,_⟩:=h;simp at e;subst e;have P:v.cells = #[v]:=by cases v <;> simp_all[Value.oneCell',Value.cells]
  rw[P];exact⟨⟨J,awN⟩,by simpa using o1⟩
 |yld j =>have J:=h;obtain⟨_,e⟩:=h;simp at e;subst e;exact⟨⟨J,awN⟩,by simp[Value.cells,Value.oneCell']⟩
 |mpt k n i off=>
  have J:=h;obtain⟨s,e,o1,_⟩:=h;simp at e;subst e;have P:v.cells = #[v]:=by cases v <;> simp_all[Value.oneCell',Value.cells]
  rw[P];exact⟨⟨J,awN⟩,by simpa using o1⟩
def UU (r:Inv B R J c)(p:o.op = .box t x)(T:c.heap[fresh]? = some .none)(g:RA c u [a.eval x])
  (j:u.solid=true) :
  Ok P B R J o a c (c.heap.set fresh (.box (cellsOf u))) (.box fresh 0):=by
 obtain⟨l,_⟩:=pQ g j;obtain⟨c',f,C,hI,hE,U⟩:=NB (t:=t) r T l;refine du (v :=.pointer (some ⟨c.w.heap.size,0,none⟩)) ?_ C hI hE U;rw[f];unfold execOp;simp[p,Instr.box,newVar,newRow]
def qZ (p:Inv B R J c)(l:c.heap[k]? = some (.box cells)) :
  ∃f t,c.w.heap[c.blk k]? = some (.cells f t (0,0))∧RAs c cells f.toList∧∀j,c.w.cell? ⟨c.blk k,j,none⟩=f.toList[j]?:=by
 obtain⟨f,t,g,_,_,r⟩:=p.box k cells l;refine⟨f,t,g,r,λj=>?_⟩;rw[asN c.w (c.blk k) j f t (0,0) g];simp
def cH (b off j:Nat):(⟨b,off,none⟩:Addr).add j=⟨b,off+j,none⟩:=by unfold Addr.add;split <;> simp_all
def GL (r:Inv B R J c)(C:TabOk P tab)(ho:o.op = .load t x)(U:RA c (.box k off) [a.eval x])(hk:c.heap[k]? = some (.box cells))
  (ht:tab.ty t=some τ) {y:τ.den} (T:asm τ ((cells.drop off).take τ.size)=some y):Ok P B R J o a c c.heap (.val τ y):=by
 obtain⟨cs,hk',e⟩:=U;obtain⟨arr,t',h1,h2,h3⟩:=qZ r hk;have f:=ra T ((h2.drop off).take τ.size);obtain⟨v,l,g⟩:=cO C ht c.w ⟨c.blk k,off,none⟩ _ f.size (λj u p=>by
  rw[cH,h3,←p,E'];have hj:j<τ.size:=by
   obtain h|h:=T' j τ.size
   ·exact h
   ·rw[E',ο Ω]at p;cases p
  rw[β hj,U'])
 refine av r (v:=v) ?_ ⟨v,rfl,gr f g⟩;unfold execOp;simp at e;simp[ho,e,Instr.loadAt,Instr.sureAddr,l]
def B9 (j:P.underlying t=some d)(g:ug d=true)(w:World)(f:Addr)(u:Value)(l:w.cell? f=some u):(loadVar t f).run P w = .ok u w:=by
 have:(isAgg t).run P w = .ok false w:=by cases d <;> simp[isAgg,ε j,ug]at g⊢
 simp[loadVar,this,run_load,l]
def Aj (j:Inv B R J c)(r:o.op = .load t x)(l:RA c (.box k off) [a.eval x])(U:c.heap[k]? = some (.box cells))(hd:P.underlying t=some d)
  (C:ug d=true) {u:AV} (p:cells[off]? = some u):Ok P B R J o a c c.heap u:=by
 obtain⟨cs,T,e⟩:=l;obtain⟨arr,t',h1,h2,h3⟩:=qZ j U;obtain⟨v,g,f⟩:=h2.get off u p;refine av j (v:=v) ?_ f;unfold execOp;simp at e;simp[r,e,Instr.loadAt,Instr.sureAddr,B9 hd C c.w ⟨c.blk k,off,none⟩ v ((h3 off).trans g)]
def Fl (g:τ.isStruct=false)(h:Yz P tab t τ):∃d,P.underlying t=some d∧ug d=true:=by
 cases τ with
 |int k=>exact⟨_,h,rfl⟩
 |bool=>exact⟨_,h,rfl⟩
 |str=>exact⟨_,h,rfl⟩
 |slice t=>obtain⟨e,f,_⟩:=h;exact⟨_,f,rfl⟩
 |jsl e=>obtain⟨a,f,_⟩:=h;exact⟨_,f,rfl⟩
 |_=>simp[Ty.isStruct]at g
def QW (hi:Inv B R J c)(p:TabOk P tab)(U:o.op = .load t x){y:τ.den}(r:RA c (.ref τ y) [a.eval x])(T:tab.ty t=some τ):Ok P B R J o a c c.heap (.val τ y):=by obtain⟨ad,ds,e,hs,l,hc⟩:=r;obtain⟨v,g,f⟩:=cO p T c.w ad ds l.size (λj u C=>(hc j u C).1);refine av hi (v:=v) ?_ ⟨v,rfl,gr l f⟩;unfold execOp;simp at e;simp[U,e,Instr.loadAt,Instr.sureAddr,g]
def GK (hi:Inv B R J c)(tk:TabOk P tab){y:Operand}(ho:o.op = .store t x y)(hx:RA c (.box k off) [a.eval x])(hy:RA c u [a.eval y])(hk:c.heap[k]? = some (.box cells))
  (hu:u.solid=true) (hoff:off+(cellsOf u).length≤cells.length) (ht:tab.cells t=some (cellsOf u).length) :
  Ok P B R J o a c (c.heap.set k (.box (dF cells off (cellsOf u)))) .unk:=by
 obtain⟨hr,h1c⟩:=pQ hy hu;obtain⟨cs,hk',e⟩:=hx;obtain⟨g,t',h1,h2,h3⟩:=qZ hi hk;obtain⟨i,z,d,j,T,_⟩:=tk.cells t _ ht;have r:=h2.length;have f:=hr.length;have C:off+0+(a.eval y).cells.toList.length≤g.size:=by rw[←f];simp at r;omega
 have l:=u? (P:=P) (c.blk k) off t' (a.eval y).cells.toList 0 g c.w h1 C h1c;obtain⟨hI,hE⟩:=hi.setBox (cells':=dF cells off (cellsOf u)) (arr':=(g.toList.take off++(a.eval y).cells.toList++g.toList.drop (off+(a.eval y).cells.toList.length)).toArray) hk h1 (by
  have:=((h2.take off).append hr).append (h2.drop (off+(cellsOf u).length));rw[f]at this;unfold dF;rw[f];simpa using this)
 intro K Q h;have p:(execOp a.eval o).run P c.w = .ok .skip (c.w.setRow (c.blk k) (g.toList.take off++(a.eval y).cells.toList++g.toList.drop (off+(a.eval y).cells.toList.length)).toArray):=by
  unfold execOp;simp at e;have U:(a.eval y).cells.size=i.size:=by rw[T,f];simp
  simp at l;simp[ho,e,Instr.storeAt,Instr.sureAddr,storeVar,sizeOf,typeInfo,j,U,l]
 unfold Oper.wp;rw[p];exact h undef _ rfl hI hE ⟨_,rfl⟩
def Cg (T:Inv B R J c)(g:TabOk P tab){s:TypeId}{f:Nat}(p:o.op = .fieldAddr s x f){d:Nat}(l:RA c (.box k off) [a.eval x])(U:tab.offs s f=some d) :
  Ok P B R J o a c c.heap (.box k (off+d)):=by
 obtain⟨cs,r,e⟩:=l;obtain⟨fs,fl,j,h1,h2,h3,h4,h5⟩:=g.offs s f d U;refine av T (v :=.pointer (some ⟨c.blk k,off+d,none⟩)) ?_ ⟨cs,r,rfl⟩;unfold execOp;simp at e;have C:¬j.size=0:=Ω
 simp[p,e,Instr.fieldAt,ε h1,h2,Instr.sureAddr,fieldPlace,sizeOf,typeInfo,h4,C,cH,h3]
end
open Go Go.RowKit
def nk:List Ty→Nat→Nat
 |a::r,i+1=>a.size+nk r i
 |_,_=>0
def FOk.at {ty:TypeId→Option Ty}:∀{fs:List Field} {as:List Ty} {off i:Nat} {b:Ty},FOk ty fs as off→as[i]? = some b →
  ∃f,fs[i]? = some f∧(∃b',ty f.type=some b'∧b'.size=b.size∧b'.isStruct=b.isStruct)∧f.offset=off+nk as i∧0<b.size∧f.name ≠ "_"
 |[],[],_,_,_,_,h=>by simp at h
 |f::fs,x::as,off,i,b,h,hi=>by
  obtain⟨h1,h2,h3,h4,h5⟩:=h;cases i with
  |zero=>simp at hi;subst hi;exact⟨f,rfl,(let ⟨b',q1,q2,q3,_⟩:=h1;⟨b',q1,q2,q3⟩),by simpa[nk]using h2,h3,h4⟩
  |succ i =>simp at hi;obtain⟨g,g1,g2,g3,g4⟩:=FOk.at h5 hi;exact⟨g,by simpa using g1,g2,by rw[g3];simp[nk];omega,g4⟩
def Gu {w:World}{St:Sb}:∀{t:Ty} {x:t.den} {i:Nat} {g:Ty} {y:g.den} {C:List Value},qu t x i=some ⟨g,y⟩→Rep w St (toD t x) C →
  t.fields[i]? = some g∧Rep w St (toD g y) ((C.drop (nk t.fields i)).take g.size)
 |.cons a b,x,0,g,y,C,h,r=>by simp only[qu]at h;injection h with h;injection h with l j;subst l;have j:=asa j;subst j;obtain⟨c1,c2,rfl,r1,r2⟩:=r;refine⟨rfl, ?_⟩;simp[nk,Ty.fields];rw[←r1.size,o?];exact r1
 |.cons a b,x,i+1,g,y,C,h,r=>by simp[qu]at h;obtain⟨c1,c2,rfl,r1,r2⟩:=r;obtain⟨l,j⟩:=Gu h r2;refine⟨by simpa[Ty.fields]using l, ?_⟩;simp[nk,Ty.fields];rw[←r1.size,a?];exact j
 |.tree,.mk k t ls ks,i,g,y,C,h,r=>by
  simp[toD,sS]at r;obtain⟨c1,c2,rfl,l,c3,c4,rfl,j,c5,c6,rfl,h3,c7,c8,rfl,U,J⟩:=r;have J:c8=[]:=J;subst J;have T:=l;obtain⟨rfl,o1⟩:=l;have R:=j;obtain⟨rfl,o2⟩:=j;have P:=h3;obtain⟨A,n,cp,rfl,_⟩:=h3;have p:=U;obtain⟨A',n',cp',rfl,_⟩:=U;match i with
  |0=>simp only[qu]at h;injection h with h;injection h with e1 f;subst e1;have f:=asa f;subst f;exact⟨rfl,T⟩
  |1=>simp only[qu]at h;injection h with h;injection h with e1 f;subst e1;have f:=asa f;subst f;exact⟨rfl,R⟩
  |2=>simp only[qu]at h;injection h with h;injection h with e1 f;subst e1;have f:=asa f;subst f;exact⟨rfl,P⟩
  |3=>simp only[qu]at h;injection h with h;injection h with e1 f;subst e1;have f:=asa f;subst f;rw[i9]at p;exact⟨rfl,p⟩
  |i+4=>simp[qu]at h
 |.int _,_,_,_,_,_,h,_=>by simp[qu]at h
 |.bool,_,_,_,_,_,h,_=>by simp[qu]at h
 |.str,_,_,_,_,_,h,_=>by simp[qu]at h
 |.slice _,_,_,_,_,_,h,_=>by simp[qu]at h
 |.unit,_,_,_,_,_,h,_=>by simp[qu]at h
def ue {t:Ty}{x:t.den}{i:Nat}{y:(f:Ty)×f.den}(h:qu t x i=some y):t.isStruct=true:=by
 cases t <;> first|rfl|simp[qu]at h
section
variable {P:Program}{tab:Tab}{B:Bd}{R:World}{J:Sb}{c:Gh}{o:Oper}{a:Act}
variable{x y:Operand}{f:Nat}{τ:Ty}{t:TypeId}{s:AV}{tt:Option Ty}{v:Value}{l:Str}{k:IntKind}{n:Int}{op:BinOp}{cl:Call}
def Cf (hi:Inv B R J c)(tk:TabOk P tab){s:TypeId}(ho:o.op = .fieldAddr s x f){g :Ty}{z:τ.den}{y:g.den}(hx:RA c (.ref τ z) [a.eval x])(ht:tab.ty s=some τ)(hp:qu τ z f=some ⟨g,y⟩) :
  Ok P B R J o a c c.heap (.ref g y):=by
 obtain⟨ad,ds,e,hs,hd,hc⟩:=hx;obtain⟨i,zz,_,_,_,_,_,_,l⟩:=tk.ty s τ ht;obtain⟨fs,h1,_,_,hf⟩:=gL (ue hp) l;obtain⟨T,p⟩:=Gu hp hd;obtain⟨fl,h2,⟨C,h3,U,_⟩,h4,h5,_⟩:=hf.at T;obtain⟨j,_,hj,r,_⟩:=tk.ty fl.type C h3;rw[U]at r;simp at h4;refine av hi (v :=.pointer (some (ad.add fl.offset))) ?_ ⟨_,_,rfl,(ip ad hs _).2.2,p,λk u l=>?_⟩
 ·unfold execOp;simp at e;have hz:¬g.size=0:=Ω
  have h2:fs[f]? = some fl:=by simpa using h2
  simp[ho,e,Instr.fieldAt,ε h1,h2,Instr.sureAddr,fieldPlace,sizeOf,typeInfo,hj,r,hz]
 ·have hk:ds[nk τ.fields f+k]? = some u:=by
   rw[E']at l;split at l
   ·rwa[U']at l
   ·cases l
  obtain⟨g1,g2⟩:=hc _ _ hk;obtain⟨f1,f2,_⟩:=ip ad hs fl.offset;rw[EY,f1,f2,h4,b?];exact⟨g1,g2⟩
def F0 (R:TabOk P tab){j:Ty}(T:tab.ty t=some j)(J:j.size=τ.size)(C:j.isStruct=τ.isStruct)(w:World){St:Sb}{x:τ.den}(g:Array Value)(f:Nat)(l:Rep w St (toD τ x) ((g.toList.drop f).take τ.size)) :
  ∃v,(part t g f).run P w = .ok v w∧RepV w St τ x v:=by
 simp[part,ν,run_isAgg R T,C];cases r:τ.isStruct with
 |true =>simp only[h?,ν,aJ R T,Θ,J];refine⟨_,rfl, ?_⟩;refine gr l ?_;simp[r];congr 1;apply i_;simp
 |false=>
  have h1:=rJ r;have U:=l.size;rw[h1]at U l;have p:f<g.size:=by simp at U;omega
  have e:(g.toList.drop f).take 1=[g[f]]:=by rw[asj (by simpa using p)];simp
  rw[e]at l;have hg:g[f]? = some g[f]:=by simp[p]
  refine⟨g[f], ?_,(repv_cell r).2 l⟩;simp[hg]
def adx (hi:Inv B R J c)(tk:TabOk P tab){s:TypeId}(ho:o.op = .field s x f){g :Ty}{z:τ.den}{y:g.den}(hx:RA c (.val τ z) [a.eval x])(ht:tab.ty s=some τ)(r:qu τ z f=some ⟨g,y⟩) :
  Ok P B R J o a c c.heap (.val g y):=by
 have j:=hx.val_inv;unfold RepV at j;rw[β (ue r)]at j;obtain⟨cs,e,hr⟩:=j;obtain⟨i,zz,_,_,_,_,_,_,hu⟩:=tk.ty s τ ht;obtain⟨fs,h1,_,_,hf⟩:=gL (ue r) hu;obtain⟨C,p⟩:=Gu r hr;obtain⟨fl,h2,⟨τb,h3,U,T⟩,h4,h5,_⟩:=hf.at C;simp at h4;obtain⟨v,l,j⟩:=F0 tk h3 U T c.w cs.toArray fl.offset (by rw[h4];exact p);refine av hi (v:=v) ?_ ⟨v,rfl,j⟩;unfold execOp;have h2:fs[f]? = some fl:=by simpa using h2
 simp[ho,e,Instr.field,ε h1,h2,asAgg,l]
def fk {l:List τ.den}(h:yh tt s=some ⟨τ,l⟩)(r:RA c s [v]):tt=some (.slice τ)∧RepV c.w c.St (.slice τ) l v:=by
 unfold yh at h;split at h
 next t=>
  split at h
  next l' g=>injection h with h;injection h with h1 f;subst h1;have f:=asa f;subst f;exact⟨rfl,one?_sound g r⟩
  ·cases h
 ·cases h
def tE (h:zo tt s=some l)(r:RA c s [v]):tt=some .str∧v = .string ⟨l.toArray⟩:=by
 unfold zo at h;split at h
 ·exact⟨rfl,zN (one?_sound h r)⟩
 ·cases h
def Nr (hi:Inv B R J c)(tk:TabOk P tab)(ho:o.op = .indexAddr t x y)(hx:RA c s [a.eval x])(hy:RA c (.val (.int k) n) [a.eval y]){l:List τ.den}
  (hl:yh (tab.ty t) s=some ⟨τ,l⟩) (h0:0≤n) (h1:n<(l.length:Int)):Ok P B R J o a c c.heap (.ref τ (l.getD n.toNat (zero τ))):=by
 obtain⟨ht,hv⟩:=fk hl hx;obtain⟨i,z,_,_,_,_,_,_,f⟩:=tk.ty t _ ht;obtain⟨e,he,U,_,hpos⟩:=f;have hr:=(repv_cell (t :=.slice τ) rfl).1 hv;obtain⟨A,cp,ev,hcap,hds⟩:=dI hr;have hn:n.toNat<l.length:=Ω
 obtain⟨ad,ds,rfl,p,r,g⟩:=hds.resolve_left Ω;have hei:=u6 r n.toNat hn;have C:l.getD n.toNat (zero τ)=l[n.toNat]:=by simp[List.getD,ζ hn]
 refine av hi (v :=.pointer (some (ad.add (n.toNat*τ.size)))) ?_ ⟨_,_,rfl,(ip ad p _).2.2,by rw[C];exact hei,λj u f=>?_⟩
 ·unfold execOp;have T:=cI hy.val_inv;simp at ev;simp[ho,T,ev,Instr.indexAt,asIntOf,ε he,h0,h1,aJ tk U]
 ·rw[E']at f;split at f
  ·rw[U']at f;obtain⟨g1,g2⟩:=g _ _ f;obtain⟨f1,f2,_⟩:=ip ad p (n.toNat*τ.size);rw[EY,f1,f2,b?];exact⟨g1,g2⟩
  ·cases f
def Np (hi:Inv B R J c)(r:TabOk P tab)(ho:o.op = .index t x y)(T:RA c s [a.eval x])(C:RA c (.val (.int k) n) [a.eval y])
  (hl:zo (tab.ty t) s=some l) (h0:0≤n) (h1:n<(l.length:Int)):Ok P B R J o a c c.heap (.val (.int .u8) ((l.getD n.toNat 0).toNat:Int)):=by
 obtain⟨ht,U⟩:=tE hl T;obtain⟨i,z,_,_,_,_,_,_,j⟩:=r.ty t _ ht;have j:P.underlying t=some .string:=j;have p:n.toNat<l.length:=Ω
 have f:l.getD n.toNat 0=l[n.toNat]:=by simp[List.getD,ζ p]
 rw[f];refine av hi (v :=.int .u8 (l[n.toNat].toNat:Int)) ?_ (di _ _);unfold execOp;have g:=cI C.val_inv;have hb:(⟨l.toArray⟩:ByteArray)[n.toNat]? = some l[n.toNat]:=by rw[getElem?_pos (⟨l.toArray⟩:ByteArray) n.toNat (by simpa[ByteArray.size]using p)];rfl
 simp[ho,g,U,Instr.index,asIntOf,ε j,h0,hb]
def iU (l:Str):(⟨l.toArray⟩:ByteArray).toList=l:=by rw[ByteArray.toList_eq]
def sL (m n:Int):(m == n)=decide (m=n):=by by_cases h:m=n <;> simp[h]
def UX (l:Inv B R J c){C r:TypeId}(j:o.op = .binOp op C x y r){m:Int}(U:RA c (.val (.int k) m) [a.eval x])(T:RA c (.val (.int k) n) [a.eval y]){v:AV}
  (h:Vm op k m n=some (true,v)):Ok P B R J o a c c.heap v:=by
 have g:=cI U.val_inv;have f:=cI T.val_inv;cases op <;> simp only[Vm]at h <;> first|(cases h;done)|skip
 all_goals (injection h with h;injection h with p h;subst h)
 case quo=>
  have p:¬n=0:=by simpa using p
  refine av l ?_ (di _ _);unfold execOp;simp[j,g,f,eqGuard,binOp,Op.intDiv,p]
 case rem=>
  have p:¬n=0:=by simpa using p
  refine av l ?_ (di _ _);unfold execOp;simp[j,g,f,eqGuard,binOp,Op.intDiv,p]
 case add=>refine av l ?_ (di _ _);unfold execOp;simp[j,g,f,eqGuard,binOp,Op.intArith]
 case sub=>refine av l ?_ (di _ _);unfold execOp;simp[j,g,f,eqGuard,binOp,Op.intArith]
 case mul=>refine av l ?_ (di _ _);unfold execOp;simp[j,g,f,eqGuard,binOp,Op.intArith]
 case and=>refine av l ?_ (di _ _);unfold execOp;simp[j,g,f,eqGuard,binOp,Op.intBits,aoR]
 case or=>refine av l ?_ (di _ _);unfold execOp;simp[j,g,f,eqGuard,binOp,Op.intBits,orI]
 case xor=>refine av l ?_ (di _ _);unfold execOp;simp[j,g,f,eqGuard,binOp,Op.intBits,an7]
 case eql=>refine av l ?_ (bZ _);unfold execOp;simp[j,g,f,eqGuard,binOp,Op.intCmp,sL]
 case neq=>refine av l ?_ (bZ _);unfold execOp;simp[j,g,f,eqGuard,binOp,Op.intCmp,bne,sL]
 case lss=>refine av l ?_ (bZ _);unfold execOp;simp[j,g,f,eqGuard,binOp,Op.intCmp]
 case leq=>refine av l ?_ (bZ _);unfold execOp;simp[j,g,f,eqGuard,binOp,Op.intCmp]
 case gtr=>refine av l ?_ (bZ _);unfold execOp;simp[j,g,f,eqGuard,binOp,Op.intCmp]
 case geq=>refine av l ?_ (bZ _);unfold execOp;simp[j,g,f,eqGuard,binOp,Op.intCmp]
def QS (p:Inv B R J c){C r:TypeId}(l:o.op = .binOp op C x y r){T :IntKind}{m:Int}(hx:RA c (.val (.int k) m) [a.eval x])(U:RA c (.val (.int T) n) [a.eval y])(j:0≤n) :
  (op = .shl→Ok P B R J o a c c.heap (.val (.int k) (acE k m n)))∧(op = .shr→Ok P B R J o a c c.heap (.val (.int k) (aV k m n))):=by
 have g:=cI hx.val_inv;have f:=cI U.val_inv;have j:¬n<0:=Ω
 refine⟨λe=>?_,λe=>?_⟩
 ·subst e;refine av p ?_ (di _ _);unfold execOp;simp[l,g,f,eqGuard,binOp,Op.shift,j,acE]
 ·subst e;refine av p ?_ (di _ _);unfold execOp;simp[l,g,f,eqGuard,binOp,Op.shift,j,aV]
def ams (l:Inv B R J c)(j:o.op = .unOp .neg t x)(g:RA c (.val (.int k) n) [a.eval x]):Ok P B R J o a c c.heap (.val (.int k) (k.wrap (0-n))):=by have f:=cI g.val_inv;refine av l ?_ (di _ _);unfold execOp;simp[j,f,Op.unary,Op.intArith]
def QZ (U:Inv B R J c)(j:TabOk P tab){s:TypeId}(T:o.op = .convert s t x){l :IntKind}(p:RA c (.val (.int l) n) [a.eval x])(r:tab.ty t=some (.int k))(C:∃d,P.underlying s=some d) :
  Ok P B R J o a c c.heap (.val (.int k) (k.wrap n)):=by
 have f:=cI p.val_inv;obtain⟨i,z,_,_,_,_,_,_,g⟩:=j.ty t _ r;have g:P.underlying t=some (.int k):=g;obtain⟨d,hd⟩:=C;refine av U ?_ (di _ _);unfold execOp;simp[T,f,convert,ε g,ε hd,Conv.intToInt]
def amq (l:Inv B R J c)(j:o.op = .unOp .not t x){b:Bool}(g:RA c (.val .bool b) [a.eval x]):Ok P B R J o a c c.heap (.val .bool (!b)):=by have f:=gq g.val_inv;refine av l ?_ (bZ _);unfold execOp;simp[j,f,Op.unary]
def amy (hi:Inv B R J c)(p:TabOk P tab)(ho:o.op = .call cl)(j:cl.callee = .builtin .len)(f:cl.args = #[x])(g:cl.argTypes[0]? = some t)(r:RA c s [a.eval x]){l:List τ.den}
  (hl:yh (tab.ty t) s=some ⟨τ,l⟩):Ok P B R J o a c c.heap (.val (.int .i64) (l.length:Int)):=by
 obtain⟨U,C⟩:=fk hl r;obtain⟨i,z,_,_,_,_,_,_,T⟩:=p.ty t _ U;obtain⟨e,he,_⟩:=T;obtain⟨A,cp,ev,_⟩:=dI ((repv_cell (t :=.slice τ) rfl).1 C);refine av hi ?_ (di _ _);unfold execOp;simp at ev;simp[ho,resolve,j,f,invoke,builtin,Builtin.len_,g,ev,ε he,goInt]
def UR (hi:Inv B R J c)(C:TabOk P tab)(ho:o.op = .call cl)(r:cl.callee = .builtin .len)(f:cl.args = #[x])(j:cl.argTypes[0]? = some t)(T:RA c s [a.eval x])
  (hl:zo (tab.ty t) s=some l):Ok P B R J o a c c.heap (.val (.int .i64) (l.length:Int)):=by
 obtain⟨ht,U⟩:=tE hl T;obtain⟨i,z,_,_,_,_,_,_,g⟩:=C.ty t _ ht;have g:P.underlying t=some .string:=g;refine av hi ?_ (di _ _);unfold execOp;have p:(⟨l.toArray⟩:ByteArray).size=l.length:=by simp[ByteArray.size]
 simp[ho,resolve,r,f,invoke,builtin,Builtin.len_,j,U,ε g,goInt,p]
end
open Go Go.RowKit
section
variable {P:Program}{tab:Tab}{B:Bd}{R:World}{J:Sb}{c:Gh}{o:Oper}{a:Act}
def dat?_sound {t:Ty}{u:AV}{x:t.den}{v:Value}(h:dat? t u=some x)(r:RA c u [v]):RepV c.w c.St t x v:=by
 cases u with
 |agg p=>
  simp only[dat?]at h;split at h
  next hs=>obtain⟨j,e,f,g,_⟩:=r;simp at e;subst e;unfold RepV;rw[β hs];exact⟨j,rfl,ra h (f.parts g)⟩
  ·cases h
 |_=>simp[dat?]at h;exact one?_sound h r
def kD (a b:Str):(a == b)=decide (a=b):=by by_cases h:a=b <;> simp[h]
variable{v:AV}{op:BinOp}{tx ty:TypeId}{x y:Operand}
def UV (l:Inv B R J c)(j:o.op = .binOp op tx x y ty){m n:Str}(U:RA c (.val .str m) [a.eval x])(T:RA c (.val .str n) [a.eval y]){tt:Option Ty}
  (h:pR op tt (.val .str m) (.val .str n)=some (true,v)):Ok P B R J o a c c.heap v:=by
 have g:=zN U.val_inv;have f:=zN T.val_inv;cases op <;> simp only[pR]at h <;> first|(cases h;done)|skip
 all_goals (injection h with h;injection h with C h;subst h)
 case add=>
  have C:m.length+n.length≤an0:=by simpa using C
  have r:¬(((⟨m.toArray⟩:ByteArray).size+(⟨n.toArray⟩:ByteArray).size:Nat):Int)>IntKind.i64.max:=by
   have h1:(⟨m.toArray⟩:ByteArray).size=m.length:=by simp[ByteArray.size]
   have h2:(⟨n.toArray⟩:ByteArray).size=n.length:=by simp[ByteArray.size]
   rw[h1,h2];have:IntKind.i64.max=9223372036854775807:=by decide
   rw[this];unfold an0 at C;omega
  have p:(⟨m.toArray⟩:ByteArray)++⟨n.toArray⟩=⟨(m++n).toArray⟩:=by apply asZ;simp
  refine av l (v :=.string ⟨(m++n).toArray⟩) ?_ (Cb _);unfold execOp;simp only[j,g,f,eqGuard,binOp,Op.stringOp,ο r,p];rfl
 case eql=>refine av l ?_ (bZ _);unfold execOp;simp[j,g,f,eqGuard,binOp,Op.stringOp,kD]
 case neq=>refine av l ?_ (bZ _);unfold execOp;simp[j,g,f,eqGuard,binOp,Op.stringOp,kD]
 case lss=>refine av l ?_ (bZ _);unfold execOp;simp[j,g,f,eqGuard,binOp,Op.stringOp]
 case leq=>refine av l ?_ (bZ _);unfold execOp;simp[j,g,f,eqGuard,binOp,Op.stringOp,kD]
 case gtr=>refine av l ?_ (bZ _);unfold execOp;simp[j,g,f,eqGuard,binOp,Op.stringOp,kD]
 case geq=>refine av l ?_ (bZ _);unfold execOp;simp[j,g,f,eqGuard,binOp,Op.stringOp]
def Q0 (p:Inv B R J c)(C:TabOk P tab)(l:o.op = .binOp op tx x y ty){m n:Bool}(U:RA c (.val .bool m) [a.eval x])(T:RA c (.val .bool n) [a.eval y])
  (h:pR op (tab.ty tx) (.val .bool m) (.val .bool n)=some (true,v)):Ok P B R J o a c c.heap v:=by
 have g:=gq U.val_inv;have f:=gq T.val_inv;simp only[pR]at h;split at h
 next ht=>
  obtain⟨i,z,_,_,_,_,_,_,j⟩:=C.ty tx _ ht;have j:P.underlying tx=some .bool:=j;have r:(m == n)=decide (m=n):=by cases m <;> cases n <;> rfl
  cases op <;> simp only at h <;> first|(cases h;done)|skip
  all_goals (injection h with h;injection h with hc h;subst h)
  case eql=>refine av p ?_ (bZ _);unfold execOp;simp[l,g,f,eqGuard,binOp,run_equal_bool c.w tx m n j,r]
  case neq=>refine av p ?_ (bZ _);unfold execOp;simp[l,g,f,eqGuard,binOp,run_equal_bool c.w tx m n j,r]
 ·cases h
def UW (hi:Inv B R J c)(tk:TabOk P tab)(U:o.op = .binOp op tx x y ty){t:Ty}{l:List t.den}(hx:RA c (.val (.slice t) l) [a.eval x])(hy:RA c .nil [a.eval y])
  (h:pR op (tab.ty tx) (.val (.slice t) l) .nil=some (true,v)):Ok P B R J o a c c.heap v:=by
 have j:a.eval y = .slice none 0 0:=by have:[a.eval y]=[.slice none 0 0]:=hy;simpa using this
 simp only[pR]at h;split at h
 next ht=>
  obtain⟨i,z,_,_,_,_,_,_,hu⟩:=tk.ty tx _ ht;obtain⟨e,u1,_⟩:=hu;have T:l.isEmpty=false→∃f n g,a.eval x = .slice (some f) n g:=λhl=>by
   obtain⟨A,g,e1,_,h0|⟨f,ds,rfl,_⟩⟩:=dI ((repv_cell rfl).1 hx.val_inv)
   ·rw[List.length_eq_zero_iff.1 h0]at hl;cases hl
   ·simp at e1;exact⟨f,_,_,e1⟩
  have r:∀d f n g,(Op.equalIn (d+1) tx (.slice (some f) n g) (.slice none 0 0)).run P c.w = .ok false c.w:=λd f n g=>by simp[Op.equalIn,ε u1]
  have C:∀f n g,(Op.equal tx (.slice (some f) n g) (.slice none 0 0)).run P c.w = .ok false c.w:=λf n g=>r 9999 f n g;cases op <;> simp only at h <;> first|(cases h;done)|skip
  all_goals (injection h with h;injection h with hc h;subst h;simp only[arU]at hc;obtain⟨f,n,g,p⟩:=T hc)
  case eql=>refine av hi ?_ (bZ _);unfold execOp;simp[U,p,j,eqGuard,binOp,C]
  case neq=>refine av hi ?_ (bZ _);unfold execOp;simp[U,p,j,eqGuard,binOp,C]
 ·cases h
def uO:∀{t:Ty},t.flatEq=true→t.nojk=true
 |.int _,_|.bool,_|.str,_|.unit,_|.tree,_=>rfl
 |.slice _,h|.jsl _,h=>by simp[Ty.flatEq]at h
 |.cons a b,h=>by simp[Ty.flatEq]at h;simp[Ty.nojk,uO h.1.1,uO h.1.2]
def eqT (tk:TabOk P tab){w:World}{St:Sb}:∀(τ:Ty),
  (∀(j:List Field) (g:Nat) (p l:Array Value) (x y:τ.den) (d:Nat),FOk tab.ty j τ.fields g→τ.flatEq=true→τ.isStruct=true→τ.dep≤d+1→Rep w St (toD τ x) (p.toList.drop g)→Rep w St (toD τ y) (l.toList.drop g) →
   (Op.eqFields d p l j).run P w = .ok (eqD τ x y) w) ∧
  (∀(t:TypeId) (d:Nat) (x y:τ.den) (vx vy:Value),tab.ty t=some τ→τ.flatEq=true→τ.dep≤d→RepV w St τ x vx→RepV w St τ y vy→(Op.equalIn d t vx vy).run P w = .ok (eqD τ x y) w):=by
 intro τ;have lift:∀(τ:Ty),τ.isStruct=true→(∀(j:List Field) (g:Nat) (p l:Array Value) (x y:τ.den) (d:Nat),FOk tab.ty j τ.fields g→τ.flatEq=true→τ.isStruct=true→τ.dep≤d+1→Rep w St (toD τ x) (p.toList.drop g)→Rep w St (toD τ y) (l.toList.drop g) →
   (Op.eqFields d p l j).run P w = .ok (eqD τ x y) w)→τ.dep≥1 →
   (∀(t:TypeId) (d:Nat) (x y:τ.den) (vx vy:Value),tab.ty t=some τ→τ.flatEq=true→τ.dep≤d→RepV w St τ x vx→RepV w St τ y vy→(Op.equalIn d t vx vy).run P w = .ok (eqD τ x y) w):=by
  intro τ hs hB hd1 t d x y vx vy ht hf U J C;obtain⟨i,z,_,_,_,_,_,_,R⟩:=tk.ty t τ ht;obtain⟨j,h1,h2,_,h3⟩:=gL hs R;unfold RepV at J C;rw[β hs]at J C;obtain⟨cs,rfl,J⟩:=J;obtain⟨cs',rfl,C⟩:=C;obtain⟨r,rfl⟩:∃r,d=r+1:=⟨d-1,Ω⟩;have hfo:P.fieldsOf t=j:=by simp[Program.fieldsOf,h1]
  rw[run_equalIn_struct w r t _ _ (by rw[hfo];exact h1) h2,hfo];exact hB j.toList 0 _ _ x y r h3 hf hs U (by simpa using J) (by simpa using C)
 induction τ with
 |int k =>refine⟨λ_ _ _ _ _ _ _ _ _ h=>by simp[Ty.isStruct]at h,λt d x y vx vy ht _ U J C=>?_⟩;obtain⟨i,z,_,_,_,_,_,_,R⟩:=tk.ty t _ ht;have R:P.underlying t=some (.int k):=R;obtain⟨r,rfl⟩:∃r,d=r+1:=⟨d-1,by simp[Ty.dep]at U;omega⟩;rw[cI J,cI C,ati w r t k k x y R];simp[eqD];rw[show(x == y)=decide (x=y) from sL x y]
 |bool=>
  refine⟨λ_ _ _ _ _ _ _ _ _ h=>by simp[Ty.isStruct]at h,λt d x y vx vy ht _ U J C=>?_⟩;obtain⟨i,z,_,_,_,_,_,_,R⟩:=tk.ty t _ ht;have R:P.underlying t=some .bool:=R;obtain⟨r,rfl⟩:∃r,d=r+1:=⟨d-1,by simp[Ty.dep]at U;omega⟩;rw[gq J,gq C,atd w r t x y R];have U:(x == y)=decide (x=y):=by cases x <;> cases y <;> rfl
  simp[eqD,U]
 |str =>refine⟨λ_ _ _ _ _ _ _ _ _ h=>by simp[Ty.isStruct]at h,λt d x y vx vy ht _ U J C=>?_⟩;obtain⟨i,z,_,_,_,_,_,_,R⟩:=tk.ty t _ ht;have R:P.underlying t=some .string:=R;obtain⟨r,rfl⟩:∃r,d=r+1:=⟨d-1,by simp[Ty.dep]at U;omega⟩;rw[zN J,zN C,as2 w r t _ _ R,iU,iU];simp[eqD];rw[show(List.instBEq.beq x y)=decide (x=y) from kD x y]
 |slice t ih=>exact⟨λ_ _ _ _ _ _ _ _ h=>by simp[Ty.flatEq]at h,λ_ _ _ _ _ _ _ h=>by simp[Ty.flatEq]at h⟩
 |tree=>exact⟨λ_ _ _ _ _ _ _ _ h=>by simp[Ty.flatEq]at h,λ_ _ _ _ _ _ _ h=>by simp[Ty.flatEq]at h⟩
 |jsl e=>exact⟨λ_ _ _ _ _ _ _ _ h=>by simp[Ty.flatEq]at h,λ_ _ _ _ _ _ _ h=>by simp[Ty.flatEq]at h⟩
 |unit=>
  have hB:∀(j:List Field) (g:Nat) (p l:Array Value) (x y:Ty.unit.den) (d:Nat),FOk tab.ty j Ty.unit.fields g→Ty.unit.flatEq=true→Ty.unit.isStruct=true→Ty.unit.dep≤d+1→Rep w St (toD .unit x) (p.toList.drop g)→Rep w St (toD .unit y) (l.toList.drop g) →
    (Op.eqFields d p l j).run P w = .ok (eqD .unit x y) w:=by
   intro j g p l x y d hf _ _ _ _ _;cases j with
   |nil=>simp[Op.eqFields,eqD]
   |cons f j=>exact hf.elim
  exact⟨hB,lift .unit rfl hB (by simp[Ty.dep])⟩
 |cons A Bt ihA ihB=>
  have hB:∀(j:List Field) (g:Nat) (p l:Array Value) (x y:(Ty.cons A Bt).den) (d:Nat),FOk tab.ty j (Ty.cons A Bt).fields g→(Ty.cons A Bt).flatEq=true→(Ty.cons A Bt).isStruct=true→(Ty.cons A Bt).dep≤d+1 →
    Rep w St (toD (.cons A Bt) x) (p.toList.drop g)→Rep w St (toD (.cons A Bt) y) (l.toList.drop g)→(Op.eqFields d p l j).run P w = .ok (eqD (.cons A Bt) x y) w:=by
   intro j g p l x y d hf T _ U J C;cases j with
   |nil=>exact hf.elim
   |cons f j=>
    obtain⟨f1,f2,f3,f4,f5⟩:=hf;obtain⟨c1,c2,e1,r1,r2⟩:=J;obtain⟨k1,k2,e2,s1,s2⟩:=C;simp[Ty.flatEq]at T;simp[Ty.dep]at U;obtain⟨Ab,f1,_,_,q3⟩:=f1;rw[q3 (uO T.1.1)]at f1;obtain⟨va,hva,rva⟩:=F0 (P:=P) tk f1 rfl rfl w (x:=x.1) p f.offset (by rw[f2,e1,←r1.size,o?];exact r1);obtain⟨vb,hvb,rvb⟩:=F0 (P:=P) tk f1 rfl rfl w (x:=y.1) l f.offset (by rw[f2,e2,←s1.size,o?];exact s1);have hA:=ihA.2 f.type d x.1 y.1 va vb f1 T.1.1 Ω rva rvb;have d1:p.toList.drop (g+A.size)=c2:=by rw[←List.drop_drop,e1,←r1.size];simp
    have d2:l.toList.drop (g+A.size)=k2:=by rw[←List.drop_drop,e2,←s1.size];simp
    have hr:(Op.eqFields d p l j).run P w = .ok (eqD Bt x.2 y.2) w:=ihB.1 j (g+A.size) p l x.2 y.2 d f5 T.1.2 T.2 Ω (by rw[d1];exact r2) (by rw[d2];exact s2);simp[Op.eqFields,f4,ν,hva,hvb,hA,eqD];cases eqD A x.1 y.1 with
    |false=>simp
    |true=>simp[hr]
  exact⟨hB,lift (.cons A Bt) rfl hB (by simp[Ty.dep];omega)⟩
end
open Go Go.RowKit
section
variable {P:Program}{tab:Tab}{B:Bd}{R:World}{J:Sb}{c:Gh}{o:Oper}{a:Act}
def Jf (hi:Inv B R J c)(tk:TabOk P tab){op:BinOp}{l ty:TypeId}{x y:Operand}(ho:o.op = .binOp op l x y ty){U V p:Ty}{m:(Ty.cons U V).den}{n:p.den}(hx:RA c (.val (.cons U V) m) [a.eval x])(hy:RA c (.val p n) [a.eval y]){v:AV}
  (h:pR op (tab.ty l) (.val (.cons U V) m) (.val p n)=some (true,v)):Ok P B R J o a c c.heap v:=by
 simp only[pR]at h;split at h
 next ht=>
  split at h
  next hfe=>
   simp at hfe;split at h
   ·rename_i n' j;obtain⟨e,j⟩:=cast?_some j;subst e;have j:n'=n:=j;subst j;obtain⟨i,z,_,_,_,_,_,_,hu⟩:=tk.ty l _ ht;obtain⟨fs,h1,h2,h3,_⟩:=gL (τ :=.cons U V) rfl hu;have r:=(eqT (P:=P) tk (w:=c.w) (St:=c.St) (.cons U V)).2 l 10000 m _ _ _ ht hfe.1 hfe.2 hx.val_inv hy.val_inv;have g:=hx.val_inv;have f:=hy.val_inv;unfold RepV at g f;rw[β (show(Ty.cons U V).isStruct=true from rfl)]at g f;obtain⟨cs,T,_⟩:=g;obtain⟨cs',C,_⟩:=f;rw[T,C]at r;cases op <;> simp only at h <;> first|(cases h;done)|skip
    all_goals (injection h with h;injection h with hc h;subst h)
    case eql=>refine av hi ?_ (bZ _);unfold execOp;simp[ho,T,C,eqGuard,h3,H_,binOp,Op.equal,Op.maxDepth,r]
    case neq=>refine av hi ?_ (bZ _);unfold execOp;simp[ho,T,C,eqGuard,h3,H_,binOp,Op.equal,Op.maxDepth,r]
   ·cases h
  ·cases h
 ·cases h
def nv (f:Nat):∀(g:List Value) (k:Nat) (cells:Array Value),f+k+g.length≤cells.size →
  ((g.zipIdx k).foldl (λp (x:Value×Nat)=>p.setIfInBounds (f+x.2) x.1) cells).toList=cells.toList.take (f+k)++g++cells.toList.drop (f+k+g.length)
 |[],k,cells,_=>by simp
 |v::g,k,cells,h=>by
  simp;simp at h;rw[nv f g (k+1) _ Ξ];have j:f+k<cells.toList.length:=by simp;omega
  simp;rw[show f+(k+1)=f+k+1 by omega,show f+k+1+g.length=f+k+(g.length+1)by omega,List.take_set,List.drop_set_of_lt Ω,
   d? j,asD _ _ Ξ]
  have l:min (f+k) cells.size=f+k:=Ω
  simp[l]
def jo (off:Nat)(v:Value)(cells:Array Value)(h:off+v.cells.size≤cells.size) :
  (v.cells.zipIdx.foldl (λf (x:Value×Nat)=>f.setIfInBounds (off+x.2) x.1) cells).toList=cells.toList.take off++v.cells.toList++cells.toList.drop (off+v.cells.size):=by
 rw[←Array.foldl_toList,Array.toList_zipIdx];have:=nv off v.cells.toList 0 cells (by simpa using h);simpa using this
def P1:∀{t:Ty} {x y:t.den} {i:Nat} {u:AV} {v:Value} {T:List Value},yl t x i u=some y→RA c u [v]→Rep c.w c.St (toD t x) T →
  ∃A,t.fields[i]? = some A∧v.cells.size=A.size∧nk t.fields i+A.size≤T.length∧Rep c.w c.St (toD t y) (T.take (nk t.fields i)++v.cells.toList++T.drop (nk t.fields i+A.size))
 |.cons A Bt,x,y,0,u,v,T,h,l,r=>by
  simp[yl]at h;split at h
  next z j=>cases h;obtain⟨c1,c2,rfl,r1,r2⟩:=r;have f:=(dat?_sound j l).cells;have g:=f.size;refine⟨A,rfl,by simpa using g,by simp[nk,Ty.fields,r1.size], ?_⟩;simp[nk,Ty.fields];rw[←r1.size,asd];exact⟨_,_,rfl,f,r2⟩
  ·cases h
 |.cons A Bt,x,y,i+1,u,v,T,h,l,r=>by
  simp[yl]at h;split at h
  next z j=>cases h;obtain⟨c1,c2,rfl,r1,r2⟩:=r;obtain⟨A',h1,h2,h3,h4⟩:=P1 j l r2;refine⟨A',by simpa[Ty.fields]using h1,h2,by simp[nk,Ty.fields,r1.size];omega, ?_⟩;simp[nk,Ty.fields];rw[←r1.size,b?,ar9,a?];exact⟨c1,_,Ψ,r1,h4⟩
  ·cases h
 |.tree,.mk k t ls ks,y,i,u,v,T,h,l,r=>by
  simp[toD,sS]at r;obtain⟨c1,c2,rfl,h1,c3,c4,rfl,h2,c5,c6,rfl,h3,c7,c8,rfl,h4,h5⟩:=r;have h5:c8=[]:=h5;subst h5;have R:=h1;obtain⟨rfl,o1⟩:=h1;have P:=h2;obtain⟨rfl,o2⟩:=h2;have J:=h3;obtain⟨A1,n,cp,rfl,_⟩:=h3;have C:=h4;obtain⟨A2,n',cp',rfl,_⟩:=h4;match i with
  |0=>
   simp[yl]at h;split at h
   next z j=>cases h;have f:=(dat?_sound j l).cells;have g:=f.size;obtain⟨e,p⟩:=F?.1 g;rw[p]at f⊢;exact⟨_,rfl,by simpa using g,by simp[nk,Ty.fields,Ty.size],⟨[e],_,rfl,f,[_],_,rfl,P,[_],_,rfl,J,[_],_,rfl,C,rfl⟩⟩
   ·cases h
  |1=>
   simp[yl]at h;split at h
   next z j=>cases h;have f:=(dat?_sound j l).cells;have g:=f.size;obtain⟨e,p⟩:=F?.1 g;rw[p]at f⊢;exact⟨_,rfl,by simpa using g,by simp[nk,Ty.fields,Ty.size],⟨[_],_,rfl,R,[e],_,rfl,f,[_],_,rfl,J,[_],_,rfl,C,rfl⟩⟩
   ·cases h
  |2=>
   simp[yl]at h;split at h
   next z j=>cases h;have f:=(dat?_sound j l).cells;have g:=f.size;obtain⟨e,p⟩:=F?.1 g;rw[p]at f⊢;exact⟨_,rfl,by simpa using g,by simp[nk,Ty.fields,Ty.size],⟨[_],_,rfl,R,[_],_,rfl,P,[e],_,rfl,f,[_],_,rfl,C,rfl⟩⟩
   ·cases h
  |3=>
   simp[yl]at h;split at h
   ·rename_i z j;cases h;have f:=(dat?_sound j l).cells;have g:=f.size;have U:Rep c.w c.St (.sl (tq z)) v.cells.toList:=by rw[i9];exact f
    obtain⟨e,p⟩:=F?.1 g;rw[p]at U⊢;exact⟨_,rfl,by simpa using g,by simp[nk,Ty.fields,Ty.size],⟨[_],_,rfl,R,[_],_,rfl,P,[_],_,rfl,J,[e],_,rfl,U,rfl⟩⟩
   ·cases h
  |i+4=>simp[yl]at h
 |.int _,_,_,_,_,_,_,h,_,_=>by simp[yl]at h
 |.bool,_,_,_,_,_,_,h,_,_=>by simp[yl]at h
 |.str,_,_,_,_,_,_,h,_,_=>by simp[yl]at h
 |.slice _,_,_,_,_,_,_,h,_,_=>by simp[yl]at h
 |.unit,_,_,_,_,_,_,h,_,_=>by simp[yl]at h
def DT (tk:TabOk P tab){p:Ty}{R:Array Field}(hf:FOk tab.ty R.toList p.fields 0):∀(l:List Nat) (T:List AV) (J:List Value) (x y:p.den) (g:Array Value),l.length=T.length→RAs c T J →
  IH p (l.zip T) x=some y→Rep c.w c.St (toD p x) g.toList →
  ∃j,Instr.fill ((R.map λf=>(f.offset,P.cellsOf f.type))[·]?) g (l.zip J)=some j∧Rep c.w c.St (toD p y) j.toList
 |[],[],[],x,y,g,_,_,h,r=>by cases h;exact⟨g,by simp[Instr.fill],r⟩
 |i::l,u::T,v::J,x,y,g,hl,⟨hu,U⟩,h,r=>by
  simp[IH]at h;split at h
  next z hz=>
   obtain⟨A,h1,h2,h3,h4⟩:=P1 hz hu r;obtain⟨fl,g1,⟨Ab,g2,gs,_⟩,g3,g4,_⟩:=hf.at h1;obtain⟨ti,tz,t1,t2,_⟩:=tk.ty fl.type Ab g2;rw[gs]at t2;simp at g3;have C:(R.map λf=>(f.offset,P.cellsOf f.type))[i]? = some (nk p.fields i,A.size):=by
    have:R[i]? = some fl:=by simpa using g1
    simp[this,g3,Program.cellsOf,t1,t2]
   have hfc:=jo (nk p.fields i) v g (by rw[h2];simpa using h3);obtain⟨j,e1,e2⟩:=DT tk hf l T J z y (v.cells.zipIdx.foldl (λcs (x:Value×Nat)=>cs.setIfInBounds (nk p.fields i+x.2) x.1) g) (by simpa using hl) U h (by rw[hfc,h2];exact h4);refine⟨j, ?_,e2⟩;simp only[abs,Instr.fill,C];have hno:¬(v.cells.size≠A.size||nk p.fields i+v.cells.size>g.size)=true:=by simp[h2];simpa using h3
   rw[ο hno];exact e1
  ·cases h
def Am (hi:Inv B R J c)(tk:TabOk P tab){t:TypeId}{parts:Array (Nat×Operand)}(ho:o.op = .build t parts){T:List AV}(hv:RAs c T ((parts.toList.map (·.2)).map a.eval)){C:Ty}(ht:tab.ty t=some C)(hs:C.isStruct=true){y:C.den}
  (hy:IH C ((parts.toList.map (·.1)).zip T) (zero C)=some y):Ok P B R J o a c c.heap (.val C y):=by
 obtain⟨i,z,h1,h2,h3,h4,_,h5,hu⟩:=tk.ty t C ht;obtain⟨fs,f1,_,_,f2⟩:=gL hs hu;have hl:(parts.toList.map (·.1)).length=T.length:=by rw[hv.length];simp
 obtain⟨U,e1,e2⟩:=DT tk f2 (parts.toList.map (·.1)) T _ (zero C) y z.cells hl hv hy (by rw[h4];exact dl C);have hzip:(parts.toList.map (·.1)).zip ((parts.toList.map (·.2)).map a.eval)=parts.toList.map (λp=>(p.1,a.eval p.2)):=by rw[V?,asX];rfl
 rw[hzip]at e1;refine av hi (v :=.agg U) ?_ ⟨_,rfl, ?_⟩
 ·have hm:∀(l:List Field) (w:World),(∀f∈l,∃j,P.info? f.type=some j)→(l.mapM (λf=>(do pure (f.offset,←sizeOf f.type):Sem (Nat×Nat)))).run P w = .ok (l.map λf=>(f.offset,P.cellsOf f.type)) w:=by
   intro l;induction l with
   |nil=>intro w _;simp
   |cons f l ih=>
    intro w r;obtain⟨j,hj⟩:=r f Ψ;have h1:(do pure (f.offset,←sizeOf f.type):Sem (Nat×Nat)).run P w = .ok (f.offset,P.cellsOf f.type) w:=by simp[sizeOf,typeInfo,hj,Program.cellsOf]
    rw[arR,ν,h1,Θ,ν,ih w (λg hg=>r g (by simp[hg])),Θ];rfl
  have r:∀f∈fs.toList,∃j,P.info? f.type=some j:=by
   intro f hfm;obtain⟨k,hk,rfl⟩:=asU hfm;have hlen:∀{fl:List Field} {as:List Ty} {off:Nat},FOk tab.ty fl as off→fl.length=as.length:=by
    intro fl;induction fl with
    |nil=>intro as off h;cases as with|nil=>rfl|cons _ _=>exact h.elim
    |cons g fl ih=>intro as off h;cases as with|nil=>exact h.elim|cons _ as=>obtain⟨_,_,_,_,h⟩:=h;simp[ih h]
   have hk':k<C.fields.length:=by rw[←hlen f2];exact hk
   obtain⟨fl,g1,⟨_,g2,_⟩,_⟩:=f2.at (ζ hk');rw[ζ hk]at g1;injection g1 with g1;rw[g1];obtain⟨ti,tz,t1,_⟩:=tk.ty fl.type _ g2;exact⟨ti,t1⟩
  have hmA:(fs.mapM (λf=>(do pure (f.offset,←sizeOf f.type):Sem (Nat×Nat)))).run P c.w = .ok (fs.map λf=>(f.offset,P.cellsOf f.type)) c.w:=by have:=hm fs.toList c.w r;rw[t?,asp,ν,this,Θ];exact C_ (λl=>Result.ok l c.w) (i_ Ψ)
  unfold execOp;simp only[ho,Instr.build,zeroValue,typeInfo,ν,H_,h1,Z',Θ,h3,ε f1,hmA];rw[show(parts.map λp=>(p.1,a.eval p.2)).toList=parts.toList.map λp=>(p.1,a.eval p.2)by simp,e1];simp
 ·unfold RepV;rw[β hs];exact⟨U.toList,Ψ,e2⟩
end
open Go Go.RowKit
section
variable {P:Program}{tab:Tab}{B:Bd}{R:World}{J:Sb}{c:Gh}{o:Oper}{a:Act}
variable{τ:Ty}{e t:TypeId}{ds:List Value}{len n:Nat}{parts:Array (Nat×Operand)}{T:List AV}
def ajv (P:Inv B R J c){fresh:Nat}(hf:c.heap[fresh]? = some .none){l:List τ.den}(hr:Rep c.w c.St (chain (toD τ) l) ds)(hm:l.length≤maxLen) :
  ∃T,T.w=c.w.alloc (.cells ds.toArray e)∧T.heap=c.heap.set fresh (.row τ e 0)∧Inv B R J T∧Ev c T∧RA T (.own fresh 0 τ l) [.slice (some ⟨c.w.heap.size,0,none⟩) l.length l.length]:=by
 obtain⟨h1,e1⟩:=P.grow (w':=c.w.alloc (.cells ds.toArray e)) (St':=⟨λb o=>c.St b o∨(b=c.w.heap.size∧o<l.length*τ.size),c.St.j⟩) ((Below.refl _ _).alloc (δ _) _) ⟨λ_ _ x=>.inl x,λ_ _ _ _ x=>x⟩
  (λb o x=>x.elim .inl (λx=>.inr ⟨Ω,by rw[x.1];simp⟩)) (δ _) (λ_ _ _ _ x=>.inl x)
 have p:=ba hr;have r:(c.w.alloc (.cells ds.toArray e)).ownsRow B e τ.size (.slice (some ⟨c.w.heap.size,0,none⟩) l.length l.length) l.length ds :=
  ⟨p,.inr ⟨c.w.heap.size,l.length,ds.toArray,rfl,P.size,B_ c.w _,δ _,hm,by simpa using p,by rw[←p];simp⟩⟩
 obtain⟨h2,U⟩:=h1.addRow (k:=fresh) (n:=l.length) (t:=τ) (e:=e) (s :=.slice (some ⟨c.w.heap.size,0,none⟩) l.length l.length) (xs:=ds) hf r
  (λb C o hle x=>by
   simp only[Value.ownBlock,η]at C;obtain x|x:=x
   ·have:=P.bnd _ _ x;omega
   ·omega)
  (λk' b C x=>by
   simp only[Value.ownBlock,η]at C;have:=(gi P (k:=k') x).1;omega)
  (λb C f=>by
   simp only[Value.ownBlock,η]at C;have:=P.fl b f;omega)
  (λb C e cap n x=>(P.junk b e cap n x).resolve_right λq=>by
   simp only[Value.ownBlock,η]at C;have:=q.lt;omega)
 refine⟨_,rfl,rfl,h2,e1.trans U,_,rfl,(repv_cell rfl).2 ?_,τ,e,0, ?_,δ _,λ_=>?_⟩
 ·refine⟨_,_,_,rfl,(len_chain _ _).symm,δ _,.inr ⟨_,ds,rfl,rfl,(hr.mono e1.st e1.cell).mono U.st U.cell,λj u hu=>⟨?_, ?_⟩⟩⟩
  ·exact r.cells (g:=c.w.heap.size) rfl j u hu
  ·have hj:j<ds.length:=aq hu;refine .inr ⟨rfl, ?_⟩;simp;omega
 ·show(c.heap.set fresh _)[fresh]? = _;rw[get_set,β rfl,β (aq hf)]
 ·simp
def In {τ:Ty}:∀{T:List AV} {l:List τ.den} {f:List Value},uY τ T=some l→RAs c T f→Rep c.w c.St (chain (toD τ) l) ((f.map λv=>v.cells.toList).flatten)∧l.length=f.length∧∀v∈f,v.cells.size=τ.size
 |[],l,[],h,_=>by cases h;exact⟨rfl,rfl,Ψ⟩
 |u::T,l,v::f,h,⟨C,j⟩=>by
  simp[uY]at h;split at h
  next x r hx hr=>
   cases h;obtain⟨R,P,J⟩:=In hr j;have p:=(dat?_sound hx C).cells;refine⟨⟨_,_,rfl,p,R⟩,by simp[P],λw g=>?_⟩;obtain rfl|g:=N'.1 g
   ·simpa using p.size
   ·exact J w g
  ·cases h
def uQ (size:Nat):∀(j:List Value) (i:Nat) (f:Array Value),(∀v∈j,v.cells.size=size)→(i+j.length)*size=f.size →
  ∃g,Instr.fill (λi=>some (i*size,size)) f ((List.range' i j.length).zip j)=some g∧g.toList=f.toList.take (i*size)++(j.map λv=>v.cells.toList).flatten
 |[],i,f,_,h=>⟨f,by simp[Instr.fill],by simp at h;rw[h];simp[E?]⟩
 |v::j,i,f,hv,h=>by
  have C:=hv v Ψ;have l:i*size+v.cells.size≤f.size:=by rw[C,←h,←Nat.succ_mul];exact Y' _ Ψ
  have p:=jo (i*size) v f l;obtain⟨g,U,T⟩:=uQ size j (i+1) (v.cells.zipIdx.foldl (λJ (x:Value×Nat)=>J.setIfInBounds (i*size+x.2) x.1) f) (λu P=>hv u (by simp[P])) (by
   have:(v.cells.zipIdx.foldl (λJ (x:Value×Nat)=>J.setIfInBounds (i*size+x.2) x.1) f).size=f.size:=by rw[←Array.length_toList,p];simp;omega
   rw[this,←h];congr 1;simp;omega)
  refine⟨g, ?_, ?_⟩
  ·simp only[q_,Y_,abs,Instr.fill];have r:¬(v.cells.size≠size||i*size+v.cells.size>f.size)=true:=by
    simp[C];omega
   rw[ο r];exact U
  ·rw[T,p];have R:(f.toList.take (i*size)++v.cells.toList).length=(i+1)*size:=by
    simp[C,P_];omega
   rw[←R,o?];simp
def sq:∀(l:List Nat) (i:Nat),ez i l=true→l=List.range' i l.length
 |[],_,_=>rfl
 |j::l,i,h=>by simp[ez]at h;obtain⟨rfl,f⟩:=h;rw[q_,Y_,←sq l (i+1) f]
def tN (tk:TabOk P tab)(ho:o.op = .buildSlice t len parts)(hv:RAs c T ((parts.toList.map (·.2)).map a.eval))
  (u1:P.underlying t=some (.slice e)) (u2:tab.ty e=some τ) (R:len=parts.size) (J:ez 0 (parts.toList.map (·.1))=true) (hsz:len*τ.size≤4096) {l:List τ.den} (hl:uY τ T=some l) :
  ∃ds,Rep c.w c.St (chain (toD τ) l) ds∧l.length=len∧(execOp a.eval o).run P c.w = .ok (.value (.slice (some ⟨c.w.heap.size,0,none⟩) len len)) (c.w.alloc (.cells ds.toArray e)):=by
 obtain⟨ie,ze,t1,t2,t3,t4,_⟩:=tk.ty e τ u2;obtain⟨C,hll,U⟩:=In hl hv;have r:((parts.toList.map (·.2)).map a.eval).length=len:=by simp[R]
 have j:(parts.map λp=>(p.1,a.eval p.2)).toList=(List.range' 0 ((parts.toList.map (·.2)).map a.eval).length).zip ((parts.toList.map (·.2)).map a.eval):=by
  have h1:=sq _ 0 J;have h2:(parts.toList.map (·.1)).length=((parts.toList.map (·.2)).map a.eval).length:=by simp
  rw[←h2,←h1,V?,asX];simp
 have g:∀f:Array Value,Instr.fill (λi=>some (i*τ.size,τ.size)) ((Array.range (len*τ.size)).map λx=>f[x%f.size]!) (parts.map λp=>(p.1,a.eval p.2)).toList=some (((parts.toList.map (·.2)).map a.eval).map λv=>v.cells.toList).flatten.toArray:=by intro f;obtain⟨arr',e1,e2⟩:=uQ τ.size ((parts.toList.map (·.2)).map a.eval) 0 ((Array.range (len*τ.size)).map λx=>f[x%f.size]!) U (by rw[r];simp);simp only[Q?,y?,o_]at e2;rw[j,e1,←e2]
 refine⟨_,C,hll.trans r, ?_⟩;generalize (((parts.toList.map (·.2)).map a.eval).map λv=>v.cells.toList).flatten=ds at *;unfold execOp;have hno:¬(len*τ.size>2^24):=Ω
 simp only[ho,Instr.buildSlice,ν,ε u1,Θ,aJ tk u2,ο hno];by_cases h0:len*τ.size=0
 ·rw[β h0,ν,Z',Θ,g #[]];simp[newRow]
 ·rw[ο h0];simp only[zeroValue,typeInfo,ν,H_,t1,t3,Z',Θ];rw[g ze.cells];simp[newRow]
def Je (hi:Inv B R J c)(tk:TabOk P tab)(ho:o.op = .buildSlice t len parts)(hv:RAs c T ((parts.toList.map (·.2)).map a.eval))
  (ht:tab.ty t=some (.slice τ)) (he:tab.elem t=some e) (C:len=parts.size) (p:ez 0 (parts.toList.map (·.1))=true) (U:len*τ.size≤4096) {l:List τ.den} (hl:uY τ T=some l)
  {fresh:Nat} (hf:c.heap[fresh]? = some .none):Ok P B R J o a c (c.heap.set fresh (.row τ e 0)) (.own fresh 0 τ l):=by
 obtain⟨i,z,_,_,_,_,_,_,hu⟩:=tk.ty t _ ht;obtain⟨e',u1,u2,u3,j⟩:=hu;have:e'=e:=by rw[he]at u3;exact(χ u3).symm
 subst this;obtain⟨ds,g,r,f⟩:=tN tk ho hv u1 u2 C p U hl;obtain⟨c',hw,hh,hI,hE,hR⟩:=ajv (e:=e') hi hf g (by rw[r];simp[maxLen];have:len*1≤len*τ.size:=Nat.mul_le_mul_left _ j;omega);exact du (v :=.slice (some ⟨c.w.heap.size,0,none⟩) len len) (by rw[hw];exact f) hh hI hE (by rw[r]at hR;exact hR)
def aju (U:Inv B R J c){l:List τ.den}(T:Rep c.w c.St (chain (toD τ) l) ds)(hm:l.length≤maxLen) :
  ∃r,r.w=c.w.alloc (.cells ds.toArray e)∧r.heap=c.heap∧Inv B R J r∧Ev c r∧RA r (.val (.slice τ) l) [.slice (some ⟨c.w.heap.size,0,none⟩) l.length l.length]:=by
 obtain⟨h1,C⟩:=U.grow (w':=c.w.alloc (.cells ds.toArray e)) (St':=⟨λb o=>c.St b o∨(b=c.w.heap.size∧o<l.length*τ.size),c.St.j⟩) ((Below.refl _ _).alloc (δ _) _) ⟨λ_ _ x=>.inl x,λ_ _ _ _ x=>x⟩
  (λb o x=>x.elim .inl (λx=>.inr ⟨Ω,by rw[x.1];simp⟩)) (δ _) (λ_ _ _ _ x=>.inl x)
 have f:=ba T;have p:(c.w.alloc (.cells ds.toArray e)).ownsRow B e τ.size (.slice (some ⟨c.w.heap.size,0,none⟩) l.length l.length) l.length ds :=
  ⟨f,.inr ⟨c.w.heap.size,l.length,ds.toArray,rfl,U.size,B_ c.w _,δ _,hm,by simpa using f,by rw[←f];simp⟩⟩
 refine⟨{ c with w:=c.w.alloc (.cells ds.toArray e),St:=⟨λb o=>c.St b o∨(b=c.w.heap.size∧o<l.length*τ.size),c.St.j⟩ },rfl,rfl,h1,C,_,rfl,(repv_cell rfl).2 ⟨_,_,_,rfl,(len_chain _ _).symm,δ _,.inr ⟨_,ds,rfl,rfl,T.mono C.st C.cell,λj u P=>⟨p.cells (g:=c.w.heap.size) rfl j u P, ?_⟩⟩⟩⟩;have hj:j<ds.length:=aq P;refine .inr ⟨rfl, ?_⟩;simp;omega
def Al (hi:Inv B R J c)(tk:TabOk P tab)(ho:o.op = .buildSlice t len parts)(hv:RAs c T ((parts.toList.map (·.2)).map a.eval))
  (ht:tab.ty t=some (.slice τ)) (he:tab.elem t=some e) (C:len=parts.size) (p:ez 0 (parts.toList.map (·.1))=true) (U:len*τ.size≤4096) {l:List τ.den} (hl:uY τ T=some l):Ok P B R J o a c c.heap (.val (.slice τ) l):=by
 obtain⟨i,z,_,_,_,_,_,_,hu⟩:=tk.ty t _ ht;obtain⟨e',u1,u2,u3,j⟩:=hu;have:e'=e:=by rw[he]at u3;exact(χ u3).symm
 subst this;obtain⟨ds,g,r,f⟩:=tN tk ho hv u1 u2 C p U hl;obtain⟨c',hw,hh,hI,hE,hR⟩:=aju (e:=e') hi g (by rw[r];simp[maxLen];have:len*1≤len*τ.size:=Nat.mul_le_mul_left _ j;omega);exact du (v :=.slice (some ⟨c.w.heap.size,0,none⟩) len len) (by rw[hw];exact f) hh hI hE (by rw[r]at hR;exact hR)
def yI {f g:Nat→Option (Nat×Nat)}:∀(l:List (Nat×Value)) (j:Array Value),(∀p∈l,f p.1=g p.1)→Instr.fill f j l=Instr.fill g j l
 |[],_,_=>by simp[Instr.fill]
 |p::l,j,h=>by
  simp[Instr.fill];rw[h p Ψ];split
  ·rfl
  ·split
   ·rfl
   ·exact yI l _ (λq r=>h q (by simp[r]))
def zD {u:AV}{v:Value}(h:RA c u [v])(g:u.single=true):v.cells.toList=[v]∧v.oneCell'=true:=by
 have T:u.solid=true:=by cases u <;> simp[AV.single,AV.solid]at g⊢
 obtain⟨h1,h2⟩:=pQ h T;have hl:(cellsOf u).length=1:=by
  cases u with
  |val t x =>simp only[AV.single,arU]at g;cases t <;> simp[Ty.isStruct]at g <;> rfl
  |_=>first|rfl|(simp[AV.single]at g)
 have U:v.cells.toList.length=1:=by rw[←h1.length,hl]
 cases v with
 |agg P=>
  exfalso;cases u with
  |val t x =>simp only[AV.single,arU]at g;have:=(repv_cell g).1 h.val_inv;have:=this.one (Value.agg P) Ψ;simp[Value.oneCell']at this
  |nil=>have h:[Value.agg P]=[.slice none 0 0]:=h;simp at h
  |own k n t l=>obtain⟨s,e,r,_⟩:=h;obtain⟨A,n',cp,C,_⟩:=(repv_cell (t :=.slice t) rfl).1 r;simp at e C;rw[←e]at C;cases C
  |ref t x=>obtain⟨ad,ds,e,_⟩:=h;simp at e
  |box k p=>obtain⟨J,_,e⟩:=h;simp at e
  |fn f R=>obtain⟨J,e,_⟩:=h;simp at e
  |msl k n lo hi=>obtain⟨s,e,o1,_⟩:=h;simp at e;subst e;simp[Value.oneCell']at o1
  |yld j=>obtain⟨_,e⟩:=h;simp at e
  |mpt k n i p=>obtain⟨s,e,o1,_⟩:=h;simp at e;subst e;simp[Value.oneCell']at o1
  |_=>simp[AV.single]at g
 |_=>exact⟨by simp[Value.cells],by simpa[Value.cells]using h2⟩
def gk:∀{T:List AV} {g:List Value},RAs c T g→T.all AV.single=true→(∀v∈g,v.cells.size=1)∧(g.map λv=>v.cells.toList).flatten=g∧∀v∈g,v.oneCell'=true
 |[],[],_,_=>⟨Ψ,rfl,Ψ⟩
 |u::T,v::g,⟨h,l⟩,ha=>by
  simp only[n?,ι]at ha;obtain⟨j,o1⟩:=zD h ha.1;obtain⟨r,p,o2⟩:=gk l ha.2;refine⟨λx f=>?_,by simp[j,p],λx f=>?_⟩
  ·obtain rfl|f:=N'.1 f
   ·have:=C_ List.length j;simpa using this
   ·exact r x f
  ·obtain rfl|f:=N'.1 f
   ·exact o1
   ·exact o2 x f
def CE:∀(j:List Value) (i:Nat) (f:Array Value),(∀v∈j,v.cells.size=1)→i+j.length≤f.size →
  ∃g,Instr.fill (λi=>some (i,1)) f ((List.range' i j.length).zip j)=some g∧g.toList=f.toList.take i++(j.map λv=>v.cells.toList).flatten++f.toList.drop (i+j.length)
 |[],i,f,_,h=>⟨f,by simp[Instr.fill],Ψ⟩
 |v::j,i,f,hv,h=>by
  have C:=hv v Ψ;simp at h;have l:=jo i v f Ω;have p:(v.cells.zipIdx.foldl (λJ (x:Value×Nat)=>J.setIfInBounds (i+x.2) x.1) f).size=f.size:=by rw[←Array.length_toList,l];simp;omega
  obtain⟨g,U,T⟩:=CE j (i+1) (v.cells.zipIdx.foldl (λJ (x:Value×Nat)=>J.setIfInBounds (i+x.2) x.1) f) (λu P=>hv u (by simp[P])) (by rw[p];omega);refine⟨g, ?_, ?_⟩
  ·simp only[q_,Y_,abs,Instr.fill];have r:¬(v.cells.size≠1||i+v.cells.size>f.size)=true:=by
    simp[C];omega
   rw[ο r];exact U
  ·rw[T,l];have R:(f.toList.take i++v.cells.toList).length=i+1:=by
    simp[C];omega
   rw[←R,o?,a?,C,I_];simp;rw[show i+1+j.length=i+(j.length+1)by omega]
def Ak (hi:Inv B R J c)(tk:TabOk P tab)(ho:o.op = .build t parts)(hv:RAs c T ((parts.toList.map (·.2)).map a.eval))(ht:tab.one t=some n)(hn:parts.size≤n)
  (hord:ez 0 (parts.toList.map (·.1))=true) (hs:T.all AV.single=true) {zs:List AV} (hzs:∀i z,P.info? t=some i→i.zero=some z→z.cells.size=n→RAs c zs (z.cells.toList.drop parts.size)∧∀v∈z.cells.toList.drop parts.size,v.oneCell'=true):Ok P B R J o a c c.heap (.agg (aF (T++zs))):=by
 obtain⟨U,i,z,f1,f2,f3,f4,f5,f6⟩:=tk.one t n ht;obtain⟨s1,s2,s3⟩:=gk hv hs;have hvl:((parts.toList.map (·.2)).map a.eval).length=parts.size:=by simp
 obtain⟨z1,z2⟩:=hzs i z f4 f5 f6;have hzip:(parts.map λp=>(p.1,a.eval p.2)).toList=(List.range' 0 ((parts.toList.map (·.2)).map a.eval).length).zip ((parts.toList.map (·.2)).map a.eval):=by
  have h1:=sq _ 0 hord;have h2:(parts.toList.map (·.1)).length=((parts.toList.map (·.2)).map a.eval).length:=by simp
  rw[←h2,←h1,V?,asX];simp
 obtain⟨C,e1,e2⟩:=CE ((parts.toList.map (·.2)).map a.eval) 0 z.cells s1 (by rw[hvl,f6];omega);simp only[y?,o_,s2,I',hvl]at e2;have hfill:Instr.fill ((U.map λf=>(f.offset,P.cellsOf f.type))[·]?) z.cells (parts.map λp=>(p.1,a.eval p.2)).toList=some C:=by
  rw[hzip,←e1];refine yI _ _ (λp hp=>?_);have hpl:p.1<n:=by have:=List.of_mem_zip hp;have:=List.mem_range'_1.1 this.1;omega
  have hg:U[p.1]? = some (U[p.1]'Ω):=ask Ω;obtain⟨g1,j,g2,g3⟩:=f3 p.1 _ hg;simp[hg,g1,Program.cellsOf,g2,g3]
 have hm:∀(l:List Field) (w:World),(∀f∈l,∃j,P.info? f.type=some j)→(l.mapM (λf=>(do pure (f.offset,←sizeOf f.type):Sem (Nat×Nat)))).run P w = .ok (l.map λf=>(f.offset,P.cellsOf f.type)) w:=by
  intro l;induction l with
  |nil=>intro w _;simp
  |cons f l ih=>
   intro w r;obtain⟨j,hj⟩:=r f Ψ;have h1:(do pure (f.offset,←sizeOf f.type):Sem (Nat×Nat)).run P w = .ok (f.offset,P.cellsOf f.type) w:=by simp[sizeOf,typeInfo,hj,Program.cellsOf]
   rw[arR,ν,h1,Θ,ν,ih w (λg hg=>r g (by simp[hg])),Θ];rfl
 have r:∀f∈U.toList,∃j,P.info? f.type=some j:=by intro f hfm;obtain⟨k,hk,rfl⟩:=asU hfm;obtain⟨_,j,g2,_⟩:=f3 k U.toList[k] Ψ;exact⟨j,g2⟩
 have hmA:(U.mapM (λf=>(do pure (f.offset,←sizeOf f.type):Sem (Nat×Nat)))).run P c.w = .ok (U.map λf=>(f.offset,P.cellsOf f.type)) c.w:=by have:=hm U.toList c.w r;rw[t?,asp,ν,this,Θ];exact C_ (λl=>Result.ok l c.w) (i_ Ψ)
 refine av hi (v :=.agg C) ?_ ⟨_,by rw[←Array.toArray_toList (xs:=C),e2],RA.of_chain (hv.append z1),fD _,λv hx=>(Q'.1 hx).elim (s3 v) (z2 v)⟩;unfold execOp;simp only[ho,Instr.build,zeroValue,typeInfo,ν,H_,f4,Z',Θ,f5,ε f1,hmA];rw[hfill];simp
def Nu (U:Inv B R J c)(l:TabOk P tab)(C:o.op = .build t parts)(g:RAs c T ((parts.toList.map (·.2)).map a.eval))(p:tab.one t=some n)(j:n=parts.size)
  (f:ez 0 (parts.toList.map (·.1))=true) (r:T.all AV.single=true):Ok P B R J o a c c.heap (.agg (aF T)):=by
 have:=Ak U l C g p (Nat.le_of_eq j.symm) f r (zs:=[]) (λi z _ _ h=>by
  have:z.cells.toList.drop parts.size=[]:=by rw[←j,←h];simp
  rw[this];exact⟨awN,λv g=>by cases g⟩)
 rwa[G?]at this
def Jd (hi:Inv B R J c)(l:TabOk P tab)(ho:o.op = .build t parts)(g:RAs c T ((parts.toList.map (·.2)).map a.eval))(j:tab.ty t=some τ)(C:tab.one t=some n)(hn:parts.size≤n)
  (f:ez 0 (parts.toList.map (·.1))=true) (U:T.all AV.single=true):Ok P B R J o a c c.heap (.agg (aF (T++(C1 τ).drop parts.size))):=by
 refine Ak hi l ho g C hn f U (λi z h1 h2 _=>?_);obtain⟨i',z',r,_,p,g4,_⟩:=l.ty t τ j;rw[h1]at r;cases r;rw[h2]at p;cases p;rw[g4];exact⟨(nW τ).drop _,λv g=>(dl (w:=c.w) (St:=c.St) τ).one v (k? g)⟩
def Nt (hi:Inv B R J c)(tk:TabOk P tab)(ho:o.op = .build t parts)(hv:RAs c T ((parts.toList.map (·.2)).map a.eval))(ht:tab.arr t=some n)(hn:n=parts.size)
  (U:ez 0 (parts.toList.map (·.1))=true) (hs:T.all AV.single=true):Ok P B R J o a c c.heap (.agg (aF T)):=by
 obtain⟨e,i,z,j,f1,f2,f3,f4,f5,f6⟩:=tk.arr t n ht;obtain⟨s1,s2,s3⟩:=gk hv hs;have C:((parts.toList.map (·.2)).map a.eval).length=parts.size:=by simp
 have r:(parts.map λp=>(p.1,a.eval p.2)).toList=(List.range' 0 ((parts.toList.map (·.2)).map a.eval).length).zip ((parts.toList.map (·.2)).map a.eval):=by
  have h1:=sq _ 0 U;have h2:(parts.toList.map (·.1)).length=((parts.toList.map (·.2)).map a.eval).length:=by simp
  rw[←h2,←h1,V?,asX];simp
 obtain⟨f,e1,e2⟩:=CE ((parts.toList.map (·.2)).map a.eval) 0 z.cells s1 (by rw[C,f6];omega);simp only[y?,o_,s2,I',C]at e2;have l:z.cells.toList.drop parts.size=[]:=by rw[←hn,←f6];simp
 rw[l,G?]at e2;have g:Instr.fill (λi=>some (i*1,1)) z.cells (parts.map λp=>(p.1,a.eval p.2)).toList=some f:=by rw[r,←e1];exact yI _ _ (λp _=>by simp)
 refine av hi (v :=.agg f) ?_ ⟨_,by rw[←Array.toArray_toList (xs:=f),e2],RA.of_chain hv,fD _,s3⟩;unfold execOp;have hsz:(sizeOf e).run P c.w = .ok 1 c.w:=by simp[sizeOf,typeInfo,f2,f3]
 simp only[ho,Instr.build,zeroValue,typeInfo,ν,H_,f4,Z',Θ,f5,ε f1,hsz];rw[g];simp
def Nq (hi:Inv B R J c)(r:TabOk P tab){x y:Operand}(ho:o.op = .indexAddr t x y){k f:Nat}(T:RA c (.box k f) [a.eval x]){q:IntKind}{n:Int}(C:RA c (.val (.int q) n) [a.eval y]){m:Nat}(U:tab.arr t=some m)(h0:0≤n)(h1:n<(m:Int)) :
  Ok P B R J o a c c.heap (.box k (f+n.toNat)):=by
 obtain⟨e,i,z,j,f1,f2,f3,f4,f5,f6⟩:=r.arr t m U;obtain⟨cs,p,ev⟩:=T;simp at ev;have g:=cI C.val_inv;have l:(sizeOf e).run P c.w = .ok 1 c.w:=by simp[sizeOf,typeInfo,f2,f3]
 refine av hi (v :=.pointer (some ⟨c.blk k,f+n.toNat,none⟩)) ?_ ⟨cs,p,rfl⟩;unfold execOp;simp[ho,ev,g,Instr.indexAt,ε f1,Instr.sureAddr,asIntOf,h0,h1,l,Addr.add]
def QX (hi:Inv B R J c)(r:TabOk P tab){x:Operand}(ho:o.op = .load t x){k f:Nat}(hv:RA c (.box k f) [a.eval x]){cells:List AV}(hk:c.heap[k]? = some (.box cells))
  (ht:tab.ty t=some τ) (hst:τ.isStruct=true) {n:Nat} (hn:tab.one t=some n) (hl:((cells.drop f).take τ.size).length=n) (hs:((cells.drop f).take τ.size).all AV.single=true):Ok P B R J o a c c.heap (.agg (aF ((cells.drop f).take τ.size))):=by
 obtain⟨cs,hk',e⟩:=hv;obtain⟨l,t',h1,h2,h3⟩:=qZ hi hk;have h4:=(h2.drop f).take τ.size;obtain⟨_,_,s3⟩:=gk h4 hs;have U:((l.toList.drop f).take τ.size).length=τ.size:=by rw[←h4.length,hl];obtain⟨i,z,q1,q2,q3,q4,_⟩:=r.ty t τ ht;obtain⟨fs,i',z',f1,f2,f3,f4,f5,f6⟩:=r.one t n hn;rw[q1]at f4;cases f4;rw[q3]at f5;cases f5;rw[←f6,←Array.length_toList,q4];exact(dl (w:=c.w) (St:=c.St) τ).size
 obtain⟨v,p,g⟩:=cO r ht c.w ⟨c.blk k,f,none⟩ _ U (λj u T=>by
  rw[cH,h3,←T,E'];have hj:j<τ.size:=by
   obtain h|h:=T' j τ.size
   ·exact h
   ·rw[E',ο Ω]at T;cases T
  rw[β hj,U'])
 have C:v = .agg ((l.toList.drop f).take τ.size).toArray:=by rw[hst]at g;simpa using g
 subst C;refine av hi (v :=.agg ((l.toList.drop f).take τ.size).toArray) ?_ ⟨_,rfl,RA.of_chain h4,fD _,s3⟩;unfold execOp;simp at e;simp[ho,e,Instr.loadAt,Instr.sureAddr,p]
end
open Go Go.RowKit
section
variable {P:Program}{tab:Tab}{B:Bd}{R:World}{J:Sb}{c:Gh}{o:Oper}{a:Act}
def JC:Option Value→Option Int→Prop
 |none,none=>True
 |some v,some n=>∃k,v = .int k n
 |_,_=>False
variable{hi' :Option Int}{τ:Ty}{t e:TypeId}{x s:Operand}{u:AV}{cl:Call}{v' :Value}{fresh:Nat}
def kI (w:World)(g:Bool)(len cap:Nat){l r:Option Value}{f :Option Int}(p:JC l f)(C:JC r hi')(j:(aY f hi' len).1=true)(R:len≤cap) :
  (Instr.sliceBounds g len cap l r none).run P w = .ok ((aY f hi' len).2.1,(aY f hi' len).2.2,cap) w∧(aY f hi' len).2.1≤(aY f hi' len).2.2∧(aY f hi' len).2.2≤len:=by
 match l,f,p,r,hi',C with
 |none,none,_,none,none,_=>simp[Instr.sliceBounds,aY]
 |some _,some n,⟨k,rfl⟩,none,none,_=>
  simp[aY]at j;refine⟨?_, ?_, ?_⟩
  ·simp[Instr.sliceBounds,aY,Instr.sliceBound,asIntOf,j.1,j.2]
  ·simp[aY];omega
  ·simp[aY]
 |none,none,_,some _,some m,⟨k,rfl⟩=>
  simp[aY]at j;have J:m≤(cap:Int):=Ω
  refine⟨?_, ?_, ?_⟩
  ·simp[Instr.sliceBounds,aY,Instr.sliceBound,asIntOf,j.1,J]
  ·simp[aY]
  ·simp[aY];omega
 |some _,some n,⟨k,rfl⟩,some _,some m,⟨k',rfl⟩=>
  simp[aY]at j;have J:m≤(cap:Int):=Ω
  have h3:0≤m:=Ω
  refine⟨?_, ?_, ?_⟩
  ·have U:max m 0=m:=Ω
   have T:¬m<n:=Ω
   simp[Instr.sliceBounds,aY,Instr.sliceBound,asIntOf,h3,J,j.1.1,U,T]
  ·simp[aY];omega
  ·simp[aY];omega
def W4 {w:World}{St:Sb}{l:List τ.den}{A:Option Addr}{cap i j:Nat}(R:Rep w St (toD (.slice τ) l) [.slice A l.length cap])(U:i≤j)(T:j≤l.length) :
  Rep w St (toD (.slice τ) ((l.take j).drop i)) [.slice (if cap=i then A else A.map (·.add (i*τ.size))) (j-i) (cap-i)]:=by
 obtain⟨A',cp,e,hc,J⟩:=dI R;cases e;have r:((l.take j).drop i).length=j-i:=by simp;omega
 refine⟨_,_,_,rfl,by rw[len_chain,r],Ω, ?_⟩;by_cases h0:j-i=0
 ·exact .inl h0
 ·obtain⟨P,ds,rfl,g,p,f⟩:=J.resolve_left Ω;rw[ο Ω];have h1:=fJ j T p;have h2:=jt i Ξ h1;refine .inr ⟨_,_,rfl,(ip P g _).2.2,h2,λk u C=>?_⟩;rw[U',E']at C;split at C
  ·obtain⟨g1,g2⟩:=f _ _ C;obtain⟨f1,f2,_⟩:=ip P g (i*τ.size);rw[EY,f1,f2,b?];exact⟨g1,g2⟩
  ·cases C
def adt (hi:Inv B R J c)(tk:TabOk P tab){g f:Option Operand}(ho:o.op = .slice t x g f none){s:AV}(hx:RA c s [a.eval x]){p:Option Int}(T:JC (g.map a.eval) p)(U:JC (f.map a.eval) hi')
  {τ:Ty} {l:List τ.den} (hl:yh (tab.ty t) s=some ⟨τ,l⟩) (hc:(aY p hi' l.length).1=true) :
  Ok P B R J o a c c.heap (.val (.slice τ) ((l.take (aY p hi' l.length).2.2).drop (aY p hi' l.length).2.1)):=by
 obtain⟨ht,hv⟩:=fk hl hx;obtain⟨i,z,_,_,_,_,_,_,hu⟩:=tk.ty t _ ht;obtain⟨e,he,r,_⟩:=hu;have C:=(repv_cell (t :=.slice τ) rfl).1 hv;obtain⟨A,cp,ev,j,_⟩:=dI C;simp at ev;rw[ev]at C;obtain⟨h1,h2,h3⟩:=kI (P:=P) c.w true l.length cp T U hc j;refine av hi ?_ ⟨_,rfl,(repv_cell rfl).2 (W4 C h2 h3)⟩;unfold execOp;simp[ho,ev,Instr.sliceAt,ν,ε he,Instr.slice,h1,aJ tk r,Z']
def Nl (hi:Inv B R J c)(tk:TabOk P tab){j f:Option Operand}(ho:o.op = .slice t x j f none){s:AV}(hx:RA c s [a.eval x]){g:Option Int}(U:JC (j.map a.eval) g)(hhi:JC (f.map a.eval) hi')
  {l:Str} (hl:zo (tab.ty t) s=some l) (hc:(aY g hi' l.length).1=true) :
  Ok P B R J o a c c.heap (.val .str ((l.take (aY g hi' l.length).2.2).drop (aY g hi' l.length).2.1)):=by
 obtain⟨ht,hv⟩:=tE hl hx;obtain⟨i,z,_,_,_,_,_,_,C⟩:=tk.ty t _ ht;have C:P.underlying t=some .string:=C;obtain⟨h1,h2,h3⟩:=kI (P:=P) c.w false l.length l.length U hhi hc (δ _);have T:(⟨l.toArray⟩:ByteArray).size=l.length:=by simp[ByteArray.size]
 generalize (aY g hi' l.length).2.1=p at *;generalize (aY g hi' l.length).2.2=q at *;have r:(⟨l.toArray⟩:ByteArray).extract p q=⟨((l.take q).drop p).toArray⟩:=by apply asZ;simp[atD,List.drop_take,att]
 refine av hi (v :=.string ⟨((l.take q).drop p).toArray⟩) ?_ (Cb _);unfold execOp;simp[ho,hv,Instr.sliceAt,ν,ε C,Instr.slice,T,h1,Z',r]
def US (T:Inv B R J c){i:Nat}(C:o.op = .extract x i){p:AV}(g:RA c (.tup p) [a.eval x])(r:p.parts[i]? = some u):Ok P B R J o a c c.heap u:=by obtain⟨cs,e,l,U⟩:=g;obtain⟨v,j,f⟩:=(l.parts U).get i u r;simp at e;refine av T (v:=v) ?_ f;unfold execOp;simp[C,e,Instr.extract,j]
def QU (p:Inv B R J c){f:FuncId}{first g:Array Operand}(l:o.op = .makeFunc (.func f) first g)(r:first.size=0){T:List AV}(j:RAs c T (g.toList.map a.eval)):Ok P B R J o a c c.heap (.fn f (aF T)):=by
 have:first = #[]:=atE.1 r
 subst this;refine av p (v :=.func (.func f) #[] (g.toList.map a.eval).toArray) ?_ ⟨_,rfl,RA.of_chain j,fD T⟩;have e:g.map a.eval=(g.toList.map a.eval).toArray:=i_ Ψ;unfold execOp;simp[l,Instr.makeFunc,e]
def zy {l:List τ.den}{v:Value}(h:RepV c.w c.St (.slice τ) l v):∃A r p,v = .slice A l.length r∧Rep c.w c.St (chain (toD τ) l) p∧p.length=l.length*τ.size∧(l.length=0∨∃C,A=some C∧∀j u,p[j]? = some u→c.w.cell? (C.add j)=some u):=by
 obtain⟨A,r,ev,P,J⟩:=dI ((repv_cell (t :=.slice τ) rfl).1 h);simp at ev;obtain h0|⟨C,p,rfl,_,f,g⟩:=J
 ·have:l=[]:=K' h0;subst this;exact⟨A,r,[],ev,rfl,Ψ,.inl rfl⟩
 ·exact⟨_,r,p,ev,f,ba f,.inr ⟨C,rfl,λj u R=>(g j u R).1⟩⟩
def pj {n bytes:Nat}(h:n≤LIM)(f:bytes≤16384):n≤maxLen∧n*bytes≤140737488355328:=by unfold LIM at h;refine⟨by simp[maxLen];omega, ?_⟩;have:n*bytes≤4294967296*16384:=Nat.mul_le_mul h f;omega
def gG (r:o.op = .call cl)(l:cl.callee = .builtin .append)(f:cl.args = #[s,x])(j:cl.argTypes = #[t,t]){w p:World}
  (g:(Builtin.append_ #[t,t] o.type #[a.eval s,a.eval x]).run P w = .ok v' p):(execOp a.eval o).run P w = .ok (.value v') p:=by
 unfold execOp;simp[r,resolve,l,f,j,invoke,builtin,g]
def Ce {f:World}{St':Sb}{l:List τ.den}{n:Nat}{J:List Value}(C:f.ownsRow B e τ.size v' n J)(p:Rep f St' (chain (toD τ) l) J)(T:l.length=n)
  (r:∀b o,v'.ownBlock=some b→o<n*τ.size→St' b o):Rep f St' (toD (.slice τ) l) [v']:=by
 subst T;rcases C.2 with⟨q1,q2⟩|⟨g,cap,U,q1,q2,q3,R,q5,_⟩
 ·rw[q1];have:l=[]:=K' q2;rw[this];exact⟨none,0,0,rfl,rfl,δ _,.inl rfl⟩
 ·subst q1;refine⟨_,_,_,rfl,by rw[len_chain],R,.inr ⟨_,_,rfl,rfl,p,λj u P=>⟨C.cells (g:=g) rfl j u P, ?_⟩⟩⟩;have:=aq P;rw[C.1]at this;exact r _ _ rfl (by simpa using this)
def xM (hi:Inv B R J c)(tk:TabOk P tab)(ho:o.op = .call cl)(hcl:cl.callee = .builtin .append)(hargs:cl.args = #[s,x])(hty:cl.argTypes = #[t,t]){k v:Nat}{l l':List τ.den}
  (hs:RA c (.own k v τ l) [a.eval s]) (hx:∃A cp U,a.eval x = .slice A l'.length cp∧Rep c.w c.St (chain (toD τ) l') U∧U.length=l'.length*τ.size∧(l'.length=0∨∃ad,A=some ad∧∀j u,U[j]? = some u→c.w.cell? (ad.add j)=some u)) (ht:tab.ty t=some (.slice τ)) (he:tab.elem t=some e) (hk:c.heap[k]? = some (.row τ e v)) (hlim:l.length+l'.length≤LIM) :
  Ok P B R J o a c (c.heap.set k (.row τ e (v+1))) (.own k (v+1) τ (l++l')):=by
 obtain⟨i,z,_,_,_,_,_,_,hu⟩:=tk.ty t _ ht;obtain⟨e',u1,u2,u3,hpos⟩:=hu;have:e'=e:=by rw[he]at u3;exact(χ u3).symm
 subst this;obtain⟨ie,ze,t1,t2,t3,t4,t5,_⟩:=tk.ty e' τ u2;obtain⟨sv,es,hsv,tt,te,vv,r,_,hcur⟩:=hs;simp at es;rw[hk]at r;injection r with r;injection r with r1 r2 r3;have p:sv=c.rv k:=hcur r3.symm;obtain⟨n,xs,f,hsp⟩:=hi.row k τ e' v hk;have hn:n=l.length∧Rep c.w c.St (chain (toD τ) l) xs:=by
  obtain⟨A,cp,ev,hcap,hds⟩:=dI ((repv_cell (t :=.slice τ) rfl).1 hsv);simp at ev;rcases f.2 with⟨h1,T⟩|⟨g,cap,cur,h1,_⟩
  ·rw[←p,ev]at h1;injection h1 with _ h3 _;have:l=[]:=K' h3;subst this;have hx0:xs=[]:=K' (by rw[f.1,T];simp);subst hx0;exact⟨T,rfl⟩
  ·rw[←p,ev]at h1;injection h1 with T h3 _;refine⟨h3.symm, ?_⟩;obtain h0|⟨ad,U,hA,_,C,hcell⟩:=hds
   ·have:l=[]:=K' h0;subst this;have hx0:xs=[]:=K' (by rw[f.1,←h3];simp);subst hx0;rfl
   ·rw[hA]at T;cases T;have hc2:=f.cells (g:=g) (by rw[←p,ev,hA];rfl);have hdx:U=xs:=by
     apply V_;intro j;have hl1:=ba C;have hl2:xs.length=U.length:=by rw[f.1,hl1,h3]
     by_cases hj:j<U.length
     ·have e1:=(hcell j U[j] (ζ hj)).1;have e2:=hc2 j xs[j] (ζ Ω);rw[ζ hj,ζ (by omega:j<xs.length),←e1,←e2]
     ·rw[z_ Ω,z_ Ω]
    rw[←hdx];exact C
 obtain⟨rfl,C⟩:=hn;obtain⟨A,cp,U,ex,hrx,hdl,hsrc⟩:=hx;obtain⟨r63,rby⟩:=pj hlim t5;obtain⟨v',w',hrun,T,h3,h4,h5,hd⟩:=eE (P:=P) (B:=B) c.w t o.type e' ie ze τ.size ie.bytes u1 t1 t3 t2 rfl (by rw[←Array.length_toList,t4,←(dl (w:=c.w) (St:=c.St) τ).size]) hpos (c.rv k) l.length xs f A l'.length cp U hdl hsrc hrx.one r63 rby hi.size;obtain⟨hI,hE⟩:=hi.appendRow hk f hsp T h3 h4 h5 hd;refine du (v:=v') (gG ho hcl hargs hty (by rw[es,p,ex];exact hrun)) rfl hI hE ⟨v',rfl,(repv_cell rfl).2 ?_,τ,e',v+1, ?_,δ _,λ_=>by simp⟩
 ·exact Ce T (dx (C.mono hE.st hE.cell) (hrx.mono hE.st hE.cell)) Ψ (λb o h1 T=>.inr ⟨h1,T⟩)
 ·show(c.heap.set k _)[k]? = _;rw[get_set,β rfl,β (aq hk)]
def oU (hi:Inv B R J c)(tk:TabOk P tab)(ho:o.op = .call cl)(hcl:cl.callee = .builtin .append)(r:cl.args = #[s,x])(hty:cl.argTypes = #[t,t]){l:List τ.den}
  (hs:RA c .nil [a.eval s]) (hx:∃A cp C,a.eval x = .slice A l.length cp∧Rep c.w c.St (chain (toD τ) l) C∧C.length=l.length*τ.size∧(l.length=0∨∃ad,A=some ad∧∀j u,C[j]? = some u→c.w.cell? (ad.add j)=some u)) (ht:tab.ty t=some (.slice τ)) (he:tab.elem t=some e) (hf:c.heap[fresh]? = some .none) (hlim:l.length≤LIM) :
  Ok P B R J o a c (c.heap.set fresh (.row τ e 1)) (.own fresh 1 τ l):=by
 obtain⟨hI,hE⟩:=hi.addRow (k:=fresh) (n:=0) (t:=τ) (e:=e) (s :=.slice none 0 0) (xs:=[]) hf (D_ _ _ _ _) (λb f=>by simp[Value.ownBlock]at f) (λk' b f=>by simp[Value.ownBlock]at f) (λb f=>by simp[Value.ownBlock]at f) (λb f=>by simp[Value.ownBlock]at f);obtain⟨i,z,_,_,_,_,_,_,hu⟩:=tk.ty t _ ht;obtain⟨p,u1,u2,u3,hpos⟩:=hu;have:p=e:=by rw[he]at u3;exact(χ u3).symm
 subst this;obtain⟨ie,ze,t1,t2,t3,t4,t5,_⟩:=tk.ty p τ u2;obtain⟨A,cp,C,ex,U,hdl,T⟩:=hx;obtain⟨r63,rby⟩:=pj hlim t5;have hs:[a.eval s]=[.slice none 0 0]:=hs;simp at hs;obtain⟨v',w',hrun,h2,h3,h4,h5,hd⟩:=eE (P:=P) (B:=B) c.w t o.type p ie ze τ.size ie.bytes u1 t1 t3 t2 rfl (by rw[←Array.length_toList,t4,←(dl (w:=c.w) (St:=c.St) τ).size]) hpos (.slice none 0 0) 0 [] (D_ _ _ _ _) A l.length cp C hdl T U.one (by simpa using r63) (by simpa using rby) hi.size;have hk:(c.heap.set fresh (.row τ p 0))[fresh]? = some (.row τ p 0):=by rw[get_set,β rfl,β (aq hf)]
 obtain⟨hJ,hF⟩:=hI.appendRow (k:=fresh) (v:=0) (n:=0) (m:=l.length) (t:=τ) (e:=p) (s':=v') (w':=w') (xs:=[]) (news:=C) hk (by simpa using D_ c.w B p τ.size) (λb f=>by simp[Value.ownBlock]at f)
  h2 (by simpa using h3) (by simpa using h4) (λg hg=>by simp[Value.ownBlock]at hg) hd
 refine du (v:=v') (gG ho hcl r hty (by rw[hs,ex];exact hrun)) ?_ hJ (hE.trans hF) ⟨v',rfl,(repv_cell rfl).2 ?_,τ,p,1, ?_,δ _,λ_=>by simp⟩
 ·simp
 ·exact Ce h2 (by simpa using(U.mono hE.st hE.cell).mono hF.st hF.cell) Ψ (λb o h1 h2=>.inr ⟨h1,h2⟩)
 ·show((c.heap.set fresh _).set fresh _)[fresh]? = _;rw[get_set,β rfl,β (by simpa using aq hf)]
def ZQ (hi:Inv B R J c)(T:TabOk P tab)(ho:o.op = .call cl)(C:cl.callee = .builtin .append)(f:cl.args = #[s,x])(r:cl.argTypes = #[t,t]){k v:Nat}{l j:List τ.den}
  (hs:RA c (.own k v τ l) [a.eval s]) (U:RA c u [a.eval x]) (hl:yh (tab.ty t) u=some ⟨τ,j⟩) (he:tab.elem t=some e) (hk:c.heap[k]? = some (.row τ e v)) (g:l.length+j.length≤LIM) :
  Ok P B R J o a c (c.heap.set k (.row τ e (v+1))) (.own k (v+1) τ (l++j)):=by
 obtain⟨ht,p⟩:=fk hl U;exact xM hi T ho C f r hs (zy p) ht he hk g
def Jg (hi:Inv B R J c)(C:TabOk P tab)(ho:o.op = .call cl)(r:cl.callee = .builtin .append)(f:cl.args = #[s,x])(p:cl.argTypes = #[t,t]){j:List τ.den}
  (hs:RA c .nil [a.eval s]) (T:RA c u [a.eval x]) (hl:yh (tab.ty t) u=some ⟨τ,j⟩) (he:tab.elem t=some e) (hf:c.heap[fresh]? = some .none) (g:j.length≤LIM) :
  Ok P B R J o a c (c.heap.set fresh (.row τ e 1)) (.own fresh 1 τ j):=by
 obtain⟨U,l⟩:=fk hl T;exact oU hi C ho r f p hs (zy l) U he hf g
end
