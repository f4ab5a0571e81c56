/- Closed runs. -/
import Derived.Test.YtfgpipfjalmooaaGreatCloI
import Derived.Laws.BytesString
import Derived.Deep.AppendSrc
import Derived.Laws.MakeOwn
import Derived.MapKept
import Derived.Maps.RangeRun
set_option linter.all false
namespace Go.Proofs.YtfgpipfjalmooaaGreat
namespace Clo
open Go Go.RowKit
variable [SymVal]
section
variable {P:Program}{B:Nat}{R:W0}{φ:Gx}{h:Pos→EO}{w:World}{o:Oper}{a:Act}
def Bv (neg:Bool):BinOp:=match neg with|true=>.neq|false=>.eql
def Ef (neg b:Bool):Bool:=match neg with|true=>!b|false=>b
def abb (r:Inv B R φ h w){neg:Bool}{t p:TypeId}{x y:Operand}(f:o.op = .binOp (Bv neg) t x y p){b:Bool}
  (g:(eqGuard (Bv neg) t x y (a.eval x) (a.eval y)).run P w = .ok () w) (l:∀op,(op = .eql∨op = .neq)→binOp op t (a.eval x) (a.eval y)=(do pure (.bool (Ef (match op with|.neq=>true|_=>false) (←Op.equal t (a.eval x) (a.eval y))))))
  (j:(Op.equal t (a.eval x) (a.eval y)).run P w = .ok b w):OkX P B R φ h w o a (.pv (.one (.bl (Ef neg b)))) none:=by
 refine ay r ?_ (AD _);unfold execOp;cases neg
 ·simp[f,Bv,ν];rw[show(eqGuard .eql t x y (a.eval x) (a.eval y)).run P w = .ok () w from g,l .eql (.inl rfl)];simp[j,Ef]
 ·simp[f,Bv,ν];rw[show(eqGuard .neq t x y (a.eval x) (a.eval y)).run P w = .ok () w from g,l .neq (.inr rfl)];simp[j,Ef]
variable{v:Value}
def Vr {n:Nat}(h:RT φ (.pv (.one (.glob n))) v):v = .pointer (some ⟨n,0,none⟩):=(υ h).symm
def k6 (h:RT φ (.pv (.one .nilp)) v):v = .pointer none:=(υ h).symm
def gp (h:RT φ (.pv (.one .nils)) v):v = .slice none 0 0:=(υ h).symm
def Eq (h:RT φ (.pv (.one .nilm)) v):v = .map none:=(υ h).symm
def EqF (P:Program)(w:World)(neg:Bool)(t:TypeId)(x y:Operand)(g f:Value)(b:Bool):Prop :=
 (eqGuard (Bv neg) t x y g f).run P w = .ok () w∧(∀op,(op = .eql∨op = .neq)→binOp op t g f=(do pure (.bool (Ef (match op with|.neq=>true|_=>false) (←Op.equal t g f)))))∧(Op.equal t g f).run P w = .ok b w
section
variable {t e:TypeId}{neg:Bool}{x y:Operand}
def Ux (f:P.underlying t=some (.pointer e))(q:Option Addr):EqF P w neg t x y (.pointer none) (.pointer q) q.isNone:=by
 refine⟨by cases neg <;> simp[eqGuard,Bv],by rintro op (rfl|rfl) <;> simp[binOp,Ef], ?_⟩;have:∀d,(Op.equalIn (d+1) t (.pointer none) (.pointer q)).run P w = .ok q.isNone w:=λd=>by simp[Op.equalIn,η f]
 exact this 9999
def aco (f:P.underlying t=some (.pointer e))(q:Addr):EqF P w neg t x y (.pointer (some q)) (.pointer none) false:=by
 refine⟨by cases neg <;> simp[eqGuard,Bv],by rintro op (rfl|rfl) <;> simp[binOp,Ef], ?_⟩;have:∀d,(Op.equalIn (d+1) t (.pointer (some q)) (.pointer none)).run P w = .ok false w:=λd=>by simp[Op.equalIn,η f]
 exact this 9999
def ahY (l:P.underlying t=some (.pointer e))(g:av P e≠0)(b m n:Nat):EqF P w neg t x y (.pointer (some ⟨b,m,none⟩)) (.pointer (some ⟨b,n,none⟩)) (Nat.beq m n):=by
 refine⟨by cases neg <;> simp[eqGuard,Bv],by rintro op (rfl|rfl) <;> simp[binOp,Ef], ?_⟩;have p:((⟨b,m,none⟩:Addr) == ⟨b,n,none⟩)=Nat.beq m n:=by
  by_cases f:m=n
  ·subst f;simp[akz]
  ·have r:Nat.beq m n=false:=by cases j:Nat.beq m n with|false=>rfl|true=>exact absurd (ry.1 j) f
   rw[r];simp[f]
 have:∀d,(Op.equalIn (d+1) t (.pointer (some ⟨b,m,none⟩)) (.pointer (some ⟨b,n,none⟩))).run P w = .ok (Nat.beq m n) w:=λd=>by simp[Op.equalIn,η l,aK g,g,sameAddr,p]
 exact this 9999
def Uw (f:P.underlying t=some (.slice e))(q:Option Addr)(n c:Nat):EqF P w neg t x y (.slice none 0 0) (.slice q n c) q.isNone:=by
 refine⟨by cases neg <;> simp[eqGuard,Bv],by rintro op (rfl|rfl) <;> simp[binOp,Ef], ?_⟩;have:∀d,(Op.equalIn (d+1) t (.slice none 0 0) (.slice q n c)).run P w = .ok q.isNone w:=λd=>by simp[Op.equalIn,η f]
 exact this 9999
def acp (f:P.underlying t=some (.slice e))(q:Addr)(n c:Nat):EqF P w neg t x y (.slice (some q) n c) (.slice none 0 0) false:=by
 refine⟨by cases neg <;> simp[eqGuard,Bv],by rintro op (rfl|rfl) <;> simp[binOp,Ef], ?_⟩;have:∀d,(Op.equalIn (d+1) t (.slice (some q) n c) (.slice none 0 0)).run P w = .ok false w:=λd=>by simp[Op.equalIn,η f]
 exact this 9999
end
variable{t:TypeId}{q:EqK}{neg b:Bool}{x y:Operand}
def afo {p:Bool}(h:HI P t p=some q):match q with
 |.flat J agg=>i4 P 20 t=some J∧agg=pK (P.underlying t)∧(agg=true→P.eqGuardType P.depth t=false)
 |.ptr=>∃e,P.underlying t=some (.pointer e)∧av P e≠0
 |.slc=>∃e,P.underlying t=some (.slice e):=by
 unfold HI at h;split at h
 next e f=>
  split at h
  ·cases h
  next j=>cases h;exact⟨e,f,j⟩
 next e f=>cases h;exact⟨e,f⟩
 next fs f=>
  split at h
  ·cases h
  next l=>
   split at h
   next J g=>cases h;exact⟨g,by rw[f];rfl,λ_=>by simpa using l⟩
   ·cases h
 ·cases h
 next d _ _ hst _ f=>
  split at h
  next J g=>cases h;refine⟨g, ?_,λx=>by cases x⟩;rw[f];cases d <;> first|rfl|exact(hst _ rfl).elim
  ·cases h
 ·cases h
def acq (hni:∀k,P.underlying t≠some (.int k))(hns:P.underlying t≠some .string){J:List CK}{agg:Bool}(R:i4 P 20 t=some J)(r:agg=pK (P.underlying t))(hg:agg=true→P.eqGuardType P.depth t=false){p q:PV}{U T:Value}(h1:denP φ p=some U)(h2:denP φ q=some T)(g:eqP J agg p q=some b):EqF P w neg t x y U T b:=by
 unfold eqP at g;split at g
 next c c'=>
  cases f:agg with
  |true=>rw[f]at g;cases g
  |false=>
   rw[f]at g r;have g:eqL J [c] [c']=some b:=g;have j:=EJ (P:=P) (w:=w) 20 9980 t J R (.one c) (.one c') U T b h1 h2 r r g;have C:P.underlying t=some .bool:=by
    simp[i4]at R;split at R
    ·assumption
    next k C=>exact absurd C (hni k)
    next C=>exact absurd C hns
    next C=>rw[C]at r;cases r
    ·cases R
   simp only[i4,C,θ]at R;subst R;cases c <;> cases c' <;> simp[eqL,eqC]at g;have z1:=JL (φ:=φ) (v:=U) h1;have z2:=JL (φ:=φ) (v:=T) h2;rw[z1,z2]at j⊢;exact⟨by cases neg <;> simp[eqGuard,Bv],by rintro op (rfl|rfl) <;> simp[binOp,Ef],j⟩
 next l m=>
  cases f:agg with
  |false=>rw[f]at g;cases g
  |true =>have hg:=hg f;rw[f]at g r;have g:eqL J l m=some b:=g;have j:=EJ (P:=P) (w:=w) 20 9980 t J R (.agg l) (.agg m) U T b h1 h2 r r g;obtain⟨xs,z1,_⟩:=yw (φ:=φ) (v:=U) h1;obtain⟨ys,z2,_⟩:=yw (φ:=φ) (v:=T) h2;rw[z1,z2]at j⊢;exact⟨by cases neg <;> simp[eqGuard,Bv,g?,hg],by rintro op (rfl|rfl) <;> simp[binOp,Ef],j⟩
 ·cases g
def ahZ (U:∀k,P.underlying t≠some (.int k))(R:P.underlying t≠some .string)(J:HI P t (isC x||isC y)=some q){a1 a2:TV}{v1 v2:Value}(j:RT φ a1 v1)(f:RT φ a2 v2)(p:eqQ q a1 a2=some b):EqF P w neg t x y v1 v2 b:=by
 have T:=afo J;unfold eqQ at p;split at p
 ·exact acq U R T.1 T.2.1 T.2.2 j f p
 ·obtain⟨e,r,hz⟩:=T;split at p;all_goals first|(cases p;done)|skip
  ·cases p;rw[k6 j,k6 f];exact Ux r none
  ·cases p;obtain⟨l,_,z⟩:=iB f;rw[k6 j,z];exact Ux r (some _)
  ·cases p;obtain⟨l,_,z⟩:=iB j;rw[k6 f,z];exact aco r _
  ·cases p;rw[k6 j,Vr f];exact Ux r (some _)
  ·cases p;rw[Vr j,k6 f];exact aco r _
  next k g o1 k' g' o2=>
   cases C:(k.beq k'&&Nat.beq g g')with
   |false=>rw[C]at p;cases p
   |true =>rw[C,I']at p;simp only[ι,Pos.beq_iff,ry]at C;obtain⟨rfl,rfl⟩:=C;cases p;obtain⟨l,l1,z⟩:=iB j;obtain⟨l',l2,z'⟩:=iB f;rw[l1]at l2;cases l2;rw[z,z'];exact ahY r hz _ _ _
 ·obtain⟨e,r⟩:=T;split at p;all_goals first|(cases p;done)|skip
  all_goals (simp at p;subst p)
  ·rw[gp j,gp f];exact Uw r none 0 0
  ·obtain⟨l,_,z⟩:=JK f;rw[gp j,z];exact Uw r (some _) _ _
  ·obtain⟨l,_,z⟩:=JK j;rw[gp f,z];exact acp r _ _ _
  ·obtain⟨l,c,z⟩:=LR f;rw[gp j,z];exact Uw r (some _) _ _
  ·obtain⟨l,c,z⟩:=LR j;rw[gp f,z];exact acp r _ _ _
 ·cases p
def ahq (hI:Inv B R φ h w){ty:TypeId}(ho:o.op = .binOp (Bv neg) t x y ty)(U:∀k,P.underlying t≠some (.int k))(T:P.underlying t≠some .string)(J:HI P t (isC x||isC y)=some q){C:List TV}(hv:RTs φ C [a.eval x,a.eval y]){f:Pos}{out:TV}{wr:Option (Pos×EO)}(g:(acy neg q C f).run h=some (out,wr)):OkX P B R φ h w o a out wr:=by
 unfold acy at g;split at g
 ·obtain⟨v1,ws,j,r,p⟩:=hv.cons;obtain⟨v2,e2,l⟩:=p.one;subst e2;simp at j;obtain⟨j,e2⟩:=j;subst j;subst e2;split at g
  next b hb=>rw[zV]at g;cases g;obtain⟨h1,h2,h3⟩:=ahZ (neg:=neg) U T J r l hb (w:=w);exact abb hI ho h1 h2 h3
  ·cases g
 ·cases g
end
variable [SymVal]
def iS {f:Type}{s:Nat}:∀{l:List (List f)},(∀a∈l,a.length=s)→l.flatten.length=l.length*s
 |[],_=>by simp
 |x::l,h=>by rw[J_,Y',h x Ψ,iS λa g=>h a (by simp[g]),s_,d?,K?]
def ve {f:Type}{s:Nat}:∀{l:List (List f)},(∀a∈l,a.length=s)→∀{i j:Nat} {a:List f} {c:f},l[i]? = some a→a[j]? = some c→l.flatten[i*s+j]? = some c
 |[],_,i,j,a,c,h,_=>by simp at h
 |x::l,hs,i,j,a,c,h,hj=>by
  have g:=hs x Ψ;cases i with
  |zero =>simp at h;subst h;have:=(S'.1 hj).1;rw[J_,ajS,Q',Θ this];exact hj
  |succ i=>
   simp at h;have:=ve (λa p=>hs a (by simp[p])) h hj;have e:(i+1)*s+j=x.length+(i*s+j):=by rw[g,d?];omega
   rw[J_,e,T' Ω,aku];exact this
def pB {m:Nat}:∀{l:List (List CV)} {el:PT Ch} {i:Nat},i+l.length+2≤2^32→∀j,(tE m l el i).get dch j=if h:i≤j∧j<i+l.length then⟨l[j-i]'Ω,m⟩else el.get dch j
 |[],el,i,_,j=>by rw[akS Ψ];rfl
 |a::l,el,i,hb,j=>by
  simp at hb;simp only[tE];rw[pB (l:=l) (i:=i+1) Ω j,PT.get_set dch _ 32 el i j Ω];by_cases g:i=j
  ·subst g;rw[akS Ω,q' rfl,ake Ψ];simp
  ·rw[B' g];by_cases f:i+1≤j∧j<i+1+l.length
   ·rw[ake f,ake Ξ];congr 1;have:j-i=(j-(i+1))+1:=Ω
    simp[this]
   ·rw[akS f,akS Ξ]
section
variable {P:Program}{B:Nat}{R:W0}{φ:Gx}{h:Pos→EO}{w:World}{o:Oper}{a:Act}
variable{e t:TypeId}{cl:Call}{x:Operand}{C:List TV}{f:Pos}{out:TV}{wr:Option (Pos×EO)}
def Inv.newR (U:Inv B R φ h w){k:Pos}(hk:h k = .none){s N:Nat}{l:List (List CV)}{vs:List Value}{arr:Array Value}{fr:Nat×Nat}{fz:Fz}(hs:0<s)(hl:∀a∈l,a.length=s)(hd:dens φ l.flatten=some vs)
  (C:∀(j:Nat) (v:Value),vs[j]? = some v→arr[j]? = some v) (hN:arr.size=N*s) (hn:l.length≤N) (hb:l.length+2≤2^32) (P:ai8 fr arr.size fz) :
  φ.le (φ.add k ⟨w.heap.size,N,s⟩)∧Inv B R (φ.add k ⟨w.heap.size,N,s⟩) (upd h k (.row e s (tE 0 l .leaf 0) l.length 0 fz)) (w.alloc (.cells arr e fr)):=by
 have r:=U.le_add hk ⟨w.heap.size,N,s⟩;have f:=λj=>pB (m:=0) (l:=l) (el :=.leaf) (i:=0) Ω j;refine⟨r,U.new hk rfl ⟨hs,hb,λi T=>?_,λg hg=>?_,λg hg=>⟨⟨w.heap.size,N,s⟩, ?_,⟨U.size,rfl,arr,fr,n? w _,hN,P,λi T _=>⟨by show i<N;omega, ?_⟩⟩,λ_=>hn⟩⟩⟩
 ·rw[f,ake Ω];exact ζ _
 ·simp only[Gx.add,i?];rw[B' Ω]
 ·obtain rfl:g=0:=Ω
  exact Gx.add_self _ _ _
 ·rw[f,ake Ω];have p:l[i-0]'Ω∈l:=w_ _;refine⟨hl _ p,λj c J=>?_⟩;have J:(l[i-0]'Ω)[j]? = some c:=J;obtain⟨v,z1,z2⟩:=nO hd (ve hl (i:=i-0) (ε Ω) J);rw[akf]at z1;exact⟨v,C _ _ z1,dY r z2⟩
def Inv.rds (U:Inv B R φ h w){k:Pos}{g s:Nat}{l:Loc}(T:φ.loc k g=some l):∀{n f:Nat} {x:List (List CV)},pI (h k) g s n f=some x→x.length=n∧(∀a∈x,a.length=s)∧∃p,dens φ x.flatten=some p∧∀j u,p[j]? = some u→w.cell? ((⟨l.b,f,none⟩:Addr).add j)=some u
 |0,f,x,C=>by cases C;exact⟨rfl,(λ_ q=>by cases q),[],rfl,λj u q=>by simp at q⟩
 |n+1,f,x,C=>by
  simp[pI]at C;split at C
  next a r h1 h2=>
   cases C;obtain⟨p,q1,q2,q3,_⟩:=U.rd h1 T;obtain⟨p1,p2,ws,p3,p4⟩:=U.rds T h2;refine⟨by simp[p1],λb P=>?_,p++ws,ct q1 p3,λj u J=>?_⟩
   ·obtain rfl|P:=P'.1 P
    ·exact q2
    ·exact p2 b P
   ·have hvl:=bc q1;by_cases hj:j<p.length
    ·rw[Θ hj]at J;exact q3 j u J
    ·rw[T' Ω]at J;have:=p4 _ u J;rw[pX]at this⊢;rw[show f+s+(j-p.length)=f+j by omega]at this;exact this
  ·cases C
def aeG (hI:Inv B R φ h w)(U:o.op = .call cl)(p:cl.callee = .builtin .len)(j:cl.args = #[x])(l:cl.argTypes = #[t])(J:P.underlying t=some .string)(r:RTs φ C [a.eval x])(g:(KM C f).run h=some (out,wr)):OkX P B R φ h w o a out wr:=by
 unfold KM at g;split at g
 ·obtain⟨v,e,T⟩:=r.one;cases e;split at g
  next b=>rw[cR]at g;cases g;refine ay hI ?_ (dv _ _);unfold execOp;simp[U,resolve,p,j,invoke,builtin,Builtin.len_,l,(pH T).2,strV,η J,goInt,v6]
  ·cases g
 ·cases g
def aeI (hI:Inv B R φ h w)(T:o.op = .call cl)(p:cl.callee = .builtin .len)(g:cl.args = #[x])(j:cl.argTypes = #[t])(r:P.underlying t=some (.slice e))(U:RTs φ C [a.eval x])(l:(KN C f).run h=some (out,wr)):OkX P B R φ h w o a out wr:=by
 unfold KN at l;split at l
 ·obtain⟨v,e,J⟩:=U.one;cases e;split at l;all_goals first|(cases l;done)|skip
  all_goals (rw[cR]at l;cases l;refine ay hI ?_ (dv _ _);unfold execOp)
  ·simp[T,resolve,p,g,invoke,builtin,Builtin.len_,j,gp J,η r,goInt]
  ·obtain⟨_,_,z⟩:=LR J;simp[T,resolve,p,g,invoke,builtin,Builtin.len_,j,z,η r,goInt]
  ·obtain⟨_,_,z⟩:=JK J;simp[T,resolve,p,g,invoke,builtin,Builtin.len_,j,z,η r,goInt]
 ·cases l
def aeH (U:Inv B R φ h w){k:TypeId}(ho:o.op = .call cl)(T:cl.callee = .builtin .len)(j:cl.args = #[x])(p:cl.argTypes = #[t])(hu:P.underlying t=some (.map k e))(hv:RTs φ C [a.eval x])(g:(Q5 C f).run h=some (out,wr)):OkX P B R φ h w o a out wr:=by
 unfold Q5 at g;split at g
 ·obtain⟨v,e,hr⟩:=hv.one;cases e;split at g;all_goals first|(cases g;done)|skip
  ·rw[cR]at g;cases g;refine ay U ?_ (dv _ _);unfold execOp;simp[ho,resolve,T,j,invoke,builtin,Builtin.len_,p,Eq hr,η hu,goInt]
  next m=>
   simp[Q.run]at g;have r:=U.obj m;split at g
   ·rename_i es cl' hm;rw[cR]at g;cases g;rw[hm]at r;obtain⟨_,l,vs,q1,_,q3,q4,_⟩:=r;obtain⟨l',l2,z⟩:=agq hr;rw[q1]at l2;cases l2;refine ay U (v :=.int .i64 vs.size) ?_ (by show some (Value.int .i64 (Int.ofNat es.length))=_;rw[←q4,ω];rfl);have J:(getObj l.b).run P w = .ok (.map vs cl') w:=by simp[getObj,Sem.run,q3]
    unfold execOp;simp[ho,resolve,T,j,invoke,builtin,Builtin.len_,p,z,η hu,goInt,J]
   ·cases g
 ·cases g
def vz:∀{l:List (List CV)} {b:List Nat} {g:List Value},BU l=some b→dens φ l.flatten=some g→okStr b=true∧g=b.map λc=>Value.int .u8 (Int.ofNat c)
 |[],b,g,h,hd=>by cases h;cases hd;exact⟨rfl,rfl⟩
 |x::l,b,g,h,hd=>by
  unfold BU at h;split at h
  next h0=>cases h0
  next n l' h0=>
   injection h0 with h0 f;subst h0;subst f;cases j:Nat.blt n 256 with
   |false=>rw[j]at h;cases h
   |true=>
    rw[j,I']at h;split at h
    next b' hb'=>cases h;obtain⟨v,ws,rfl,f,p⟩:=bQ hd;obtain⟨q1,q2⟩:=vz hb' p;have f:some (Value.int .u8 (Int.ofNat n))=some v:=f;injection f with f;exact⟨PE (cx.1 j) q1,by rw[q2,←f];rfl⟩
    ·cases h
  ·cases h
def aej (b:List Nat)(C:Addr)(c:Nat)(j:(loadCells C b.length).run P w = .ok (b.map λc=>Value.int .u8 (Int.ofNat c)).toArray w):(Conv.bytesToString (.slice (some C) b.length c)).run P w = .ok (strV b) w:=by
 have f:(loadCells C b.length).run P w = .ok ((b.map Int.ofNat).map (Value.int .u8)).toArray w:=by rw[j,r?];rfl
 rw[run_bytesToString (P:=P) w C b.length c (b.map Int.ofNat) f];have l:∀(p:List Nat) (g:ByteArray),(p.map Int.ofNat).foldl (λr n=>r.push (UInt8.ofNat n.toNat)) g=⟨g.data++(p.map UInt8.ofNat).toArray⟩:=by
  intro p;induction p with
  |nil=>intro g;simp
  |cons n p J=>intro g;simp only[a?,List.foldl_cons,J];congr 1;simp[ByteArray.push]
 rw[l];unfold strV;congr 3;simp
def aht (U:Inv B R φ h w){s:TypeId}(ho:o.op = .convert s t x)(hs:P.underlying s=some (.slice e))(ht:P.underlying t=some .string)(he:P.underlying e=some (.int .u8))(hv:RTs φ C [a.eval x])(j:(afC C f).run h=some (out,wr)):OkX P B R φ h w o a out wr:=by
 unfold afC at j;split at j
 ·obtain⟨v,e1,hr⟩:=hv.one;cases e1;split at j
  ·cases j;refine ay U (v :=.string ⟨#[]⟩) ?_ (yJ rfl);unfold execOp;simp[ho,gp hr,convert,η hs,η ht,η he,Conv.bytesToString];rfl
  next k g r n cap=>
   simp[Q.run]at j;split at j
   ·rename_i l hl;split at j
    ·rename_i b hb;cases j;obtain⟨T,l1,z⟩:=JK hr;obtain⟨q1,_,vs,q3,q4⟩:=U.rds l1 hl;obtain⟨p1,p2⟩:=vz hb q3;have hbl:b.length=n:=by
      have:vs.length=n*1:=by rw[bc q3,iS (s:=1) (λa ha=>(U.rds l1 hl).2.1 a ha),q1]
      rw[p2]at this;simpa using this
     refine ay U ?_ (yJ p1);have p:=ajJ (P:=P) w ⟨T.b,r,none⟩ vs q4;rw[p2]at p;have J:=aej (P:=P) (w:=w) b ⟨T.b,r,none⟩ (iY cap T.n (r/T.s)) (by simpa using p);rw[hbl]at J;unfold execOp;simp[ho,z,convert,η hs,η ht,η he,J]
    ·cases j
   ·cases j
  ·cases j
 ·cases j
end
variable [SymVal]
def EY (z:Array Value)(n:Nat)(r:0<z.size):((Array.range (n*z.size)).map (z[· % z.size]!)).toList=(List.replicate n z.toList).flatten:=by
 apply p?;intro p;have f:∀a∈List.replicate n z.toList,a.length=z.size:=λa C=>by rw[akr C];simp
 by_cases g:p<n*z.size
 ·have J:p/z.size<n:=Nat.div_lt_of_lt_mul (by rw[Y?];exact g);have l:p%z.size<z.size:=Nat.mod_lt _ r;have j:(List.replicate n z.toList).flatten[p/z.size*z.size+p%z.size]? = some z[p%z.size]:=ve f (a:=z.toList) (by rw[alo,q' J]) (by simp[l]);rw[Y?,ak9]at j;rw[j];simp[g,l]
 ·rw[p_ Ξ,p_ (by rw[iS f];simp;omega)]
def Rc {g:Type}{z:List g}{s:Nat}(f:z.length=s):∀(k n:Nat),k≤n→(List.replicate n z).flatten.drop (k*s)=(List.replicate (n-k) z).flatten
 |0,n,_=>by simp
 |k+1,n+1,h=>by rw[akK,J_,d?,K?,←List.drop_drop,←f,akk,f,Rc f k n Ω,show n+1-(k+1)=n-k by omega]
 |k+1,0,h=>Ω
def HR {f:Gx}{g:List CV}{z:List Value}(h:dens f g=some z):∀n,dens f (List.replicate n g).flatten=some (List.replicate n z).flatten
 |0=>rfl
 |n+1=>by rw[akK,J_,akK,J_];exact ct h (HR h n)
def nE (f:Nat):∀(g:List Value) (k:Nat) (cells:Array Value),f+k+g.length≤cells.size →
  ((g.zipIdx k).foldl (λp (x:Value×Nat)=>p.setIfInBounds (f+x.2) x.1) cells).toList=cells.toList.take (f+k)++g++cells.toList.drop (f+k+g.length)
 |[],k,cells,_=>by simp
 |v::g,k,cells,h=>by
  simp;simp at h;rw[nE f g (k+1) _ Ξ];have j:f+k<cells.toList.length:=by simp;omega
  simp;rw[show f+(k+1)=f+k+1 by omega,show f+k+1+g.length=f+k+(g.length+1)by omega,List.take_set,List.drop_set_of_lt Ω,
   J' j,alz _ _ Ξ]
  have l:min (f+k) cells.size=f+k:=Ω
  simp[l]
def jq (off:Nat)(v:Value)(cells:Array Value)(h:off+v.cells.size≤cells.size) :
  (v.cells.zipIdx.foldl (λf (x:Value×Nat)=>f.setIfInBounds (off+x.2) x.1) cells).toList=cells.toList.take off++v.cells.toList++cells.toList.drop (off+v.cells.size):=by
 rw[←Array.foldl_toList,Array.toList_zipIdx];have:=nE off v.cells.toList 0 cells (by simpa using h);simpa using this
def vj (size:Nat):∀(g:List Value) (i:Nat) (f:Array Value),(∀v∈g,v.cells.size=size)→(i+g.length)*size≤f.size →
  ∃j,Instr.fill (λi=>some (i*size,size)) f ((List.range' i g.length).zip g)=some j∧j.toList=f.toList.take (i*size)++(g.map λv=>v.cells.toList).flatten++f.toList.drop ((i+g.length)*size)
 |[],i,f,_,h=>⟨f,by simp[Instr.fill],Ψ⟩
 |v::g,i,f,hv,h=>by
  have r:=hv v Ψ;have hm:i*size+size≤(i+(v::g).length)*size:=by rw[←Nat.succ_mul];exact l_ _ Ψ
  have l:i*size+v.cells.size≤f.size:=by rw[r];omega
  have p:=jq (i*size) v f l;have C:(v.cells.zipIdx.foldl (λP (x:Value×Nat)=>P.setIfInBounds (i*size+x.2) x.1) f).size=f.size:=by rw[←Array.length_toList,p];simp;omega
  have U:(i+1+g.length)*size=(i+(v::g).length)*size:=by congr 1;simp;omega
  obtain⟨j,e1,e2⟩:=vj size g (i+1) (v.cells.zipIdx.foldl (λP (x:Value×Nat)=>P.setIfInBounds (i*size+x.2) x.1) f) (λu hu=>hv u (by simp[hu])) (by rw[C,U];exact h);refine⟨j, ?_, ?_⟩
  ·simp only[s_,W_,ajK,Instr.fill];have J:¬(v.cells.size≠size||i*size+v.cells.size>f.size)=true:=by
    simp[r];omega
   rw[B' J];exact e1
  ·rw[e2,p];have R:(f.toList.take (i*size)++v.cells.toList).length=(i+1)*size:=by
    simp[r,d?];omega
   have hd:(f.toList.take (i*size)++v.cells.toList++f.toList.drop (i*size+v.cells.size)).drop ((i+1+g.length)*size)=f.toList.drop ((i+(v::g).length)*size):=by have T:(i+1+g.length)*size=(i+1)*size+g.length*size:=V_ _ _ _;rw[T,←List.drop_drop,←R,akk,I_];congr 1;rw[r,←U,T,d?]
   rw[hd,←R,I?];simp
section
variable {P:Program}{B:Nat}{R:W0}{φ:Gx}{h:Pos→EO}{w:World}{o:Oper}{a:Act}
def U0:Option Value→Option Nat→Prop
 |none,none=>True
 |some v,some n=>∃k,v = .int k (Int.ofNat n)
 |_,_=>False
def Gw {b:Option Operand}{r g:List TV}{n:Option Nat}{vs:List Value}(f:aa5 b.isSome r=some (n,g))(j:RTs φ r (b.toList.map a.eval++vs)):U0 (b.map a.eval) n∧RTs φ g vs:=by
 cases b with
 |none =>cases f;exact⟨aoG,j⟩
 |some x=>
  simp[aa5]at f;split at f
  next t r1=>
   split at f
   next k m=>cases f;obtain⟨v,ws,e,p,l⟩:=j.cons;cases e;exact⟨⟨k,dL p⟩,l⟩
   ·cases f
  ·cases f
variable{lo T:Option Operand}{x:Operand}{C:List TV}{f:Pos}{out:TV}{wr:Option (Pos×EO)}
def RB {mx:Option Operand}{r:List TV}{k:Option Nat→Option Nat→Option Nat→Q}{res:TV×Option (Pos×EO)}(f:(adv lo.isSome T.isSome mx.isSome r k).run h=some res)(p:RTs φ r (lo.toList.map a.eval++(T.toList.map a.eval++mx.toList.map a.eval))) :
  ∃l m n,(k l m n).run h=some res∧U0 (lo.map a.eval) l∧U0 (T.map a.eval) m∧U0 (mx.map a.eval) n:=by
 unfold adv at f;split at f
 next l r1 h1=>
  split at f
  next m r2 h2=>
   split at f
   next n h3=>obtain⟨b1,j⟩:=Gw h1 p;obtain⟨b2,g⟩:=Gw h2 j;obtain⟨C,_⟩:=Gw (vs:=[]) h3 (by simpa using g);exact⟨l,m,n,f,b1,b2,C⟩
   ·cases f
  ·cases f
 ·cases f
def FV (w:World)(f:Bool)(len cap:Nat){lo T mx:Option Value}{l m n:Option Nat}(j:U0 lo l)(p:U0 T m)(J:U0 mx n)(c1:gD n cap≤cap)(c2:gD m len≤gD n cap)(C:gD l 0≤gD m len)(c4:GS m n=true) :
  (Instr.sliceBounds f len cap lo T mx).run P w = .ok (gD l 0,gD m len,gD n cap) w:=by
 have g:∀(k:IntKind) (x y:Nat) (c:BoundsCode),x≤y→(Instr.sliceBound (.int k (Int.ofNat x)) y c).run P w = .ok x w:=λk x y c hxy=>by
  have:(x:Int)≤(y:Int):=Ω
  simp[Instr.sliceBound,asIntOf,this]
 cases mx with
 |none=>
  cases n with
  |some n=>exact J.elim
  |none=>
   simp[gD]at c1 c2 C⊢;cases T with
   |none=>
    cases m with
    |some m=>exact p.elim
    |none=>
     cases lo with
     |none=>
      cases l with
      |some l=>exact j.elim
      |none=>simp[Instr.sliceBounds]
     |some v=>
      cases l with
      |none=>exact j.elim
      |some l =>obtain⟨k,rfl⟩:=j;simp only[Instr.sliceBounds,ν,j_,χ,g k l _ _ C]
   |some U=>
    cases m with
    |none=>exact p.elim
    |some m=>
     obtain⟨r,rfl⟩:=p;cases lo with
     |none=>
      cases l with
      |some l=>exact j.elim
      |none=>simp only[Instr.sliceBounds,ν,j_,χ,g r m _ _ c2]
     |some v=>
      cases l with
      |none=>exact j.elim
      |some l =>obtain⟨k,rfl⟩:=j;simp only[Instr.sliceBounds,ν,j_,χ,g r m _ _ c2,g k l _ _ C]
 |some vm=>
  cases n with
  |none=>exact J.elim
  |some n=>
   obtain⟨R,rfl⟩:=J;simp only[gD]at c1 c2 C⊢;cases T with
   |none=>
    cases m with
    |some m=>exact p.elim
    |none=>simp[GS]at c4
   |some U=>
    cases m with
    |none=>exact p.elim
    |some m=>
     obtain⟨r,rfl⟩:=p;cases lo with
     |none=>
      cases l with
      |some l=>exact j.elim
      |none=>simp only[Instr.sliceBounds,ν,j_,χ,g R n _ _ c1,g r m _ _ c2]
     |some v=>
      cases l with
      |none=>exact j.elim
      |some l =>obtain⟨k,rfl⟩:=j;simp only[Instr.sliceBounds,ν,j_,χ,g R n _ _ c1,g r m _ _ c2,g k l _ _ C]
def aey (hI:Inv B R φ h w){t:TypeId}(ho:o.op = .slice t x lo T none)(hu:P.underlying t=some .string)(hv:RTs φ C ((x::(lo.toList++T.toList)).map a.eval))(r:(Q3 lo.isSome T.isSome C f).run h=some (out,wr)):OkX P B R φ h w o a out wr:=by
 unfold Q3 at r;split at r
 ·obtain⟨v1,ws,J,hr1,U⟩:=hv.cons;simp at J;obtain⟨J,e2⟩:=J;subst J;subst e2;obtain⟨l,m,n,j,b1,b2,b3⟩:=RB (mx:=none) r (by simpa using U);cases n with
  |some n=>exact b3.elim
  |none=>
   split at j
   ·rename_i b;cases p:(Nat.ble (gD m b.length) b.length&&Nat.ble (gD l 0) (gD m b.length))with
    |false=>rw[p]at j;cases j
    |true=>
     rw[p,I']at j;simp[bp]at p;cases j;obtain⟨q1,q2⟩:=pH hr1;have hb:=FV (P:=P) w false b.length b.length b1 b2 b3 (ζ _) p.1 p.2 (by cases m <;> rfl);refine ay hI ?_ (yJ (GF _ (Tu _ q1)));have g:(⟨(b.map UInt8.ofNat).toArray⟩:ByteArray).extract (gD l 0) (gD m b.length)=⟨(((b.take (gD m b.length)).drop (gD l 0)).map UInt8.ofNat).toArray⟩:=by apply ali;simp[aly,List.drop_take,alg]
     unfold execOp;simp only[gD]at hb;simp[ho,q2,strV,Instr.sliceAt,ν,η hu,Instr.slice,v6];simp at hb;rw[hb];simp[j_];simp[gD]at g;rw[g];rfl
   ·cases j
 ·cases r
def Inv.rowS (J:Inv B R φ h w){k:Pos}{g:Nat}{l:Loc}{e:TypeId}{s:Nat}{U:PT Ch}{len j:Nat}{fz:Fz}(C:h k = .row e s U len j fz)(f:φ.loc k g=some l):l.s=s:=by
 have p:=J.obj k;rw[C]at p;obtain⟨_,_,_,T,P⟩:=p;obtain x|x:=Z' j g
 ·rw[T g x]at f;cases f
 ·obtain⟨l',q1,⟨_,r,_⟩,_⟩:=P g x;rw[q1]at f;injection f with f;rw[←f];exact r
def Jy {k:Pos}{g off s l hh m:Nat}{f:Loc}(j:φ.loc k g=some f):denP φ (.one (.sl k g (bif Nat.beq l m then off else off+l*s) (hh-l) (some (m-l))))=some (.slice (if m=l then some ⟨f.b,off,none⟩else some ((⟨f.b,off,none⟩:Addr).add (l*s))) (hh-l) (m-l)):=by
 show den φ (.sl k g _ _ _)=_;simp[den,j,iY,BR];by_cases e:m=l
 ·subst e;simp[akz]
 ·have:Nat.beq l m=false:=by cases p:Nat.beq l m with|false=>rfl|true=>exact absurd (ry.1 p).symm e
  rw[this,H_,B' e,pX]
def aez (hI:Inv B R φ h w){t e:TypeId}{mx:Option Operand}(ho:o.op = .slice t x lo T mx)(hu:P.underlying t=some (.slice e))(hz:av P e≠0)(hf:h f = .none)(hv:RTs φ C ((x::(lo.toList++T.toList++mx.toList)).map a.eval))(hq:(Wq (av P e) lo.isSome T.isSome mx.isSome C f).run h=some (out,wr)):OkX P B R φ h w o a out wr:=by
 unfold Wq at hq;split at hq
 ·obtain⟨v1,ws,e1,hr1,hr2⟩:=hv.cons;simp at e1;obtain⟨e1,e2⟩:=e1;subst e1;subst e2;obtain⟨l,m,n,j,b1,b2,b3⟩:=RB hq (by simpa using hr2);have U:∀(A:Option Addr) (len cap:Nat),a.eval x = .slice A len cap→gD n cap≤cap→gD m len≤gD n cap→gD l 0≤gD m len→GS m n=true →
    (execOp a.eval o).run P w = .ok (.value (.slice (if gD n cap=gD l 0 then A else A.map (·.add (gD l 0*av P e))) (gD m len-gD l 0) (gD n cap-gD l 0))) w:=λA len cap hx c1 c2 c3 c4=>by
   have hb:=FV (P:=P) w true len cap b1 b2 b3 c1 c2 c3 c4;unfold execOp;simp[ho,hx,Instr.sliceAt,ν,η hu,Instr.slice,hb,aK hz,j_]
  unfold agn at j;split at j
  ·cases r:(Nat.beq (gD l 0) 0&&Nat.beq (gD m 0) 0&&Nat.beq (gD n 0) 0&&GS m n)with
   |false=>rw[r]at j;cases j
   |true =>rw[r,I']at j;simp at r;obtain⟨⟨⟨c1,c2⟩,c3⟩,c4⟩:=r;cases j;have:=U none 0 0 (gp hr1) Ω Ω Ω c4;rw[c1,c2,c3]at this;exact ay hI this rfl
  next k g off len cap=>
   obtain⟨p,hl,z,hcf⟩:=LQ hr1;split at j
   ·rename_i c;cases r:(Nat.ble (gD n c) c&&Nat.ble (gD m len) (gD n c)&&Nat.ble (gD l 0) (gD m len)&&GS m n)with
    |false=>rw[r]at j;cases j
    |true =>rw[r,I']at j;simp[bp]at r;obtain⟨⟨⟨c1,c2⟩,c3⟩,c4⟩:=r;cases j;have:=U _ _ _ z c1 c2 c3 c4;refine ay hI this ?_;have hs:=Jy (s:=av P e) (off:=off) (l:=gD l 0) (hh:=gD m len) (m:=gD n c) hl;simp[iY];exact hs
   ·split at j
    ·rename_i n';split at j
     ·rename_i m';cases r:(Nat.ble n' len&&Nat.ble m' n'&&Nat.ble (gD l 0) m')with
      |false=>rw[r]at j;cases j
      |true =>rw[r,I']at j;simp[bp]at r;obtain⟨⟨c1,c2⟩,c3⟩:=r;cases j;have hC:off/p.s+len≤p.n:=bp.1 hcf;have:=U _ _ _ z (by simp[gD,iY];omega) (by simp[gD];exact c2) c3 rfl;refine ay hI this ?_;have hs:=Jy (s:=av P e) (off:=off) (l:=gD l 0) (hh:=m') (m:=n') hl;simp[gD]at hs⊢;exact hs
     ·cases j
    ·have hC:off/p.s+len≤p.n:=bp.1 hcf;cases r:(Nat.ble (gD m len) len&&Nat.ble (gD l 0) (gD m len))with
     |false=>rw[r]at j;cases j
     |true=>
      rw[r,I']at j;simp[bp]at r;obtain⟨c1,c2⟩:=r;have hr:=U _ _ _ z (ζ _) (by simp[gD,iY]at c1⊢;omega) c2 (by cases m <;> rfl);generalize gD l 0=L at *;generalize gD m len=M at *;simp[gD,iY]at hr;cases hb:Nat.beq L 0 with
      |true =>rw[hb,I']at j;have hb:=ry.1 hb;subst hb;cases j;refine ay hI hr ?_;show den φ (.sl k g off M none)=_;simp only[den,hl,iY,BR];have hx:Nat.ble (off/p.s+M) p.n=true:=bp.2 Ω;simp[hx,Addr.add]
      |false=>
       rw[hb,H_]at j;have hb:L≠0:=λe=>by rw[e]at hb;cases hb
       cases J:Nat.blt L len with
       |true=>
        rw[J,I']at j;have J:=cx.1 J;simp[Q.run]at j;split at j
        ·rename_i e' s' el' len' gen' fz' hk';cases hss:Nat.beq (av P e) s' with
         |false=>rw[hss]at j;cases j
         |true=>
          rw[hss,I']at j;have hss:=ry.1 hss;cases j;have hls:p.s=av P e:=by rw[hss];exact hI.rowS hk' hl
          refine ay hI hr ?_;have hdiv:(off+L*av P e)/p.s=off/p.s+L:=by rw[hls,Nat.add_mul_div_right _ _ Ω]
          show den φ (.sl k g (off+L*av P e) (M-L) none)=_;simp only[den,hl,iY,BR,hdiv];have hx:Nat.ble (off/p.s+L+(M-L)) p.n=true:=bp.2 Ω;have hy:¬p.n-off/p.s=L:=Ω
          simp only[hx,i?,B' hy,pX,Nat.sub_sub]
        ·cases j
       |false=>
        rw[J,H_]at j;have J:¬L<len:=λq=>by rw[cx.2 q]at J;cases J
        simp only[Q.run,θ,ο]at j;obtain⟨rfl,rfl⟩:=j;have e0:M-L=0:=Ω
        rw[e0]at hr;have hval:∃A,(execOp a.eval o).run P w = .ok (.value (.slice (some A) 0 (p.n-off/p.s-L))) w:=by
         by_cases hCL:p.n-off/p.s=L
         ·simp only[hCL,i?]at hr⊢;exact⟨_,hr⟩
         ·simp only[hCL,akE]at hr;exact⟨_,hr⟩
        obtain⟨A,hr⟩:=hval;have hle:=hI.le_addV hf (.slice (some A) 0 (p.n-off/p.s-L));exact i3 hr hle (hI.newV hf ⟨(hI.free hf).1,A,_,Gx.addV_self _ _ _⟩) (by show den _ (.emp f)=_;simp only[den,Gx.addV_self])
  ·cases j
 ·cases hq
end
variable [SymVal]
def Rg {f:Gx}{r new:List CV}{g j:List Value}{off:Nat}(p:dens f r=some g)(l:dens f new=some j):dens f (dj r off new)=some (g.take off++j++g.drop (off+j.length)):=by unfold dj;rw[bc l];exact ct (ct (lX off p) l) (jx _ p)
section
variable {P:Program}{B:Nat}{R:W0}{φ:Gx}{h:Pos→EO}{w:World}{o:Oper}{a:Act}
def vk {place:Nat→Option (Nat×Nat)}:∀{parts:List (Nat×Operand)} {ps:List (Nat×Nat)} {C:List TV} {r j:List CV} {f:Array Value},parts.map (λp=>place p.1)=ps.map some→DW ps C r=some j→RTs φ C (parts.map λp=>a.eval p.2)→dens φ r=some f.toList →
  ∃g,Instr.fill place f (parts.map λp=>(p.1,a.eval p.2))=some g∧dens φ j=some g.toList
 |[],[],[],r,j,f,_,hf,_,U=>by cases hf;exact⟨f,rfl,U⟩
 |(i,x)::parts,[],_,_,_,_,hp,_,_,_=>by simp at hp
 |[],_::_,_,_,_,_,hp,_,_,_=>by simp at hp
 |(i,x)::parts,(off,s)::ps,[],r,j,f,hp,hf,hv,U=>by simp[DW]at hf
 |[],[],_::_,_,_,_,_,hf,_,_=>by simp[DW]at hf
 |(i,x)::parts,(off,s)::ps,t::C,r,j,f,hp,hf,hv,U=>by
  simp at hp;obtain⟨hp1,hp2⟩:=hp;obtain⟨v,ws,e,hr,hv2⟩:=hv.cons;cases e;cases t with
  |unk=>simp[DW]at hf
  |tup l=>simp[DW]at hf
  |pv p=>
   simp[DW]at hf;cases hc:(Nat.beq p.cells.length s&&Nat.ble (off+s) r.length)with
   |false=>rw[hc]at hf;cases hf
   |true=>
    rw[hc,I']at hf;simp[bp]at hc;have T:=db hr;have J:(a.eval x).cells.size=s:=by rw[←Array.length_toList,bc T,hc.1]
    have hal:f.size=r.length:=by rw[←Array.length_toList,bc U]
    have R:off+(a.eval x).cells.size≤f.size:=by rw[J,hal];exact hc.2
    have hfc:=jq off (a.eval x) f R;have P:=Rg (off:=off) U T;rw[ω,←hfc]at P;obtain⟨g,q1,q2⟩:=vk hp2 hf hv2 P;refine⟨g, ?_,q2⟩;simp only[a?,Instr.fill,hp1];have hno:¬(((a.eval x).cells.size≠s||off+(a.eval x).cells.size>f.size)=true):=by simp[J];omega
    rw[B' hno];exact q1
def Ai {g:Array Field}:∀{parts:List (Nat×Operand)} {ps:List (Nat×Nat)},Aj P g parts=some ps→parts.map (λp=>(g.map λf=>(f.offset,av P f.type))[p.1]?)=ps.map some
 |[],ps,h=>by cases h;rfl
 |(i,x)::parts,ps,h=>by
  simp[Aj]at h;split at h
  next f hf=>
   split at h
   next l hl=>cases h;simp only[a?,Ai hl,c_,N_];simp[hf]
   ·cases h
  ·cases h
variable{t:TypeId}
def At (hI:Inv B R φ h w){parts:Array (Nat×Operand)}(ho:o.op = .build t parts){z:PV}(hz:eC P t=some z){ps:List (Nat×Nat)}
  (hp:(∃fs,P.underlying t=some (.struct fs)∧(fs.toList.all λf=>(P.info? f.type).isSome)=true∧Aj P fs parts.toList=some ps)∨(∃n e,P.underlying t=some (.array n e)∧av P e≠0∧ps=parts.toList.map λp=>(p.1*av P e,av P e)))
  {C:List TV} (hv:RTs φ C ((parts.toList.map (·.2)).map a.eval)) {f:Pos} {out:TV} {wr:Option (Pos×EO)} (hq:(HL z.cells ps C f).run h=some (out,wr)):OkX P B R φ h w o a out wr:=by
 unfold HL at hq;split at hq
 next cs hcs=>
  cases hq;obtain⟨i,v,h1,h2,h3⟩:=gM hz;have hd:=db (h3 φ);have hv':RTs φ C (parts.toList.map λp=>a.eval p.2):=by rw[r?]at hv;exact hv
  have U:(parts.map λ(i,x)=>(i,a.eval x)).toList=parts.toList.map λp=>(p.1,a.eval p.2):=by simp
  rcases hp with⟨fs,hu,r,hpl⟩|⟨n,e,hu,hse,rfl⟩
  ·obtain⟨T,q1,q2⟩:=vk (place:=λi=>(fs.map λf=>(f.offset,av P f.type))[i]?) (Ai hpl) hcs hv' hd;refine ay hI (v :=.agg T) ?_ (by show denP φ (.agg cs)=_;simp[denP,q2]);have hm:∀(l:List Field) (w:World),(∀f∈l,∃j,P.info? f.type=some j)→(l.mapM (λf=>(do pure (f.offset,←sizeOf f.type):Sem (Nat×Nat)))).run P w = .ok (l.map λf=>(f.offset,av P f.type)) w:=by
    intro l;induction l with
    |nil=>intro w _;simp
    |cons f l ih=>
     intro w r;obtain⟨j,hj⟩:=r f Ψ;have h1:(do pure (f.offset,←sizeOf f.type):Sem (Nat×Nat)).run P w = .ok (f.offset,av P f.type) w:=by simp[sizeOf,typeInfo,hj,av]
     rw[ajU,ν,h1,χ,ν,ih w (λg hg=>r g (by simp[hg])),χ];rfl
   have hall':∀f∈fs.toList,∃j,P.info? f.type=some j:=λf hf=>Option.isSome_iff_exists.1 (G'.1 r f hf);have J:(fs.mapM λf=>(do pure (f.offset,←sizeOf f.type):Sem (Nat×Nat))).run P w = .ok (fs.map λf=>(f.offset,av P f.type)) w:=by rw[B?,Sem.run_map,hm _ _ hall'];simp[Result.andThen,←Array.toList_map]
   unfold execOp;simp only[ho,Instr.build,zeroValue,typeInfo,ν,g?,h1,h2,j_,χ,η hu,J,U,q1]
  ·have hpl:parts.toList.map (λp=>(λi=>some (i*av P e,av P e)) p.1)=(parts.toList.map λp=>(p.1*av P e,av P e)).map some:=by simp
   obtain⟨T,q1,q2⟩:=vk (place:=λi=>some (i*av P e,av P e)) hpl hcs hv' hd;refine ay hI (v :=.agg T) ?_ (by show denP φ (.agg cs)=_;simp[denP,q2]);unfold execOp;simp[ho,Instr.build,zeroValue,typeInfo,ν,g?,h1,h2,j_,η hu,aK hse,U,q1]
 ·cases hq
def ahj (T:Inv B R φ h w){r:Option Operand}(U:o.op = .makeMap t r){k e:TypeId}(hu:P.underlying t=some (.map k e)){f:Pos}(hf:h f = .none){C:List TV}(J:RTs φ C (r.toList.map a.eval)){out:TV}{wr:Option (Pos×EO)}(p:(afx C f).run h=some (out,wr)):OkX P B R φ h w o a out wr:=by
 have j:(execOp a.eval o).run P w = .ok (.value (.map (some w.heap.size))) (w.alloc (.map #[] 0))→OkX P B R φ h w o a (.pv (.one (.mp f))) (some (f,.map [] 0)):=λl=>by refine i3 l (T.le_add hf ⟨w.heap.size,0,0⟩) (T.new hf rfl ⟨λg hg=>?_,⟨w.heap.size,0,0⟩, #[],Gx.add_self _ _ _,T.size,n? w _,rfl,λi e he=>by simp at he⟩) (by show den _ (.mp f)=_;simp[den,Gx.add_self]);simp only[Gx.add,i?];rw[B' Ω]
 unfold afx at p;split at p
 ·cases p;refine j ?_;cases r with
  |none=>unfold execOp;simp[U,Instr.makeMap]
  |some x=>simp[RTs]at J
 ·cases p;refine j ?_;cases r with
  |none=>simp[RTs]at J
  |some x =>have e1:=dL (J:RTs φ _ [a.eval x]).1;unfold execOp;simp[U,Instr.makeMap,η hu,asInt,asIntOf,e1]
 ·cases p
end
variable [SymVal]
section
variable {P:Program}{B:Nat}{R:W0}{φ:Gx}{h:Pos→EO}{w:World}{o:Oper}{a:Act}
def vU (f:Pos→EO)(k:Pos)(x y:EO):upd (upd f k x) k y=upd f k y:=by funext q;simp[upd];split <;> rfl
def IB (w:World)(g:Nat)(x y:Array Value):(w.setRow g x).setRow g y=w.setRow g y:=by
 unfold World.setRow;simp[World.mk.injEq];apply Array.ext_getElem?;intro i;simp only[T_];by_cases e:g=i
 ·simp[e];congr 1;funext f;cases f <;> rfl
 ·simp[e]
def Inv.wrs {k:Pos}{g s:Nat}{l:Loc}:∀{x:List CV} {r:List (List CV)} {h:Pos→EO} {w:World} {j:Nat} {o':EO} {f:List Value},Inv B R φ h w→pC g s (x::r) (h k) j=some o'→(∀a∈x::r,a.length=s)→φ.loc k g=some l→dens φ (x::r).flatten=some f →
  ∃p e,w.heap[l.b]? = some (.cells p e (0,0))∧j+f.length≤p.size∧Inv B R φ (upd h k o') (w.setRow l.b (p.toList.take j++f++p.toList.drop (j+f.length)).toArray)
 |x,[],h,w,j,o',f,hI,hr,hs,hl,U=>by
  simp[pC]at hr;split at hr
  next o1 h1=>
   cases hr;have U:dens φ x=some f:=by simpa using U
   exact hI.wr h1 hl U
  ·cases hr
 |x,y::r,h,w,j,o',f,hI,hr,hs,hl,U=>by
  rw[pC]at hr;split at hr
  next o1 h1=>
   rw[J_]at U;have hxs:=hs x Ψ;obtain⟨P,hn1⟩:∃vs,dens φ x=some vs:=by
    have:=lX x.length U;rw[I?]at this;exact⟨_,this⟩
   obtain⟨T,hn2⟩:∃vs,dens φ (y::r).flatten=some vs:=by have:=jx x.length U;rw[akk]at this;exact⟨_,this⟩
   have J:f=P++T:=by have:=ct hn1 hn2;rw[U]at this;exact υ this
   have hl1:P.length=s:=by rw[bc hn1,hxs]
   obtain⟨p,e,q1,q2,q3⟩:=hI.wr h1 hl hn1;have hk1:(upd h k o1) k=o1:=aU _ _ _;obtain⟨C,e2,p1,p2,p3⟩:=Inv.wrs (h:=upd h k o1) q3 (by rw[hk1];exact hr) (λa ha=>hs a (by simp at ha⊢;exact .inr ha)) hl hn2;rw[akD w l.b p _ e _ q1]at p1;injection p1 with p1;injection p1 with p1 _ _;have hal:C.toList=p.toList.take j++P++p.toList.drop (j+P.length):=by rw[←p1]
   have hlen:C.size=p.size:=by rw[←Array.length_toList,hal];simp;omega
   refine⟨p,e,q1,by rw[J,Y'];omega, ?_⟩;rw[vU]at p3;rw[IB]at p3;have harr:C.toList.take (j+s)++T++C.toList.drop (j+s+T.length)=p.toList.take j++f++p.toList.drop (j+f.length):=by
    have e1:C.toList.take (j+s)=p.toList.take j++P:=by rw[hal,List.take_left'];rw[Y',g_,ω,hl1];omega
    have e2:C.toList.drop (j+s+T.length)=p.toList.drop (j+f.length):=by
     rw[hal,←List.drop_drop,List.drop_left',I_]
     ·congr 1;rw[J,Y',hl1];omega
     ·rw[Y',g_,ω,hl1];omega
    rw[e1,e2,J];simp
   rw[harr]at p3;exact p3
  ·cases hr
def aat (hI:Inv B R φ h w){s:Nat}{str:Bool}{x:TV}{v:Value}{k:List (List CV)→Q}{res:TV×Option (Pos×EO)}(f:(agY s str x k).run h=some res)(J:RT φ x v){T:TypeId}(C:(str=false∧∃e,P.underlying T=some (.slice e))∨(str=true∧P.underlying T=some .string∧s=1)) :
  ∃l p,(k l).run h=some res∧(∀a∈l,a.length=s)∧dens φ l.flatten=some p∧Go.Src P s T v l.length p w:=by
 unfold agY at f;split at f
 next j g off n cap=>
  rcases C with⟨rfl,e,r⟩|⟨rfl,_,_⟩
  ·simp[Q.run]at f;split at f
   next l hl=>obtain⟨lc,l1,z⟩:=JK J;obtain⟨q1,q2,vs,U,q4⟩:=hI.rds l1 hl;refine⟨l,vs,f,q2,U, ?_⟩;rw[z,q1];exact Go.Src.ofSlice w r _ n _ vs (by rw[bc U,iS q2,q1]) q4 (HS U)
   ·cases f
  ·cases f
 ·rcases C with⟨rfl,e,r⟩|⟨rfl,_,_⟩
  ·refine⟨[],[],f,(λ_ q=>by cases q),rfl, ?_⟩;rw[gp J];exact Go.Src.ofNil w r 0
  ·cases f
 next kk=>
  rcases C with⟨rfl,e,r⟩|⟨rfl,_,_⟩
  ·refine⟨[],[],f,(λ_ q=>by cases q),rfl, ?_⟩;obtain⟨A,c,z⟩:=LR J;rw[z];exact Go.Src.ofSlice w r A 0 c [] Ψ (λj u q=>by simp at q) (λu q=>by cases q)
  ·cases f
 next b=>
  rcases C with⟨rfl,_⟩|⟨rfl,r,rfl⟩
  ·cases f
  ·obtain⟨h1,z⟩:=pH J;have hd:∀b:List Nat,okStr b=true→dens φ (b.map λc=>[CV.int .u8 (Int.ofNat c)]).flatten=some (byteCells ⟨(b.map UInt8.ofNat).toArray⟩):=by
    intro b;induction b with
    |nil=>intro _;rfl
    |cons c b ih=>
     intro hb;obtain⟨b1,b2⟩:=gI hb;have:=ih b2;rw[a?,J_];have e1:byteCells ⟨((c::b).map UInt8.ofNat).toArray⟩=[Value.int .u8 (Int.ofNat c)]++byteCells ⟨(b.map UInt8.ofNat).toArray⟩:=by unfold byteCells;simp;omega
     rw[e1];exact ct rfl this
   refine⟨b.map λc=>[.int .u8 (Int.ofNat c)],_,f,λa ha=>?_,hd b h1, ?_⟩
   ·obtain⟨c,_,rfl⟩:=a_.1 ha;rfl
   ·rw[z,b_];have:=Go.Src.ofString (P:=P) w r ⟨(b.map UInt8.ofNat).toArray⟩;rw[v6]at this;exact this
 ·cases f
def xM {t R ty e:TypeId}{i:TypeInfo}(ht:P.underlying t=some (.slice e))(T:P.info? e=some i){b off f sCap:Nat}{x:Value}{n:Nat}{g:List Value}(C:Go.Src P i.size R x n g w)(l:f+n≤sCap){j:Array Value}{J:TypeId}(hb:w.heap[b]? = some (.cells j J (0,0)))(r:off+f*i.size+g.length≤j.size) :
  (Builtin.append_ #[t,R] ty #[.slice (some ⟨b,off,none⟩) f sCap,x]).run P w = .ok (.slice (some ⟨b,off,none⟩) (f+n) sCap) (w.setRow b (j.toList.take (off+f*i.size)++g++j.toList.drop (off+f*i.size+g.length)).toArray):=by
 have p:=ako P b (off+f*i.size) J g 0 j w hb (by simpa using r) C.one;simp at p;rcases C.kind with⟨J,U⟩|U <;> simp[Builtin.append_,η ht,η U,sizeOf,typeInfo,T,C.len,l,C.cells,Addr.add_lit,p]
end
variable [SymVal]
section
variable {P:Program}{B:Nat}{R:W0}{φ:Gx}{h:Pos→EO}{w:World}{o:Oper}{a:Act}
variable{cl:Call}{k:Pos}{e:TypeId}{l:List (List CV)}{news:List Value}
def fe {s x:Operand}{t r:TypeId}(C:o.op = .call cl)(l:cl.callee = .builtin .append)(f:cl.args = #[s,x])(j:cl.argTypes = #[t,r]){v:Value}{p:World}(g:(Builtin.append_ #[t,r] o.type #[a.eval s,a.eval x]).run P w = .ok v p) :
  (execOp a.eval o).run P w = .ok (.value v) p:=by
 unfold execOp;simp[C,resolve,l,f,j,invoke,builtin,g]
def EX (z:Array Value)(n:Nat):(Builtin.zeroCells z n).size=n*z.size:=by simp[Builtin.zeroCells]
def Gx.turn (φ:Gx)(k:Pos)(g:Nat)(l:Loc):Gx:=⟨λq m=>if q=k∧m=g then some l else φ.loc q m,φ.val,φ.mu⟩
def Gx.turn_self (φ:Gx)(k:Pos)(g:Nat)(l:Loc):(φ.turn k g l).loc k g=some l:=by simp[Gx.turn]
def Gx.turn_ne (φ:Gx){g m:Nat}(l:Loc)(f:m≠g):(φ.turn k g l).loc k m=φ.loc k m:=by simp[Gx.turn,f]
def Inv.turnUp (hI:Inv B R φ h w){s:Nat}{el:PT Ch}{len g n:Nat}(hrow:h k = .row e s el len g .no){lc:Loc}(hl:φ.loc k g=some lc)(hn:n≤len)(hb:n+l.length≤4294967290)
  (hall:∀a∈l,a.length=s) (hd:dens φ l.flatten=some news) {w':World} {l':Loc} {r:Array Value} (hls:l'.s=s) (hB:B≤l'.b) (harr':w'.heap[l'.b]? = some (.cells r e (0,0))) (hsz:r.size=l'.n*s) (hN:n+l.length≤l'.n)
  (hold:∀j,j<n*s→∀arr e fr,w.heap[lc.b]? = some (.cells arr e fr)→r[j]? = arr[j]?) (hnew:∀(j:Nat) (u:Value),news[j]? = some u→r[n*s+j]? = some u)
  (P:l'.b=lc.b∨w.heap.size≤l'.b) (hsame:l'.b=lc.b→∀arr e fr,w.heap[lc.b]? = some (.cells arr e fr)→r.size=arr.size)
  (hw:∀b,b<w.heap.size→b≠l'.b→w'.heap[b]? = w.heap[b]?) (hos:w'.os=w.os) (htp:w'.tape=w.tape) (hou:w'.output=w.output) (hws:w.heap.size≤w'.heap.size) (hdr:dz w≤dz w') :
  φ.le (φ.turn k (g+1) l')∧Inv B R (φ.turn k (g+1) l') (upd h k (.row e s (tE (g+1) l el n) (n+l.length) (g+1) .no)) w':=by
 have hob:=hI.obj k;rw[hrow]at hob;obtain⟨h0,h1,hmm,h2,h3⟩:=hob;have hle:φ.le (φ.turn k (g+1) l'):=⟨λq m x J=>by
  by_cases e:q=k∧m=g+1
  ·obtain⟨rfl,rfl⟩:=e;rw[h2 _ Ω]at J;cases J
  ·simp[Gx.turn,B' e];exact J,λ_ _ hv=>hv,λ_ _ hv=>hv⟩
 have hget:=λj=>pB (m:=g+1) (l:=l) (el:=el) (i:=n) Ω j;have hin:∀{i j:Nat},i<n→j<s→i*s+j<n*s:=λ{i j} T hj=>by have h5:(i+1)*s≤n*s:=l_ s T;have h6:(i+1)*s=i*s+s:=d? _ _;omega
 refine⟨hle,hI.turn hle (λq hq=>⟨λm=>by simp[Gx.turn,hq],rfl,rfl⟩) (λm x J=>?_) (λb hb hne=>hw b hb λeb=>?_) (λm x J ob hb hst=>?_) hos htp hou hws hdr ⟨h0,Ω,λi T=>?_,λm hm=>?_,λm hm=>?_⟩⟩
 ·by_cases em:m=g+1
  ·subst em;rw[Gx.turn_self]at J;cases J;obtain q|q:=P
   ·exact .inl ⟨g,lc,hl,q.symm⟩
   ·exact .inr q
  ·rw[Gx.turn_ne _ _ em]at J;exact .inl ⟨m,x,J,rfl⟩
 ·obtain q|q:=P
  ·exact hne g lc hl (by rw[←q];exact eb.symm)
  ·omega
 ·obtain hgt|hle':=Z' g m
  ·rw[h2 m hgt]at J;cases J
  ·obtain⟨l2,y1,⟨y2,y3,p,U,y4,_⟩,_⟩:=h3 m hle';rw[y1]at J;cases J;rw[y4]at hb;cases hb;cases hst
 ·rw[hget];split
  ·exact ζ _
  ·have:=hmm i Ω;omega
 ·rw[Gx.turn_ne _ _ Ω];exact h2 m Ω
 ·by_cases em:m=g+1
  ·subst em;refine⟨l',Gx.turn_self _ _ _ _,⟨hB,hls,r,(0,0),harr',hsz,rfl,λi T _=>⟨Ω, ?_⟩⟩,λ_=>hN⟩;rw[hget];by_cases C:n≤i∧i<n+l.length
   ·rw[ake C];have hmem:l[i-n]'Ω∈l:=w_ _;refine⟨hall _ hmem,λj c hj=>?_⟩;have hj:(l[i-n]'Ω)[j]? = some c:=hj;obtain⟨v,z1,z2⟩:=nO hd (ve hall (i:=i-n) (ε Ω) hj);refine⟨v, ?_,dY hle z2⟩;have:=hnew _ _ z1;rw[←Nat.add_assoc,←Nat.add_mul,show n+(i-n)=i by omega]at this;exact this
   ·rw[akS C];obtain⟨l2,y1,⟨y2,y3,p,U,y4,y5,y6,y7⟩,y8⟩:=h3 g (ζ _);rw[hl]at y1;cases y1;obtain⟨x1,x2,x3⟩:=y7 i Ω (hmm i Ω);refine⟨x2,λj c hj=>?_⟩;obtain⟨v,z1,z2⟩:=x3 j c hj;have hjs:=(S'.1 hj).1;refine⟨v, ?_,dY hle z2⟩;rw[hold _ (hin Ω Ω) p e U y4];exact z1
  ·obtain⟨l2,y1,⟨y2,y3,p,U,y4,y5,y6,y7⟩,y8⟩:=h3 m Ω;refine⟨l2,by rw[Gx.turn_ne _ _ em];exact y1, ?_,λJ=>absurd J em⟩;have hlt:=hI.lt y1;by_cases hbb:l2.b=l'.b
   ·have hlc:l'.b=lc.b:=by
     obtain q|q:=P
     ·exact q
     ·omega
    have y4':w.heap[lc.b]? = some (.cells p e U):=by rw[←hlc,←hbb];exact y4
    refine⟨y2,y3,r,(0,0),by rw[hbb];exact harr',by rw[hsame hlc p e U y4'];exact y5,rfl,λi T f=>?_⟩;rw[hget]at f⊢;by_cases C:n≤i∧i<n+l.length
    ·rw[ake C]at f;simp only at f;omega
    ·rw[akS C]at f⊢;obtain⟨x1,x2,x3⟩:=y7 i Ω f;refine⟨x1,x2,λj c hj=>?_⟩;obtain⟨v,z1,z2⟩:=x3 j c hj;have hjs:=(S'.1 hj).1;refine⟨v, ?_,dY hle z2⟩;rw[hold _ (hin Ω Ω) p e U y4'];exact z1
   ·refine⟨y2,y3,p,U,by rw[hw _ hlt hbb];exact y4,y5,y6,λi T f=>?_⟩;rw[hget]at f⊢;by_cases C:n≤i∧i<n+l.length
    ·rw[ake C]at f;simp only at f;omega
    ·rw[akS C]at f⊢;obtain⟨x1,x2⟩:=y7 i Ω f;exact⟨x1,x2.mono hle⟩
def CL {n bytes:Nat}(h:n*bytes≤140737488355328){old:Nat}(f:old<n):Builtin.nextslicecap n old*bytes≤281474976710656:=alb f h
def Inv.drw (f:Inv B R φ h w):Inv B R φ h w.drew:=f.drew
def WU (hI:Inv B R φ h w){f:Pos}(hf:h f = .none){z:PV}(hz:eC P e=some z)(J:z.cells.length=av P e)(hs0:av P e≠0){old:List (List CV)}{olds:List Value}{N:Nat}(p:∀a∈old,a.length=av P e)(hl:∀a∈l,a.length=av P e)(hd1:dens φ old.flatten=some olds)(U:dens φ l.flatten=some news)
  (hb:old.length+l.length≤4294967290) (hN:old.length+l.length≤N) :
  ∃i v,P.info? e=some i∧i.zero=some v∧i.size=av P e∧i.bytes=xy P e ∧
   φ.le (φ.add f ⟨w.heap.size,N,av P e⟩)∧Inv B R (φ.add f ⟨w.heap.size,N,av P e⟩) (upd h f (newRow e (av P e) (old++l) (old.length+l.length))) (w.drew.alloc (.cells ((olds++news).toArray++Builtin.zeroCells v.cells (N-(old.length+l.length))) e)) ∧
   RT (φ.add f ⟨w.heap.size,N,av P e⟩) (.pv (.one (.sl f 0 0 (old.length+l.length) none))) (.slice (some ⟨w.heap.size,0,none⟩) (old.length+l.length) N):=by
 obtain⟨i,v,h1,h2,h3⟩:=gM hz;have T:v.cells.size=av P e:=by rw[←Array.length_toList,bc (db (h3 φ)),J]
 have g:∀a∈old++l,a.length=av P e:=λa ha=>by
  obtain q|q:=π.1 ha
  ·exact p a q
  ·exact hl a q
 have C:dens φ (old++l).flatten=some (olds++news):=by rw[List.flatten_append];exact ct hd1 U
 have r:(olds++news).length=(old.length+l.length)*av P e:=by rw[bc C,iS g,Y']
 obtain⟨q1,q2⟩:=hI.drw.newR hf (e:=e) (s:=av P e) (N:=N) (l:=old++l) (vs:=olds++news) (arr:=(olds++news).toArray++Builtin.zeroCells v.cells (N-(old.length+l.length))) (fr:=(0,0)) (fz :=.no) Ω g C
  (λj u hu=>by
   have hj:=(S'.1 hu).1;rw[f? (by simpa using hj)];simpa using hu) (by
   rw[Array.size_append,EX,T,D?,r,←Nat.add_mul];congr 1;omega) (by rw[Y'];exact hN) (by rw[Y'];omega) rfl
 rw[Y']at q2;refine⟨i,v,h1,h2,by simp[av,h1],by simp[xy,h1],q1,q2, ?_⟩;show den _ (.sl f 0 0 _ none)=_;have hc:BR none (old.length+l.length) N 0=true:=by simp only[BR,Q'];exact bp.2 hN
 simp[den,Gx.add_self,hc,iY]
def abc (hI:Inv B R φ h w){s x:Operand}{t tx:TypeId}{str:Bool}(ho:o.op = .call cl)(hcl:cl.callee = .builtin .append)(J:cl.args = #[s,x])(hty:cl.argTypes = #[t,tx])(hu:P.underlying t=some (.slice e)){z:PV}(hz:eC P e=some z)(hzs:z.cells.length=av P e)(hs0:av P e≠0)
  (ht:(str=false∧∃e,P.underlying tx=some (.slice e))∨(str=true∧P.underlying tx=some .string∧av P e=1)) {f:Pos} (hf:h f = .none) {C:List TV} (hv:RTs φ C [a.eval s,a.eval x]) {out:TV} {wr:Option (Pos×EO)} (hq:(afD e (av P e) (xy P e) str C f).run h=some (out,wr)):OkX P B R φ h w o a out wr:=by
 obtain⟨i,zv,T,hiz,_⟩:=gM hz;have his:i.size=av P e:=by simp[av,T]
 have hib:i.bytes=xy P e:=by simp[xy,T]
 unfold afD at hq;split at hq
 ·obtain⟨v1,ws,e1,hr1,hr2⟩:=hv.cons;obtain⟨v2,e2,hr3⟩:=hr2.one;subst e2;simp at e1;obtain⟨e1,e2⟩:=e1;subst e1;subst e2;obtain⟨l,news,p,hall,hd,hsrc⟩:=aat hI hq hr3 ht;have r:Go.Src P i.size tx (a.eval x) l.length news w:=by rw[his];exact hsrc
  unfold ai3 at p;split at p
  ·
   have ev:=gp hr1;split at p
   ·cases p;refine ay hI (v :=.slice none 0 0) (fe ho hcl J hty ?_) rfl;rw[ev];have hnn:news=[]:=U' (by rw[hsrc.newsLen];simp);subst hnn;have g1:=r.len;have g2:=r.cells;simp at g1 g2;rcases r.kind with⟨e',p⟩|p <;> simp[Builtin.append_,η hu,η p,sizeOf,typeInfo,T,g1,g2]
   ·rename_i hne;cases hc:(Nat.ble (l.length*xy P e) 140737488355328&&kZ (av P e) l&&Nat.ble l.length 4294967290)with
    |false=>rw[hc]at p;cases p
    |true=>
     rw[hc,I']at p;simp[bp]at hc;obtain⟨⟨c1,c2⟩,c3⟩:=hc;cases p;have hpos:0<l.length:=by
      cases l with
      |nil=>exact absurd rfl hne
      |cons _ _=>simp
     have hcap:=grownCap_ge w l.length 0 e;obtain⟨i',v',y1,y2,y3,y4,y5,y6,y7⟩:=WU (P:=P) hI hf hz hzs hs0 (old:=[]) (l:=l) (olds:=[]) (news:=news) (N:=grownCap w l.length 0 e) (λ_ q=>by cases q) hall rfl hd (by simpa using c3) (by simpa using hcap);simp at y6 y7;refine i3 (fe ho hcl J hty ?_) y5 y6 y7;rw[ev];have:=run_append_grow_src (P:=P) w t tx o.type e i' v' hu y1 y2 none 0 0 [] (run_firstCells_none w.drew i'.size 0 0 0) (a.eval x) l.length news (by rw[y3];exact hsrc) Ω Ω (by rw[y4];simpa using CL c1 (old:=0) hpos);simpa using this
  next k g off n cap=>
   obtain⟨U,hl,ev,hcf⟩:=LQ hr1;split at p
   ·have hroom:n≤iY cap U.n (off/U.s)∧out = .pv (.one (.sl k g off n cap))∧wr=none:=by
     cases cap with
     |some c=>
      simp only at p;cases hc:Nat.ble n c with
      |false=>rw[hc]at p;cases p
      |true =>rw[hc,I']at p;simp[Q.run]at p;exact⟨bp.1 hc,p.1.symm,p.2.symm⟩
     |none =>simp[Q.run]at p;refine⟨?_,p.1.symm,p.2.symm⟩;have:=bp.1 hcf;simp[iY];omega
    obtain⟨hroom,rfl,rfl⟩:=hroom;refine ay hI (fe ho hcl J hty ?_) hr1;rw[ev];have hnn:news=[]:=U' (by rw[hsrc.newsLen];simp);subst hnn;have g1:=r.len;have g2:=r.cells;simp at g1 g2;rcases r.kind with⟨e',p⟩|p <;> simp[Builtin.append_,η hu,η p,sizeOf,typeInfo,T,g1,g2,hroom,storeCells]
   ·rename_i hne;have hpos:0<l.length:=by
     cases l with
     |nil=>exact absurd rfl hne
     |cons _ _=>simp
    simp[Q.run]at p;have inplace:∀o',pC g (av P e) l (h k) (off+n*av P e)=some o'→n+l.length≤iY cap U.n (off/U.s)→RT φ (.pv (.one (.sl k g off (n+l.length) cap))) (.slice (some ⟨U.b,off,none⟩) (n+l.length) (iY cap U.n (off/U.s)))→OkX P B R φ h w o a (.pv (.one (.sl k g off (n+l.length) cap))) (some (k,o')):=λo' hw hroom hrt=>by
     cases l with
     |nil=>exact absurd rfl hne
     |cons x0 r0 =>obtain⟨arr,e',z1,z2,z3⟩:=hI.wrs hw hall hl hd;refine i3 (fe ho hcl J hty ?_) (Gx.le.refl φ) z3 hrt (zi hw);rw[ev];have:=xM (P:=P) (ty:=o.type) hu T r hroom z1 (by rw[his];exact z2);rw[his]at this;exact this
    split at p
    ·rename_i c;cases hc:Nat.ble (n+l.length) c with
     |true=>
      rw[hc,I']at p;split at p
      next o' hw=>cases p;refine inplace o' hw (bp.1 hc) ?_;show den φ (.sl k g off _ (some c))=_;simp[den,hl,BR]
      ·cases p
     |false=>
      rw[hc,H_]at p;have hc:c<n+l.length:=by
       rcases Z' c (n+l.length)with q|q
       ·exact q
       ·rw[bp.2 q]at hc;cases hc
      split at p
      ·rename_i old hold;cases hc2:(Nat.ble ((n+l.length)*xy P e) 140737488355328&&kZ (av P e) old&&kZ (av P e) l&&Nat.ble (n+l.length) 4294967290)with
       |false=>rw[hc2]at p;cases p
       |true=>
        rw[hc2,I']at p;simp[bp]at hc2;obtain⟨⟨⟨c1,_⟩,_⟩,c4⟩:=hc2;cases p;obtain⟨q1,q2,olds,q3,q4⟩:=hI.rds hl hold;have hcap:=grownCap_ge w (n+l.length) c e;obtain⟨i',v',y1,y2,y3,y4,y5,y6,y7⟩:=WU (P:=P) hI hf hz hzs hs0 (old:=old) (l:=l) (olds:=olds) (news:=news) (N:=grownCap w (n+l.length) c e) q2 hall q3 hd Ω Ω;rw[q1]at y6 y7;refine i3 (fe ho hcl J hty ?_) y5 y6 y7;rw[ev];have hol:olds.length=n*i'.size:=by rw[bc q3,iS q2,q1,y3]
        exact run_append_grow_src (P:=P) w t tx o.type e i' v' hu y1 y2 (some ⟨U.b,off,none⟩) n c olds (run_firstCells_some w.drew i'.size n _ n c olds hol (by simpa using q4)) (a.eval x) l.length news (by rw[y3];exact hsrc) hc Ω (by rw[y4];exact CL c1 hc)
      ·cases p
    ·split at p
     ·rename_i e' s' el len gen fz hrow;cases hc:(Nat.beq e e'&&Nat.beq (av P e) s'&&Nat.beq g gen&&Nat.beq (off%av P e) 0&&kZ (av P e) l&&Nat.ble ((n+l.length)*xy P e) 140737488355328&&Nat.ble (n+l.length) 4294967290&&QF fz)with
      |false=>rw[hc]at p;cases p
      |true=>
       rw[hc,I']at p;simp[bp]at hc;obtain⟨⟨⟨⟨⟨⟨⟨rfl,rfl⟩,rfl⟩,c4⟩,c5⟩,c6⟩,c7⟩,c8⟩:=hc;have c8:fz = .no:=by cases fz <;> first|rfl|cases c8
       subst c8;have hls:=hI.rowS hrow hl;have hob:=hI.obj k;rw[hrow]at hob;obtain⟨g0,g1,gm,g2,g3⟩:=hob;obtain⟨lc',m1,⟨m2,m3,arr,fr,m4,m5,m6,m7⟩,m8⟩:=g3 g (ζ _);rw[hl]at m1;cases m1;have m6:fr=(0,0):=m6;subst m6;have hC:=bp.1 hcf;have hn8:=m8 rfl;cases hfit:Nat.ble (off/av P e+n+l.length) len with
       |true=>
        rw[hfit,I']at p;have hfit:=bp.1 hfit;split at p
        next o' hw=>cases p;rw[hls]at hC;refine inplace o' hw (by simp[iY];rw[hls];omega) ?_;show den φ (.sl k g off _ none)=_;have hx:Nat.ble (off/U.s+(n+l.length)) U.n=true:=bp.2 (by rw[hls];omega);simp[den,hl,BR,hx]
        ·cases p
       |false=>
        rw[hfit,H_]at p;cases hc9:(Nat.beq off 0&&Nat.ble n len)with
        |false=>rw[hc9]at p;cases p
        |true=>
         rw[hc9,I']at p;simp[bp]at hc9;obtain⟨rfl,c9⟩:=hc9;cases p;have hgt:len<n+l.length:=by
          rcases Z' len (n+l.length)with q|q
          ·exact q
          ·rw[akT,Q',bp.2 q]at hfit;cases hfit
         rw[akT]at ev;have hns:n*av P e≤arr.size:=by rw[m5];exact l_ _ Ω
         have hnl:news.length=l.length*av P e:=by rw[bc hd,iS hall]
         rcases Z' U.n (n+l.length)with hg|hg
         ·
          have hcap:=grownCap_ge w (n+l.length) U.n e;have hvs:zv.cells.size=av P e:=by obtain⟨i',v',w1,w2,w3⟩:=gM hz;rw[T]at w1;cases w1;rw[hiz]at w2;cases w2;rw[←Array.length_toList,bc (db (w3 φ)),hzs]
          have hol:(arr.toList.take (n*av P e)).length=n*av P e:=by rw[g_,ω];omega
          obtain⟨q1,q2⟩:=Inv.turnUp (l:=l) (news:=news) (w':=w.drew.alloc (.cells ((arr.toList.take (n*av P e)++news).toArray++Builtin.zeroCells zv.cells (grownCap w (n+l.length) U.n e-(n+l.length))) e)) (l':=⟨w.heap.size,grownCap w (n+l.length) U.n e,av P e⟩) hI hrow hl c9 c7 hall hd rfl hI.size (n? w.drew _)
           (by rw[Array.size_append,EX,hvs,D?,Y',hol,hnl,←Nat.add_mul,←Nat.add_mul];congr 1;show _=grownCap w (n+l.length) U.n e;omega) (by show n+l.length≤grownCap w (n+l.length) U.n e;omega)
           (λj hj arr2 e2 fr2 hh=>by
            rw[m4]at hh;injection hh with hh;injection hh with hh _ _;subst hh;rw[f? Ξ,z?,Θ Ω,O',q' hj,k_])
           (λj u hj=>by
            have:=(S'.1 hj).1;rw[f? Ξ,z?,T' Ω,hol,aku];exact hj)
           (.inr (ζ _)) (λhh=>by have:=hI.lt hl;simp only at hh;omega) (λb hb _=>@heap_alloc_old w.drew _ b hb) rfl rfl rfl (by show w.heap.size≤(w.heap.push _).size;simp) ((by first|exact akG _|exact i_ _))
          refine i3 (v :=.slice (some ⟨w.heap.size,0,none⟩) (n+l.length) (grownCap w (n+l.length) U.n e)) (fe ho hcl J hty ?_) q1 q2 ?_
          ·rw[ev];have:=run_append_grow_src (P:=P) w t tx o.type e i zv hu T hiz (some ⟨U.b,0,none⟩) n U.n (arr.toList.take (n*av P e)) (run_firstCells_some w.drew i.size n _ n U.n _ (by rw[his];exact hol) (λj u hj=>by
            have hjl:=(S'.1 hj).1;rw[pX,Q'];rw[akF w.drew U.b j arr e (0,0) m4];rw[O',q' Ω,k_]at hj;exact hj)) (a.eval x) l.length news r hg Ω (by rw[hib];exact CL c6 hg)
           simpa[iY]using this
          ·show den _ (.sl k (g+1) 0 _ none)=_;have hx:Nat.ble (0+(n+l.length)) (grownCap w (n+l.length) U.n e)=true:=bp.2 Ω;simp only[den,Gx.turn_self,akT,BR,hx,i?,iY,akf]
         ·
          have hfit2:n*av P e+news.length≤arr.size:=by rw[m5,hnl,←Nat.add_mul];exact l_ _ hg
          have hsz2:(arr.toList.take (n*av P e)++news++arr.toList.drop (n*av P e+news.length)).toArray.size=arr.size:=by simp;omega
          obtain⟨q1,q2⟩:=Inv.turnUp (l:=l) (news:=news) (w':=w.setRow U.b (arr.toList.take (n*av P e)++news++arr.toList.drop (n*av P e+news.length)).toArray) (l':=U) hI hrow hl c9 c7 hall hd hls m2 (akD w U.b arr _ e _ m4)
           (by rw[hsz2];exact m5) hg
           (λj hj arr2 e2 fr2 hh=>by
            rw[m4]at hh;injection hh with hh;injection hh with hh _ _;subst hh;rw[zp hfit2,B' Ω])
           (λj u hj=>by
            have:=(S'.1 hj).1;rw[zp hfit2,q' Ω,aku];exact hj)
           (.inl rfl) (λ_ arr2 e2 fr2 hh=>by
            rw[m4]at hh;injection hh with hh;injection hh with hh _ _;subst hh;exact hsz2) (λb hb hne=>akc w U.b b _ hne) rfl rfl rfl (by simp[World.setRow]) (ζ _)
          refine i3 (v :=.slice (some ⟨U.b,0,none⟩) (n+l.length) (iY none U.n 0)) (fe ho hcl J hty ?_) q1 q2 ?_
          ·rw[ev];have:=xM (P:=P) (ty:=o.type) (sCap:=iY none U.n 0) hu T r (by simpa[iY]using hg) (off:=0) m4 (by rw[his,Q'];exact hfit2);rw[his,Q']at this;exact this
          ·show den _ (.sl k (g+1) 0 _ none)=_;have hx:Nat.ble (0+(n+l.length)) U.n=true:=bp.2 Ω;simp only[den,Gx.turn_self,akT,BR,hx,i?]
     ·cases p
  ·cases p
 ·cases hq
end
variable [SymVal]
section
variable {P:Program}{B:Nat}{R:W0}{φ:Gx}{h:Pos→EO}{w:World}{o:Oper}{a:Act}
variable{J:List CK}{agg:Bool}{p q:PV}{t U:TypeId}{v:Value}{r:Option (Nat×ME)}{es:List ME}{vs:List MapEntry}{i:Nat}{e:ME}{m:MapEntry}{l:Loc}
def EK {r:Bool}(h:eqP J agg p q=some r):p.isAgg=agg∧q.isAgg=agg∧eqL J p.cells q.cells=some r:=by
 unfold eqP at h;split at h
 ·cases agg with
  |true=>cases h
  |false=>exact⟨rfl,rfl,h⟩
 ·cases agg with
  |true=>exact⟨rfl,rfl,h⟩
  |false=>cases h
 ·cases h
def TX (R:i4 P 20 t=some J)(j:agg=pK (P.underlying t)){g f:Value}{r:Bool}(C:denP φ p=some g)(l:denP φ q=some f)(T:eqP J agg p q=some r):(Op.equal t g f).run P w = .ok r w:=by obtain⟨h1,h2,U⟩:=EK T;exact EJ (P:=P) (w:=w) 20 9980 t J R p q g f r C l (h1.trans j) (h2.trans j) U
def QX:∀{J:List CK} {l m:List CV},eqL J l m=some true→l=m
 |[],[],[],_=>rfl
 |k::J,a::l,b::m,h=>by
  simp[eqL]at h;split at h
  next x y h1 h2=>
   simp only[θ]at h;cases x with
   |false=>cases h
   |true=>
    have h:y=true:=h;subst h;rw[QX h2];congr 1;cases k <;> cases a <;> cases b <;> simp only[eqC]at h1 <;> first|(cases h1;done)|skip
    next a b=>cases a <;> cases b <;> simp_all
    ·rename_i k r a p b;cases f:(kq k r&&kq k p)with
     |false=>rw[f]at h1;cases h1
     |true =>rw[f]at h1;simp at f;have R:=Kg f.1;have P:=Kg f.2;subst R;subst P;simp at h1;rw[h1]
    ·rename_i a b;simp at h1;have:∀{a b:List Nat},lsEq a b=true→a=b:=by
      intro a;induction a with
      |nil=>intro b g;cases b with
       |nil=>rfl
       |cons _ _=>cases g
      |cons x a C=>intro b g;cases b with
       |nil=>cases g
       |cons y b=>
        simp only[lsEq]at g;cases j:Nat.beq x y with
        |false=>rw[j]at g;cases g
        |true=>rw[j]at g;rw[ry.1 j,C g]
     rw[this h1]
  ·cases h
 |[],_::_,_,h=>by simp[eqL]at h
 |[],[],_::_,h=>by simp[eqL]at h
 |_::_,[],_,h=>by simp[eqL]at h
 |_::_,_::_,[],h=>by simp[eqL]at h
def eqP_true (h:eqP J agg p q=some true):p=q:=by obtain⟨j,g,f⟩:=EK h;have:=QX f;cases p <;> cases q <;> simp_all[PV.cells,PV.isAgg]
def RE {k:CK}{c:CV}{r:Bool}(h:eqC k c c=some r)(f:den φ c=some v)(n:Nat):Instr.sameBits n v v=true:=by
 cases k <;> cases c <;> simp[eqC]at h <;> first|(cases h;done)|skip
 ·have f:some (Value.bool _)=some v:=f;cases f;simp[Instr.sameBits]
 ·have f:some (Value.int _ _)=some v:=f;cases f;simp[Instr.sameBits]
 ·obtain⟨_,e⟩:=pH (φ:=φ) (v:=v) f;rw[e];simp[Instr.sameBits,strV];exact(Go.MapKept.bytes_beq _ _).2 rfl
def K5 {n:Nat}:∀{J:List CK} {l:List CV} {vs:List Value} {r:Bool},eqL J l l=some r→dens φ l=some vs→(vs.zip vs).all (λ(x,y)=>Instr.sameBits n x y)=true
 |[],[],vs,_,_,hd=>by cases hd;rfl
 |k::J,a::l,vs,r,h,hd=>by
  simp[eqL]at h;split at h
  next x y h1 h2=>obtain⟨v,ws,rfl,q1,q2⟩:=bQ hd;simp[RE h1 q1,K5 h2 q2]
  ·cases h
 |[],_::_,_,_,h,_=>by simp[eqL]at h
 |_::_,[],_,_,h,_=>by simp[eqL]at h
def bits_self {r:Bool}(h:eqP J agg p p=some r)(j:denP φ p=some v):(Instr.keyThatStays v v).run P w = .ok v w:=by
 obtain⟨_,_,f⟩:=EK h;have:Instr.sameBits 10000 v v=true:=by
  cases p with
  |one c=>
   simp[PV.cells]at f;cases J with
   |nil=>simp[eqL]at f
   |cons k J=>
    simp[eqL]at f;split at f
    next g _=>exact RE g j 10000
    ·cases f
  |agg l =>obtain⟨vs,e,g⟩:=yw (φ:=φ) (v:=v) j;rw[e];simp[Instr.sameBits];have:=K5 (n:=9999) f g;simpa using this
 simp[Instr.keyThatStays,this]
def BQ {d:Nat}{em:Bool}{f:TypeId→Option (List CK)}(ih:∀t J,f t=some J→∀(p:PV) v r,denP φ p=some v→p.isAgg=pK (P.underlying t)→eqL J p.cells p.cells=some r→(Instr.checkKey em d t v).run P w = .ok () w)
  (hk:∀t J,f t=some J→nk (P.underlying t)=some (pK (P.underlying t))∧(pK (P.underlying t)=false→J.length=1)) (xs:Array Value) (F:Field→PUnit→Sem (ForInStep PUnit)) (hF:∀(fd:Field) (v:Value),fd.name ≠ "_" → (part fd.type xs fd.offset).run P w = .ok v w→(Instr.checkKey em d fd.type v).run P w = .ok () w→(F fd PUnit.unit).run P w = .ok (.yield PUnit.unit) w) :
  ∀(fs:List Field) (off:Nat) (J:List CK) (l:List CV) (r:Bool),Zs (av P) f fs off=some J→dens φ l=some (xs.toList.drop off)→eqL J l l=some r→(forIn fs PUnit.unit F).run P w = .ok PUnit.unit w
 |[],off,J,l,r,hc,hx,he=>by simp
 |fd::fs,off,J,l,r,hc,hx,he=>by
  simp only[Zs]at hc;split at hc
  next hn=>
   split at hc
   ·rename_i ka hka;split at hc
    ·rename_i hz;split at hc
     ·rename_i kb hkb;cases hc;obtain⟨r1,r2,e1,e2,rfl⟩:=yR he;obtain⟨hl1,_⟩:=M5 e1;have hsz:av P fd.type≠0:=Ω
      obtain⟨hb,hk1⟩:=hk _ _ hka;have hd2:=lX ka.length hx;have hp:∃p v,p.cells=l.take ka.length∧p.isAgg=pK (P.underlying fd.type)∧denP φ p=some v∧(part fd.type xs fd.offset).run P w = .ok v w:=by
       cases hs:pK (P.underlying fd.type)with
       |true =>rw[hs]at hb;refine⟨.agg (l.take ka.length),.agg ((xs.toList.drop off).take ka.length).toArray,rfl,rfl,by simp[denP,hd2], ?_⟩;simp[part,ν,cB hb,aK hsz,j_,hn.2,hz.1];congr 2;apply B_;simp
       |false=>
        rw[hs]at hb;have hone:ka.length=1:=hk1 hs;rw[hone]at hd2 hl1;match hlt:l.take 1,hl1 with
        |[c],_=>
         rw[hlt]at hd2;obtain⟨v,ws,e3,h1,h2⟩:=bQ hd2;have hg:xs[off]? = some v:=by
          have:((xs.toList.drop off).take 1)[0]? = some v:=by rw[e3];rfl
          rw[O']at this;split at this
          ·simpa[h_]using this
          ·cases this
         refine⟨.one c,v,by rw[hone,hlt];rfl,rfl,h1, ?_⟩;simp[part,ν,cB hb,hn.2,hg]
      obtain⟨p,v,p1,p2,p3,p4⟩:=hp;have hA:=ih fd.type ka hka p v r1 p3 p2 (by rw[p1];exact e1);have hR:=BQ ih hk xs F hF fs (off+ka.length) kb (l.drop ka.length) r2 hkb (by rw[←List.drop_drop];exact jx _ hx) e2;simp[ν,hF fd v hn.1 p4 hA];exact hR
     ·cases hc
    ·cases hc
   ·cases hc
  ·cases hc
def Ia {em:Bool}:∀(d:Nat) (D:Nat) (t:TypeId) (J:List CK),i4 P d t=some J→∀(p:PV) v r,denP φ p=some v→p.isAgg=pK (P.underlying t)→eqL J p.cells p.cells=some r→(Instr.checkKey em (D+d) t v).run P w = .ok () w
 |0,D,t,J,h,p,v,r,_,_,_=>by cases h
 |d+1,D,t,J,h,p,v,r,hx,hp,he=>by
  simp[i4]at h;rw[←Nat.add_assoc];split at h
  next hu=>simp only[Instr.checkKey,ν,η hu,χ];rfl
  next k hu=>simp only[Instr.checkKey,ν,η hu,χ];rfl
  next hu=>simp only[Instr.checkKey,ν,η hu,χ];rfl
  next fs hu=>
   split at h
   ·cases h
   ·rw[hu]at hp;cases p with
    |one c=>cases hp
    |agg l =>obtain⟨T,U,g⟩:=yw (φ:=φ) (v:=v) hx;subst U;rw[Instr.checkKey];simp only[ν,η hu,χ];rw[←Array.forIn_toList];rw[BQ (P:=P) (w:=w) (em:=em) (d:=D+d) (λt J f p v r=>Ia d D t J f p v r) (λt J f=>Rx d t J f) T.toArray _ (λfd v R C j=>by simp[R,C,j]) fs.toList 0 J l r h (by simpa using g) he];rfl
  ·cases h
def kOk (P:Program)(U:TypeId)(J:List CK)(agg:Bool):Prop:=i4 P 20 U=some J∧agg=pK (P.underlying U)
def wO {q:EqK}(h:x9 P t=some q):∃J agg,q = .flat J agg∧kOk P t J agg:=by
 unfold x9 at h;split at h
 next fs f=>
  split at h
  next J g=>simp at h;exact⟨J,true,h.symm,g,by rw[f];rfl⟩
  ·cases h
 next d hd f=>
  split at h
  next J g=>simp at h;refine⟨J,false,h.symm,g, ?_⟩;rw[f];cases d <;> first|rfl|(exact absurd rfl (hd _))
  ·cases h
 ·cases h
def run_check (g:kOk P U J agg)(j:denP φ p=some v)(f:keyOk J agg p=true)(em:Bool):(Instr.checkKey em 10000 U v).run P w = .ok () w:=by
 unfold keyOk at f;split at f
 next r hr=>obtain⟨C,_,l⟩:=EK hr;exact Ia (P:=P) (w:=w) 20 9980 U J g.1 p v r j (C.trans g.2) l
 ·cases f
def Fnd (_:Gx)(es:List ME)(vs:List MapEntry)(i:Nat)(J:List CK)(agg:Bool)(k:PV)(r:Option (Nat×ME))(o:Option (Nat×Value)):Prop:=match r with
 |none=>o=none
 |some (n,e)=>∃j m,n=i+j∧o=some (n,m.val)∧es[j]? = some e∧vs[j]? = some m∧eqP J agg k e.key=some true
def Fnd.next {k:PV}{o:Option (Nat×Value)}(f:Fnd φ es vs (i+1) J agg k r o):Fnd φ (e::es) (m::vs) i J agg k r o:=by
 unfold Fnd at f⊢;split
 ·exact f
 ·obtain⟨j,m,P,C,p,l,g⟩:=f;exact⟨j+1,m,Ω,C,by simpa using p,by simpa using l,g⟩
def nP (C:denEs φ (e::es) (m::vs)):denP φ e.key=some m.key∧denP φ e.val=some m.val∧m.born=e.born∧denEs φ es vs:=by obtain⟨J,g⟩:=C;obtain⟨v,q1,q2,l,j⟩:=g 0 e rfl;cases q1;refine⟨q2,l,j,by simpa using J,λi P f=>?_⟩;obtain⟨v,r,p⟩:=g (i+1) P (by simpa using f);exact⟨v,by simpa using r,p⟩
def QL {U:TypeId}{J:List CK}{agg:Bool}(f:kOk P U J agg){k:PV}{v:Value}(j:denP φ k=some v):∀{es:List ME} {vs:List MapEntry} {i:Nat} {r:Option (Nat×ME)},denEs φ es vs→findE J agg k es i=some r→∃o,(Instr.findAsking U v vs i).run P w = .ok o w∧Fnd φ es vs i J agg k r o
 |[],[],i,r,_,hf=>by cases hf;exact⟨none,rfl,rfl⟩
 |[],_::_,i,r,hd,hf=>by have:=hd.1;simp at this
 |_::_,[],i,r,hd,hf=>by have:=hd.1;simp at this
 |e::es,m::vs,i,r,hd,hf=>by
  obtain⟨l,R,C,p⟩:=nP hd;simp[findE]at hf;split at hf
  next g=>cases hf;exact⟨some (i,m.val),by simp[Instr.findAsking,TX f.1 f.2 j l g],0,m,rfl,rfl,rfl,rfl,g⟩
  next g=>obtain⟨o,q1,q2⟩:=QL f j p hf;exact⟨o,by simp[Instr.findAsking,TX f.1 f.2 j l g,q1],q2.next⟩
  ·cases hf
def OQ (R:kOk P U J agg){d:TypeDesc}(j:P.underlying U=some d){C l:Value}{r b:Bool}(hx:denP φ p=some C)(T:denP φ q=some l)(he:eqP J agg p q=some r)(g:Instr.sameNow d C l=some b):b=r:=by
 have f:=TX (P:=P) (w:=default) R.1 R.2 hx T he;unfold Instr.sameNow at g;split at g
 next k a k' b'=>
  split at g
  next hkk=>subst hkk;simp at g;have:=ak7 (P:=P) default 9999 U k _ a b' j;rw[show Op.equal U (.int k a) (.int k b')=Op.equalIn (9999+1) U (.int k a) (.int k b') from rfl,this]at f;injection f with f _;rw[←f,←g]
  ·cases g
 next a b'=>simp at g;have:=akP (P:=P) default 9999 U a b' j;rw[show Op.equal U (.string a) (.string b')=Op.equalIn (9999+1) U (.string a) (.string b') from rfl,this]at f;injection f with f _;rw[←f,←g,beq_toListBytes]
 next a b'=>simp at g;have:=ak1 (P:=P) default 9999 U a b' j;rw[show Op.equal U (.bool a) (.bool b')=Op.equalIn (9999+1) U (.bool a) (.bool b') from rfl,this]at f;injection f with f _;rw[←f,←g]
 ·cases g
def QK {U:TypeId}{J:List CK}{agg:Bool}(l:kOk P U J agg){d:TypeDesc}(f:P.underlying U=some d){k:PV}{v:Value}(j:denP φ k=some v):∀{es:List ME} {vs:List MapEntry} {i:Nat} {r:Option (Nat×ME)} {o:Option (Nat×Value)},denEs φ es vs→findE J agg k es i=some r→Instr.findNow d v vs i=some o→Fnd φ es vs i J agg k r o
 |[],[],i,r,o,_,hf,hn=>by simp[findE]at hf;simp[Instr.findNow]at hn;subst hf;subst hn;rfl
 |[],_::_,i,r,o,f,hf,_=>by have:=f.1;simp at this
 |_::_,[],i,r,o,f,hf,_=>by have:=f.1;simp at this
 |e::es,m::vs,i,r,o,hde,hf,hn=>by
  obtain⟨p,T,R,C⟩:=nP hde;simp[findE]at hf;simp[Instr.findNow]at hn;split at hn
  next hb=>
   cases hn;split at hf
   next g=>cases hf;exact⟨0,m,rfl,rfl,rfl,rfl,g⟩
   next g=>have:=OQ l f j p g hb;cases this
   ·cases hf
  next hb=>
   split at hf
   next g=>have:=OQ l f j p g hb;cases this
   ·exact(QK l f j C hf hn).next
   ·cases hf
  ·cases hn
def find_key (j:kOk P U J agg){k:PV}(l:denP φ k=some v)(C:denEs φ es vs)(p:findE J agg k es 0=some r):∃o,(Instr.findKey U v vs).run P w = .ok o w∧Fnd φ es vs 0 J agg k r o:=by
 obtain⟨d,f⟩:∃d,P.underlying U=some d:=by
  cases f:P.underlying U with
  |some d=>exact⟨d,rfl⟩
  |none =>have:=j.1;simp[i4,f]at this
 cases g:Instr.findNow d v vs 0 with
 |some o=>exact⟨o,by simp[Instr.findKey,η f,g],QK j f l C p g⟩
 |none =>obtain⟨o,q1,q2⟩:=QL (w:=w) j l C p;exact⟨o,by simp[Instr.findKey,η f,g,q1],q2⟩
def ON (f:ME→ME):∀(es:List ME) (i j:Nat),(Cm es i f)[j]? = if i=j then(es[j]?).map f else es[j]?
 |[],i,j=>by simp[Cm]
 |e::es,0,0=>by simp[Cm]
 |e::es,0,j+1=>by simp[Cm]
 |e::es,i+1,0=>by simp[Cm]
 |e::es,i+1,j+1=>by simp only[Cm,ajP,ON f es i j];simp
def OM (f:ME→ME):∀(es:List ME) (i:Nat),(Cm es i f).length=es.length
 |[],i=>rfl
 |e::es,0=>rfl
 |e::es,i+1=>by simp[Cm,OM f es i]
def CU {vs:Array MapEntry}(r:denEs φ es vs.toList){f:ME→ME}{g:MapEntry→MapEntry}(p:∀e m,es[i]? = some e→vs[i]? = some m→denP φ e.key=some m.key→denP φ e.val=some m.val→m.born=e.born→denP φ (f e).key=some (g m).key∧denP φ (f e).val=some (g m).val∧(g m).born=(f e).born):denEs φ (Cm es i f) (vs.modify i g).toList:=by
 refine⟨by simp[OM];simpa using r.1,λj e l=>?_⟩;rw[ON]at l;rw[k_,T_];split at l
 next hij=>subst hij;rw[q' rfl];simp at l;obtain⟨J,C,rfl⟩:=l;obtain⟨m,q1,q2,R,P⟩:=r.2 i J C;rw[k_]at q1;exact⟨g m,by rw[q1];rfl,p J m C q1 q2 R P⟩
 next hij=>rw[B' hij];obtain⟨m,q1,q2⟩:=r.2 j e l;rw[k_]at q1;exact⟨m,q1,q2⟩
def HT {vs:Array MapEntry}(l:denEs φ es vs.toList)(C:denP φ e.key=some m.key)(r:denP φ e.val=some m.val)(p:m.born=e.born):denEs φ (es++[e]) (vs.push m).toList:=by
 have g:vs.size=es.length:=by rw[←l.1,ω]
 refine⟨by simp[g],λj x f=>?_⟩;rw[k_];obtain hj|hj:=Z' j es.length
 ·rw[Θ hj]at f;obtain⟨v,q1,q2⟩:=l.2 j x f;rw[k_]at q1;exact⟨v,by rw[Array.getElem?_push,B' Ω];exact q1,q2⟩
 ·rw[T' hj]at f;have:j=es.length:=by
   have:=(S'.1 f).1;simp at this;omega
  subst this;simp at f;subst f;exact⟨m,by rw[←g];simp,C,r,p⟩
def Inv.setO (hI:Inv B R φ h w){k:Pos}(hl:φ.loc k 0=some l)(p:∀g,0<g→φ.loc k g=none){ob j:Obj}(hb:w.heap[l.b]? = some ob)(P:stays ob=false){r:EO}(T:iZ φ { w with heap:=w.heap.setIfInBounds l.b j } B k r)(U:i5 r=false:=by rfl):Inv B R φ (upd h k r) { w with heap:=w.heap.setIfInBounds l.b j }:=by
 have only:∀g J,φ.loc k g=some J→J=l:=λg J f=>by
  cases g with
  |zero=>rw[hl]at f;exact(υ f).symm
  |succ g=>rw[p _ Ω]at f;cases f
 refine hI.turn (ψ:=φ) (Gx.le.refl φ) (λ_ _=>⟨λ_=>rfl,rfl,rfl⟩) (λg1 C x=>.inl ⟨g1,C,x,rfl⟩) (λb hb' hne=>?_) (λg1 C x ob1 h1 h2=>?_) rfl rfl rfl Ψ (ζ _) T U
 ·simp[hne 0 l hl]
 ·rw[only g1 C x,hb]at h1;cases h1;rw[P]at h2;cases h2
def wK (P:Inv B R φ h w){m:Pos}{clock:Nat}(J:h m = .map es clock)(C:RT φ (.pv (.one (.mp m))) v):∃l vs,φ.loc m 0=some l∧(∀g,0<g→φ.loc m g=none)∧v = .map (some l.b)∧B≤l.b∧w.heap[l.b]? = some (.map vs clock)∧denEs φ es vs.toList:=by obtain⟨l,j,T⟩:=agq C;have f:=P.obj m;rw[J]at f;obtain⟨U,l',vs,q1,q2,r,p⟩:=f;rw[j]at q1;cases q1;exact⟨l,vs,j,U,T,q2,r,p⟩
def Inv.setM (J:Inv B R φ h w){m:Pos}(p:φ.loc m 0=some l)(f:∀g,0<g→φ.loc m g=none)(P:B≤l.b){vs vs':Array MapEntry}{c c':Nat}(r:w.heap[l.b]? = some (.map vs c)){j:List ME}(C:denEs φ j vs'.toList):Inv B R φ (upd h m (.map j c')) { w with heap:=w.heap.setIfInBounds l.b (.map vs' c') } :=
 J.setO p f r rfl ⟨f,l,vs',p,P,(Go.MapKept.heap_set r).1,C⟩
def NF {z:PV}(f:eC P t=some z)(w:World):∃v,(zeroValue t).run P w = .ok v w∧∀φ,denP φ z=some v:=by obtain⟨i,v,l,j,g⟩:=gM f;exact⟨v,by simp[zeroValue,typeInfo,l,j],g⟩
def aeE (hI:Inv B R φ h w){e:TypeId}{x y:Operand}{ok:Bool}(ho:o.op = .lookup t x y ok)(hu:P.underlying t=some (.map U e)){q:EqK}(hkey:x9 P U=some q){z:PV}(hz:eC P e=some z){C:List TV}(hv:RTs φ C [a.eval x,a.eval y]){f:Pos}{out:TV}{wr:Option (Pos×EO)}(g:(Q4 q z ok C f).run h=some (out,wr)):OkX P B R φ h w o a out wr:=by
 obtain⟨J,agg,rfl,hk⟩:=wO hkey;unfold Q4 at g;split at g
 ·obtain⟨v1,ws,e1,hr1,hr2⟩:=hv.cons;obtain⟨v2,e2,T⟩:=hr2.one;subst e2;simp at e1;obtain⟨e1,e2⟩:=e1;subst e1;subst e2;split at g
  next ks' agg' kv heq=>
   injection heq with h1 h2;subst h1;subst h2;have T:denP φ kv=some (a.eval y):=T;cases hok:keyOk J agg kv with
   |false=>rw[hok]at g;cases g
   |true=>
    rw[hok,I']at g;obtain⟨zv,hzr,hzd⟩:=NF hz w;have fin:∀{r:Option PV} {v:Option Value},(wL ok z r).run h=some (out,wr)→(match r,v with|none,none=>True|some p,some u=>denP φ p=some u|_,_=>False)→(execOp a.eval o).run P w = .ok (.value (match v with|some u=>(if ok then .tuple #[u,.bool true]else u)|none=>(if ok then .tuple #[zv,.bool false]else zv))) w→OkX P B R φ h w o a out wr:=by
     intro r v hl hm hrun;unfold wL at hl;cases ok with
     |true=>
      cases r with
      |none=>
       cases v with
       |some _=>cases hm
       |none =>cases hl;exact ay hI hrun ⟨[zv,.bool false],bI (hzd φ) rfl,rfl⟩
      |some p=>
       cases v with
       |none=>cases hm
       |some u =>cases hl;exact ay hI hrun ⟨[u,.bool true],bI hm rfl,rfl⟩
     |false=>
      cases r with
      |none=>
       cases v with
       |some _=>cases hm
       |none =>cases hl;exact ay hI hrun (hzd φ)
      |some p=>
       cases v with
       |none=>cases hm
       |some u =>cases hl;exact ay hI hrun hm
    split at g
    ·have ev:=Eq hr1;refine fin (v:=none) g trivial ?_;unfold execOp;have hf:(Instr.findKey U (a.eval y) []).run P w = .ok none w:=by
      obtain⟨o',q1,q2⟩:=find_key (w:=w) hk T (es:=[]) (vs:=[]) ⟨rfl,λi e he=>by simp at he⟩ rfl;rw[q1,show o'=none from q2]
     simp[ho,ev,Instr.lookup,η hu,run_check hk T hok,hf,hzr]
    ·rename_i m;simp[Q.run]at g;split at g
     ·rename_i es clock hm;obtain⟨l,vs,q1,_,ev,_,q3,q4⟩:=wK hI hm hr1;split at g
      ·rename_i r hf;obtain⟨o',p1,p2⟩:=find_key (w:=w) hk T q4 hf;refine fin (v:=o'.map (·.2)) g ?_ ?_
       ·unfold Fnd at p2;split at p2
        ·subst p2;trivial
        ·obtain⟨j,m',_,h2,h3,h4,_⟩:=p2;rw[h2];obtain⟨m2,z1,_,z3,_⟩:=q4.2 j _ h3;rw[h4]at z1;cases z1;exact z3
       ·unfold execOp;cases o' with
        |none=>simp[ho,ev,Instr.lookup,η hu,getObj,Sem.run,q3,run_check hk T hok,p1,hzr,Result.andThen]
        |some pr=>simp[ho,ev,Instr.lookup,η hu,getObj,Sem.run,q3,run_check hk T hok,p1,Result.andThen]
      ·cases g
     ·cases g
    ·cases g
  ·cases g
 ·cases g
end
open Go.MapKept
variable [SymVal]
section
variable {P:Program}{B:Nat}{R:W0}{φ:Gx}{h:Pos→EO}{w:World}{o:Oper}{a:Act}
variable{es:List ME}{vs:Array MapEntry}{v:Value}{t U:TypeId}{x y:Operand}{q:EqK}{C:List TV}{f:Pos}{out:TV}{wr:Option (Pos×EO)}
def found_key (hd:denEs φ es vs.toList){J:List CK}{agg:Bool}{k:PV}(T:denP φ k=some v){j:Nat}{e:ME}{m:MapEntry}(U:es[j]? = some e)(C:vs.toList[j]? = some m)(r:eqP J agg k e.key=some true):(((vs[j]?).map (·.key)).getD v)=v∧vs[j]? = some m∧denP φ e.val=some m.val∧m.born=e.born∧eqP J agg k k=some true:=by
 obtain⟨m2,p,g,R,P⟩:=hd.2 j e U;rw[C]at p;cases p;have l:=eqP_true r;subst l;rw[T]at g;injection g with g;have f:vs[j]? = some m:=by rw[←Array.getElem?_toList];exact C
 exact⟨by rw[f];exact g.symm,f,R,P,r⟩
def ahe (hI:Inv B R φ h w){e:TypeId}{z:Operand}(ho:o.op = .mapUpdate t x y z∨o.op = .insert t x y z)(hu:P.underlying t=some (.map U e))(hkey:x9 P U=some q)(hv:RTs φ C [a.eval x,a.eval y,a.eval z])(p:(afu q C f).run h=some (out,wr)):OkX P B R φ h w o a out wr:=by
 obtain⟨J,agg,rfl,hk⟩:=wO hkey;have hex:∀{w'},(Instr.mapUpdate t (a.eval x) (a.eval y) (a.eval z)).run P w = .ok () w'→(execOp a.eval o).run P w = .ok .skip w':=λhr=>by unfold execOp;obtain ho|ho:=ho <;> simp[ho,hr]
 unfold afu at p;split at p
 ·obtain⟨v1,ws,e1,hr1,hr2⟩:=hv.cons;obtain⟨v2,ws2,e2,g,hr4⟩:=hr2.cons;obtain⟨v3,e3,r⟩:=hr4.one;subst e3;subst e2;simp at e1;obtain⟨e1,e2,e3⟩:=e1;subst e1;subst e2;subst e3;split at p
  next ks' agg' m kv v heq=>
   injection heq with h1 h2;subst h1;subst h2;have g:denP φ kv=some (a.eval y):=g;have r:denP φ v=some (a.eval z):=r;cases T:keyOk J agg kv with
   |false=>rw[T]at p;cases p
   |true=>
    rw[T,I']at p;simp[Q.run]at p;split at p
    ·rename_i es clock hm;obtain⟨l,vs,q1,qo,ev,qB,q3,q4⟩:=wK hI hm hr1;split at p
     ·rename_i i e' hf;cases p;obtain⟨o',p1,p2⟩:=find_key (w:=w) hk g q4 hf;obtain⟨j,m',rfl,h2,h3,h4,h5⟩:=p2;obtain⟨y1,y2,y3,y4,y5⟩:=found_key q4 g h3 h4 h5;subst h2;refine Ey (hex ?_) (Gx.le.refl φ) (hI.setM q1 qo qB (c':=clock) (vs':=vs.modify (0+j) λe=>{ e with key:=a.eval y,val:=a.eval z }) q3 (CU q4 λe m _ _ _ _ hb=>⟨g,r,hb⟩));have y1':(((vs[0+j]?).map (·.key)).getD (a.eval y))=a.eval y:=by rw[Q'];exact y1
      simp only[Instr.mapUpdate,ν,η hu,ev,χ,e_ q3,run_check hk g T,p1,y1',bits_self y5 g,F_ _ q3]
     next hf=>cases p;obtain⟨o',p1,p2⟩:=find_key (w:=w) hk g q4 hf;have p2:o'=none:=p2;subst p2;refine Ey (hex ?_) (Gx.le.refl φ) (hI.setM q1 qo qB (c':=clock+1) (vs':=vs.push { key:=a.eval y,val:=a.eval z,born:=clock }) q3 (HT q4 g r rfl));simp[Instr.mapUpdate,ν,η hu,ev,e_ q3,run_check hk g T,p1,F_ _ q3]
     ·cases p
    ·cases p
  ·cases p
 ·cases p
def Wz:∀(es:List ME) (i:Nat),UG es i=es.eraseIdx i
 |[],_=>by simp[UG]
 |_::es,0=>by simp[UG]
 |e::es,i+1=>by simp[UG,Wz es i]
def Zf (g:denEs φ es vs.toList)(i:Nat):denEs φ (UG es i) (vs.eraseIdxIfInBounds i).toList:=by
 have l:(vs.eraseIdxIfInBounds i).toList=vs.toList.eraseIdx i:=by
  unfold Array.eraseIdxIfInBounds;split
  ·simp
  next h=>rw[List.eraseIdx_of_length_le (by simpa using h)]
 rw[l,Wz];refine⟨by rw[List.length_eraseIdx,List.length_eraseIdx,g.1],λj e f=>?_⟩;rw[List.getElem?_eraseIdx]at f⊢;split at f
 next h=>rw[q' h];exact g.2 j e f
 next h=>rw[B' h];exact g.2 (j+1) e f
def ahs (hI:Inv B R φ h w){cl:Call}{t2 e:TypeId}(ho:o.op = .call cl)(hcl:cl.callee = .builtin .delete)(hargs:cl.args = #[x,y])(hty:cl.argTypes = #[t,t2])(hu:P.underlying t=some (.map U e))(hkey:x9 P U=some q)(hv:RTs φ C [a.eval x,a.eval y])(p:(afB q C f).run h=some (out,wr)):OkX P B R φ h w o a out wr:=by
 obtain⟨J,agg,rfl,hk⟩:=wO hkey;have hex:∀{w'},(Builtin.delete_ #[t,t2] o.type #[a.eval x,a.eval y]).run P w = .ok (.tuple #[]) w'→(execOp a.eval o).run P w = .ok (.value (.tuple #[])) w':=λhr=>by unfold execOp;simp[ho,resolve,hcl,hargs,invoke,builtin,hty,hr]
 have hrt:∀ψ:Gx,RT ψ (.tup []) (.tuple #[]):=λψ=>⟨[],rfl,rfl⟩;unfold afB at p;split at p
 ·obtain⟨v1,ws,e1,hr1,hr2⟩:=hv.cons;obtain⟨v2,e2,g⟩:=hr2.one;subst e2;simp at e1;obtain⟨e1,e2⟩:=e1;subst e1;subst e2;split at p
  next ks' agg' kv heq=>
   injection heq with h1 h2;subst h1;subst h2;have g:denP φ kv=some (a.eval y):=g;cases r:keyOk J agg kv with
   |false=>rw[r]at p;cases p
   |true =>rw[r,I']at p;cases p;refine ay hI (hex ?_) (hrt _);simp[Builtin.delete_,Eq hr1,ν,η hu,run_check hk g r]
  next ks' agg' m kv heq=>
   injection heq with h1 h2;subst h1;subst h2;have g:denP φ kv=some (a.eval y):=g;cases r:keyOk J agg kv with
   |false=>rw[r]at p;cases p
   |true=>
    rw[r,I']at p;simp[Q.run]at p;split at p
    ·rename_i es clock hm;obtain⟨l,vs,q1,qo,ev,qB,T,q4⟩:=wK hI hm hr1;split at p
     next i e' hf=>cases p;obtain⟨o',p1,p2⟩:=find_key (w:=w) hk g q4 hf;obtain⟨j,m',rfl,h2,h3,h4,h5⟩:=p2;subst h2;refine i3 (hex ?_) (Gx.le.refl φ) (hI.setM q1 qo qB (c':=clock) (vs':=vs.eraseIdxIfInBounds (0+j)) T (Zf q4 (0+j))) (hrt _);simp[Builtin.delete_,ν,η hu,ev,e_ T,run_check hk g r,p1,F_ _ T]
     ·rename_i hf;cases p;obtain⟨o',p1,p2⟩:=find_key (w:=w) hk g q4 hf;have p2:o'=none:=p2;subst p2;refine ay hI (hex ?_) (hrt _);have hset:w.heap.setIfInBounds l.b (.map vs clock)=w.heap:=by
       apply Array.ext_getElem?;intro k;rw[aj9];split
       next hkk=>subst hkk;rw[q' (δ.1 T).1,T]
       ·rfl
      simp[Builtin.delete_,ν,η hu,ev,e_ T,run_check hk g r,p1,F_ _ T,hset]
     ·cases p
    ·cases p
  ·cases p
 ·cases p
def aeD (hI:Inv B R φ h w){e:TypeId}(ho:o.op = .mapEntry t x y)(hu:P.underlying t=some (.map U e))(hkey:x9 P U=some q){z:PV}(hz:eC P e=some z)(hv:RTs φ C [a.eval x,a.eval y])(p:(Wv q z C f).run h=some (out,wr)):OkX P B R φ h w o a out wr:=by
 obtain⟨J,agg,rfl,hk⟩:=wO hkey;have hex:∀{v w'},(Instr.mapEntry t (a.eval x) (a.eval y)).run P w = .ok v w'→(execOp a.eval o).run P w = .ok (.value v) w':=λhr=>by unfold execOp;simp[ho,hr]
 unfold Wv at p;split at p
 ·obtain⟨v1,ws,e1,hr1,hr2⟩:=hv.cons;obtain⟨v2,e2,g⟩:=hr2.one;subst e2;simp at e1;obtain⟨e1,e2⟩:=e1;subst e1;subst e2;split at p
  next ks' agg' m kv heq=>
   injection heq with h1 h2;subst h1;subst h2;have g:denP φ kv=some (a.eval y):=g;cases r:keyOk J agg kv with
   |false=>rw[r]at p;cases p
   |true=>
    rw[r,I']at p;simp[Q.run]at p;split at p
    ·rename_i es clock hm;obtain⟨l,vs,q1,qo,ev,qB,T,q4⟩:=wK hI hm hr1;split at p
     ·rename_i i e' hf;cases p;obtain⟨o',p1,p2⟩:=find_key (w:=w) hk g q4 hf;obtain⟨j,m',rfl,h2,h3,h4,h5⟩:=p2;obtain⟨y1,y2,y3,y4,y5⟩:=found_key q4 g h3 h4 h5;subst h2;have y1':(((vs[0+j]?).map (·.key)).getD (a.eval y))=a.eval y:=by rw[Q'];exact y1
      have y2':(((vs[0+j]?).map λx=>(x.born:Int)).getD 0)=Int.ofNat e'.born:=by rw[Q',y2];show(m'.born:Int)=_;rw[y4];rfl
      refine i3 (v :=.tuple #[m'.val,.int .i64 (Int.ofNat e'.born)]) (hex ?_) (Gx.le.refl φ) (hI.setM q1 qo qB (c':=clock) (vs':=vs.modify (0+j) λe=>{ e with key:=a.eval y }) T (CU q4 λe m _ _ _ hvv hb=>⟨g,hvv,hb⟩)) ⟨_,bI y3 (bI (dv _ _) rfl),rfl⟩;simp only[Instr.mapEntry,ν,η hu,ev,χ,e_ T,run_check hk g r,p1,y1',bits_self y5 g,F_ _ T,j_,goInt];rw[y2']
     next hf=>cases p;obtain⟨o',p1,p2⟩:=find_key (w:=w) hk g q4 hf;have p2:o'=none:=p2;subst p2;obtain⟨zv,hzr,hzd⟩:=NF hz w;refine i3 (v :=.tuple #[zv,.int .i64 (Int.ofNat clock)]) (hex ?_) (Gx.le.refl φ) (hI.setM q1 qo qB (c':=clock+1) (vs':=vs.push { key:=a.eval y,val:=zv,born:=clock }) T (HT q4 g (hzd φ) rfl)) ⟨_,bI (hzd φ) (bI (dv _ _) rfl),rfl⟩;simp only[Instr.mapEntry,ν,η hu,ev,χ,e_ T,run_check hk g r,p1,hzr,F_ _ T,j_,goInt];rfl
     ·cases p
    ·cases p
  ·cases p
 ·cases p
def HE:∀{es:List ME} {vs:List MapEntry} {b i n:Nat},denEs φ es vs→Wm b es i=some n→∃j,n=i+j∧vs.findIdx? (λe=>(e.born:Int) == (b:Int))=some j
 |[],vs,b,i,n,_,h=>by cases h
 |e::es,[],b,i,n,hd,h=>by have:=hd.1;simp at this
 |e::es,m::vs,b,i,n,hd,h=>by
  obtain⟨_,_,g,p⟩:=nP hd;simp[Wm]at h;cases f:Nat.beq e.born b with
  |true =>rw[f]at h;cases h;have f:=ry.1 f;exact⟨0,rfl,by simp[List.findIdx?_cons,g,f]⟩
  |false=>
   rw[f]at h;obtain⟨j,rfl,l⟩:=HE p h;have f:=E_ f;have f:¬((e.born:Int)=(b:Int)):=Ω
   exact⟨j+1,Ω,by simp[List.findIdx?_cons,g,f];simpa using l⟩
def aeC (hI:Inv B R φ h w){z:Operand}(ho:o.op = .entryStore t x y z)(hv:RTs φ C [a.eval x,a.eval y,a.eval z])(g:(Wu C f).run h=some (out,wr)):OkX P B R φ h w o a out wr:=by
 unfold Wu at g;split at g
 ·obtain⟨v1,ws,U,hr1,hr2⟩:=hv.cons;obtain⟨v2,ws2,e2,hr3,hr4⟩:=hr2.cons;obtain⟨v3,e3,r⟩:=hr4.one;subst e3;subst e2;simp at U;obtain⟨U,e2,e3⟩:=U;subst U;subst e2;subst e3;split at g
  next m k b v=>
   have r:denP φ v=some (a.eval z):=r;have hb:=dL hr3;simp[Q.run]at g;split at g
   ·rename_i es clock hm;obtain⟨l,vs,q1,qo,ev,qB,q3,q4⟩:=wK hI hm hr1;split at g
    ·rename_i i hf;cases g;obtain⟨j,T,hj⟩:=HE q4 hf;rw[Q']at T;subst T;have hj':vs.findIdx? (λe=>(e.born:Int) == (b:Int))=some i:=by have:=List.findIdx?_toArray (p:=λe=>((e:MapEntry).born:Int) == (b:Int)) (l:=vs.toList);rw[hj]at this;simpa using this
     refine Ey (w':={ w with heap:=w.heap.setIfInBounds l.b (.map (vs.modify i λe=>{ e with val:=a.eval z }) clock) }) ?_ (Gx.le.refl φ) (hI.setM q1 qo qB q3 (CU q4 λe m _ _ hkk _ hb=>⟨hkk,r,hb⟩));unfold execOp;have J:=F_ (P:=P) (.map (vs.modify i λe=>{ e with val:=a.eval z }) clock) q3;have hb':a.eval y = .int k (b:Int):=hb;simp[ho,ev,Instr.entryStore,e_ q3,hb',asInt,asIntOf,hj',J]
    ·cases g
   ·cases g
  ·cases g
 ·cases g
def aeA (p:Inv B R φ h w){e:TypeId}(ho:o.op = .range t x)(hu:P.underlying t=some (.map U e))(hf:h f = .none)(hv:RTs φ C [a.eval x])(j:(Ws C f).run h=some (out,wr)):OkX P B R φ h w o a out wr:=by
 unfold Ws at j;split at j
 ·obtain⟨v,e1,hr⟩:=hv.one;cases e1;have mk:∀{ob:Obj} {o':EO},(execOp a.eval o).run P w = .ok (.value (.pointer (some ⟨w.heap.size,0,none⟩))) (w.alloc ob)→iZ (φ.add f ⟨w.heap.size,0,0⟩) (w.alloc ob) B f o'→i5 o'=false→out = .pv (.one (.ptr f 0 0))→wr=some (f,o')→OkX P B R φ h w o a out wr:=λ{ob o'} r T J h1 h2=>by
   subst h1;subst h2;refine i3 r (p.le_add hf _) (p.new hf (l:=⟨w.heap.size,0,0⟩) rfl T J) ?_ J;show den _ (.ptr f 0 0)=_;simp[den,Gx.add_self]
  have one:∀g,0<g→(φ.add f ⟨w.heap.size,0,0⟩).loc f g=none:=λg hg=>by simp only[Gx.add,i?];rw[B' Ω]
  split at j
  ·cases j;refine mk (ob :=.mapIter none 0 #[] 0) (o' :=.mit none 0 [] 0) ?_ ⟨one,⟨w.heap.size,0,0⟩,Gx.add_self _ _ _,p.size,n? w _⟩ rfl rfl rfl;unfold execOp;simp[ho,Eq hr,Instr.range,η hu]
  next m=>
   simp[Q.run]at j;split at j
   next es clock hm=>cases j;obtain⟨l,vs,q1,qo,ev,qB,q3,q4⟩:=wK p hm hr;refine mk (ob :=.mapIter (some l.b) clock #[] clock) (o' :=.mit (some m) clock [] clock) ?_ ⟨one,⟨w.heap.size,0,0⟩,Gx.add_self _ _ _,p.size,l,(p.le_add hf _).loc _ _ _ q1,n? w _⟩ rfl rfl rfl;unfold execOp;simp[ho,ev,Instr.range,η hu,e_ q3]
   ·cases j
  ·cases j
 ·cases j
def DR:∀{es:List ME} {vs:List MapEntry} {b:Nat} {e:ME},denEs φ es vs→M4 b es=some e→∃m,vs.find? (λx=>x.born == b)=some m∧denP φ e.key=some m.key∧denP φ e.val=some m.val
 |[],vs,b,e,_,h=>by cases h
 |x::es,[],b,e,hd,h=>by have:=hd.1;simp at this
 |x::es,m::vs,b,e,hd,h=>by
  obtain⟨r,p,g,l⟩:=nP hd;simp[M4]at h;cases f:Nat.beq x.born b with
  |true =>rw[f]at h;cases h;exact⟨m,by simp[g,ry.1 f],r,p⟩
  |false=>
   rw[f]at h;obtain⟨j,q1,q2⟩:=DR l h;have f:=E_ f;have:(m.born == b)=false:=by rw[g];simpa using f
   exact⟨j,by rw[List.find?_cons,this];exact q1,q2⟩
def Hd:∀{l:List Nat} {b:Nat},abD l=some b→l.getLast? = some b
 |[],_,h=>by cases h
 |[x],b,h=>h
 |x::y::l,b,h=>by have:=Hd (l:=y::l) h;rw[List.getLast?_cons_cons];exact this
def CC (_:Inv B R φ h w){k:Pos}{g:Nat}(p:RT φ (.pv (.one (.ptr k g 0))) v){l:Loc}(r:φ.loc k 0=some l)(j:∀g,0<g→φ.loc k g=none):v = .pointer (some ⟨l.b,0,none⟩):=by
 obtain⟨J,f,C⟩:=iB p;cases g with
 |zero =>rw[r]at f;injection f with f;rw[C,f]
 |succ g=>rw[j _ Ω]at f;cases f
def jB {m:Option Nat}{r f c:Nat}{seen:Array Nat}(g:w.heap[r]? = some (.mapIter m f seen c)):(getObj r).run P w = .ok (.mapIter m f seen c) w:=by simp[getObj,Sem.run,g]
def ahr (hI:Inv B R φ h w)(ho:o.op = .entry x)(hv:RTs φ C [a.eval x])(p:(afA C f).run h=some (out,wr)):OkX P B R φ h w o a out wr:=by
 unfold afA at p;split at p
 ·obtain⟨v,e1,hr⟩:=hv.one;cases e1;have fin:∀{m:Pos} {l lm:Loc} {b j r:Nat} {seen:Array Nat},(afp m b j).run h=some (out,wr)→φ.loc m 0=some lm→a.eval x = .pointer (some ⟨l.b,0,none⟩)→w.heap[l.b]? = some (.mapIter (some lm.b) r seen j)→seen.back? = some b→OkX P B R φ h w o a out wr:=by
   intro m l lm b j r seen p hlm hx hit T;unfold afp at p;simp[Q.run]at p;split at p
   ·rename_i es clock hm;cases hc:Nat.beq clock j with
    |false=>rw[hc]at p;cases p
    |true=>
     rw[hc,I']at p;have hc:=ry.1 hc;subst hc;split at p
     ·rename_i e hf;cases p;have J:=hI.obj m;rw[hm]at J;obtain⟨_,l2,vs,q1,q2,q3,q4⟩:=J;rw[hlm]at q1;cases q1;obtain⟨me,z1,U,z3⟩:=DR q4 hf;have z1':vs.find? (λx=>x.born == b)=some me:=by rw[←Array.find?_toList];exact z1
      refine ay hI (v :=.tuple #[me.key,me.val]) ?_ ⟨_,bI U (bI z3 rfl),rfl⟩;unfold execOp;simp[ho,hx,Instr.entry,jB hit,e_ q3,T,z1']
     ·cases p
   ·cases p
  split at p
  next k g=>
   simp[Q.run]at p;have J:=hI.obj k;split at p
   ·rename_i m r seen j hk;rw[hk]at J;obtain⟨g1,l,q1,q2,lm,q3,q4⟩:=J;split at p
    next b hb=>exact fin p q3 (CC hI hr q1 g1) q4 (by rw[List.back?_toArray];exact Hd hb)
    ·cases p
   next m r bs b c hk=>rw[hk]at J;obtain⟨g1,l,lm,seen,j,n,q1,q2,q3,q4,_,_,_,q8⟩:=J;obtain⟨z1,U⟩:=q8 (b,c) rfl;have U:j=c:=U;subst U;exact fin p q3 (CC hI hr q1 g1) q4 z1
   ·cases p
  ·cases p
 ·cases p
def xD {seen:List Nat}:∀{es:List ME} {vs:List MapEntry},denEs φ es vs→denEs φ (Cd seen es) (vs.filter λe=>!seen.toArray.contains e.born)
 |[],[],_=>⟨rfl,λi e h=>by simp[Cd]at h⟩
 |[],_::_,hd=>by have:=hd.1;simp at this
 |_::_,[],hd=>by have:=hd.1;simp at this
 |e::es,m::vs,hd=>by
  obtain⟨J,C,p,r⟩:=nP hd;have g:=xD (seen:=seen) r;have f:seen.any (Nat.beq e.born)=seen.toArray.contains m.born:=by
   rw[p,alA,List.contains_eq_any_beq];congr 1;funext y;cases l:Nat.beq e.born y with
   |true=>simp[ry.1 l]
   |false=>simp[E_ l]
  simp only[Cd,List.filter_cons];rw[f];cases P:seen.toArray.contains m.born with
  |true=>simpa using g
  |false=>
   simp only[H_,o?,i?];refine⟨by rw[s_,s_,g.1],λi x j=>?_⟩;cases i with
   |zero =>simp at j;subst j;exact⟨m,rfl,J,C,p⟩
   |succ i=>simpa using g.2 i x (by simpa using j)
def aeB (hI:Inv B R φ h w)(ho:o.op = .next x false){t:TV}(hr:RT φ t (a.eval x))(f:GQ h t=some (out,wr)):OkX P B R φ h w o a out wr:=by
 have hex:∀{v w'},(Instr.next (a.eval x) false o.type).run P w = .ok v w'→(execOp a.eval o).run P w = .ok (.value v) w':=λhr=>by unfold execOp;simp[ho,hr]
 have over:RT φ Fq (.tuple #[.bool false]):=⟨[.bool false],rfl,rfl⟩;unfold GQ at f;split at f
 next it g=>
  have J:=hI.obj it;split at f
  next since seen stepped hk=>cases f;rw[hk]at J;obtain⟨g1,l,q1,q2,q3⟩:=J;refine ay hI (hex ?_) over;rw[CC hI hr q1 g1];simp[Instr.next,jB q3]
  next m since seen sp hk=>
   rw[hk]at J;obtain⟨g1,l,q1,q2,lm,q3,q4⟩:=J;split at f
   ·rename_i es clock hm;have hom:=hI.obj m;rw[hm]at hom;obtain⟨_,l2,vs,y1,y2,y3,y4⟩:=hom;rw[q3]at y1;cases y1;have r:=xD (seen:=seen) y4;have hfl:(vs.filter λe=>!seen.toArray.contains e.born).toList=vs.toList.filter λe=>!seen.toArray.contains e.born:=by simp
    rw[←hfl]at r;split at f
    ·rename_i hus;rw[hus]at r;have hnil:(vs.filter λe=>!seen.toArray.contains e.born) = #[]:=by
      apply l?;rw[←Array.length_toList,r.1];rfl
     cases j:(seen.isEmpty||es.isEmpty||es.any (λe=>Nat.blt e.born sp))with
     |false=>rw[j]at f;cases f
     |true=>
      rw[j,I']at f;cases f;have hno:(!seen.toArray.isEmpty && !vs.isEmpty&&vs.all (·.born≥sp))=false:=by
       simp only[ajI]at j;rcases j with(j|j)|j
       ·have:seen=[]:=by simpa using j
        subst this;rfl
       ·have:es=[]:=by simpa using j
        subst this;have:vs = #[]:=by apply l?;rw[←Array.length_toList,y4.1];rfl
        subst this;simp
       ·obtain⟨e,he,U⟩:=List.any_eq_true.1 j;obtain⟨i,T⟩:=Y_ he;obtain⟨p,z1,_,_,z4⟩:=y4.2 i e T;rw[alC];right;rw[Bool.eq_false_iff];intro C;have:=ak0.1 C p (y_.1 (X_ z1));have U:=cx.1 U;simp at this;omega
      refine ay hI (hex ?_) over;rw[CC hI hr q1 g1];simp only[Instr.next,ν,jB q4,χ,e_ y3,hno,hnil];simp[Question.forced]
    ·rename_i e hus;rw[hus]at r;cases j:(Nat.blt e.born since&&Nat.blt e.born sp)with
     |false=>rw[j]at f;cases f
     |true=>
      rw[j,I']at f;cases f;simp[cx]at j;obtain⟨p,z1,z2,z3,z4⟩:=r.2 0 e rfl;have hone:(vs.filter λe=>!seen.toArray.contains e.born) = #[p]:=by
       apply B_;have hl:=r.1;revert z1 hl;generalize (vs.filter λe=>!seen.toArray.contains e.born).toList=L;intro z1 hl;match L,hl with
       |[y],_=>simp at z1;rw[z1]
      have hmem:p∈vs:=by
       have:p∈(vs.filter λe=>!seen.toArray.contains e.born):=by rw[hone];simp
       exact(akx.1 this).1
      have hno:(!seen.toArray.isEmpty && !vs.isEmpty&&vs.all (·.born≥sp))=false:=by rw[alC];right;rw[Bool.eq_false_iff];intro C;have:=ak0.1 C p hmem;simp at this;omega
      have U:p.born<since:=Ω
      refine i3 (hex (v :=.tuple #[.bool true,p.key,p.val]) (w':={ w with heap:=w.heap.setIfInBounds l.b (.mapIter (some lm.b) since (seen.toArray.push p.born) clock) }) ?_) (Gx.le.refl φ) (hI.setO q1 g1 (ob :=.mapIter (some lm.b) since seen.toArray sp) q4 rfl ⟨g1,l,q1,q2,lm,q3, ?_⟩) ⟨_,bI rfl (bI z2 (bI z3 rfl)),rfl⟩
      ·rw[CC hI hr q1 g1];have hset:(setObj l.b (.mapIter (some lm.b) since (seen.toArray.push p.born) clock)).run P w = .ok () { w with heap:=w.heap.setIfInBounds l.b (.mapIter (some lm.b) since (seen.toArray.push p.born) clock) }:=by
        simp[setObj,Sem.run,q4]
       have hge:¬since≤p.born:=Ω
       simp only[Instr.next,ν,jB q4,χ,e_ y3,hno,hone];simp only[ajT]at hset⊢;simp[U,hge,Question.forced,hset]
      ·rw[(ajZ q4).1,z4];simp
    ·cases f
   ·cases f
  ·cases f
 ·cases f
end
