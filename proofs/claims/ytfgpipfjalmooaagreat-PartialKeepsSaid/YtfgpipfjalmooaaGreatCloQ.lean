/- Closed runs. -/
import Derived.Test.YtfgpipfjalmooaaGreatCloI
import Derived.Laws.BytesString
import Derived.Deep.AppendSrc
import Derived.Laws.MakeOwn
import Derived.MapKept
import Derived.Maps.RangeRun
set_option linter.all false
namespace Go.Proofs.YtfgpipfjalmooaaGreat
namespace Clo
open Go Go.RowKit
variable [SymVal]
section
variable {P:Program}{B:Nat}{R:W0}{φ:Gx}{h:Pos→EO}{w:World}{o:Oper}{a:Act}
def Ba (neg:Bool):BinOp:=match neg with|true=>.neq|false=>.eql
def DF (neg b:Bool):Bool:=match neg with|true=>!b|false=>b
def aa0 (r:Inv B R φ h w){neg:Bool}{t p:TypeId}{x y:Operand}(f:o.op = .binOp (Ba neg) t x y p){b:Bool}
  (g:(eqGuard (Ba neg) t x y (a.eval x) (a.eval y)).run P w = .ok () w) (l:∀op,(op = .eql∨op = .neq)→binOp op t (a.eval x) (a.eval y)=(do pure (.bool (DF (match op with|.neq=>true|_=>false) (←Op.equal t (a.eval x) (a.eval y))))))
  (j:(Op.equal t (a.eval x) (a.eval y)).run P w = .ok b w):OkX P B R φ h w o a (.pv (.one (.bl (DF neg b)))) none:=by
 refine ax r ?_ (An _);unfold execOp;cases neg
 ·simp[f,Ba,υ];rw[show(eqGuard .eql t x y (a.eval x) (a.eval y)).run P w = .ok () w from g,l .eql (.inl rfl)];simp[j,DF]
 ·simp[f,Ba,υ];rw[show(eqGuard .neq t x y (a.eval x) (a.eval y)).run P w = .ok () w from g,l .neq (.inr rfl)];simp[j,DF]
variable{v:Value}
def U0 {n:Nat}(h:RT φ (.pv (.one (.glob n))) v):v = .pointer (some ⟨n,0,none⟩):=(q' h).symm
def kP (h:RT φ (.pv (.one .nilp)) v):v = .pointer none:=(q' h).symm
def gi (h:RT φ (.pv (.one .nils)) v):v = .slice none 0 0:=(q' h).symm
def Lk (h:RT φ (.pv (.one .nilm)) v):v = .map none:=(q' h).symm
def EqF (P:Program)(w:World)(neg:Bool)(t:TypeId)(x y:Operand)(g f:Value)(b:Bool):Prop :=
 (eqGuard (Ba neg) t x y g f).run P w = .ok () w∧(∀op,(op = .eql∨op = .neq)→binOp op t g f=(do pure (.bool (DF (match op with|.neq=>true|_=>false) (←Op.equal t g f)))))∧(Op.equal t g f).run P w = .ok b w
section
variable {t e:TypeId}{neg:Bool}{x y:Operand}
def T8 (f:P.underlying t=some (.pointer e))(q:Option Addr):EqF P w neg t x y (.pointer none) (.pointer q) q.isNone:=by
 refine⟨by cases neg <;> simp[eqGuard,Ba],by rintro op (rfl|rfl) <;> simp[binOp,DF], ?_⟩;have:∀d,(Op.equalIn (d+1) t (.pointer none) (.pointer q)).run P w = .ok q.isNone w:=λd=>by simp[Op.equalIn,θ f]
 exact this 9999
def acm (f:P.underlying t=some (.pointer e))(q:Addr):EqF P w neg t x y (.pointer (some q)) (.pointer none) false:=by
 refine⟨by cases neg <;> simp[eqGuard,Ba],by rintro op (rfl|rfl) <;> simp[binOp,DF], ?_⟩;have:∀d,(Op.equalIn (d+1) t (.pointer (some q)) (.pointer none)).run P w = .ok false w:=λd=>by simp[Op.equalIn,θ f]
 exact this 9999
def aiw (l:P.underlying t=some (.pointer e))(g:au P e≠0)(b m n:Nat):EqF P w neg t x y (.pointer (some ⟨b,m,none⟩)) (.pointer (some ⟨b,n,none⟩)) (Nat.beq m n):=by
 refine⟨by cases neg <;> simp[eqGuard,Ba],by rintro op (rfl|rfl) <;> simp[binOp,DF], ?_⟩;have p:((⟨b,m,none⟩:Addr) == ⟨b,n,none⟩)=Nat.beq m n:=by
  by_cases f:m=n
  ·subst f;simp[alv]
  ·have r:Nat.beq m n=false:=by cases j:Nat.beq m n with|false=>rfl|true=>exact absurd (qW.1 j) f
   rw[r];simp[f]
 have:∀d,(Op.equalIn (d+1) t (.pointer (some ⟨b,m,none⟩)) (.pointer (some ⟨b,n,none⟩))).run P w = .ok (Nat.beq m n) w:=λd=>by simp[Op.equalIn,θ l,aH g,g,sameAddr,p]
 exact this 9999
def T7 (f:P.underlying t=some (.slice e))(q:Option Addr)(n c:Nat):EqF P w neg t x y (.slice none 0 0) (.slice q n c) q.isNone:=by
 refine⟨by cases neg <;> simp[eqGuard,Ba],by rintro op (rfl|rfl) <;> simp[binOp,DF], ?_⟩;have:∀d,(Op.equalIn (d+1) t (.slice none 0 0) (.slice q n c)).run P w = .ok q.isNone w:=λd=>by simp[Op.equalIn,θ f]
 exact this 9999
def acn (f:P.underlying t=some (.slice e))(q:Addr)(n c:Nat):EqF P w neg t x y (.slice (some q) n c) (.slice none 0 0) false:=by
 refine⟨by cases neg <;> simp[eqGuard,Ba],by rintro op (rfl|rfl) <;> simp[binOp,DF], ?_⟩;have:∀d,(Op.equalIn (d+1) t (.slice (some q) n c) (.slice none 0 0)).run P w = .ok false w:=λd=>by simp[Op.equalIn,θ f]
 exact this 9999
end
variable{t:TypeId}{q:EqK}{neg b:Bool}{x y:Operand}
def afL {p:Bool}(h:Hl P t p=some q):match q with
 |.flat J agg=>iZ P 20 t=some J∧agg=pn (P.underlying t)∧(agg=true→P.eqGuardType P.depth t=false)
 |.ptr=>∃e,P.underlying t=some (.pointer e)∧au P e≠0
 |.slc=>∃e,P.underlying t=some (.slice e):=by
 unfold Hl at h;split at h
 next e f=>
  split at h
  ·cases h
  next j=>cases h;exact⟨e,f,j⟩
 next e f=>cases h;exact⟨e,f⟩
 next fs f=>
  split at h
  ·cases h
  next l=>
   split at h
   next J g=>cases h;exact⟨g,by rw[f];rfl,λ_=>by simpa using l⟩
   ·cases h
 ·cases h
 next d _ _ hst _ f=>
  split at h
  next J g=>cases h;refine⟨g, ?_,λx=>by cases x⟩;rw[f];cases d <;> first|rfl|exact(hst _ rfl).elim
  ·cases h
 ·cases h
def aco (hni:∀k,P.underlying t≠some (.int k))(hns:P.underlying t≠some .string){J:List CK}{agg:Bool}(R:iZ P 20 t=some J)(r:agg=pn (P.underlying t))(hg:agg=true→P.eqGuardType P.depth t=false){p q:PV}{U T:Value}(h1:aS φ p=some U)(h2:aS φ q=some T)(g:eqP J agg p q=some b):EqF P w neg t x y U T b:=by
 unfold eqP at g;split at g
 next c c'=>
  cases f:agg with
  |true=>rw[f]at g;cases g
  |false=>
   rw[f]at g r;have g:eqL J [c] [c']=some b:=g;have j:=Ej (P:=P) (w:=w) 20 9980 t J R (.one c) (.one c') U T b h1 h2 r r g;have C:P.underlying t=some .bool:=by
    simp[iZ]at R;split at R
    ·assumption
    next k C=>exact absurd C (hni k)
    next C=>exact absurd C hns
    next C=>rw[C]at r;cases r
    ·cases R
   simp only[iZ,C,ι]at R;subst R;cases c <;> cases c' <;> simp[eqL,eqC]at g;have z1:=Jd (φ:=φ) (v:=U) h1;have z2:=Jd (φ:=φ) (v:=T) h2;rw[z1,z2]at j⊢;exact⟨by cases neg <;> simp[eqGuard,Ba],by rintro op (rfl|rfl) <;> simp[binOp,DF],j⟩
 next l m=>
  cases f:agg with
  |false=>rw[f]at g;cases g
  |true =>have hg:=hg f;rw[f]at g r;have g:eqL J l m=some b:=g;have j:=Ej (P:=P) (w:=w) 20 9980 t J R (.agg l) (.agg m) U T b h1 h2 r r g;obtain⟨xs,z1,_⟩:=ye (φ:=φ) (v:=U) h1;obtain⟨ys,z2,_⟩:=ye (φ:=φ) (v:=T) h2;rw[z1,z2]at j⊢;exact⟨by cases neg <;> simp[eqGuard,Ba,h?,hg],by rintro op (rfl|rfl) <;> simp[binOp,DF],j⟩
 ·cases g
def aix (U:∀k,P.underlying t≠some (.int k))(T:P.underlying t≠some .string)(R:Hl P t (isC x||isC y)=some q){a1 a2:TV}{v1 v2:Value}(j:RT φ a1 v1)(f:RT φ a2 v2)(p:eqQ q a1 a2=some b):EqF P w neg t x y v1 v2 b:=by
 have C:=afL R;unfold eqQ at p;split at p
 ·exact aco U T C.1 C.2.1 C.2.2 j f p
 ·obtain⟨e,r,hz⟩:=C;split at p;all_goals first|(cases p;done)|skip
  ·cases p;rw[kP j,kP f];exact T8 r none
  ·cases p;obtain⟨l,_,z⟩:=iw f;rw[kP j,z];exact T8 r (some _)
  ·cases p;obtain⟨l,_,z⟩:=iw j;rw[kP f,z];exact acm r _
  ·cases p;rw[kP j,U0 f];exact T8 r (some _)
  ·cases p;rw[U0 j,kP f];exact acm r _
  next k g o1 k' g' o2=>
   cases J:(k.beq k'&&Nat.beq g g')with
   |false=>rw[J]at p;cases p
   |true =>rw[J,O']at p;simp only[η,Pos.beq_iff,qW]at J;obtain⟨rfl,rfl⟩:=J;cases p;obtain⟨l,l1,z⟩:=iw j;obtain⟨l',l2,z'⟩:=iw f;rw[l1]at l2;cases l2;rw[z,z'];exact aiw r hz _ _ _
 ·obtain⟨e,r⟩:=C;split at p;all_goals first|(cases p;done)|skip
  all_goals (simp at p;subst p)
  ·rw[gi j,gi f];exact T7 r none 0 0
  ·obtain⟨l,_,z⟩:=Jc f;rw[gi j,z];exact T7 r (some _) _ _
  ·obtain⟨l,_,z⟩:=Jc j;rw[gi f,z];exact acn r _ _ _
  ·obtain⟨l,c,z⟩:=Ll f;rw[gi j,z];exact T7 r (some _) _ _
  ·obtain⟨l,c,z⟩:=Ll j;rw[gi f,z];exact acn r _ _ _
 ·cases p
def ahU (hI:Inv B R φ h w){ty:TypeId}(ho:o.op = .binOp (Ba neg) t x y ty)(U:∀k,P.underlying t≠some (.int k))(T:P.underlying t≠some .string)(J:Hl P t (isC x||isC y)=some q){C:List TV}(hv:RTs φ C [a.eval x,a.eval y]){f:Pos}{out:TV}{wr:Option (Pos×EO)}(g:(acw neg q C f).run h=some (out,wr)):OkX P B R φ h w o a out wr:=by
 unfold acw at g;split at g
 ·obtain⟨v1,ws,j,r,p⟩:=hv.cons;obtain⟨v2,e2,l⟩:=p.one;subst e2;simp at j;obtain⟨j,e2⟩:=j;subst j;subst e2;split at g
  next b hb=>rw[zF]at g;cases g;obtain⟨h1,h2,h3⟩:=aix (neg:=neg) U T J r l hb (w:=w);exact aa0 hI ho h1 h2 h3
  ·cases g
 ·cases g
end
variable [SymVal]
def iP {f:Type}{s:Nat}:∀{l:List (List f)},(∀a∈l,a.length=s)→l.flatten.length=l.length*s
 |[],_=>by simp
 |x::l,h=>by rw[L_,N',h x Ψ,iP λa g=>h a (by simp[g]),w_,c?,akn]
def uO {f:Type}{s:Nat}:∀{l:List (List f)},(∀a∈l,a.length=s)→∀{i j:Nat} {a:List f} {c:f},l[i]? = some a→a[j]? = some c→l.flatten[i*s+j]? = some c
 |[],_,i,j,a,c,h,_=>by simp at h
 |x::l,hs,i,j,a,c,h,hj=>by
  have g:=hs x Ψ;cases i with
  |zero =>simp at h;subst h;have:=(f_.1 hj).1;rw[L_,akB,b_,E' this];exact hj
  |succ i=>
   simp at h;have:=uO (λa p=>hs a (by simp[p])) h hj;have e:(i+1)*s+j=x.length+(i*s+j):=by rw[g,c?];omega
   rw[L_,e,c_ Ω,ak7];exact this
def pe {m:Nat}:∀{l:List (List CV)} {el:PT Ch} {i:Nat},i+l.length+2≤2^32→∀j,(sW m l el i).get dch j=if h:i≤j∧j<i+l.length then⟨l[j-i]'Ω,m⟩else el.get dch j
 |[],el,i,_,j=>by rw[alt Ψ];rfl
 |a::l,el,i,hb,j=>by
  simp at hb;simp only[sW];rw[pe (l:=l) (i:=i+1) Ω j,PT.get_set dch _ 32 el i j Ω];by_cases g:i=j
  ·subst g;rw[alt Ω,G' rfl,akA Ψ];simp
  ·rw[Θ g];by_cases f:i+1≤j∧j<i+1+l.length
   ·rw[akA f,akA Ξ];congr 1;have:j-i=(j-(i+1))+1:=Ω
    simp[this]
   ·rw[alt f,alt Ξ]
section
variable {P:Program}{B:Nat}{R:W0}{φ:Gx}{h:Pos→EO}{w:World}{o:Oper}{a:Act}
variable{e t:TypeId}{cl:Call}{x:Operand}{C:List TV}{f:Pos}{out:TV}{wr:Option (Pos×EO)}
def Inv.newR (T:Inv B R φ h w){k:Pos}(hk:h k = .none){s N:Nat}{l:List (List CV)}{vs:List Value}{arr:Array Value}{fr:Nat×Nat}{fz:Fz}(hs:0<s)(hl:∀a∈l,a.length=s)(hd:aU φ l.flatten=some vs)
  (C:∀(j:Nat) (v:Value),vs[j]? = some v→arr[j]? = some v) (hN:arr.size=N*s) (hn:l.length≤N) (hb:l.length+2≤2^32) (P:ajI fr arr.size fz) :
  φ.le (φ.add k ⟨w.heap.size,N,s⟩)∧Inv B R (φ.add k ⟨w.heap.size,N,s⟩) (upd h k (.row e s (sW 0 l .leaf 0) l.length 0 fz)) (w.alloc (.cells arr e fr)):=by
 have r:=T.le_add hk ⟨w.heap.size,N,s⟩;have f:=λj=>pe (m:=0) (l:=l) (el :=.leaf) (i:=0) Ω j;refine⟨r,T.new hk rfl ⟨hs,hb,λi hi=>?_,λg hg=>?_,λg hg=>⟨⟨w.heap.size,N,s⟩, ?_,⟨T.size,rfl,arr,fr,u? w _,hN,P,λi hi _=>⟨by show i<N;omega, ?_⟩⟩,λ_=>hn⟩⟩⟩
 ·rw[f,akA Ω];exact ζ _
 ·simp only[Gx.add,j?];rw[Θ Ω]
 ·obtain rfl:g=0:=Ω
  exact Gx.add_self _ _ _
 ·rw[f,akA Ω];have p:l[i-0]'Ω∈l:=a_ _;refine⟨hl _ p,λj c J=>?_⟩;have J:(l[i-0]'Ω)[j]? = some c:=J;obtain⟨v,U,z2⟩:=nr hd (uO hl (i:=i-0) (ε Ω) J);rw[akR]at U;exact⟨v,C _ _ U,dV r z2⟩
def Inv.rds (U:Inv B R φ h w){k:Pos}{g s:Nat}{l:Loc}(T:φ.loc k g=some l):∀{n f:Nat} {x:List (List CV)},rW (h k) g s n f=some x→x.length=n∧(∀a∈x,a.length=s)∧∃p,aU φ x.flatten=some p∧∀j u,p[j]? = some u→w.cell? ((⟨l.b,f,none⟩:Addr).add j)=some u
 |0,f,x,C=>by cases C;exact⟨rfl,(λ_ q=>by cases q),[],rfl,λj u q=>by simp at q⟩
 |n+1,f,x,C=>by
  simp[rW]at C;split at C
  next a r h1 h2=>
   cases C;obtain⟨p,q1,q2,q3,_⟩:=U.rd h1 T;obtain⟨p1,p2,ws,p3,p4⟩:=U.rds T h2;refine⟨by simp[p1],λb P=>?_,p++ws,ct q1 p3,λj u J=>?_⟩
   ·obtain rfl|P:=J'.1 P
    ·exact q2
    ·exact p2 b P
   ·have hvl:=bf q1;by_cases hj:j<p.length
    ·rw[E' hj]at J;exact q3 j u J
    ·rw[c_ Ω]at J;have:=p4 _ u J;rw[pE]at this⊢;rw[show f+s+(j-p.length)=f+j by omega]at this;exact this
  ·cases C
def aeQ (hI:Inv B R φ h w)(U:o.op = .call cl)(p:cl.callee = .builtin .len)(j:cl.args = #[x])(l:cl.argTypes = #[t])(J:P.underlying t=some .string)(r:RTs φ C [a.eval x])(g:(Kc C f).run h=some (out,wr)):OkX P B R φ h w o a out wr:=by
 unfold Kc at g;split at g
 ·obtain⟨v,e,T⟩:=r.one;cases e;split at g
  next b=>rw[cO]at g;cases g;refine ax hI ?_ (di _ _);unfold execOp;simp[U,resolve,p,j,invoke,builtin,Builtin.len_,l,(pl T).2,rC,θ J,goInt,vJ]
  ·cases g
 ·cases g
def aeS (hI:Inv B R φ h w)(T:o.op = .call cl)(p:cl.callee = .builtin .len)(g:cl.args = #[x])(j:cl.argTypes = #[t])(r:P.underlying t=some (.slice e))(U:RTs φ C [a.eval x])(l:(Kd C f).run h=some (out,wr)):OkX P B R φ h w o a out wr:=by
 unfold Kd at l;split at l
 ·obtain⟨v,e,J⟩:=U.one;cases e;split at l;all_goals first|(cases l;done)|skip
  all_goals (rw[cO]at l;cases l;refine ax hI ?_ (di _ _);unfold execOp)
  ·simp[T,resolve,p,g,invoke,builtin,Builtin.len_,j,gi J,θ r,goInt]
  ·obtain⟨_,_,z⟩:=Ll J;simp[T,resolve,p,g,invoke,builtin,Builtin.len_,j,z,θ r,goInt]
  ·obtain⟨_,_,z⟩:=Jc J;simp[T,resolve,p,g,invoke,builtin,Builtin.len_,j,z,θ r,goInt]
 ·cases l
def aeR (U:Inv B R φ h w){k:TypeId}(ho:o.op = .call cl)(T:cl.callee = .builtin .len)(j:cl.args = #[x])(p:cl.argTypes = #[t])(hu:P.underlying t=some (.map k e))(hv:RTs φ C [a.eval x])(g:(QK C f).run h=some (out,wr)):OkX P B R φ h w o a out wr:=by
 unfold QK at g;split at g
 ·obtain⟨v,e,hr⟩:=hv.one;cases e;split at g;all_goals first|(cases g;done)|skip
  ·rw[cO]at g;cases g;refine ax U ?_ (di _ _);unfold execOp;simp[ho,resolve,T,j,invoke,builtin,Builtin.len_,p,Lk hr,θ hu,goInt]
  next m=>
   simp[Q.run]at g;have r:=U.obj m;split at g
   ·rename_i es cl' hm;rw[cO]at g;cases g;rw[hm]at r;obtain⟨_,l,vs,q1,_,q3,q4,_⟩:=r;obtain⟨l',l2,z⟩:=agQ hr;rw[q1]at l2;cases l2;refine ax U (v :=.int .i64 vs.size) ?_ (by show some (Value.int .i64 (Int.ofNat es.length))=_;rw[←q4,C'];rfl);have J:(getObj l.b).run P w = .ok (.map vs cl') w:=by simp[getObj,Sem.run,q3]
    unfold execOp;simp[ho,resolve,T,j,invoke,builtin,Builtin.len_,p,z,θ hu,goInt,J]
   ·cases g
 ·cases g
def uY:∀{l:List (List CV)} {b:List Nat} {g:List Value},Bq l=some b→aU φ l.flatten=some g→cE b=true∧g=b.map λc=>Value.int .u8 (Int.ofNat c)
 |[],b,g,h,hd=>by cases h;cases hd;exact⟨rfl,rfl⟩
 |x::l,b,g,h,hd=>by
  unfold Bq at h;split at h
  next h0=>cases h0
  next n l' h0=>
   injection h0 with h0 f;subst h0;subst f;cases j:Nat.blt n 256 with
   |false=>rw[j]at h;cases h
   |true=>
    rw[j,O']at h;split at h
    next b' hb'=>cases h;obtain⟨v,ws,rfl,f,p⟩:=bQ hd;obtain⟨q1,q2⟩:=uY hb' p;have f:some (Value.int .u8 (Int.ofNat n))=some v:=f;injection f with f;exact⟨Ph (cw.1 j) q1,by rw[q2,←f];rfl⟩
    ·cases h
  ·cases h
def aeo (b:List Nat)(C:Addr)(c:Nat)(j:(loadCells C b.length).run P w = .ok (b.map λc=>Value.int .u8 (Int.ofNat c)).toArray w):(Conv.bytesToString (.slice (some C) b.length c)).run P w = .ok (rC b) w:=by
 have f:(loadCells C b.length).run P w = .ok ((b.map Int.ofNat).map (Value.int .u8)).toArray w:=by rw[j,U?];rfl
 rw[run_bytesToString (P:=P) w C b.length c (b.map Int.ofNat) f];have l:∀(p:List Nat) (g:ByteArray),(p.map Int.ofNat).foldl (λr n=>r.push (UInt8.ofNat n.toNat)) g=⟨g.data++(p.map UInt8.ofNat).toArray⟩:=by
  intro p;induction p with
  |nil=>intro g;simp
  |cons n p J=>intro g;simp only[X_,List.foldl_cons,J];congr 1;simp[ByteArray.push]
 rw[l];unfold rC;congr 3;simp
def ahW (U:Inv B R φ h w){s:TypeId}(ho:o.op = .convert s t x)(hs:P.underlying s=some (.slice e))(ht:P.underlying t=some .string)(he:P.underlying e=some (.int .u8))(hv:RTs φ C [a.eval x])(j:(afY C f).run h=some (out,wr)):OkX P B R φ h w o a out wr:=by
 unfold afY at j;split at j
 ·obtain⟨v,e1,hr⟩:=hv.one;cases e1;split at j
  ·cases j;refine ax U (v :=.string ⟨#[]⟩) ?_ (yv rfl);unfold execOp;simp[ho,gi hr,convert,θ hs,θ ht,θ he,Conv.bytesToString];rfl
  next k g r n cap=>
   simp[Q.run]at j;split at j
   ·rename_i l hl;split at j
    ·rename_i b hb;cases j;obtain⟨T,l1,z⟩:=Jc hr;obtain⟨q1,_,vs,q3,q4⟩:=U.rds l1 hl;obtain⟨p1,p2⟩:=uY hb q3;have hbl:b.length=n:=by
      have:vs.length=n*1:=by rw[bf q3,iP (s:=1) (λa ha=>(U.rds l1 hl).2.1 a ha),q1]
      rw[p2]at this;simpa using this
     refine ax U ?_ (yv p1);have p:=akr (P:=P) w ⟨T.b,r,none⟩ vs q4;rw[p2]at p;have J:=aeo (P:=P) (w:=w) b ⟨T.b,r,none⟩ (iX cap T.n (r/T.s)) (by simpa using p);rw[hbl]at J;unfold execOp;simp[ho,z,convert,θ hs,θ ht,θ he,J]
    ·cases j
   ·cases j
  ·cases j
 ·cases j
end
variable [SymVal]
def Ew (z:Array Value)(n:Nat)(r:0<z.size):((Array.range (n*z.size)).map (z[· % z.size]!)).toList=(List.replicate n z.toList).flatten:=by
 apply M?;intro p;have f:∀a∈List.replicate n z.toList,a.length=z.size:=λa C=>by rw[ak4 C];simp
 by_cases g:p<n*z.size
 ·have J:p/z.size<n:=Nat.div_lt_of_lt_mul (by rw[akm];exact g);have l:p%z.size<z.size:=Nat.mod_lt _ r;have j:(List.replicate n z.toList).flatten[p/z.size*z.size+p%z.size]? = some z[p%z.size]:=uO f (a:=z.toList) (by rw[al0,G' J]) (by simp[l]);rw[akm,alJ]at j;rw[j];simp[g,l]
 ·rw[y_ Ξ,y_ (by rw[iP f];simp;omega)]
def QR {g:Type}{z:List g}{s:Nat}(f:z.length=s):∀(k n:Nat),k≤n→(List.replicate n z).flatten.drop (k*s)=(List.replicate (n-k) z).flatten
 |0,n,_=>by simp
 |k+1,n+1,h=>by rw[alm,L_,c?,akn,←List.drop_drop,←f,akW,f,QR f k n Ω,show n+1-(k+1)=n-k by omega]
 |k+1,0,h=>Ω
def Ht {f:Gx}{g:List CV}{z:List Value}(h:aU f g=some z):∀n,aU f (List.replicate n g).flatten=some (List.replicate n z).flatten
 |0=>rfl
 |n+1=>by rw[alm,L_,alm,L_];exact ct h (Ht h n)
def nh (f:Nat):∀(g:List Value) (k:Nat) (cells:Array Value),f+k+g.length≤cells.size →
  ((g.zipIdx k).foldl (λp (x:Value×Nat)=>p.setIfInBounds (f+x.2) x.1) cells).toList=cells.toList.take (f+k)++g++cells.toList.drop (f+k+g.length)
 |[],k,cells,_=>by simp
 |v::g,k,cells,h=>by
  simp;simp at h;rw[nh f g (k+1) _ Ξ];have j:f+k<cells.toList.length:=by simp;omega
  simp;rw[show f+(k+1)=f+k+1 by omega,show f+k+1+g.length=f+k+(g.length+1)by omega,List.take_set,List.drop_set_of_lt Ω,
   Z' j,amb _ _ Ξ]
  have l:min (f+k) cells.size=f+k:=Ω
  simp[l]
def jl (off:Nat)(v:Value)(cells:Array Value)(h:off+v.cells.size≤cells.size) :
  (v.cells.zipIdx.foldl (λf (x:Value×Nat)=>f.setIfInBounds (off+x.2) x.1) cells).toList=cells.toList.take off++v.cells.toList++cells.toList.drop (off+v.cells.size):=by
 rw[←Array.foldl_toList,Array.toList_zipIdx];have:=nh off v.cells.toList 0 cells (by simpa using h);simpa using this
def uR (size:Nat):∀(g:List Value) (i:Nat) (f:Array Value),(∀v∈g,v.cells.size=size)→(i+g.length)*size≤f.size →
  ∃j,Instr.fill (λi=>some (i*size,size)) f ((List.range' i g.length).zip g)=some j∧j.toList=f.toList.take (i*size)++(g.map λv=>v.cells.toList).flatten++f.toList.drop ((i+g.length)*size)
 |[],i,f,_,h=>⟨f,by simp[Instr.fill],Ψ⟩
 |v::g,i,f,hv,h=>by
  have r:=hv v Ψ;have hm:i*size+size≤(i+(v::g).length)*size:=by rw[←Nat.succ_mul];exact r_ _ Ψ
  have l:i*size+v.cells.size≤f.size:=by rw[r];omega
  have p:=jl (i*size) v f l;have C:(v.cells.zipIdx.foldl (λP (x:Value×Nat)=>P.setIfInBounds (i*size+x.2) x.1) f).size=f.size:=by rw[←Array.length_toList,p];simp;omega
  have U:(i+1+g.length)*size=(i+(v::g).length)*size:=by congr 1;simp;omega
  obtain⟨j,e1,e2⟩:=uR size g (i+1) (v.cells.zipIdx.foldl (λP (x:Value×Nat)=>P.setIfInBounds (i*size+x.2) x.1) f) (λu hu=>hv u (by simp[hu])) (by rw[C,U];exact h);refine⟨j, ?_, ?_⟩
  ·simp only[w_,Z_,aks,Instr.fill];have J:¬(v.cells.size≠size||i*size+v.cells.size>f.size)=true:=by
    simp[r];omega
   rw[Θ J];exact e1
  ·rw[e2,p];have R:(f.toList.take (i*size)++v.cells.toList).length=(i+1)*size:=by
    simp[r,c?];omega
   have hd:(f.toList.take (i*size)++v.cells.toList++f.toList.drop (i*size+v.cells.size)).drop ((i+1+g.length)*size)=f.toList.drop ((i+(v::g).length)*size):=by have T:(i+1+g.length)*size=(i+1)*size+g.length*size:=Y_ _ _ _;rw[T,←List.drop_drop,←R,akW,P_];congr 1;rw[r,←U,T,c?]
   rw[hd,←R,R?];simp
section
variable {P:Program}{B:Nat}{R:W0}{φ:Gx}{h:Pos→EO}{w:World}{o:Oper}{a:Act}
def Uz:Option Value→Option Nat→Prop
 |none,none=>True
 |some v,some n=>∃k,v = .int k (Int.ofNat n)
 |_,_=>False
def F5 {b:Option Operand}{r g:List TV}{n:Option Nat}{vs:List Value}(f:aaU b.isSome r=some (n,g))(j:RTs φ r (b.toList.map a.eval++vs)):Uz (b.map a.eval) n∧RTs φ g vs:=by
 cases b with
 |none =>cases f;exact⟨apj,j⟩
 |some x=>
  simp[aaU]at f;split at f
  next t r1=>
   split at f
   next k m=>cases f;obtain⟨v,ws,e,p,l⟩:=j.cons;cases e;exact⟨⟨k,dF p⟩,l⟩
   ·cases f
  ·cases f
variable{lo hi:Option Operand}{x:Operand}{C:List TV}{f:Pos}{out:TV}{wr:Option (Pos×EO)}
def Q8 {mx:Option Operand}{r:List TV}{k:Option Nat→Option Nat→Option Nat→Q}{res:TV×Option (Pos×EO)}(f:(adv lo.isSome hi.isSome mx.isSome r k).run h=some res)(p:RTs φ r (lo.toList.map a.eval++(hi.toList.map a.eval++mx.toList.map a.eval))) :
  ∃l m n,(k l m n).run h=some res∧Uz (lo.map a.eval) l∧Uz (hi.map a.eval) m∧Uz (mx.map a.eval) n:=by
 unfold adv at f;split at f
 next l r1 h1=>
  split at f
  next m r2 h2=>
   split at f
   next n h3=>obtain⟨b1,j⟩:=F5 h1 p;obtain⟨b2,g⟩:=F5 h2 j;obtain⟨C,_⟩:=F5 (vs:=[]) h3 (by simpa using g);exact⟨l,m,n,f,b1,b2,C⟩
   ·cases f
  ·cases f
 ·cases f
def Fo (w:World)(f:Bool)(len cap:Nat){lo hi mx:Option Value}{l m n:Option Nat}(j:Uz lo l)(p:Uz hi m)(J:Uz mx n)(c1:gD n cap≤cap)(c2:gD m len≤gD n cap)(C:gD l 0≤gD m len)(c4:Gs m n=true) :
  (Instr.sliceBounds f len cap lo hi mx).run P w = .ok (gD l 0,gD m len,gD n cap) w:=by
 have g:∀(k:IntKind) (x y:Nat) (c:BoundsCode),x≤y→(Instr.sliceBound (.int k (Int.ofNat x)) y c).run P w = .ok x w:=λk x y c U=>by
  have:(x:Int)≤(y:Int):=Ω
  simp[Instr.sliceBound,asIntOf,this]
 cases mx with
 |none=>
  cases n with
  |some n=>exact J.elim
  |none=>
   simp[gD]at c1 c2 C⊢;cases hi with
   |none=>
    cases m with
    |some m=>exact p.elim
    |none=>
     cases lo with
     |none=>
      cases l with
      |some l=>exact j.elim
      |none=>simp[Instr.sliceBounds]
     |some v=>
      cases l with
      |none=>exact j.elim
      |some l =>obtain⟨k,rfl⟩:=j;simp only[Instr.sliceBounds,υ,j_,ο,g k l _ _ C]
   |some T=>
    cases m with
    |none=>exact p.elim
    |some m=>
     obtain⟨r,rfl⟩:=p;cases lo with
     |none=>
      cases l with
      |some l=>exact j.elim
      |none=>simp only[Instr.sliceBounds,υ,j_,ο,g r m _ _ c2]
     |some v=>
      cases l with
      |none=>exact j.elim
      |some l =>obtain⟨k,rfl⟩:=j;simp only[Instr.sliceBounds,υ,j_,ο,g r m _ _ c2,g k l _ _ C]
 |some vm=>
  cases n with
  |none=>exact J.elim
  |some n=>
   obtain⟨R,rfl⟩:=J;simp only[gD]at c1 c2 C⊢;cases hi with
   |none=>
    cases m with
    |some m=>exact p.elim
    |none=>simp[Gs]at c4
   |some T=>
    cases m with
    |none=>exact p.elim
    |some m=>
     obtain⟨r,rfl⟩:=p;cases lo with
     |none=>
      cases l with
      |some l=>exact j.elim
      |none=>simp only[Instr.sliceBounds,υ,j_,ο,g R n _ _ c1,g r m _ _ c2]
     |some v=>
      cases l with
      |none=>exact j.elim
      |some l =>obtain⟨k,rfl⟩:=j;simp only[Instr.sliceBounds,υ,j_,ο,g R n _ _ c1,g r m _ _ c2,g k l _ _ C]
def aeI (hI:Inv B R φ h w){t:TypeId}(ho:o.op = .slice t x lo hi none)(hu:P.underlying t=some .string)(hv:RTs φ C ((x::(lo.toList++hi.toList)).map a.eval))(r:(QI lo.isSome hi.isSome C f).run h=some (out,wr)):OkX P B R φ h w o a out wr:=by
 unfold QI at r;split at r
 ·obtain⟨v1,ws,J,U,T⟩:=hv.cons;simp at J;obtain⟨J,e2⟩:=J;subst J;subst e2;obtain⟨l,m,n,j,b1,b2,b3⟩:=Q8 (mx:=none) r (by simpa using T);cases n with
  |some n=>exact b3.elim
  |none=>
   split at j
   ·rename_i b;cases p:(Nat.ble (gD m b.length) b.length&&Nat.ble (gD l 0) (gD m b.length))with
    |false=>rw[p]at j;cases j
    |true=>
     rw[p,O']at j;simp[br]at p;cases j;obtain⟨q1,q2⟩:=pl U;have hb:=Fo (P:=P) w false b.length b.length b1 b2 b3 (ζ _) p.1 p.2 (by cases m <;> rfl);refine ax hI ?_ (yv (Gd _ (S4 _ q1)));have g:(⟨(b.map UInt8.ofNat).toArray⟩:ByteArray).extract (gD l 0) (gD m b.length)=⟨(((b.take (gD m b.length)).drop (gD l 0)).map UInt8.ofNat).toArray⟩:=by apply alU;simp[al9,List.drop_take,alT]
     unfold execOp;simp only[gD]at hb;simp[ho,q2,rC,Instr.sliceAt,υ,θ hu,Instr.slice,vJ];simp at hb;rw[hb];simp[j_];simp[gD]at g;rw[g];rfl
   ·cases j
 ·cases r
def Inv.rowS (J:Inv B R φ h w){k:Pos}{g:Nat}{l:Loc}{e:TypeId}{s:Nat}{U:PT Ch}{len j:Nat}{fz:Fz}(C:h k = .row e s U len j fz)(f:φ.loc k g=some l):l.s=s:=by
 have p:=J.obj k;rw[C]at p;obtain⟨_,_,_,T,P⟩:=p;obtain x|x:=h_ j g
 ·rw[T g x]at f;cases f
 ·obtain⟨l',q1,⟨_,r,_⟩,_⟩:=P g x;rw[q1]at f;injection f with f;rw[←f];exact r
def I2 {k:Pos}{g off s l hh m:Nat}{f:Loc}(j:φ.loc k g=some f):aS φ (.one (.sl k g (bif Nat.beq l m then off else off+l*s) (hh-l) (some (m-l))))=some (.slice (if m=l then some ⟨f.b,off,none⟩else some ((⟨f.b,off,none⟩:Addr).add (l*s))) (hh-l) (m-l)):=by
 show den φ (.sl k g _ _ _)=_;simp[den,j,iX,Bo];by_cases e:m=l
 ·subst e;simp[alv]
 ·have:Nat.beq l m=false:=by cases p:Nat.beq l m with|false=>rfl|true=>exact absurd (qW.1 p).symm e
  rw[this,H_,Θ e,pE]
def aeJ (hI:Inv B R φ h w){t e:TypeId}{mx:Option Operand}(ho:o.op = .slice t x lo hi mx)(hu:P.underlying t=some (.slice e))(hz:au P e≠0)(hf:h f = .none)(hv:RTs φ C ((x::(lo.toList++hi.toList++mx.toList)).map a.eval))(hq:(VU (au P e) lo.isSome hi.isSome mx.isSome C f).run h=some (out,wr)):OkX P B R φ h w o a out wr:=by
 unfold VU at hq;split at hq
 ·obtain⟨v1,ws,e1,hr1,hr2⟩:=hv.cons;simp at e1;obtain⟨e1,e2⟩:=e1;subst e1;subst e2;obtain⟨l,m,n,j,b1,b2,b3⟩:=Q8 hq (by simpa using hr2);have T:∀(A:Option Addr) (len cap:Nat),a.eval x = .slice A len cap→gD n cap≤cap→gD m len≤gD n cap→gD l 0≤gD m len→Gs m n=true →
    (execOp a.eval o).run P w = .ok (.value (.slice (if gD n cap=gD l 0 then A else A.map (·.add (gD l 0*au P e))) (gD m len-gD l 0) (gD n cap-gD l 0))) w:=λA len cap hx c1 c2 c3 c4=>by
   have hb:=Fo (P:=P) w true len cap b1 b2 b3 c1 c2 c3 c4;unfold execOp;simp[ho,hx,Instr.sliceAt,υ,θ hu,Instr.slice,hb,aH hz,j_]
  unfold agN at j;split at j
  ·cases r:(Nat.beq (gD l 0) 0&&Nat.beq (gD m 0) 0&&Nat.beq (gD n 0) 0&&Gs m n)with
   |false=>rw[r]at j;cases j
   |true =>rw[r,O']at j;simp at r;obtain⟨⟨⟨c1,c2⟩,c3⟩,c4⟩:=r;cases j;have:=T none 0 0 (gi hr1) Ω Ω Ω c4;rw[c1,c2,c3]at this;exact ax hI this rfl
  next k g off len cap=>
   obtain⟨p,hl,z,hcf⟩:=Lj hr1;split at j
   ·rename_i c;cases r:(Nat.ble (gD n c) c&&Nat.ble (gD m len) (gD n c)&&Nat.ble (gD l 0) (gD m len)&&Gs m n)with
    |false=>rw[r]at j;cases j
    |true =>rw[r,O']at j;simp[br]at r;obtain⟨⟨⟨c1,c2⟩,c3⟩,c4⟩:=r;cases j;have:=T _ _ _ z c1 c2 c3 c4;refine ax hI this ?_;have hs:=I2 (s:=au P e) (off:=off) (l:=gD l 0) (hh:=gD m len) (m:=gD n c) hl;simp[iX];exact hs
   ·split at j
    ·rename_i n';split at j
     ·rename_i m';cases r:(Nat.ble n' len&&Nat.ble m' n'&&Nat.ble (gD l 0) m')with
      |false=>rw[r]at j;cases j
      |true =>rw[r,O']at j;simp[br]at r;obtain⟨⟨c1,c2⟩,c3⟩:=r;cases j;have hC:off/p.s+len≤p.n:=br.1 hcf;have:=T _ _ _ z (by simp[gD,iX];omega) (by simp[gD];exact c2) c3 rfl;refine ax hI this ?_;have hs:=I2 (s:=au P e) (off:=off) (l:=gD l 0) (hh:=m') (m:=n') hl;simp[gD]at hs⊢;exact hs
     ·cases j
    ·have hC:off/p.s+len≤p.n:=br.1 hcf;cases r:(Nat.ble (gD m len) len&&Nat.ble (gD l 0) (gD m len))with
     |false=>rw[r]at j;cases j
     |true=>
      rw[r,O']at j;simp[br]at r;obtain⟨c1,c2⟩:=r;have hr:=T _ _ _ z (ζ _) (by simp[gD,iX]at c1⊢;omega) c2 (by cases m <;> rfl);generalize gD l 0=L at *;generalize gD m len=M at *;simp[gD,iX]at hr;cases hb:Nat.beq L 0 with
      |true =>rw[hb,O']at j;have hb:=qW.1 hb;subst hb;cases j;refine ax hI hr ?_;show den φ (.sl k g off M none)=_;simp only[den,hl,iX,Bo];have hx:Nat.ble (off/p.s+M) p.n=true:=br.2 Ω;simp[hx,Addr.add]
      |false=>
       rw[hb,H_]at j;have hb:L≠0:=λe=>by rw[e]at hb;cases hb
       cases J:Nat.blt L len with
       |true=>
        rw[J,O']at j;have J:=cw.1 J;simp[Q.run]at j;split at j
        ·rename_i e' s' el' len' gen' fz' hk';cases U:Nat.beq (au P e) s' with
         |false=>rw[U]at j;cases j
         |true=>
          rw[U,O']at j;have U:=qW.1 U;cases j;have hls:p.s=au P e:=by rw[U];exact hI.rowS hk' hl
          refine ax hI hr ?_;have hdiv:(off+L*au P e)/p.s=off/p.s+L:=by rw[hls,Nat.add_mul_div_right _ _ Ω]
          show den φ (.sl k g (off+L*au P e) (M-L) none)=_;simp only[den,hl,iX,Bo,hdiv];have hx:Nat.ble (off/p.s+L+(M-L)) p.n=true:=br.2 Ω;have hy:¬p.n-off/p.s=L:=Ω
          simp only[hx,j?,Θ hy,pE,Nat.sub_sub]
        ·cases j
       |false=>
        rw[J,H_]at j;have J:¬L<len:=λq=>by rw[cw.2 q]at J;cases J
        simp only[Q.run,ι,I']at j;obtain⟨rfl,rfl⟩:=j;have e0:M-L=0:=Ω
        rw[e0]at hr;have hval:∃A,(execOp a.eval o).run P w = .ok (.value (.slice (some A) 0 (p.n-off/p.s-L))) w:=by
         by_cases hCL:p.n-off/p.s=L
         ·simp only[hCL,j?]at hr⊢;exact⟨_,hr⟩
         ·simp only[hCL,alf]at hr;exact⟨_,hr⟩
        obtain⟨A,hr⟩:=hval;have hle:=hI.le_addV hf (.slice (some A) 0 (p.n-off/p.s-L));exact jX hr hle (hI.newV hf ⟨(hI.free hf).1,A,_,Gx.addV_self _ _ _⟩) (by show den _ (.emp f)=_;simp only[den,Gx.addV_self])
  ·cases j
 ·cases hq
end
variable [SymVal]
def QV {f:Gx}{r new:List CV}{g j:List Value}{off:Nat}(p:aU f r=some g)(l:aU f new=some j):aU f (dc r off new)=some (g.take off++j++g.drop (off+j.length)):=by unfold dc;rw[bf l];exact ct (ct (lJ off p) l) (jo _ p)
section
variable {P:Program}{B:Nat}{R:W0}{φ:Gx}{h:Pos→EO}{w:World}{o:Oper}{a:Act}
def uS {place:Nat→Option (Nat×Nat)}:∀{parts:List (Nat×Operand)} {ps:List (Nat×Nat)} {C:List TV} {r j:List CV} {f:Array Value},parts.map (λp=>place p.1)=ps.map some→Ds ps C r=some j→RTs φ C (parts.map λp=>a.eval p.2)→aU φ r=some f.toList →
  ∃g,Instr.fill place f (parts.map λp=>(p.1,a.eval p.2))=some g∧aU φ j=some g.toList
 |[],[],[],r,j,f,_,hf,_,U=>by cases hf;exact⟨f,rfl,U⟩
 |(i,x)::parts,[],_,_,_,_,hp,_,_,_=>by simp at hp
 |[],_::_,_,_,_,_,hp,_,_,_=>by simp at hp
 |(i,x)::parts,(off,s)::ps,[],r,j,f,hp,hf,hv,U=>by simp[Ds]at hf
 |[],[],_::_,_,_,_,_,hf,_,_=>by simp[Ds]at hf
 |(i,x)::parts,(off,s)::ps,t::C,r,j,f,hp,hf,hv,U=>by
  simp at hp;obtain⟨hp1,hp2⟩:=hp;obtain⟨v,ws,e,hr,hv2⟩:=hv.cons;cases e;cases t with
  |unk=>simp[Ds]at hf
  |tup l=>simp[Ds]at hf
  |pv p=>
   simp[Ds]at hf;cases hc:(Nat.beq p.cells.length s&&Nat.ble (off+s) r.length)with
   |false=>rw[hc]at hf;cases hf
   |true=>
    rw[hc,O']at hf;simp[br]at hc;have T:=cW hr;have J:(a.eval x).cells.size=s:=by rw[←Array.length_toList,bf T,hc.1]
    have hal:f.size=r.length:=by rw[←Array.length_toList,bf U]
    have R:off+(a.eval x).cells.size≤f.size:=by rw[J,hal];exact hc.2
    have hfc:=jl off (a.eval x) f R;have P:=QV (off:=off) U T;rw[C',←hfc]at P;obtain⟨g,q1,q2⟩:=uS hp2 hf hv2 P;refine⟨g, ?_,q2⟩;simp only[X_,Instr.fill,hp1];have hno:¬(((a.eval x).cells.size≠s||off+(a.eval x).cells.size>f.size)=true):=by simp[J];omega
    rw[Θ hno];exact q1
def zV {g:Array Field}:∀{parts:List (Nat×Operand)} {ps:List (Nat×Nat)},zW P g parts=some ps→parts.map (λp=>(g.map λf=>(f.offset,au P f.type))[p.1]?)=ps.map some
 |[],ps,h=>by cases h;rfl
 |(i,x)::parts,ps,h=>by
  simp[zW]at h;split at h
  next f hf=>
   split at h
   next l hl=>cases h;simp only[X_,zV hl,n_,T_];simp[hf]
   ·cases h
  ·cases h
variable{t:TypeId}
def Ae (hI:Inv B R φ h w){parts:Array (Nat×Operand)}(ho:o.op = .build t parts){z:PV}(hz:er P t=some z){ps:List (Nat×Nat)}
  (hp:(∃fs,P.underlying t=some (.struct fs)∧(fs.toList.all λf=>(P.info? f.type).isSome)=true∧zW P fs parts.toList=some ps)∨(∃n e,P.underlying t=some (.array n e)∧au P e≠0∧ps=parts.toList.map λp=>(p.1*au P e,au P e)))
  {C:List TV} (hv:RTs φ C ((parts.toList.map (·.2)).map a.eval)) {f:Pos} {out:TV} {wr:Option (Pos×EO)} (hq:(Ho z.cells ps C f).run h=some (out,wr)):OkX P B R φ h w o a out wr:=by
 unfold Ho at hq;split at hq
 next cs hcs=>
  cases hq;obtain⟨i,v,h1,h2,h3⟩:=gI hz;have hd:=cW (h3 φ);have hv':RTs φ C (parts.toList.map λp=>a.eval p.2):=by rw[U?]at hv;exact hv
  have U:(parts.map λ(i,x)=>(i,a.eval x)).toList=parts.toList.map λp=>(p.1,a.eval p.2):=by simp
  rcases hp with⟨fs,hu,r,hpl⟩|⟨n,e,hu,hse,rfl⟩
  ·obtain⟨T,q1,q2⟩:=uS (place:=λi=>(fs.map λf=>(f.offset,au P f.type))[i]?) (zV hpl) hcs hv' hd;refine ax hI (v :=.agg T) ?_ (by show aS φ (.agg cs)=_;simp[aS,q2]);have hm:∀(l:List Field) (w:World),(∀f∈l,∃j,P.info? f.type=some j)→(l.mapM (λf=>(do pure (f.offset,←sizeOf f.type):Sem (Nat×Nat)))).run P w = .ok (l.map λf=>(f.offset,au P f.type)) w:=by
    intro l;induction l with
    |nil=>intro w _;simp
    |cons f l ih=>
     intro w r;obtain⟨j,hj⟩:=r f Ψ;have h1:(do pure (f.offset,←sizeOf f.type):Sem (Nat×Nat)).run P w = .ok (f.offset,au P f.type) w:=by simp[sizeOf,typeInfo,hj,au]
     rw[akC,υ,h1,ο,υ,ih w (λg hg=>r g (by simp[hg])),ο];rfl
   have hall':∀f∈fs.toList,∃j,P.info? f.type=some j:=λf hf=>Option.isSome_iff_exists.1 (X'.1 r f hf);have J:(fs.mapM λf=>(do pure (f.offset,←sizeOf f.type):Sem (Nat×Nat))).run P w = .ok (fs.map λf=>(f.offset,au P f.type)) w:=by rw[G?,Sem.run_map,hm _ _ hall'];simp[Result.andThen,←Array.toList_map]
   unfold execOp;simp only[ho,Instr.build,zeroValue,typeInfo,υ,h?,h1,h2,j_,ο,θ hu,J,U,q1]
  ·have hpl:parts.toList.map (λp=>(λi=>some (i*au P e,au P e)) p.1)=(parts.toList.map λp=>(p.1*au P e,au P e)).map some:=by simp
   obtain⟨T,q1,q2⟩:=uS (place:=λi=>some (i*au P e,au P e)) hpl hcs hv' hd;refine ax hI (v :=.agg T) ?_ (by show aS φ (.agg cs)=_;simp[aS,q2]);unfold execOp;simp[ho,Instr.build,zeroValue,typeInfo,υ,h?,h1,h2,j_,θ hu,aH hse,U,q1]
 ·cases hq
def ahN (T:Inv B R φ h w){r:Option Operand}(U:o.op = .makeMap t r){k e:TypeId}(hu:P.underlying t=some (.map k e)){f:Pos}(hf:h f = .none){C:List TV}(J:RTs φ C (r.toList.map a.eval)){out:TV}{wr:Option (Pos×EO)}(p:(afU C f).run h=some (out,wr)):OkX P B R φ h w o a out wr:=by
 have j:(execOp a.eval o).run P w = .ok (.value (.map (some w.heap.size))) (w.alloc (.map #[] 0))→OkX P B R φ h w o a (.pv (.one (.mp f))) (some (f,.map [] 0)):=λl=>by refine jX l (T.le_add hf ⟨w.heap.size,0,0⟩) (T.new hf rfl ⟨λg hg=>?_,⟨w.heap.size,0,0⟩, #[],Gx.add_self _ _ _,T.size,u? w _,rfl,λi e he=>by simp at he⟩) (by show den _ (.mp f)=_;simp[den,Gx.add_self]);simp only[Gx.add,j?];rw[Θ Ω]
 unfold afU at p;split at p
 ·cases p;refine j ?_;cases r with
  |none=>unfold execOp;simp[U,Instr.makeMap]
  |some x=>simp[RTs]at J
 ·cases p;refine j ?_;cases r with
  |none=>simp[RTs]at J
  |some x =>have e1:=dF (J:RTs φ _ [a.eval x]).1;unfold execOp;simp[U,Instr.makeMap,θ hu,asInt,asIntOf,e1]
 ·cases p
end
variable [SymVal]
section
variable {P:Program}{B:Nat}{R:W0}{φ:Gx}{h:Pos→EO}{w:World}{o:Oper}{a:Act}
def vD (f:Pos→EO)(k:Pos)(x y:EO):upd (upd f k x) k y=upd f k y:=by funext q;simp[upd];split <;> rfl
def Ie (w:World)(g:Nat)(x y:Array Value):(w.setRow g x).setRow g y=w.setRow g y:=by
 unfold World.setRow;simp[World.mk.injEq];apply Array.ext_getElem?;intro i;simp only[W_];by_cases e:g=i
 ·simp[e];congr 1;funext f;cases f <;> rfl
 ·simp[e]
def Inv.wrs {k:Pos}{g s:Nat}{l:Loc}:∀{x:List CV} {r:List (List CV)} {h:Pos→EO} {w:World} {j:Nat} {o':EO} {f:List Value},Inv B R φ h w→pf g s (x::r) (h k) j=some o'→(∀a∈x::r,a.length=s)→φ.loc k g=some l→aU φ (x::r).flatten=some f →
  ∃p e,w.heap[l.b]? = some (.cells p e (0,0))∧j+f.length≤p.size∧Inv B R φ (upd h k o') (w.setRow l.b (p.toList.take j++f++p.toList.drop (j+f.length)).toArray)
 |x,[],h,w,j,o',f,hI,hr,hs,hl,U=>by
  simp[pf]at hr;split at hr
  next o1 h1=>
   cases hr;have U:aU φ x=some f:=by simpa using U
   exact hI.wr h1 hl U
  ·cases hr
 |x,y::r,h,w,j,o',f,hI,hr,hs,hl,U=>by
  rw[pf]at hr;split at hr
  next o1 h1=>
   rw[L_]at U;have hxs:=hs x Ψ;obtain⟨P,hn1⟩:∃vs,aU φ x=some vs:=by
    have:=lJ x.length U;rw[R?]at this;exact⟨_,this⟩
   obtain⟨T,hn2⟩:∃vs,aU φ (y::r).flatten=some vs:=by have:=jo x.length U;rw[akW]at this;exact⟨_,this⟩
   have J:f=P++T:=by have:=ct hn1 hn2;rw[U]at this;exact q' this
   have hl1:P.length=s:=by rw[bf hn1,hxs]
   obtain⟨p,e,q1,q2,q3⟩:=hI.wr h1 hl hn1;have hk1:(upd h k o1) k=o1:=aY _ _ _;obtain⟨C,e2,p1,p2,p3⟩:=Inv.wrs (h:=upd h k o1) q3 (by rw[hk1];exact hr) (λa ha=>hs a (by simp at ha⊢;exact .inr ha)) hl hn2;rw[ale w l.b p _ e _ q1]at p1;injection p1 with p1;injection p1 with p1 _ _;have hal:C.toList=p.toList.take j++P++p.toList.drop (j+P.length):=by rw[←p1]
   have hlen:C.size=p.size:=by rw[←Array.length_toList,hal];simp;omega
   refine⟨p,e,q1,by rw[J,N'];omega, ?_⟩;rw[vD]at p3;rw[Ie]at p3;have harr:C.toList.take (j+s)++T++C.toList.drop (j+s+T.length)=p.toList.take j++f++p.toList.drop (j+f.length):=by
    have e1:C.toList.take (j+s)=p.toList.take j++P:=by rw[hal,alK];rw[N',p_,C',hl1];omega
    have e2:C.toList.drop (j+s+T.length)=p.toList.drop (j+f.length):=by
     rw[hal,←List.drop_drop,List.drop_left',P_]
     ·congr 1;rw[J,N',hl1];omega
     ·rw[N',p_,C',hl1];omega
    rw[e1,e2,J];simp
   rw[harr]at p3;exact p3
  ·cases hr
def aai (hI:Inv B R φ h w){s:Nat}{str:Bool}{x:TV}{v:Value}{k:List (List CV)→Q}{res:TV×Option (Pos×EO)}(f:(ahp s str x k).run h=some res)(J:RT φ x v){T:TypeId}(C:(str=false∧∃e,P.underlying T=some (.slice e))∨(str=true∧P.underlying T=some .string∧s=1)) :
  ∃l p,(k l).run h=some res∧(∀a∈l,a.length=s)∧aU φ l.flatten=some p∧Go.Src P s T v l.length p w:=by
 unfold ahp at f;split at f
 next j g off n cap=>
  rcases C with⟨rfl,e,r⟩|⟨rfl,_,_⟩
  ·simp[Q.run]at f;split at f
   next l hl=>obtain⟨lc,l1,z⟩:=Jc J;obtain⟨q1,q2,vs,U,q4⟩:=hI.rds l1 hl;refine⟨l,vs,f,q2,U, ?_⟩;rw[z,q1];exact Go.Src.ofSlice w r _ n _ vs (by rw[bf U,iP q2,q1]) q4 (Hu U)
   ·cases f
  ·cases f
 ·rcases C with⟨rfl,e,r⟩|⟨rfl,_,_⟩
  ·refine⟨[],[],f,(λ_ q=>by cases q),rfl, ?_⟩;rw[gi J];exact Go.Src.ofNil w r 0
  ·cases f
 next kk=>
  rcases C with⟨rfl,e,r⟩|⟨rfl,_,_⟩
  ·refine⟨[],[],f,(λ_ q=>by cases q),rfl, ?_⟩;obtain⟨A,c,z⟩:=Ll J;rw[z];exact Go.Src.ofSlice w r A 0 c [] Ψ (λj u q=>by simp at q) (λu q=>by cases q)
  ·cases f
 next b=>
  rcases C with⟨rfl,_⟩|⟨rfl,r,rfl⟩
  ·cases f
  ·obtain⟨h1,z⟩:=pl J;have hd:∀b:List Nat,cE b=true→aU φ (b.map λc=>[CV.int .u8 (Int.ofNat c)]).flatten=some (byteCells ⟨(b.map UInt8.ofNat).toArray⟩):=by
    intro b;induction b with
    |nil=>intro _;rfl
    |cons c b ih=>
     intro hb;obtain⟨b1,b2⟩:=gC hb;have:=ih b2;rw[X_,L_];have e1:byteCells ⟨((c::b).map UInt8.ofNat).toArray⟩=[Value.int .u8 (Int.ofNat c)]++byteCells ⟨(b.map UInt8.ofNat).toArray⟩:=by unfold byteCells;simp;omega
     rw[e1];exact ct rfl this
   refine⟨b.map λc=>[.int .u8 (Int.ofNat c)],_,f,λa ha=>?_,hd b h1, ?_⟩
   ·obtain⟨c,_,rfl⟩:=l_.1 ha;rfl
   ·rw[z,e_];have:=Go.Src.ofString (P:=P) w r ⟨(b.map UInt8.ofNat).toArray⟩;rw[vJ]at this;exact this
 ·cases f
def xC {t R ty e:TypeId}{i:TypeInfo}(U:P.underlying t=some (.slice e))(hi:P.info? e=some i){b off f sCap:Nat}{x:Value}{n:Nat}{g:List Value}(C:Go.Src P i.size R x n g w)(l:f+n≤sCap){j:Array Value}{J:TypeId}(hb:w.heap[b]? = some (.cells j J (0,0)))(r:off+f*i.size+g.length≤j.size) :
  (Builtin.append_ #[t,R] ty #[.slice (some ⟨b,off,none⟩) f sCap,x]).run P w = .ok (.slice (some ⟨b,off,none⟩) (f+n) sCap) (w.setRow b (j.toList.take (off+f*i.size)++g++j.toList.drop (off+f*i.size+g.length)).toArray):=by
 have p:=ak0 P b (off+f*i.size) J g 0 j w hb (by simpa using r) C.one;simp at p;rcases C.kind with⟨J,T⟩|T <;> simp[Builtin.append_,θ U,θ T,sizeOf,typeInfo,hi,C.len,l,C.cells,Addr.add_lit,p]
end
variable [SymVal]
section
variable {P:Program}{B:Nat}{R:W0}{φ:Gx}{h:Pos→EO}{w:World}{o:Oper}{a:Act}
variable{cl:Call}{k:Pos}{e:TypeId}{l:List (List CV)}{news:List Value}
def e9 {s x:Operand}{t r:TypeId}(C:o.op = .call cl)(l:cl.callee = .builtin .append)(f:cl.args = #[s,x])(j:cl.argTypes = #[t,r]){v:Value}{p:World}(g:(Builtin.append_ #[t,r] o.type #[a.eval s,a.eval x]).run P w = .ok v p) :
  (execOp a.eval o).run P w = .ok (.value v) p:=by
 unfold execOp;simp[C,resolve,l,f,j,invoke,builtin,g]
def Eu (z:Array Value)(n:Nat):(Builtin.zeroCells z n).size=n*z.size:=by simp[Builtin.zeroCells]
def Gx.turn (φ:Gx)(k:Pos)(g:Nat)(l:Loc):Gx:=⟨λq m=>if q=k∧m=g then some l else φ.loc q m,φ.val,φ.mu⟩
def Gx.turn_self (φ:Gx)(k:Pos)(g:Nat)(l:Loc):(φ.turn k g l).loc k g=some l:=by simp[Gx.turn]
def Gx.turn_ne (φ:Gx){g m:Nat}(l:Loc)(f:m≠g):(φ.turn k g l).loc k m=φ.loc k m:=by simp[Gx.turn,f]
def Inv.turnUp (hI:Inv B R φ h w){s:Nat}{el:PT Ch}{len g n:Nat}(hrow:h k = .row e s el len g .no){lc:Loc}(hl:φ.loc k g=some lc)(hn:n≤len)(hb:n+l.length≤4294967290)
  (hall:∀a∈l,a.length=s) (hd:aU φ l.flatten=some news) {w':World} {l':Loc} {r:Array Value} (hls:l'.s=s) (hB:B≤l'.b) (harr':w'.heap[l'.b]? = some (.cells r e (0,0))) (hsz:r.size=l'.n*s) (hN:n+l.length≤l'.n)
  (hold:∀j,j<n*s→∀arr e fr,w.heap[lc.b]? = some (.cells arr e fr)→r[j]? = arr[j]?) (hnew:∀(j:Nat) (u:Value),news[j]? = some u→r[n*s+j]? = some u)
  (P:l'.b=lc.b∨w.heap.size≤l'.b) (hsame:l'.b=lc.b→∀arr e fr,w.heap[lc.b]? = some (.cells arr e fr)→r.size=arr.size)
  (hw:∀b,b<w.heap.size→b≠l'.b→w'.heap[b]? = w.heap[b]?) (hos:w'.os=w.os) (htp:w'.tape=w.tape) (hou:w'.output=w.output) (hws:w.heap.size≤w'.heap.size) (hdr:dz w≤dz w') :
  φ.le (φ.turn k (g+1) l')∧Inv B R (φ.turn k (g+1) l') (upd h k (.row e s (sW (g+1) l el n) (n+l.length) (g+1) .no)) w':=by
 have hob:=hI.obj k;rw[hrow]at hob;obtain⟨h0,h1,hmm,h2,h3⟩:=hob;have hle:φ.le (φ.turn k (g+1) l'):=⟨λq m x J=>by
  by_cases e:q=k∧m=g+1
  ·obtain⟨rfl,rfl⟩:=e;rw[h2 _ Ω]at J;cases J
  ·simp[Gx.turn,Θ e];exact J,λ_ _ hv=>hv,λ_ _ hv=>hv⟩
 have U:=λj=>pe (m:=g+1) (l:=l) (el:=el) (i:=n) Ω j;have hin:∀{i j:Nat},i<n→j<s→i*s+j<n*s:=λ{i j} hi hj=>by have h5:(i+1)*s≤n*s:=r_ s hi;have h6:(i+1)*s=i*s+s:=c? _ _;omega
 refine⟨hle,hI.turn hle (λq hq=>⟨λm=>by simp[Gx.turn,hq],rfl,rfl⟩) (λm x J=>?_) (λb hb hne=>hw b hb λeb=>?_) (λm x J ob hb hst=>?_) hos htp hou hws hdr ⟨h0,Ω,λi hi=>?_,λm hm=>?_,λm hm=>?_⟩⟩
 ·by_cases em:m=g+1
  ·subst em;rw[Gx.turn_self]at J;cases J;obtain q|q:=P
   ·exact .inl ⟨g,lc,hl,q.symm⟩
   ·exact .inr q
  ·rw[Gx.turn_ne _ _ em]at J;exact .inl ⟨m,x,J,rfl⟩
 ·obtain q|q:=P
  ·exact hne g lc hl (by rw[←q];exact eb.symm)
  ·omega
 ·obtain hgt|hle':=h_ g m
  ·rw[h2 m hgt]at J;cases J
  ·obtain⟨l2,y1,⟨y2,y3,p,T,y4,_⟩,_⟩:=h3 m hle';rw[y1]at J;cases J;rw[y4]at hb;cases hb;cases hst
 ·rw[U];split
  ·exact ζ _
  ·have:=hmm i Ω;omega
 ·rw[Gx.turn_ne _ _ Ω];exact h2 m Ω
 ·by_cases em:m=g+1
  ·subst em;refine⟨l',Gx.turn_self _ _ _ _,⟨hB,hls,r,(0,0),harr',hsz,rfl,λi hi _=>⟨Ω, ?_⟩⟩,λ_=>hN⟩;rw[U];by_cases C:n≤i∧i<n+l.length
   ·rw[akA C];have hmem:l[i-n]'Ω∈l:=a_ _;refine⟨hall _ hmem,λj c hj=>?_⟩;have hj:(l[i-n]'Ω)[j]? = some c:=hj;obtain⟨v,z1,z2⟩:=nr hd (uO hall (i:=i-n) (ε Ω) hj);refine⟨v, ?_,dV hle z2⟩;have:=hnew _ _ z1;rw[←Nat.add_assoc,←Nat.add_mul,show n+(i-n)=i by omega]at this;exact this
   ·rw[alt C];obtain⟨l2,y1,⟨y2,y3,p,T,y4,y5,y6,y7⟩,y8⟩:=h3 g (ζ _);rw[hl]at y1;cases y1;obtain⟨x1,x2,x3⟩:=y7 i Ω (hmm i Ω);refine⟨x2,λj c hj=>?_⟩;obtain⟨v,z1,z2⟩:=x3 j c hj;have hjs:=(f_.1 hj).1;refine⟨v, ?_,dV hle z2⟩;rw[hold _ (hin Ω Ω) p e T y4];exact z1
  ·obtain⟨l2,y1,⟨y2,y3,p,T,y4,y5,y6,y7⟩,y8⟩:=h3 m Ω;refine⟨l2,by rw[Gx.turn_ne _ _ em];exact y1, ?_,λJ=>absurd J em⟩;have hlt:=hI.lt y1;by_cases hbb:l2.b=l'.b
   ·have hlc:l'.b=lc.b:=by
     obtain q|q:=P
     ·exact q
     ·omega
    have y4':w.heap[lc.b]? = some (.cells p e T):=by rw[←hlc,←hbb];exact y4
    refine⟨y2,y3,r,(0,0),by rw[hbb];exact harr',by rw[hsame hlc p e T y4'];exact y5,rfl,λi hi f=>?_⟩;rw[U]at f⊢;by_cases C:n≤i∧i<n+l.length
    ·rw[akA C]at f;simp only at f;omega
    ·rw[alt C]at f⊢;obtain⟨x1,x2,x3⟩:=y7 i Ω f;refine⟨x1,x2,λj c hj=>?_⟩;obtain⟨v,z1,z2⟩:=x3 j c hj;have hjs:=(f_.1 hj).1;refine⟨v, ?_,dV hle z2⟩;rw[hold _ (hin Ω Ω) p e T y4'];exact z1
   ·refine⟨y2,y3,p,T,by rw[hw _ hlt hbb];exact y4,y5,y6,λi hi f=>?_⟩;rw[U]at f⊢;by_cases C:n≤i∧i<n+l.length
    ·rw[akA C]at f;simp only at f;omega
    ·rw[alt C]at f⊢;obtain⟨x1,x2⟩:=y7 i Ω f;exact⟨x1,x2.mono hle⟩
def Cm {n bytes:Nat}(h:n*bytes≤140737488355328){old:Nat}(f:old<n):Builtin.nextslicecap n old*bytes≤281474976710656:=alQ f h
def Inv.drw (f:Inv B R φ h w):Inv B R φ h w.drew:=f.drew
def Wq (hI:Inv B R φ h w){f:Pos}(hf:h f = .none){z:PV}(hz:er P e=some z)(J:z.cells.length=au P e)(hs0:au P e≠0){old:List (List CV)}{olds:List Value}{N:Nat}(p:∀a∈old,a.length=au P e)(hl:∀a∈l,a.length=au P e)(hd1:aU φ old.flatten=some olds)(U:aU φ l.flatten=some news)
  (hb:old.length+l.length≤4294967290) (hN:old.length+l.length≤N) :
  ∃i v,P.info? e=some i∧i.zero=some v∧i.size=au P e∧i.bytes=xl P e ∧
   φ.le (φ.add f ⟨w.heap.size,N,au P e⟩)∧Inv B R (φ.add f ⟨w.heap.size,N,au P e⟩) (upd h f (newRow e (au P e) (old++l) (old.length+l.length))) (w.drew.alloc (.cells ((olds++news).toArray++Builtin.zeroCells v.cells (N-(old.length+l.length))) e)) ∧
   RT (φ.add f ⟨w.heap.size,N,au P e⟩) (.pv (.one (.sl f 0 0 (old.length+l.length) none))) (.slice (some ⟨w.heap.size,0,none⟩) (old.length+l.length) N):=by
 obtain⟨i,v,h1,h2,h3⟩:=gI hz;have T:v.cells.size=au P e:=by rw[←Array.length_toList,bf (cW (h3 φ)),J]
 have g:∀a∈old++l,a.length=au P e:=λa ha=>by
  obtain q|q:=χ.1 ha
  ·exact p a q
  ·exact hl a q
 have C:aU φ (old++l).flatten=some (olds++news):=by rw[akO];exact ct hd1 U
 have r:(olds++news).length=(old.length+l.length)*au P e:=by rw[bf C,iP g,N']
 obtain⟨q1,q2⟩:=hI.drw.newR hf (e:=e) (s:=au P e) (N:=N) (l:=old++l) (vs:=olds++news) (arr:=(olds++news).toArray++Builtin.zeroCells v.cells (N-(old.length+l.length))) (fr:=(0,0)) (fz :=.no) Ω g C
  (λj u hu=>by
   have hj:=(f_.1 hu).1;rw[g? (by simpa using hj)];simpa using hu) (by
   rw[Array.size_append,Eu,T,e?,r,←Nat.add_mul];congr 1;omega) (by rw[N'];exact hN) (by rw[N'];omega) rfl
 rw[N']at q2;refine⟨i,v,h1,h2,by simp[au,h1],by simp[xl,h1],q1,q2, ?_⟩;show den _ (.sl f 0 0 _ none)=_;have hc:Bo none (old.length+l.length) N 0=true:=by simp only[Bo,b_];exact br.2 hN
 simp[den,Gx.add_self,hc,iX]
def aa1 (hI:Inv B R φ h w){s x:Operand}{t tx:TypeId}{str:Bool}(ho:o.op = .call cl)(hcl:cl.callee = .builtin .append)(J:cl.args = #[s,x])(hty:cl.argTypes = #[t,tx])(hu:P.underlying t=some (.slice e)){z:PV}(hz:er P e=some z)(hzs:z.cells.length=au P e)(hs0:au P e≠0)
  (ht:(str=false∧∃e,P.underlying tx=some (.slice e))∨(str=true∧P.underlying tx=some .string∧au P e=1)) {f:Pos} (hf:h f = .none) {C:List TV} (hv:RTs φ C [a.eval s,a.eval x]) {out:TV} {wr:Option (Pos×EO)} (hq:(afZ e (au P e) (xl P e) str C f).run h=some (out,wr)):OkX P B R φ h w o a out wr:=by
 obtain⟨i,zv,hi,hiz,_⟩:=gI hz;have his:i.size=au P e:=by simp[au,hi]
 have hib:i.bytes=xl P e:=by simp[xl,hi]
 unfold afZ at hq;split at hq
 ·obtain⟨v1,ws,e1,hr1,hr2⟩:=hv.cons;obtain⟨v2,e2,hr3⟩:=hr2.one;subst e2;simp at e1;obtain⟨e1,e2⟩:=e1;subst e1;subst e2;obtain⟨l,news,p,hall,hd,hsrc⟩:=aai hI hq hr3 ht;have r:Go.Src P i.size tx (a.eval x) l.length news w:=by rw[his];exact hsrc
  unfold ajD at p;split at p
  ·
   have ev:=gi hr1;split at p
   ·cases p;refine ax hI (v :=.slice none 0 0) (e9 ho hcl J hty ?_) rfl;rw[ev];have hnn:news=[]:=Q' (by rw[hsrc.newsLen];simp);subst hnn;have g1:=r.len;have g2:=r.cells;simp at g1 g2;rcases r.kind with⟨e',p⟩|p <;> simp[Builtin.append_,θ hu,θ p,sizeOf,typeInfo,hi,g1,g2]
   ·rename_i hne;cases hc:(Nat.ble (l.length*xl P e) 140737488355328&&kO (au P e) l&&Nat.ble l.length 4294967290)with
    |false=>rw[hc]at p;cases p
    |true=>
     rw[hc,O']at p;simp[br]at hc;obtain⟨⟨c1,c2⟩,c3⟩:=hc;cases p;have hpos:0<l.length:=by
      cases l with
      |nil=>exact absurd rfl hne
      |cons _ _=>simp
     have hcap:=grownCap_ge w l.length 0 e;obtain⟨i',v',y1,y2,y3,y4,y5,y6,y7⟩:=Wq (P:=P) hI hf hz hzs hs0 (old:=[]) (l:=l) (olds:=[]) (news:=news) (N:=grownCap w l.length 0 e) (λ_ q=>by cases q) hall rfl hd (by simpa using c3) (by simpa using hcap);simp at y6 y7;refine jX (e9 ho hcl J hty ?_) y5 y6 y7;rw[ev];have:=run_append_grow_src (P:=P) w t tx o.type e i' v' hu y1 y2 none 0 0 [] (run_firstCells_none w.drew i'.size 0 0 0) (a.eval x) l.length news (by rw[y3];exact hsrc) Ω Ω (by rw[y4];simpa using Cm c1 (old:=0) hpos);simpa using this
  next k g off n cap=>
   obtain⟨T,hl,ev,hcf⟩:=Lj hr1;split at p
   ·have hroom:n≤iX cap T.n (off/T.s)∧out = .pv (.one (.sl k g off n cap))∧wr=none:=by
     cases cap with
     |some c=>
      simp only at p;cases hc:Nat.ble n c with
      |false=>rw[hc]at p;cases p
      |true =>rw[hc,O']at p;simp[Q.run]at p;exact⟨br.1 hc,p.1.symm,p.2.symm⟩
     |none =>simp[Q.run]at p;refine⟨?_,p.1.symm,p.2.symm⟩;have:=br.1 hcf;simp[iX];omega
    obtain⟨hroom,rfl,rfl⟩:=hroom;refine ax hI (e9 ho hcl J hty ?_) hr1;rw[ev];have hnn:news=[]:=Q' (by rw[hsrc.newsLen];simp);subst hnn;have g1:=r.len;have g2:=r.cells;simp at g1 g2;rcases r.kind with⟨e',p⟩|p <;> simp[Builtin.append_,θ hu,θ p,sizeOf,typeInfo,hi,g1,g2,hroom,storeCells]
   ·rename_i hne;have hpos:0<l.length:=by
     cases l with
     |nil=>exact absurd rfl hne
     |cons _ _=>simp
    simp[Q.run]at p;have inplace:∀o',pf g (au P e) l (h k) (off+n*au P e)=some o'→n+l.length≤iX cap T.n (off/T.s)→RT φ (.pv (.one (.sl k g off (n+l.length) cap))) (.slice (some ⟨T.b,off,none⟩) (n+l.length) (iX cap T.n (off/T.s)))→OkX P B R φ h w o a (.pv (.one (.sl k g off (n+l.length) cap))) (some (k,o')):=λo' hw hroom hrt=>by
     cases l with
     |nil=>exact absurd rfl hne
     |cons x0 r0 =>obtain⟨U,e',z1,z2,z3⟩:=hI.wrs hw hall hl hd;refine jX (e9 ho hcl J hty ?_) (Gx.le.refl φ) z3 hrt (yW hw);rw[ev];have:=xC (P:=P) (ty:=o.type) hu hi r hroom z1 (by rw[his];exact z2);rw[his]at this;exact this
    split at p
    ·rename_i c;cases hc:Nat.ble (n+l.length) c with
     |true=>
      rw[hc,O']at p;split at p
      next o' hw=>cases p;refine inplace o' hw (br.1 hc) ?_;show den φ (.sl k g off _ (some c))=_;simp[den,hl,Bo]
      ·cases p
     |false=>
      rw[hc,H_]at p;have hc:c<n+l.length:=by
       rcases h_ c (n+l.length)with q|q
       ·exact q
       ·rw[br.2 q]at hc;cases hc
      split at p
      ·rename_i old hold;cases hc2:(Nat.ble ((n+l.length)*xl P e) 140737488355328&&kO (au P e) old&&kO (au P e) l&&Nat.ble (n+l.length) 4294967290)with
       |false=>rw[hc2]at p;cases p
       |true=>
        rw[hc2,O']at p;simp[br]at hc2;obtain⟨⟨⟨c1,_⟩,_⟩,c4⟩:=hc2;cases p;obtain⟨q1,q2,olds,q3,q4⟩:=hI.rds hl hold;have hcap:=grownCap_ge w (n+l.length) c e;obtain⟨i',v',y1,y2,y3,y4,y5,y6,y7⟩:=Wq (P:=P) hI hf hz hzs hs0 (old:=old) (l:=l) (olds:=olds) (news:=news) (N:=grownCap w (n+l.length) c e) q2 hall q3 hd Ω Ω;rw[q1]at y6 y7;refine jX (e9 ho hcl J hty ?_) y5 y6 y7;rw[ev];have hol:olds.length=n*i'.size:=by rw[bf q3,iP q2,q1,y3]
        exact run_append_grow_src (P:=P) w t tx o.type e i' v' hu y1 y2 (some ⟨T.b,off,none⟩) n c olds (run_firstCells_some w.drew i'.size n _ n c olds hol (by simpa using q4)) (a.eval x) l.length news (by rw[y3];exact hsrc) hc Ω (by rw[y4];exact Cm c1 hc)
      ·cases p
    ·split at p
     ·rename_i e' s' el len gen fz hrow;cases hc:(Nat.beq e e'&&Nat.beq (au P e) s'&&Nat.beq g gen&&Nat.beq (off%au P e) 0&&kO (au P e) l&&Nat.ble ((n+l.length)*xl P e) 140737488355328&&Nat.ble (n+l.length) 4294967290&&Qo fz)with
      |false=>rw[hc]at p;cases p
      |true=>
       rw[hc,O']at p;simp[br]at hc;obtain⟨⟨⟨⟨⟨⟨⟨rfl,rfl⟩,rfl⟩,c4⟩,c5⟩,c6⟩,c7⟩,c8⟩:=hc;have c8:fz = .no:=by cases fz <;> first|rfl|cases c8
       subst c8;have hls:=hI.rowS hrow hl;have hob:=hI.obj k;rw[hrow]at hob;obtain⟨g0,g1,gm,g2,g3⟩:=hob;obtain⟨lc',m1,⟨m2,m3,U,fr,m4,m5,m6,m7⟩,m8⟩:=g3 g (ζ _);rw[hl]at m1;cases m1;have m6:fr=(0,0):=m6;subst m6;have hC:=br.1 hcf;have hn8:=m8 rfl;cases hfit:Nat.ble (off/au P e+n+l.length) len with
       |true=>
        rw[hfit,O']at p;have hfit:=br.1 hfit;split at p
        next o' hw=>cases p;rw[hls]at hC;refine inplace o' hw (by simp[iX];rw[hls];omega) ?_;show den φ (.sl k g off _ none)=_;have hx:Nat.ble (off/T.s+(n+l.length)) T.n=true:=br.2 (by rw[hls];omega);simp[den,hl,Bo,hx]
        ·cases p
       |false=>
        rw[hfit,H_]at p;cases hc9:(Nat.beq off 0&&Nat.ble n len)with
        |false=>rw[hc9]at p;cases p
        |true=>
         rw[hc9,O']at p;simp[br]at hc9;obtain⟨rfl,c9⟩:=hc9;cases p;have hgt:len<n+l.length:=by
          rcases h_ len (n+l.length)with q|q
          ·exact q
          ·rw[alu,b_,br.2 q]at hfit;cases hfit
         rw[alu]at ev;have hns:n*au P e≤U.size:=by rw[m5];exact r_ _ Ω
         have hnl:news.length=l.length*au P e:=by rw[bf hd,iP hall]
         rcases h_ T.n (n+l.length)with hg|hg
         ·
          have hcap:=grownCap_ge w (n+l.length) T.n e;have hvs:zv.cells.size=au P e:=by obtain⟨i',v',w1,w2,w3⟩:=gI hz;rw[hi]at w1;cases w1;rw[hiz]at w2;cases w2;rw[←Array.length_toList,bf (cW (w3 φ)),hzs]
          have hol:(U.toList.take (n*au P e)).length=n*au P e:=by rw[p_,C'];omega
          obtain⟨q1,q2⟩:=Inv.turnUp (l:=l) (news:=news) (w':=w.drew.alloc (.cells ((U.toList.take (n*au P e)++news).toArray++Builtin.zeroCells zv.cells (grownCap w (n+l.length) T.n e-(n+l.length))) e)) (l':=⟨w.heap.size,grownCap w (n+l.length) T.n e,au P e⟩) hI hrow hl c9 c7 hall hd rfl hI.size (u? w.drew _)
           (by rw[Array.size_append,Eu,hvs,e?,N',hol,hnl,←Nat.add_mul,←Nat.add_mul];congr 1;show _=grownCap w (n+l.length) T.n e;omega) (by show n+l.length≤grownCap w (n+l.length) T.n e;omega)
           (λj hj arr2 e2 fr2 hh=>by
            rw[m4]at hh;injection hh with hh;injection hh with hh _ _;subst hh;rw[g? Ξ,abs,E' Ω,Y',G' hj,o_])
           (λj u hj=>by
            have:=(f_.1 hj).1;rw[g? Ξ,abs,c_ Ω,hol,ak7];exact hj)
           (.inr (ζ _)) (λhh=>by have:=hI.lt hl;simp only at hh;omega) (λb hb _=>@heap_alloc_old w.drew _ b hb) rfl rfl rfl (by show w.heap.size≤(w.heap.push _).size;simp) ((by first|exact alh _|exact k_ _))
          refine jX (v :=.slice (some ⟨w.heap.size,0,none⟩) (n+l.length) (grownCap w (n+l.length) T.n e)) (e9 ho hcl J hty ?_) q1 q2 ?_
          ·rw[ev];have:=run_append_grow_src (P:=P) w t tx o.type e i zv hu hi hiz (some ⟨T.b,0,none⟩) n T.n (U.toList.take (n*au P e)) (run_firstCells_some w.drew i.size n _ n T.n _ (by rw[his];exact hol) (λj u hj=>by
            have hjl:=(f_.1 hj).1;rw[pE,b_];rw[alg w.drew T.b j U e (0,0) m4];rw[Y',G' Ω,o_]at hj;exact hj)) (a.eval x) l.length news r hg Ω (by rw[hib];exact Cm c6 hg)
           simpa[iX]using this
          ·show den _ (.sl k (g+1) 0 _ none)=_;have hx:Nat.ble (0+(n+l.length)) (grownCap w (n+l.length) T.n e)=true:=br.2 Ω;simp only[den,Gx.turn_self,alu,Bo,hx,j?,iX,akR]
         ·
          have hfit2:n*au P e+news.length≤U.size:=by rw[m5,hnl,←Nat.add_mul];exact r_ _ hg
          have hsz2:(U.toList.take (n*au P e)++news++U.toList.drop (n*au P e+news.length)).toArray.size=U.size:=by simp;omega
          obtain⟨q1,q2⟩:=Inv.turnUp (l:=l) (news:=news) (w':=w.setRow T.b (U.toList.take (n*au P e)++news++U.toList.drop (n*au P e+news.length)).toArray) (l':=T) hI hrow hl c9 c7 hall hd hls m2 (ale w T.b U _ e _ m4)
           (by rw[hsz2];exact m5) hg
           (λj hj arr2 e2 fr2 hh=>by
            rw[m4]at hh;injection hh with hh;injection hh with hh _ _;subst hh;rw[za hfit2,Θ Ω])
           (λj u hj=>by
            have:=(f_.1 hj).1;rw[za hfit2,G' Ω,ak7];exact hj)
           (.inl rfl) (λ_ arr2 e2 fr2 hh=>by
            rw[m4]at hh;injection hh with hh;injection hh with hh _ _;subst hh;exact hsz2) (λb hb hne=>akP w T.b b _ hne) rfl rfl rfl (by simp[World.setRow]) (ζ _)
          refine jX (v :=.slice (some ⟨T.b,0,none⟩) (n+l.length) (iX none T.n 0)) (e9 ho hcl J hty ?_) q1 q2 ?_
          ·rw[ev];have:=xC (P:=P) (ty:=o.type) (sCap:=iX none T.n 0) hu hi r (by simpa[iX]using hg) (off:=0) m4 (by rw[his,b_];exact hfit2);rw[his,b_]at this;exact this
          ·show den _ (.sl k (g+1) 0 _ none)=_;have hx:Nat.ble (0+(n+l.length)) T.n=true:=br.2 Ω;simp only[den,Gx.turn_self,alu,Bo,hx,j?]
     ·cases p
  ·cases p
 ·cases hq
end
variable [SymVal]
section
variable {P:Program}{B:Nat}{R:W0}{φ:Gx}{h:Pos→EO}{w:World}{o:Oper}{a:Act}
variable{J:List CK}{agg:Bool}{p q:PV}{t T:TypeId}{v:Value}{r:Option (Nat×ME)}{es:List ME}{vs:List MapEntry}{i:Nat}{e:ME}{m:MapEntry}{l:Loc}
def Ek {r:Bool}(h:eqP J agg p q=some r):p.isAgg=agg∧q.isAgg=agg∧eqL J p.cells q.cells=some r:=by
 unfold eqP at h;split at h
 ·cases agg with
  |true=>cases h
  |false=>exact⟨rfl,rfl,h⟩
 ·cases agg with
  |true=>exact⟨rfl,rfl,h⟩
  |false=>cases h
 ·cases h
def Tx (R:iZ P 20 t=some J)(j:agg=pn (P.underlying t)){g f:Value}{r:Bool}(C:aS φ p=some g)(l:aS φ q=some f)(T:eqP J agg p q=some r):(Op.equal t g f).run P w = .ok r w:=by obtain⟨h1,h2,U⟩:=Ek T;exact Ej (P:=P) (w:=w) 20 9980 t J R p q g f r C l (h1.trans j) (h2.trans j) U
def QC:∀{J:List CK} {l m:List CV},eqL J l m=some true→l=m
 |[],[],[],_=>rfl
 |k::J,a::l,b::m,h=>by
  simp[eqL]at h;split at h
  next x y h1 h2=>
   simp only[ι]at h;cases x with
   |false=>cases h
   |true=>
    have h:y=true:=h;subst h;rw[QC h2];congr 1;cases k <;> cases a <;> cases b <;> simp only[eqC]at h1 <;> first|(cases h1;done)|skip
    next a b=>cases a <;> cases b <;> simp_all
    ·rename_i k r a p b;cases f:(kq k r&&kq k p)with
     |false=>rw[f]at h1;cases h1
     |true =>rw[f]at h1;simp at f;have R:=JG f.1;have P:=JG f.2;subst R;subst P;simp at h1;rw[h1]
    ·rename_i a b;simp at h1;have:∀{a b:List Nat},xh a b=true→a=b:=by
      intro a;induction a with
      |nil=>intro b g;cases b with
       |nil=>rfl
       |cons _ _=>cases g
      |cons x a C=>intro b g;cases b with
       |nil=>cases g
       |cons y b=>
        simp only[xh]at g;cases j:Nat.beq x y with
        |false=>rw[j]at g;cases g
        |true=>rw[j]at g;rw[qW.1 j,C g]
     rw[this h1]
  ·cases h
 |[],_::_,_,h=>by simp[eqL]at h
 |[],[],_::_,h=>by simp[eqL]at h
 |_::_,[],_,h=>by simp[eqL]at h
 |_::_,_::_,[],h=>by simp[eqL]at h
def acl (h:eqP J agg p q=some true):p=q:=by obtain⟨j,g,f⟩:=Ek h;have:=QC f;cases p <;> cases q <;> simp_all[PV.cells,PV.isAgg]
def Ra {k:CK}{c:CV}{r:Bool}(h:eqC k c c=some r)(f:den φ c=some v)(n:Nat):Instr.sameBits n v v=true:=by
 cases k <;> cases c <;> simp[eqC]at h <;> first|(cases h;done)|skip
 ·have f:some (Value.bool _)=some v:=f;cases f;simp[Instr.sameBits]
 ·have f:some (Value.int _ _)=some v:=f;cases f;simp[Instr.sameBits]
 ·obtain⟨_,e⟩:=pl (φ:=φ) (v:=v) f;rw[e];simp[Instr.sameBits,rC];exact(Go.MapKept.bytes_beq _ _).2 rfl
def Ky {n:Nat}:∀{J:List CK} {l:List CV} {vs:List Value} {r:Bool},eqL J l l=some r→aU φ l=some vs→(vs.zip vs).all (λ(x,y)=>Instr.sameBits n x y)=true
 |[],[],vs,_,_,hd=>by cases hd;rfl
 |k::J,a::l,vs,r,h,hd=>by
  simp[eqL]at h;split at h
  next x y h1 h2=>obtain⟨v,ws,rfl,q1,q2⟩:=bQ hd;simp[Ra h1 q1,Ky h2 q2]
  ·cases h
 |[],_::_,_,_,h,_=>by simp[eqL]at h
 |_::_,[],_,_,h,_=>by simp[eqL]at h
def Kw {r:Bool}(h:eqP J agg p p=some r)(j:aS φ p=some v):(Instr.keyThatStays v v).run P w = .ok v w:=by
 obtain⟨_,_,f⟩:=Ek h;have:Instr.sameBits 10000 v v=true:=by
  cases p with
  |one c=>
   simp[PV.cells]at f;cases J with
   |nil=>simp[eqL]at f
   |cons k J=>
    simp[eqL]at f;split at f
    next g _=>exact Ra g j 10000
    ·cases f
  |agg l =>obtain⟨vs,e,g⟩:=ye (φ:=φ) (v:=v) j;rw[e];simp[Instr.sameBits];have:=Ky (n:=9999) f g;simpa using this
 simp[Instr.keyThatStays,this]
def Bn {d:Nat}{em:Bool}{f:TypeId→Option (List CK)}(ih:∀t J,f t=some J→∀(p:PV) v r,aS φ p=some v→p.isAgg=pn (P.underlying t)→eqL J p.cells p.cells=some r→(Instr.checkKey em d t v).run P w = .ok () w)
  (hk:∀t J,f t=some J→mQ (P.underlying t)=some (pn (P.underlying t))∧(pn (P.underlying t)=false→J.length=1)) (xs:Array Value) (F:Field→PUnit→Sem (ForInStep PUnit)) (hF:∀(fd:Field) (v:Value),fd.name ≠ "_" → (part fd.type xs fd.offset).run P w = .ok v w→(Instr.checkKey em d fd.type v).run P w = .ok () w→(F fd PUnit.unit).run P w = .ok (.yield PUnit.unit) w) :
  ∀(fs:List Field) (off:Nat) (J:List CK) (l:List CV) (r:Bool),Y7 (au P) f fs off=some J→aU φ l=some (xs.toList.drop off)→eqL J l l=some r→(forIn fs PUnit.unit F).run P w = .ok PUnit.unit w
 |[],off,J,l,r,hc,hx,he=>by simp
 |fd::fs,off,J,l,r,hc,hx,he=>by
  simp only[Y7]at hc;split at hc
  next hn=>
   split at hc
   ·rename_i ka hka;split at hc
    ·rename_i hz;split at hc
     ·rename_i kb hkb;cases hc;obtain⟨r1,r2,e1,e2,rfl⟩:=yF he;obtain⟨hl1,_⟩:=My e1;have hsz:au P fd.type≠0:=Ω
      obtain⟨hb,hk1⟩:=hk _ _ hka;have hd2:=lJ ka.length hx;have hp:∃p v,p.cells=l.take ka.length∧p.isAgg=pn (P.underlying fd.type)∧aS φ p=some v∧(part fd.type xs fd.offset).run P w = .ok v w:=by
       cases hs:pn (P.underlying fd.type)with
       |true =>rw[hs]at hb;refine⟨.agg (l.take ka.length),.agg ((xs.toList.drop off).take ka.length).toArray,rfl,rfl,by simp[aS,hd2], ?_⟩;simp[part,υ,cB hb,aH hsz,j_,hn.2,hz.1];congr 2;apply E_;simp
       |false=>
        rw[hs]at hb;have hone:ka.length=1:=hk1 hs;rw[hone]at hd2 hl1;match hlt:l.take 1,hl1 with
        |[c],_=>
         rw[hlt]at hd2;obtain⟨v,ws,e3,h1,h2⟩:=bQ hd2;have hg:xs[off]? = some v:=by
          have:((xs.toList.drop off).take 1)[0]? = some v:=by rw[e3];rfl
          rw[Y']at this;split at this
          ·simpa[q_]using this
          ·cases this
         refine⟨.one c,v,by rw[hone,hlt];rfl,rfl,h1, ?_⟩;simp[part,υ,cB hb,hn.2,hg]
      obtain⟨p,v,p1,p2,p3,p4⟩:=hp;have hA:=ih fd.type ka hka p v r1 p3 p2 (by rw[p1];exact e1);have hR:=Bn ih hk xs F hF fs (off+ka.length) kb (l.drop ka.length) r2 hkb (by rw[←List.drop_drop];exact jo _ hx) e2;simp[υ,hF fd v hn.1 p4 hA];exact hR
     ·cases hc
    ·cases hc
   ·cases hc
  ·cases hc
def HH {em:Bool}:∀(d:Nat) (D:Nat) (t:TypeId) (J:List CK),iZ P d t=some J→∀(p:PV) v r,aS φ p=some v→p.isAgg=pn (P.underlying t)→eqL J p.cells p.cells=some r→(Instr.checkKey em (D+d) t v).run P w = .ok () w
 |0,D,t,J,h,p,v,r,_,_,_=>by cases h
 |d+1,D,t,J,h,p,v,r,hx,hp,he=>by
  simp[iZ]at h;rw[←Nat.add_assoc];split at h
  next hu=>simp only[Instr.checkKey,υ,θ hu,ο];rfl
  next k hu=>simp only[Instr.checkKey,υ,θ hu,ο];rfl
  next hu=>simp only[Instr.checkKey,υ,θ hu,ο];rfl
  next fs hu=>
   split at h
   ·cases h
   ·rw[hu]at hp;cases p with
    |one c=>cases hp
    |agg l =>obtain⟨T,U,g⟩:=ye (φ:=φ) (v:=v) hx;subst U;rw[Instr.checkKey];simp only[υ,θ hu,ο];rw[←Array.forIn_toList];rw[Bn (P:=P) (w:=w) (em:=em) (d:=D+d) (λt J f p v r=>HH d D t J f p v r) (λt J f=>Q5 d t J f) T.toArray _ (λfd v R C j=>by simp[R,C,j]) fs.toList 0 J l r h (by simpa using g) he];rfl
  ·cases h
def kOk (P:Program)(T:TypeId)(J:List CK)(agg:Bool):Prop:=iZ P 20 T=some J∧agg=pn (P.underlying T)
def Cc {q:EqK}(h:Dc P t=some q):∃J agg,q = .flat J agg∧kOk P t J agg:=by
 unfold Dc at h;split at h
 next fs f=>
  split at h
  next J g=>simp at h;exact⟨J,true,h.symm,g,by rw[f];rfl⟩
  ·cases h
 next d hd f=>
  split at h
  next J g=>simp at h;refine⟨J,false,h.symm,g, ?_⟩;rw[f];cases d <;> first|rfl|(exact absurd rfl (hd _))
  ·cases h
 ·cases h
def jb (g:kOk P T J agg)(j:aS φ p=some v)(f:Db J agg p=true)(em:Bool):(Instr.checkKey em 10000 T v).run P w = .ok () w:=by
 unfold Db at f;split at f
 next r hr=>obtain⟨C,_,l⟩:=Ek hr;exact HH (P:=P) (w:=w) 20 9980 T J g.1 p v r j (C.trans g.2) l
 ·cases f
def Fnd (_:Gx)(es:List ME)(vs:List MapEntry)(i:Nat)(J:List CK)(agg:Bool)(k:PV)(r:Option (Nat×ME))(o:Option (Nat×Value)):Prop:=match r with
 |none=>o=none
 |some (n,e)=>∃j m,n=i+j∧o=some (n,m.val)∧es[j]? = some e∧vs[j]? = some m∧eqP J agg k e.key=some true
def Fnd.next {k:PV}{o:Option (Nat×Value)}(f:Fnd φ es vs (i+1) J agg k r o):Fnd φ (e::es) (m::vs) i J agg k r o:=by
 unfold Fnd at f⊢;split
 ·exact f
 ·obtain⟨j,m,P,C,p,l,g⟩:=f;exact⟨j+1,m,Ω,C,by simpa using p,by simpa using l,g⟩
def nu (C:iR φ (e::es) (m::vs)):aS φ e.key=some m.key∧aS φ e.val=some m.val∧m.born=e.born∧iR φ es vs:=by obtain⟨J,g⟩:=C;obtain⟨v,q1,q2,l,j⟩:=g 0 e rfl;cases q1;refine⟨q2,l,j,by simpa using J,λi P f=>?_⟩;obtain⟨v,r,p⟩:=g (i+1) P (by simpa using f);exact⟨v,by simpa using r,p⟩
def Qu {T:TypeId}{J:List CK}{agg:Bool}(f:kOk P T J agg){k:PV}{v:Value}(j:aS φ k=some v):∀{es:List ME} {vs:List MapEntry} {i:Nat} {r:Option (Nat×ME)},iR φ es vs→xP J agg k es i=some r→∃o,(Instr.findAsking T v vs i).run P w = .ok o w∧Fnd φ es vs i J agg k r o
 |[],[],i,r,_,hf=>by cases hf;exact⟨none,rfl,rfl⟩
 |[],_::_,i,r,hd,hf=>by have:=hd.1;simp at this
 |_::_,[],i,r,hd,hf=>by have:=hd.1;simp at this
 |e::es,m::vs,i,r,hd,hf=>by
  obtain⟨l,R,C,p⟩:=nu hd;simp[xP]at hf;split at hf
  next g=>cases hf;exact⟨some (i,m.val),by simp[Instr.findAsking,Tx f.1 f.2 j l g],0,m,rfl,rfl,rfl,rfl,g⟩
  next g=>obtain⟨o,q1,q2⟩:=Qu f j p hf;exact⟨o,by simp[Instr.findAsking,Tx f.1 f.2 j l g,q1],q2.next⟩
  ·cases hf
def Oq (R:kOk P T J agg){d:TypeDesc}(j:P.underlying T=some d){C l:Value}{r b:Bool}(hx:aS φ p=some C)(U:aS φ q=some l)(he:eqP J agg p q=some r)(g:Instr.sameNow d C l=some b):b=r:=by
 have f:=Tx (P:=P) (w:=default) R.1 R.2 hx U he;unfold Instr.sameNow at g;split at g
 next k a k' b'=>
  split at g
  next hkk=>subst hkk;simp at g;have:=alI (P:=P) default 9999 T k _ a b' j;rw[show Op.equal T (.int k a) (.int k b')=Op.equalIn (9999+1) T (.int k a) (.int k b') from rfl,this]at f;injection f with f _;rw[←f,←g]
  ·cases g
 next a b'=>simp at g;have:=alq (P:=P) default 9999 T a b' j;rw[show Op.equal T (.string a) (.string b')=Op.equalIn (9999+1) T (.string a) (.string b') from rfl,this]at f;injection f with f _;rw[←f,←g,beq_toListBytes]
 next a b'=>simp at g;have:=alB (P:=P) default 9999 T a b' j;rw[show Op.equal T (.bool a) (.bool b')=Op.equalIn (9999+1) T (.bool a) (.bool b') from rfl,this]at f;injection f with f _;rw[←f,←g]
 ·cases g
def Qt {T:TypeId}{J:List CK}{agg:Bool}(l:kOk P T J agg){d:TypeDesc}(f:P.underlying T=some d){k:PV}{v:Value}(j:aS φ k=some v):∀{es:List ME} {vs:List MapEntry} {i:Nat} {r:Option (Nat×ME)} {o:Option (Nat×Value)},iR φ es vs→xP J agg k es i=some r→Instr.findNow d v vs i=some o→Fnd φ es vs i J agg k r o
 |[],[],i,r,o,_,hf,hn=>by simp[xP]at hf;simp[Instr.findNow]at hn;subst hf;subst hn;rfl
 |[],_::_,i,r,o,f,hf,_=>by have:=f.1;simp at this
 |_::_,[],i,r,o,f,hf,_=>by have:=f.1;simp at this
 |e::es,m::vs,i,r,o,hde,hf,hn=>by
  obtain⟨p,U,R,C⟩:=nu hde;simp[xP]at hf;simp[Instr.findNow]at hn;split at hn
  next hb=>
   cases hn;split at hf
   next g=>cases hf;exact⟨0,m,rfl,rfl,rfl,rfl,g⟩
   next g=>have:=Oq l f j p g hb;cases this
   ·cases hf
  next hb=>
   split at hf
   next g=>have:=Oq l f j p g hb;cases this
   ·exact(Qt l f j C hf hn).next
   ·cases hf
  ·cases hn
def qS (j:kOk P T J agg){k:PV}(l:aS φ k=some v)(C:iR φ es vs)(p:xP J agg k es 0=some r):∃o,(Instr.findKey T v vs).run P w = .ok o w∧Fnd φ es vs 0 J agg k r o:=by
 obtain⟨d,f⟩:∃d,P.underlying T=some d:=by
  cases f:P.underlying T with
  |some d=>exact⟨d,rfl⟩
  |none =>have:=j.1;simp[iZ,f]at this
 cases g:Instr.findNow d v vs 0 with
 |some o=>exact⟨o,by simp[Instr.findKey,θ f,g],Qt j f l C p g⟩
 |none =>obtain⟨o,q1,q2⟩:=Qu (w:=w) j l C p;exact⟨o,by simp[Instr.findKey,θ f,g,q1],q2⟩
def On (f:ME→ME):∀(es:List ME) (i j:Nat),(BT es i f)[j]? = if i=j then(es[j]?).map f else es[j]?
 |[],i,j=>by simp[BT]
 |e::es,0,0=>by simp[BT]
 |e::es,0,j+1=>by simp[BT]
 |e::es,i+1,0=>by simp[BT]
 |e::es,i+1,j+1=>by simp only[BT,akx,On f es i j];simp
def Om (f:ME→ME):∀(es:List ME) (i:Nat),(BT es i f).length=es.length
 |[],i=>rfl
 |e::es,0=>rfl
 |e::es,i+1=>by simp[BT,Om f es i]
def Cu {vs:Array MapEntry}(r:iR φ es vs.toList){f:ME→ME}{g:MapEntry→MapEntry}(p:∀e m,es[i]? = some e→vs[i]? = some m→aS φ e.key=some m.key→aS φ e.val=some m.val→m.born=e.born→aS φ (f e).key=some (g m).key∧aS φ (f e).val=some (g m).val∧(g m).born=(f e).born):iR φ (BT es i f) (vs.modify i g).toList:=by
 refine⟨by simp[Om];simpa using r.1,λj e l=>?_⟩;rw[On]at l;rw[o_,W_];split at l
 next hij=>subst hij;rw[G' rfl];simp at l;obtain⟨J,C,rfl⟩:=l;obtain⟨m,q1,q2,R,P⟩:=r.2 i J C;rw[o_]at q1;exact⟨g m,by rw[q1];rfl,p J m C q1 q2 R P⟩
 next hij=>rw[Θ hij];obtain⟨m,q1,q2⟩:=r.2 j e l;rw[o_]at q1;exact⟨m,q1,q2⟩
def Hv {vs:Array MapEntry}(l:iR φ es vs.toList)(C:aS φ e.key=some m.key)(r:aS φ e.val=some m.val)(p:m.born=e.born):iR φ (es++[e]) (vs.push m).toList:=by
 have g:vs.size=es.length:=by rw[←l.1,C']
 refine⟨by simp[g],λj x f=>?_⟩;rw[o_];obtain hj|hj:=h_ j es.length
 ·rw[E' hj]at f;obtain⟨v,q1,q2⟩:=l.2 j x f;rw[o_]at q1;exact⟨v,by rw[Array.getElem?_push,Θ Ω];exact q1,q2⟩
 ·rw[c_ hj]at f;have:j=es.length:=by
   have:=(f_.1 f).1;simp at this;omega
  subst this;simp at f;subst f;exact⟨m,by rw[←g];simp,C,r,p⟩
def Inv.setO (hI:Inv B R φ h w){k:Pos}(hl:φ.loc k 0=some l)(p:∀g,0<g→φ.loc k g=none){ob j:Obj}(hb:w.heap[l.b]? = some ob)(P:stays ob=false){r:EO}(T:iY φ { w with heap:=w.heap.setIfInBounds l.b j } B k r)(U:i4 r=false:=by rfl):Inv B R φ (upd h k r) { w with heap:=w.heap.setIfInBounds l.b j }:=by
 have only:∀g J,φ.loc k g=some J→J=l:=λg J f=>by
  cases g with
  |zero=>rw[hl]at f;exact(q' f).symm
  |succ g=>rw[p _ Ω]at f;cases f
 refine hI.turn (ψ:=φ) (Gx.le.refl φ) (λ_ _=>⟨λ_=>rfl,rfl,rfl⟩) (λg1 C x=>.inl ⟨g1,C,x,rfl⟩) (λb hb' hne=>?_) (λg1 C x ob1 h1 h2=>?_) rfl rfl rfl Ψ (ζ _) T U
 ·simp[hne 0 l hl]
 ·rw[only g1 C x,hb]at h1;cases h1;rw[P]at h2;cases h2
def Ar (P:Inv B R φ h w){m:Pos}{clock:Nat}(J:h m = .map es clock)(C:RT φ (.pv (.one (.mp m))) v):∃l vs,φ.loc m 0=some l∧(∀g,0<g→φ.loc m g=none)∧v = .map (some l.b)∧B≤l.b∧w.heap[l.b]? = some (.map vs clock)∧iR φ es vs.toList:=by obtain⟨l,j,T⟩:=agQ C;have f:=P.obj m;rw[J]at f;obtain⟨U,l',vs,q1,q2,r,p⟩:=f;rw[j]at q1;cases q1;exact⟨l,vs,j,U,T,q2,r,p⟩
def Inv.setM (J:Inv B R φ h w){m:Pos}(p:φ.loc m 0=some l)(f:∀g,0<g→φ.loc m g=none)(P:B≤l.b){vs vs':Array MapEntry}{c c':Nat}(r:w.heap[l.b]? = some (.map vs c)){j:List ME}(C:iR φ j vs'.toList):Inv B R φ (upd h m (.map j c')) { w with heap:=w.heap.setIfInBounds l.b (.map vs' c') } :=
 J.setO p f r rfl ⟨f,l,vs',p,P,(Go.MapKept.heap_set r).1,C⟩
def Nb {z:PV}(f:er P t=some z)(w:World):∃v,(zeroValue t).run P w = .ok v w∧∀φ,aS φ z=some v:=by obtain⟨i,v,l,j,g⟩:=gI f;exact⟨v,by simp[zeroValue,typeInfo,l,j],g⟩
def aeO (hI:Inv B R φ h w){e:TypeId}{x y:Operand}{ok:Bool}(ho:o.op = .lookup t x y ok)(hu:P.underlying t=some (.map T e)){q:EqK}(hkey:Dc P T=some q){z:PV}(hz:er P e=some z){C:List TV}(hv:RTs φ C [a.eval x,a.eval y]){f:Pos}{out:TV}{wr:Option (Pos×EO)}(g:(QJ q z ok C f).run h=some (out,wr)):OkX P B R φ h w o a out wr:=by
 obtain⟨J,agg,rfl,hk⟩:=Cc hkey;unfold QJ at g;split at g
 ·obtain⟨v1,ws,e1,hr1,hr2⟩:=hv.cons;obtain⟨v2,e2,U⟩:=hr2.one;subst e2;simp at e1;obtain⟨e1,e2⟩:=e1;subst e1;subst e2;split at g
  next ks' agg' kv heq=>
   injection heq with h1 h2;subst h1;subst h2;have U:aS φ kv=some (a.eval y):=U;cases hok:Db J agg kv with
   |false=>rw[hok]at g;cases g
   |true=>
    rw[hok,O']at g;obtain⟨zv,hzr,hzd⟩:=Nb hz w;have fin:∀{r:Option PV} {v:Option Value},(wz ok z r).run h=some (out,wr)→(match r,v with|none,none=>True|some p,some u=>aS φ p=some u|_,_=>False)→(execOp a.eval o).run P w = .ok (.value (match v with|some u=>(if ok then .tuple #[u,.bool true]else u)|none=>(if ok then .tuple #[zv,.bool false]else zv))) w→OkX P B R φ h w o a out wr:=by
     intro r v hl hm hrun;unfold wz at hl;cases ok with
     |true=>
      cases r with
      |none=>
       cases v with
       |some _=>cases hm
       |none =>cases hl;exact ax hI hrun ⟨[zv,.bool false],bI (hzd φ) rfl,rfl⟩
      |some p=>
       cases v with
       |none=>cases hm
       |some u =>cases hl;exact ax hI hrun ⟨[u,.bool true],bI hm rfl,rfl⟩
     |false=>
      cases r with
      |none=>
       cases v with
       |some _=>cases hm
       |none =>cases hl;exact ax hI hrun (hzd φ)
      |some p=>
       cases v with
       |none=>cases hm
       |some u =>cases hl;exact ax hI hrun hm
    split at g
    ·have ev:=Lk hr1;refine fin (v:=none) g trivial ?_;unfold execOp;have hf:(Instr.findKey T (a.eval y) []).run P w = .ok none w:=by
      obtain⟨o',q1,q2⟩:=qS (w:=w) hk U (es:=[]) (vs:=[]) ⟨rfl,λi e he=>by simp at he⟩ rfl;rw[q1,show o'=none from q2]
     simp[ho,ev,Instr.lookup,θ hu,jb hk U hok,hf,hzr]
    ·rename_i m;simp[Q.run]at g;split at g
     ·rename_i es clock hm;obtain⟨l,vs,q1,_,ev,_,q3,q4⟩:=Ar hI hm hr1;split at g
      ·rename_i r hf;obtain⟨o',p1,p2⟩:=qS (w:=w) hk U q4 hf;refine fin (v:=o'.map (·.2)) g ?_ ?_
       ·unfold Fnd at p2;split at p2
        ·subst p2;trivial
        ·obtain⟨j,m',_,h2,h3,h4,_⟩:=p2;rw[h2];obtain⟨m2,z1,_,z3,_⟩:=q4.2 j _ h3;rw[h4]at z1;cases z1;exact z3
       ·unfold execOp;cases o' with
        |none=>simp[ho,ev,Instr.lookup,θ hu,getObj,Sem.run,q3,jb hk U hok,p1,hzr,Result.andThen]
        |some pr=>simp[ho,ev,Instr.lookup,θ hu,getObj,Sem.run,q3,jb hk U hok,p1,Result.andThen]
      ·cases g
     ·cases g
    ·cases g
  ·cases g
 ·cases g
end
open Go.MapKept
variable [SymVal]
section
variable {P:Program}{B:Nat}{R:W0}{φ:Gx}{h:Pos→EO}{w:World}{o:Oper}{a:Act}
variable{v:Value}{t:TypeId}{x:Operand}{q:EqK}{C:List TV}{f:Pos}{out:TV}{wr:Option (Pos×EO)}
def JX {R:List ME}{f:Array MapEntry}(hd:iR φ R f.toList){J:List CK}{agg:Bool}{k:PV}(hk:aS φ k=some v){j:Nat}{e:ME}{m:MapEntry}(he:R[j]? = some e)(P:f.toList[j]? = some m)(C:eqP J agg k e.key=some true):(((f[j]?).map (·.key)).getD v)=v∧f[j]? = some m∧aS φ e.val=some m.val∧m.born=e.born∧eqP J agg k k=some true:=by
 obtain⟨m2,r,l,U,T⟩:=hd.2 j e he;rw[P]at r;cases r;have p:=acl C;subst p;rw[hk]at l;injection l with l;have g:f[j]? = some m:=by rw[←Array.getElem?_toList];exact P
 exact⟨by rw[g];exact l.symm,g,U,T,C⟩
def ahI (hI:Inv B R φ h w){T e:TypeId}{y z:Operand}(ho:o.op = .mapUpdate t x y z∨o.op = .insert t x y z)(hu:P.underlying t=some (.map T e))(hkey:Dc P T=some q)(hv:RTs φ C [a.eval x,a.eval y,a.eval z])(p:(afR q C f).run h=some (out,wr)):OkX P B R φ h w o a out wr:=by
 obtain⟨J,agg,rfl,hk⟩:=Cc hkey;have hex:∀{w'},(Instr.mapUpdate t (a.eval x) (a.eval y) (a.eval z)).run P w = .ok () w'→(execOp a.eval o).run P w = .ok .skip w':=λhr=>by unfold execOp;obtain ho|ho:=ho <;> simp[ho,hr]
 unfold afR at p;split at p
 ·obtain⟨v1,ws,e1,hr1,hr2⟩:=hv.cons;obtain⟨v2,ws2,e2,g,hr4⟩:=hr2.cons;obtain⟨v3,e3,r⟩:=hr4.one;subst e3;subst e2;simp at e1;obtain⟨e1,e2,e3⟩:=e1;subst e1;subst e2;subst e3;split at p
  next ks' agg' m kv v heq=>
   injection heq with h1 h2;subst h1;subst h2;have g:aS φ kv=some (a.eval y):=g;have r:aS φ v=some (a.eval z):=r;cases U:Db J agg kv with
   |false=>rw[U]at p;cases p
   |true=>
    rw[U,O']at p;simp[Q.run]at p;split at p
    ·rename_i es clock hm;obtain⟨l,vs,q1,qo,ev,qB,q3,q4⟩:=Ar hI hm hr1;split at p
     ·rename_i i e' hf;cases p;obtain⟨o',p1,p2⟩:=qS (w:=w) hk g q4 hf;obtain⟨j,m',rfl,h2,h3,h4,h5⟩:=p2;obtain⟨y1,y2,y3,y4,y5⟩:=JX q4 g h3 h4 h5;subst h2;refine DY (hex ?_) (Gx.le.refl φ) (hI.setM q1 qo qB (c':=clock) (vs':=vs.modify (0+j) λe=>{ e with key:=a.eval y,val:=a.eval z }) q3 (Cu q4 λe m _ _ _ _ hb=>⟨g,r,hb⟩));have y1':(((vs[0+j]?).map (·.key)).getD (a.eval y))=a.eval y:=by rw[b_];exact y1
      simp only[Instr.mapUpdate,υ,θ hu,ev,ο,R_ q3,jb hk g U,p1,y1',Kw y5 g,T? _ q3]
     next hf=>cases p;obtain⟨o',p1,p2⟩:=qS (w:=w) hk g q4 hf;have p2:o'=none:=p2;subst p2;refine DY (hex ?_) (Gx.le.refl φ) (hI.setM q1 qo qB (c':=clock+1) (vs':=vs.push { key:=a.eval y,val:=a.eval z,born:=clock }) q3 (Hv q4 g r rfl));simp[Instr.mapUpdate,υ,θ hu,ev,R_ q3,jb hk g U,p1,T? _ q3]
     ·cases p
    ·cases p
  ·cases p
 ·cases p
def aeN (hI:Inv B R φ h w){T e:TypeId}{y:Operand}(ho:o.op = .mapEntry t x y)(hu:P.underlying t=some (.map T e))(hkey:Dc P T=some q){z:PV}(hz:er P e=some z)(hv:RTs φ C [a.eval x,a.eval y])(p:(VY q z C f).run h=some (out,wr)):OkX P B R φ h w o a out wr:=by
 obtain⟨J,agg,rfl,hk⟩:=Cc hkey;have hex:∀{v w'},(Instr.mapEntry t (a.eval x) (a.eval y)).run P w = .ok v w'→(execOp a.eval o).run P w = .ok (.value v) w':=λhr=>by unfold execOp;simp[ho,hr]
 unfold VY at p;split at p
 ·obtain⟨v1,ws,e1,hr1,hr2⟩:=hv.cons;obtain⟨v2,e2,g⟩:=hr2.one;subst e2;simp at e1;obtain⟨e1,e2⟩:=e1;subst e1;subst e2;split at p
  next ks' agg' m kv heq=>
   injection heq with h1 h2;subst h1;subst h2;have g:aS φ kv=some (a.eval y):=g;cases r:Db J agg kv with
   |false=>rw[r]at p;cases p
   |true=>
    rw[r,O']at p;simp[Q.run]at p;split at p
    ·rename_i es clock hm;obtain⟨l,vs,q1,qo,ev,qB,U,q4⟩:=Ar hI hm hr1;split at p
     ·rename_i i e' hf;cases p;obtain⟨o',p1,p2⟩:=qS (w:=w) hk g q4 hf;obtain⟨j,m',rfl,h2,h3,h4,h5⟩:=p2;obtain⟨y1,y2,y3,y4,y5⟩:=JX q4 g h3 h4 h5;subst h2;have y1':(((vs[0+j]?).map (·.key)).getD (a.eval y))=a.eval y:=by rw[b_];exact y1
      have y2':(((vs[0+j]?).map λx=>(x.born:Int)).getD 0)=Int.ofNat e'.born:=by rw[b_,y2];show(m'.born:Int)=_;rw[y4];rfl
      refine jX (v :=.tuple #[m'.val,.int .i64 (Int.ofNat e'.born)]) (hex ?_) (Gx.le.refl φ) (hI.setM q1 qo qB (c':=clock) (vs':=vs.modify (0+j) λe=>{ e with key:=a.eval y }) U (Cu q4 λe m _ _ _ hvv hb=>⟨g,hvv,hb⟩)) ⟨_,bI y3 (bI (di _ _) rfl),rfl⟩;simp only[Instr.mapEntry,υ,θ hu,ev,ο,R_ U,jb hk g r,p1,y1',Kw y5 g,T? _ U,j_,goInt];rw[y2']
     next hf=>cases p;obtain⟨o',p1,p2⟩:=qS (w:=w) hk g q4 hf;have p2:o'=none:=p2;subst p2;obtain⟨zv,hzr,hzd⟩:=Nb hz w;refine jX (v :=.tuple #[zv,.int .i64 (Int.ofNat clock)]) (hex ?_) (Gx.le.refl φ) (hI.setM q1 qo qB (c':=clock+1) (vs':=vs.push { key:=a.eval y,val:=zv,born:=clock }) U (Hv q4 g (hzd φ) rfl)) ⟨_,bI (hzd φ) (bI (di _ _) rfl),rfl⟩;simp only[Instr.mapEntry,υ,θ hu,ev,ο,R_ U,jb hk g r,p1,hzr,T? _ U,j_,goInt];rfl
     ·cases p
    ·cases p
  ·cases p
 ·cases p
def Hh:∀{l:List ME} {g:List MapEntry} {b i n:Nat},iR φ l g→VQ b l i=some n→∃j,n=i+j∧g.findIdx? (λe=>(e.born:Int) == (b:Int))=some j
 |[],g,b,i,n,_,h=>by cases h
 |e::l,[],b,i,n,hd,h=>by have:=hd.1;simp at this
 |e::l,m::g,b,i,n,hd,h=>by
  obtain⟨_,_,p,C⟩:=nu hd;simp[VQ]at h;cases f:Nat.beq e.born b with
  |true =>rw[f]at h;cases h;have f:=qW.1 f;exact⟨0,rfl,by simp[List.findIdx?_cons,p,f]⟩
  |false=>
   rw[f]at h;obtain⟨j,rfl,r⟩:=Hh C h;have f:=I_ f;have f:¬((e.born:Int)=(b:Int)):=Ω
   exact⟨j+1,Ω,by simp[List.findIdx?_cons,p,f];simpa using r⟩
def aeM (hI:Inv B R φ h w){y z:Operand}(ho:o.op = .entryStore t x y z)(hv:RTs φ C [a.eval x,a.eval y,a.eval z])(g:(VX C f).run h=some (out,wr)):OkX P B R φ h w o a out wr:=by
 unfold VX at g;split at g
 ·obtain⟨v1,ws,e1,hr1,hr2⟩:=hv.cons;obtain⟨v2,ws2,e2,hr3,hr4⟩:=hr2.cons;obtain⟨v3,e3,r⟩:=hr4.one;subst e3;subst e2;simp at e1;obtain⟨e1,e2,e3⟩:=e1;subst e1;subst e2;subst e3;split at g
  next m k b v=>
   have r:aS φ v=some (a.eval z):=r;have hb:=dF hr3;simp[Q.run]at g;split at g
   ·rename_i es clock hm;obtain⟨l,U,q1,qo,ev,qB,q3,q4⟩:=Ar hI hm hr1;split at g
    ·rename_i i hf;cases g;obtain⟨j,T,hj⟩:=Hh q4 hf;rw[b_]at T;subst T;have hj':U.findIdx? (λe=>(e.born:Int) == (b:Int))=some i:=by have:=List.findIdx?_toArray (p:=λe=>((e:MapEntry).born:Int) == (b:Int)) (l:=U.toList);rw[hj]at this;simpa using this
     refine DY (w':={ w with heap:=w.heap.setIfInBounds l.b (.map (U.modify i λe=>{ e with val:=a.eval z }) clock) }) ?_ (Gx.le.refl φ) (hI.setM q1 qo qB q3 (Cu q4 λe m _ _ hkk _ hb=>⟨hkk,r,hb⟩));unfold execOp;have J:=T? (P:=P) (.map (U.modify i λe=>{ e with val:=a.eval z }) clock) q3;have hb':a.eval y = .int k (b:Int):=hb;simp[ho,ev,Instr.entryStore,R_ q3,hb',asInt,asIntOf,hj',J]
    ·cases g
   ·cases g
  ·cases g
 ·cases g
def aeK (p:Inv B R φ h w){T e:TypeId}(ho:o.op = .range t x)(hu:P.underlying t=some (.map T e))(hf:h f = .none)(hv:RTs φ C [a.eval x])(j:(VV C f).run h=some (out,wr)):OkX P B R φ h w o a out wr:=by
 unfold VV at j;split at j
 ·obtain⟨v,e1,hr⟩:=hv.one;cases e1;have mk:∀{ob:Obj} {o':EO},(execOp a.eval o).run P w = .ok (.value (.pointer (some ⟨w.heap.size,0,none⟩))) (w.alloc ob)→iY (φ.add f ⟨w.heap.size,0,0⟩) (w.alloc ob) B f o'→i4 o'=false→out = .pv (.one (.ptr f 0 0))→wr=some (f,o')→OkX P B R φ h w o a out wr:=λ{ob o'} r U J h1 h2=>by
   subst h1;subst h2;refine jX r (p.le_add hf _) (p.new hf (l:=⟨w.heap.size,0,0⟩) rfl U J) ?_ J;show den _ (.ptr f 0 0)=_;simp[den,Gx.add_self]
  have one:∀g,0<g→(φ.add f ⟨w.heap.size,0,0⟩).loc f g=none:=λg hg=>by simp only[Gx.add,j?];rw[Θ Ω]
  split at j
  ·cases j;refine mk (ob :=.mapIter none 0 #[] 0) (o' :=.mit none 0 [] 0) ?_ ⟨one,⟨w.heap.size,0,0⟩,Gx.add_self _ _ _,p.size,u? w _⟩ rfl rfl rfl;unfold execOp;simp[ho,Lk hr,Instr.range,θ hu]
  next m=>
   simp[Q.run]at j;split at j
   next es clock hm=>cases j;obtain⟨l,vs,q1,qo,ev,qB,q3,q4⟩:=Ar p hm hr;refine mk (ob :=.mapIter (some l.b) clock #[] clock) (o' :=.mit (some m) clock [] clock) ?_ ⟨one,⟨w.heap.size,0,0⟩,Gx.add_self _ _ _,p.size,l,(p.le_add hf _).loc _ _ _ q1,u? w _⟩ rfl rfl rfl;unfold execOp;simp[ho,ev,Instr.range,θ hu,R_ q3]
   ·cases j
  ·cases j
 ·cases j
def Dk:∀{j:List ME} {g:List MapEntry} {b:Nat} {e:ME},iR φ j g→Mx b j=some e→∃m,g.find? (λx=>x.born == b)=some m∧aS φ e.key=some m.key∧aS φ e.val=some m.val
 |[],g,b,e,_,h=>by cases h
 |x::j,[],b,e,hd,h=>by have:=hd.1;simp at this
 |x::j,m::g,b,e,hd,h=>by
  obtain⟨J,C,l,r⟩:=nu hd;simp[Mx]at h;cases f:Nat.beq x.born b with
  |true =>rw[f]at h;cases h;exact⟨m,by simp[l,qW.1 f],J,C⟩
  |false=>
   rw[f]at h;obtain⟨p,q1,q2⟩:=Dk r h;have f:=I_ f;have:(m.born == b)=false:=by rw[l];simpa using f
   exact⟨p,by rw[List.find?_cons,this];exact q1,q2⟩
def GL:∀{l:List Nat} {b:Nat},abt l=some b→l.getLast? = some b
 |[],_,h=>by cases h
 |[x],b,h=>h
 |x::y::l,b,h=>by have:=GL (l:=y::l) h;rw[List.getLast?_cons_cons];exact this
def Cf (_:Inv B R φ h w){k:Pos}{g:Nat}(p:RT φ (.pv (.one (.ptr k g 0))) v){l:Loc}(r:φ.loc k 0=some l)(j:∀g,0<g→φ.loc k g=none):v = .pointer (some ⟨l.b,0,none⟩):=by
 obtain⟨J,f,C⟩:=iw p;cases g with
 |zero =>rw[r]at f;injection f with f;rw[C,f]
 |succ g=>rw[j _ Ω]at f;cases f
def jr {m:Option Nat}{r f c:Nat}{seen:Array Nat}(g:w.heap[r]? = some (.mapIter m f seen c)):(getObj r).run P w = .ok (.mapIter m f seen c) w:=by simp[getObj,Sem.run,g]
def ahV (hI:Inv B R φ h w)(ho:o.op = .entry x)(hv:RTs φ C [a.eval x])(p:(afX C f).run h=some (out,wr)):OkX P B R φ h w o a out wr:=by
 unfold afX at p;split at p
 ·obtain⟨v,e1,hr⟩:=hv.one;cases e1;have fin:∀{m:Pos} {l lm:Loc} {b j r:Nat} {seen:Array Nat},(afM m b j).run h=some (out,wr)→φ.loc m 0=some lm→a.eval x = .pointer (some ⟨l.b,0,none⟩)→w.heap[l.b]? = some (.mapIter (some lm.b) r seen j)→seen.back? = some b→OkX P B R φ h w o a out wr:=by
   intro m l lm b j r seen p hlm hx hit T;unfold afM at p;simp[Q.run]at p;split at p
   ·rename_i es clock hm;cases hc:Nat.beq clock j with
    |false=>rw[hc]at p;cases p
    |true=>
     rw[hc,O']at p;have hc:=qW.1 hc;subst hc;split at p
     ·rename_i e hf;cases p;have J:=hI.obj m;rw[hm]at J;obtain⟨_,l2,vs,q1,q2,q3,q4⟩:=J;rw[hlm]at q1;cases q1;obtain⟨me,z1,U,z3⟩:=Dk q4 hf;have z1':vs.find? (λx=>x.born == b)=some me:=by rw[←Array.find?_toList];exact z1
      refine ax hI (v :=.tuple #[me.key,me.val]) ?_ ⟨_,bI U (bI z3 rfl),rfl⟩;unfold execOp;simp[ho,hx,Instr.entry,jr hit,R_ q3,T,z1']
     ·cases p
   ·cases p
  split at p
  next k g=>
   simp[Q.run]at p;have J:=hI.obj k;split at p
   ·rename_i m r seen j hk;rw[hk]at J;obtain⟨g1,l,q1,q2,lm,q3,q4⟩:=J;split at p
    next b hb=>exact fin p q3 (Cf hI hr q1 g1) q4 (by rw[List.back?_toArray];exact GL hb)
    ·cases p
   next m r bs b c hk=>rw[hk]at J;obtain⟨g1,l,lm,seen,j,n,q1,q2,q3,q4,_,_,_,q8⟩:=J;obtain⟨z1,U⟩:=q8 (b,c) rfl;have U:j=c:=U;subst U;exact fin p q3 (Cf hI hr q1 g1) q4 z1
   ·cases p
  ·cases p
 ·cases p
def xq {seen:List Nat}:∀{p:List ME} {g:List MapEntry},iR φ p g→iR φ (BK seen p) (g.filter λe=>!seen.toArray.contains e.born)
 |[],[],_=>⟨rfl,λi e h=>by simp[BK]at h⟩
 |[],_::_,hd=>by have:=hd.1;simp at this
 |_::_,[],hd=>by have:=hd.1;simp at this
 |e::p,m::g,hd=>by
  obtain⟨R,P,C,J⟩:=nu hd;have j:=xq (seen:=seen) J;have f:seen.any (Nat.beq e.born)=seen.toArray.contains m.born:=by
   rw[C,ame,List.contains_eq_any_beq];congr 1;funext y;cases r:Nat.beq e.born y with
   |true=>simp[qW.1 r]
   |false=>simp[I_ r]
  simp only[BK,S?];rw[f];cases T:seen.toArray.contains m.born with
  |true=>simpa using j
  |false=>
   simp only[H_,f?,j?];refine⟨by rw[w_,w_,j.1],λi x l=>?_⟩;cases i with
   |zero =>simp at l;subst l;exact⟨m,rfl,R,P,C⟩
   |succ i=>simpa using j.2 i x (by simpa using l)
def aeL (hI:Inv B R φ h w)(ho:o.op = .next x false){t:TV}(hr:RT φ t (a.eval x))(f:Gq h t=some (out,wr)):OkX P B R φ h w o a out wr:=by
 have hex:∀{v w'},(Instr.next (a.eval x) false o.type).run P w = .ok v w'→(execOp a.eval o).run P w = .ok (.value v) w':=λhr=>by unfold execOp;simp[ho,hr]
 have over:RT φ E1 (.tuple #[.bool false]):=⟨[.bool false],rfl,rfl⟩;unfold Gq at f;split at f
 next it g=>
  have T:=hI.obj it;split at f
  next since seen stepped hk=>cases f;rw[hk]at T;obtain⟨g1,l,q1,q2,q3⟩:=T;refine ax hI (hex ?_) over;rw[Cf hI hr q1 g1];simp[Instr.next,jr q3]
  next m since seen sp hk=>
   rw[hk]at T;obtain⟨g1,l,q1,q2,lm,q3,q4⟩:=T;split at f
   ·rename_i es clock hm;have hom:=hI.obj m;rw[hm]at hom;obtain⟨_,l2,C,y1,y2,y3,y4⟩:=hom;rw[q3]at y1;cases y1;have r:=xq (seen:=seen) y4;have hfl:(C.filter λe=>!seen.toArray.contains e.born).toList=C.toList.filter λe=>!seen.toArray.contains e.born:=by simp
    rw[←hfl]at r;split at f
    ·rename_i hus;rw[hus]at r;have hnil:(C.filter λe=>!seen.toArray.contains e.born) = #[]:=by
      apply p?;rw[←Array.length_toList,r.1];rfl
     cases j:(seen.isEmpty||es.isEmpty||es.any (λe=>Nat.blt e.born sp))with
     |false=>rw[j]at f;cases f
     |true=>
      rw[j,O']at f;cases f;have hno:(!seen.toArray.isEmpty && !C.isEmpty&&C.all (·.born≥sp))=false:=by
       simp only[Y?]at j;rcases j with(j|j)|j
       ·have:seen=[]:=by simpa using j
        subst this;rfl
       ·have:es=[]:=by simpa using j
        subst this;have:C = #[]:=by apply p?;rw[←Array.length_toList,y4.1];rfl
        subst this;simp
       ·obtain⟨e,he,U⟩:=ak9.1 j;obtain⟨i,hi⟩:=w? he;obtain⟨p,z1,_,_,z4⟩:=y4.2 i e hi;rw[amg];right;rw[Bool.eq_false_iff];intro J;have:=alA.1 J p (C_.1 (L? z1));have U:=cw.1 U;simp at this;omega
      refine ax hI (hex ?_) over;rw[Cf hI hr q1 g1];simp only[Instr.next,υ,jr q4,ο,R_ y3,hno,hnil];simp[Question.forced]
    ·rename_i e hus;rw[hus]at r;cases j:(Nat.blt e.born since&&Nat.blt e.born sp)with
     |false=>rw[j]at f;cases f
     |true=>
      rw[j,O']at f;cases f;simp[cw]at j;obtain⟨p,z1,z2,z3,z4⟩:=r.2 0 e rfl;have hone:(C.filter λe=>!seen.toArray.contains e.born) = #[p]:=by
       apply E_;have hl:=r.1;revert z1 hl;generalize (C.filter λe=>!seen.toArray.contains e.born).toList=L;intro z1 hl;match L,hl with
       |[y],_=>simp at z1;rw[z1]
      have hmem:p∈C:=by
       have:p∈(C.filter λe=>!seen.toArray.contains e.born):=by rw[hone];simp
       exact(ala.1 this).1
      have hno:(!seen.toArray.isEmpty && !C.isEmpty&&C.all (·.born≥sp))=false:=by rw[amg];right;rw[Bool.eq_false_iff];intro J;have:=alA.1 J p hmem;simp at this;omega
      have U:p.born<since:=Ω
      refine jX (hex (v :=.tuple #[.bool true,p.key,p.val]) (w':={ w with heap:=w.heap.setIfInBounds l.b (.mapIter (some lm.b) since (seen.toArray.push p.born) clock) }) ?_) (Gx.le.refl φ) (hI.setO q1 g1 (ob :=.mapIter (some lm.b) since seen.toArray sp) q4 rfl ⟨g1,l,q1,q2,lm,q3, ?_⟩) ⟨_,bI rfl (bI z2 (bI z3 rfl)),rfl⟩
      ·rw[Cf hI hr q1 g1];have hset:(setObj l.b (.mapIter (some lm.b) since (seen.toArray.push p.born) clock)).run P w = .ok () { w with heap:=w.heap.setIfInBounds l.b (.mapIter (some lm.b) since (seen.toArray.push p.born) clock) }:=by
        simp[setObj,Sem.run,q4]
       have hge:¬since≤p.born:=Ω
       simp only[Instr.next,υ,jr q4,ο,R_ y3,hno,hone];simp only[I?]at hset⊢;simp[U,hge,Question.forced,hset]
      ·rw[(akH q4).1,z4];simp
    ·cases f
   ·cases f
  ·cases f
 ·cases f
end
