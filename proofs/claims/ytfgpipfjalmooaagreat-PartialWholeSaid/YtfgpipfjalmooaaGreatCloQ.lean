/- Closed runs. -/
import Derived.Test.YtfgpipfjalmooaaGreatCloI
import Derived.Laws.BytesString
import Derived.Deep.AppendSrc
import Derived.Laws.MakeOwn
import Derived.MapKept
import Derived.Maps.RangeRun
open Option renaming some→ä,none→ö
open Bool renaming true→ü,false→ß
open Go renaming World→æ,Value→ø,Program→å,TypeId→é,Operand→è,execOp→ê,Oper→ë,eqGuard→ï
set_option linter.all false
namespace Go.Proofs.YtfgpipfjalmooaaGreat
namespace Clo
open Go Go.RowKit
variable [SymVal]
section
variable {P:å}{B:Nat}{R:W0}{φ:Gx}{h:Pos→EO}{w:æ}{o:ë}{a:Act}
def z6 (neg:Bool):BinOp:=match neg with|true=>.neq|false=>.eql
def CS (neg b:Bool):Bool:=match neg with|true=>!b|false=>b
def aaD (r:Inv B R φ h w){neg:Bool}{t p:é}{x y:è}(f:o.op = .binOp (z6 neg) t x y p){b:Bool}
  (g:(ï (z6 neg) t x y (a.eval x) (a.eval y)).run P w = .ok () w) (l:∀op,(op = .eql∨op = .neq)→binOp op t (a.eval x) (a.eval y)=(do pure (.bool (CS (match op with|.neq=>ü|_=>ß) (←Op.equal t (a.eval x) (a.eval y))))))
  (j:(Op.equal t (a.eval x) (a.eval y)).run P w = .ok b w):OkX P B R φ h w o a (.pv (.one (.bl (CS neg b)))) none:=by
 refine au r ?_ (zw _);unfold ê;cases neg
 ·simp[f,z6,π];rw[show(ï .eql t x y (a.eval x) (a.eval y)).run P w = .ok () w from g,l .eql (.inl rfl)];simp[j,CS]
 ·simp[f,z6,π];rw[show(ï .neq t x y (a.eval x) (a.eval y)).run P w = .ok () w from g,l .neq (.inr rfl)];simp[j,CS]
variable{v:ø}
def Uj {n:Nat}(h:RT φ (.pv (.one (.glob n))) v):v = .pointer (ä ⟨n,0,ö⟩):=(Δ h).symm
def kr (h:RT φ (.pv (.one .nilp)) v):v = .pointer none:=(Δ h).symm
def fR (h:RT φ (.pv (.one .nils)) v):v = .slice ö 0 0:=(Δ h).symm
def KI (h:RT φ (.pv (.one .nilm)) v):v = .map none:=(Δ h).symm
def EqF (P:å)(w:æ)(neg:Bool)(t:é)(x y:è)(g f:ø)(b:Bool):Prop :=
 (ï (z6 neg) t x y g f).run P w = .ok () w∧(∀op,(op = .eql∨op = .neq)→binOp op t g f=(do pure (.bool (CS (match op with|.neq=>ü|_=>ß) (←Op.equal t g f)))))∧(Op.equal t g f).run P w = .ok b w
section
variable {t e:é}{neg:Bool}{x y:è}
def Tm (f:P.underlying t=ä (.pointer e))(q:Option Addr):EqF P w neg t x y (.pointer ö) (.pointer q) q.isNone:=by
 refine⟨by cases neg <;> simp[ï,z6],by rintro op (rfl|rfl) <;> simp[binOp,CS], ?_⟩;have:∀d,(Op.equalIn (d+1) t (.pointer ö) (.pointer q)).run P w = .ok q.isNone w:=λd=>by simp[Op.equalIn,η f]
 exact this 9999
def abW (f:P.underlying t=ä (.pointer e))(q:Addr):EqF P w neg t x y (.pointer (ä q)) (.pointer ö) false:=by
 refine⟨by cases neg <;> simp[ï,z6],by rintro op (rfl|rfl) <;> simp[binOp,CS], ?_⟩;have:∀d,(Op.equalIn (d+1) t (.pointer (ä q)) (.pointer ö)).run P w = .ok ß w:=λd=>by simp[Op.equalIn,η f]
 exact this 9999
def aif (l:P.underlying t=ä (.pointer e))(g:ap P e≠0)(b m n:Nat):EqF P w neg t x y (.pointer (ä ⟨b,m,ö⟩)) (.pointer (ä ⟨b,n,ö⟩)) (Nat.beq m n):=by
 refine⟨by cases neg <;> simp[ï,z6],by rintro op (rfl|rfl) <;> simp[binOp,CS], ?_⟩;have p:((⟨b,m,ö⟩:Addr) == ⟨b,n,ö⟩)=Nat.beq m n:=by
  by_cases f:m=n
  ·subst f;simp[akT]
  ·have r:Nat.beq m n=false:=by cases j:Nat.beq m n with|false=>rfl|true=>exact absurd (qj.1 j) f
   rw[r];simp[f]
 have:∀d,(Op.equalIn (d+1) t (.pointer (ä ⟨b,m,ö⟩)) (.pointer (ä ⟨b,n,ö⟩))).run P w = .ok (Nat.beq m n) w:=λd=>by simp[Op.equalIn,η l,aH g,g,sameAddr,p]
 exact this 9999
def Tl (f:P.underlying t=ä (.slice e))(q:Option Addr)(n c:Nat):EqF P w neg t x y (.slice ö 0 0) (.slice q n c) q.isNone:=by
 refine⟨by cases neg <;> simp[ï,z6],by rintro op (rfl|rfl) <;> simp[binOp,CS], ?_⟩;have:∀d,(Op.equalIn (d+1) t (.slice ö 0 0) (.slice q n c)).run P w = .ok q.isNone w:=λd=>by simp[Op.equalIn,η f]
 exact this 9999
def abX (f:P.underlying t=ä (.slice e))(q:Addr)(n c:Nat):EqF P w neg t x y (.slice (ä q) n c) (.slice ö 0 0) false:=by
 refine⟨by cases neg <;> simp[ï,z6],by rintro op (rfl|rfl) <;> simp[binOp,CS], ?_⟩;have:∀d,(Op.equalIn (d+1) t (.slice (ä q) n c) (.slice ö 0 0)).run P w = .ok ß w:=λd=>by simp[Op.equalIn,η f]
 exact this 9999
end
variable{t:é}{q:EqK}{neg b:Bool}{x y:è}
def afm {p:Bool}(h:GJ P t p=ä q):match q with
 |.flat J agg=>iD P 20 t=ä J∧agg=oF (P.underlying t)∧(agg=ü→P.eqGuardType P.depth t=ß)
 |.ptr=>∃e,P.underlying t=ä (.pointer e)∧ap P e≠0
 |.slc=>∃e,P.underlying t=ä (.slice e):=by
 unfold GJ at h;split at h
 next e f=>
  split at h
  ·cases h
  next j=>cases h;exact⟨e,f,j⟩
 next e f=>cases h;exact⟨e,f⟩
 next fs f=>
  split at h
  ·cases h
  next l=>
   split at h
   next J g=>cases h;exact⟨g,by rw[f];rfl,λ_=>by simpa using l⟩
   ·cases h
 ·cases h
 next d _ _ hst _ f=>
  split at h
  next J g=>cases h;refine⟨g, ?_,λx=>by cases x⟩;rw[f];cases d <;> first|rfl|exact(hst _ rfl).elim
  ·cases h
 ·cases h
def abY (hni:∀k,P.underlying t≠ä (.int k))(hns:P.underlying t≠ä .string){J:List CK}{agg:Bool}(R:iD P 20 t=ä J)(r:agg=oF (P.underlying t))(hg:agg=ü→P.eqGuardType P.depth t=ß){p q:PV}{U T:ø}(h1:denP φ p=ä U)(h2:denP φ q=ä T)(g:eqP J agg p q=ä b):EqF P w neg t x y U T b:=by
 unfold eqP at g;split at g
 next c c'=>
  cases f:agg with
  |true=>rw[f]at g;cases g
  |false=>
   rw[f]at g r;have g:eqL J [c] [c']=ä b:=g;have j:=Dx (P:=P) (w:=w) 20 9980 t J R (.one c) (.one c') U T b h1 h2 r r g;have C:P.underlying t=ä .bool:=by
    simp[iD]at R;split at R
    ·assumption
    next k C=>exact absurd C (hni k)
    next C=>exact absurd C hns
    next C=>rw[C]at r;cases r
    ·cases R
   simp only[iD,C,ι]at R;subst R;cases c <;> cases c' <;> simp[eqL,eqC]at g;have z1:=Iv (φ:=φ) (v:=U) h1;have z2:=Iv (φ:=φ) (v:=T) h2;rw[z1,z2]at j⊢;exact⟨by cases neg <;> simp[ï,z6],by rintro op (rfl|rfl) <;> simp[binOp,CS],j⟩
 next l m=>
  cases f:agg with
  |false=>rw[f]at g;cases g
  |true =>have hg:=hg f;rw[f]at g r;have g:eqL J l m=ä b:=g;have j:=Dx (P:=P) (w:=w) 20 9980 t J R (.agg l) (.agg m) U T b h1 h2 r r g;obtain⟨xs,z1,_⟩:=xz (φ:=φ) (v:=U) h1;obtain⟨ys,z2,_⟩:=xz (φ:=φ) (v:=T) h2;rw[z1,z2]at j⊢;exact⟨by cases neg <;> simp[ï,z6,p?,hg],by rintro op (rfl|rfl) <;> simp[binOp,CS],j⟩
 ·cases g
def aig (U:∀k,P.underlying t≠ä (.int k))(T:P.underlying t≠ä .string)(R:GJ P t (isC x||isC y)=ä q){a1 a2:TV}{v1 v2:ø}(j:RT φ a1 v1)(f:RT φ a2 v2)(p:eqQ q a1 a2=ä b):EqF P w neg t x y v1 v2 b:=by
 have C:=afm R;unfold eqQ at p;split at p
 ·exact abY U T C.1 C.2.1 C.2.2 j f p
 ·obtain⟨e,r,hz⟩:=C;split at p;all_goals first|(cases p;done)|skip
  ·cases p;rw[kr j,kr f];exact Tm r ö
  ·cases p;obtain⟨l,_,z⟩:=gV f;rw[kr j,z];exact Tm r (ä _)
  ·cases p;obtain⟨l,_,z⟩:=gV j;rw[kr f,z];exact abW r _
  ·cases p;rw[kr j,Uj f];exact Tm r (ä _)
  ·cases p;rw[Uj j,kr f];exact abW r _
  next k g o1 k' g' o2=>
   cases J:(k.beq k'&&Nat.beq g g')with
   |false=>rw[J]at p;cases p
   |true =>rw[J,U']at p;simp only[θ,Pos.beq_iff,qj]at J;obtain⟨rfl,rfl⟩:=J;cases p;obtain⟨l,l1,z⟩:=gV j;obtain⟨l',l2,z'⟩:=gV f;rw[l1]at l2;cases l2;rw[z,z'];exact aif r hz _ _ _
 ·obtain⟨e,r⟩:=C;split at p;all_goals first|(cases p;done)|skip
  all_goals (simp at p;subst p)
  ·rw[fR j,fR f];exact Tl r ö 0 0
  ·obtain⟨l,_,z⟩:=Iu f;rw[fR j,z];exact Tl r (ä _) _ _
  ·obtain⟨l,_,z⟩:=Iu j;rw[fR f,z];exact abX r _ _ _
  ·obtain⟨l,c,z⟩:=KJ f;rw[fR j,z];exact Tl r (ä _) _ _
  ·obtain⟨l,c,z⟩:=KJ j;rw[fR f,z];exact abX r _ _ _
 ·cases p
def ahE (hI:Inv B R φ h w){ty:é}(ho:o.op = .binOp (z6 neg) t x y ty)(U:∀k,P.underlying t≠ä (.int k))(T:P.underlying t≠ä .string)(J:GJ P t (isC x||isC y)=ä q){C:List TV}(hv:RTs φ C [a.eval x,a.eval y]){f:Pos}{out:TV}{wr:Option (Pos×EO)}(g:(ab6 neg q C f).run h=ä (out,wr)):OkX P B R φ h w o a out wr:=by
 unfold ab6 at g;split at g
 ·obtain⟨v1,ws,j,r,p⟩:=hv.cons;obtain⟨v2,e2,l⟩:=p.one;subst e2;simp at j;obtain⟨j,e2⟩:=j;subst j;subst e2;split at g
  next b hb=>rw[yN]at g;cases g;obtain⟨h1,h2,h3⟩:=aig (neg:=neg) U T J r l hb (w:=w);exact aaD hI ho h1 h2 h3
  ·cases g
 ·cases g
end
variable [SymVal]
def ir {f:Type}{s:Nat}:∀{l:List (List f)},(∀a∈l,a.length=s)→l.flatten.length=l.length*s
 |[],_=>by simp
 |x::l,h=>by rw[K_,J',h x Ψ,ir λa g=>h a (by simp[g]),v_,j?,U?]
def ub {f:Type}{s:Nat}:∀{l:List (List f)},(∀a∈l,a.length=s)→∀{i j:Nat} {a:List f} {c:f},l[i]? = ä a→a[j]? = ä c→l.flatten[i*s+j]? = ä c
 |[],_,i,j,a,c,h,_=>by simp at h
 |x::l,hs,i,j,a,c,h,hj=>by
  have g:=hs x Ψ;cases i with
  |zero =>simp at h;subst h;have:=(f_.1 hj).1;rw[K_,akj,Z',I' this];exact hj
  |succ i=>
   simp at h;have:=ub (λa p=>hs a (by simp[p])) h hj;have e:(i+1)*s+j=x.length+(i*s+j):=by rw[g,j?];omega
   rw[K_,e,h_ Ω,akO];exact this
def oq {m:Nat}:∀{l:List (List CV)} {el:PT Ch} {i:Nat},i+l.length+2≤2^32→∀j,(se m l el i).get dch j=if h:i≤j∧j<i+l.length then⟨l[j-i]'Ω,m⟩else el.get dch j
 |[],el,i,_,j=>by rw[alb Ψ];rfl
 |a::l,el,i,hb,j=>by
  simp at hb;simp only[se];rw[oq (l:=l) (i:=i+1) Ω j,PT.cf dch _ 32 el i j Ω];by_cases g:i=j
  ·subst g;rw[alb Ω,Θ rfl,aki Ψ];simp
  ·rw[ω g];by_cases f:i+1≤j∧j<i+1+l.length
   ·rw[aki f,aki Ξ];congr 1;have:j-i=(j-(i+1))+1:=Ω
    simp[this]
   ·rw[alb f,alb Ξ]
section
variable {P:å}{B:Nat}{R:W0}{φ:Gx}{h:Pos→EO}{w:æ}{o:ë}{a:Act}
variable{e t:é}{cl:Call}{x:è}{C:List TV}{f:Pos}{out:TV}{wr:Option (Pos×EO)}
def Inv.newR (T:Inv B R φ h w){k:Pos}(hk:h k = .none){s N:Nat}{l:List (List CV)}{vs:List ø}{e7:Array ø}{fr:Nat×Nat}{fz:Fz}(hs:0<s)(hl:∀a∈l,a.length=s)(hd:dens φ l.flatten=ä vs)
  (C:∀(j:Nat) (v:ø),vs[j]? = ä v→e7[j]? = ä v) (hN:e7.size=N*s) (hn:l.length≤N) (hb:l.length+2≤2^32) (P:ajp fr e7.size fz) :
  φ.le (φ.add k ⟨w.heap.size,N,s⟩)∧Inv B R (φ.add k ⟨w.heap.size,N,s⟩) (upd h k (.row e s (se 0 l .leaf 0) l.length 0 fz)) (w.alloc (.cells e7 e fr)):=by
 have r:=T.qa hk ⟨w.heap.size,N,s⟩;have f:=λj=>oq (m:=0) (l:=l) (el :=.leaf) (i:=0) Ω j;refine⟨r,T.new hk rfl ⟨hs,hb,λi hi=>?_,λg hg=>?_,λg hg=>⟨⟨w.heap.size,N,s⟩, ?_,⟨T.size,rfl,e7,fr,w? w _,hN,P,λi hi _=>⟨by show i<N;omega, ?_⟩⟩,λ_=>hn⟩⟩⟩
 ·rw[f,aki Ω];exact ε _
 ·simp only[Gx.add,i?];rw[ω Ω]
 ·obtain rfl:g=0:=Ω
  exact Gx.gh _ _ _
 ·rw[f,aki Ω];have p:l[i-0]'Ω∈l:=j_ _;refine⟨hl _ p,λj c J=>?_⟩;have J:(l[i-0]'Ω)[j]? = ä c:=J;obtain⟨v,U,z2⟩:=mE hd (ub hl (i:=i-0) (ζ Ω) J);rw[akB]at U;exact⟨v,C _ _ U,dT r z2⟩
def Inv.rds (U:Inv B R φ h w){k:Pos}{g s:Nat}{l:Loc}(T:φ.loc k g=ä l):∀{n f:Nat} {x:List (List CV)},rk (h k) g s n f=ä x→x.length=n∧(∀a∈x,a.length=s)∧∃p,dens φ x.flatten=ä p∧∀j u,p[j]? = ä u→w.cell? ((⟨l.b,f,ö⟩:Addr).add j)=ä u
 |0,f,x,C=>by cases C;exact⟨rfl,(λ_ q=>by cases q),[],rfl,λj u q=>by simp at q⟩
 |n+1,f,x,C=>by
  simp[rk]at C;split at C
  next a r h1 h2=>
   cases C;obtain⟨p,q1,q2,q3,_⟩:=U.rd h1 T;obtain⟨p1,p2,ws,p3,p4⟩:=U.rds T h2;refine⟨by simp[p1],λb P=>?_,p++ws,cx q1 p3,λj u J=>?_⟩
   ·obtain rfl|P:=c_.1 P
    ·exact q2
    ·exact p2 b P
   ·have hvl:=ba q1;by_cases hj:j<p.length
    ·rw[I' hj]at J;exact q3 j u J
    ·rw[h_ Ω]at J;have:=p4 _ u J;rw[oQ]at this⊢;rw[show f+s+(j-p.length)=f+j by omega]at this;exact this
  ·cases C
def aet (hI:Inv B R φ h w)(U:o.op = .call cl)(p:cl.callee = .builtin .len)(j:cl.args = #[x])(l:cl.argTypes = #[t])(J:P.underlying t=ä .string)(r:RTs φ C [a.eval x])(g:(Jy C f).run h=ä (out,wr)):OkX P B R φ h w o a out wr:=by
 unfold Jy at g;split at g
 ·obtain⟨v,e,T⟩:=r.one;cases e;split at g
  next b=>rw[cR]at g;cases g;refine au hI ?_ (dl _ _);unfold ê;simp[U,resolve,p,j,invoke,builtin,Builtin.len_,l,(oE T).2,strV,η J,goInt,uT]
  ·cases g
 ·cases g
def aev (hI:Inv B R φ h w)(T:o.op = .call cl)(p:cl.callee = .builtin .len)(g:cl.args = #[x])(j:cl.argTypes = #[t])(r:P.underlying t=ä (.slice e))(U:RTs φ C [a.eval x])(l:(Jz C f).run h=ä (out,wr)):OkX P B R φ h w o a out wr:=by
 unfold Jz at l;split at l
 ·obtain⟨v,e,J⟩:=U.one;cases e;split at l;all_goals first|(cases l;done)|skip
  all_goals (rw[cR]at l;cases l;refine au hI ?_ (dl _ _);unfold ê)
  ·simp[T,resolve,p,g,invoke,builtin,Builtin.len_,j,fR J,η r,goInt]
  ·obtain⟨_,_,z⟩:=KJ J;simp[T,resolve,p,g,invoke,builtin,Builtin.len_,j,z,η r,goInt]
  ·obtain⟨_,_,z⟩:=Iu J;simp[T,resolve,p,g,invoke,builtin,Builtin.len_,j,z,η r,goInt]
 ·cases l
def aeu (U:Inv B R φ h w){k:é}(ho:o.op = .call cl)(T:cl.callee = .builtin .len)(j:cl.args = #[x])(p:cl.argTypes = #[t])(hu:P.underlying t=ä (.map k e))(hv:RTs φ C [a.eval x])(g:(P6 C f).run h=ä (out,wr)):OkX P B R φ h w o a out wr:=by
 unfold P6 at g;split at g
 ·obtain⟨v,e,hr⟩:=hv.one;cases e;split at g;all_goals first|(cases g;done)|skip
  ·rw[cR]at g;cases g;refine au U ?_ (dl _ _);unfold ê;simp[ho,resolve,T,j,invoke,builtin,Builtin.len_,p,KI hr,η hu,goInt]
  next m=>
   simp[Q.run]at g;have r:=U.obj m;split at g
   ·rename_i es cl' hm;rw[cR]at g;cases g;rw[hm]at r;obtain⟨_,l,vs,q1,_,q3,q4,_⟩:=r;obtain⟨l',l2,z⟩:=agx hr;rw[q1]at l2;cases l2;refine au U (v :=.int .i64 vs.size) ?_ (by show ä (Value.int .i64 (Int.ofNat es.length))=_;rw[←q4,ο];rfl);have J:(getObj l.b).run P w = .ok (.map vs cl') w:=by simp[getObj,Sem.run,q3]
    unfold ê;simp[ho,resolve,T,j,invoke,builtin,Builtin.len_,p,z,η hu,goInt,J]
   ·cases g
 ·cases g
def uq:∀{l:List (List CV)} {b:List Nat} {g:List ø},Ao l=ä b→dens φ l.flatten=ä g→okStr b=ü∧g=b.map λc=>Value.int .u8 (Int.ofNat c)
 |[],b,g,h,hd=>by cases h;cases hd;exact⟨rfl,rfl⟩
 |x::l,b,g,h,hd=>by
  unfold Ao at h;split at h
  next h0=>cases h0
  next n l' h0=>
   injection h0 with h0 f;subst h0;subst f;cases j:Nat.blt n 256 with
   |false=>rw[j]at h;cases h
   |true=>
    rw[j,U']at h;split at h
    next b' hb'=>cases h;obtain⟨v,ws,rfl,f,p⟩:=bS hd;obtain⟨q1,q2⟩:=uq hb' p;have f:ä (Value.int .u8 (Int.ofNat n))=ä v:=f;injection f with f;exact⟨OM (cB.1 j) q1,by rw[q2,←f];rfl⟩
    ·cases h
  ·cases h
def ad1 (b:List Nat)(C:Addr)(c:Nat)(j:(loadCells C b.length).run P w = .ok (b.map λc=>Value.int .u8 (Int.ofNat c)).toArray w):(Conv.bytesToString (.slice (ä C) b.length c)).run P w = .ok (strV b) w:=by
 have f:(loadCells C b.length).run P w = .ok ((b.map Int.ofNat).map (Value.int .u8)).toArray w:=by rw[j,V_];rfl
 rw[run_bytesToString (P:=P) w C b.length c (b.map Int.ofNat) f];have l:∀(p:List Nat) (g:ByteArray),(p.map Int.ofNat).foldl (λr n=>r.push (UInt8.ofNat n.toNat)) g=⟨g.data++(p.map UInt8.ofNat).toArray⟩:=by
  intro p;induction p with
  |nil=>intro g;simp
  |cons n p J=>intro g;simp only[c?,List.foldl_cons,J];congr 1;simp[ByteArray.push]
 rw[l];unfold strV;congr 3;simp
def ahG (U:Inv B R φ h w){s:é}(ho:o.op = .convert s t x)(hs:P.underlying s=ä (.slice e))(ht:P.underlying t=ä .string)(he:P.underlying e=ä (.int .u8))(hv:RTs φ C [a.eval x])(j:(afz C f).run h=ä (out,wr)):OkX P B R φ h w o a out wr:=by
 unfold afz at j;split at j
 ·obtain⟨v,e1,hr⟩:=hv.one;cases e1;split at j
  ·cases j;refine au U (v :=.string ⟨#[]⟩) ?_ (xL rfl);unfold ê;simp[ho,fR hr,convert,η hs,η ht,η he,Conv.bytesToString];rfl
  next k g r n cap=>
   simp[Q.run]at j;split at j
   ·rename_i l hl;split at j
    ·rename_i b hb;cases j;obtain⟨T,l1,z⟩:=Iu hr;obtain⟨q1,_,vs,q3,q4⟩:=U.rds l1 hl;obtain⟨p1,p2⟩:=uq hb q3;have hbl:b.length=n:=by
      have:vs.length=n*1:=by rw[ba q3,ir (s:=1) (λa ha=>(U.rds l1 hl).2.1 a ha),q1]
      rw[p2]at this;simpa using this
     refine au U ?_ (xL p1);have p:=aj9 (P:=P) w ⟨T.b,r,ö⟩ vs q4;rw[p2]at p;have J:=ad1 (P:=P) (w:=w) b ⟨T.b,r,ö⟩ (iA cap T.n (r/T.s)) (by simpa using p);rw[hbl]at J;unfold ê;simp[ho,z,convert,η hs,η ht,η he,J]
    ·cases j
   ·cases j
  ·cases j
 ·cases j
end
variable [SymVal]
def DN (z:Array ø)(n:Nat)(r:0<z.size):((Array.range (n*z.size)).map (z[· % z.size]!)).toList=(List.replicate n z.toList).flatten:=by
 apply N?;intro p;have f:∀a∈List.replicate n z.toList,a.length=z.size:=λa C=>by rw[akK C];simp
 by_cases g:p<n*z.size
 ·have J:p/z.size<n:=Nat.div_lt_of_lt_mul (by rw[aj2];exact g);have l:p%z.size<z.size:=Nat.mod_lt _ r;have j:(List.replicate n z.toList).flatten[p/z.size*z.size+p%z.size]? = ä z[p%z.size]:=ub f (a:=z.toList) (by rw[alK,Θ J]) (by simp[l]);rw[aj2,aly]at j;rw[j];simp[g,l]
 ·rw[w_ Ξ,w_ (by rw[ir f];simp;omega)]
def Qd {g:Type}{z:List g}{s:Nat}(f:z.length=s):∀(k n:Nat),k≤n→(List.replicate n z).flatten.drop (k*s)=(List.replicate (n-k) z).flatten
 |0,n,_=>by simp
 |k+1,n+1,h=>by rw[ak4,K_,j?,U?,←List.drop_drop,←f,akF,f,Qd f k n Ω,show n+1-(k+1)=n-k by omega]
 |k+1,0,h=>Ω
def GQ {f:Gx}{g:List CV}{z:List ø}(h:dens f g=ä z):∀n,dens f (List.replicate n g).flatten=ä (List.replicate n z).flatten
 |0=>rfl
 |n+1=>by rw[ak4,K_,ak4,K_];exact cx h (GQ h n)
def mz (f:Nat):∀(g:List ø) (k:Nat) (cells:Array ø),f+k+g.length≤cells.size →
  ((g.zipIdx k).foldl (λp (x:ø×Nat)=>p.setIfInBounds (f+x.2) x.1) cells).toList=cells.toList.take (f+k)++g++cells.toList.drop (f+k+g.length)
 |[],k,cells,_=>by simp
 |v::g,k,cells,h=>by
  simp;simp at h;rw[mz f g (k+1) _ Ξ];have j:f+k<cells.toList.length:=by simp;omega
  simp;rw[show f+(k+1)=f+k+1 by omega,show f+k+1+g.length=f+k+(g.length+1)by omega,List.take_set,List.drop_set_of_lt Ω,
   N' j,alX _ _ Ξ]
  have l:min (f+k) cells.size=f+k:=Ω
  simp[l]
def iO (off:Nat)(v:ø)(cells:Array ø)(h:off+v.cells.size≤cells.size) :
  (v.cells.zipIdx.foldl (λf (x:ø×Nat)=>f.setIfInBounds (off+x.2) x.1) cells).toList=cells.toList.take off++v.cells.toList++cells.toList.drop (off+v.cells.size):=by
 rw[←Array.foldl_toList,Array.toList_zipIdx];have:=mz off v.cells.toList 0 cells (by simpa using h);simpa using this
def uf (size:Nat):∀(g:List ø) (i:Nat) (f:Array ø),(∀v∈g,v.cells.size=size)→(i+g.length)*size≤f.size →
  ∃j,Instr.fill (λi=>ä (i*size,size)) f ((List.range' i g.length).zip g)=ä j∧j.toList=f.toList.take (i*size)++(g.map λv=>v.cells.toList).flatten++f.toList.drop ((i+g.length)*size)
 |[],i,f,_,h=>⟨f,by simp[Instr.fill],Ψ⟩
 |v::g,i,f,hv,h=>by
  have r:=hv v Ψ;have hm:i*size+size≤(i+(v::g).length)*size:=by rw[←Nat.succ_mul];exact r_ _ Ψ
  have l:i*size+v.cells.size≤f.size:=by rw[r];omega
  have p:=iO (i*size) v f l;have C:(v.cells.zipIdx.foldl (λP (x:ø×Nat)=>P.setIfInBounds (i*size+x.2) x.1) f).size=f.size:=by rw[←Array.length_toList,p];simp;omega
  have U:(i+1+g.length)*size=(i+(v::g).length)*size:=by congr 1;simp;omega
  obtain⟨j,e1,e2⟩:=uf size g (i+1) (v.cells.zipIdx.foldl (λP (x:ø×Nat)=>P.setIfInBounds (i*size+x.2) x.1) f) (λu hu=>hv u (by simp[hu])) (by rw[C,U];exact h);refine⟨j, ?_, ?_⟩
  ·simp only[v_,e?,aka,Instr.fill];have J:¬(v.cells.size≠size||i*size+v.cells.size>f.size)=true:=by
    simp[r];omega
   rw[ω J];exact e1
  ·rw[e2,p];have R:(f.toList.take (i*size)++v.cells.toList).length=(i+1)*size:=by
    simp[r,j?];omega
   have hd:(f.toList.take (i*size)++v.cells.toList++f.toList.drop (i*size+v.cells.size)).drop ((i+1+g.length)*size)=f.toList.drop ((i+(v::g).length)*size):=by have T:(i+1+g.length)*size=(i+1)*size+g.length*size:=d? _ _ _;rw[T,←List.drop_drop,←R,akF,O_];congr 1;rw[r,←U,T,j?]
   rw[hd,←R,R?];simp
section
variable {P:å}{B:Nat}{R:W0}{φ:Gx}{h:Pos→EO}{w:æ}{o:ë}{a:Act}
def TO:Option ø→Option Nat→Prop
 |none,ö=>True
 |some v,ä n=>∃k,v = .int k (Int.ofNat n)
 |_,_=>False
def Fl {b:Option è}{r g:List TV}{n:Option Nat}{vs:List ø}(f:aax b.isSome r=ä (n,g))(j:RTs φ r (b.toList.map a.eval++vs)):TO (b.map a.eval) n∧RTs φ g vs:=by
 cases b with
 |none =>cases f;exact⟨apa,j⟩
 |some x=>
  simp[aax]at f;split at f
  next t r1=>
   split at f
   next k m=>cases f;obtain⟨v,ws,e,p,l⟩:=j.cons;cases e;exact⟨⟨k,dE p⟩,l⟩
   ·cases f
  ·cases f
variable{lo hi:Option è}{x:è}{C:List TV}{f:Pos}{out:TV}{wr:Option (Pos×EO)}
def Qw {mx:Option è}{r:List TV}{k:Option Nat→Option Nat→Option Nat→Q}{cz:TV×Option (Pos×EO)}(f:(ac6 lo.isSome hi.isSome mx.isSome r k).run h=ä cz)(p:RTs φ r (lo.toList.map a.eval++(hi.toList.map a.eval++mx.toList.map a.eval))) :
  ∃l m n,(k l m n).run h=ä cz∧TO (lo.map a.eval) l∧TO (hi.map a.eval) m∧TO (mx.map a.eval) n:=by
 unfold ac6 at f;split at f
 next l r1 h1=>
  split at f
  next m r2 h2=>
   split at f
   next n h3=>obtain⟨b1,j⟩:=Fl h1 p;obtain⟨b2,g⟩:=Fl h2 j;obtain⟨C,_⟩:=Fl (vs:=[]) h3 (by simpa using g);exact⟨l,m,n,f,b1,b2,C⟩
   ·cases f
  ·cases f
 ·cases f
def EM (w:æ)(f:Bool)(len cap:Nat){lo hi mx:Option ø}{l m n:Option Nat}(j:TO lo l)(p:TO hi m)(J:TO mx n)(c1:gD n cap≤cap)(c2:gD m len≤gD n cap)(C:gD l 0≤gD m len)(c4:FL m n=ü) :
  (Instr.sliceBounds f len cap lo hi mx).run P w = .ok (gD l 0,gD m len,gD n cap) w:=by
 have g:∀(k:IntKind) (x y:Nat) (c:BoundsCode),x≤y→(Instr.sliceBound (.int k (Int.ofNat x)) y c).run P w = .ok x w:=λk x y c U=>by
  have:(x:Int)≤(y:Int):=Ω
  simp[Instr.sliceBound,asIntOf,this]
 cases mx with
 |none=>
  cases n with
  |some n=>exact J.elim
  |none=>
   simp[gD]at c1 c2 C⊢;cases hi with
   |none=>
    cases m with
    |some m=>exact p.elim
    |none=>
     cases lo with
     |none=>
      cases l with
      |some l=>exact j.elim
      |none=>simp[Instr.sliceBounds]
     |some v=>
      cases l with
      |none=>exact j.elim
      |some l =>obtain⟨k,rfl⟩:=j;simp only[Instr.sliceBounds,π,n_,χ,g k l _ _ C]
   |some T=>
    cases m with
    |none=>exact p.elim
    |some m=>
     obtain⟨r,rfl⟩:=p;cases lo with
     |none=>
      cases l with
      |some l=>exact j.elim
      |none=>simp only[Instr.sliceBounds,π,n_,χ,g r m _ _ c2]
     |some v=>
      cases l with
      |none=>exact j.elim
      |some l =>obtain⟨k,rfl⟩:=j;simp only[Instr.sliceBounds,π,n_,χ,g r m _ _ c2,g k l _ _ C]
 |some vm=>
  cases n with
  |none=>exact J.elim
  |some n=>
   obtain⟨R,rfl⟩:=J;simp only[gD]at c1 c2 C⊢;cases hi with
   |none=>
    cases m with
    |some m=>exact p.elim
    |none=>simp[FL]at c4
   |some T=>
    cases m with
    |none=>exact p.elim
    |some m=>
     obtain⟨r,rfl⟩:=p;cases lo with
     |none=>
      cases l with
      |some l=>exact j.elim
      |none=>simp only[Instr.sliceBounds,π,n_,χ,g R n _ _ c1,g r m _ _ c2]
     |some v=>
      cases l with
      |none=>exact j.elim
      |some l =>obtain⟨k,rfl⟩:=j;simp only[Instr.sliceBounds,π,n_,χ,g R n _ _ c1,g r m _ _ c2,g k l _ _ C]
def ael (hI:Inv B R φ h w){t:é}(ho:o.op = .slice t x lo hi ö)(hu:P.underlying t=ä .string)(hv:RTs φ C ((x::(lo.toList++hi.toList)).map a.eval))(r:(P4 lo.isSome hi.isSome C f).run h=ä (out,wr)):OkX P B R φ h w o a out wr:=by
 unfold P4 at r;split at r
 ·obtain⟨v1,ws,J,U,T⟩:=hv.cons;simp at J;obtain⟨J,e2⟩:=J;subst J;subst e2;obtain⟨l,m,n,j,b1,b2,b3⟩:=Qw (mx:=ö) r (by simpa using T);cases n with
  |some n=>exact b3.elim
  |none=>
   split at j
   ·rename_i b;cases p:(Nat.ble (gD m b.length) b.length&&Nat.ble (gD l 0) (gD m b.length))with
    |false=>rw[p]at j;cases j
    |true=>
     rw[p,U']at j;simp[br]at p;cases j;obtain⟨q1,q2⟩:=oE U;have hb:=EM (P:=P) w ß b.length b.length b1 b2 b3 (ε _) p.1 p.2 (by cases m <;> rfl);refine au hI ?_ (xL (Fv _ (So _ q1)));have g:(⟨(b.map UInt8.ofNat).toArray⟩:ByteArray).extract (gD l 0) (gD m b.length)=⟨(((b.take (gD m b.length)).drop (gD l 0)).map UInt8.ofNat).toArray⟩:=by apply alH;simp[alV,List.drop_take,alF]
     unfold ê;simp only[gD]at hb;simp[ho,q2,strV,Instr.sliceAt,π,η hu,Instr.slice,uT];simp at hb;rw[hb];simp[n_];simp[gD]at g;rw[g];rfl
   ·cases j
 ·cases r
def Inv.rowS (J:Inv B R φ h w){k:Pos}{g:Nat}{l:Loc}{e:é}{s:Nat}{U:PT Ch}{len j:Nat}{fz:Fz}(C:h k = .row e s U len j fz)(f:φ.loc k g=ä l):l.s=s:=by
 have p:=J.obj k;rw[C]at p;obtain⟨_,_,_,T,P⟩:=p;obtain x|x:=i_ j g
 ·rw[T g x]at f;cases f
 ·obtain⟨l',q1,⟨_,r,_⟩,_⟩:=P g x;rw[q1]at f;injection f with f;rw[←f];exact r
def Ii {k:Pos}{g off s l hh m:Nat}{f:Loc}(j:φ.loc k g=ä f):denP φ (.one (.sl k g (bif Nat.beq l m then off else off+l*s) (hh-l) (ä (m-l))))=ä (.slice (if m=l then ä ⟨f.b,off,ö⟩else ä ((⟨f.b,off,ö⟩:Addr).add (l*s))) (hh-l) (m-l)):=by
 show den φ (.sl k g _ _ _)=_;simp[den,j,iA,Am];by_cases e:m=l
 ·subst e;simp[akT]
 ·have:Nat.beq l m=false:=by cases p:Nat.beq l m with|false=>rfl|true=>exact absurd (qj.1 p).symm e
  rw[this,I_,ω e,oQ]
def aem (hI:Inv B R φ h w){t e:é}{mx:Option è}(ho:o.op = .slice t x lo hi mx)(hu:P.underlying t=ä (.slice e))(hz:ap P e≠0)(hf:h f = .none)(hv:RTs φ C ((x::(lo.toList++hi.toList++mx.toList)).map a.eval))(hq:(Vd (ap P e) lo.isSome hi.isSome mx.isSome C f).run h=ä (out,wr)):OkX P B R φ h w o a out wr:=by
 unfold Vd at hq;split at hq
 ·obtain⟨v1,ws,e1,hr1,hr2⟩:=hv.cons;simp at e1;obtain⟨e1,e2⟩:=e1;subst e1;subst e2;obtain⟨l,m,n,j,b1,b2,b3⟩:=Qw hq (by simpa using hr2);have T:∀(A:Option Addr) (len cap:Nat),a.eval x = .slice A len cap→gD n cap≤cap→gD m len≤gD n cap→gD l 0≤gD m len→FL m n=ü →
    (ê a.eval o).run P w = .ok (.value (.slice (if gD n cap=gD l 0 then A else A.map (·.add (gD l 0*ap P e))) (gD m len-gD l 0) (gD n cap-gD l 0))) w:=λA len cap hx c1 c2 c3 c4=>by
   have hb:=EM (P:=P) w ü len cap b1 b2 b3 c1 c2 c3 c4;unfold ê;simp[ho,hx,Instr.sliceAt,π,η hu,Instr.slice,hb,aH hz,n_]
  unfold agu at j;split at j
  ·cases r:(Nat.beq (gD l 0) 0&&Nat.beq (gD m 0) 0&&Nat.beq (gD n 0) 0&&FL m n)with
   |false=>rw[r]at j;cases j
   |true =>rw[r,U']at j;simp at r;obtain⟨⟨⟨c1,c2⟩,c3⟩,c4⟩:=r;cases j;have:=T ö 0 0 (fR hr1) Ω Ω Ω c4;rw[c1,c2,c3]at this;exact au hI this rfl
  next k g off len cap=>
   obtain⟨p,hl,z,hcf⟩:=KH hr1;split at j
   ·rename_i c;cases r:(Nat.ble (gD n c) c&&Nat.ble (gD m len) (gD n c)&&Nat.ble (gD l 0) (gD m len)&&FL m n)with
    |false=>rw[r]at j;cases j
    |true =>rw[r,U']at j;simp[br]at r;obtain⟨⟨⟨c1,c2⟩,c3⟩,c4⟩:=r;cases j;have:=T _ _ _ z c1 c2 c3 c4;refine au hI this ?_;have hs:=Ii (s:=ap P e) (off:=off) (l:=gD l 0) (hh:=gD m len) (m:=gD n c) hl;simp[iA];exact hs
   ·split at j
    ·rename_i n';split at j
     ·rename_i m';cases r:(Nat.ble n' len&&Nat.ble m' n'&&Nat.ble (gD l 0) m')with
      |false=>rw[r]at j;cases j
      |true =>rw[r,U']at j;simp[br]at r;obtain⟨⟨c1,c2⟩,c3⟩:=r;cases j;have hC:off/p.s+len≤p.n:=br.1 hcf;have:=T _ _ _ z (by simp[gD,iA];omega) (by simp[gD];exact c2) c3 rfl;refine au hI this ?_;have hs:=Ii (s:=ap P e) (off:=off) (l:=gD l 0) (hh:=m') (m:=n') hl;simp[gD]at hs⊢;exact hs
     ·cases j
    ·have hC:off/p.s+len≤p.n:=br.1 hcf;cases r:(Nat.ble (gD m len) len&&Nat.ble (gD l 0) (gD m len))with
     |false=>rw[r]at j;cases j
     |true=>
      rw[r,U']at j;simp[br]at r;obtain⟨c1,c2⟩:=r;have hr:=T _ _ _ z (ε _) (by simp[gD,iA]at c1⊢;omega) c2 (by cases m <;> rfl);generalize gD l 0=L at *;generalize gD m len=M at *;simp[gD,iA]at hr;cases hb:Nat.beq L 0 with
      |true =>rw[hb,U']at j;have hb:=qj.1 hb;subst hb;cases j;refine au hI hr ?_;show den φ (.sl k g off M ö)=_;simp only[den,hl,iA,Am];have hx:Nat.ble (off/p.s+M) p.n=true:=br.2 Ω;simp[hx,Addr.add]
      |false=>
       rw[hb,I_]at j;have hb:L≠0:=λe=>by rw[e]at hb;cases hb
       cases J:Nat.blt L len with
       |true=>
        rw[J,U']at j;have J:=cB.1 J;simp[Q.run]at j;split at j
        ·rename_i e' s' el' len' gen' fz' hk';cases U:Nat.beq (ap P e) s' with
         |false=>rw[U]at j;cases j
         |true=>
          rw[U,U']at j;have U:=qj.1 U;cases j;have hls:p.s=ap P e:=by rw[U];exact hI.rowS hk' hl
          refine au hI hr ?_;have hdiv:(off+L*ap P e)/p.s=off/p.s+L:=by rw[hls,Nat.add_mul_div_right _ _ Ω]
          show den φ (.sl k g (off+L*ap P e) (M-L) ö)=_;simp only[den,hl,iA,Am,hdiv];have hx:Nat.ble (off/p.s+L+(M-L)) p.n=true:=br.2 Ω;have hy:¬p.n-off/p.s=L:=Ω
          simp only[hx,i?,ω hy,oQ,Nat.sub_sub]
        ·cases j
       |false=>
        rw[J,I_]at j;have J:¬L<len:=λq=>by rw[cB.2 q]at J;cases J
        simp only[Q.run,ι,C']at j;obtain⟨rfl,rfl⟩:=j;have e0:M-L=0:=Ω
        rw[e0]at hr;have hval:∃A,(ê a.eval o).run P w = .ok (.value (.slice (ä A) 0 (p.n-off/p.s-L))) w:=by
         by_cases hCL:p.n-off/p.s=L
         ·simp only[hCL,i?]at hr⊢;exact⟨_,hr⟩
         ·simp only[hCL,akZ]at hr;exact⟨_,hr⟩
        obtain⟨A,hr⟩:=hval;have hle:=hI.le_addV hf (.slice (ä A) 0 (p.n-off/p.s-L));exact ju hr hle (hI.newV hf ⟨(hI.free hf).1,A,_,Gx.py _ _ _⟩) (by show den _ (.emp f)=_;simp only[den,Gx.py])
  ·cases j
 ·cases hq
end
variable [SymVal]
def Qh {f:Gx}{r new:List CV}{g j:List ø}{off:Nat}(p:dens f r=ä g)(l:dens f new=ä j):dens f (dh r off new)=ä (g.take off++j++g.drop (off+j.length)):=by unfold dh;rw[ba l];exact cx (cx (la off p) l) (iP _ p)
section
variable {P:å}{B:Nat}{R:W0}{φ:Gx}{h:Pos→EO}{w:æ}{o:ë}{a:Act}
def uh {place:Nat→Option (Nat×Nat)}:∀{parts:List (Nat×è)} {ps:List (Nat×Nat)} {C:List TV} {r j:List CV} {f:Array ø},parts.map (λp=>place p.1)=ps.map ä→CD ps C r=ä j→RTs φ C (parts.map λp=>a.eval p.2)→dens φ r=ä f.toList →
  ∃g,Instr.fill place f (parts.map λp=>(p.1,a.eval p.2))=ä g∧dens φ j=ä g.toList
 |[],[],[],r,j,f,_,hf,_,U=>by cases hf;exact⟨f,rfl,U⟩
 |(i,x)::parts,[],_,_,_,_,hp,_,_,_=>by simp at hp
 |[],_::_,_,_,_,_,hp,_,_,_=>by simp at hp
 |(i,x)::parts,(off,s)::ps,[],r,j,f,hp,hf,hv,U=>by simp[CD]at hf
 |[],[],_::_,_,_,_,_,hf,_,_=>by simp[CD]at hf
 |(i,x)::parts,(off,s)::ps,t::C,r,j,f,hp,hf,hv,U=>by
  simp at hp;obtain⟨hp1,hp2⟩:=hp;obtain⟨v,ws,e,hr,hv2⟩:=hv.cons;cases e;cases t with
  |unk=>simp[CD]at hf
  |tup l=>simp[CD]at hf
  |pv p=>
   simp[CD]at hf;cases hc:(Nat.beq p.cells.length s&&Nat.ble (off+s) r.length)with
   |false=>rw[hc]at hf;cases hf
   |true=>
    rw[hc,U']at hf;simp[br]at hc;have T:=da hr;have J:(a.eval x).cells.size=s:=by rw[←Array.length_toList,ba T,hc.1]
    have hal:f.size=r.length:=by rw[←Array.length_toList,ba U]
    have R:off+(a.eval x).cells.size≤f.size:=by rw[J,hal];exact hc.2
    have hfc:=iO off (a.eval x) f R;have P:=Qh (off:=off) U T;rw[ο,←hfc]at P;obtain⟨g,q1,q2⟩:=uh hp2 hf hv2 P;refine⟨g, ?_,q2⟩;simp only[c?,Instr.fill,hp1];have hno:¬(((a.eval x).cells.size≠s||off+(a.eval x).cells.size>f.size)=ü):=by simp[J];omega
    rw[ω hno];exact q1
def yZ {g:Array Field}:∀{parts:List (Nat×è)} {ps:List (Nat×Nat)},y9 P g parts=ä ps→parts.map (λp=>(g.map λf=>(f.offset,ap P f.type))[p.1]?)=ps.map ä
 |[],ps,h=>by cases h;rfl
 |(i,x)::parts,ps,h=>by
  simp[y9]at h;split at h
  next f hf=>
   split at h
   next l hl=>cases h;simp only[c?,yZ hl,k_,P_];simp[hf]
   ·cases h
  ·cases h
variable{t:é}
def zm (hI:Inv B R φ h w){parts:Array (Nat×è)}(ho:o.op = .build t parts){z:PV}(hz:dZ P t=ä z){ps:List (Nat×Nat)}
  (hp:(∃fs,P.underlying t=ä (.struct fs)∧(fs.toList.all λf=>(P.info? f.type).isSome)=ü∧y9 P fs parts.toList=ä ps)∨(∃n e,P.underlying t=ä (.array n e)∧ap P e≠0∧ps=parts.toList.map λp=>(p.1*ap P e,ap P e)))
  {C:List TV} (hv:RTs φ C ((parts.toList.map (·.2)).map a.eval)) {f:Pos} {out:TV} {wr:Option (Pos×EO)} (hq:(GM z.cells ps C f).run h=ä (out,wr)):OkX P B R φ h w o a out wr:=by
 unfold GM at hq;split at hq
 next cs hcs=>
  cases hq;obtain⟨i,v,h1,h2,h3⟩:=gq hz;have hd:=da (h3 φ);have hv':RTs φ C (parts.toList.map λp=>a.eval p.2):=by rw[V_]at hv;exact hv
  have U:(parts.map λ(i,x)=>(i,a.eval x)).toList=parts.toList.map λp=>(p.1,a.eval p.2):=by simp
  rcases hp with⟨fs,hu,r,hpl⟩|⟨n,e,hu,hse,rfl⟩
  ·obtain⟨T,q1,q2⟩:=uh (place:=λi=>(fs.map λf=>(f.offset,ap P f.type))[i]?) (yZ hpl) hcs hv' hd;refine au hI (v :=.agg T) ?_ (by show denP φ (.agg cs)=_;simp[denP,q2]);have hm:∀(l:List Field) (w:æ),(∀f∈l,∃j,P.info? f.type=ä j)→(l.mapM (λf=>(do pure (f.offset,←sizeOf f.type):Sem (Nat×Nat)))).run P w = .ok (l.map λf=>(f.offset,ap P f.type)) w:=by
    intro l;induction l with
    |nil=>intro w _;simp
    |cons f l ih=>
     intro w r;obtain⟨j,hj⟩:=r f Ψ;have h1:(do pure (f.offset,←sizeOf f.type):Sem (Nat×Nat)).run P w = .ok (f.offset,ap P f.type) w:=by simp[sizeOf,typeInfo,hj,ap]
     rw[akk,π,h1,χ,π,ih w (λg hg=>r g (by simp[hg])),χ];rfl
   have hall':∀f∈fs.toList,∃j,P.info? f.type=ä j:=λf hf=>Option.isSome_iff_exists.1 (P'.1 r f hf);have J:(fs.mapM λf=>(do pure (f.offset,←sizeOf f.type):Sem (Nat×Nat))).run P w = .ok (fs.map λf=>(f.offset,ap P f.type)) w:=by rw[H?,Sem.run_map,hm _ _ hall'];simp[Result.andThen,←Array.toList_map]
   unfold ê;simp only[ho,Instr.build,zeroValue,typeInfo,π,p?,h1,h2,n_,χ,η hu,J,U,q1]
  ·have hpl:parts.toList.map (λp=>(λi=>ä (i*ap P e,ap P e)) p.1)=(parts.toList.map λp=>(p.1*ap P e,ap P e)).map some:=by simp
   obtain⟨T,q1,q2⟩:=uh (place:=λi=>ä (i*ap P e,ap P e)) hpl hcs hv' hd;refine au hI (v :=.agg T) ?_ (by show denP φ (.agg cs)=_;simp[denP,q2]);unfold ê;simp[ho,Instr.build,zeroValue,typeInfo,π,p?,h1,h2,n_,η hu,aH hse,U,q1]
 ·cases hq
def ahx (T:Inv B R φ h w){r:Option è}(U:o.op = .makeMap t r){k e:é}(hu:P.underlying t=ä (.map k e)){f:Pos}(hf:h f = .none){C:List TV}(J:RTs φ C (r.toList.map a.eval)){out:TV}{wr:Option (Pos×EO)}(p:(afv C f).run h=ä (out,wr)):OkX P B R φ h w o a out wr:=by
 have j:(ê a.eval o).run P w = .ok (.value (.map (ä w.heap.size))) (w.alloc (.map #[] 0))→OkX P B R φ h w o a (.pv (.one (.mp f))) (ä (f,.map [] 0)):=λl=>by refine ju l (T.qa hf ⟨w.heap.size,0,0⟩) (T.new hf rfl ⟨λg hg=>?_,⟨w.heap.size,0,0⟩, #[],Gx.gh _ _ _,T.size,w? w _,rfl,λi e he=>by simp at he⟩) (by show den _ (.mp f)=_;simp[den,Gx.gh]);simp only[Gx.add,i?];rw[ω Ω]
 unfold afv at p;split at p
 ·cases p;refine j ?_;cases r with
  |none=>unfold ê;simp[U,Instr.makeMap]
  |some x=>simp[RTs]at J
 ·cases p;refine j ?_;cases r with
  |none=>simp[RTs]at J
  |some x =>have e1:=dE (J:RTs φ _ [a.eval x]).1;unfold ê;simp[U,Instr.makeMap,η hu,asInt,asIntOf,e1]
 ·cases p
end
variable [SymVal]
section
variable {P:å}{B:Nat}{R:W0}{φ:Gx}{h:Pos→EO}{w:æ}{o:ë}{a:Act}
def uN (f:Pos→EO)(k:Pos)(x y:EO):upd (upd f k x) k y=upd f k y:=by funext q;simp[upd];split <;> rfl
def Hu (w:æ)(g:Nat)(x y:Array ø):(w.setRow g x).setRow g y=w.setRow g y:=by
 unfold World.setRow;simp[World.mk.injEq];apply Array.ext_getElem?;intro i;simp only[b?];by_cases e:g=i
 ·simp[e];congr 1;funext f;cases f <;> rfl
 ·simp[e]
def Inv.wrs {k:Pos}{g s:Nat}{l:Loc}:∀{x:List CV} {r:List (List CV)} {h:Pos→EO} {w:æ} {j:Nat} {o':EO} {f:List ø},Inv B R φ h w→ou g s (x::r) (h k) j=ä o'→(∀a∈x::r,a.length=s)→φ.loc k g=ä l→dens φ (x::r).flatten=ä f →
  ∃p e,w.heap[l.b]? = ä (.cells p e (0,0))∧j+f.length≤p.size∧Inv B R φ (upd h k o') (w.setRow l.b (p.toList.take j++f++p.toList.drop (j+f.length)).toArray)
 |x,[],h,w,j,o',f,hI,hr,hs,hl,U=>by
  simp[ou]at hr;split at hr
  next o1 h1=>
   cases hr;have U:dens φ x=ä f:=by simpa using U
   exact hI.wr h1 hl U
  ·cases hr
 |x,y::r,h,w,j,o',f,hI,hr,hs,hl,U=>by
  rw[ou]at hr;split at hr
  next o1 h1=>
   rw[K_]at U;have hxs:=hs x Ψ;obtain⟨P,hn1⟩:∃vs,dens φ x=ä vs:=by
    have:=la x.length U;rw[R?]at this;exact⟨_,this⟩
   obtain⟨T,hn2⟩:∃vs,dens φ (y::r).flatten=ä vs:=by have:=iP x.length U;rw[akF]at this;exact⟨_,this⟩
   have J:f=P++T:=by have:=cx hn1 hn2;rw[U]at this;exact Δ this
   have hl1:P.length=s:=by rw[ba hn1,hxs]
   obtain⟨p,e,q1,q2,q3⟩:=hI.wr h1 hl hn1;have hk1:(upd h k o1) k=o1:=aU _ _ _;obtain⟨C,e2,p1,p2,p3⟩:=Inv.wrs (h:=upd h k o1) q3 (by rw[hk1];exact hr) (λa ha=>hs a (by simp at ha⊢;exact .inr ha)) hl hn2;rw[akY w l.b p _ e _ q1]at p1;injection p1 with p1;injection p1 with p1 _ _;have hal:C.toList=p.toList.take j++P++p.toList.drop (j+P.length):=by rw[←p1]
   have hlen:C.size=p.size:=by rw[←Array.length_toList,hal];simp;omega
   refine⟨p,e,q1,by rw[J,J'];omega, ?_⟩;rw[uN]at p3;rw[Hu]at p3;have harr:C.toList.take (j+s)++T++C.toList.drop (j+s+T.length)=p.toList.take j++f++p.toList.drop (j+f.length):=by
    have e1:C.toList.take (j+s)=p.toList.take j++P:=by rw[hal,alz];rw[J',g_,ο,hl1];omega
    have e2:C.toList.drop (j+s+T.length)=p.toList.drop (j+f.length):=by
     rw[hal,←List.drop_drop,List.drop_left',O_]
     ·congr 1;rw[J,J',hl1];omega
     ·rw[J',g_,ο,hl1];omega
    rw[e1,e2,J];simp
   rw[harr]at p3;exact p3
  ·cases hr
def ZO (hI:Inv B R φ h w){s:Nat}{str:Bool}{x:TV}{v:ø}{k:List (List CV)→Q}{cz:TV×Option (Pos×EO)}(f:(ag8 s str x k).run h=ä cz)(J:RT φ x v){T:é}(C:(str=ß∧∃e,P.underlying T=ä (.slice e))∨(str=ü∧P.underlying T=ä .string∧s=1)) :
  ∃l p,(k l).run h=ä cz∧(∀a∈l,a.length=s)∧dens φ l.flatten=ä p∧Go.Src P s T v l.length p w:=by
 unfold ag8 at f;split at f
 next j g off n cap=>
  rcases C with⟨rfl,e,r⟩|⟨rfl,_,_⟩
  ·simp[Q.run]at f;split at f
   next l hl=>obtain⟨lc,l1,z⟩:=Iu J;obtain⟨q1,q2,vs,U,q4⟩:=hI.rds l1 hl;refine⟨l,vs,f,q2,U, ?_⟩;rw[z,q1];exact Go.Src.ofSlice w r _ n _ vs (by rw[ba U,ir q2,q1]) q4 (GR U)
   ·cases f
  ·cases f
 ·rcases C with⟨rfl,e,r⟩|⟨rfl,_,_⟩
  ·refine⟨[],[],f,(λ_ q=>by cases q),rfl, ?_⟩;rw[fR J];exact Go.Src.ofNil w r 0
  ·cases f
 next kk=>
  rcases C with⟨rfl,e,r⟩|⟨rfl,_,_⟩
  ·refine⟨[],[],f,(λ_ q=>by cases q),rfl, ?_⟩;obtain⟨A,c,z⟩:=KJ J;rw[z];exact Go.Src.ofSlice w r A 0 c [] Ψ (λj u q=>by simp at q) (λu q=>by cases q)
  ·cases f
 next b=>
  rcases C with⟨rfl,_⟩|⟨rfl,r,rfl⟩
  ·cases f
  ·obtain⟨h1,z⟩:=oE J;have hd:∀b:List Nat,okStr b=ü→dens φ (b.map λc=>[CV.int .u8 (Int.ofNat c)]).flatten=ä (byteCells ⟨(b.map UInt8.ofNat).toArray⟩):=by
    intro b;induction b with
    |nil=>intro _;rfl
    |cons c b ih=>
     intro hb;obtain⟨b1,b2⟩:=gi hb;have:=ih b2;rw[c?,K_];have e1:byteCells ⟨((c::b).map UInt8.ofNat).toArray⟩=[Value.int .u8 (Int.ofNat c)]++byteCells ⟨(b.map UInt8.ofNat).toArray⟩:=by unfold byteCells;simp;omega
     rw[e1];exact cx rfl this
   refine⟨b.map λc=>[.int .u8 (Int.ofNat c)],_,f,λa ha=>?_,hd b h1, ?_⟩
   ·obtain⟨c,_,rfl⟩:=a_.1 ha;rfl
   ·rw[z,G'];have:=Go.Src.ofString (P:=P) w r ⟨(b.map UInt8.ofNat).toArray⟩;rw[uT]at this;exact this
 ·cases f
def wR {t R ty e:é}{i:TypeInfo}(U:P.underlying t=ä (.slice e))(hi:P.info? e=ä i){b off f sCap:Nat}{x:ø}{n:Nat}{g:List ø}(C:Go.Src P i.size R x n g w)(l:f+n≤sCap){j:Array ø}{J:é}(hb:w.heap[b]? = ä (.cells j J (0,0)))(r:off+f*i.size+g.length≤j.size) :
  (Builtin.append_ #[t,R] ty #[.slice (ä ⟨b,off,ö⟩) f sCap,x]).run P w = .ok (.slice (ä ⟨b,off,ö⟩) (f+n) sCap) (w.setRow b (j.toList.take (off+f*i.size)++g++j.toList.drop (off+f*i.size+g.length)).toArray):=by
 have p:=akI P b (off+f*i.size) J g 0 j w hb (by simpa using r) C.one;simp at p;rcases C.kind with⟨J,T⟩|T <;> simp[Builtin.append_,η U,η T,sizeOf,typeInfo,hi,C.len,l,C.cells,Addr.add_lit,p]
end
variable [SymVal]
section
variable {P:å}{B:Nat}{R:W0}{φ:Gx}{h:Pos→EO}{w:æ}{o:ë}{a:Act}
variable{cl:Call}{k:Pos}{e:é}{l:List (List CV)}{news:List ø}
def eY {s x:è}{t r:é}(C:o.op = .call cl)(l:cl.callee = .builtin .append)(f:cl.args = #[s,x])(j:cl.argTypes = #[t,r]){v:ø}{p:æ}(g:(Builtin.append_ #[t,r] o.type #[a.eval s,a.eval x]).run P w = .ok v p) :
  (ê a.eval o).run P w = .ok (.value v) p:=by
 unfold ê;simp[C,resolve,l,f,j,invoke,builtin,g]
def DL (z:Array ø)(n:Nat):(Builtin.zeroCells z n).size=n*z.size:=by simp[Builtin.zeroCells]
def Gx.lb (φ:Gx)(k:Pos)(g:Nat)(l:Loc):Gx:=⟨λq m=>if q=k∧m=g then ä l else φ.loc q m,φ.val,φ.mu⟩
def Gx.tj (φ:Gx)(k:Pos)(g:Nat)(l:Loc):(φ.lb k g l).loc k g=ä l:=by simp[Gx.lb]
def Gx.turn_ne (φ:Gx){g m:Nat}(l:Loc)(f:m≠g):(φ.lb k g l).loc k m=φ.loc k m:=by simp[Gx.lb,f]
def Inv.turnUp (hI:Inv B R φ h w){s:Nat}{el:PT Ch}{len g n:Nat}(hrow:h k = .row e s el len g .no){lc:Loc}(hl:φ.loc k g=ä lc)(hn:n≤len)(hb:n+l.length≤4294967290)
  (hall:∀a∈l,a.length=s) (hd:dens φ l.flatten=ä news) {w':æ} {l':Loc} {r:Array ø} (hls:l'.s=s) (hB:B≤l'.b) (harr':w'.heap[l'.b]? = ä (.cells r e (0,0))) (hsz:r.size=l'.n*s) (hN:n+l.length≤l'.n)
  (hold:∀j,j<n*s→∀e7 e fr,w.heap[lc.b]? = ä (.cells e7 e fr)→r[j]? = e7[j]?) (hnew:∀(j:Nat) (u:ø),news[j]? = ä u→r[n*s+j]? = ä u)
  (P:l'.b=lc.b∨w.heap.size≤l'.b) (hsame:l'.b=lc.b→∀e7 e fr,w.heap[lc.b]? = ä (.cells e7 e fr)→r.size=e7.size)
  (hw:∀b,b<w.heap.size→b≠l'.b→w'.heap[b]? = w.heap[b]?) (hos:w'.os=w.os) (htp:w'.tape=w.tape) (hou:w'.output=w.output) (hws:w.heap.size≤w'.heap.size) (hdr:dz w≤dz w') :
  φ.le (φ.lb k (g+1) l')∧Inv B R (φ.lb k (g+1) l') (upd h k (.row e s (se (g+1) l el n) (n+l.length) (g+1) .no)) w':=by
 have hob:=hI.obj k;rw[hrow]at hob;obtain⟨h0,h1,hmm,h2,h3⟩:=hob;have hle:φ.le (φ.lb k (g+1) l'):=⟨λq m x J=>by
  by_cases e:q=k∧m=g+1
  ·obtain⟨rfl,rfl⟩:=e;rw[h2 _ Ω]at J;cases J
  ·simp[Gx.lb,ω e];exact J,λ_ _ hv=>hv,λ_ _ hv=>hv⟩
 have U:=λj=>oq (m:=g+1) (l:=l) (el:=el) (i:=n) Ω j;have hin:∀{i j:Nat},i<n→j<s→i*s+j<n*s:=λ{i j} hi hj=>by have h5:(i+1)*s≤n*s:=r_ s hi;have h6:(i+1)*s=i*s+s:=j? _ _;omega
 refine⟨hle,hI.lb hle (λq hq=>⟨λm=>by simp[Gx.lb,hq],rfl,rfl⟩) (λm x J=>?_) (λb hb hne=>hw b hb λeb=>?_) (λm x J ob hb hst=>?_) hos htp hou hws hdr ⟨h0,Ω,λi hi=>?_,λm hm=>?_,λm hm=>?_⟩⟩
 ·by_cases em:m=g+1
  ·subst em;rw[Gx.tj]at J;cases J;obtain q|q:=P
   ·exact .inl ⟨g,lc,hl,q.symm⟩
   ·exact .inr q
  ·rw[Gx.turn_ne _ _ em]at J;exact .inl ⟨m,x,J,rfl⟩
 ·obtain q|q:=P
  ·exact hne g lc hl (by rw[←q];exact eb.symm)
  ·omega
 ·obtain hgt|hle':=i_ g m
  ·rw[h2 m hgt]at J;cases J
  ·obtain⟨l2,y1,⟨y2,y3,p,T,y4,_⟩,_⟩:=h3 m hle';rw[y1]at J;cases J;rw[y4]at hb;cases hb;cases hst
 ·rw[U];split
  ·exact ε _
  ·have:=hmm i Ω;omega
 ·rw[Gx.turn_ne _ _ Ω];exact h2 m Ω
 ·by_cases em:m=g+1
  ·subst em;refine⟨l',Gx.tj _ _ _ _,⟨hB,hls,r,(0,0),harr',hsz,rfl,λi hi _=>⟨Ω, ?_⟩⟩,λ_=>hN⟩;rw[U];by_cases C:n≤i∧i<n+l.length
   ·rw[aki C];have hmem:l[i-n]'Ω∈l:=j_ _;refine⟨hall _ hmem,λj c hj=>?_⟩;have hj:(l[i-n]'Ω)[j]? = ä c:=hj;obtain⟨v,z1,z2⟩:=mE hd (ub hall (i:=i-n) (ζ Ω) hj);refine⟨v, ?_,dT hle z2⟩;have:=hnew _ _ z1;rw[←Nat.add_assoc,←Nat.add_mul,show n+(i-n)=i by omega]at this;exact this
   ·rw[alb C];obtain⟨l2,y1,⟨y2,y3,p,T,y4,y5,y6,y7⟩,y8⟩:=h3 g (ε _);rw[hl]at y1;cases y1;obtain⟨x1,x2,x3⟩:=y7 i Ω (hmm i Ω);refine⟨x2,λj c hj=>?_⟩;obtain⟨v,z1,z2⟩:=x3 j c hj;have hjs:=(f_.1 hj).1;refine⟨v, ?_,dT hle z2⟩;rw[hold _ (hin Ω Ω) p e T y4];exact z1
  ·obtain⟨l2,y1,⟨y2,y3,p,T,y4,y5,y6,y7⟩,y8⟩:=h3 m Ω;refine⟨l2,by rw[Gx.turn_ne _ _ em];exact y1, ?_,λJ=>absurd J em⟩;have hlt:=hI.lt y1;by_cases hbb:l2.b=l'.b
   ·have hlc:l'.b=lc.b:=by
     obtain q|q:=P
     ·exact q
     ·omega
    have y4':w.heap[lc.b]? = ä (.cells p e T):=by rw[←hlc,←hbb];exact y4
    refine⟨y2,y3,r,(0,0),by rw[hbb];exact harr',by rw[hsame hlc p e T y4'];exact y5,rfl,λi hi f=>?_⟩;rw[U]at f⊢;by_cases C:n≤i∧i<n+l.length
    ·rw[aki C]at f;simp only at f;omega
    ·rw[alb C]at f⊢;obtain⟨x1,x2,x3⟩:=y7 i Ω f;refine⟨x1,x2,λj c hj=>?_⟩;obtain⟨v,z1,z2⟩:=x3 j c hj;have hjs:=(f_.1 hj).1;refine⟨v, ?_,dT hle z2⟩;rw[hold _ (hin Ω Ω) p e T y4'];exact z1
   ·refine⟨y2,y3,p,T,by rw[hw _ hlt hbb];exact y4,y5,y6,λi hi f=>?_⟩;rw[U]at f⊢;by_cases C:n≤i∧i<n+l.length
    ·rw[aki C]at f;simp only at f;omega
    ·rw[alb C]at f⊢;obtain⟨x1,x2⟩:=y7 i Ω f;exact⟨x1,x2.mono hle⟩
def Bk {n bytes:Nat}(h:n*bytes≤140737488355328){sb:Nat}(f:sb<n):Builtin.nextslicecap n sb*bytes≤281474976710656:=alC f h
def Inv.drw (f:Inv B R φ h w):Inv B R φ h w.drew:=f.drew
def VE (hI:Inv B R φ h w){f:Pos}(hf:h f = .none){z:PV}(hz:dZ P e=ä z)(J:z.cells.length=ap P e)(hs0:ap P e≠0){sb:List (List CV)}{olds:List ø}{N:Nat}(p:∀a∈sb,a.length=ap P e)(hl:∀a∈l,a.length=ap P e)(hd1:dens φ sb.flatten=ä olds)(U:dens φ l.flatten=ä news)
  (hb:sb.length+l.length≤4294967290) (hN:sb.length+l.length≤N) :
  ∃i v,P.info? e=ä i∧i.zero=ä v∧i.size=ap P e∧i.bytes=wC P e ∧
   φ.le (φ.add f ⟨w.heap.size,N,ap P e⟩)∧Inv B R (φ.add f ⟨w.heap.size,N,ap P e⟩) (upd h f (newRow e (ap P e) (sb++l) (sb.length+l.length))) (w.drew.alloc (.cells ((olds++news).toArray++Builtin.zeroCells v.cells (N-(sb.length+l.length))) e)) ∧
   RT (φ.add f ⟨w.heap.size,N,ap P e⟩) (.pv (.one (.sl f 0 0 (sb.length+l.length) ö))) (.slice (ä ⟨w.heap.size,0,ö⟩) (sb.length+l.length) N):=by
 obtain⟨i,v,h1,h2,h3⟩:=gq hz;have T:v.cells.size=ap P e:=by rw[←Array.length_toList,ba (da (h3 φ)),J]
 have g:∀a∈sb++l,a.length=ap P e:=λa ha=>by
  obtain q|q:=q'.1 ha
  ·exact p a q
  ·exact hl a q
 have C:dens φ (sb++l).flatten=ä (olds++news):=by rw[akx];exact cx hd1 U
 have r:(olds++news).length=(sb.length+l.length)*ap P e:=by rw[ba C,ir g,J']
 obtain⟨q1,q2⟩:=hI.drw.newR hf (e:=e) (s:=ap P e) (N:=N) (l:=sb++l) (vs:=olds++news) (e7:=(olds++news).toArray++Builtin.zeroCells v.cells (N-(sb.length+l.length))) (fr:=(0,0)) (fz :=.no) Ω g C
  (λj u hu=>by
   have hj:=(f_.1 hu).1;rw[n? (by simpa using hj)];simpa using hu) (by
   rw[Array.size_append,DL,T,l?,r,←Nat.add_mul];congr 1;omega) (by rw[J'];exact hN) (by rw[J'];omega) rfl
 rw[J']at q2;refine⟨i,v,h1,h2,by simp[ap,h1],by simp[wC,h1],q1,q2, ?_⟩;show den _ (.sl f 0 0 _ ö)=_;have hc:Am ö (sb.length+l.length) N 0=true:=by simp only[Am,Z'];exact br.2 hN
 simp[den,Gx.gh,hc,iA]
def aaE (hI:Inv B R φ h w){s x:è}{t tx:é}{str:Bool}(ho:o.op = .call cl)(hcl:cl.callee = .builtin .append)(J:cl.args = #[s,x])(hty:cl.argTypes = #[t,tx])(hu:P.underlying t=ä (.slice e)){z:PV}(hz:dZ P e=ä z)(hzs:z.cells.length=ap P e)(hs0:ap P e≠0)
  (ht:(str=ß∧∃e,P.underlying tx=ä (.slice e))∨(str=ü∧P.underlying tx=ä .string∧ap P e=1)) {f:Pos} (hf:h f = .none) {C:List TV} (hv:RTs φ C [a.eval s,a.eval x]) {out:TV} {wr:Option (Pos×EO)} (hq:(afA e (ap P e) (wC P e) str C f).run h=ä (out,wr)):OkX P B R φ h w o a out wr:=by
 obtain⟨i,zv,hi,hiz,_⟩:=gq hz;have his:i.size=ap P e:=by simp[ap,hi]
 have hib:i.bytes=wC P e:=by simp[wC,hi]
 unfold afA at hq;split at hq
 ·obtain⟨v1,ws,e1,hr1,hr2⟩:=hv.cons;obtain⟨v2,e2,hr3⟩:=hr2.one;subst e2;simp at e1;obtain⟨e1,e2⟩:=e1;subst e1;subst e2;obtain⟨l,news,p,hall,hd,hsrc⟩:=ZO hI hq hr3 ht;have r:Go.Src P i.size tx (a.eval x) l.length news w:=by rw[his];exact hsrc
  unfold ajk at p;split at p
  ·
   have ev:=fR hr1;split at p
   ·cases p;refine au hI (v :=.slice ö 0 0) (eY ho hcl J hty ?_) rfl;rw[ev];have hnn:news=[]:=Q' (by rw[hsrc.newsLen];simp);subst hnn;have g1:=r.len;have g2:=r.cells;simp at g1 g2;rcases r.kind with⟨e',p⟩|p <;> simp[Builtin.append_,η hu,η p,sizeOf,typeInfo,hi,g1,g2]
   ·rename_i hne;cases hc:(Nat.ble (l.length*wC P e) 140737488355328&&km (ap P e) l&&Nat.ble l.length 4294967290)with
    |false=>rw[hc]at p;cases p
    |true=>
     rw[hc,U']at p;simp[br]at hc;obtain⟨⟨c1,c2⟩,c3⟩:=hc;cases p;have hpos:0<l.length:=by
      cases l with
      |nil=>exact absurd rfl hne
      |cons _ _=>simp
     have hcap:=grownCap_ge w l.length 0 e;obtain⟨i',v',y1,y2,y3,y4,y5,y6,y7⟩:=VE (P:=P) hI hf hz hzs hs0 (sb:=[]) (l:=l) (olds:=[]) (news:=news) (N:=grownCap w l.length 0 e) (λ_ q=>by cases q) hall rfl hd (by simpa using c3) (by simpa using hcap);simp at y6 y7;refine ju (eY ho hcl J hty ?_) y5 y6 y7;rw[ev];have:=run_append_grow_src (P:=P) w t tx o.type e i' v' hu y1 y2 ö 0 0 [] (run_firstCells_none w.drew i'.size 0 0 0) (a.eval x) l.length news (by rw[y3];exact hsrc) Ω Ω (by rw[y4];simpa using Bk c1 (sb:=0) hpos);simpa using this
  next k g off n cap=>
   obtain⟨T,hl,ev,hcf⟩:=KH hr1;split at p
   ·have hroom:n≤iA cap T.n (off/T.s)∧out = .pv (.one (.sl k g off n cap))∧wr=none:=by
     cases cap with
     |some c=>
      simp only at p;cases hc:Nat.ble n c with
      |false=>rw[hc]at p;cases p
      |true =>rw[hc,U']at p;simp[Q.run]at p;exact⟨br.1 hc,p.1.symm,p.2.symm⟩
     |none =>simp[Q.run]at p;refine⟨?_,p.1.symm,p.2.symm⟩;have:=br.1 hcf;simp[iA];omega
    obtain⟨hroom,rfl,rfl⟩:=hroom;refine au hI (eY ho hcl J hty ?_) hr1;rw[ev];have hnn:news=[]:=Q' (by rw[hsrc.newsLen];simp);subst hnn;have g1:=r.len;have g2:=r.cells;simp at g1 g2;rcases r.kind with⟨e',p⟩|p <;> simp[Builtin.append_,η hu,η p,sizeOf,typeInfo,hi,g1,g2,hroom,storeCells]
   ·rename_i hne;have hpos:0<l.length:=by
     cases l with
     |nil=>exact absurd rfl hne
     |cons _ _=>simp
    simp[Q.run]at p;have inplace:∀o',ou g (ap P e) l (h k) (off+n*ap P e)=ä o'→n+l.length≤iA cap T.n (off/T.s)→RT φ (.pv (.one (.sl k g off (n+l.length) cap))) (.slice (ä ⟨T.b,off,ö⟩) (n+l.length) (iA cap T.n (off/T.s)))→OkX P B R φ h w o a (.pv (.one (.sl k g off (n+l.length) cap))) (ä (k,o')):=λo' hw hroom hrt=>by
     cases l with
     |nil=>exact absurd rfl hne
     |cons x0 r0 =>obtain⟨U,e',z1,z2,z3⟩:=hI.wrs hw hall hl hd;refine ju (eY ho hcl J hty ?_) (Gx.le.refl φ) z3 hrt (yi hw);rw[ev];have:=wR (P:=P) (ty:=o.type) hu hi r hroom z1 (by rw[his];exact z2);rw[his]at this;exact this
    split at p
    ·rename_i c;cases hc:Nat.ble (n+l.length) c with
     |true=>
      rw[hc,U']at p;split at p
      next o' hw=>cases p;refine inplace o' hw (br.1 hc) ?_;show den φ (.sl k g off _ (ä c))=_;simp[den,hl,Am]
      ·cases p
     |false=>
      rw[hc,I_]at p;have hc:c<n+l.length:=by
       rcases i_ c (n+l.length)with q|q
       ·exact q
       ·rw[br.2 q]at hc;cases hc
      split at p
      ·rename_i sb hold;cases hc2:(Nat.ble ((n+l.length)*wC P e) 140737488355328&&km (ap P e) sb&&km (ap P e) l&&Nat.ble (n+l.length) 4294967290)with
       |false=>rw[hc2]at p;cases p
       |true=>
        rw[hc2,U']at p;simp[br]at hc2;obtain⟨⟨⟨c1,_⟩,_⟩,c4⟩:=hc2;cases p;obtain⟨q1,q2,olds,q3,q4⟩:=hI.rds hl hold;have hcap:=grownCap_ge w (n+l.length) c e;obtain⟨i',v',y1,y2,y3,y4,y5,y6,y7⟩:=VE (P:=P) hI hf hz hzs hs0 (sb:=sb) (l:=l) (olds:=olds) (news:=news) (N:=grownCap w (n+l.length) c e) q2 hall q3 hd Ω Ω;rw[q1]at y6 y7;refine ju (eY ho hcl J hty ?_) y5 y6 y7;rw[ev];have hol:olds.length=n*i'.size:=by rw[ba q3,ir q2,q1,y3]
        exact run_append_grow_src (P:=P) w t tx o.type e i' v' hu y1 y2 (ä ⟨T.b,off,ö⟩) n c olds (run_firstCells_some w.drew i'.size n _ n c olds hol (by simpa using q4)) (a.eval x) l.length news (by rw[y3];exact hsrc) hc Ω (by rw[y4];exact Bk c1 hc)
      ·cases p
    ·split at p
     ·rename_i e' s' el len gen fz hrow;cases hc:(Nat.beq e e'&&Nat.beq (ap P e) s'&&Nat.beq g gen&&Nat.beq (off%ap P e) 0&&km (ap P e) l&&Nat.ble ((n+l.length)*wC P e) 140737488355328&&Nat.ble (n+l.length) 4294967290&&PC fz)with
      |false=>rw[hc]at p;cases p
      |true=>
       rw[hc,U']at p;simp[br]at hc;obtain⟨⟨⟨⟨⟨⟨⟨rfl,rfl⟩,rfl⟩,c4⟩,c5⟩,c6⟩,c7⟩,c8⟩:=hc;have c8:fz = .no:=by cases fz <;> first|rfl|cases c8
       subst c8;have hls:=hI.rowS hrow hl;have hob:=hI.obj k;rw[hrow]at hob;obtain⟨g0,g1,gm,g2,g3⟩:=hob;obtain⟨lc',m1,⟨m2,m3,U,fr,m4,m5,m6,m7⟩,m8⟩:=g3 g (ε _);rw[hl]at m1;cases m1;have m6:fr=(0,0):=m6;subst m6;have hC:=br.1 hcf;have hn8:=m8 rfl;cases hfit:Nat.ble (off/ap P e+n+l.length) len with
       |true=>
        rw[hfit,U']at p;have hfit:=br.1 hfit;split at p
        next o' hw=>cases p;rw[hls]at hC;refine inplace o' hw (by simp[iA];rw[hls];omega) ?_;show den φ (.sl k g off _ ö)=_;have hx:Nat.ble (off/T.s+(n+l.length)) T.n=true:=br.2 (by rw[hls];omega);simp[den,hl,Am,hx]
        ·cases p
       |false=>
        rw[hfit,I_]at p;cases hc9:(Nat.beq off 0&&Nat.ble n len)with
        |false=>rw[hc9]at p;cases p
        |true=>
         rw[hc9,U']at p;simp[br]at hc9;obtain⟨rfl,c9⟩:=hc9;cases p;have hgt:len<n+l.length:=by
          rcases i_ len (n+l.length)with q|q
          ·exact q
          ·rw[ald,Z',br.2 q]at hfit;cases hfit
         rw[ald]at ev;have hns:n*ap P e≤U.size:=by rw[m5];exact r_ _ Ω
         have hnl:news.length=l.length*ap P e:=by rw[ba hd,ir hall]
         rcases i_ T.n (n+l.length)with hg|hg
         ·
          have hcap:=grownCap_ge w (n+l.length) T.n e;have hvs:zv.cells.size=ap P e:=by obtain⟨i',v',w1,w2,w3⟩:=gq hz;rw[hi]at w1;cases w1;rw[hiz]at w2;cases w2;rw[←Array.length_toList,ba (da (w3 φ)),hzs]
          have hol:(U.toList.take (n*ap P e)).length=n*ap P e:=by rw[g_,ο];omega
          obtain⟨q1,q2⟩:=Inv.turnUp (l:=l) (news:=news) (w':=w.drew.alloc (.cells ((U.toList.take (n*ap P e)++news).toArray++Builtin.zeroCells zv.cells (grownCap w (n+l.length) T.n e-(n+l.length))) e)) (l':=⟨w.heap.size,grownCap w (n+l.length) T.n e,ap P e⟩) hI hrow hl c9 c7 hall hd rfl hI.size (w? w.drew _)
           (by rw[Array.size_append,DL,hvs,l?,J',hol,hnl,←Nat.add_mul,←Nat.add_mul];congr 1;show _=grownCap w (n+l.length) T.n e;omega) (by show n+l.length≤grownCap w (n+l.length) T.n e;omega)
           (λj hj arr2 e2 fr2 hh=>by
            rw[m4]at hh;injection hh with hh;injection hh with hh _ _;subst hh;rw[n? Ξ,Z_,I' Ω,b_,Θ hj,p_])
           (λj u hj=>by
            have:=(f_.1 hj).1;rw[n? Ξ,Z_,h_ Ω,hol,akO];exact hj)
           (.inr (ε _)) (λhh=>by have:=hI.lt hl;simp only at hh;omega) (λb hb _=>@heap_alloc_old w.drew _ b hb) rfl rfl rfl (by show w.heap.size≤(w.heap.push _).size;simp) ((by first|exact(by first|exact ak1 _|exact Y' _)|exact Y' _))
          refine ju (v :=.slice (ä ⟨w.heap.size,0,ö⟩) (n+l.length) (grownCap w (n+l.length) T.n e)) (eY ho hcl J hty ?_) q1 q2 ?_
          ·rw[ev];have:=run_append_grow_src (P:=P) w t tx o.type e i zv hu hi hiz (ä ⟨T.b,0,ö⟩) n T.n (U.toList.take (n*ap P e)) (run_firstCells_some w.drew i.size n _ n T.n _ (by rw[his];exact hol) (λj u hj=>by
            have hjl:=(f_.1 hj).1;rw[oQ,Z'];rw[ak0 w.drew T.b j U e (0,0) m4];rw[b_,Θ Ω,p_]at hj;exact hj)) (a.eval x) l.length news r hg Ω (by rw[hib];exact Bk c6 hg)
           simpa[iA]using this
          ·show den _ (.sl k (g+1) 0 _ ö)=_;have hx:Nat.ble (0+(n+l.length)) (grownCap w (n+l.length) T.n e)=true:=br.2 Ω;simp only[den,Gx.tj,ald,Am,hx,i?,iA,akB]
         ·
          have hfit2:n*ap P e+news.length≤U.size:=by rw[m5,hnl,←Nat.add_mul];exact r_ _ hg
          have hsz2:(U.toList.take (n*ap P e)++news++U.toList.drop (n*ap P e+news.length)).toArray.size=U.size:=by simp;omega
          obtain⟨q1,q2⟩:=Inv.turnUp (l:=l) (news:=news) (w':=w.setRow T.b (U.toList.take (n*ap P e)++news++U.toList.drop (n*ap P e+news.length)).toArray) (l':=T) hI hrow hl c9 c7 hall hd hls m2 (akY w T.b U _ e _ m4)
           (by rw[hsz2];exact m5) hg
           (λj hj arr2 e2 fr2 hh=>by
            rw[m4]at hh;injection hh with hh;injection hh with hh _ _;subst hh;rw[yo hfit2,ω Ω])
           (λj u hj=>by
            have:=(f_.1 hj).1;rw[yo hfit2,Θ Ω,akO];exact hj)
           (.inl rfl) (λ_ arr2 e2 fr2 hh=>by
            rw[m4]at hh;injection hh with hh;injection hh with hh _ _;subst hh;exact hsz2) (λb hb hne=>akz w T.b b _ hne) rfl rfl rfl (by simp[World.setRow]) (ε _)
          refine ju (v :=.slice (ä ⟨T.b,0,ö⟩) (n+l.length) (iA ö T.n 0)) (eY ho hcl J hty ?_) q1 q2 ?_
          ·rw[ev];have:=wR (P:=P) (ty:=o.type) (sCap:=iA ö T.n 0) hu hi r (by simpa[iA]using hg) (off:=0) m4 (by rw[his,Z'];exact hfit2);rw[his,Z']at this;exact this
          ·show den _ (.sl k (g+1) 0 _ ö)=_;have hx:Nat.ble (0+(n+l.length)) T.n=true:=br.2 Ω;simp only[den,Gx.tj,ald,Am,hx,i?]
     ·cases p
  ·cases p
 ·cases hq
end
variable [SymVal]
section
variable {P:å}{B:Nat}{R:W0}{φ:Gx}{h:Pos→EO}{w:æ}{o:ë}{a:Act}
variable{J:List CK}{agg:Bool}{p q:PV}{t T:é}{v:ø}{r:Option (Nat×ME)}{es:List ME}{vs:List MapEntry}{i:Nat}{e:ME}{m:MapEntry}{l:Loc}
def Dy {r:Bool}(h:eqP J agg p q=ä r):p.isAgg=agg∧q.isAgg=agg∧eqL J p.cells q.cells=ä r:=by
 unfold eqP at h;split at h
 ·cases agg with
  |true=>cases h
  |false=>exact⟨rfl,rfl,h⟩
 ·cases agg with
  |true=>exact⟨rfl,rfl,h⟩
  |false=>cases h
 ·cases h
def SN (R:iD P 20 t=ä J)(j:agg=oF (P.underlying t)){g f:ø}{r:Bool}(C:denP φ p=ä g)(l:denP φ q=ä f)(T:eqP J agg p q=ä r):(Op.equal t g f).run P w = .ok r w:=by obtain⟨h1,h2,U⟩:=Dy T;exact Dx (P:=P) (w:=w) 20 9980 t J R p q g f r C l (h1.trans j) (h2.trans j) U
def PU:∀{J:List CK} {l m:List CV},eqL J l m=ä ü→l=m
 |[],[],[],_=>rfl
 |k::J,a::l,b::m,h=>by
  simp[eqL]at h;split at h
  next x y h1 h2=>
   simp only[ι]at h;cases x with
   |false=>cases h
   |true=>
    have h:y=true:=h;subst h;rw[PU h2];congr 1;cases k <;> cases a <;> cases b <;> simp only[eqC]at h1 <;> first|(cases h1;done)|skip
    next a b=>cases a <;> cases b <;> simp_all
    ·rename_i k r a p b;cases f:(kq k r&&kq k p)with
     |false=>rw[f]at h1;cases h1
     |true =>rw[f]at h1;simp at f;have R:=IZ f.1;have P:=IZ f.2;subst R;subst P;simp at h1;rw[h1]
    ·rename_i a b;simp at h1;have:∀{a b:List Nat},lsEq a b=ü→a=b:=by
      intro a;induction a with
      |nil=>intro b g;cases b with
       |nil=>rfl
       |cons _ _=>cases g
      |cons x a C=>intro b g;cases b with
       |nil=>cases g
       |cons y b=>
        simp only[lsEq]at g;cases j:Nat.beq x y with
        |false=>rw[j]at g;cases g
        |true=>rw[j]at g;rw[qj.1 j,C g]
     rw[this h1]
  ·cases h
 |[],_::_,_,h=>by simp[eqL]at h
 |[],[],_::_,h=>by simp[eqL]at h
 |_::_,[],_,h=>by simp[eqL]at h
 |_::_,_::_,[],h=>by simp[eqL]at h
def eqP_true (h:eqP J agg p q=ä ü):p=q:=by obtain⟨j,g,f⟩:=Dy h;have:=PU f;cases p <;> cases q <;> simp_all[PV.cells,PV.isAgg]
def Qy {k:CK}{c:CV}{r:Bool}(h:eqC k c c=ä r)(f:den φ c=ä v)(n:Nat):Instr.sameBits n v v=true:=by
 cases k <;> cases c <;> simp[eqC]at h <;> first|(cases h;done)|skip
 ·have f:ä (Value.bool _)=ä v:=f;cases f;simp[Instr.sameBits]
 ·have f:ä (Value.int _ _)=ä v:=f;cases f;simp[Instr.sameBits]
 ·obtain⟨_,e⟩:=oE (φ:=φ) (v:=v) f;rw[e];simp[Instr.sameBits,strV];exact(Go.MapKept.bytes_beq _ _).2 rfl
def JR {n:Nat}:∀{J:List CK} {l:List CV} {vs:List ø} {r:Bool},eqL J l l=ä r→dens φ l=ä vs→(vs.zip vs).all (λ(x,y)=>Instr.sameBits n x y)=ü
 |[],[],vs,_,_,hd=>by cases hd;rfl
 |k::J,a::l,vs,r,h,hd=>by
  simp[eqL]at h;split at h
  next x y h1 h2=>obtain⟨v,ws,rfl,q1,q2⟩:=bS hd;simp[Qy h1 q1,JR h2 q2]
  ·cases h
 |[],_::_,_,_,h,_=>by simp[eqL]at h
 |_::_,[],_,_,h,_=>by simp[eqL]at h
def bits_self {r:Bool}(h:eqP J agg p p=ä r)(j:denP φ p=ä v):(Instr.keyThatStays v v).run P w = .ok v w:=by
 obtain⟨_,_,f⟩:=Dy h;have:Instr.sameBits 10000 v v=true:=by
  cases p with
  |one c=>
   simp[PV.cells]at f;cases J with
   |nil=>simp[eqL]at f
   |cons k J=>
    simp[eqL]at f;split at f
    next g _=>exact Qy g j 10000
    ·cases f
  |agg l =>obtain⟨vs,e,g⟩:=xz (φ:=φ) (v:=v) j;rw[e];simp[Instr.sameBits];have:=JR (n:=9999) f g;simpa using this
 simp[Instr.keyThatStays,this]
def Al {d:Nat}{em:Bool}{f:é→Option (List CK)}(ih:∀t J,f t=ä J→∀(p:PV) v r,denP φ p=ä v→p.isAgg=oF (P.underlying t)→eqL J p.cells p.cells=ä r→(Instr.checkKey em d t v).run P w = .ok () w)
  (hk:∀t J,f t=ä J→mc (P.underlying t)=ä (oF (P.underlying t))∧(oF (P.underlying t)=ß→J.length=1)) (xs:Array ø) (F:Field→PUnit→Sem (ForInStep PUnit)) (hF:∀(fd:Field) (v:ø),fd.name ≠ "_" → (part fd.type xs fd.offset).run P w = .ok v w→(Instr.checkKey em d fd.type v).run P w = .ok () w→(F fd PUnit.unit).run P w = .ok (.yield PUnit.unit) w) :
  ∀(fs:List Field) (off:Nat) (J:List CK) (l:List CV) (r:Bool),Yx (ap P) f fs off=ä J→dens φ l=ä (xs.toList.drop off)→eqL J l l=ä r→(forIn fs PUnit.unit F).run P w = .ok PUnit.unit w
 |[],off,J,l,r,hc,hx,he=>by simp
 |fd::fs,off,J,l,r,hc,hx,he=>by
  simp only[Yx]at hc;split at hc
  next hn=>
   split at hc
   ·rename_i ka hka;split at hc
    ·rename_i hz;split at hc
     ·rename_i kb hkb;cases hc;obtain⟨r1,r2,e1,e2,rfl⟩:=xU he;obtain⟨hl1,_⟩:=LZ e1;have hsz:ap P fd.type≠0:=Ω
      obtain⟨hb,hk1⟩:=hk _ _ hka;have hd2:=la ka.length hx;have hp:∃p v,p.cells=l.take ka.length∧p.isAgg=oF (P.underlying fd.type)∧denP φ p=ä v∧(part fd.type xs fd.offset).run P w = .ok v w:=by
       cases hs:oF (P.underlying fd.type)with
       |true =>rw[hs]at hb;refine⟨.agg (l.take ka.length),.agg ((xs.toList.drop off).take ka.length).toArray,rfl,rfl,by simp[denP,hd2], ?_⟩;simp[part,π,cF hb,aH hsz,n_,hn.2,hz.1];congr 2;apply D_;simp
       |false=>
        rw[hs]at hb;have hone:ka.length=1:=hk1 hs;rw[hone]at hd2 hl1;match hlt:l.take 1,hl1 with
        |[c],_=>
         rw[hlt]at hd2;obtain⟨v,ws,e3,h1,h2⟩:=bS hd2;have hg:xs[off]? = ä v:=by
          have:((xs.toList.drop off).take 1)[0]? = ä v:=by rw[e3];rfl
          rw[b_]at this;split at this
          ·simpa[o_]using this
          ·cases this
         refine⟨.one c,v,by rw[hone,hlt];rfl,rfl,h1, ?_⟩;simp[part,π,cF hb,hn.2,hg]
      obtain⟨p,v,p1,p2,p3,p4⟩:=hp;have hA:=ih fd.type ka hka p v r1 p3 p2 (by rw[p1];exact e1);have hR:=Al ih hk xs F hF fs (off+ka.length) kb (l.drop ka.length) r2 hkb (by rw[←List.drop_drop];exact iP _ hx) e2;simp[π,hF fd v hn.1 p4 hA];exact hR
     ·cases hc
    ·cases hc
   ·cases hc
  ·cases hc
def G4 {em:Bool}:∀(d:Nat) (D:Nat) (t:é) (J:List CK),iD P d t=ä J→∀(p:PV) v r,denP φ p=ä v→p.isAgg=oF (P.underlying t)→eqL J p.cells p.cells=ä r→(Instr.checkKey em (D+d) t v).run P w = .ok () w
 |0,D,t,J,h,p,v,r,_,_,_=>by cases h
 |d+1,D,t,J,h,p,v,r,hx,hp,he=>by
  simp[iD]at h;rw[←Nat.add_assoc];split at h
  next hu=>simp only[Instr.checkKey,π,η hu,χ];rfl
  next k hu=>simp only[Instr.checkKey,π,η hu,χ];rfl
  next hu=>simp only[Instr.checkKey,π,η hu,χ];rfl
  next fs hu=>
   split at h
   ·cases h
   ·rw[hu]at hp;cases p with
    |one c=>cases hp
    |agg l =>obtain⟨T,U,g⟩:=xz (φ:=φ) (v:=v) hx;subst U;rw[Instr.checkKey];simp only[π,η hu,χ];rw[←Array.forIn_toList];rw[Al (P:=P) (w:=w) (em:=em) (d:=D+d) (λt J f p v r=>G4 d D t J f p v r) (λt J f=>Qt d t J f) T.toArray _ (λfd v R C j=>by simp[R,C,j]) fs.toList 0 J l r h (by simpa using g) he];rfl
  ·cases h
def kOk (P:å)(T:é)(J:List CK)(agg:Bool):Prop:=iD P 20 T=ä J∧agg=oF (P.underlying T)
def Ba {q:EqK}(h:Cp P t=ä q):∃J agg,q = .flat J agg∧kOk P t J agg:=by
 unfold Cp at h;split at h
 next fs f=>
  split at h
  next J g=>simp at h;exact⟨J,ü,h.symm,g,by rw[f];rfl⟩
  ·cases h
 next d hd f=>
  split at h
  next J g=>simp at h;refine⟨J,ß,h.symm,g, ?_⟩;rw[f];cases d <;> first|rfl|(exact absurd rfl (hd _))
  ·cases h
 ·cases h
def run_check (g:kOk P T J agg)(j:denP φ p=ä v)(f:keyOk J agg p=ü)(em:Bool):(Instr.checkKey em 10000 T v).run P w = .ok () w:=by
 unfold keyOk at f;split at f
 next r hr=>obtain⟨C,_,l⟩:=Dy hr;exact G4 (P:=P) (w:=w) 20 9980 T J g.1 p v r j (C.trans g.2) l
 ·cases f
def Fnd (_:Gx)(es:List ME)(vs:List MapEntry)(i:Nat)(J:List CK)(agg:Bool)(k:PV)(r:Option (Nat×ME))(o:Option (Nat×ø)):Prop:=match r with
 |none=>o=ö
 |some (n,e)=>∃j m,n=i+j∧o=ä (n,m.val)∧es[j]? = ä e∧vs[j]? = ä m∧eqP J agg k e.key=ä ü
def Fnd.next {k:PV}{o:Option (Nat×ø)}(f:Fnd φ es vs (i+1) J agg k r o):Fnd φ (e::es) (m::vs) i J agg k r o:=by
 unfold Fnd at f⊢;split
 ·exact f
 ·obtain⟨j,m,P,C,p,l,g⟩:=f;exact⟨j+1,m,Ω,C,by simpa using p,by simpa using l,g⟩
def mF (C:denEs φ (e::es) (m::vs)):denP φ e.key=ä m.key∧denP φ e.val=ä m.val∧m.born=e.born∧denEs φ es vs:=by obtain⟨J,g⟩:=C;obtain⟨v,q1,q2,l,j⟩:=g 0 e rfl;cases q1;refine⟨q2,l,j,by simpa using J,λi P f=>?_⟩;obtain⟨v,r,p⟩:=g (i+1) P (by simpa using f);exact⟨v,by simpa using r,p⟩
def PJ {T:é}{J:List CK}{agg:Bool}(f:kOk P T J agg){k:PV}{v:ø}(j:denP φ k=ä v):∀{es:List ME} {vs:List MapEntry} {i:Nat} {r:Option (Nat×ME)},denEs φ es vs→findE J agg k es i=ä r→∃o,(Instr.findAsking T v vs i).run P w = .ok o w∧Fnd φ es vs i J agg k r o
 |[],[],i,r,_,hf=>by cases hf;exact⟨ö,rfl,rfl⟩
 |[],_::_,i,r,hd,hf=>by have:=hd.1;simp at this
 |_::_,[],i,r,hd,hf=>by have:=hd.1;simp at this
 |e::es,m::vs,i,r,hd,hf=>by
  obtain⟨l,R,C,p⟩:=mF hd;simp[findE]at hf;split at hf
  next g=>cases hf;exact⟨ä (i,m.val),by simp[Instr.findAsking,SN f.1 f.2 j l g],0,m,rfl,rfl,rfl,rfl,g⟩
  next g=>obtain⟨o,q1,q2⟩:=PJ f j p hf;exact⟨o,by simp[Instr.findAsking,SN f.1 f.2 j l g,q1],q2.next⟩
  ·cases hf
def NT (R:kOk P T J agg){d:TypeDesc}(j:P.underlying T=ä d){C l:ø}{r b:Bool}(hx:denP φ p=ä C)(U:denP φ q=ä l)(he:eqP J agg p q=ä r)(g:Instr.sameNow d C l=ä b):b=r:=by
 have f:=SN (P:=P) (w:=default) R.1 R.2 hx U he;unfold Instr.sameNow at g;split at g
 next k a k' b'=>
  split at g
  next hkk=>subst hkk;simp at g;have:=alw (P:=P) default 9999 T k _ a b' j;rw[show Op.equal T (.int k a) (.int k b')=Op.equalIn (9999+1) T (.int k a) (.int k b') from rfl,this]at f;injection f with f _;rw[←f,←g]
  ·cases g
 next a b'=>simp at g;have:=ak8 (P:=P) default 9999 T a b' j;rw[show Op.equal T (.string a) (.string b')=Op.equalIn (9999+1) T (.string a) (.string b') from rfl,this]at f;injection f with f _;rw[←f,←g,beq_toListBytes]
 next a b'=>simp at g;have:=aln (P:=P) default 9999 T a b' j;rw[show Op.equal T (.bool a) (.bool b')=Op.equalIn (9999+1) T (.bool a) (.bool b') from rfl,this]at f;injection f with f _;rw[←f,←g]
 ·cases g
def PI {T:é}{J:List CK}{agg:Bool}(l:kOk P T J agg){d:TypeDesc}(f:P.underlying T=ä d){k:PV}{v:ø}(j:denP φ k=ä v):∀{es:List ME} {vs:List MapEntry} {i:Nat} {r:Option (Nat×ME)} {o:Option (Nat×ø)},denEs φ es vs→findE J agg k es i=ä r→Instr.findNow d v vs i=ä o→Fnd φ es vs i J agg k r o
 |[],[],i,r,o,_,hf,hn=>by simp[findE]at hf;simp[Instr.findNow]at hn;subst hf;subst hn;rfl
 |[],_::_,i,r,o,f,hf,_=>by have:=f.1;simp at this
 |_::_,[],i,r,o,f,hf,_=>by have:=f.1;simp at this
 |e::es,m::vs,i,r,o,hde,hf,hn=>by
  obtain⟨p,U,R,C⟩:=mF hde;simp[findE]at hf;simp[Instr.findNow]at hn;split at hn
  next hb=>
   cases hn;split at hf
   next g=>cases hf;exact⟨0,m,rfl,rfl,rfl,rfl,g⟩
   next g=>have:=NT l f j p g hb;cases this
   ·cases hf
  next hb=>
   split at hf
   next g=>have:=NT l f j p g hb;cases this
   ·exact(PI l f j C hf hn).next
   ·cases hf
  ·cases hn
def find_key (j:kOk P T J agg){k:PV}(l:denP φ k=ä v)(C:denEs φ es vs)(p:findE J agg k es 0=ä r):∃o,(Instr.findKey T v vs).run P w = .ok o w∧Fnd φ es vs 0 J agg k r o:=by
 obtain⟨d,f⟩:∃d,P.underlying T=ä d:=by
  cases f:P.underlying T with
  |some d=>exact⟨d,rfl⟩
  |none =>have:=j.1;simp[iD,f]at this
 cases g:Instr.findNow d v vs 0 with
 |some o=>exact⟨o,by simp[Instr.findKey,η f,g],PI j f l C p g⟩
 |none =>obtain⟨o,q1,q2⟩:=PJ (w:=w) j l C p;exact⟨o,by simp[Instr.findKey,η f,g,q1],q2⟩
def NR (f:ME→ME):∀(es:List ME) (i j:Nat),(AL es i f)[j]? = if i=j then(es[j]?).map f else es[j]?
 |[],i,j=>by simp[AL]
 |e::es,0,0=>by simp[AL]
 |e::es,0,j+1=>by simp[AL]
 |e::es,i+1,0=>by simp[AL]
 |e::es,i+1,j+1=>by simp only[AL,akf,NR f es i j];simp
def NQ (f:ME→ME):∀(es:List ME) (i:Nat),(AL es i f).length=es.length
 |[],i=>rfl
 |e::es,0=>rfl
 |e::es,i+1=>by simp[AL,NQ f es i]
def Bv {vs:Array MapEntry}(r:denEs φ es vs.toList){f:ME→ME}{g:MapEntry→MapEntry}(p:∀e m,es[i]? = ä e→vs[i]? = ä m→denP φ e.key=ä m.key→denP φ e.val=ä m.val→m.born=e.born→denP φ (f e).key=ä (g m).key∧denP φ (f e).val=ä (g m).val∧(g m).born=(f e).born):denEs φ (AL es i f) (vs.modify i g).toList:=by
 refine⟨by simp[NQ];simpa using r.1,λj e l=>?_⟩;rw[NR]at l;rw[p_,b?];split at l
 next hij=>subst hij;rw[Θ rfl];simp at l;obtain⟨J,C,rfl⟩:=l;obtain⟨m,q1,q2,R,P⟩:=r.2 i J C;rw[p_]at q1;exact⟨g m,by rw[q1];rfl,p J m C q1 q2 R P⟩
 next hij=>rw[ω hij];obtain⟨m,q1,q2⟩:=r.2 j e l;rw[p_]at q1;exact⟨m,q1,q2⟩
def GS {vs:Array MapEntry}(l:denEs φ es vs.toList)(C:denP φ e.key=ä m.key)(r:denP φ e.val=ä m.val)(p:m.born=e.born):denEs φ (es++[e]) (vs.push m).toList:=by
 have g:vs.size=es.length:=by rw[←l.1,ο]
 refine⟨by simp[g],λj x f=>?_⟩;rw[p_];obtain hj|hj:=i_ j es.length
 ·rw[I' hj]at f;obtain⟨v,q1,q2⟩:=l.2 j x f;rw[p_]at q1;exact⟨v,by rw[Array.getElem?_push,ω Ω];exact q1,q2⟩
 ·rw[h_ hj]at f;have:j=es.length:=by
   have:=(f_.1 f).1;simp at this;omega
  subst this;simp at f;subst f;exact⟨m,by rw[←g];simp,C,r,p⟩
def Inv.setO (hI:Inv B R φ h w){k:Pos}(hl:φ.loc k 0=ä l)(p:∀g,0<g→φ.loc k g=ö){ob j:Obj}(hb:w.heap[l.b]? = ä ob)(P:stays ob=ß){r:EO}(T:iB φ { w with heap:=w.heap.setIfInBounds l.b j } B k r)(U:iE r=false:=by rfl):Inv B R φ (upd h k r) { w with heap:=w.heap.setIfInBounds l.b j }:=by
 have only:∀g J,φ.loc k g=ä J→J=l:=λg J f=>by
  cases g with
  |zero=>rw[hl]at f;exact(Δ f).symm
  |succ g=>rw[p _ Ω]at f;cases f
 refine hI.lb (ψ:=φ) (Gx.le.refl φ) (λ_ _=>⟨λ_=>rfl,rfl,rfl⟩) (λg1 C x=>.inl ⟨g1,C,x,rfl⟩) (λb hb' hne=>?_) (λg1 C x ob1 h1 h2=>?_) rfl rfl rfl Ψ (ε _) T U
 ·simp[hne 0 l hl]
 ·rw[only g1 C x,hb]at h1;cases h1;rw[P]at h2;cases h2
def zA (P:Inv B R φ h w){m:Pos}{clock:Nat}(J:h m = .map es clock)(C:RT φ (.pv (.one (.mp m))) v):∃l vs,φ.loc m 0=ä l∧(∀g,0<g→φ.loc m g=ö)∧v = .map (ä l.b)∧B≤l.b∧w.heap[l.b]? = ä (.map vs clock)∧denEs φ es vs.toList:=by obtain⟨l,j,T⟩:=agx C;have f:=P.obj m;rw[J]at f;obtain⟨U,l',vs,q1,q2,r,p⟩:=f;rw[j]at q1;cases q1;exact⟨l,vs,j,U,T,q2,r,p⟩
def Inv.setM (J:Inv B R φ h w){m:Pos}(p:φ.loc m 0=ä l)(f:∀g,0<g→φ.loc m g=ö)(P:B≤l.b){vs vs':Array MapEntry}{c c':Nat}(r:w.heap[l.b]? = ä (.map vs c)){j:List ME}(C:denEs φ j vs'.toList):Inv B R φ (upd h m (.map j c')) { w with heap:=w.heap.setIfInBounds l.b (.map vs' c') } :=
 J.setO p f r rfl ⟨f,l,vs',p,P,(Go.MapKept.heap_set r).1,C⟩
def MD {z:PV}(f:dZ P t=ä z)(w:æ):∃v,(zeroValue t).run P w = .ok v w∧∀φ,denP φ z=ä v:=by obtain⟨i,v,l,j,g⟩:=gq f;exact⟨v,by simp[zeroValue,typeInfo,l,j],g⟩
def aer (hI:Inv B R φ h w){e:é}{x y:è}{ok:Bool}(ho:o.op = .lookup t x y ok)(hu:P.underlying t=ä (.map T e)){q:EqK}(hkey:Cp P T=ä q){z:PV}(hz:dZ P e=ä z){C:List TV}(hv:RTs φ C [a.eval x,a.eval y]){f:Pos}{out:TV}{wr:Option (Pos×EO)}(g:(P5 q z ok C f).run h=ä (out,wr)):OkX P B R φ h w o a out wr:=by
 obtain⟨J,agg,rfl,hk⟩:=Ba hkey;unfold P5 at g;split at g
 ·obtain⟨v1,ws,e1,hr1,hr2⟩:=hv.cons;obtain⟨v2,e2,U⟩:=hr2.one;subst e2;simp at e1;obtain⟨e1,e2⟩:=e1;subst e1;subst e2;split at g
  next ks' agg' kv heq=>
   injection heq with h1 h2;subst h1;subst h2;have U:denP φ kv=ä (a.eval y):=U;cases hok:keyOk J agg kv with
   |false=>rw[hok]at g;cases g
   |true=>
    rw[hok,U']at g;obtain⟨zv,hzr,hzd⟩:=MD hz w;have fin:∀{r:Option PV} {v:Option ø},(vH ok z r).run h=ä (out,wr)→(match r,v with|none,ö=>True|some p,ä u=>denP φ p=ä u|_,_=>False)→(ê a.eval o).run P w = .ok (.value (match v with|some u=>(if ok then .tuple #[u,.bool ü]else u)|none=>(if ok then .tuple #[zv,.bool ß]else zv))) w→OkX P B R φ h w o a out wr:=by
     intro r v hl hm hrun;unfold vH at hl;cases ok with
     |true=>
      cases r with
      |none=>
       cases v with
       |some _=>cases hm
       |none =>cases hl;exact au hI hrun ⟨[zv,.bool ß],bJ (hzd φ) rfl,rfl⟩
      |some p=>
       cases v with
       |none=>cases hm
       |some u =>cases hl;exact au hI hrun ⟨[u,.bool ü],bJ hm rfl,rfl⟩
     |false=>
      cases r with
      |none=>
       cases v with
       |some _=>cases hm
       |none =>cases hl;exact au hI hrun (hzd φ)
      |some p=>
       cases v with
       |none=>cases hm
       |some u =>cases hl;exact au hI hrun hm
    split at g
    ·have ev:=KI hr1;refine fin (v:=ö) g trivial ?_;unfold ê;have hf:(Instr.findKey T (a.eval y) []).run P w = .ok ö w:=by
      obtain⟨o',q1,q2⟩:=find_key (w:=w) hk U (es:=[]) (vs:=[]) ⟨rfl,λi e he=>by simp at he⟩ rfl;rw[q1,show o'=ö from q2]
     simp[ho,ev,Instr.lookup,η hu,run_check hk U hok,hf,hzr]
    ·rename_i m;simp[Q.run]at g;split at g
     ·rename_i es clock hm;obtain⟨l,vs,q1,_,ev,_,q3,q4⟩:=zA hI hm hr1;split at g
      ·rename_i r hf;obtain⟨o',p1,p2⟩:=find_key (w:=w) hk U q4 hf;refine fin (v:=o'.map (·.2)) g ?_ ?_
       ·unfold Fnd at p2;split at p2
        ·subst p2;trivial
        ·obtain⟨j,m',_,h2,h3,h4,_⟩:=p2;rw[h2];obtain⟨m2,z1,_,z3,_⟩:=q4.2 j _ h3;rw[h4]at z1;cases z1;exact z3
       ·unfold ê;cases o' with
        |none=>simp[ho,ev,Instr.lookup,η hu,getObj,Sem.run,q3,run_check hk U hok,p1,hzr,Result.andThen]
        |some pr=>simp[ho,ev,Instr.lookup,η hu,getObj,Sem.run,q3,run_check hk U hok,p1,Result.andThen]
      ·cases g
     ·cases g
    ·cases g
  ·cases g
 ·cases g
end
open Go.MapKept
variable [SymVal]
section
variable {P:å}{B:Nat}{R:W0}{φ:Gx}{h:Pos→EO}{w:æ}{o:ë}{a:Act}
variable{v:ø}{t:é}{x:è}{q:EqK}{C:List TV}{f:Pos}{out:TV}{wr:Option (Pos×EO)}
def found_key {R:List ME}{f:Array MapEntry}(hd:denEs φ R f.toList){J:List CK}{agg:Bool}{k:PV}(hk:denP φ k=ä v){j:Nat}{e:ME}{m:MapEntry}(he:R[j]? = ä e)(P:f.toList[j]? = ä m)(C:eqP J agg k e.key=ä ü):(((f[j]?).map (·.key)).getD v)=v∧f[j]? = ä m∧denP φ e.val=ä m.val∧m.born=e.born∧eqP J agg k k=ä true:=by
 obtain⟨m2,r,l,U,T⟩:=hd.2 j e he;rw[P]at r;cases r;have p:=eqP_true C;subst p;rw[hk]at l;injection l with l;have g:f[j]? = ä m:=by rw[←Array.getElem?_toList];exact P
 exact⟨by rw[g];exact l.symm,g,U,T,C⟩
def ahs (hI:Inv B R φ h w){T e:é}{y z:è}(ho:o.op = .mapUpdate t x y z∨o.op = .insert t x y z)(hu:P.underlying t=ä (.map T e))(hkey:Cp P T=ä q)(hv:RTs φ C [a.eval x,a.eval y,a.eval z])(p:(afs q C f).run h=ä (out,wr)):OkX P B R φ h w o a out wr:=by
 obtain⟨J,agg,rfl,hk⟩:=Ba hkey;have hex:∀{w'},(Instr.mapUpdate t (a.eval x) (a.eval y) (a.eval z)).run P w = .ok () w'→(ê a.eval o).run P w = .ok .skip w':=λhr=>by unfold ê;obtain ho|ho:=ho <;> simp[ho,hr]
 unfold afs at p;split at p
 ·obtain⟨v1,ws,e1,hr1,hr2⟩:=hv.cons;obtain⟨v2,ws2,e2,g,hr4⟩:=hr2.cons;obtain⟨v3,e3,r⟩:=hr4.one;subst e3;subst e2;simp at e1;obtain⟨e1,e2,e3⟩:=e1;subst e1;subst e2;subst e3;split at p
  next ks' agg' m kv v heq=>
   injection heq with h1 h2;subst h1;subst h2;have g:denP φ kv=ä (a.eval y):=g;have r:denP φ v=ä (a.eval z):=r;cases U:keyOk J agg kv with
   |false=>rw[U]at p;cases p
   |true=>
    rw[U,U']at p;simp[Q.run]at p;split at p
    ·rename_i es clock hm;obtain⟨l,vs,q1,qo,ev,qB,q3,q4⟩:=zA hI hm hr1;split at p
     ·rename_i i e' hf;cases p;obtain⟨o',p1,p2⟩:=find_key (w:=w) hk g q4 hf;obtain⟨j,m',rfl,h2,h3,h4,h5⟩:=p2;obtain⟨y1,y2,y3,y4,y5⟩:=found_key q4 g h3 h4 h5;subst h2;refine Dg (hex ?_) (Gx.le.refl φ) (hI.setM q1 qo qB (c':=clock) (vs':=vs.modify (0+j) λe=>{ e with key:=a.eval y,val:=a.eval z }) q3 (Bv q4 λe m _ _ _ _ hb=>⟨g,r,hb⟩));have y1':(((vs[0+j]?).map (·.key)).getD (a.eval y))=a.eval y:=by rw[Z'];exact y1
      simp only[Instr.mapUpdate,π,η hu,ev,χ,q_ q3,run_check hk g U,p1,y1',bits_self y5 g,U_ _ q3]
     next hf=>cases p;obtain⟨o',p1,p2⟩:=find_key (w:=w) hk g q4 hf;have p2:o'=none:=p2;subst p2;refine Dg (hex ?_) (Gx.le.refl φ) (hI.setM q1 qo qB (c':=clock+1) (vs':=vs.push { key:=a.eval y,val:=a.eval z,born:=clock }) q3 (GS q4 g r rfl));simp[Instr.mapUpdate,π,η hu,ev,q_ q3,run_check hk g U,p1,U_ _ q3]
     ·cases p
    ·cases p
  ·cases p
 ·cases p
def aeq (hI:Inv B R φ h w){T e:é}{y:è}(ho:o.op = .mapEntry t x y)(hu:P.underlying t=ä (.map T e))(hkey:Cp P T=ä q){z:PV}(hz:dZ P e=ä z)(hv:RTs φ C [a.eval x,a.eval y])(p:(Vi q z C f).run h=ä (out,wr)):OkX P B R φ h w o a out wr:=by
 obtain⟨J,agg,rfl,hk⟩:=Ba hkey;have hex:∀{v w'},(Instr.mapEntry t (a.eval x) (a.eval y)).run P w = .ok v w'→(ê a.eval o).run P w = .ok (.value v) w':=λhr=>by unfold ê;simp[ho,hr]
 unfold Vi at p;split at p
 ·obtain⟨v1,ws,e1,hr1,hr2⟩:=hv.cons;obtain⟨v2,e2,g⟩:=hr2.one;subst e2;simp at e1;obtain⟨e1,e2⟩:=e1;subst e1;subst e2;split at p
  next ks' agg' m kv heq=>
   injection heq with h1 h2;subst h1;subst h2;have g:denP φ kv=ä (a.eval y):=g;cases r:keyOk J agg kv with
   |false=>rw[r]at p;cases p
   |true=>
    rw[r,U']at p;simp[Q.run]at p;split at p
    ·rename_i es clock hm;obtain⟨l,vs,q1,qo,ev,qB,U,q4⟩:=zA hI hm hr1;split at p
     ·rename_i i e' hf;cases p;obtain⟨o',p1,p2⟩:=find_key (w:=w) hk g q4 hf;obtain⟨j,m',rfl,h2,h3,h4,h5⟩:=p2;obtain⟨y1,y2,y3,y4,y5⟩:=found_key q4 g h3 h4 h5;subst h2;have y1':(((vs[0+j]?).map (·.key)).getD (a.eval y))=a.eval y:=by rw[Z'];exact y1
      have y2':(((vs[0+j]?).map λx=>(x.born:Int)).getD 0)=Int.ofNat e'.born:=by rw[Z',y2];show(m'.born:Int)=_;rw[y4];rfl
      refine ju (v :=.tuple #[m'.val,.int .i64 (Int.ofNat e'.born)]) (hex ?_) (Gx.le.refl φ) (hI.setM q1 qo qB (c':=clock) (vs':=vs.modify (0+j) λe=>{ e with key:=a.eval y }) U (Bv q4 λe m _ _ _ hvv hb=>⟨g,hvv,hb⟩)) ⟨_,bJ y3 (bJ (dl _ _) rfl),rfl⟩;simp only[Instr.mapEntry,π,η hu,ev,χ,q_ U,run_check hk g r,p1,y1',bits_self y5 g,U_ _ U,n_,goInt];rw[y2']
     next hf=>cases p;obtain⟨o',p1,p2⟩:=find_key (w:=w) hk g q4 hf;have p2:o'=none:=p2;subst p2;obtain⟨zv,hzr,hzd⟩:=MD hz w;refine ju (v :=.tuple #[zv,.int .i64 (Int.ofNat clock)]) (hex ?_) (Gx.le.refl φ) (hI.setM q1 qo qB (c':=clock+1) (vs':=vs.push { key:=a.eval y,val:=zv,born:=clock }) U (GS q4 g (hzd φ) rfl)) ⟨_,bJ (hzd φ) (bJ (dl _ _) rfl),rfl⟩;simp only[Instr.mapEntry,π,η hu,ev,χ,q_ U,run_check hk g r,p1,hzr,U_ _ U,n_,goInt];rfl
     ·cases p
    ·cases p
  ·cases p
 ·cases p
def GE:∀{l:List ME} {g:List MapEntry} {b i n:Nat},denEs φ l g→U9 b l i=ä n→∃j,n=i+j∧g.findIdx? (λe=>(e.born:Int) == (b:Int))=ä j
 |[],g,b,i,n,_,h=>by cases h
 |e::l,[],b,i,n,hd,h=>by have:=hd.1;simp at this
 |e::l,m::g,b,i,n,hd,h=>by
  obtain⟨_,_,p,C⟩:=mF hd;simp[U9]at h;cases f:Nat.beq e.born b with
  |true =>rw[f]at h;cases h;have f:=qj.1 f;exact⟨0,rfl,by simp[List.findIdx?_cons,p,f]⟩
  |false=>
   rw[f]at h;obtain⟨j,rfl,r⟩:=GE C h;have f:=J_ f;have f:¬((e.born:Int)=(b:Int)):=Ω
   exact⟨j+1,Ω,by simp[List.findIdx?_cons,p,f];simpa using r⟩
def aep (hI:Inv B R φ h w){y z:è}(ho:o.op = .entryStore t x y z)(hv:RTs φ C [a.eval x,a.eval y,a.eval z])(g:(Vh C f).run h=ä (out,wr)):OkX P B R φ h w o a out wr:=by
 unfold Vh at g;split at g
 ·obtain⟨v1,ws,e1,hr1,hr2⟩:=hv.cons;obtain⟨v2,ws2,e2,hr3,hr4⟩:=hr2.cons;obtain⟨v3,e3,r⟩:=hr4.one;subst e3;subst e2;simp at e1;obtain⟨e1,e2,e3⟩:=e1;subst e1;subst e2;subst e3;split at g
  next m k b v=>
   have r:denP φ v=ä (a.eval z):=r;have hb:=dE hr3;simp[Q.run]at g;split at g
   ·rename_i es clock hm;obtain⟨l,U,q1,qo,ev,qB,q3,q4⟩:=zA hI hm hr1;split at g
    ·rename_i i hf;cases g;obtain⟨j,T,hj⟩:=GE q4 hf;rw[Z']at T;subst T;have hj':U.findIdx? (λe=>(e.born:Int) == (b:Int))=ä i:=by have:=List.findIdx?_toArray (p:=λe=>((e:MapEntry).born:Int) == (b:Int)) (l:=U.toList);rw[hj]at this;simpa using this
     refine Dg (w':={ w with heap:=w.heap.setIfInBounds l.b (.map (U.modify i λe=>{ e with val:=a.eval z }) clock) }) ?_ (Gx.le.refl φ) (hI.setM q1 qo qB q3 (Bv q4 λe m _ _ hkk _ hb=>⟨hkk,r,hb⟩));unfold ê;have J:=U_ (P:=P) (.map (U.modify i λe=>{ e with val:=a.eval z }) clock) q3;have hb':a.eval y = .int k (b:Int):=hb;simp[ho,ev,Instr.entryStore,q_ q3,hb',asInt,asIntOf,hj',J]
    ·cases g
   ·cases g
  ·cases g
 ·cases g
def aen (p:Inv B R φ h w){T e:é}(ho:o.op = .range t x)(hu:P.underlying t=ä (.map T e))(hf:h f = .none)(hv:RTs φ C [a.eval x])(j:(Ve C f).run h=ä (out,wr)):OkX P B R φ h w o a out wr:=by
 unfold Ve at j;split at j
 ·obtain⟨v,e1,hr⟩:=hv.one;cases e1;have mk:∀{ob:Obj} {o':EO},(ê a.eval o).run P w = .ok (.value (.pointer (ä ⟨w.heap.size,0,ö⟩))) (w.alloc ob)→iB (φ.add f ⟨w.heap.size,0,0⟩) (w.alloc ob) B f o'→iE o'=ß→out = .pv (.one (.ptr f 0 0))→wr=ä (f,o')→OkX P B R φ h w o a out wr:=λ{ob o'} r U J h1 h2=>by
   subst h1;subst h2;refine ju r (p.qa hf _) (p.new hf (l:=⟨w.heap.size,0,0⟩) rfl U J) ?_ J;show den _ (.ptr f 0 0)=_;simp[den,Gx.gh]
  have one:∀g,0<g→(φ.add f ⟨w.heap.size,0,0⟩).loc f g=none:=λg hg=>by simp only[Gx.add,i?];rw[ω Ω]
  split at j
  ·cases j;refine mk (ob :=.mapIter ö 0 #[] 0) (o' :=.mit ö 0 [] 0) ?_ ⟨one,⟨w.heap.size,0,0⟩,Gx.gh _ _ _,p.size,w? w _⟩ rfl rfl rfl;unfold ê;simp[ho,KI hr,Instr.range,η hu]
  next m=>
   simp[Q.run]at j;split at j
   next es clock hm=>cases j;obtain⟨l,vs,q1,qo,ev,qB,q3,q4⟩:=zA p hm hr;refine mk (ob :=.mapIter (ä l.b) clock #[] clock) (o' :=.mit (ä m) clock [] clock) ?_ ⟨one,⟨w.heap.size,0,0⟩,Gx.gh _ _ _,p.size,l,(p.qa hf _).loc _ _ _ q1,w? w _⟩ rfl rfl rfl;unfold ê;simp[ho,ev,Instr.range,η hu,q_ q3]
   ·cases j
  ·cases j
 ·cases j
def Cy:∀{j:List ME} {g:List MapEntry} {b:Nat} {e:ME},denEs φ j g→LY b j=ä e→∃m,g.find? (λx=>x.born == b)=ä m∧denP φ e.key=ä m.key∧denP φ e.val=ä m.val
 |[],g,b,e,_,h=>by cases h
 |x::j,[],b,e,hd,h=>by have:=hd.1;simp at this
 |x::j,m::g,b,e,hd,h=>by
  obtain⟨J,C,l,r⟩:=mF hd;simp[LY]at h;cases f:Nat.beq x.born b with
  |true =>rw[f]at h;cases h;exact⟨m,by simp[l,qj.1 f],J,C⟩
  |false=>
   rw[f]at h;obtain⟨p,q1,q2⟩:=Cy r h;have f:=J_ f;have:(m.born == b)=false:=by rw[l];simpa using f
   exact⟨p,by rw[List.find?_cons,this];exact q1,q2⟩
def F6:∀{l:List Nat} {b:Nat},aa2 l=ä b→l.getLast? = ä b
 |[],_,h=>by cases h
 |[x],b,h=>h
 |x::y::l,b,h=>by have:=F6 (l:=y::l) h;rw[List.getLast?_cons_cons];exact this
def Bb (_:Inv B R φ h w){k:Pos}{g:Nat}(p:RT φ (.pv (.one (.ptr k g 0))) v){l:Loc}(r:φ.loc k 0=ä l)(j:∀g,0<g→φ.loc k g=ö):v = .pointer (ä ⟨l.b,0,ö⟩):=by
 obtain⟨J,f,C⟩:=gV p;cases g with
 |zero =>rw[r]at f;injection f with f;rw[C,f]
 |succ g=>rw[j _ Ω]at f;cases f
def iT {m:Option Nat}{r f c:Nat}{seen:Array Nat}(g:w.heap[r]? = ä (.mapIter m f seen c)):(getObj r).run P w = .ok (.mapIter m f seen c) w:=by simp[getObj,Sem.run,g]
def ahF (hI:Inv B R φ h w)(ho:o.op = .entry x)(hv:RTs φ C [a.eval x])(p:(afy C f).run h=ä (out,wr)):OkX P B R φ h w o a out wr:=by
 unfold afy at p;split at p
 ·obtain⟨v,e1,hr⟩:=hv.one;cases e1;have fin:∀{m:Pos} {l lm:Loc} {b j r:Nat} {seen:Array Nat},(afn m b j).run h=ä (out,wr)→φ.loc m 0=ä lm→a.eval x = .pointer (ä ⟨l.b,0,ö⟩)→w.heap[l.b]? = ä (.mapIter (ä lm.b) r seen j)→seen.back? = ä b→OkX P B R φ h w o a out wr:=by
   intro m l lm b j r seen p hlm hx hit T;unfold afn at p;simp[Q.run]at p;split at p
   ·rename_i es clock hm;cases hc:Nat.beq clock j with
    |false=>rw[hc]at p;cases p
    |true=>
     rw[hc,U']at p;have hc:=qj.1 hc;subst hc;split at p
     ·rename_i e hf;cases p;have J:=hI.obj m;rw[hm]at J;obtain⟨_,l2,vs,q1,q2,q3,q4⟩:=J;rw[hlm]at q1;cases q1;obtain⟨me,z1,U,z3⟩:=Cy q4 hf;have z1':vs.find? (λx=>x.born == b)=ä me:=by rw[←Array.find?_toList];exact z1
      refine au hI (v :=.tuple #[me.key,me.val]) ?_ ⟨_,bJ U (bJ z3 rfl),rfl⟩;unfold ê;simp[ho,hx,Instr.entry,iT hit,q_ q3,T,z1']
     ·cases p
   ·cases p
  split at p
  next k g=>
   simp[Q.run]at p;have J:=hI.obj k;split at p
   ·rename_i m r seen j hk;rw[hk]at J;obtain⟨g1,l,q1,q2,lm,q3,q4⟩:=J;split at p
    next b hb=>exact fin p q3 (Bb hI hr q1 g1) q4 (by rw[List.back?_toArray];exact F6 hb)
    ·cases p
   next m r bs b c hk=>rw[hk]at J;obtain⟨g1,l,lm,seen,j,n,q1,q2,q3,q4,_,_,_,q8⟩:=J;obtain⟨z1,U⟩:=q8 (b,c) rfl;have U:j=c:=U;subst U;exact fin p q3 (Bb hI hr q1 g1) q4 z1
   ·cases p
  ·cases p
 ·cases p
def wI {seen:List Nat}:∀{p:List ME} {g:List MapEntry},denEs φ p g→denEs φ (AF seen p) (g.filter λe=>!seen.toArray.contains e.born)
 |[],[],_=>⟨rfl,λi e h=>by simp[AF]at h⟩
 |[],_::_,hd=>by have:=hd.1;simp at this
 |_::_,[],hd=>by have:=hd.1;simp at this
 |e::p,m::g,hd=>by
  obtain⟨R,P,C,J⟩:=mF hd;have j:=wI (seen:=seen) J;have f:seen.any (Nat.beq e.born)=seen.toArray.contains m.born:=by
   rw[C,alZ,List.contains_eq_any_beq];congr 1;funext y;cases r:Nat.beq e.born y with
   |true=>simp[qj.1 r]
   |false=>simp[J_ r]
  simp only[AF,S?];rw[f];cases T:seen.toArray.contains m.born with
  |true=>simpa using j
  |false=>
   simp only[I_,m?,i?];refine⟨by rw[v_,v_,j.1],λi x l=>?_⟩;cases i with
   |zero =>simp at l;subst l;exact⟨m,rfl,R,P,C⟩
   |succ i=>simpa using j.2 i x (by simpa using l)
def aeo (hI:Inv B R φ h w)(ho:o.op = .next x ß){t:TV}(hr:RT φ t (a.eval x))(f:FI h t=ä (out,wr)):OkX P B R φ h w o a out wr:=by
 have hex:∀{v w'},(Instr.next (a.eval x) ß o.type).run P w = .ok v w'→(ê a.eval o).run P w = .ok (.value v) w':=λhr=>by unfold ê;simp[ho,hr]
 have over:RT φ Em (.tuple #[.bool ß]):=⟨[.bool ß],rfl,rfl⟩;unfold FI at f;split at f
 next it g=>
  have T:=hI.obj it;split at f
  next since seen stepped hk=>cases f;rw[hk]at T;obtain⟨g1,l,q1,q2,q3⟩:=T;refine au hI (hex ?_) over;rw[Bb hI hr q1 g1];simp[Instr.next,iT q3]
  next m since seen sp hk=>
   rw[hk]at T;obtain⟨g1,l,q1,q2,lm,q3,q4⟩:=T;split at f
   ·rename_i es clock hm;have hom:=hI.obj m;rw[hm]at hom;obtain⟨_,l2,C,y1,y2,y3,y4⟩:=hom;rw[q3]at y1;cases y1;have r:=wI (seen:=seen) y4;have hfl:(C.filter λe=>!seen.toArray.contains e.born).toList=C.toList.filter λe=>!seen.toArray.contains e.born:=by simp
    rw[←hfl]at r;split at f
    ·rename_i hus;rw[hus]at r;have hnil:(C.filter λe=>!seen.toArray.contains e.born) = #[]:=by
      apply s?;rw[←Array.length_toList,r.1];rfl
     cases j:(seen.isEmpty||es.isEmpty||es.any (λe=>Nat.blt e.born sp))with
     |false=>rw[j]at f;cases f
     |true=>
      rw[j,U']at f;cases f;have hno:(!seen.toArray.isEmpty && !C.isEmpty&&C.all (·.born≥sp))=false:=by
       simp only[aj8]at j;rcases j with(j|j)|j
       ·have:seen=[]:=by simpa using j
        subst this;rfl
       ·have:es=[]:=by simpa using j
        subst this;have:C = #[]:=by apply s?;rw[←Array.length_toList,y4.1];rfl
        subst this;simp
       ·obtain⟨e,he,U⟩:=alt.1 j;obtain⟨i,hi⟩:=f? he;obtain⟨p,z1,_,_,z4⟩:=y4.2 i e hi;rw[al1];right;rw[Bool.eq_false_iff];intro J;have:=alm.1 J p (z_.1 (x? z1));have U:=cB.1 U;simp at this;omega
      refine au hI (hex ?_) over;rw[Bb hI hr q1 g1];simp only[Instr.next,π,iT q4,χ,q_ y3,hno,hnil];simp[Question.forced]
    ·rename_i e hus;rw[hus]at r;cases j:(Nat.blt e.born since&&Nat.blt e.born sp)with
     |false=>rw[j]at f;cases f
     |true=>
      rw[j,U']at f;cases f;simp[cB]at j;obtain⟨p,z1,z2,z3,z4⟩:=r.2 0 e rfl;have hone:(C.filter λe=>!seen.toArray.contains e.born) = #[p]:=by
       apply D_;have hl:=r.1;revert z1 hl;generalize (C.filter λe=>!seen.toArray.contains e.born).toList=L;intro z1 hl;match L,hl with
       |[y],_=>simp at z1;rw[z1]
      have hmem:p∈C:=by
       have:p∈(C.filter λe=>!seen.toArray.contains e.born):=by rw[hone];simp
       exact(akR.1 this).1
      have hno:(!seen.toArray.isEmpty && !C.isEmpty&&C.all (·.born≥sp))=false:=by rw[al1];right;rw[Bool.eq_false_iff];intro J;have:=alm.1 J p hmem;simp at this;omega
      have U:p.born<since:=Ω
      refine ju (hex (v :=.tuple #[.bool ü,p.key,p.val]) (w':={ w with heap:=w.heap.setIfInBounds l.b (.mapIter (ä lm.b) since (seen.toArray.push p.born) clock) }) ?_) (Gx.le.refl φ) (hI.setO q1 g1 (ob :=.mapIter (ä lm.b) since seen.toArray sp) q4 rfl ⟨g1,l,q1,q2,lm,q3, ?_⟩) ⟨_,bJ rfl (bJ z2 (bJ z3 rfl)),rfl⟩
      ·rw[Bb hI hr q1 g1];have hset:(setObj l.b (.mapIter (ä lm.b) since (seen.toArray.push p.born) clock)).run P w = .ok () { w with heap:=w.heap.setIfInBounds l.b (.mapIter (ä lm.b) since (seen.toArray.push p.born) clock) }:=by
        simp[setObj,Sem.run,q4]
       have hge:¬since≤p.born:=Ω
       simp only[Instr.next,π,iT q4,χ,q_ y3,hno,hone];simp only[K?]at hset⊢;simp[U,hge,Question.forced,hset]
      ·rw[(ako q4).1,z4];simp
    ·cases f
   ·cases f
  ·cases f
 ·cases f
end
