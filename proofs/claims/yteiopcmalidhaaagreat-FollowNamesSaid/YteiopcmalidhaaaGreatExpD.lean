/- Closed runs. -/
import Derived.Test.YteiopcmalidhaaaGreatJoinA
set_option linter.all false
noncomputable section
namespace Go.Proofs.YteiopcmalidhaaaGreat
namespace Clo
open Go Go.RowKit
variable [SymVal]
def io:RX→Bool
 |.ok _ _ _ _=>true
 |.no=>false
def Ac (x:Nat):List Nat→Bool
 |[]=>false
 |y::l=>bif Nat.beq x y then true else Ac x l
def vw (f:Pos)(d:DM):Bool:=match PM.get none d f with
 |none=>true
 |some _=>false
def v7 (x:Nat):List ME→List ME
 |[]=>[]
 |y::l=>bif Nat.beq x y.born then v7 x l else y::v7 x l
def DK (ld:List Nat):List ME→List ME
 |[]=>[]
 |y::l=>bif Ac y.born ld then y::DK ld l else DK ld l
abbrev Rn:=HP→Env→DM→Pos→Kx→RX
def BV (f:Env):List Pos→Env→Env
 |[],e=>e
 |p::l,e=>BV f l (PM.set .unk p e (f.get .unk p))
def aan (e:Env):List Pos→List Pos
 |[]=>[]
 |p::l=>match e.get .unk p with
  |.pv _=>p::aan e l
  |_=>aan e l
def YW (f:Pos):TV→Bool
 |.pv (.one (.ptr k _ 0))=>k.beq f
 |_=>false
def Dw (run:Rn)(f m:Pos)(cl:Nat)(l:Env)(g:ME→Env)(b:HP)(d:DM)(n:Pos)(j:List Nat):List ME→RX→RX
 |[],k=>k
 |y::es,k=>bif Ac y.born j then Dw run f m cl l g b d n j es k else run (.ov b (bO d f (.resI m y.born cl))) (g y) .leaf n λx C r _=>match x with
  |.normal=>bif oX l C&&(vw f r&&GR f (HP.ov b d).get r (λp=>p))then Dw run f m cl l g b d n j es k else .no
  |_=>.no
def adK (g:ME→RX):List ME→RX
 |[]=>.ok .normal .leaf .leaf .e
 |y::l=>bX (g y) λ_ _ _ _=>adK g l
inductive Md where
 |all
 |one (C:List Nat) (c:Nat) (n:Md)
def adh (R:List ME):Md→Bool
 |.all=>true
 |.one C _ _=>R.all λy=>Ac y.born C
def Ya (R:List ME):Md→List ME
 |.all=>R
 |.one _ c _=>DK [c] R
def Ee:Md→Md
 |.all=>.all
 |.one _ _ n=>n
def yY (run:Rn)(g m:Pos)(cl:Nat)(x:Src)(f:Option Pos)(l:Env)(P:List Pos)(b:HP)(C:List ME)(r:List Nat):Nat→Md→List ME→Env→DM→Pos→(Md→Ko)→RX
 |0,_,_,_,_,_,_=>.no
 |j+1,md,R,e,d,n,k=>bif YW g (bn e x)&&adh R md then Dw run g m cl e (λy=>aO e f (nc y.key y.val)) b d n r C (match R with
  |[]=>k md e d n
  |_::_=>adK (λy=>run (.ov b (bO d g (.resI m y.born cl))) (aO e f (nc y.key y.val)) .leaf n λT J p U=>match T with
   |.normal=>bif oX l J&&(vw g p&&vw m p)then yY run g m cl x f l P b C r j (Ee md) (v7 y.born R) (BV J P l) (eZ p d) U k else .no
   |_=>.no) (Ya R md))else .no
def Fu (f:Env):∀(l:List Pos) (e:Env) (t:Pos),(BV f l e).get .unk t=f.get .unk t∨(BV f l e).get .unk t=e.get .unk t
 |[],_,_=>.inr rfl
 |p::l,e,t=>by
  simp only[BV];obtain h|h:=Fu f l (PM.set .unk p e (f.get .unk p)) t
  ·exact .inl h
  ·rw[h,PM.get_set];simp only[upd];split
   next h'=>subst h';exact .inl rfl
   ·exact .inr rfl
def ER.car {r:Gx}{l g:Env}{f:Array Value}(h:ER r g f)(P:oX l g=true)(J:List Pos):ER r (BV g J l) f:=λt C=>by
 rcases Fu g J l (pos t)with h1|h1
 ·rw[h1];exact h t C
 ·rw[h1];rcases LF (oW P (pos t))with j|⟨p,j,R⟩
  ·rw[j];trivial
  ·have:=h t C;rw[R]at this;rw[j];exact this
def VL {f:Pos}{v:TV}(h:YW f v=true):∃g,v = .pv (.one (.ptr f g 0)):=by
 unfold YW at h;split at h
 ·rw[Pos.beq_iff.1 h];exact⟨_,rfl⟩
 ·cases h
def FD {r:RX}{k:Kx}(h:io (bX r k)=true):∃x e d n,r = .ok x e d n∧io (k x e d n)=true:=by
 cases r with
 |no=>cases h
 |ok x e d n=>exact⟨x,e,d,n,rfl,h⟩
def Aa {x:Nat}{y:ME}:∀{l:List ME},y∈v7 x l↔y∈l∧y.born≠x
 |[]=>by simp[v7]
 |z::l=>by
  simp only[v7,L_,ajC];have j:=Aa (x:=x) (y:=y) (l:=l);split
  next e=>
   rw[j,C'];constructor
   ·rintro⟨g,f⟩;exact⟨.inr g,f⟩
   ·rintro⟨rfl|g,f⟩
    ·exact(f e.symm).elim
    ·exact⟨g,f⟩
  next e=>
   rw[C',C',j];constructor
   ·rintro(rfl|⟨g,f⟩)
    ·exact⟨.inl rfl,λh=>e h.symm⟩
    ·exact⟨.inr g,f⟩
   ·rintro⟨rfl|g,f⟩
    ·exact .inl rfl
    ·exact .inr ⟨g,f⟩
def yv {ld:List Nat}{y:ME}:∀{l:List ME},y∈DK ld l↔y∈l∧Ac y.born ld=true
 |[]=>by simp[DK]
 |z::l=>by
  simp only[DK,L_];have j:=yv (ld:=ld) (y:=y) (l:=l);split
  next e=>
   rw[C',C',j];constructor
   ·rintro(rfl|⟨g,f⟩)
    ·exact⟨.inl rfl,e⟩
    ·exact⟨.inr g,f⟩
   ·rintro⟨rfl|g,f⟩
    ·exact .inl rfl
    ·exact .inr ⟨g,f⟩
  next e=>
   rw[j,C'];constructor
   ·rintro⟨g,f⟩;exact⟨.inr g,f⟩
   ·rintro⟨rfl|g,f⟩
    ·exact(e f).elim
    ·exact⟨g,f⟩
def TX {g:ME→RX}:∀{l:List ME},io (adK g l)=true→∀y∈l,io (g y)=true
 |[],_,y,hy=>by cases hy
 |z::l,h,y,hy=>by
  obtain⟨x,e,d,n,j,f⟩:=FD h;obtain rfl|hy:=C'.1 hy
  ·rw[j];rfl
  ·exact TX f y hy
def zR {run:Rn}{X:HP→Env→DM→Pos→RX}(R:∀b e d n k,run b e d n k=bX (X b e d n) k){j m:Pos}{cl:Nat}{e0:Env}{st:ME→Env}{b:HP}{d:DM}{n:Pos}{P:List Nat}{k:RX}:∀{es:List ME},io (Dw run j m cl e0 st b d n P es k)=true →
  io k=true∧∀y∈es,Ac y.born P=false→∃C g J,X (.ov b (bO d j (.resI m y.born cl))) (st y) .leaf n = .ok .normal C g J∧oX e0 C=true∧vw j g=true∧GR j (HP.ov b d).get g (λp=>p)=true
 |[],h=>⟨h,λy f=>by cases f⟩
 |z::es,h=>by
  simp only[Dw]at h;cases T:Ac z.born P with
  |true=>
   rw[T,G']at h;obtain⟨h1,U⟩:=zR R h;refine⟨h1,λy f r=>?_⟩;obtain rfl|f:=C'.1 f
   ·rw[T]at r;cases r
   ·exact U y f r
  |false=>
   rw[T,E_,R]at h;obtain⟨x,C,g,J,hX,h⟩:=FD h;split at h
   rotate_left
   ·cases h
   cases l:(oX e0 C&&(vw j g&&GR j (HP.ov b d).get g λp=>p))with
   |false=>rw[l]at h;cases h
   |true=>
    rw[l,G']at h;simp only[κ]at l;obtain⟨h1,U⟩:=zR R h;refine⟨h1,λy f r=>?_⟩;obtain rfl|f:=C'.1 f
    ·exact⟨C,g,J,hX,l.1,l.2.1,l.2.2⟩
    ·exact U y f r
inductive Fam {ι:Type}:(ι→Prop)→(ι→Md)→Prop
 |all {F:ι→Prop} {md:ι→Md} (ne:∃i,F i) (h:∀i,F i→md i = .all):Fam F md
 |split {F:ι→Prop} {md:ι→Md} (C:List Nat) (ne:∃i,F i) (h:∀i,F i→∃c n,md i = .one C c n) (cov:∀c∈C,Fam (λi=>F i∧∃n,md i = .one C c n) λi=>Ee (md i)):Fam F md
variable{ι:Type}
def Fam.ne {F:ι→Prop}{f:ι→Md}(h:Fam F f):∃i,F i:=by
 cases h with
 |all ne _=>exact ne
 |split _ ne _ _=>exact ne
def OkF (k:ι→Md→Kx)(x:Ex)(e:Env)(d:DM)(n:Pos):Prop:=∃F f,Fam F f∧∀i,F i→io (k i (f i) x e d n)=true
def Nu {x:Nat}:∀{l:List Nat},Ac x l=true→x∈l
 |y::l,h=>by
  simp only[Ac,L_,ajC]at h;split at h
  next e=>rw[e];exact S' ..
  ·exact J' _ (Nu h)
def Fam.pick {F:ι→Prop}{g:ι→Md}(h:Fam F g){R:List ME}(U:∀i,F i→adh R (g i)=true){y:ME}(j:y∈R):∃P:ι→Prop,Fam P (λi=>Ee (g i))∧∀i,P i→F i∧y∈Ya R (g i):=by
 cases h with
 |all ne h=>exact⟨F,.all ne λi f=>by rw[h i f];rfl,λi f=>⟨f,by rw[h i f];exact j⟩⟩
 |split C ne h p =>obtain⟨r,J⟩:=ne;obtain⟨c,n,T⟩:=h r J;have:=U r J;rw[T]at this;refine⟨_,p _ (Nu (T'.1 this y j)),λi f=>⟨f.1, ?_⟩⟩;obtain⟨n',l⟩:=f.2;rw[l];exact yv.2 ⟨j,by simp[Ac]⟩
section
variable {P:Program}{Gl:Glt}{B lo:Nat}{W:W0}{φ U ψ:Gx}{H h h' h0:Pos→EO}{w w' w0:World}{it m:Pos}{T sp nt:Nat}
variable{seen:List Nat}{c:Nat}
def Td (f:Inv B W φ (upd H it (.mit (some m) T (seen++[c]) sp)) w):Inv B ⟨w,φ⟩ φ (upd H it (.resI m c sp)) w :=
 ⟨Below.refl _ _,Kp.refl _,Gx.le.refl _,λ_ _=>⟨λ_=>rfl,rfl,rfl,λ_ _ _=>rfl⟩,f.size,λk=>by
  by_cases e:it=k
  ·subst e;have g:=f.obj it;rw[ay]at g⊢;obtain⟨C,l,q1,q2,r,p,j⟩:=g;exact⟨C,l,r,T,_,q1,q2,p,j,Ψ⟩
  ·have:=f.obj k;rwa[aU _ _ e]at this⊢,f.sep⟩
def He (C:Inv B W φ (upd H it (.mit (some m) T (seen++[c]) sp)) w)(j:bv B φ (upd H it (.resI m c sp)) w ψ h' w')(hh:rE (h' it)=true):bv B φ (upd H it (.mit (some m) T (seen++[c]) sp)) w ψ (upd h' it (.mit (some m) T (seen++[c]) sp)) w':=by
 have J:=j.2.1 _ (Td C);refine oZ j.1 ⟨J.below,J.kp,J.le,λk f=>?_,J.size,λk=>?_,J.sep⟩ λk f=>?_
 ·by_cases e:it=k
  ·subst e;rw[ay]at f;cases f
  ·rw[aU _ _ e]at f;exact J.res k f
 ·by_cases e:it=k
  ·subst e;rw[ay];have r:=C.obj it;rw[ay]at r;obtain⟨h1,l,q1,q2,U,R,P⟩:=r;obtain⟨p,a2,a3,a4⟩:=J.res it hh;exact⟨λg hg=>(p g).trans (h1 g hg),l,(p 0).trans q1,q2,U,j.1.loc _ _ _ R,(a4 0 l ((p 0).trans q1)).trans P⟩
  ·rw[aU _ _ e];exact J.obj k
 ·by_cases e:it=k
  ·subst e;rw[ay]at f;cases f
  ·rw[aU _ _ e]at f⊢;have:=j.2.2 k;rw[aU _ _ e]at this;exact this f
def abe (h:Pos→EO)(k:Pos):Bool:=match h k with
 |.none=>false
 |_=>true
def Pu (p:Inv B W φ (upd H it (.mit (some m) T (seen++[c]) sp)) w)(r:bv B φ (upd H it (.resI m c sp)) w ψ h' w')(C:∀k,k≠it→h' k=H k∨H k = .none)(j:rE (h' it)=true):∃g,φ.le g∧bv B φ (upd H it (.mit (some m) T (seen++[c]) sp)) w g (upd H it (.mit (some m) T (seen++[c]) sp)) w':=by
 have J:=He p r j;have l:∀k,abe (upd H it (.mit (some m) T (seen++[c]) sp)) k=true→upd H it (.mit (some m) T (seen++[c]) sp) k=upd h' it (.mit (some m) T (seen++[c]) sp) k:=λk f=>by
  by_cases e:it=k
  ·subst e;rw[ay,ay]
  ·unfold abe at f;rw[aU _ _ e]at f⊢;rw[aU _ _ e];rcases C k (λP=>e P.symm)with h1|h1
   ·exact h1.symm
   ·rw[h1]at f;cases f
 have:=bv.forget (K:=abe (upd H it (.mit (some m) T (seen++[c]) sp))) (h'':=upd H it (.mit (some m) T (seen++[c]) sp)) p J l (λk f=>by
  unfold abe at f;split at f
  next e=>exact⟨e,e⟩
  ·cases f) λk f=>.inl (l k f).symm
 exact⟨_,this.1,this⟩
def YC {a:Act}{o:Oper}(hI:Inv B W φ h w){x:Operand}(ho:o.op = .next x false){g:Nat}(hv:RT φ (.pv (.one (.ptr it g 0))) (a.eval x)){p:List ME}{clock:Nat}(hit:h it = .mit (some m) T seen sp)(hm:h m = .map p clock)(hold:p.all (λx=>Nat.blt x.born T)=true)(hsp:T≤sp){K:Act→World→Prop}{Q:Exit→Act→World→Prop}
  (C:(∀y∈p,seen.toArray.contains y.born=true)→∀v,RT φ vI v→K (a.put o.dst v) w)
  (J:∀y∈p,seen.toArray.contains y.born=false→∀v w1,RT φ (nc y.key y.val) v→bv B φ h w φ (upd h it (.mit (some m) T (seen++[y.born]) clock)) w1→K (a.put o.dst v) w1):o.wp P a w K Q:=by
 have hob:=hI.obj it;rw[hit]at hob;obtain⟨g1,l,q1,q2,lm,q3,q4⟩:=hob;have hom:=hI.obj m;rw[hm]at hom;obtain⟨_,l2,vs,y1,y2,y3,y4⟩:=hom;rw[q3]at y1;cases y1;have U:∀x∈vs.toList,x.born<T:=λz hz=>by
  obtain⟨i,R⟩:=N_ hz;have j:i<p.length:=by have:=(N'.1 R).1;have:=y4.1;omega
  obtain⟨me,r,_,_,z4⟩:=y4.2 i p[i] (δ j);rw[R]at r;cases r;rw[z4];exact bM.1 (T'.1 hold _ (e_ j))
 have hp:=sY hI hv q1 g1;rcases run_next_at (P:=P) w o.type l.b lm.b T sp seen.toArray vs clock q4 y3 U hsp with⟨h0,hr⟩|⟨e,he,w1,hw1,hr⟩
 ·refine Cb ho (by rw[hp];exact hr) (C (λy hy=>?_) _ ⟨_,rfl,rfl⟩);obtain⟨i,R⟩:=N_ hy;obtain⟨me,r,_,_,z4⟩:=y4.2 i y R;cases hc:seen.toArray.contains y.born with
  |true=>rfl
  |false =>have f:me∈leftOf vs seen.toArray:=aiy.2 ⟨q_.1 (Y_ r),by rw[z4,hc];rfl⟩;rw[V_ h0]at f;simp at f
 ·unfold leftOf at he;have f:e∈vs∧(!seen.toArray.contains e.born)=true:=by
   have:=q_.1 he;exact aiy.1 this
  obtain⟨i,R⟩:=N_ (q_.2 f.1);have j:i<p.length:=by have:=(N'.1 R).1;have:=y4.1;omega
  obtain⟨me,r,z2,z3,z4⟩:=y4.2 i p[i] (δ j);rw[R]at r;cases r;refine Cb ho (by rw[hp];exact hr) (J p[i] (e_ j) (by rw[←z4];simpa using f.2) _ _ ⟨_,bt rfl (bt z2 (bt z3 rfl)),rfl⟩ ?_);have hI1:bv B φ h w φ h w1:=by
   obtain rfl|rfl:=hw1
   ·exact bv.refl
   ·exact⟨Gx.le.refl _,λW h=>h.drew,λk hk=>hk⟩
  refine hI1.trans ?_;have hq4:w1.heap[l.b]? = some (.mapIter (some lm.b) T seen.toArray sp):=by obtain rfl|rfl:=hw1 <;> exact q4
  refine⟨Gx.le.refl _,λW hI=>?_,λk hk=>?_⟩
  ·refine hI.setO q1 g1 (ob :=.mapIter (some lm.b) T seen.toArray sp) hq4 rfl ⟨g1,l,q1,q2,lm,q3, ?_⟩;rw[(aix hq4).1,z4];simp
  ·by_cases e:it=k
   ·subst e;rw[ay]at hk;cases hk
   ·rwa[aU _ _ e]at hk
end
variable [SymVal]
section
variable {P:Program}{Gl:Glt}{B:Nat}{ck:Callk}{Γ:List Lq}{fuel nt:Nat}
def adR (ok:Ex→Env→DM→Pos→Prop)(B g:Nat)(U:Gx)(j:Pos→EO)(f:World)(nt:Nat)(b:HP)(l:Exit)(a:Act)(w:World):Prop:=∃x e d n,ok x e d n∧we B g U j f nt x e (HP.ov b d).get l a w
def th {b:HP}{d f:DM}{k:Pos}(h:vw k f=true):(HP.ov (.ov b d) f).get k=(HP.ov b d).get k:=by
 show(match PM.get none f k with|some o=>o|none=>(HP.ov b d).get k)=_;unfold vw at h;split at h
 next e=>rw[e]
 ·cases h
def N9 {ι:Type}{id:Nat}{C:Array Oper}{y:Code}{x:Src}{dst:Option Pos}{l:List OP}(hco:ir P Gl nt C.toList C.toList = .nxt x dst::l)(ckok:CkOk P Gl B ck Γ)(Sy:mI P Gl B ck Γ fuel nt y)
  {ro:Option Nat} {n lo:Nat} {W:W0} {U:Gx} {h0:Pos→EO} {w0:World} (hI0:Inv B W U h0 w0) (hG:mJ Gl P B W) (hcx:Ctx Γ U w0) (hro:zD ro w0) (hnd:aT ro (.seq (.region id C false) y)) (hlo:lo≤w0.heap.size)
  {run:Rn} (hrun:∀b e d n k,run b e d n k=bX (iy (aF ck b l e d n) (exec ck fuel (cC P Gl nt y) b)) k)
  {b:HP} {eb:Env} {cv:List Pos} {f m:Pos} {T clock:Nat} {es:List ME} {ld:List Nat} (hold:es.all (λx=>Nat.blt x.born T)=true) (hclk:T≤clock)
  {kf:ι→Md→Kx} {k:ι→Md→Ko} (hk:∀i md e d n1,io (k i md e d n1)=true→∃X e' d' n',iy (aF ck b l (aO e dst vI) (bO d f .dead) n1) (exec ck fuel (cC P Gl nt y) b) = .ok X e' d' n'∧X ≠ .normal∧io (kf i md X e' d' n')=true) :
  ∀(j jx:Nat) (F:ι→Prop) (md:ι→Md) (_:Fam F md) (R:List ME) (e0:Env) (d:DM) (n1:Pos) (seen:List Nat) (sp:Nat) (a:Act) (w:World),T≤sp→vA (cx es) seen.toArray<j→(∀i,F i→io (yY run f m clock x dst eb cv b es ld jx (md i) R e0 d n1 (k i))=true) →
   (HP.ov b d).get f = .res→(HP.ov b d).get m = .map es clock→(∀y∈R,y∈es∧Ac y.born ld=true∧seen.toArray.contains y.born=false)→(∀y∈es,Ac y.born ld=true→seen.toArray.contains y.born=false→y∈R) →
   Rl B lo U h0 w0 nt e0 (upd (HP.ov b d).get f (.mit (some m) T seen sp)) a w→Code.roundsIn (RF ro) n P (.seq (.region id C false) y) (adR (OkF kf) B lo U h0 w0 nt b) j a w:=by
 obtain⟨o0,au,hL⟩:∃o0 au,C.toList=o0::au:=by
  cases hL:C.toList with
  |nil=>rw[hL]at hco;simp only[ir]at hco;cases hco
  |cons o0 au=>exact⟨o0,au,rfl⟩
 have hco':=hco;rw[show ir P Gl nt C.toList C.toList=ir P Gl nt C.toList (o0::au) from Y' (ir P Gl nt C.toList) hL]at hco';simp[ir]at hco';obtain⟨hc0,hcr⟩:=hco';have hoi:C[0]? = some o0:=by rw[←Array.getElem?_toList,hL];rfl
 have hsz:0<C.size:=by have:=Y' List.length hL;simp at this;omega
 have hdrop:C.toList.drop 1=au:=by rw[hL];rfl
 have hno:ff ro o0:=(aT.ops (aT.left hnd)) o0 (by rw[hL];exact S' ..);obtain⟨itop,hop,hxe,hdst,hg⟩:=Cs hc0;intro j;induction j with
 |zero=>exact λjx F md hF R e0 d n1 seen sp a w hsp hcnt hex hit hmm hR1 hR2 hr=>Ω
 |succ j ih=>
   intro jx F md hF R e0 d n1 seen sp a w hsp hcnt hex hit hmm hR1 hR2 hr;have hmit:m≠f:=λe=>by rw[e,hit]at hmm;cases hmm
   rw[roundsIn_succ];refine wpIn_seq (wpIn_region ?_);rw[I?,show C.size=(C.size-1)+1 by omega,U_,wpOpsIn_cons];obtain⟨φ,hs,hE⟩:=hr.ex;have hI:=hs.2.1 _ hI0;unfold wpOpIn;simp[hoi];rw[β (by simp[Region.wanted,hg])];refine sE hno ?_;have hv:=gi hE itop;obtain⟨i0,hi0⟩:=hF.ne;cases jx with
   |zero=>exact absurd (hex i0 hi0) (by simp[yY,io])
   |succ jx=>
   have hchk:∀i,F i→YW f (bn e0 x)=true∧adh R (md i)=true:=λi hi=>by
    cases hc:(YW f (bn e0 x)&&adh R (md i))with
    |true=>exact M?.1 hc
    |false =>have:=hex i hi;simp only[yY,hc,E_]at this;cases this
   have hxi:=(hchk i0 hi0).1;obtain⟨g,hx⟩:=VL hxi;rw[←hxe,hx]at hv;have hex0:=hex;have hq:=λi hi=>zR hrun (k:=match R with
    |[]=>k i (md i) e0 d n1
    |_::_=>adK (λy=>run (.ov b (bO d f (.resI m y.born clock))) (aO e0 dst (nc y.key y.val)) .leaf n1 λx' J p n1=>match x' with
     |.normal=>bif oX eb J&&(vw f p&&vw m p)then yY run f m clock x dst eb cv b es ld jx (Ee (md i)) (v7 y.born R) (BV J cv eb) (eZ p d) n1 (k i)else .no
     |_=>.no) (Ya R (md i))) (by
    have:=hex i hi;simp only[yY,(hchk i hi).1,(hchk i hi).2,Bool.and_self,G']at this;exact this)
   refine YC hI hop hv (ay _ _ _) ((aU _ _ λe=>hmit e.symm).trans hmm) hold hsp (λhall v hv=>?_) (λr hy hnb v w1 hv hst=>?_)
   ·
    have hRn:R=[]:=by
     cases R with
     |nil=>rfl
     |cons y R =>obtain⟨q1,_,q2⟩:=hR1 y (S' ..);rw[hall y q1]at q2;cases q2
    subst hRn;have hfin:=λi hi=>hk i (md i) _ _ _ (hq i hi).1;obtain⟨X,e',d',n',hf0,hX,_⟩:=hfin i0 hi0;have hst:bv B φ (upd (HP.ov b d).get f (.mit (some m) T seen sp)) w φ (HP.ov b (bO d f .dead)).get w:=by
     have e:(HP.ov b (bO d f .dead)).get=upd (upd (HP.ov b d).get f (.mit (some m) T seen sp)) f .dead:=by rw[HP.get_set,ke]
     rw[e];exact Iv (by rw[ay];rfl)
    have hall2:OkF kf X e' d' n':=⟨F,md,hF,λi hi=>by
     obtain⟨X',e2,d2,n2,q1,q2,q3⟩:=hfin i hi;rw[hf0]at q1;injection q1 with z1 z2 z3 z4;subst z1;subst z2;subst z3;subst z4;exact q3⟩
    have hr':=hr.step hI0 hs hE hst hdst hv;unfold iy at hf0;split at hf0
    ·rename_i J p n2 hrn;refine bp (n:=n) hI0 hG ckok hcx (aT.ops (aT.left hnd)) (λa' w' hr2=>?_) au 1 _ _ n1 _ _ hdrop (by rw[hcr];exact hrn) hr';refine wpIn_mono (Sy ro n lo W U h0 w0 hI0 hG hcx hro (aT.right hnd) hlo b J p n2 a' w' X e' d' n' hf0 hr2) λex a3 w3 hn=>?_;cases ex with
     |normal=>exact(hX hn.1).elim
     |exit _=>exact⟨_,_,_,_,hall2,hn⟩
     |ret=>exact⟨_,_,_,_,hall2,hn⟩
     |goto _=>exact hn.elim
     |panic _=>exact hn.elim
     |outgrown=>exact hn.elim
    ·cases hf0
   ·
    rw[ke]at hst;have hs2:=hs.trans hst;have hI2:=hs2.2.1 _ hI0;have hIr:=Td hI2;have hdg:∀z,(HP.ov b (bO d f z)).get=upd (HP.ov b d).get f z:=λz=>HP.get_set ..;have hdk:∀{k:Pos},k≠f→(HP.ov b (bO d f (.resI m r.born clock))).get k=(HP.ov b d).get k:=λ{k} e=>by rw[hdg,aU _ _ λe'=>e e'.symm]
    have hdu:∀p z,upd (HP.ov (.ov b (bO d f (.resI m r.born clock))) p).get f z=upd (HP.ov (.ov b d) p).get f z:=λp z=>by
     funext k;by_cases e:f=k
     ·subst e;rw[ay,ay]
     ·rw[aU _ _ e,aU _ _ e];show(match PM.get none p k with|some o=>o|none=>(HP.ov b (bO d f (.resI m r.born clock))).get k)=match PM.get none p k with|some o=>o|none=>(HP.ov b d).get k
      rw[hdk λe'=>e e'.symm]
    rw[←hdg]at hIr;have hlo2:lo≤w1.heap.size:=Θ hlo (hs2.2.1 _ hI0.self).below.size;have hclk2:T≤clock:=hclk;obtain⟨p1,p2⟩:=dx (hE.mono hst.1) hr.sz hdst hv;obtain⟨ms,m1,m2,m3⟩:=hr.df;have hKp:=(hst.2.1 _ hI.self).kp;have hr1:Rl B lo φ (HP.ov b (bO d f (.resI m r.born clock))).get w1 nt (aO e0 dst (nc r.key r.val)) (HP.ov (.ov b (bO d f (.resI m r.born clock))) .leaf).get (a.put o0.dst v) w1:=by refine⟨⟨φ,bv.refl,p1⟩,p2,ms, ?_,m2,λD hD=>⟨(m3 D hD).1,hKp.keep _ _ (m3 D hD).2 rfl⟩⟩;cases o0.dst <;> exact m1
    have hG1:mJ Gl P B ⟨w1,φ⟩:=hG.more hI2;have hcx1:Ctx Γ φ w1:=hcx.more hI0 hs2;have hro1:zD ro w1:=hro.more (hs2.2.1 _ hI0.self).kp;have round:∀{J:Env} {p:DM} {n2:Pos} {Q:Exit→Act→World→Prop},iy (aF ck (.ov b (bO d f (.resI m r.born clock))) l (aO e0 dst (nc r.key r.val)) .leaf n1) (exec ck fuel (cC P Gl nt y) (.ov b (bO d f (.resI m r.born clock)))) = .ok .normal J p n2 →
      (∀a3 w3,Rl B lo φ (HP.ov b (bO d f (.resI m r.born clock))).get w1 nt J (HP.ov (.ov b (bO d f (.resI m r.born clock))) p).get a3 w3→Q .normal a3 w3)→wpOpsIn (RF ro) n P C (Exit.then (λa w=>y.wpIn (RF ro) n P Q a w) Q) (List.range' 1 (C.size-1)) (a.put o0.dst v) w1:=λ{J p n2 Q} hf hQ=>by
     unfold iy at hf;split at hf
     ·rename_i e2 d2 n3 hrn;refine bp (n:=n) hIr hG1 ckok hcx1 (aT.ops (aT.left hnd)) (λa' w' hr2=>?_) au 1 _ _ n1 _ _ hdrop (by rw[hcr];exact hrn) hr1;refine wpIn_mono (Sy ro n lo _ _ _ _ hIr hG1 hcx1 hro1 (aT.right hnd) hlo2 _ e2 d2 n3 a' w' .normal J p n2 hf hr2) λex a3 w3 hn=>?_;cases ex with
      |normal=>exact hQ _ _ hn.2
      |exit _=>exact(by cases hn.1)
      |ret=>exact(by cases hn.1)
      |goto _=>exact hn.elim
      |panic _=>exact hn.elim
      |outgrown=>exact hn.elim
     ·cases hf
    have hcnt':vA (cx es) (seen++[r.born]).toArray<j:=by have hlt:vA (cx es) (seen++[r.born]).toArray<vA (cx es) seen.toArray:=TG (Az hy) hnb;omega
    have hsee:∀z:Nat,(seen++[r.born]).toArray.contains z=(seen.toArray.contains z||z == r.born):=λz=>by rw[Bool.eq_iff_iff];simp
    cases hl:Ac r.born ld with
    |false=>
     obtain⟨J,p,n2,hf,k1,k2,k3⟩:=(hq i0 hi0).2 r hy hl;refine round hf λa3 w3 hr3=>?_;obtain⟨ψ,hs3,hE3⟩:=hr3.ex;obtain⟨ψ',hle,hst'⟩:=Pu (H:=(HP.ov b d).get) hI2 (by rw[←hdg];exact hs3) (λk hk=>by
      cases hd:PM.get none p k with
      |none=>exact .inl ((th (by unfold vw;rw[hd])).trans (hdk hk))
      |some o=>exact .inr ((zu k3 k o hd).resolve_right hk)) (by rw[th k2,hdg,ay];rfl)
     have hE0:ER φ e0 a3.tmps:=ER.back (φ:=φ) (ψ:=ψ) (λk g l h=>hs3.1.loc k g l h) (λk v h=>hs3.1.val k v h) hE hE3 k1;refine ih (jx+1) F md hF R e0 d n1 (seen++[r.born]) clock a3 w3 hclk2 hcnt' hex0 hit hmm (λz hz=>?_) (λz hz hz2 hz3=>?_) ⟨⟨ψ',hs2.trans hst',hE0.mono hle⟩,hr3.sz,hr3.df⟩
     ·obtain⟨q1,q2,q3⟩:=hR1 z hz;refine⟨q1,q2, ?_⟩;rw[hsee,q3,Bool.false_or];cases hb:z.born == r.born with
      |false=>rfl
      |true=>rw[eq_of_beq hb,hl]at q2;cases q2
     ·rw[hsee,ajs]at hz3;exact hR2 z hz hz2 hz3.1
    |true=>
     have hyR:=hR2 r hy hl hnb;obtain⟨F',hF',hsub⟩:=hF.pick (λi hi=>(hchk i hi).2) hyR;obtain⟨i1,hi1⟩:=hF'.ne;have hstep:∃J p n2,iy (aF ck (.ov b (bO d f (.resI m r.born clock))) l (aO e0 dst (nc r.key r.val)) .leaf n1) (exec ck fuel (cC P Gl nt y) (.ov b (bO d f (.resI m r.born clock)))) = .ok .normal J p n2∧oX eb J=true∧vw f p=true∧vw m p=true∧∀i,F' i→io (yY run f m clock x dst eb cv b es ld jx (Ee (md i)) (v7 r.born R) (BV J cv eb) (eZ p d) n2 (k i))=true:=by
      have one:∀i,F' i→∃J p n2,iy (aF ck (.ov b (bO d f (.resI m r.born clock))) l (aO e0 dst (nc r.key r.val)) .leaf n1) (exec ck fuel (cC P Gl nt y) (.ov b (bO d f (.resI m r.born clock)))) = .ok .normal J p n2∧oX eb J=true∧vw f p=true∧vw m p=true∧io (yY run f m clock x dst eb cv b es ld jx (Ee (md i)) (v7 r.born R) (BV J cv eb) (eZ p d) n2 (k i))=true:=λi hi=>by
       have h1:=(hq i (hsub i hi).1).1;split at h1
       ·cases hyR
       ·have h2:=TX h1 r (hsub i hi).2;rw[hrun]at h2;obtain⟨x,J,p,n2,q1,h2⟩:=FD h2;split at h2
        rotate_left
        ·cases h2
        cases hc:(oX eb J&&(vw f p&&vw m p))with
        |false=>rw[hc]at h2;cases h2
        |true =>rw[hc,G']at h2;simp only[κ]at hc;exact⟨J,p,n2,q1,hc.1,hc.2.1,hc.2.2,h2⟩
      obtain⟨J,p,n2,q1,q2,q3,q4,_⟩:=one i1 hi1;refine⟨J,p,n2,q1,q2,q3,q4,λi hi=>?_⟩;obtain⟨e1',d1',n2',z1,z2,z3,z4,z5⟩:=one i hi;rw[q1]at z1;injection z1 with y1 y2 y3 y4;subst y2;subst y3;subst y4;exact z5
     obtain⟨J,p,n2,hf,k1,k2,k3,k4⟩:=hstep;refine round hf λa3 w3 hr3=>?_;obtain⟨ψ,hs3,hE3⟩:=hr3.ex;have hit':(HP.ov (.ov b d) p).get f = .res:=(th k2).trans hit;have hmg:(HP.ov b (eZ p d)).get=(HP.ov (.ov b d) p).get:=HP.get_merge b d p;have hb:=He (H:=(HP.ov b d).get) hI2 (by rw[←hdg];exact hs3) (by rw[th k2,hdg,ay];rfl);rw[hdu]at hb;refine ih jx F' (λi=>Ee (md i)) hF' (v7 r.born R) (BV J cv eb) (eZ p d) n2 (seen++[r.born]) clock a3 w3 hclk2 hcnt' k4 (by rw[hmg];exact hit') (by rw[hmg,th k3];exact hmm) (λz hz=>?_) (λz hz hz2 hz3=>?_) ⟨⟨ψ,by rw[hmg];exact hs2.trans hb,hE3.car k1 cv⟩,hr3.sz,hr3.df⟩
     ·obtain⟨z1,z2⟩:=Aa.1 hz;obtain⟨q1,q2,q3⟩:=hR1 z z1;refine⟨q1,q2, ?_⟩;rw[hsee,q3,Bool.false_or];cases hb:z.born == r.born with
      |false=>rfl
      |true=>exact(z2 (eq_of_beq hb)).elim
     ·rw[hsee,ajs]at hz3;refine Aa.2 ⟨hR2 z hz hz2 hz3.1,λe=>?_⟩;rw[e]at hz3;simp at hz3
end
variable [SymVal]
def fcK (c:FC):Clo:=BC.rec (motive:=λ_=>Clo) (λf=>f) (fc c)
def Rm (c:FC)(ck:Callk)(f:Nat)(b:HP)(e:Env)(d:DM)(n:Pos)(k:Kx):fcK c ck f b e d n k=bX (exec ck f c b e d n) k:=by unfold fcK;rw[By]
def ldX (run:Rn)(g m:Pos)(cl:Nat)(e:Env)(f:Option Pos)(b:HP)(d:DM)(n:Pos):List ME→List Nat
 |[]=>[]
 |y::es=>bif io (run (.ov b (bO d g (.resI m y.born cl))) (aO e f (nc y.key y.val)) .leaf n λx j l r=>bif oX e j&&GR g (HP.ov b d).get l (λp=>p)then .ok x j l r else .no)then ldX run g m cl e f b d n es else y.born::ldX run g m cl e f b d n es
def eL (run:Rn)(j m:Pos)(cl:Nat)(x:Src)(f:Option Pos)(r:Env)(C:List Pos)(e:Env)(b:HP)(l:List ME)(p:List Nat)(d:DM)(n:Pos)(g:Md)(k:Md→Kx):RX :=
 yY run j m cl x f r C b l p (l.length+1) g (DK p l) e (bO d j .res) n λg e d n=>run b (aO e f vI) (bO d j .dead) n λx e d n=>match x with
  |.normal=>.no
  |x=>k g x e d n
def eN (ck:Callk)(l:Nat):FC→HP→Env→DM→Pos→Md→(Md→Kx)→RX
 |.seq x y,b,e,d,n,g,k=>eN ck l x b e d n g λg J e d n=>match J with
  |.normal=>eN ck l y b e d n g k
  |J=>k g J e d n
 |.cond c x y,b,e,d,n,g,k=>match bn e c with
  |.pv (.one (.bl t))=>match t with
   |true=>eN ck l x b e d n g k
   |false=>eN ck l y b e d n g k
  |_=>.no
 |.block id c,b,e,d,n,g,k=>eN ck l c b e d n g λg x e d n=>match x with
  |.exit r=>match Nat.beq r id with
   |true=>k g .normal e d n
   |false=>k g (.exit r) e d n
  |x=>k g x e d n
 |.rloop x p j f c,b,e,d,n,g,k=>match bn (nR f (iz e)) x with
  |.pv (.one (.ptr it _ 0))=>match (HP.ov b d).get it with
   |.mit (some m) T [] sp=>match (HP.ov b d).get m with
    |.map (C::y2::yr) clock=>bif Nat.ble T sp&&(Nat.ble T clock&&(C::y2::yr).all (λx=>Nat.blt x.born T))then
      eL (fcK (.seq (.region j) c) ck l) it m clock x p (nR f (iz e)) (aan e f) (BV (iz e) (aan e f) (nR f (iz e))) b (C::y2::yr) (ldX (fcK (.seq (.region j) c) ck l) it m clock (BV (iz e) (aan e f) (nR f (iz e))) p b (bO d it .res) n (C::y2::yr)) d n g k
     else .no
    |_=>fcK (.rloop x p j f c) ck l b e d n (k g)
   |_=>fcK (.rloop x p j f c) ck l b e d n (k g)
  |_=>fcK (.rloop x p j f c) ck l b e d n (k g)
 |c,b,e,d,n,g,k=>fcK c ck l b e d n (k g)
section
variable {P:Program}{Gl:Glt}{B:Nat}{ck:Callk}{Γ:List Lq}{fuel nt:Nat}
def aa6 (P:Program)(Gl:Glt)(B:Nat)(ck:Callk)(Γ:List Lq)(fuel nt:Nat)(c:Code):Prop :=
 ∀(ι:Type) (F:ι→Prop) (p:ι→Md) (_:Fam F p) (g:Option Nat) (n j:Nat) (W:W0) (U:Gx) (l:Pos→EO) (f:World),Inv B W U l f→mJ Gl P B W→Ctx Γ U f→zD g f→aT g c→j≤f.heap.size→∀(b:HP) (e:Env) (d:DM) (r:Pos) (a:Act) (w:World) (k:ι→Md→Kx),
  (∀i,F i→io (eN ck fuel (cC P Gl nt c) b e d r (p i) (k i))=true)→Rl B j U l f nt e (HP.ov b d).get a w→c.wpIn (RF g) n P (adR (OkF k) B j U l f nt b) a w
def X6 {c:Code}(hS:mI P Gl B ck Γ fuel nt c){ι:Type}{F:ι→Prop}{r:ι→Md}(hF:Fam F r){j:Option Nat}{n l:Nat}{W:W0}{U:Gx}{p:Pos→EO}{f:World}(hI0:Inv B W U p f)(hG:mJ Gl P B W)(hcx:Ctx Γ U f)(C:zD j f)(J:aT j c)(R:l≤f.heap.size){b:HP}{e:Env}{d:DM}{n1:Pos}{a:Act}{w:World}{k:ι→Md→Kx}
  (h:∀i,F i→io (fcK (cC P Gl nt c) ck fuel b e d n1 (k i (r i)))=true) (hr:Rl B l U p f nt e (HP.ov b d).get a w):c.wpIn (RF j) n P (adR (OkF k) B l U p f nt b) a w:=by
 obtain⟨i0,T⟩:=hF.ne;have g:=h i0 T;rw[Rm]at g;obtain⟨x,e',d',n',h1,_⟩:=FD g;refine wpIn_mono (hS j n l W U p f hI0 hG hcx C J R b e d n1 a w x e' d' n' h1 hr) λex a w hn=>⟨x,e',d',n',⟨F,r,hF,λi hi=>?_⟩,hn⟩;have:=h i hi;rw[Rm,h1]at this;exact this
def X7:FC→Bool
 |.seq _ _=>false
 |.cond _ _ _=>false
 |.block _ _=>false
 |.rloop _ _ _ _ _=>false
 |_=>true
def ZJ {c:FC}(h:X7 c=true)(ck:Callk)(g:Nat)(b:HP)(e:Env)(d:DM)(n:Pos)(f:Md)(k:Md→Kx):eN ck g c b e d n f k=fcK c ck g b e d n (k f):=by
 cases c <;> first|rfl|cases h
def ZI (hm:P.follows .mixedOrders=true)(ckok:CkOk P Gl B ck Γ):∀c:Code,aa6 P Gl B ck Γ fuel nt c:=by
 intro c;have hC:=λc=>(gh (fuel:=fuel) (nt:=nt) hm ckok c).1;have plain:∀c:Code,X7 (cC P Gl nt c)=true→aa6 P Gl B ck Γ fuel nt c:=λc hp=>λι F md hF ro n lo W U h0 w0 J hG C j p r b e d n1 a w k h hr=>
  X6 (hC c) hF J hG C j p r (λi hi=>by rw[←ZJ hp];exact h i hi) hr
 induction c with
 |skip=>exact plain _ rfl
 |label l=>exact plain _ rfl
 |exit id=>exact plain _ rfl
 |ret=>exact plain _ rfl
 |goto l=>exact plain _ rfl
 |refuse s=>exact plain _ rfl
 |rangeFunc g ps x y _ _=>exact plain _ (by simp only[cC];split <;> rfl)
 |region id ops draw=>
  refine plain _ ?_;cases draw with
  |false=>rfl
  |true=>simp only[cC,RL];split <;> rfl
 |seq x y ihx ihy=>
  intro ι F md hF ro n lo W U h0 w0 J hG C j p r b e d n1 a w k h hr;refine wpIn_seq (wpIn_mono (ihx ι F md hF ro n lo W U h0 w0 J hG C j (aT.left p) r b e d n1 a w (λi=>λmd x' e d n=>match x' with
   |.normal=>eN ck fuel (cC P Gl nt y) b e d n md (k i)
   |x'=>k i md x' e d n) h hr) λex a w hn=>?_)
  obtain⟨x1,e1,d1,n2,⟨F',md',hF',f⟩,hn⟩:=hn;cases ex with
  |normal =>obtain⟨rfl,R⟩:=hn;exact ihy ι F' md' hF' ro n lo W U h0 w0 J hG C j (aT.right p) r b e1 d1 n2 a w k f R
  |exit id=>obtain⟨rfl,R⟩:=hn;exact⟨_,_,_,_,⟨F',md',hF',f⟩,rfl,R⟩
  |ret=>obtain⟨rfl,R⟩:=hn;exact⟨_,_,_,_,⟨F',md',hF',f⟩,rfl,R⟩
  |goto _=>exact hn.elim
  |panic _=>exact hn.elim
  |outgrown=>exact hn.elim
 |cond cnd x y ihx ihy=>
  intro ι F md hF ro n lo W U h0 w0 J hG C j p r b e d n1 a w k h hr;simp only[cC,eN]at h;obtain⟨φ,hs,hE⟩:=hr.ex;have hv:=gi hE cnd;obtain⟨i0,hi0⟩:=hF.ne;have h00:=h i0 hi0;split at h00
  rotate_left
  ·cases h00
  rename_i t ht;rw[ht]at hv;have hv:=Dc hv;simp only[ht]at h;cases t with
  |true=>exact wpIn_cond_true hv (ihx ι F md hF ro n lo W U h0 w0 J hG C j (aT.left p) r b e d n1 a w k h hr)
  |false=>exact wpIn_cond_false hv (ihy ι F md hF ro n lo W U h0 w0 J hG C j (aT.right p) r b e d n1 a w k h hr)
 |block id x ih=>
  intro ι F md hF ro n lo W U h0 w0 J hG C j p r b e d n1 a w k h hr;refine wpIn_block (wpIn_mono (ih ι F md hF ro n lo W U h0 w0 J hG C j p r b e d n1 a w (λi=>λmd x e d n=>match x with
   |.exit id'=>match Nat.beq id' id with
    |true=>k i md .normal e d n
    |false=>k i md (.exit id') e d n
   |x=>k i md x e d n) h hr) λex a w hn=>?_)
  obtain⟨x1,e1,d1,n2,⟨F',md',hF',f⟩,hn⟩:=hn;cases ex with
  |normal=>obtain⟨rfl,R⟩:=hn;exact⟨_,_,_,_,⟨F',md',hF',f⟩,rfl,R⟩
  |ret=>obtain⟨rfl,R⟩:=hn;exact⟨_,_,_,_,⟨F',md',hF',f⟩,rfl,R⟩
  |exit id'=>
   obtain⟨rfl,R⟩:=hn;show if id'=id then _ else _
   simp only at f;cases hb:Nat.beq id' id with
   |true =>rw[β (ν hb)];simp only[hb]at f;exact⟨_,_,_,_,⟨F',md',hF',f⟩,rfl,R⟩
   |false =>rw[B' (B_ hb)];simp only[hb]at f;exact⟨_,_,_,_,⟨F',md',hF',f⟩,rfl,R⟩
  |goto _=>exact hn.elim
  |panic _=>exact hn.elim
  |outgrown=>exact hn.elim
 |scope x ih=>
  intro ι F md hF ro n lo W U h0 w0 J hG C j p r b e d n1 a w k h hr;refine jY (wpIn_mono (ih ι F md hF ro n lo W U h0 w0 J hG C j p r b e d n1 a w k h hr) λex a w hn=>?_);obtain⟨x1,e1,d1,n2,f,hn⟩:=hn;cases ex with
  |goto _=>exact hn.elim
  |_=>exact⟨_,_,_,_,f,hn⟩
 |loop c ih=>
  rcases TO (P:=P) (Gl:=Gl) (nt:=nt) c with⟨id,ops,y,x,dst,l,rfl,hco,hcc⟩|hcc
  rotate_left
  ·exact plain _ (by rw[hcc];rfl)
  intro ι F md hF ro n lo W U h0 w0 J hG C j p r b e d n1 a w k h hr;have dflt:(∀i,F i→io (fcK (cC P Gl nt (.loop (.seq (.region id ops false) y))) ck fuel b e d n1 (k i (md i)))=true)→(Code.loop (.seq (.region id ops false) y)).wpIn (RF ro) n P (adR (OkF k) B lo U h0 w0 nt b) a w:=λh=>X6 (hC _) hF J hG C j p r h hr;rw[hcc]at h dflt;simp only[eN]at h;obtain⟨asg,hasg⟩:∃asg,asg=dst.toList++BH l++p0 (cC P Gl nt y):=⟨_,rfl⟩;rw[←hasg]at h dflt;obtain⟨i0,hi0⟩:=hF.ne;have h00:=h i0 hi0;split at h00
  next it g hx=>
   simp only[hx]at h;split at h00
   ·rename_i m T sp hit;simp only[hit]at h;split at h00
    ·rename_i y1 y2 yr clock hmm;simp only[hmm]at h;cases hchk:(Nat.ble T sp&&(Nat.ble T clock&&(y1::y2::yr).all λx=>Nat.blt x.born T))with
     |false=>rw[hchk]at h00;cases h00
     |true=>
      simp only[hchk,G']at h;simp only[κ,bf]at hchk;obtain⟨c1,c2,c3⟩:=hchk;have hmit:m≠it:=λe=>by rw[e,hit]at hmm;cases hmm
      have hrun:∀b e d n k,fcK (.seq (.region l) (cC P Gl nt y)) ck fuel b e d n k=bX (iy (aF ck b l e d n) (exec ck fuel (cC P Gl nt y) b)) k:=λb e d n k=>by rw[Rm];congr 1;simp only[exec];cases aF ck b l e d n <;> rfl
      refine wpIn_loop_rounds (vA (cx (y1::y2::yr)) #[]+1) (N9 (kf:=k) hco ckok (hC y) J hG C j p r hrun c3 c2 (λi md e d n1 hk=>?_) _ _ F md hF _ _ _ n1 [] sp a w c1 (Nat.lt_succ_self _) h ?_ ?_ (λz hz=>?_) (λz hz hl _=>yv.2 ⟨hz,hl⟩) ?_)
      ·rw[hrun]at hk;obtain⟨X,e',d',n',q1,q2⟩:=FD hk;refine⟨X,e',d',n',q1,λe=>?_, ?_⟩
       ·subst e;cases q2
       ·split at q2
        ·cases q2
        ·exact q2
      ·rw[HP.get_set,ay]
      ·rw[HP.get_set,aU _ _ λe=>hmit e.symm];exact hmm
      ·obtain⟨q1,q2⟩:=yv.1 hz;exact⟨q1,q2,Ψ⟩
      ·obtain⟨φ,hs,hE⟩:=hr.ex;rw[HP.get_set,ke];have e1:upd (HP.ov b d).get it (.mit (some m) T [] sp)=(HP.ov b d).get:=by
        funext k;simp only[upd];split
        next ek=>rw[←ek,hit]
        ·rfl
       rw[e1];exact⟨⟨φ,hs,(hE.weak (u0 e)).weak λt=>(Fu _ _ _ t).elim .inr λh=>(Ar asg (iz e) t).elim (λh'=>.inl (h.trans h')) λh'=>.inr (h.trans h')⟩,hr.sz,hr.df⟩
    ·rename_i o hno;refine dflt λi hi=>?_;have:=h i hi;split at this
     next hmm=>exact(hno _ _ _ _ hmm).elim
     ·exact this
   ·rename_i o hno;refine dflt λi hi=>?_;have:=h i hi;split at this
    next hit=>exact(hno _ _ _ hit).elim
    ·exact this
  next o hno=>
   refine dflt λi hi=>?_;have:=h i hi;split at this
   next hx=>exact(hno _ _ hx).elim
   ·exact this
end
variable [SymVal]
def agB (len g:Nat)(j f:PT Ch):Bool:=(List.range len).all λi=>Fj (j.get dch i).cs (f.get dch i).cs&&(Nat.ble (j.get dch i).m (f.get dch i).m&&Nat.ble (f.get dch i).m g)
def afS (o r:EO):Bool:=match o with
 |.row e s J len j fz=>(match r with
  |.row P C p f g l=>Nat.beq e P&&(Nat.beq s C&&(Nat.beq len f&&(Nat.beq j g&&(afB fz l&&agB len j J p))))
  |_=>false)
 |o=>Rq o r
def TH (N:Nat)(a g:Option EO)(v:Nat):Bool:=match g with
 |some f=>match a with
  |some o=>afS o f
  |none=>false
 |none=>match a with
  |some _=>Nat.ble N v
  |none=>true
def GL (N:Nat):DM→DM→Nat→Nat→Bool
 |.leaf,t,_,_=>match t with
  |.leaf=>true
  |.node _ _ _=>false
 |.node l a r,t,v,w=>match t with
  |.leaf=>TH N a none v&&GL N l .leaf (Nat.add v w) (Nat.mul 2 w)&&GL N r .leaf (Nat.add v (Nat.mul 2 w)) (Nat.mul 2 w)
  |.node g j f=>TH N a j v&&GL N l g (Nat.add v w) (Nat.mul 2 w)&&GL N r f (Nat.add v (Nat.mul 2 w)) (Nat.mul 2 w)
def adm (e:Ent)(v:TV)(d:DM):Bool:=R9 v e.v&&(GL e.N.num d e.d 0 1&&(WE (l8 (nF e)) e.d&&YV (nF e) e.v))
def kN (e:Ent)(res:List FR)(b:HP):Kx:=λf env d _=>match f with
 |.exit _=>.no
 |_=>match dv env (HP.ov b d).get res with
  |some l=>bif adm e (jA l) d then .ok .normal .leaf .leaf .e else .no
  |none=>.no
def So (l:Tb)(j:FuncId→Option Fi)(g C:Nat)(e:Ent)(r:HP)(p:Md):Bool:=match j e.f with
 |some x=>Nat.ble e.args.length x.nt&&io (eN (BU (mkR l j g C) noY) g x.code (.ov (.cut r e.N) e.L) (jU e.args .e .leaf) .leaf e.N p λ_=>kN e x.res (.ov (.cut r e.N) e.L))
 |none=>false
def cq (P:Program)(p:Glt)(g:Tb)(f l:Nat)(e:Ent)(j:Md):Prop:=∀r,So g (gK P p) f l e r j=true
def AE (P:Program)(p:Glt)(j:Tb)(f l:Nat)(e:Ent):Prop:=∃(F:Nat→Prop) (g:Nat→Md),Fam F g∧∀i,F i→cq P p j f l e (g i)
variable{P:Program}{Gl:Glt}{tb:Tb}{e:Ent}
omit [SymVal] in
def Oi {f g:Nat}(h:cq P Gl tb f g e .all):AE P Gl tb f g e :=
 ⟨λ_=>True,λ_=>.all,.all ⟨0,ans⟩ λ_ _=>rfl,λ_ _=>h⟩
def LS (c:Nat):List (Nat×Md)→List (Nat×Md)
 |[]=>[]
 |(i,.all)::l=>LS c l
 |(i,.one _ c' n)::l=>bif Nat.beq c' c then(i,n)::LS c l else LS c l
def SV:List Nat→List Nat→Bool
 |[],[]=>true
 |a::l,b::r=>Nat.beq a b&&SV l r
 |_,_=>false
def aft:Md→Bool
 |.all=>true
 |_=>false
def afs (C:List Nat):Md→Bool
 |.one f _ _=>SV f C
 |_=>false
def acQ:Nat→List (Nat×Md)→Bool
 |0,_=>false
 |f+1,L=>match L with
  |[]=>false
  |(_,.all)::_=>L.all λp=>aft p.2
  |(_,.one C _ _)::_=>L.all (λp=>afs C p.2)&&C.all λc=>acQ f (LS c L)
omit [SymVal] in
def Nv:∀{a b:List Nat},SV a b=true→a=b
 |[],[],_=>rfl
 |a::l,b::r,h=>by simp only[SV,κ,ajC]at h;rw[h.1,Nv h.2]
omit [SymVal] in
def sN {c i:Nat}{n:Md}:∀{L:List (Nat×Md)},(i,n)∈LS c L ↔ ∃C,(i,.one C c n)∈L
 |[]=>by simp[LS]
 |(k,.all)::l=>by simp only[LS];rw[sN (L:=l)];simp
 |(k,.one g c' n')::l=>by
  simp only[LS,L_,ajC];have f:=sN (c:=c) (i:=i) (n:=n) (L:=l);split
  next e=>
   subst e;rw[C',f];constructor
   ·rintro(h|⟨C,h⟩)
    ·cases h;exact⟨g,S' ..⟩
    ·exact⟨C,J' _ h⟩
   ·rintro⟨C,h⟩;obtain h|h:=C'.1 h
    ·cases h;exact .inl rfl
    ·exact .inr ⟨C,h⟩
  next e=>
   rw[f];constructor
   ·rintro⟨C,h⟩;exact⟨C,J' _ h⟩
   ·rintro⟨C,h⟩;obtain h|h:=C'.1 h
    ·cases h;exact(e rfl).elim
    ·exact⟨C,h⟩
omit [SymVal] in
def Tp:∀{f:Nat} {L:List (Nat×Md)},acQ f L=true→∀{F:Nat→Prop} {r:Nat→Md},(∀i,F i ↔ ∃m,(i,m)∈L)→(∀i m,(i,m)∈L→r i=m)→Fam F r
 |0,_,h,_,_,_,_=>by cases h
 |f+1,[],h,_,_,_,_=>by cases h
 |f+1,(k,.all)::l,h,F,r,h1,h2=>by
  refine .all ⟨k,(h1 k).2 ⟨_,S' ..⟩⟩ λi p=>?_;obtain⟨m,g⟩:=(h1 i).1 p;have:=T'.1 h _ g;rw[h2 i m g];cases m with
  |all=>rfl
  |one _ _ _=>cases this
 |f+1,(k,.one C c n)::l,h,F,r,h1,h2=>by
  simp only[acQ,κ]at h;have j:∀i m,(i,m)∈(k,Md.one C c n)::l→∃c n,m = .one C c n:=λi m g=>by
   have:=T'.1 h.1 _ g;cases m with
   |all=>cases this
   |one T R J=>rw[Nv this];exact⟨_,_,rfl⟩
  refine .split C ⟨k,(h1 k).2 ⟨_,S' ..⟩⟩ (λi p=>?_) λR U=>Tp (T'.1 h.2 R U) (λi=>?_) λi m g=>?_
  ·obtain⟨m,g⟩:=(h1 i).1 p;rw[h2 i m g];exact j i m g
  ·constructor
   ·rintro⟨p,J,P⟩;obtain⟨m,g⟩:=(h1 i).1 p;rw[h2 i m g]at P;subst P;exact⟨J,sN.2 ⟨C,g⟩⟩
   ·rintro⟨m,g⟩;obtain⟨T,g⟩:=sN.1 g;obtain⟨_,_,e⟩:=j i _ g;cases e;exact⟨(h1 i).2 ⟨_,g⟩,m,h2 i _ g⟩
  ·obtain⟨T,g⟩:=sN.1 g;rw[h2 i _ g];rfl
def abJ (L:List Md)(i:Nat):Md:=L.getD i .all
def X3:Nat→List Md→List (Nat×Md)
 |_,[]=>[]
 |k,m::l=>(k,m)::X3 (k+1) l
omit [SymVal] in
def En {i:Nat}{m:Md}:∀{L:List Md} {k:Nat},(i,m)∈X3 k L↔k≤i∧L[i-k]? = some m
 |[],k=>by simp[X3]
 |a::l,k=>by
  simp only[X3,C',χ];rw[En (L:=l)];constructor
  ·rintro(⟨rfl,rfl⟩|⟨g,f⟩)
   ·simp
   ·exact⟨Ω,by rw[show i-k=(i-(k+1))+1 by omega];simpa using f⟩
  ·rintro⟨g,f⟩;by_cases e:i=k
   ·subst e;left;simp at f;exact⟨rfl,f.symm⟩
   ·right;refine⟨Ω, ?_⟩;rw[show i-k=(i-(k+1))+1 by omega]at f;simpa using f
omit [SymVal] in
def Rr {f j:Nat}(L:List Md)(l:acQ 20 (X3 0 L)=true)(h:∀x∈L,cq P Gl tb f j e x):AE P Gl tb f j e:=by
 refine⟨λi=>∃m,L[i]? = some m,abJ L,Tp l (λi=>?_) (λi m g=>?_),λi ⟨m,g⟩=>?_⟩
 ·simp[En]
 ·have:=(En.1 g).2;simp at this;simp[abJ,υ,this]
 ·have:abJ L i=m:=by simp[abJ,υ,g]
  rw[this];exact h m (Y_ g)
def Pe (o l:EO):Prop:=o=l∨∃e s j f len g fz,o = .row e s j len g fz∧l = .row e s f len g fz∧∀i,i<len→(j.get dch i).cs=(f.get dch i).cs∧(j.get dch i).m≤(f.get dch i).m∧(f.get dch i).m≤g
def acL {a b:Fz}(h:afB a b=true):a=b:=by cases a <;> cases b <;> first|rfl|cases h
def acS {o f:EO}(h:afS o f=true):Pe o f:=by
 unfold afS at h;split at h
 ·split at h
  ·simp only[κ]at h;obtain⟨J,C,r,p,l,j⟩:=h;rw[←Nat.eq_of_beq_eq_true J,←Nat.eq_of_beq_eq_true C,←Nat.eq_of_beq_eq_true r,←Nat.eq_of_beq_eq_true p,←acL l];refine .inr ⟨_,_,_,_,_,_,_,rfl,rfl,λi g=>?_⟩;have:=T'.1 j i (F_.2 g);simp only[κ]at this;exact⟨tH this.1,bf.1 this.2.1,bf.1 this.2.2⟩
  ·cases h
 ·exact .inl (KJ h)
section
variable {P:Program}{Gl:Glt}{B:Nat}{W:W0}{φ ψ:Gx}{h h' h'':Pos→EO}{w w':World}
def gp.weak {k:Pos}{o r:EO}(h:Pe o r)(C:gp φ w B k o):gp φ w B k r:=by
 obtain rfl|⟨e,s,el,el',len,gen,fz,rfl,rfl,J⟩:=h
 ·exact C
 ·obtain⟨h0,h1,hmm,h2,h3⟩:=C;refine⟨h0,h1,λi q=>(J i q).2.2,h2,λg hg=>?_⟩;obtain⟨l,q1,⟨r1,r2,j,fr,r3,r4,r5,r6⟩,q3⟩:=h3 g hg;refine⟨l,q1,⟨r1,r2,j,fr,r3,r4,r5,λi q f=>?_⟩,q3⟩;obtain⟨p,P,z3⟩:=J i q;obtain⟨U,T,R⟩:=r6 i q (Θ P f);exact⟨U,by rw[←p];exact T,by rw[←p];exact R⟩
def Pe.blank {o f:EO}(h:Pe o f):blank f=blank o∧rE f=rE o:=by obtain rfl|⟨e,s,p,j,len,g,fz,rfl,rfl,l⟩:=h <;> exact⟨rfl,rfl⟩
def bv.weak (f:bv B φ h w ψ h' w')(g:∀k,Pe (h' k) (h'' k)):bv B φ h w ψ h'' w' :=
 ⟨f.1,λW j=>by
  have J:=f.2.1 W j;exact⟨J.below,J.kp,J.le,λk q=>J.res k (by rw[←(g k).blank.2];exact q),J.size,λk=>(J.obj k).weak (g k),J.sep⟩,λk q=>f.2.2 k (by rw[←(g k).blank.1];exact q)⟩
end
def Z9 {N:Nat}{a f:Option EO}{v:Nat}(h:TH N a f v=true):(∃o g,a=some o∧f=some g∧Pe o g)∨(a=none∧f=none)∨(f=none∧N≤v):=by
 cases f with
 |some g=>cases a with
  |some o=>exact .inl ⟨o,g,rfl,rfl,acS h⟩
  |none=>cases h
 |none=>cases a with
  |some o=>exact .inr (.inr ⟨rfl,bf.1 h⟩)
  |none=>exact .inr (.inl ⟨rfl,rfl⟩)
def tI {N:Nat}:∀{d t:DM} {v w:Nat},GL N d t v w=true→∀k,(∃o C,PM.get none d k=some o∧PM.get none t k=some C∧Pe o C)∨(PM.get none d k=none∧PM.get none t k=none)∨(PM.get none t k=none∧N≤v+w*k.num)
 |.leaf,t,v,w,f,k=>by
  cases t with
  |leaf=>exact .inr (.inl ⟨rfl,rfl⟩)
  |node _ _ _=>cases f
 |.node l a r,t,v,w,f,k=>by
  have J:∀(j g:DM) (p:Option EO),TH N a p v=true→GL N l j (Nat.add v w) (Nat.mul 2 w)=true→GL N r g (Nat.add v (Nat.mul 2 w)) (Nat.mul 2 w)=true→(∃o C,PM.get none (.node l a r) k=some o∧PM.get none (.node j p g) k=some C∧Pe o C)∨(PM.get none (.node l a r) k=none∧PM.get none (.node j p g) k=none)∨(PM.get none (.node j p g) k=none∧N≤v+w*k.num):=λj g p U T R=>by
   have e1:Nat.add v w=v+w:=rfl;have P:Nat.mul 2 w=2*w:=rfl;cases k with
   |e=>
    obtain q|q|q:=Z9 U
    ·exact .inl q
    ·exact .inr (.inl q)
    ·exact .inr (.inr ⟨q.1,by simpa[Pos.num]using q.2⟩)
   |o k=>
    obtain q|q|q:=tI T k
    ·exact .inl q
    ·exact .inr (.inl q)
    ·refine .inr (.inr ⟨q.1, ?_⟩);have q:=q.2;rw[e1,P]at q;simp[Pos.num];have:w*(2*k.num+1)=w+2*w*k.num:=by rw[ai8,aj1,←Nat.mul_assoc,E? w 2,G?]
     omega
   |i k=>
    obtain q|q|q:=tI R k
    ·exact .inl q
    ·exact .inr (.inl q)
    ·refine .inr (.inr ⟨q.1, ?_⟩);have q:=q.2;have e3:Nat.add v (2*w)=v+2*w:=rfl;rw[P,e3]at q;simp[Pos.num];have:w*(2*k.num+2)=2*w+2*w*k.num:=by rw[ai8,←Nat.mul_assoc,E? w 2,G?]
     omega
  cases t with
  |leaf=>
   simp[GL]at f;have:=J .leaf .leaf none f.1.1 f.1.2 f.2;have e:PM.get none (.node .leaf none .leaf:DM) k=PM.get none (.leaf:DM) k:=by cases k <;> rfl
   rw[e]at this;exact this
  |node j p g =>simp[GL]at f;exact J j g p f.1.1 f.1.2 f.2
section
variable {P:Program}{Gl:Glt}
def wu (hm:P.follows .mixedOrders=true){tb tb':Tb}(htb:rK P Gl tb){fuel dp:Nat}{e:Ent}(he:AE P Gl tb fuel dp e)(htb':rK P Gl tb'):rK P Gl (av e tb'):=by
 intro B Γ b t args d n v d' n' g;cases t with
 |yld j=>cases g
 |fn f=>
  simp[Xb,av]at g;cases J:afv e f b args d n with
  |no =>rw[J]at g;exact htb' B Γ b (.fn f) args d n v d' n' g
  |ok v0 d0 n0=>
   rw[J]at g;simp only[F2]at g;injection g with c1 c2 c3;subst c1;subst c2;subst c3;obtain⟨k1,J⟩:=mG J;obtain⟨k2,J⟩:=mG J;obtain⟨k3,J⟩:=mG J;obtain⟨k4,J⟩:=mG J;obtain⟨k5,J⟩:=mG J;injection J with g1 g2 g3;have ef:=ν k1;have en:=Pos.beq_iff.1 k2;have ea:=xw k3;subst ef;subst en;subst ea;intro W φ w hGl hI vs hr hcx;obtain⟨F,md,hF,he⟩:=he;have p:=λi hi=>he i hi (.ov b d);unfold So at p;obtain⟨i0,hi0⟩:=hF.ne;cases hx:gK P Gl e.f with
   |none =>have:=p i0 hi0;rw[hx]at this;cases this
   |some x=>
   obtain⟨fn,c,rs,f1,f2,f3,f4,rfl⟩:=Ao hx;simp only[hx,κ,Kf]at p;have hle:=(p i0 hi0).1;have p:=λi hi=>(p i hi).2;have hle:e.args.length≤fn.ntmps:=bf.1 hle;have hlen:=hr.len;have hG':hG (.ov b d)=(HP.ov b d).get:=funext λk=>vX _ k;rw[hG']at k4;have R:(HP.ov (.cut (.ov b d) e.N) e.L).get=(HP.ov b d).get:=by
    funext k;show(match PM.get none e.L k with|some o=>o|none=>(HP.cut (.ov b d) e.N).get k)=_;cases hl:PM.get none e.L k with
    |some o=>exact(yz k4 k o hl).symm
    |none=>
     show(match Nat.blt k.num e.N.num with|true=>(HP.ov b d).get k|false=>.none)=_;cases hb:Nat.blt k.num e.N.num with
     |true=>rfl
     |false=>
      refine(oP k5 k ?_).symm;exact ajd λq=>by rw[bM.2 q]at hb;cases hb
   have h0:(HP.ov (.ov (.cut (.ov b d) e.N) e.L) .leaf).get=(HP.ov b d).get:=by rw[←R];funext k;rfl
   refine⟨⟨fn,f1,by simp[f2],f3⟩, ?_⟩;have hsz:(vs.toArray++Array.replicate (fn.ntmps-vs.toArray.size) undef).size=fn.ntmps:=by simp;omega
   have ckok:CkOk P Gl B (BU (mkT tb (gK P Gl) fuel dp) noY) Γ:=⟨uF hm htb dp noY Γ QB,λyk' Γ' h=>uF hm htb dp yk' Γ' h⟩;have hS:=ZI (nt:=fn.ntmps) (fuel:=fuel) hm ckok c Nat F md hF none 0 w.heap.size W φ _ w hI hGl hcx (λl hl=>by cases hl) (.inl rfl) (ζ _) (.ov (.cut (.ov b d) e.N) e.L) (jU e.args .e .leaf) .leaf e.N { tmps:=vs.toArray++Array.replicate (fn.ntmps-vs.toArray.size) undef,defers:=[] } w (λ_ _=>kN e rs (.ov (.cut (.ov b d) e.N) e.L)) p (by rw[h0];exact⟨⟨φ,bv.refl,iU hr _⟩,hsz,[],rfl,R?,λD hD=>by cases hD⟩);refine callsIn_wide.1 (callsIn_of_wp_marks (F:=RF none) (n:=0) f1 f2 trivial (wpIn_mono hS λex a w' U=>?_));obtain⟨X,e1,d1,n1,⟨F',md',hF',r⟩,U⟩:=U;obtain⟨i1,hi1⟩:=hF'.ne;have r:io (kN e rs (.ov (.cut (.ov b d) e.N) e.L) X e1 d1 n1)=true:=r i1 hi1;have fin:Rl B w.heap.size φ (HP.ov b d).get w fn.ntmps e1 (HP.ov (.ov (.cut (.ov b d) e.N) e.L) d1).get a w'→(∀id,X ≠ .exit id)→LeavesInM (RF none) 0 P fn a.tmps (FP B φ (HP.ov b d).get w (HP.ov b d0).get v0) a.defers .returning w':=λC hX=>by
    obtain⟨ψ,hs,hE⟩:=C.ex;obtain⟨ms,m1,m2,m3⟩:=C.df;have hres:∃l,dv e1 (HP.ov (.ov (.cut (.ov b d) e.N) e.L) d1).get rs=some l∧adm e (jA l) d1=true:=by
     unfold kN at r;split at r
     ·exact(hX _ rfl).elim
     ·split at r
      ·rename_i l hl;refine⟨l,hl, ?_⟩;cases hc:adm e (jA l) d1 with
       |true=>rfl
       |false=>rw[hc]at r;cases r
      ·cases r
    obtain⟨l,hl,hc⟩:=hres;unfold adm at hc;simp only[κ]at hc;obtain⟨r1,r3,r4,r5⟩:=hc;have ev:=CO r1;rw[m1];refine de hI ms w' hs m2 m3 λw2 hs2=>?_;obtain⟨u,z1,z2⟩:=dg (hs2.2.1 _ hI) hE f4 hl;rw[ev]at z2;have hd1:∀k,(HP.ov (.ov (.cut (.ov b d) e.N) e.L) d1).get k=match PM.get none d1 k with|some o=>o|none=>(HP.ov b d).get k:=λk=>by show(match PM.get none d1 k with|some o=>o|none=>(HP.ov (.cut (.ov b d) e.N) e.L).get k)=_;rw[R]
    have hd2:∀k,(HP.ov b d0).get k=match PM.get none e.d k with|some o=>o|none=>(HP.ov b d).get k:=λk=>by rw[←g2,HP.get_merge];rfl
    have kf:∀k,nF e k=false→e.N.num≤k.num∧PM.get none e.d k=none:=λk r=>by
     simp[nF]at r;have hk1:=r.1;refine⟨ajd λq=>(by rw[bM.2 q]at hk1;cases hk1), ?_⟩;have:=r.2;cases T:PM.get none e.d k with
     |none=>rfl
     |some o=>rw[T]at this;cases this
    have hw:=hs2.weak (h'':=λk=>match PM.get none e.d k with|some o=>o|none=>(HP.ov (.ov (.cut (.ov b d) e.N) e.L) d1).get k) λk=>by
     rcases tI r3 k with⟨o,o',q1,q2,q3⟩|⟨q1,q2⟩|⟨q1,q2⟩
     ·simp only[q2,hd1,q1];exact q3
     ·simp only[q2];exact .inl rfl
     ·simp only[q1];exact .inl rfl
    refine⟨u,z1,u,ψ.keep (nF e),rfl,bv.forget hI hw (λk r=>?_) (λk r=>?_) (λk r=>?_), ?_⟩
    ·rw[hd2];cases T:PM.get none e.d k with
     |some o=>rfl
     |none=>
      show _=(HP.ov (.ov (.cut (.ov b d) e.N) e.L) d1).get k;rw[hd1];rcases tI r3 k with⟨o,o',q1,q2,q3⟩|⟨q1,q2⟩|⟨q1,q2⟩
      ·rw[T]at q2;cases q2
      ·rw[q1]
      ·exfalso;simp only[nF,T,akb]at r;have:=bM.1 r;omega
    ·obtain⟨q1,q2⟩:=kf k r;have:=oP k5 k q1;refine⟨?_,this⟩;rw[hd2,q2];exact this
    ·cases T:PM.get none e.d k with
     |some o=>exact .inr (by simp only[T];exact zw r4 k o T)
     |none=>
      left;simp only[T];rw[hd1];rcases tI r3 k with⟨o,o',q1,q2,q3⟩|⟨q1,q2⟩|⟨q1,q2⟩
      ·rw[T]at q2;cases q2
      ·rw[q1]
      ·exfalso;simp only[nF,T,akb]at r;have:=bM.1 r;omega
    ·rw[←g1];exact S5 r5 z2
   cases ex with
   |normal=>obtain⟨rfl,C⟩:=U;exact fin C (λid e=>by cases e)
   |ret=>obtain⟨rfl,C⟩:=U;exact fin C (λid e=>by cases e)
   |exit id=>obtain⟨rfl,_⟩:=U;cases r
   |goto l=>exact U.elim
   |panic ch=>exact U.elim
   |outgrown=>exact U.elim
end
