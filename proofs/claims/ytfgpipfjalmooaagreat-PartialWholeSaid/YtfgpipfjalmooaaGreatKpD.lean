/- Parts. -/
import Derived.RangeFuncGives
import Derived.RangeFuncSeq
import Derived.Sort.MapsRangeIn
import Derived.Shelf.AbstractIn
import Derived.OwnWalkIn
import Derived.TacticsInMore
import Derived.RegionIn
import Derived.LoopNIn
import Derived.LoopIn
import Derived.WalkKit
import Derived.Deep.MidRow
import Derived.Test.YtfgpipfjalmooaaGreatOrdC
import Derived.Maps.OwnIn
import Derived.Shelf.SlIterI.Sorted
import Derived.Test.YtfgpipfjalmooaaGreatStl
import Derived.Shelf.SlIterI.Collect
import Derived.RangeFuncOwn
open Option renaming some→ä,none→ö
open Bool renaming true→ü,false→ß
open Go renaming World→æ,Value→ø,FuncId→å,undef→é
set_option linter.all false
noncomputable section
namespace Go.Proofs.YtfgpipfjalmooaaGreat
namespace Abs
open Go Go.Proofs Go.RowKit Go.Maps Tryz
attribute [local go_sem] Oper.semAt_some
structure WK where
 id:Int
 fd:Int
 nn:Int
 fl:Bool
 tx:ByteArray
 rf:Int
def iz (x:WK):Value :=.agg #[.int .i64 x.id,.int .i64 x.fd,.int .i64 x.nn,.bool x.fl,.string x.tx,.int .i64 x.rf]
def YU (w:æ)(b o:Nat)(x:WK):Prop:=w.cell? ⟨b,o,ö⟩=ä (.int .i64 x.id)∧w.cell? ⟨b,o+1,ö⟩=ä (.int .i64 x.fd)∧w.cell? ⟨b,o+2,ö⟩=ä (.int .i64 x.nn)∧w.cell? ⟨b,o+3,ö⟩=ä (.bool x.fl)∧w.cell? ⟨b,o+4,ö⟩=ä (.string x.tx)∧w.cell? ⟨b,o+5,ö⟩=ä (.int .i64 x.rf)
def CO (w:æ)(B b f:Nat)(c:List WK):Prop :=
 ∃s0 P C m1 J r m2 s3 A p,w.cell? ⟨b,f,ö⟩=ä (.int .i64 s0)∧w.cell? ⟨b,f+1,ö⟩=ä (.slice P C m1)∧w.cell? ⟨b,f+2,ö⟩=ä (.slice J r m2)∧w.cell? ⟨b,f+3,ö⟩=ä (.string s3)∧w.cell? ⟨b,f+4,ö⟩=ä (.slice A c.length p) ∧
  (0<c.length→∃g l,A=ä ⟨g,l,ö⟩∧g<B∧∀j (h:j<c.length),YU w g (l+j*6) c[j])
def dO (w:æ)(B:Nat)(A:Option Addr)(g:List (List WK)):Prop:=0<g.length→∃b f,A=ä ⟨b,f,ö⟩∧b<B∧∀k (h:k<g.length),CO w B b (f+k*5) g[k]
def YU.keep {w w':æ}{B b o:Nat}{x:WK}(h:YU w b o x)(g:Below B w w')(f:b<B):YU w' b o x :=
 have t:∀o v,w.cell? ⟨b,o,ö⟩=ä v→w'.cell? ⟨b,o,ö⟩=ä v:=λo v h=>(g.cell (p:=⟨b,o,ö⟩) f).trans h
 ⟨t _ _ h.1,t _ _ h.2.1,t _ _ h.2.2.1,t _ _ h.2.2.2.1,t _ _ h.2.2.2.2.1,t _ _ h.2.2.2.2.2⟩
def CO.keep {w w':æ}{B b o:Nat}{c:List WK}(h:CO w B b o c)(g:Below B w w')(hl:b<B):CO w' B b o c:=by
 obtain⟨s0,A1,U,m1,A2,T,m2,s3,A,P,C,q1,q2,r,l,hp⟩:=h;have t:∀o v,w.cell? ⟨b,o,ö⟩=ä v→w'.cell? ⟨b,o,ö⟩=ä v:=λo v h=>(g.cell (p:=⟨b,o,ö⟩) hl).trans h;exact⟨s0,A1,U,m1,A2,T,m2,s3,A,P,t _ _ C,t _ _ q1,t _ _ q2,t _ _ r,t _ _ l,λh=>(by
  obtain⟨R,J,e,f,hw⟩:=hp h;exact⟨R,J,e,f,λj hj=>(hw j hj).keep g f⟩)⟩
def dO.keep {w w':æ}{B:Nat}{A:Option Addr}{j:List (List WK)}(h:dO w B A j)(r:Below B w w'):dO w' B A j:=λC=>by obtain⟨b,f,e,g,p⟩:=h C;exact⟨b,f,e,g,λk l=>(p k l).keep r g⟩
def Aq (f:List (List WK))(k j:Nat):List WK:=(f.take k).flatten++(f.getD k []).take j
def YG (f:List (List WK)):Aq f 0 0=[]:=by simp[Aq]
def YH (f:List (List WK))(k j:Nat)(h:j<(f.getD k []).length):Aq f k (j+1)=Aq f k j++[(f.getD k [])[j]]:=by unfold Aq;rw[N' h,←List.append_assoc]
def YI (f:List (List WK))(k:Nat):Aq f k (f.getD k []).length=Aq f (k+1) 0:=by
 unfold Aq;rw[x_,E?,Y?];by_cases h:k<f.length
 ·rw[N' h,akx,O',ζ h];simp
 ·rw[k? Ω,k? Ω,O',w_ Ω];simp
def ac9 (f:List (List WK)):Aq f f.length 0=f.flatten:=by simp[Aq]
def af9 (f:List (List WK))(k j:Nat)(h:j<(f.getD k []).length):(Aq f k j).length<f.flatten.length:=by
 have g:k<f.length:=by
  obtain h'|h':=i_ k f.length
  ·exact h'
  ·rw[O',w_ Ω]at h;simp at h
 have e:f=f.take k++(f.getD k []::f.drop (k+1)):=by rw[O',ζ g];simp
 have l:f.flatten.length=(f.take k).flatten.length+((f.getD k []).length+(f.drop (k+1)).flatten.length):=by
  conv=>lhs;rw[e]
  rw[akx,K_,J',J']
 rw[l];unfold Aq;rw[J',g_];omega
set_option maxRecDepth 100000 in
set_option maxHeartbeats 2000000 in
def VM (F:Fence)(n:Nat)(h10:F.fn 61)(hro:F.round=ö)(hn:1≤n)(l Bm B:Nat)(A:Option Addr)(cap:Nat)(f:List (List WK))(hn1:f.length≤1048576)(hn2:∀c∈f,c.length≤1048576)(J:List WK→æ→Prop)
  (hY:∀P x W,J P W→P.length<f.flatten.length→x∈f.flatten→YieldAt F (n-1) prog l #[iz x] W λe W'=>e = .returned (.bool ü)∧J (P++[x]) W'∧Below B W W')
  (W:æ) (hB:B≤W.heap.size) (hJ:∀s W W',J s W→W.grownBy W' ö→J s W') (hm:W.cell? ⟨Bm,0,ö⟩=ä (.slice A f.length cap)) (hcs:dO W B A f) (h0:J [] W) :
  CallsIn F n prog 61 #[.func (.yield l) #[] #[],.pointer (ä ⟨Bm,0,ö⟩)] W λe W'=>(∃v,e = .returned v)∧J f.flatten W':=by
 refine callsIn_of_wp func61 rfl h10 ?_ hro;simp only[ntmps61,l?,v_,J?,Nat.reduceAdd,Nat.reduceSub,P?,O?,K?,Q?,s_,aj3]
 gi_wp2
 gi_loopw [4,6,9] (λ_ _ i wr=>∃k:Nat,k≤f.length∧i = .int .i64 k∧B≤wr.heap.size∧W.heap.size≤wr.heap.size∧dO wr B A f∧J (Aq f k 0) wr) (λ_ _ i _=>f.length-(intOf i).toNat)
 case atStart=>exact⟨0,Y' _,rfl,hB,ε _,hcs,by rw[YG];exact h0⟩
 case round=>
  obtain⟨k,hk,rfl,hBr,hWr,hcr,hJr⟩:=hrel;by_cases r:k<f.length
  ·have hg:f.getD k []=f[k]:=by rw[O',ζ r];rfl
   have hck:=hn2 _ (j_ r);obtain⟨b,off,rfl,hbl,g⟩:=hcr Ω;obtain⟨s0,A1,n1,m1,A2,n2,m2,s3,PA,pc,c0,c1,c2,c3,c4,hp⟩:=g k r
   gi_wp2
   have T:Below B wr (wr.alloc (.cells #[.int .i64 s0,.slice A1 n1 m1,.slice A2 n2 m2,.string s3,.slice PA f[k].length pc] 38)):=(Below.refl _ wr).alloc hBr _;have hJ1:=hJ _ wr _ hJr (κ wr (.cells #[.int .i64 s0,.slice A1 n1 m1,.slice A2 n2 m2,.string s3,.slice PA f[k].length pc] 38) ö);have C:=dO.keep hcr T;have hs1:(wr.alloc (.cells #[.int .i64 s0,.slice A1 n1 m1,.slice A2 n2 m2,.string s3,.slice PA f[k].length pc] 38)).heap.size=wr.heap.size+1:=by simp
   generalize wr.alloc (.cells #[.int .i64 s0,.slice A1 n1 m1,.slice A2 n2 m2,.string s3,.slice PA f[k].length pc] 38)=w1 at T hJ1 C hs1⊢;have hp1:0<f[k].length→∃pb po,PA=ä ⟨pb,po,ö⟩∧pb<B∧∀j (h:j<f[k].length),YU w1 pb (po+j*6) f[k][j]:=λh=>by obtain⟨pb,po,e,hl,hw⟩:=hp h;exact⟨pb,po,e,hl,λj hj=>(hw j hj).keep T hl⟩
   clear c0 c1 c2 c3 c4 hp g hJr
   gi_loopw [6,16] (λ_ j wx=>∃m:Nat,m≤f[k].length∧j = .int .i64 m∧B≤wx.heap.size∧W.heap.size≤wx.heap.size∧Below B w1 wx∧J (Aq f k m) wx) (λ_ j _=>f[k].length-(intOf j).toNat)
   case atStart=>exact⟨0,Y' _,rfl,Ω,Ω,Below.refl _ _,hJ1⟩
   case round=>
    obtain⟨m,hmle,rfl,hBx,hWx,R,hJx⟩:=hrel;by_cases p:m<f[k].length
    ·obtain⟨pb,po,rfl,hpl,hwr⟩:=hp1 Ω;obtain⟨d0,d1,d2,d3,d4,d5⟩:=(hwr m p).keep R hpl;have hJ2:=hJ _ wr _ hJx (κ wr (.cells #[.int .i64 f[k][m].id,.int .i64 f[k][m].fd,.int .i64 f[k][m].nn,.bool f[k][m].fl,.string f[k][m].tx,.int .i64 f[k][m].rf] 44) ö);have hb2:Below B wr (wr.alloc (.cells #[.int .i64 f[k][m].id,.int .i64 f[k][m].fd,.int .i64 f[k][m].nn,.bool f[k][m].fl,.string f[k][m].tx,.int .i64 f[k][m].rf] 44)):=(Below.refl _ wr).alloc hBx _;have hlt2:=af9 f k m (by rw[hg];exact p);obtain⟨fn,tmps,assign,body,hy,hR⟩:=hY _ f[k][m] _ hJ2 hlt2 (akP.2 ⟨f[k],j_ r,j_ p⟩);unfold iz at hy
     gi_wp2
     refine hR.mono ?_;rintro e W3 ⟨rfl,hJ3,hb3⟩
     gi_wp2
     have U:=hb2.trans (hb3.mono (ε _))
     go_roundw
     case rel =>refine⟨m+1,Ω,Ψ,ξ hBx U.size,ξ hWx U.size,R.trans U, ?_⟩;rw[YH f k m (by rw[hg];exact p)];simp only[hg];exact hJ3
     case measure=>simp[intOf];omega
    ·obtain rfl:m=f[k].length:=Ω
     gi_wp2
     go_roundw
     case rel =>refine⟨k+1,Ω,Ψ,hBx,hWx,dO.keep C R, ?_⟩;have:=YI f k;rw[hg]at this;rw[←this];exact hJx
     case measure=>simp[intOf];omega
  ·obtain rfl:k=f.length:=Ω
   gi_wp2
   go_end0
   refine⟨⟨_,rfl⟩, ?_⟩;rw[←ac9];exact hJr
def ye (F:Fence)(n:Nat)(h10:F.fn 61)(C:F.round=ö)(hn:1≤n)(r B:Nat)(A:Option Addr)(cap:Nat)(f:List (List WK))(R:f.length≤1048576)(P:∀c∈f,c.length≤1048576)(w:æ)(hB:B≤w.heap.size)(hBm:r<w.heap.size)(hm:w.cell? ⟨r,0,ö⟩=ä (.slice A f.length cap))(T:dO w B A f)
  (l:Nat) (J:List WK→æ→Prop) (W:æ) (U:Below w.heap.size w W) (hJ:∀s W j,J s W→W.grownBy j ö→J s j) (hY:∀g x W,J g W→g.length<f.flatten.length→x∈f.flatten→YieldAt F (n-1) prog l #[iz x] W λe j=>e = .returned (.bool ü)∧J (g++[x]) j∧Below B W j) (h0:J [] W) :
  CallsIn F n prog 61 #[.func (.yield l) #[] #[],.pointer (ä ⟨r,0,ö⟩)] W λe j=>(∃v,e = .returned v)∧J f.flatten j :=
 VM F n h10 C hn l r B A cap f R P J hY W (ξ hB U.size) hJ ((U.cell (p:=⟨r,0,ö⟩) hBm).trans hm) (dO.keep T (U.mono hB)) h0
open Go.WideElems Go.MapKept
open Go.ChangeMaps (setBlock heap_setBlock_same)
def aiR:prog.underlying 63=ä (.map 3 4):=Φ
def agZ:prog.underlying 4=ä .bool:=Φ
def aiQ (w:æ):(zeroValue 4).run prog w = .ok (.bool ß) w:=Φ
def iy (D:DataW Unit)(s:Int→Bool):Prop:=IsMap D∧∀x:Int,D.atKey (.int .i64 x) (.lit (.bool ß)) = .lit (.bool (s x))
def iy.nil:iy (.map []) (λ_=>ß):=⟨isMap_empty,λ_=>rfl⟩
def iy.put {D:DataW Unit}{s:Int→Bool}(h:iy D s)(p:Int)(f:WideAt.IsKeyLit (.int .i64 p)):iy (D.put (.int .i64 p) (.lit (.bool ü))) (λx=>x == p||s x):=by
 refine⟨h.1.put _ _,λq=>?_⟩;by_cases e:q=p
 ·subst e;rw[atKey_put_same h.1 f];simp
 ·rw[atKey_put_other (λg=>e (by cases g;rfl)),h.2 q];have:(q == p)=false:=S'.2 e;simp[this]
def iy.eq {D:DataW Unit}{s t:Int→Bool}(h:iy D s)(e:∀x,s x=t x):iy D t:=by have:s=t:=funext e;rw[←this];exact h
abbrev bN (w:æ)(b n:Nat)(D:DataW Unit):Prop:=w.ownsMap prog 3 (plainElem prog 4) b n D
def bN.kept {w w':æ}{b n:Nat}{D:DataW Unit}{row:Option Nat}(h:bN w b n D)(g:w.grownBy w' row)(f:ä b≠row):bN w' b n D:=World.ownsMap.kept h g f
def xE {P:Program}{e:TypeId}(f:P.underlying e=ä .bool){v:ø}{x:Bool}{ps:List MemPlace}(h:plainElem (H:=Unit) P e v=ä (.lit (.bool x),ps)):v = .bool x:=by unfold plainElem at h;rw[f]at h;cases v <;> simp at h;rw[h.1]
section
variable {F:Fence}{f:Nat}(w:æ){ops:Array Oper}{rest:List Oper}{o:Oper}{a:Act}{Q:Exit→Act→æ→Prop}
variable{s:Int→Bool}
def eL {b n:Nat}{D:DataW Unit}(g:bN w b n D)(l:iy D s)(x:Int)(p:(Lit.int .i64 x).wf=ü):(Instr.lookup 63 (.map (ä b)) (.int .i64 x) ß).run prog w = .ok (.bool (s x)) w:=by obtain⟨v,ps,f,j⟩:=g.lookup Lz aiR (aiQ w) (plainElem_bool agZ ß) (keyOf_int_mk Kn p);rw[l.2 x]at j;rw[f,xE agZ j]
def cD (T:o.guard=ö)(m x v:Operand)(l:o.op=Op.mapUpdate 63 m x v)(b n:Nat)(D:DataW Unit)(R:a.eval m = .map (ä b))(j:bN w b n D)(J:iy D s)(P:n<maxLen)(k:Int)(r:a.eval x = .int .i64 k)(C:a.eval v = .bool ü)(p:(Lit.int .i64 k).wf=ü)
  (U:∀g,bN g b (n+1) (D.put (.int .i64 k) (.lit (.bool ü)))→iy (D.put (.int .i64 k) (.lit (.bool ü))) (λx=>x == k||s x)→w.grownBy g (ä b)→wpListIn F f prog ops Q rest (a.put o.dst é) g) :
  wpListIn F f prog ops Q (o::rest) a w :=
 wpListIn_mapUpdate_own w T m x v _ l 3 4 Lz aiR (plainElem prog 4) b n D R j P _ _ _ r C (keyOf_int_mk Kn p) _ [] (plainElem_bool agZ ü) λg h1 h2=>U g h1 (J.put k (Lz.key (keyOf_int_mk Kn p))) h2
end
def gN (w:æ)(b S:Nat):Prop:=w.Shuns b λg=>S≤g
variable{w:æ}{base:Nat}{D:DataW Unit}
def gN.start {b n:Nat}(h:w.ownsGroups prog 3 base 3 .i64 b n D):gN w b w.heap.size :=
 World.Shuns.reno (No:=λ_=>False) (λ_ _ _ _ _ _ _ h=>h) h λ_ h=>.inr h
def Cv {g :æ}{b n S:Nat}{row:Option Nat}(h:w.ownsGroups prog 3 base 3 .i64 b n D)(l:gN w b S)(p:w.grownBy g row)(f:ä b≠row)(r:∀j,row=ä j→S≤j):g.ownsGroups prog 3 base 3 .i64 b n D∧gN g b S :=
 ⟨h.kept p f (l.rowsOff r),World.Shuns.kept l p (by obtain⟨C,clock,f,_⟩:=h;exact(δ.1 f).1) f⟩
def iq {f :æ}{b n:Nat}(h:w.ownsGroups prog 3 base 3 .i64 b n D)(g:w.grownBy f ö):f.ownsGroups prog 3 base 3 .i64 b n D :=
 h.kept g Ψ (h.rowsAbove λ_ e=>by cases e)
def Px {b n S:Nat}(h:w.ownsGroups prog 3 base 3 .i64 b n D)(hs:gN w b S)(x:Int)(hk:(Lit.int .i64 x).wf=ü)(ty:TypeId) :
  ∃w',(Builtin.delete_ #[64,3] ty #[.map (ä b),.int .i64 x]).run prog w = .ok (.tuple #[]) w'∧w'.ownsGroups prog 3 base 3 .i64 b n (D.del (.int .i64 x))∧gN w' b S∧w.grownBy w' (ä b):=by
 obtain⟨es,clock,hb,Ft,hsz,rfl,hbb,hlen,hap⟩:=h;obtain⟨l,R,F',hle,hdel,f,hwho⟩:=fit_drop_who (ty:=ty) Lz Q7 hb Ft (keyOf_int_mk Kn hk);have hblt:b<w.heap.size:=(δ.1 hb).1;have P:∀o:Obj,w.grownBy (setBlock w b o) (ä b):=λo=>⟨rfl,rfl,rfl,by simp[setBlock],λi _ hi=>by
  simp[setBlock];rw[akw];rw[ω (λe=>hi (by rw[e]))]⟩
 have hg:=P (.map l clock);have r:∀x∈es.toList,x.val.ownBlock=ö∨x.val.ownBlock≠ä b:=λy j=>by
  cases e:y.val.ownBlock with
  |none=>exact .inl rfl
  |some g =>refine .inr λe'=>?_;obtain⟨z,J⟩:=Ft.reads y j;obtain⟨z',C,_⟩:=rd_val J;obtain⟨zs,hoi,_⟩:=rowElem_inv C;have:=(hoi.1.lt g e).1;cases e';omega
 refine⟨_,R, ?_, ?_,hg⟩
 ·have hst:∀y∈l.toList,∀z,rowElem (H:=Unit) w base 3 .i64 y.val=ä z→rowElem (setBlock w b (.map l clock)) base 3 .i64 y.val=ä z:=λy j z J=>by
   obtain⟨zs,ho,rfl⟩:=rowElem_inv J;exact rowElem_mk (ho.kept hg (r y (f.subset j)))
  obtain⟨F1,U,_⟩:=F'.stay hst;refine⟨l,clock,heap_setBlock_same hb _,F1,ξ hle hsz,by rw[DataW.del_eq,←hdel,U],hbb,λy j zs ho=>?_,λy j z J=>hap y (f.subset j) z (f.subset J)⟩;obtain⟨z,J⟩:=Ft.reads y (f.subset j);obtain⟨z',C,_⟩:=rd_val J;obtain⟨zs0,T,_⟩:=rowElem_inv C;rw[ho.unique (T.kept hg (r y (f.subset j)))];exact hlen y (f.subset j) zs0 T
 ·intro es2 p hb2 y j g hyg;rw[heap_setBlock_same hb]at hb2;obtain⟨rfl,rfl⟩:l=es2∧clock=p:=by simpa using hb2
  exact hs es clock hb y (f.subset j) g hyg
end Abs
namespace Go.Proofs
open Go.Shelf Tryz
def Tryz.keysZ_ren:Go.Shelf.Ren:=⟨λ|7=>31|10=>63|n=>n,λ|23=>63|26=>3|3=>4|28=>70|0=>0|27=>69|33=>103|4=>4|n=>n,λ|n=>n⟩
def Tryz.keysZ:Go.Proofs.SlLaysZI.n7 Tryz.prog Tryz.keysZ_ren:={
 mixed:=by kernel_rfl
 f7:=⟨Tryz.f31.name,by decide,Tryz.func31.trans (congrArg ä (by kernel_rfl))⟩
 f10:=⟨Tryz.f63.name,by decide,Tryz.func63.trans (congrArg ä (by kernel_rfl))⟩
 t0:=Tryz.underlying0
 a0:=Tryz.isAgg0
 z0:=Tryz.sizeOf0
 v0:=Tryz.zeroValue0
 t4:=Tryz.underlying4
 a4:=Tryz.isAgg4
 z4:=Tryz.sizeOf4
 v4:=Tryz.zeroValue4
 t23:=Tryz.underlying63
 a23:=Tryz.isAgg63
 z23:=Tryz.sizeOf63
 v23:=Tryz.zeroValue63
 t26:=Tryz.underlying3
 a26:=Tryz.isAgg3
 z26:=Tryz.sizeOf3
 v26:=Tryz.zeroValue3
 t27:=Tryz.underlying69
 a27:=Tryz.isAgg69
 z27:=Tryz.sizeOf69
 v27:=Tryz.zeroValue69
 t28:=Tryz.underlying70
 a28:=Tryz.isAgg70
 z28:=Tryz.sizeOf70
 v28:=Tryz.zeroValue70
 t33:=Tryz.underlying103
 a33:=Tryz.isAgg103
 z33:=Tryz.sizeOf103
 v33:=Tryz.zeroValue103 }
def Tryz.sortZ_ren:Go.Shelf.Ren:=⟨λ|6=>30|8=>62|9=>36|11=>109|13=>67|12=>66|23=>119|24=>120|14=>110|15=>111|16=>112|17=>113|18=>114|19=>115|20=>116|21=>117|22=>118|25=>152|26=>153|27=>154|28=>155|29=>156|30=>70|31=>187|n=>n,λ|26=>3|28=>70|24=>23|0=>0|3=>3|37=>108|48=>158|50=>160|4=>4|40=>150|39=>149|45=>155|5=>5|9=>9|51=>201|55=>205|57=>240|58=>128|33=>103|n=>n,λ|n=>n⟩
def Tryz.sortZ:Go.Proofs.SlLaysZI.n6 Tryz.prog Tryz.sortZ_ren:={
 mixed:=by kernel_rfl
 f6:=⟨Tryz.f30.name,by decide,Tryz.func30.trans (congrArg ä (by kernel_rfl))⟩
 f8:=⟨Tryz.f62.name,by decide,Tryz.func62.trans (congrArg ä (by kernel_rfl))⟩
 f11:=⟨Tryz.f109.name,by decide,Tryz.func109.trans (congrArg ä (by kernel_rfl))⟩
 t0:=Tryz.underlying0
 a0:=Tryz.isAgg0
 z0:=Tryz.sizeOf0
 v0:=Tryz.zeroValue0
 t24:=Tryz.underlying23
 a24:=Tryz.isAgg23
 z24:=Tryz.sizeOf23
 v24:=Tryz.zeroValue23
 t26:=Tryz.underlying3
 a26:=Tryz.isAgg3
 z26:=Tryz.sizeOf3
 v26:=Tryz.zeroValue3
 t28:=Tryz.underlying70
 a28:=Tryz.isAgg70
 z28:=Tryz.sizeOf70
 v28:=Tryz.zeroValue70
 i26:=by kernel_rfl }
end Go.Proofs
namespace Abs
open Go Go.Proofs Go.RowKit Go.Maps Go.Shelf Go.WideElems Go.MapKept Tryz
open Go.ChangeMaps (setBlock heap_setBlock_same)
open Go.ChangeShapes (lits)
attribute [local go_sem] Oper.semAt_some
def jH (f:List WK)(x:Int):Bool:=f.any λy=>y.id == x&&(y.fd == 1&&(y.nn == 2||y.nn == 3))
def tV (f:List WK)(p:Int):List Int:=(f.filter λy=>y.fd == 2&&y.rf == p).map (·.id)
def sh (D:DataW Unit)(f:Int→List Int):Prop:=IsMap D∧∀p:Int,(D.atKey (.int .i64 p) .nil = .nil∧f p=[])∨D.atKey (.int .i64 p) .nil = .slice (lits .i64 (f p)) []
def sh.nil:sh (.map []) (λ_=>[]):=⟨isMap_empty,λp=>.inl ⟨rfl,rfl⟩⟩
variable{D:DataW Unit}{f:Int→List Int}{w W w' :æ}{base n B C:Nat}{pre:List WK}{y x:WK}{u:ø}
def sh.eq {g:Int→List Int}(h:sh D f)(e:∀x,f x=g x):sh D g:=by have:f=g:=funext e;rw[←this];exact h
def sh.zs (h:sh D f){p:Int}{v:ø}{zs:List Int}(j:D.atKey (.int .i64 p) .nil=rowDatum .i64 v zs)(l:w.ownsInts base 3 .i64 v zs):zs=f p:=by
 rcases l.datum (H:=Unit)with⟨e,rfl⟩|e
 ·rw[e]at j;rcases h.2 p with⟨_,g⟩|g
  ·exact g.symm
  ·rw[j]at g;cases g
 ·rw[e]at j;rcases h.2 p with⟨g,_⟩|g
  ·rw[j]at g;cases g
  ·rw[j]at g;injection g with g;exact O6 g
def sh.put {D:DataW Unit}{f:Int→List Int}(h:sh D f)(p i:Int)(g:WideAt.IsKeyLit (.int .i64 p)):sh (D.put (.int .i64 p) (.slice (lits .i64 (f p++[i])) [])) (λq=>if q=p then f p++[i]else f q):=by
 refine⟨h.1.put _ _,λq=>?_⟩;by_cases e:q=p
 ·subst e;refine .inr ?_;rw[atKey_put_same h.1 g];simp only[i?]
 ·rw[atKey_put_other (λj=>e (by cases j;rfl))];simp only[ω e];exact h.2 q
def sh.del {D:DataW Unit}{f:Int→List Int}(h:sh D f)(p:Int):sh (D.del (.int .i64 p)) (λq=>if q=p then[]else f q):=by
 refine⟨h.1.del _,λq=>?_⟩;by_cases e:q=p
 ·subst e;refine .inl ⟨?_,Θ rfl⟩;rw[atKey_del_same]
 ·rw[atKey_del_other (λg=>e (by cases g;rfl))];simp only[ω e];exact h.2 q
def kpT (f g j:ø)(B:Nat):Array Value :=#[f,g,é,é,.slice ö 0 0,.pointer (ä ⟨B+1+1,0,ö⟩),.pointer (ä ⟨B+1+1+1,0,ö⟩),é,é,é,é,é,é,.map (ä B),.map (ä (B+1)),f,j,é,é,é,é,é,é,é,é,é,é,é,é,é,é,é,é,é,é,é,é,é,é,é,é,é,é,é,é,é,é,é,é,é,é,é,é,é,é,é,é,é,é,é,é,é,é,é,é,é,é,é,é,é,é,é,é,é,é,é,é,é,é,é,é,é,é,é,é,é,é,é,é,é,é,é,é,é,é]
def ahS (f j l g:ø)(B:Nat):Array Value :=#[f,j,é,é,.slice ö 0 0,.pointer (ä ⟨B+1+1,0,ö⟩),.pointer (ä ⟨B+1+1+1,0,ö⟩),é,é,é,é,é,é,.map (ä B),.map (ä (B+1)),f,l,g,é,é,é,é,é,é,é,é,é,é,é,é,é,é,é,é,é,é,é,é,é,é,é,é,é,é,é,é,é,é,é,é,é,é,é,é,é,é,é,é,é,é,é,é,é,é,é,é,é,é,é,é,é,é,é,é,é,é,é,é,é,é,é,é,é,é,é,é,é,é,é,é,é,é,é,é,é]
def ad5:Option Code→Code
 |some (.seq _ (.seq _ (.seq (.seq _ (.block _ (.rangeFunc _ _ a _))) _)))=>a
 |_=>.skip
def ad4:Option Code→Code
 |some (.seq _ (.seq _ (.seq (.seq _ (.block _ (.rangeFunc _ _ _ b))) _)))=>b
 |_=>.skip
def ip (fn:å)(j g l:ø)(B D:Nat)(p:LoopState)(f:Option Code):Loop :=
 { state:=p,pending:=f,fn,tmps:=kpT j g l B,params :=#[17],assign:=ad5 f10.body,body:=ad4 f10.body,defers:=D }
structure KpS (w:æ)(D:Nat)(pre:List WK)(W:æ):Prop where
 below:Below w.heap.size w W
 sz:w.heap.size+4≤W.heap.size
 K:W.heap[D]? = ä (.deferred (ä []))
 c1:W.heap[w.heap.size+1+1]? = ä (.cells #[.map (ä w.heap.size)] 63 (0,0))
 c2:W.heap[w.heap.size+1+1+1]? = ä (.cells #[.map (ä (w.heap.size+1))] 64 (0,0))
 defs:∃n D1,n≤pre.length∧bN W w.heap.size n D1∧iy D1 (jH pre)
 ins:∃n D2,n≤pre.length∧W.ownsGroups Tryz.prog 3 (w.heap.size+1+1) 3 .i64 (w.heap.size+1) n D2∧sh D2 (tV pre)
def KpS.kept {w W W':æ}{D:Nat}{pre:List WK}{row:Option Nat}(h:KpS w D pre W)(j:W.grownBy W' row)(p:∀r,row=ä r→w.heap.size+4≤r∧r≠D∧∃o:Obj,W.heap[r]? = ä o∧∀cur,o ≠ .cells cur 3 (0,0)):KpS w D pre W':=by
 have lt:∀{k:Nat} {o:Obj},W.heap[k]? = ä o→k<W.heap.size:=λh=>(δ.1 h).1;have ne:∀k,k<w.heap.size+4→ä k≠row:=λk hk e=>by have:=(p k e.symm).1;omega
 obtain⟨n1,D1,hn1,T,P⟩:=h.defs;obtain⟨n2,D2,hn2,l,J⟩:=h.ins;refine⟨h.below.grown j h.below.size λk e=>by have:=(p k e).1;omega,ξ h.sz j.size,(j.block D (lt h.K) λe=>(p D e.symm).2.1 rfl).trans h.K,(j.block _ (lt h.c1) (ne _ Ω)).trans h.c1,(j.block _ (lt h.c2) (ne _ Ω)).trans h.c2,
  ⟨n1,D1,hn1,T.kept j (ne _ Ω),P⟩,⟨n2,D2,hn2,l.kept j (ne _ Ω) λes clock hb x hx=>?_,J⟩⟩
 cases e:x.val.ownBlock with
 |none=>exact .inl rfl
 |some g=>
  refine .inr λe'=>?_;obtain⟨_,_,o,ho,U⟩:=p g e'.symm;obtain⟨es',f,hb',Ft,_⟩:=l;obtain⟨rfl,rfl⟩:es'=es∧f=clock:=by rw[hb']at hb;simpa using hb
  obtain⟨z,hz⟩:=Ft.reads x hx;obtain⟨z',C,_⟩:=rd_val hz;obtain⟨zs,R,_⟩:=rowElem_inv C;obtain e2|e2:=ownsRow_ne_a R.1 ho U
  ·rw[e]at e2;cases e2
  ·exact e2 e
def KpS.quiet {f :æ}{D:Nat}(h:KpS w D pre W)(g:W.grownBy f ö):KpS w D pre f:=h.kept g λr e=>by cases e
structure KpAt (w:æ)(fn:å)(va vb sv:ø)(l D:Nat)(pre:List WK)(W:æ):Prop where
 S:KpS w D pre W
 L:W.heap[l]? = ä (.loop (ip fn va vb sv w.heap.size D .ready ö))
def KpAt.quiet {w W r:æ}{fn:å}{g f j:ø}{l D:Nat}{pre:List WK}(h:KpAt w fn g f j l D pre W)(p:W.grownBy r ö):KpAt w fn g f j l D pre r :=
 ⟨h.S.quiet p,(p.block l (δ.1 h.L).1 Ψ).trans h.L⟩
def Bw (pre:List WK)(y:WK)(x:Int):jH (pre++[y]) x=(jH pre x||(y.id == x&&(y.fd == 1&&(y.nn == 2||y.nn == 3)))):=by simp[jH]
def Gg (pre:List WK)(y:WK)(p:Int):tV (pre++[y]) p=tV pre p++(if y.fd == 2&&y.rf == p then[y.id]else[]):=by unfold tV;rw[W?,T_,S?];split <;> simp
def KpS.idle {D:Nat}(h:KpS w D pre W)(R:(y.fd == 1&&(y.nn == 2||y.nn == 3))=ß)(P:(y.fd == 2)=ß):KpS w D (pre++[y]) W:=by
 obtain⟨r,U,J,l,g⟩:=h.defs;obtain⟨p,T,C,j,f⟩:=h.ins;refine⟨h.below,h.sz,h.K,h.c1,h.c2,⟨r,U,by simp;omega,l,g.eq λx=>?_⟩,⟨p,T,by simp;omega,j,f.eq λx=>?_⟩⟩
 ·rw[Bw,R];simp
 ·rw[Gg,P];simp
def KpS.def1 {r :æ}{D:Nat}(h:KpS w D pre W)(p:(y.fd == 1&&(y.nn == 2||y.nn == 3))=ü){C:DataW Unit}(hn:n≤pre.length)(f:W.grownBy r (ä w.heap.size))(R:bN r w.heap.size (n+1) C)(P:iy C (λx=>x == y.id||jH pre x))(hD:w.heap.size+4≤D):KpS w D (pre++[y]) r:=by
 have lt:∀{k:Nat} {o:Obj},W.heap[k]? = ä o→k<W.heap.size:=λh=>(δ.1 h).1;have ne:∀k,w.heap.size<k→ä k≠ä w.heap.size:=λk hk e=>by cases e;omega
 obtain⟨J,D2,T,g,l⟩:=h.ins;have U:(y.fd == 2)=false:=by rw[θ]at p;rw[M_.1 p.1];rfl
 refine⟨h.below.grown f h.below.size λk e=>by cases e;omega,ξ h.sz f.size,(f.block D (lt h.K) (ne D Ω)).trans h.K,(f.block _ (lt h.c1) (ne _ Ω)).trans h.c1,(f.block _ (lt h.c2) (ne _ Ω)).trans h.c2,
  ⟨n+1,C,by simp;omega,R,P.eq λx=>?_⟩,⟨J,D2,by simp;omega,g.kept f Ψ (g.rowsAbove λj e=>by cases e;omega),l.eq λx=>?_⟩⟩
 ·rw[Bw,p];cases e:(y.id == x)with
  |true=>rw[show(x == y.id)=ü by rw[M_.1 e];simp];simp
  |false=>rw[show(x == y.id)=ß from S'.2 λe'=>(S'.1 e) e'.symm];simp
 ·rw[Gg,U];simp
def U6 {r w1:æ}{b:Nat}(ho:r.ownsGroups prog 3 base 3 .i64 b n D)(hf:sh D f)(hn:n<1048576)(C:r.grownBy w1 ö)(p i:Int)(hp:(Lit.int .i64 p).wf=ü)(hi:(Lit.int .i64 i).wf=ü)(ad:Addr)(hc:w1.cell? (ad.add 0)=ä (.int .i64 i))(hbase:base≤r.heap.size)(ty:TypeId) :
  ∃u zs,(Instr.lookup 64 (.map (ä b)) (.int .i64 p) ß).run prog r = .ok u r∧r.ownsInts base 3 .i64 u zs∧∃v' J,(Builtin.append_ #[23,23] ty #[u,.slice (ä ad) 1 1]).run prog w1 = .ok v' J∧∃w6 D',(Instr.mapUpdate 64 (.map (ä b)) (.int .i64 p) v').run prog J = .ok () w6 ∧
   w6.ownsGroups prog 3 base 3 .i64 b (n+1) D'∧sh D' (λq=>if q=p then f p++[i]else f q)∧r.grownBy J u.ownBlock∧J.grownBy w6 (ä b):=by
 have T:=keyOf_int_mk Kn hp;obtain⟨u,zs,hrun,hat,hoi,hzl,hback⟩:=ho.at Lz Q7 (YY r) (by unfold maxLen;omega) T;have R:w1.ownsInts base 3 .i64 u zs:=hoi.kept C (by
  cases e:u.ownBlock with
  |none=>exact .inl rfl
  |some g=>exact .inr Ψ)
 obtain⟨i0,hi0,hz0,hz1,hz2⟩:=info_parts abn;obtain⟨v',J,hr,h2,h3,h4,h5⟩:=run_append_own_at (P:=prog) w1 base 23 ty 3 i0 (.int .i64 0) 1 8 Zj hi0 hz0 hz1 hz2 rfl Ϛ u zs.length _ R.1 ad 1 1 [.int .i64 i] rfl (λj v hj=>by
  match j,hj with
  |0,hj=>cases hj;exact hc) (by simp[Value.oneCell']) (by unfold maxLen;omega) Ω (ξ hbase C.size)
 have U:r.grownBy J u.ownBlock:=⟨h3.os.trans C.os,h3.tape.trans C.tape,h3.output.trans C.output,ξ C.size h3.size,λk hk hne=>(h3.block k (d_ hk C.size) hne).trans (C.block k hk Ψ)⟩;have l:=R.appended h2 hi;obtain⟨w6,r1,r2,r3⟩:=hback J v' (zs++[i]) U l Ξ (h5.imp id λe=>⟨_,e,C.size⟩);have hd:=l.datum_pos (H:=Unit) Ψ;rw[hd,hf.zs hat hoi]at r2;exact⟨u,zs,hrun,hoi,v',J,hr,w6,_,r1,r2,hf.put p i (Lz.key T),U,r3⟩
def KpS.grp {w4 C:æ}{D:Nat}(h:KpS w D pre W)(h2:(y.fd == 2)=ü){zs:List Int}{D':DataW Unit}(U:W.ownsInts (w.heap.size+1+1) 3 .i64 u zs)(hn:n≤pre.length)(ho:C.ownsGroups prog 3 (w.heap.size+1+1) 3 .i64 (w.heap.size+1) (n+1) D')
  (hd:sh D' (λq=>if q=y.rf then tV pre y.rf++[y.id]else tV pre q)) (g:W.grownBy w4 u.ownBlock) (j:w4.grownBy C (ä (w.heap.size+1))) (hD:w.heap.size+4≤D):KpS w D (pre++[y]) C∧Below w.heap.size W C∧∀(l:Nat) (r:Loop),w.heap.size+4≤l→W.heap[l]? = ä (.loop r)→C.heap[l]? = ä (.loop r):=by
 have lt:∀{k:Nat} {o:Obj},W.heap[k]? = ä o→k<W.heap.size:=λh=>(δ.1 h).1;have T:∀{k:Nat} {o:Obj},W.heap[k]? = ä o→(∀f,o ≠ .cells f 3 (0,0))→ä k≠u.ownBlock:=λR J=>by
  obtain e|e:=ownsRow_ne_a U.1 R J
  ·rw[e];simp
  ·exact λe'=>e e'.symm
 have P:∀k,k≠w.heap.size+1→ä k≠ä (w.heap.size+1):=λk R e=>by cases e;exact R rfl
 have all:∀{k:Nat} {o:Obj},k≠w.heap.size+1→(∀f,o ≠ .cells f 3 (0,0))→W.heap[k]? = ä o→C.heap[k]? = ä o:=λR J h=>
  (j.block _ (d_ (lt h) g.size) (P _ R)).trans ((g.block _ (lt h) (T h J)).trans h)
 have p:Below w.heap.size W C:=(((Below.refl _ W).grown g h.below.size λk e=>by have:=(U.1.lt k e).1;omega).grown j (ξ h.below.size g.size) λk e=>by cases e;omega);obtain⟨n1,D1,hn1,ho1,hs1⟩:=h.defs;have hbu:ä w.heap.size≠u.ownBlock:=λe=>by have:=(U.1.lt _ e.symm).1;omega
 have hf:(y.fd == 1)=false:=by rw[M_.1 h2];rfl
 refine⟨⟨h.below.trans p,ξ h.sz (ξ g.size j.size),all Ω (λf e=>by cases e) h.K,all Ω (λf e=>by cases e) h.c1,all Ω (λf e=>by cases e) h.c2,
  ⟨n1,D1,by simp;omega,(ho1.kept g hbu).kept j (P _ Ω),hs1.eq λx=>?_⟩,⟨n+1,D',by simp;omega,ho,hd.eq λx=>?_⟩⟩,p,λl r hl hL=>all Ω (λf e=>by cases e) hL⟩
 ·rw[Bw,hf];simp
 ·rw[Gg,h2];by_cases e:x=y.rf
  ·subst e;simp
  ·have:(y.rf == x)=false:=S'.2 λe'=>e e'.symm;simp[e,this]
open Go.ChangeMaps (setBlock heap_setBlock_same)
open Go.ChangeShapes (lits)
attribute [local go_sem] Oper.semAt_some
def LA {D l:Nat}{r r':Loop}(h:KpS w D pre W)(j:W.heap[l]? = ä (.loop r))(g:w.heap.size+4≤l)(f:D≠l):KpS w D pre (W.putObj l (.loop r')) :=
 h.kept (grownBy_putObj_a _ _ _) λr e=>by cases e;exact⟨g,λe=>f e.symm,_,j,λp e=>by cases e⟩
def ahR {fn:å}{g f j:ø}{D l:Nat}(h:KpS w D pre W)(r:W.heap[l]? = ä (.loop { ip fn g f j w.heap.size D .ready ö with state :=.busy }))(C:w.heap.size+4≤l)(p:D≠l) :
  KpAt w fn g f j l D pre (W.putObj l (.loop { { ip fn g f j w.heap.size D .ready ö with state :=.busy }with state:=if (ö:Option Code).isNone then .ready else .done,pending:=ö })) :=
 ⟨LA h r C p,World.putObj_heap_same (δ.1 r).1⟩
structure SK (B C:Nat)(x:WK)(w':æ):Prop where
 b:w'.heap[B+1+1+1]? = ä (.cells #[.map (ä (B+1))] 64 (0,0))
 x:w'.heap[C]? = ä (.cells #[.int .i64 x.id,.int .i64 x.fd,.int .i64 x.nn,.bool x.fl,.string x.tx,.int .i64 x.rf] 44 (0,0))
def SK.c (h:SK B C x w'):w'.cell? ⟨B+1+1+1,0,ö⟩=ä (.map (ä (B+1))):=(cell_of_box_a h.b).1
def SK.d0 (h:SK B C x w'):w'.cell? ⟨C,0,ö⟩=ä (.int .i64 x.id):=by simp[World.cell?,h.x]
def SK.d5 (h:SK B C x w'):w'.cell? ⟨C,5,ö⟩=ä (.int .i64 x.rf):=by simp[World.cell?,h.x]
def SK.kept {f:æ}{row:Option Nat}(h:SK B C x w')(g:w'.grownBy f row)(l:ä (B+1+1+1)≠row)(j:ä C≠row):SK B C x f :=
 ⟨(g.block _ (δ.1 h.b).1 l).trans h.b,(g.block _ (δ.1 h.x).1 j).trans h.x⟩
def SK.row {l:æ}{p:List Int}(h:SK B C x w')(r:w'.ownsInts base 3 .i64 u p)(P:w'.grownBy l u.ownBlock):SK B C x l:=by
 have g:∀{k:Nat} {o:Obj},w'.heap[k]? = ä o→(∀f,o ≠ .cells f 3 (0,0))→ä k≠u.ownBlock:=λJ j=>by
  obtain e|e:=ownsRow_ne_a r.1 J j
  ·rw[e];simp
  ·exact λR=>e R.symm
 exact h.kept P (g h.b λf e=>by cases e) (g h.x λf e=>by cases e)
set_option maxRecDepth 100000 in
set_option maxHeartbeats 1600000 in
def aeV (m:Nat)(w:æ)(fn:å)(va vb sv:ø)(l D:Nat)(hl:w.heap.size+4≤l)(hD:w.heap.size+4≤D)(hDl:D≠l)(pre:List WK)(x:WK)(W:æ)(h:KpAt w fn va vb sv l D pre W)(hlen:pre.length<1048576)(hi:(Lit.int .i64 x.id).wf=ü)(hr:(Lit.int .i64 x.rf).wf=ü) :
  YieldAt Fence.wide m prog l #[iz x] W λe W'=>e = .returned (.bool ü)∧KpAt w fn va vb sv l D (pre++[x]) W'∧Below w.heap.size W W':=by
 refine⟨fn,ahS va vb sv (iz x) w.heap.size,ad5 f10.body,ad4 f10.body,by simpa[ip,kpT,ahS]using run_yield (P:=prog) (args :=#[iz x]) h.L rfl,roundIn_of_wpIn trivial ?_⟩;have hS:=h.S;have hlL:l<W.heap.size:=(δ.1 h.L).1;unfold ahS f10 ad5 ad4;dsimp only;unfold iz
 gi_wp2_with gi_round_op_a
 have hb1:Below w.heap.size W (W.alloc (.cells #[.int .i64 x.id,.int .i64 x.fd,.int .i64 x.nn,.bool x.fl,.string x.tx,.int .i64 x.rf] 44)):=(Below.refl _ W).alloc hS.below.size _;have hS1:=hS.quiet (κ W (.cells #[.int .i64 x.id,.int .i64 x.fd,.int .i64 x.nn,.bool x.fl,.string x.tx,.int .i64 x.rf] 44) ö);have hL1:=(Below.heap_alloc W (.cells #[.int .i64 x.id,.int .i64 x.fd,.int .i64 x.nn,.bool x.fl,.string x.tx,.int .i64 x.rf] 44) l hlL).trans h.L;have hx1:=World.alloc_heap_new W (.cells #[.int .i64 x.id,.int .i64 x.fd,.int .i64 x.nn,.bool x.fl,.string x.tx,.int .i64 x.rf] 44);have hs1:(W.alloc (.cells #[.int .i64 x.id,.int .i64 x.fd,.int .i64 x.nn,.bool x.fl,.string x.tx,.int .i64 x.rf] 44)).heap.size=W.heap.size+1:=by simp
 generalize W.alloc (.cells #[.int .i64 x.id,.int .i64 x.fd,.int .i64 x.nn,.bool x.fl,.string x.tx,.int .i64 x.rf] 44)=WA at hb1 hS1 hL1 hx1 hs1⊢;have hbr:=run_beginRound (P:=prog) hL1 rfl;refine⟨_,hbr, ?_⟩;have f:=LA (r':={ ip fn va vb sv w.heap.size D .ready ö with state :=.busy }) hS1 hL1 hl hDl;have j:(WA.putObj l (.loop { ip fn va vb sv w.heap.size D .ready ö with state :=.busy })).heap[l]? = _:=World.putObj_heap_same Ω;have r:(WA.putObj l (.loop { ip fn va vb sv w.heap.size D .ready ö with state :=.busy })).heap[W.heap.size]? = _:=(World.putObj_heap_other Ω).trans hx1;have J:Below w.heap.size W (WA.putObj l (.loop { ip fn va vb sv w.heap.size D .ready ö with state :=.busy })):=hb1.grown (grownBy_putObj_a _ _ _) hS1.below.size (λk e=>by cases e;omega);generalize hr0:({ ip fn va vb sv w.heap.size D .ready ö with state :=.busy }:Loop)=rr at *;generalize WA.putObj l (.loop rr)=W2 at f j r J⊢;clear hbr hS1 hL1 hx1 hb1 hS h;have R:∀W4,KpS w D (pre++[x]) W4→W4.heap[l]? = ä (.loop rr)→Below w.heap.size W W4→∀a,roundPost prog l (λe W'=>e=Ending.returned (.bool ü)∧KpAt w fn va vb sv l D (pre++[x]) W'∧Below w.heap.size W W') .normal a W4:=λW4 h4 hL4 hb4 a=>by subst hr0;exact⟨_,_,run_endRound ö hL4,rfl,ahR h4 hL4 hl hDl,hb4.grown (grownBy_putObj_a _ _ _) h4.below.size (λk e=>by cases e;omega)⟩
 obtain⟨hc1,hf1⟩:=cell_of_box_a f.c1;obtain⟨hc2,hf2⟩:=cell_of_box_a f.c2;have d0:W2.cell? ⟨W.heap.size,0,ö⟩=ä (.int .i64 x.id):=by simp[World.cell?,r]
 have d1:W2.cell? ⟨W.heap.size,1,ö⟩=ä (.int .i64 x.fd):=by simp[World.cell?,r]
 have d2:W2.cell? ⟨W.heap.size,2,ö⟩=ä (.int .i64 x.nn):=by simp[World.cell?,r]
 have d5:W2.cell? ⟨W.heap.size,5,ö⟩=ä (.int .i64 x.rf):=by simp[World.cell?,r]
 obtain⟨n1,D1,hn1,ho1,hd1⟩:=f.defs;obtain⟨n2,D2,hn2,ho2,hd2⟩:=f.ins;by_cases e1:x.fd=1
 ·have b1:(x.fd == 1)=true:=M_.2 e1;have b3:(x.fd == 2)=false:=S'.2 Ω;by_cases e2:x.nn=2
  ·have b2:(x.nn == 2)=true:=M_.2 e2
   gi_wp2_with (first
    |(gi_at_mapUpdate;refine cD _ rfl _ _ _ rfl w.heap.size n1 D1 rfl ho1 hd1 (by unfold maxLen;omega) x.id rfl rfl hi ?_;intro w3 T hd3 C)
    |gi_round_op_a)
   refine R w3 (f.def1 (by rw[b1,b2];rfl) hn1 C T hd3 hD) ((C.block l (δ.1 j).1 (λe=>by cases e;omega)).trans j) (J.grown C f.below.size (λk e=>by cases e;omega)) _
  ·have b2:(x.nn == 2)=false:=S'.2 e2;by_cases e4:x.nn=3
   ·have b4:(x.nn == 3)=true:=M_.2 e4
    gi_wp2_with (first
     |(gi_at_mapUpdate;refine cD _ rfl _ _ _ rfl w.heap.size n1 D1 rfl ho1 hd1 (by unfold maxLen;omega) x.id rfl rfl hi ?_;intro w3 T hd3 C)
     |gi_round_op_a)
    refine R w3 (f.def1 (by rw[b1,b2,b4];rfl) hn1 C T hd3 hD) ((C.block l (δ.1 j).1 (λe=>by cases e;omega)).trans j) (J.grown C f.below.size (λk e=>by cases e;omega)) _
   ·have b4:(x.nn == 3)=false:=S'.2 e4
    gi_wp2_with gi_round_op_a
    exact R W2 (f.idle (by rw[b1,b2,b4];rfl) b3) j J _
 ·have b1:(x.fd == 1)=false:=S'.2 e1;by_cases e2:x.fd=2
  ·have b2:(x.fd == 2)=true:=M_.2 e2
   gi_wp2_with gi_round_op_a
   have hm:prog.follows .mixedOrders=true:=Φ
   have hS3:KpS w D pre W2.drew:=f.quiet ⟨rfl,rfl,rfl,ε _,λ_ _ _=>rfl⟩;have hL3:W2.drew.heap[l]? = ä (.loop rr):=j;have hSK:SK w.heap.size W.heap.size x W2.drew:=⟨f.c2,r⟩;have hb3:Below w.heap.size W W2.drew:=J.grown (w':=W2.drew) (row:=ö) ⟨rfl,rfl,rfl,ε _,λ_ _ _=>rfl⟩ f.below.size (λk e=>by cases e);refine AC (S:=SK w.heap.size W.heap.size x) (λ_=>trivial) Φ hm Φ [0,1,2,3,4,5,6,7,9,10] 4 Φ Φ hSK ?_;refine bc (.map (ä (w.heap.size+1))) rfl rfl (λw' g=>by have c:=g.c;clear g;go_simp) ?_;refine bc (.pointer (ä ⟨W.heap.size,2,ö⟩)) rfl rfl (λw' g=>by clear g;go_simp) ?_;refine bc (.pointer (ä ⟨W.heap.size,5,ö⟩)) rfl rfl (λw' g=>by clear g;go_simp) ?_;refine bc (.int .i64 x.rf) rfl rfl (λw' g=>by have c:=g.d5;clear g;go_simp) ?_;refine bc (.map (ä (w.heap.size+1))) rfl rfl (λw' g=>by have c:=g.c;clear g;go_simp) ?_;refine bc (.pointer (ä ⟨W.heap.size,2,ö⟩)) rfl rfl (λw' g=>by clear g;go_simp) ?_;refine bc (.pointer (ä ⟨W.heap.size,5,ö⟩)) rfl rfl (λw' g=>by clear g;go_simp) ?_;refine bc (.int .i64 x.rf) rfl rfl (λw' g=>by have c:=g.d5;clear g;go_simp) ?_;refine bc (.pointer (ä ⟨W.heap.size,0,ö⟩)) rfl rfl (λw' g=>by clear g;go_simp) ?_;refine bc (.int .i64 x.id) rfl rfl (λw' g=>by have c:=g.d0;clear g;go_simp) ?_;simp only[wM];clear d0 d1 d2 d5 hc1 hc2 hf1 hf2 f j r J hn1 ho1 hd1 hn2 ho2 hd2 n1 D1 n2 D2;change wpAnyH _ _ _ _ _ 4 _ _ W2.drew;generalize W2.drew=p at *;obtain⟨n2,D2,hn2,ho2,hd2⟩:=hS3.ins;refine abv (i:=8) (k:=11) Φ ?_ ?_
   ·obtain⟨u,zs,r1,hu,v',w4,r2,w6,D',r3,ho6,hd6,hg4,U⟩:=U6 (w1:=p.alloc (.cells #[.int .i64 x.id] 3)) ho2 hd2 Ω (κ _ _ _) x.rf x.id hr hi ⟨p.heap.size,0,ö⟩ (cell_one_new _ _ _ 0 _ rfl) (by have:=hS3.sz;omega) 23;have hSA:=hSK.kept (κ p (.cells #[.int .i64 x.id] 3) ö) Ψ Ψ;have hS4:=hSK.row hu hg4;have hS6:=hS4.kept U (λe=>by injection e with e;omega) (λe=>by injection e with e;omega);obtain⟨k1,k2,k3⟩:=hS3.grp b2 hu hn2 ho6 hd6 hg4 U hD;refine cP (v:=u) rfl rfl (by go_simp) ⟨hSK,pY (i:=11) Φ ?_⟩;refine cP (v :=.slice (ä ⟨p.heap.size,0,ö⟩) 1 1) (w':=p.alloc (.cells #[.int .i64 x.id] 3)) rfl rfl (by go_simp) ⟨hSA,pY (i:=12) Φ ?_⟩;refine cP (v:=v') (w':=w4) rfl rfl (iU (s :=.tmp 49) (x :=.tmp 52) (t:=23) (u:=u) (y :=.slice (ä ⟨p.heap.size,0,ö⟩) 1 1) rfl (by go_simp) (by go_simp) r2) ⟨hS4,pY (i:=13) Φ ?_⟩;refine uG (w':=w6) rfl rfl (by go_simp) ⟨hS6,wpAnyH_done Φ ?_ _⟩;exact R w6 k1 (k3 l rr hl hL3) (hb3.trans k2) { tmps :=#[],defers:=[] }
   ·have hSA:=hSK.kept (κ p (.cells #[.int .i64 x.id] 3) ö) Ψ Ψ;have hS3':=hS3.quiet (κ p (.cells #[.int .i64 x.id] 3) ö);have hL3':(p.alloc (.cells #[.int .i64 x.id] 3)).heap[l]? = ä (.loop rr):=(Below.heap_alloc p _ l (δ.1 hL3).1).trans hL3;have hb3':Below w.heap.size W (p.alloc (.cells #[.int .i64 x.id] 3)):=hb3.trans ((Below.refl _ p).alloc hS3.below.size _);obtain⟨n3,D3,hn3,T,hd3⟩:=hS3'.ins;obtain⟨u,zs,r1,hu,v',w4,r2,w6,D',r3,ho6,hd6,hg4,U⟩:=U6 (w1:=p.alloc (.cells #[.int .i64 x.id] 3)) T hd3 Ω ⟨rfl,rfl,rfl,ε _,λ_ _ _=>rfl⟩ x.rf x.id hr hi ⟨p.heap.size,0,ö⟩ (cell_one_new _ _ _ 0 _ rfl) (by have:=hS3'.sz;omega) 23;have hS4:=hSA.row hu hg4;have hS6:=hS4.kept U (λe=>by injection e with e;omega) (λe=>by injection e with e;omega);obtain⟨k1,k2,k3⟩:=hS3'.grp b2 hu hn3 ho6 hd6 hg4 U hD;refine cP (v :=.slice (ä ⟨p.heap.size,0,ö⟩) 1 1) (w':=p.alloc (.cells #[.int .i64 x.id] 3)) rfl rfl (by go_simp) ⟨hSA,pY (i:=8) Φ ?_⟩;refine cP (v:=u) rfl rfl (by go_simp) ⟨hSA,pY (i:=12) Φ ?_⟩;refine cP (v:=v') (w':=w4) rfl rfl (iU (s :=.tmp 49) (x :=.tmp 52) (t:=23) (u:=u) (y :=.slice (ä ⟨p.heap.size,0,ö⟩) 1 1) rfl (by go_simp) (by go_simp) r2) ⟨hS4,pY (i:=13) Φ ?_⟩;refine uG (w':=w6) rfl rfl (by go_simp) ⟨hS6,wpAnyH_done Φ ?_ _⟩;exact R w6 k1 (k3 l rr hl hL3') (hb3'.trans k2) { tmps :=#[],defers:=[] }
  ·have b2:(x.fd == 2)=false:=S'.2 e2
   gi_wp2_with gi_round_op_a
   exact R W2 (f.idle (by rw[b1];rfl) b2) j J _
