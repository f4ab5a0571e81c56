/- Parts. -/
import Derived.Shelf.Slices.Equal
import Derived.Shelf.Slices.Empties2
import Derived.Test.YtfgpipfjalmooaaGreatCloQ
import Derived.Test.YtfgpipfjalmooaaGreatKpP
import Derived.Test.YtfgpipfjalmooaaGreatSkE
import Derived.Deep.RegionHeld3
open Option renaming some→ä,none→ö
open Bool renaming true→ü,false→ß
open Go renaming World→æ,Value→ø,Program→å,TypeId→é,Operand→è,execOp→ê,Oper→ë
set_option linter.all false
noncomputable section
namespace Go.Proofs
open Go.Shelf Tryz
def Tryz.equI_ren:Go.Shelf.Ren:=⟨λ|111=>78|n=>n,λ|28=>23|3=>3|4=>4|0=>0|n=>n,λ|n=>n⟩
def Tryz.equI:Go.Proofs.Lays.n111 Tryz.prog Tryz.equI_ren:={
 mixed:=by kernel_rfl
 f111:=Tryz.func78.trans (congrArg ä (by kernel_rfl))
 t0:=Tryz.underlying0
 a0:=Tryz.isAgg0
 z0:=Tryz.sizeOf0
 v0:=Tryz.zeroValue0
 t3:=Tryz.underlying3
 a3:=Tryz.isAgg3
 z3:=Tryz.sizeOf3
 v3:=Tryz.zeroValue3
 t4:=Tryz.underlying4
 a4:=Tryz.isAgg4
 z4:=Tryz.sizeOf4
 v4:=Tryz.zeroValue4
 t28:=Tryz.underlying23
 a28:=Tryz.isAgg23
 z28:=Tryz.sizeOf23
 v28:=Tryz.zeroValue23 }
end Go.Proofs
namespace Go.Proofs.YtfgpipfjalmooaaGreat
namespace Abs
open Go Go.Proofs Go.RowKit Go.Maps Go.Shelf Tryz
open Go.Proofs.YtfgpipfjalmooaaGreat.Clo (PV CV ME findE eqP eqL eqC lsEq denP denEs kOk SymVal)
@[reducible] def symW:SymVal:=⟨λ_=>.bool ü,λ_=>rfl,λ_=>True⟩
def gxW:Clo.Gx:=⟨λ_ _=>ö,λ_=>ö,λ_=>ö⟩
def ksW:List Clo.CK:=[.i .i64,.i .i64,.i .i64,.b,.s,.i .i64]
def kyW (x:WK):PV :=.agg [.int .i64 x.id,.int .i64 x.fd,.int .i64 x.nn,.bl x.fl,.str (x.tx.data.toList.map UInt8.toNat),.int .i64 x.rf]
def adI (s:ByteArray) : @Clo.den symW gxW (.str (s.data.toList.map UInt8.toNat))=ä (.string s):=by
 have j:Clo.okStr (s.data.toList.map UInt8.toNat)=true:=by unfold Clo.okStr;rw[P'];intro b f;obtain⟨u,_,rfl⟩:=a_.1 f;exact Nat.ble_eq_true_of_le (UInt8.toNat_lt u)
 have g:((s.data.toList.map UInt8.toNat).map UInt8.ofNat)=s.data.toList:=by
  rw[V_];conv=>rhs;rw[←List.map_id s.data.toList]
  exact aj5 λu _=>by simp
 show(if Clo.okStr _=ü then ä (Clo.strV _)else ö)=_;rw[Θ j];unfold Clo.strV;rw[g]
def kD (x:WK) : @denP symW gxW (kyW x)=ä (iz x):=by
 show(match @Clo.dens symW gxW _ with|some f=>ä (Value.agg f.toArray)|none=>ö)=_;have : @Clo.dens symW gxW [.int .i64 x.id,.int .i64 x.fd,.int .i64 x.nn,.bl x.fl,.str (x.tx.data.toList.map UInt8.toNat),.int .i64 x.rf]=ä [.int .i64 x.id,.int .i64 x.fd,.int .i64 x.nn,.bool x.fl,.string x.tx,.int .i64 x.rf]:=by have:=adI x.tx;simp only[Clo.dens,Clo.den]at this⊢;rw[this]
 rw[this];rfl
def O1:∀{a b:List Nat},lsEq a b=ü↔a=b
 |[],[]=>by simp[lsEq]
 |[],_::_=>by simp[lsEq]
 |_::_,[]=>by simp[lsEq]
 |x::a,y::b=>by
  cases h:Nat.beq x y with
  |true =>have:=ν h;simp[lsEq,h,O1,this]
  |false=>
   have:¬x=y:=λe=>by rw[e,akT]at h;cases h
   simp[lsEq,h,this]
def aeU {x y:WK}(h:kyW x=kyW y):x=y:=by obtain⟨a1,a2,a3,a4,⟨j⟩,a6⟩:=x;obtain⟨b1,b2,b3,b4,⟨g⟩,b6⟩:=y;simp only[kyW,PV.agg.injEq,k_,CV.int.injEq,CV.bl.injEq,CV.str.injEq,true_and,P_]at h;obtain⟨rfl,rfl,rfl,rfl,f,rfl⟩:=h;have:j.toList=g.toList:=(List.map_inj_right λu v e=>UInt8.toNat_inj.1 e).1 f;rw[Array.toList_inj.1 this]
def aa3 (x y:WK):∃b,eqP ksW ü (kyW x) (kyW y)=ä b∧(b=ü↔x=y):=by
 have h:eqP ksW ü (kyW x) (kyW y)=ä (bif decide (x.id=y.id)then(bif decide (x.fd=y.fd)then(bif decide (x.nn=y.nn)then(bif (match x.fl with|true=>y.fl|false=>!y.fl)then(bif lsEq (x.tx.data.toList.map UInt8.toNat) (y.tx.data.toList.map UInt8.toNat)then(bif decide (x.rf=y.rf)then ü else ß)else ß)else ß)else ß)else ß)else ß):=rfl;refine⟨_,h,λe=>?_, ?_⟩
 ·rw[e]at h;exact aeU (Clo.eqP_true h)
 ·rintro rfl;have:=(O1 (a:=x.tx.data.toList.map UInt8.toNat)).2 rfl;rw[this];cases x.fl <;> simp
def Lu (ps:List (WK×Nat)):List ME:=ps.map λp=>⟨kyW p.1,.one (.bl ü),p.2⟩
def vsW (ps:List (WK×Nat)):List MapEntry:=ps.map λp=>⟨iz p.1,.bool ü,p.2⟩
def agP (ps:List (WK×Nat)) : @denEs symW gxW (Lu ps) (vsW ps):=by
 refine⟨by simp[Lu,vsW],λi e f=>?_⟩;unfold Lu at f;rw[F_]at f;cases h:ps[i]? with
 |none=>rw[h]at f;cases f
 |some p =>rw[h]at f;cases f;exact⟨⟨iz p.1,.bool ü,p.2⟩,by unfold vsW;rw[F_,h];rfl,kD _,rfl,rfl⟩
def Th (x:WK):∀(ps:List (WK×Nat)) (i:Nat),(∃j p,findE ksW ü (kyW x) (Lu ps) i=ä (ä (i+j,⟨kyW p.1,.one (.bl ü),p.2⟩))∧ps[j]? = ä p∧p.1=x)∨(findE ksW ü (kyW x) (Lu ps) i=ä ö∧∀p∈ps,p.1≠x)
 |[],i=>.inr ⟨rfl,λp h=>by cases h⟩
 |p::ps,i=>by
  obtain⟨b,P,f⟩:=aa3 x p.1;have J:findE ksW ü (kyW x) (Lu (p::ps)) i=match eqP ksW ü (kyW x) (kyW p.1)with
   |some ü=>ä (ä (i,⟨kyW p.1,.one (.bl ü),p.2⟩))
   |some ß=>findE ksW ü (kyW x) (Lu ps) (i+1)
   |none=>none:=rfl
  rw[J,P];cases b with
  |true=>exact .inl ⟨0,p,rfl,rfl,(f.1 rfl).symm⟩
  |false=>
   have l:¬x=p.1:=λe=>by have:=f.2 e;cases this
   rcases Th x ps (i+1)with⟨j,q,C,r,R⟩|⟨C,r⟩
   ·exact .inl ⟨j+1,q,by show findE _ _ _ _ _=_;rw[C,A_,U? 1 j],by simpa using r,R⟩
   ·exact .inr ⟨C,λq g=>by
     obtain rfl|g:=c_.1 g
     ·exact λe=>l e.symm
     ·exact r q g⟩
def I0:kOk prog 44 ksW true:=⟨Φ,Φ⟩
def Na:prog.underlying 117=ä (.map 44 4):=Φ
def UT (x:WK):Clo.keyOk ksW ü (kyW x)=true:=by obtain⟨b,f,_⟩:=aa3 x x;unfold Clo.keyOk;rw[f]
def BK (W:æ)(b:Nat)(l:List WK):Prop :=
 ∃ps clock,W.heap[b]? = ä (.map (vsW ps).toArray clock)∧(∀x,x∈ps.map (·.1)↔x∈l)∧(∀p∈ps,p.2<clock)∧(ps.map (·.2)).Nodup∧ps.length≤l.length
variable{W:æ}{b:Nat}{l:List WK}
def BK.kept {j :æ}{row:Option Nat}(h:BK W b l)(p:W.grownBy j row)(f:ä b≠row):BK j b l:=by obtain⟨ps,clock,g,r⟩:=h;exact⟨ps,clock,(p.block b (δ.1 g).1 f).trans g,r⟩
def BK.new (W:æ):BK (W.alloc (.map #[] 0)) W.heap.size []:=⟨[],0,World.alloc_heap_new _ _,λx=>Iff.rfl,λp h=>(by cases h),ajZ,ε _⟩
open Classical in
def inW (l:List WK)(x:WK):Bool:=decide (x∈l)
def OX {g:Type}{a:Array g}{j:Nat}{f:g→g}(h:∀e,a[j]? = ä e→f e=e):a.modify j f=a:=by
 apply Array.ext
 ·simp
 ·intro i p l;rw[Array.getElem_modify];split
  next e=>subst e;exact h _ (X_ l)
  ·rfl
def Bi (W:æ)(b:Nat)(o:Obj):W.grownBy { W with heap:=W.heap.setIfInBounds b o } (ä b) :=
 ⟨rfl,rfl,rfl,Ψ,λk _ f=>by
  rw[akw,ω (λe=>f (by rw[e]))]⟩
def WJ (h:BK W b l)(x:WK):∃W',(Instr.mapUpdate 117 (.map (ä b)) (iz x) (.bool ü)).run prog W = .ok () W'∧BK W' b (l++[x])∧W.grownBy W' (ä b):=by
 letI:=symW
 obtain⟨ps,clock,g,h2,h3,h4,h5⟩:=h;have C:=Clo.run_check (P:=prog) (w:=W) (φ:=gxW) I0 (kD x) (UT x) ß;have U:denEs gxW (Lu ps) (vsW ps).toArray.toList:=agP ps;have hlt:=(δ.1 g).1;rcases Th x ps 0 with⟨j,p,f1,f2,f3⟩|⟨f1,f2⟩
 ·obtain⟨o,T,r⟩:=Clo.find_key (w:=W) I0 (kD x) U f1;obtain⟨j',m,e1,rfl,e2,e3,e4⟩:=r;obtain⟨y1,y2,y3,y4,y5⟩:=Clo.found_key U (kD x) e2 e3 e4;have hm:(vsW ps).toArray.modify (0+j) (λe=>{ e with key:=iz x,val :=.bool ü })=(vsW ps).toArray:=OX λe J=>by
   rw[Z',Z_]at J;unfold vsW at J;rw[F_,f2]at J;cases J;show MapEntry.mk (iz x) (.bool ü) p.2=MapEntry.mk (iz p.1) (.bool ü) p.2;rw[f3]
  have hj:j'=j:=Ω
  subst hj;refine⟨{ W with heap:=W.heap.setIfInBounds b (.map (vsW ps).toArray clock) }, ?_,⟨ps,clock,(Go.MapKept.heap_set g).1,λy=>?_,h3,h4,by simp;omega⟩,Bi _ _ _⟩
  ·have R:((((vsW ps).toArray[0+j']?).map (·.key)).getD (iz x))=iz x:=by rw[Z'];exact y1
   conv=>rhs;rw[←hm]
   simp only[Instr.mapUpdate,π,η Na,χ,q_ g,C,T,R,Clo.bits_self y5 (kD x),U_ _ g]
  ·rw[h2,q',E'];refine⟨.inl,λh=>h.elim id ?_⟩;rintro rfl;rw[←h2,←f3];exact o? (x? f2)
 ·obtain⟨o,T,r⟩:=Clo.find_key (w:=W) I0 (kD x) U f1;have r:o=none:=r;subst r;refine⟨{ W with heap:=W.heap.setIfInBounds b (.map ((vsW ps).toArray.push ⟨iz x,.bool ü,clock⟩) (clock+1)) }, ?_,⟨ps++[(x,clock)],clock+1, ?_,λy=>?_,λp f=>?_, ?_,by simp;omega⟩,Bi _ _ _⟩
  ·simp[Instr.mapUpdate,π,η Na,q_ g,C,T,U_ _ g]
  ·rw[(Go.MapKept.heap_set g).1];simp[vsW]
  ·rw[T_,q',q',h2];rfl
  ·obtain f|f:=q'.1 f
   ·exact ale (h3 p f)
   ·rw[E'.1 f];exact akN _
  ·rw[T_,alg];refine⟨h4,Ψ,λa ha c C e=>?_⟩;obtain⟨p,f,rfl⟩:=a_.1 ha;have C:c=clock:=by simpa using C
   have:=h3 p f;omega
def EK (h:BK W b l)(x:WK):(Instr.lookup 117 (.map (ä b)) (iz x) ß).run prog W = .ok (.bool (inW l x)) W:=by
 letI:=symW
 obtain⟨ps,clock,h1,h2,h3,h4,h5⟩:=h;have hc:=Clo.run_check (P:=prog) (w:=W) (φ:=gxW) I0 (kD x) (UT x);have U:denEs gxW (Lu ps) (vsW ps).toArray.toList:=agP ps;have hz:(zeroValue 4).run prog W = .ok (.bool ß) W:=Φ
 unfold inW;rcases Th x ps 0 with⟨j,p,R,C,f3⟩|⟨R,C⟩
 ·obtain⟨o,J,g⟩:=Clo.find_key (w:=W) I0 (kD x) U R;obtain⟨T,m,e1,rfl,e2,r,e4⟩:=g;have hj:T=j:=Ω
  subst hj;have hv:m.val = .bool true:=by have r:(vsW ps)[T]? = ä m:=r;unfold vsW at r;rw[F_,C]at r;cases r;rfl
  have f:x∈l:=by rw[←h2,←f3];exact o? (x? C)
  simp[Instr.lookup,π,η Na,q_ h1,hc,J,hv,f]
 ·obtain⟨o,J,g⟩:=Clo.find_key (w:=W) I0 (kD x) U R;have g:o=none:=g;subst g;have f:¬x∈l:=λhx=>by
   obtain⟨p,hp,rfl⟩:=a_.1 ((h2 x).2 hx);exact C p hp rfl
  simp[Instr.lookup,π,η Na,q_ h1,hc,J,hz,f]
end Abs
namespace Abs
open Go Go.Proofs Go.RowKit Go.Maps Go.Shelf Tryz
variable{w:æ}
def Kg {g:Array ë}{rest:List ë}{o:ë}{a:Act}{Q:Exit→Act→æ→Prop}(T:o.guard=ö)(m x v:è)(j:o.op=Op.mapUpdate 117 m x v)(b:Nat){l:List WK}(R:a.eval m = .map (ä b))(J:BK w b l)(y:WK)(r:a.eval x=iz y)(C:a.eval v = .bool ü)
  (U:∀f,BK f b (l++[y])→w.grownBy f (ä b)→wpList prog g Q rest (a.put o.dst undef) f):wpList prog g Q (o::rest) a w :=
 akS T λ_ p=>by obtain⟨f,P,h1,h2⟩:=WJ J y;unfold Oper.wp ê;simp[j,R,r,C,P,Result.andThen];exact p _ _ (U f h1 h2)
def bp {W:æ}(f:w.grownBy W ö):Below w.heap.size w W:=(Below.refl _ w).grown f (ε _) λk e=>by cases e
def Bj {W f :æ}{r:Nat}(h:w.grownBy W ö)(j:W.grownBy f (ä r))(g:w.heap.size≤r):w.grownBy f none:=qb h j g
set_option maxRecDepth 100000 in
set_option maxHeartbeats 1600000 in
def Io (f:List WK)(hl:f.length≤1048576)(w:æ)(v:ø)(T:fP w w.heap.size v f.length (flW f)):Calls prog 79 #[v] w λe w'=>∃b,e = .returned (.map (ä b))∧w.heap.size≤b∧BK w' b f∧w.grownBy w' none:=by
 obtain⟨A,c,rfl,J⟩:=T;have T:fP w w.heap.size (.slice A f.length c) f.length (flW f):=⟨A,c,rfl,J⟩;clear J;have hmm:=@run_makeMap prog
 go_enter func79,ntmps79
 go_upto_region 2 with fail
 have hs0:=BK.new w;have p:=κ w (.map #[] 0) ö;generalize w.alloc (.map #[] 0)=W0 at hs0 p⊢;clear hmm
 go_wp2
 go_loopw [9] (λi wr=>∃k:Nat,k≤f.length∧i = .int .i64 k∧w.grownBy wr ö∧BK wr w.heap.size (f.take k)) (λi _=>f.length-(Go.RowKit.intOf i).toNat)
 case atStart=>exact⟨0,Y' _,rfl,p,by simpa using hs0⟩
 case round=>
  clear hs0 p;obtain⟨k,hk,rfl,R,r⟩:=hrel;by_cases l:k<f.length
  ·obtain⟨pb,po,rfl,hpb,C⟩:=yh T k l;obtain⟨x0,x1,x2,x3,x4,x5⟩:=C.keep (bp R) hpb
   go_upto_region 5 with fail
   have g:=κ wr (.cells #[.int .i64 f[k].id,.int .i64 f[k].fd,.int .i64 f[k].nn,.bool f[k].fl,.string f[k].tx,.int .i64 f[k].rf] 44) ö;have j:=World.alloc_heap_new wr (.cells #[.int .i64 f[k].id,.int .i64 f[k].fd,.int .i64 f[k].nn,.bool f[k].fl,.string f[k].tx,.int .i64 f[k].rf] 44);generalize wr.alloc (.cells #[.int .i64 f[k].id,.int .i64 f[k].fd,.int .i64 f[k].nn,.bool f[k].fl,.string f[k].tx,.int .i64 f[k].rf] 44)=X at g j⊢;have r:=r.kept g Ψ;have R:=R.trans g;clear x0 x1 x2 x3 x4 x5 C g;have r0:=(ac j 0 rfl).1;have r1:=(ac j 1 rfl).1;have r2:=(ac j 2 rfl).1;have r3:=(ac j 3 rfl).1;have r4:=(ac j 4 rfl).1;have r5:=(ac j 5 rfl).1
   go_upto_region 6 with(first
    |(at_mapUpdate;refine Kg rfl _ _ _ rfl w.heap.size rfl r f[k] rfl rfl ?_;intro w3 U hg3)
    |go_in)
   clear r0 r1 r2 r3 r4 r5 j r;have P:=Bj R hg3 (ε _)
   go_wp2
   go_roundw
   case rel=>exact⟨k+1,l,Ψ,P,by rw[N' l];exact U⟩
   case measure=>simp[Go.RowKit.intOf];omega
  ·obtain rfl:k=f.length:=Ω
   rw[x_]at r
   go_wp2
   go_ret
   exact⟨_,rfl,ε _,r,R⟩
end Abs
namespace Abs
open Go Go.Proofs Go.RowKit Go.Maps Go.Shelf Tryz
open Go.ChangeMaps (setBlock)
def rN (w:æ)(q:Nat):w.grownBy (w.drewN q) none:=⟨rfl,rfl,rfl,ε _,λ_ _ _=>rfl⟩
def uj (f g:List Int)(hx:f.length≤1048576)(hy:g.length≤1048576)(w:æ)(J C:ø){B:Nat}(ha:fP w B J f.length (intsI f))(hb:fP w B C g.length (intsI g)) :
  Calls prog 78 #[J,C] w λe p=>e = .returned (.bool (decide (f=g)))∧w.grownBy p none:=by
 obtain⟨A1,c1,rfl,k1,h1⟩:=ha;obtain⟨U,c2,rfl,k2,h2⟩:=hb;by_cases r:f.length=g.length
 ·by_cases T:f.length=0
  ·obtain rfl:=Q' T;obtain rfl:=Q' (r.symm.trans T);refine(Any.slices_Equal_int_empty equI A1 U c1 0 c2 w Ω).mono ?_;rintro e p ⟨rfl,rfl⟩;exact⟨rfl,rN _ 0⟩
  ·obtain⟨b1,R,rfl,_,g1⟩:=h1 Ω;obtain⟨b2,P,rfl,_,g2⟩:=h2 Ω;have cell:∀(l:List Int) (b o:Nat),(∀j v,(intsI l)[j]? = ä v→w.cell? ⟨b,o+j,ö⟩=ä v)→∀j,j<l.length→w.cell? ⟨b,o+j,ö⟩=ä (.int .i64 (l.getD j 0)):=λl b o h j hj=>by
    refine h j _ ?_;simp[intsI,hj]
   refine(Any.slices_Equal_int equI b1 R f.length c1 b2 P g.length c2 f g w (ε _) (ε _) Ω Ω (cell f b1 R g1) (cell g b2 P g2)).mono ?_;rintro e p ⟨rfl,q,rfl⟩;refine⟨?_,rN _ q⟩;rw[x_,x_];by_cases e:f=g
   ·subst e;simp
   ·simp[e]
 ·refine(Any.slices_Equal_int_lens equI A1 U f.length c1 g.length c2 w r).mono ?_;rintro e p ⟨rfl,rfl⟩;refine⟨?_,rN _ 0⟩;rw[I? λe=>r (by rw[e])]
section
variable {P:å}{w:æ}{ops:Array ë}{rest:List ë}{o:ë}{a:Act}{Q:Exit→Act→æ→Prop}
def AA (J:o.guard=ö)(m:è)(t:é)(g:o.op=Op.range t m)(k e:é)(r:P.underlying t=ä (.map k e))(b:Nat)(p:Array MapEntry)(clock:Nat)(C:a.eval m = .map (ä b))(R:w.heap[b]? = ä (.map p clock))
  (T:∀l,l=w.alloc (.mapIter (ä b) clock #[] clock)→wpList P ops Q rest (a.put o.dst (.pointer (ä ⟨w.heap.size,0,ö⟩))) l):wpList P ops Q (o::rest) a w :=
 akS J λU j=>by have f:=run_range_map w t k e b p clock r R;unfold Oper.wp;simp[ê,g,C,f,Result.andThen];exact j _ _ (T _ rfl)
def CP (hg:o.guard=ö)(it:è)(l:o.op=Op.next it ß)(b r:Nat)(j:Array MapEntry)(clock:Nat)(R:List Nat)(p:∀x∈j.toList,x.born<clock)(hnd:(j.toList.map (·.born)).Nodup)
  (hit:a.eval it = .pointer (ä ⟨r,0,ö⟩)) (h:RawIt w b r j clock R)
  (J:(∀i,i<j.size→i∈R)→wpList P ops Q rest (a.put o.dst (.tuple #[.bool ß])) w)
  (C:∀i g,i<j.size→i ∉ R→RawIt g b r j clock (R++[i])→w.grownBy g (ä r)→g.heap.size=w.heap.size→(Instr.entry (.pointer (ä ⟨r,0,ö⟩))).run P g = .ok (.tuple #[(entA j i).key,(entA j i).val]) g →
   wpList P ops Q rest (a.put o.dst (.tuple #[.bool ü,(entA j i).key,(entA j i).val])) g):wpList P ops Q (o::rest) a w:=by
 refine akS hg λK' U=>?_;have f:=nk (F:=Fence.wide) (n:=0) (P:=P) (ops:=ops) (rest:=[]) (o:=o) (a:=a) (Q:=λe a' g=>match e with|.normal=>K' a' g|_=>False) hg it l b r j clock R p hnd hit h (λhd=>U _ _ (J hd)) (λi g h1 h2 h3 h4 h5 h6=>U _ _ (C i g h1 h2 h3 h4 h5 h6));simp only[wpListIn,Region.wanted,hg,i?]at f;have f:=f.2;rw[Oper.semAt_plain Fence.wide _ _ (by rw[l];intro c e;cases e)]at f;unfold Oper.wp;cases T:(ê a.eval o).run P w with
 |ok x g =>rw[T]at f;unfold ê at T;simp only[l]at T;obtain⟨v,rfl⟩:=re _ _ _ _ _ T;exact f
 |halt x g =>rw[T]at f;cases x <;> exact f.elim
end
end Abs
namespace Abs
open Go Go.Proofs Go.RowKit Go.Maps Go.Shelf Tryz
def iQ (p:PF)(c:CF):Bool:=decide (p.c.ps=c.ps)&&(decide (p.c.qs=c.qs)&&((p.c.nt.toList == c.nt.toList)&&(p.c.wl.all (inW c.wl)&&decide (c.wl.countP (λx=>!inW p.c.wl x)=p.left))))
def mQ (w:æ)(B:Nat)(c:CF)(pv g f:ø):Prop:=fP w B pv c.ps.length (intsI c.ps)∧fP w B g c.qs.length (intsI c.qs)∧fP w B f c.wl.length (flW c.wl)
def YW (c:CF):Prop:=c.ps.length≤1048576∧c.qs.length≤1048576∧c.wl.length≤1048576
def mQ.keep {w w':æ}{B:Nat}{c:CF}{pv j g:ø}(h:mQ w B c pv j g)(f:Below B w w'):mQ w' B c pv j g:=⟨h.1.keep f,h.2.1.keep f,h.2.2.keep f⟩
def mQ.mono {w:æ}{B l:Nat}{c:CF}{pv j g:ø}(h:mQ w B c pv j g)(f:B≤l):mQ w l c pv j g:=⟨h.1.mono f,h.2.1.mono f,h.2.2.mono f⟩
def Qj {l:List WK}{f:WK→Bool}{m:Nat}(h:m<l.length):(l.take (m+1)).countP f=(l.take m).countP f+(if f l[m]then 1 else 0):=by rw[N' h,ak9];simp[als]
def ac8 (a b:Nat):((a:Int) == (b:Int))=decide (a=b):=by rw[alB,M_,T?];omega
set_option maxRecDepth 100000 in
set_option maxHeartbeats 3200000 in
def Qk (p:PF)(c:CF)(hlp:YW p.c)(hlc:YW c)(w:æ)(pv qv wv pv' qv' wv':ø)(hp:mQ w w.heap.size p.c pv qv wv)(hc:mQ w w.heap.size c pv' qv' wv') :
  Calls prog 44 #[.agg #[.int .i64 p.c.st,pv,qv,.string p.c.nt,wv,.int .i64 p.left],.agg #[.int .i64 c.st,pv',qv',.string c.nt,wv']] w λe w'=>e = .returned (.bool (iQ p c))∧w.grownBy w' none:=by
 obtain⟨⟨A1,c1,rfl,x1⟩,⟨A2,c2,rfl,x2⟩,⟨A3,c3,rfl,x3⟩⟩:=id hp;obtain⟨⟨A4,c4,rfl,x4⟩,⟨A5,c5,rfl,x5⟩,⟨A6,c6,rfl,x6⟩⟩:=id hc;clear x1 x2 x3 x4 x5 x6
 go_enter func44,ntmps44
 go_upto_region 1 with fail
 have hA:=(Below.heap_alloc (w.alloc (.cells #[.int .i64 p.c.st,.slice A1 p.c.ps.length c1,.slice A2 p.c.qs.length c2,.string p.c.nt,.slice A3 p.c.wl.length c3,.int .i64 p.left] 54)) (.cells #[.int .i64 c.st,.slice A4 c.ps.length c4,.slice A5 c.qs.length c5,.string c.nt,.slice A6 c.wl.length c6] 38) w.heap.size Ψ).trans (World.alloc_heap_new w (.cells #[.int .i64 p.c.st,.slice A1 p.c.ps.length c1,.slice A2 p.c.qs.length c2,.string p.c.nt,.slice A3 p.c.wl.length c3,.int .i64 p.left] 54));have hB:=World.alloc_heap_new (w.alloc (.cells #[.int .i64 p.c.st,.slice A1 p.c.ps.length c1,.slice A2 p.c.qs.length c2,.string p.c.nt,.slice A3 p.c.wl.length c3,.int .i64 p.left] 54)) (.cells #[.int .i64 c.st,.slice A4 c.ps.length c4,.slice A5 c.qs.length c5,.string c.nt,.slice A6 c.wl.length c6] 38);rw[X']at hB;have hg:w.grownBy ((w.alloc (.cells #[.int .i64 p.c.st,.slice A1 p.c.ps.length c1,.slice A2 p.c.qs.length c2,.string p.c.nt,.slice A3 p.c.wl.length c3,.int .i64 p.left] 54)).alloc (.cells #[.int .i64 c.st,.slice A4 c.ps.length c4,.slice A5 c.qs.length c5,.string c.nt,.slice A6 c.wl.length c6] 38)) none:=(κ w _ ö).trans (κ _ _ ö);have hs:((w.alloc (.cells #[.int .i64 p.c.st,.slice A1 p.c.ps.length c1,.slice A2 p.c.qs.length c2,.string p.c.nt,.slice A3 p.c.wl.length c3,.int .i64 p.left] 54)).alloc (.cells #[.int .i64 c.st,.slice A4 c.ps.length c4,.slice A5 c.qs.length c5,.string c.nt,.slice A6 c.wl.length c6] 38)).heap.size=w.heap.size+2:=by simp
 generalize (w.alloc (.cells #[.int .i64 p.c.st,.slice A1 p.c.ps.length c1,.slice A2 p.c.qs.length c2,.string p.c.nt,.slice A3 p.c.wl.length c3,.int .i64 p.left] 54)).alloc (.cells #[.int .i64 c.st,.slice A4 c.ps.length c4,.slice A5 c.qs.length c5,.string c.nt,.slice A6 c.wl.length c6] 38)=W at hA hB hg hs⊢;have T:=uj p.c.ps c.ps hlp.1 hlc.1 W _ _ (hp.1.keep (bp hg)) (hc.1.keep (bp hg));have a1:=(ac hA 1 rfl).1;have a2:=(ac hB 1 rfl).1;by_cases e1:p.c.ps=c.ps;case neg=>
  rw[I? e1]at T
  go_wp2_with (first
   |(go_at_call 78;refine T.mono ?_;rintro e W1 ⟨rfl,g⟩)
   |go_in)
  go_ret
  exact⟨by simp[iQ,e1],hg.trans g⟩
 rw[Q_ e1]at T;have e1A:Aside (p.c.ps=c.ps):=e1;clear e1;by_cases e2:p.c.qs=c.qs;case neg=>
  go_wp2_with (first
   |(go_at_call 78;refine T.mono ?_;clear T;rintro e W1 ⟨rfl,g⟩
     have C:=uj p.c.qs c.qs hlp.2.1 hlc.2.1 W1 _ _ (hp.2.1.keep (bp (hg.trans g))) (hc.2.1.keep (bp (hg.trans g)));rw[I? e2]at C;have b1:=(ac ((g.block _ Ω Ψ).trans hA) 2 rfl).1;have b2:=(ac ((g.block _ Ω Ψ).trans hB) 2 rfl).1)
   |(go_at_call 78;refine C.mono ?_;rintro e W2 ⟨rfl,r⟩)
   |go_in)
  go_ret
  exact⟨by simp[iQ,e2],(hg.trans g).trans r⟩
 have C:=λ(W1:æ) (g:W.grownBy W1 ö)=>uj p.c.qs c.qs hlp.2.1 hlc.2.1 W1 _ _ (hp.2.1.keep (bp (hg.trans g))) (hc.2.1.keep (bp (hg.trans g)));rw[Q_ e2]at C;have e2A:Aside (p.c.qs=c.qs):=e2;clear e2;cases e3:p.c.nt.toList == c.nt.toList;case false=>
  go_wp2_with (first
   |(go_at_call 78;refine T.mono ?_;clear T;rintro e W1 ⟨rfl,g⟩
     have C:=C W1 g;have b1:=(ac ((g.block _ Ω Ψ).trans hA) 2 rfl).1;have b2:=(ac ((g.block _ Ω Ψ).trans hB) 2 rfl).1)
   |(go_at_call 78;refine C.mono ?_;clear C;rintro e W2 ⟨rfl,r⟩
     have d1:=(ac ((r.block _ (by have:=g.size;omega) Ψ).trans ((g.block _ Ω Ψ).trans hA)) 3 rfl).1;have d2:=(ac ((r.block _ (by have:=g.size;omega) Ψ).trans ((g.block _ Ω Ψ).trans hB)) 3 rfl).1)
   |go_in)
  go_ret
  exact⟨by simp[iQ,e3],(hg.trans g).trans r⟩
 go_upto_region 3 with(first
  |(go_at_call 78;refine T.mono ?_;clear T;rintro e W1 ⟨rfl,g⟩
    have C:=C W1 g;have b1:=(ac ((g.block _ Ω Ψ).trans hA) 2 rfl).1;have b2:=(ac ((g.block _ Ω Ψ).trans hB) 2 rfl).1)
  |(go_at_call 78;refine C.mono ?_;clear C;rintro e W2 ⟨rfl,r⟩
    have d1:=(ac ((r.block _ (by have:=g.size;omega) Ψ).trans ((g.block _ Ω Ψ).trans hA)) 3 rfl).1;have d2:=(ac ((r.block _ (by have:=g.size;omega) Ψ).trans ((g.block _ Ω Ψ).trans hB)) 3 rfl).1)
  |go_in)
 have hA2:=(r.block _ (by have:=g.size;omega) Ψ).trans ((g.block _ Ω Ψ).trans hA);have hB2:=(r.block _ (by have:=g.size;omega) Ψ).trans ((g.block _ Ω Ψ).trans hB);have P:=(hg.trans g).trans r;have hs2:w.heap.size+2≤W2.heap.size:=by have:=g.size;have:=r.size;omega
 have hq:∀X,W2.grownBy X ö→fP X X.heap.size (.slice A3 p.c.wl.length c3) p.c.wl.length (flW p.c.wl):=λX h=>(hp.2.2.keep (bp (P.trans h))).mono (P.trans h).size;have hq':∀X,W2.grownBy X ö→fP X X.heap.size (.slice A6 c.wl.length c6) c.wl.length (flW c.wl):=λX h=>(hc.2.2.keep (bp (P.trans h))).mono (P.trans h).size;have f1:=(ac hA2 4 rfl).1;have f2:=(ac hB2 4 rfl).1;have hdr:W2.grownBy W2.drew none:=⟨rfl,rfl,rfl,ε _,λ_ _ _=>rfl⟩;clear a1 a2 b1 b2 d1 d2 hA hB hg g r hs
 go_region_held3 (λX=>X.cell? ⟨w.heap.size,4,ö⟩=ä (.slice A3 p.c.wl.length c3)∧X.cell? ⟨w.heap.size+1,4,ö⟩=ä (.slice A6 c.wl.length c6)) (go_keep)
  (first
   |(go_at_call_of 79 (Value.slice A3 p.c.wl.length c3);refine(Io p.c.wl hlp.2.2 _ _ (hq _ hdr)).mono ?_;rintro e W3 ⟨s6,rfl,hb6,hs6,R⟩
     have g1:=(ac ((R.block _ (by show w.heap.size<W2.heap.size;omega) Ψ).trans hA2) 4 rfl).1;have g2:=(ac ((R.block _ (by show w.heap.size+1<W2.heap.size;omega) Ψ).trans hB2) 4 rfl).1)
   |(go_at_call_of 79 (Value.slice A6 c.wl.length c6);refine(Io c.wl hlc.2.2 _ _ (hq' _ (hdr.trans R))).mono ?_;rintro e W4 ⟨s7,rfl,hb7,hs7,hg4⟩
     have k1:=(ac ((hg4.block _ (by have:=R.size;have:=hdr.size;omega) Ψ).trans ((R.block _ (by show w.heap.size<W2.heap.size;omega) Ψ).trans hA2)) 4 rfl).1;have k2:=(ac ((hg4.block _ (by have:=R.size;have:=hdr.size;omega) Ψ).trans ((R.block _ (by show w.heap.size+1<W2.heap.size;omega) Ψ).trans hB2)) 4 rfl).1))
 have J:=hdr.trans (R.trans hg4);have hA4:=(J.block _ Ω Ψ).trans hA2;have hB4:=(J.block _ Ω Ψ).trans hB2;have hg04:=P.trans J;have hs6:=hs6.kept hg4 Ψ;have hq4':=hq' W4 J;have hs4:w.heap.size+2≤W4.heap.size:=ξ hs2 J.size;clear hq hq' f1 f2 g1 g2 k1 k2 hb6 hb7 hdr R hg4 hA2 hB2 P hs2 J;obtain⟨l,clock,m1,m2,m3,m4,m5⟩:=id hs6;have hborn:∀x∈(vsW l).toArray.toList,x.born<clock:=λx hx=>by unfold vsW at hx;obtain⟨y,hy,rfl⟩:=a_.1 hx;exact m3 y hy
 have hnd:((vsW l).toArray.toList.map (·.born)).Nodup:=by unfold vsW;simpa[V_,Function.comp_def]using m4
 have hent:∀i,i<(vsW l).toArray.size→∃h:i<l.length,(entA (vsW l).toArray i).key=iz l[i].1∧(entA (vsW l).toArray i).val = .bool true:=λi hi=>by
  have hl:i<l.length:=by simpa[vsW]using hi
  refine⟨hl, ?_⟩;have:=entA_at hi;unfold vsW at this⊢;simp[hl]at this;rw[←this];exact⟨rfl,rfl⟩
 go_wp2_with (first
  |(at_range;refine AA rfl _ 117 rfl 44 4 Na s6 (vsW l).toArray clock rfl m1 ?_;intro W5 hW5
    have hg45:W4.grownBy W5 none:=by rw[hW5];exact κ _ _ _
    have hr0:RawIt W5 s6 W4.heap.size (vsW l).toArray clock []:=by rw[hW5];exact⟨(Below.heap_alloc _ _ s6 (δ.1 m1).1).trans m1,World.alloc_heap_new _ _,ajZ,λ_ h=>by cases h⟩
    clear hW5)
  |go_in)
 go_loopw [4] (λ_ wr=>∃is:List Nat,RawIt wr s6 W4.heap.size (vsW l).toArray clock is∧(∀i∈is,∀h:i<l.length,l[i].1∈c.wl)∧W4.grownBy wr ö) (λ_ wr=>(vsW l).toArray.size-C5 wr W4.heap.size)
 case atStart=>exact⟨[],hr0,λi h=>(by cases h),hg45⟩
 case round=>
  clear hr0 hg45;obtain⟨is,hr,hin,hg5⟩:=hrel
  go_wp2_with (first
   |(at_next;refine CP rfl _ rfl s6 W4.heap.size (vsW l).toArray clock is hborn hnd rfl hr ?_ ?_)
   |go_in)
  ·intro hall;have hallB:p.c.wl.all (inW c.wl)=true:=by
    rw[P'];intro x hx;obtain⟨y,hy,rfl⟩:=a_.1 ((m2 x).2 hx);obtain⟨i,hi⟩:=f? hy;have hl:=(f_.1 hi).1;have:=hin i (hall i (by simpa[vsW]using hl)) hl;rw[ζ hl]at hi;cases hi;unfold inW;simpa using this
   have hA5:=(hg5.block _ Ω Ψ).trans hA4;have hB5:=(hg5.block _ Ω Ψ).trans hB4;have f1:=(ac hB5 4 rfl).1;have hs65:=hs6.kept hg5 Ψ;have hg05:=hg04.trans hg5;have hlc3:=hlc.2.2;clear hin hall hr hent hnd hborn m1 m2 m3 m4 m5 hs7 hs6 hA4 hB4
   go_wp2
   clear f1;generalize wr=V at *
   go_loopw [55,8] (λi n wx=>∃k:Nat,k≤c.wl.length∧i = .int .i64 k∧n = .int .i64 ((c.wl.take k).countP (λx=>!inW p.c.wl x):Nat)∧V.grownBy wx ö) (λi _ _=>c.wl.length-(Go.RowKit.intOf i).toNat)
   case atStart=>exact⟨0,Y' _,rfl,Ψ,rN V 0⟩
   case round=>
    obtain⟨k,hk,rfl,rfl,hgx⟩:=hrel;by_cases hlt:k<c.wl.length
    ·obtain⟨pb,po,rfl,hpb,hwr⟩:=yh hq4' k hlt;obtain⟨x0,x1,x2,x3,x4,x5⟩:=hwr.keep (bp (hg5.trans hgx)) hpb;have hcn:(c.wl.take k).countP (λx=>!inW p.c.wl x)≤k:=ξ akW (by rw[g_];omega);have hct:=Qj (f:=λx=>!inW p.c.wl x) hlt;generalize (c.wl.take k).countP (λx=>!inW p.c.wl x)=cn at hcn hct⊢;have hgX:=hgx.trans (κ wr (.cells #[.int .i64 c.wl[k].id,.int .i64 c.wl[k].fd,.int .i64 c.wl[k].nn,.bool c.wl[k].fl,.string c.wl[k].tx,.int .i64 c.wl[k].rf] 44) ö);have U:=EK (hs65.kept hgX Ψ) c.wl[k];unfold iz at U;cases hb:inW p.c.wl c.wl[k]with
     |false=>
      rw[hb]at U;rw[hb]at hct
      go_wp2
      go_roundw
      case rel=>exact⟨k+1,hlt,Ψ,by rw[hct];simp,hgX⟩
      case measure=>simp[Go.RowKit.intOf];omega
     |true=>
      rw[hb]at U;rw[hb]at hct
      go_wp2
      go_roundw
      case rel=>exact⟨k+1,hlt,Ψ,by rw[hct];simp,hgX⟩
      case measure=>simp[Go.RowKit.intOf];omega
    ·obtain rfl:k=c.wl.length:=Ω
     rw[x_];have f5:=(ac ((hgx.block _ (by have:=hg5.size;omega) Ψ).trans hA5) 5 rfl).1;have hcn:c.wl.countP (λx=>!inW p.c.wl x)≤c.wl.length:=akW;have hX:iQ p c=decide (c.wl.countP (λx=>!inW p.c.wl x)=p.left):=by simp[iQ,e1A.out,e2A.out,e3,hallB]
     go_wp2
     go_ret
     exact⟨by rw[hX];simp;exact ac8 _ _,hg05.trans hgx⟩
  ·intro i w6 hi hni hr6 hg6 hsz6 hen;obtain⟨hil,hk,hv⟩:=hent i hi;rw[hk,hv]at hen⊢;have hg46:=Bj hg5 hg6 (ε _);have hgX:=hg46.trans (κ w6 (.cells #[.int .i64 l[i].1.id,.int .i64 l[i].1.fd,.int .i64 l[i].1.nn,.bool l[i].1.fl,.string l[i].1.tx,.int .i64 l[i].1.rf] 44) ö);have U:=EK (hs7.kept hgX Ψ) l[i].1;have hrX:=hr6.alloc (.cells #[.int .i64 l[i].1.id,.int .i64 l[i].1.fd,.int .i64 l[i].1.nn,.bool l[i].1.fl,.string l[i].1.tx,.int .i64 l[i].1.rf] 44);unfold iz at hen U⊢;clear hr6 hg6 hsz6 hk hv;cases hb:inW c.wl l[i].1 with
   |false=>
    rw[hb]at U
    go_wp2
    go_ret
    refine⟨?_,hg04.trans hgX⟩;have:p.c.wl.all (inW c.wl)=false:=by rw[alh];exact⟨l[i].1,(m2 _).1 (o? (j_ hil)),by rw[hb];simp⟩
    simp[iQ,this]
   |true=>
    rw[hb]at U
    go_wp2
    go_roundw
    case rel=>exact⟨_,hrX,λj hj h=>by
     obtain hj|hj:=q'.1 hj
     ·exact hin j hj h
     ·obtain rfl:=E'.1 hj;unfold inW at hb;simpa using hb,hgX⟩
    case measure =>have:=II hrX.nd hrX.lt;rw[hrX.len,hr.len,J'];rw[J']at this;simp at this⊢;omega
end Abs
namespace Abs
open Go Go.Proofs Go.RowKit Go.Maps Go.Shelf Tryz
open Go.Proofs.YtfgpipfjalmooaaGreat.Clo (SymVal)
def vsC (ps:List ((Int×ø)×Nat)):List MapEntry:=ps.map λp=>⟨.int .i64 p.1.1,p.1.2,p.2⟩
def fsC (ps:List ((Int×ø)×Nat))(k:Int):Option Value:=(ps.find? λp=>p.1.1 == k).map (·.1.2)
def jE (f:List CF)(k:Int):Option CF:=f.find? λc=>c.st == k
def Zi:prog.underlying 82=ä (.map 3 38):=Φ
def aja:Clo.kOk prog 3 [.i .i64] false:=⟨Φ,Φ⟩
def agt:prog.underlying 3=ä (.int .i64):=Φ
def aeW (k:Int):Clo.keyOk [.i .i64] ß (.one (.int .i64 k))=true:=by have:Clo.eqP [.i .i64] ß (.one (.int .i64 k)) (.one (.int .i64 k))=ä (bif decide (k=k)then ü else ß):=rfl;unfold Clo.keyOk;rw[this]
def agE (k:Int):∀(ps:List ((Int×ø)×Nat)) (i:Nat),match fsC ps k with
  |some v=>∃j,Instr.findNow (.int .i64) (.int .i64 k) (vsC ps) i=ä (ä (j,v))
  |none=>Instr.findNow (.int .i64) (.int .i64 k) (vsC ps) i=ä ö
 |[],i=>rfl
 |p::ps,i=>by
  have f:=agE k ps (i+1);have g:Instr.findNow (.int .i64) (.int .i64 k) (vsC (p::ps)) i=match (ä (k == p.1.1):Option Bool)with
   |some ü=>ä (ä (i,p.1.2))
   |some ß=>Instr.findNow (.int .i64) (.int .i64 k) (vsC ps) (i+1)
   |none=>none:=by
   unfold vsC;simp[Instr.findNow,Instr.sameNow];cases k == p.1.1 <;> rfl
  have l:fsC (p::ps) k=if p.1.1 == k then ä p.1.2 else fsC ps k:=by unfold fsC;rw[List.find?_cons];cases p.1.1 == k <;> rfl
  rw[g,l];by_cases e:p.1.1=k
  ·subst e;simp
  ·have r:¬k=p.1.1:=λh=>e h.symm;simp only[S'.2 e,S'.2 r];exact f
def td (w:æ)(k:Int)(em:Bool):(Instr.checkKey em 10000 3 (.int .i64 k)).run prog w = .ok () w:=by
 letI:=symW
 exact Clo.run_check (P:=prog) (w:=w) (φ:=gxW) aja (p :=.one (.int .i64 k)) rfl (aeW k) em
def EL (w:æ)(k:Int)(ps:List ((Int×ø)×Nat)):match fsC ps k with
  |some v=>∃j,(Instr.findKey 3 (.int .i64 k) (vsC ps)).run prog w = .ok (ä (j,v)) w
  |none=>(Instr.findKey 3 (.int .i64 k) (vsC ps)).run prog w = .ok ö w:=by
 have h:=agE k ps 0;cases e:fsC ps k with
 |some v =>rw[e]at h;obtain⟨j,h⟩:=h;exact⟨j,by simp[Instr.findKey,η agt,h]⟩
 |none =>rw[e]at h;have h:Instr.findNow _ _ _ _=_:=h;show Sem.run _ _ _=_;simp[Instr.findKey,η agt,h]
def wD (w:æ)(B:Nat)(W:æ)(b:Nat)(j:List CF):Prop :=
 ∃ps clock,W.heap[b]? = ä (.map (vsC ps).toArray clock)∧∀k,match jE j k with
  |some c=>∃pv g f,mQ w B c pv g f∧fsC ps k=ä (.agg #[.int .i64 c.st,pv,g,.string c.nt,f])
  |none=>fsC ps k=ö
variable{w W:æ}{B b:Nat}{cs:List CF}
def wD.kept {j :æ}(h:wD w B W b cs){row:Option Nat}(l:W.grownBy j row)(f:ä b≠row):wD w B j b cs:=by obtain⟨ps,clock,g,p⟩:=h;exact⟨ps,clock,(l.block b (δ.1 g).1 f).trans g,p⟩
def wD.new (w W:æ)(B:Nat):wD w B (W.alloc (.map #[] 0)) W.heap.size []:=⟨[],0,World.alloc_heap_new _ _,λ_=>rfl⟩
def Jp (cs:List CF)(c:CF)(k:Int):jE (cs++[c]) k=match jE cs k with
  |some d=>ä d
  |none=>if c.st == k then ä c else none:=by
 unfold jE;rw[List.find?_append];cases cs.find? λc=>c.st == k with
 |some d=>rfl
 |none =>rw[List.find?_singleton];rfl
def wD.skip (h:wD w B W b cs){c d:CF}(g:jE cs c.st=ä d):wD w B W b (cs++[c]):=by
 obtain⟨ps,clock,l,j⟩:=h;refine⟨ps,clock,l,λk=>?_⟩;have:=j k;rw[Jp];cases e:jE cs k with
 |some x =>rw[e]at this;exact this
 |none=>
  rw[e]at this;have f:(c.st == k)=false:=by apply S'.2;rintro rfl;rw[g]at e;cases e
  simp only[f];exact this
def aaY (h:wD w B W b cs)(k:Int) :
  (∃c pv p l,jE cs k=ä c∧mQ w B c pv p l∧(Instr.lookup 82 (.map (ä b)) (.int .i64 k) ü).run prog W = .ok (.tuple #[.agg #[.int .i64 c.st,pv,p,.string c.nt,l],.bool ü]) W) ∨
  (jE cs k=ö∧(Instr.lookup 82 (.map (ä b)) (.int .i64 k) ü).run prog W = .ok (.tuple #[.agg #[.int .i64 0,.slice ö 0 0,.slice ö 0 0,.string { data :=#[] },.slice ö 0 0],.bool ß]) W):=by
 obtain⟨ps,clock,r,g⟩:=h;have g:=g k;have f:=EL W k ps;have C:(zeroValue 38).run prog W = .ok (.agg #[.int .i64 0,.slice ö 0 0,.slice ö 0 0,.string { data :=#[] },.slice ö 0 0]) W:=Φ
 cases e:jE cs k with
 |some c =>rw[e]at g;obtain⟨pv,p,l,P,J⟩:=g;rw[J]at f;obtain⟨j,f⟩:=f;refine .inl ⟨c,pv,p,l,rfl,P, ?_⟩;simp[Instr.lookup,π,η Zi,q_ r,td,f]
 |none =>rw[e]at g;have g:fsC ps k=none:=g;rw[g]at f;have f:Sem.run _ _ _=_:=f;refine .inr ⟨rfl, ?_⟩;simp[Instr.lookup,π,η Zi,q_ r,td,f,C]
def ai0 (h:wD w B W b cs){c:CF}(hc:jE cs c.st=ö){pv qv f:ø}(hr:mQ w B c pv qv f) :
  ∃C,(Instr.mapUpdate 82 (.map (ä b)) (.int .i64 c.st) (.agg #[.int .i64 c.st,pv,qv,.string c.nt,f])).run prog W = .ok () C∧wD w B C b (cs++[c])∧W.grownBy C (ä b):=by
 obtain⟨ps,clock,r,J⟩:=h;have j:=EL W c.st ps;have l:=J c.st;rw[hc]at l;have l:fsC ps c.st=none:=l;rw[l]at j;have j:Sem.run _ _ _=_:=j;refine⟨{ W with heap:=W.heap.setIfInBounds b (.map ((vsC ps).toArray.push ⟨.int .i64 c.st,.agg #[.int .i64 c.st,pv,qv,.string c.nt,f],clock⟩) (clock+1)) }, ?_,⟨ps++[((c.st,.agg #[.int .i64 c.st,pv,qv,.string c.nt,f]),clock)],clock+1, ?_,λk=>?_⟩,Bi _ _ _⟩
 ·simp[Instr.mapUpdate,π,η Zi,q_ r,td,j,U_ _ r]
 ·rw[(Go.MapKept.heap_set r).1];simp[vsC]
 ·have g:=J k;have ha:fsC (ps++[((c.st,.agg #[.int .i64 c.st,pv,qv,.string c.nt,f]),clock)]) k=match fsC ps k with
   |some v=>ä v
   |none=>if c.st == k then ä (.agg #[.int .i64 c.st,pv,qv,.string c.nt,f])else none:=by
   unfold fsC;rw[List.find?_append];cases ps.find? λp=>p.1.1 == k with
   |some d=>rfl
   |none =>rw[List.find?_singleton];cases c.st == k <;> rfl
  rw[Jp,ha];cases e:jE cs k with
  |some d =>rw[e]at g;obtain⟨p1,U,T,R,P⟩:=g;rw[P];exact⟨p1,U,T,R,rfl⟩
  |none=>
   rw[e]at g;have g:fsC ps k=none:=g;rw[g];cases c.st == k with
   |true=>exact⟨pv,qv,f,hr,rfl⟩
   |false=>rfl
end Abs
namespace Abs
open Go Go.Proofs Go.RowKit Go.Maps Go.Shelf Tryz
section
variable {P:å}{ops:Array ë}{Q:Exit→Act→æ→Prop}{R:Region.Mode}{S:æ→Prop}
def IY (R:Region.Mode)(ops:Array ë)(f:List Nat)(j:Nat):Bool:=f.all λi=>match ops[j]? with
 |some o=>o.after.any λe=>Region.binds R e&&e.on == i
 |none=>ß
def ow (P:å)(R:Region.Mode)(ops:Array ë)(Q:Exit→Act→æ→Prop)(S:æ→Prop)(g:List Nat):Nat→Array Bool→Act→æ→Prop
 |0,C,a,w=>Region.ready R ops C=[]∧Q .normal a w
 |fuel+1,C,a,w=>
  (Region.ready R ops C=[]→Q .normal a w) ∧
  ∀i∈Region.ready R ops C,wpOp P ops Q i (λj f=>(IY R ops g i=ß→S f)∧ow P R ops Q S g fuel (C.setIfInBounds i ü) j f) a w
def wF {is:List Nat}:∀(f:Nat) (C:Array Bool) (a:Act) (w:æ),ow P R ops Q S is f C a w→wpAny P R ops Q f C a w
 |0,_,_,_,h=>h
 |f+1,_,_,_,h=>⟨h.1,λi j=>wpOp_mono (λp g l=>wF f _ p g l.2) (h.2 i j)⟩
variable{is:List Nat}{i:Nat}{C:Array Bool}{a:Act}{w:æ}
def Ki (his:i∈is){oi:ë}{v:ø}(hi:ops[i]? = ä oi)(T:∀(j:Nat) (o:ë) cs b,ops[j]? = ä o→o.op ≠ .select cs b)
  (hQ:∀c a w,Q (.panic c) (a.put oi.dst v) w→Q (.panic c) a w) :
  ∀(g:Nat) (C:Array Bool) (a:Act) (w:æ),
   (∀j oj,ops[j]? = ä oj→j≠i→C.getD j ü=ß→(∀e∈oj.after,Region.binds R e=ü→e.on≠i)→oi.apart ops oj=ü) →
   i∈Region.ready R ops C→YieldsIf P ops S oi v a→S w →
   ow P R ops Q S is g (C.setIfInBounds i ü) (a.put oi.dst v) w→ow P R ops Q S is (g+1) C a w:=by
 intro g;induction g with
 |zero=>
  intro C a w _ hr hy hS H;refine⟨λh=>(by rw[h]at hr;cases hr),λj hj=>?_⟩;by_cases f:j=i
  ·subst f;exact hy.wpOp hi hS ⟨λ_=>hS,H⟩
  ·have:=ready_mono hj f;rw[H.1]at this;cases this
 |succ g ih=>
  intro C a w p hr hy hS H;refine⟨λh=>(by rw[h]at hr;cases hr),λj hj=>?_⟩;by_cases f:j=i
  ·subst f;exact hy.wpOp hi hS ⟨λ_=>hS,H⟩
  ·have h1:=H.2 j (ready_mono hj f);obtain⟨hjun,oj,r,hall⟩:=ak3.1 hj;have U:∀e∈oj.after,Region.binds R e=ü→e.on≠i:=λe he hb heq=>by
    have h1:=hall e he hb;have h0:=(ak3.1 hr).1;rw[heq]at h1;obtain h'|h':=i_ i C.size
    ·simp[h']at h0 h1;rw[h0]at h1;cases h1
    ·simp[Array.getElem?_eq_none h']at h1
   have l:IY R ops is j=false:=by unfold IY;rw[alh];refine⟨i,his, ?_⟩;rw[r];simp only[Array.any_eq_true',θ,M_];rintro⟨e,he,hb,heq⟩;exact U e he hb heq
   have h2:=wpOp_putIf r (p j oj r f hjun U) (λcs b=>T i oi cs b hi) (λcs b=>T j oj cs b r) hQ hy h1;have J:∀k ok,ops[k]? = ä ok→k≠i→(C.setIfInBounds j ü).getD k ü=ß →
     (∀e∈ok.after,Region.binds R e=ü→e.on≠i)→oi.apart ops ok=true:=λk ok hk hki hun hno=>by
    refine p k ok hk hki ?_ hno;by_cases hjk:j=k
    ·subst hjk;exact hjun
    ·rw[getD_set_ne ü hjk]at hun;exact hun
   refine wpOp_mono (λa' w' h3=>⟨λ_=>h3.2.1 l,ih (C.setIfInBounds j ü) a' w' J (ready_mono hr (Ne.symm f)) h3.1 (h3.2.1 l) ?_⟩) h2;rw[Array.setIfInBounds_comm _ _ f];exact h3.2.2
def dQ {f:Nat}(g:Region.ready R ops C=[i])(h:wpOp P ops Q i (λr w'=>(IY R ops is i=ß→S w')∧ow P R ops Q S is f (C.setIfInBounds i ü) r w') a w):ow P R ops Q S is (f+1) C a w :=
 ⟨λp=>(by rw[g]at p;cases p),λj l=>by rw[g]at l;rw[E'.1 l];exact h⟩
def IX (f:Region.ready R ops C=[])(h:Q .normal a w):ow P R ops Q S is 0 C a w:=⟨f,h⟩
def F5 {w:æ}{all:List Nat}(g:Region.noSelect ops=ü)(p:S w)(r:∀c d v a w,Q (.panic c) (a.put d v) w→Q (.panic c) a w){f:Nat}:∀(is:List Nat) (C:Array Bool) (a:Act),(∀i∈is,i∈all)→Ek R ops is C=ü →
  wM P ops S is (λU=>ow P R ops Q S all f (O8 is C) U w) a→ow P R ops Q S all (f+is.length) C a w
 |[],_,_,_,_,h=>h
 |i::is,C,a,hal,hB,h=>by simp only[Ek,θ]at hB;obtain⟨o,v,l,J,h⟩:=h;exact Ki (hal i (m_ ..)) l (Region.noSelect_spec g) (λc a w h=>r c _ _ a w h) _ C a w (Region.free_spec l hB.1) (by simpa using hB.2.1) J p (F5 g p r is _ _ (λj T=>hal j (e_ _ T)) hB.2.2 h)
def sF {id:Nat}(j:P.follows .mixedOrders=ü)(g:Region.noSelect ops=ü)(is:List Nat)(f:Nat)(l:f+is.length=ops.size)(C:Ek .any ops is (Array.replicate ops.size ß)=ü)(r:∀c d v a w,Q (.panic c) (a.put d v) w→Q (.panic c) a w)(p:S w.drew)
  (h:wM P ops S is (λJ=>ow P .any ops Q S is f (O8 is (Array.replicate ops.size ß)) J w.drew) a):(Code.region id ops ü).wp P Q a w:=by
 refine wp_region_any j (wF (S:=S) (is:=is) _ _ _ _ ?_);have:=F5 g p r is _ _ (λ_ h=>h) C h;rwa[l]at this
def DU {o:ë}{K:Act→æ→Prop}{f:FuncId}{args:Array ø}(l:ops[i]? = ä o)(g:Region.wanted o (yielded ops a.tmps)=ü)(j:(ê a.eval o).run P w = .ok (.enter f args) w)(h:Calls P f args w λe w'=>∃v,e = .returned v∧K (a.put o.dst v) w'):wpOp P ops Q i K a w:=by unfold wpOp;simp[l,g];refine .inl ?_;unfold Oper.wp;rw[j];refine h.mono ?_;rintro e w' ⟨v,rfl,p⟩;exact p
end
structure FiS (w W:æ)(B J T:Nat)(cs:List CF)(U pv:ø)(wl:List Int)(l:List PF)(vs:List (List ø)):Prop where
 below:Below w.heap.size w W
 cz:W.heap[w.heap.size+1]? = ä (.cells #[.slice ö 0 0,.slice ö 0 0] 31 (0,0))
 has:wD w w.heap.size W (w.heap.size+2) cs
 lo:w.heap.size+3≤B
 top:B≤J∧J<T∧T≤W.heap.size
 box:W.heap[J]? = ä (.cells #[U,pv] 31 (0,0))
 want:W.ownsRow B 3 1 U wl.length (intsI wl)
 parts:W.ownsRow B 54 6 pv l.length vs.flatten
 wlt:∀g,U.ownBlock=ä g→g<T
 plt:∀g,pv.ownBlock=ä g→g<T
 held:bK W B T l vs
def FiS.sb {w W P:æ}{B J T:Nat}{C:List CF}{U pv:ø}{p:List Int}{l:List PF}{vs:List (List ø)}{row:Option Nat}(h:FiS w W B J T C U pv p l vs)(f:W.grownBy P row)(j:∀r,row=ä r→T≤r):FiS w P B J T C U pv p l vs:=by
 have lo:=h.lo;have R:=h.top;have lt:∀{k:Nat} {o:Obj},W.heap[k]? = ä o→k<W.heap.size:=λh=>(δ.1 h).1;have ne:∀k,k<T→ä k≠row:=λk hk e=>by have:=j k e.symm;omega
 have k:∀v:ø,(∀g,v.ownBlock=ä g→g<T)→v.ownBlock=ö∨v.ownBlock≠row:=λv hv=>by
  cases e:v.ownBlock with
  |none=>exact .inl rfl
  |some g=>exact .inr (ne g (hv g e))
 exact⟨h.below.grown f h.below.size λr e=>by have:=j r e;omega,(f.block _ (lt h.cz) (ne _ Ω)).trans h.cz,h.has.kept f (ne _ Ω),h.lo,⟨h.top.1,h.top.2.1,ξ h.top.2.2 f.size⟩,(f.block _ (lt h.box) (ne _ h.top.2.1)).trans h.box,
  h.want.kept f (k U h.wlt),h.parts.kept f (k pv h.plt),h.wlt,h.plt,h.held.all λx v hx=>hx.sb f j⟩
variable{w W' :æ}{J:Nat}{cs:List CF}{U pv:ø}{wl:List Int}{l:List PF}{vs:List (List ø)}
def FiS.quiet {W:æ}{B T:Nat}(h:FiS w W B J T cs U pv wl l vs)(f:W.grownBy W' ö):FiS w W' B J T cs U pv wl l vs:=h.sb f λr e=>by cases e
def FiS.mono {w W:æ}{B J T T':Nat}{cs:List CF}{U pv:ø}{wl:List Int}{l:List PF}{vs:List (List ø)}(h:FiS w W B J T cs U pv wl l vs)(f:T≤T')(p:T'≤W.heap.size):FiS w W B J T' cs U pv wl l vs :=
 ⟨h.below,h.cz,h.has,h.lo,⟨h.top.1,d_ h.top.2.1 f,p⟩,h.box,h.want,h.parts,λg e=>d_ (h.wlt g e) f,λg e=>d_ (h.plt g e) f,h.held.all λx v j=>j.mono f⟩
def FiS.done {W:æ}{B T:Nat}(h:FiS w W B J T cs U pv wl l vs)(C:W.grownBy W' pv.ownBlock){x:PF}{v:List ø}(hx:cJ W B W.heap.size x v){pv':ø}(ho:W'.ownsRow B 54 6 pv' (l.length+1) (vs.flatten++v))(hown:pv'.ownBlock=pv.ownBlock∨pv'.ownBlock=ä W.heap.size) :
  FiS w (W'.setCell ⟨J,1,ö⟩ pv') B J W'.heap.size cs U pv' wl (l++[x]) (vs++[v]):=by
 have lo:=h.lo;have top:=h.top;have lt:∀{k:Nat} {o:Obj},W.heap[k]? = ä o→k<W.heap.size:=λh=>(δ.1 h).1;have hsz:=C.size;have p:∀r,pv.ownBlock=ä r→B≤r∧∃f,W.heap[r]? = ä (.cells f 54 (0,0)):=λr e=>dI h.parts e;have hneq:∀k o,W.heap[k]? = ä o→(∀f,o ≠ .cells f 54 (0,0))→ä k≠pv.ownBlock:=λk o h1 h2 e=>by obtain⟨_,f,h3⟩:=p k e.symm;rw[h3]at h1;cases h1;exact h2 f rfl
 have j:=(C.block _ (lt h.box) (hneq _ _ h.box λf e=>by cases e)).trans h.box;have hhas':=h.has.kept C (by
  obtain⟨ps,clock,h1,_⟩:=h.has;exact hneq _ _ h1 λf e=>by cases e)
 have R:=(C.block _ (lt h.cz) (hneq _ _ h.cz λf e=>by cases e)).trans h.cz;obtain⟨h1,h2⟩:=bV j 1 pv';have P:∀{e size n:Nat} {u:ø} {xs:List ø},e≠54→W.ownsRow B e size u n xs→W'.ownsRow B e size u n xs:=λ{e size n u xs} hne hu=>by
  cases e':pv.ownBlock with
  |none=>rw[e']at C;exact bn hu C
  |some r=>
   rw[e']at C;obtain⟨_,f,h3⟩:=p r e';exact aC hu C h3 λcur' e=>by cases e;exact hne rfl
 have hpart:∀y u,cJ W B W.heap.size y u→cJ W' B W'.heap.size y u:=λy u hy=>by
  cases e':pv.ownBlock with
  |none=>rw[e']at C;exact(hy.sb C λr e=>by cases e).mono hsz
  |some r =>rw[e']at C;obtain⟨_,f,h3⟩:=p r e';exact(hy.stays C h3 (λcur' e=>by cases e) λcur' e=>by cases e).mono hsz
 have ho1:∀{e size n:Nat} {u:ø} {xs:List ø},e≠31→W'.ownsRow B e size u n xs→(W'.setCell ⟨J,1,ö⟩ pv').ownsRow B e size u n xs:=λhne hu=>aC hu h2 j λf e=>by cases e;exact hne rfl
 have hlt':∀{e size n:Nat} {u:ø} {xs:List ø},W'.ownsRow B e size u n xs→∀g,u.ownBlock=ä g→g<W'.heap.size:=λhu g e=>by obtain⟨_,f,h3⟩:=dI hu e;exact(δ.1 h3).1
 have hll:(l++[x]).length=l.length+1:=by simp
 refine⟨(h.below.grown C h.below.size λr e=>by have:=(p r e).1;omega).grown h2 (ξ h.below.size hsz) λr e=>by injection e with e;omega,(h2.block _ (δ.1 R).1 λe=>by injection e with e;omega).trans R,hhas'.kept h2 λe=>by injection e with e;omega,h.lo,⟨h.top.1,d_ (lt h.box) hsz,alQ (by simp[World.setCell])⟩,by simpa using h1,ho1 Ϛ (P Ϛ h.want),ho1 Ϛ (by rw[hll];simpa using ho),hlt' (P Ϛ h.want),hlt' ho, ?_⟩;have hold:=(h.mono h.top.2.2 (ε _)).held;exact((hold.push hx).all hpart).all λy u hy=>hy.stays h2 j (λf e=>by cases e) λf e=>by cases e
def FiS.fin {W:æ}{B T:Nat}(h:FiS w W B J T cs U pv wl l vs)(r:W'=(W.setCell ⟨w.heap.size+1,0,ö⟩ U).setCell ⟨w.heap.size+1,1,ö⟩ pv) :
  W'.heap[w.heap.size+1]? = ä (.cells #[U,pv] 31 (0,0))∧Below w.heap.size w W'∧W'.ownsRow w.heap.size 3 1 U wl.length (intsI wl)∧W'.ownsRow w.heap.size 54 6 pv l.length vs.flatten∧bK W' w.heap.size W'.heap.size l vs:=by
 subst r;have p:=h.lo;obtain⟨C,g⟩:=KC (v0:=U) (v1:=pv) h.cz;exact⟨C,h.below.grown g h.below.size λk e=>(by injection e with e;omega),ct (aC h.want g h.cz λf e=>(by cases e)) Ω,ct (aC h.parts g h.cz λf e=>(by cases e)) Ω,
  h.held.all λx v j=>((j.stays g h.cz (λf e=>(by cases e)) λf e=>(by cases e)).lo Ω).mono (ξ h.top.2.2 g.size)⟩
def adU {b:Nat}{a0 a1 a2 a3 a4 a5 v0 v1 v2 v3 v4 v5:ø}{t:é}(h:w.heap[b]? = ä (.cells #[a0,a1,a2,a3,a4,a5] t (0,0))) :
  ((((((w.setCell ⟨b,0,ö⟩ v0).setCell ⟨b,1,ö⟩ v1).setCell ⟨b,2,ö⟩ v2).setCell ⟨b,3,ö⟩ v3).setCell ⟨b,4,ö⟩ v4).setCell ⟨b,5,ö⟩ v5).heap[b]? = ä (.cells #[v0,v1,v2,v3,v4,v5] t (0,0)) ∧
  w.grownBy ((((((w.setCell ⟨b,0,ö⟩ v0).setCell ⟨b,1,ö⟩ v1).setCell ⟨b,2,ö⟩ v2).setCell ⟨b,3,ö⟩ v3).setCell ⟨b,4,ö⟩ v4).setCell ⟨b,5,ö⟩ v5) (ä b):=by
 obtain⟨r,U⟩:=bV h 0 v0;obtain⟨p,T⟩:=bV r 1 v1;obtain⟨l,R⟩:=bV p 2 v2;obtain⟨j,P⟩:=bV l 3 v3;obtain⟨g,J⟩:=bV j 4 v4;obtain⟨f,C⟩:=bV g 5 v5;exact⟨by simpa using f,cX (cX (cX (cX (cX U T) R) P) J) C⟩
structure S18 (J b13:Nat)(U pv s1 s2 s3:ø)(y:PF)(Z:æ):Prop where
 c:Z.heap[J]? = ä (.cells #[U,pv] 31 (0,0))
 b:Z.heap[b13]? = ä (.cells #[.int .i64 y.c.st,s1,s2,.string y.c.nt,s3,.int .i64 y.left] 54 (0,0))
def S18.kept {f:Nat}{s1 s2 s3:ø}{y:PF}{Z j:æ}{row:Option Nat}(h:S18 J f U pv s1 s2 s3 y Z)(g:Z.grownBy j row)(p:ä J≠row)(l:ä f≠row):S18 J f U pv s1 s2 s3 y j :=
 ⟨(g.block _ (δ.1 h.c).1 p).trans h.c,(g.block _ (δ.1 h.b).1 l).trans h.b⟩
def pD {P:å}{fn:Func}{p q:Tmp}{j:é}(h:fn.results = #[.cell p j,.tmp q])(f:Array ø)(w:æ)(g:Nat)(t:é)(cs:Array ø)(r:Nat×Nat)(d:TypeDesc)
  (J:f.getD p undef = .pointer (ä ⟨g,0,ö⟩)) (T:w.heap[g]? = ä (.cells cs t r))
  (C:P.underlying j=ä d) (U:(match d with|.struct _|.array _ _=>ü|_=>ß)=ü) (R:(P.info? j).map (·.size)=ä cs.size) :
  (results fn f).run P w = .ok (.tuple #[.agg cs,f.getD q undef]) w:=by
 have l:f[p]?.getD undef = .pointer (ä ⟨g,0,ö⟩):=by simpa using J
 simp[results,h,l,asAddr,run_loadVar_row w g t j cs r d T C U R]
end Abs
