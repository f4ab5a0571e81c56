/- Parts. -/
import Derived.Shelf.Slices.Equal
import Derived.Shelf.Slices.Empties2
import Derived.Test.YtfgpipfjalmooaaGreatCloQ
import Derived.Test.YtfgpipfjalmooaaGreatKpP
import Derived.Test.YtfgpipfjalmooaaGreatSkE
import Derived.Deep.RegionHeld3
set_option linter.all false
noncomputable section
namespace Go.Proofs
open Go.Shelf Tryz
def equI_ren:Go.Shelf.Ren:=⟨λ|111=>78|n=>n,λ|28=>23|3=>3|4=>4|0=>0|n=>n,λ|n=>n⟩
def equI:Go.Proofs.Lays.n111 prog equI_ren:={
 mixed:=by kernel_rfl
 f111:=func78.trans (congrArg some (by kernel_rfl))
 t0:=underlying0
 a0:=isAgg0
 z0:=sizeOf0
 v0:=zeroValue0
 t3:=underlying3
 a3:=isAgg3
 z3:=sizeOf3
 v3:=zeroValue3
 t4:=underlying4
 a4:=isAgg4
 z4:=sizeOf4
 v4:=zeroValue4
 t28:=underlying23
 a28:=isAgg23
 z28:=sizeOf23
 v28:=zeroValue23 }
end Go.Proofs
namespace Go.Proofs.YtfgpipfjalmooaaGreat
namespace Abs
open Go Go.Proofs Go.RowKit Go.Maps Go.Shelf Tryz
open Go.Proofs.YtfgpipfjalmooaaGreat.Clo (PV CV ME findE eqP eqL eqC lsEq denP denEs kOk SymVal)
@[reducible] def symW:SymVal:=⟨λ_=>.bool true,λ_=>rfl,λ_=>True⟩
def gxW:Clo.Gx:=⟨λ_ _=>none,λ_=>none,λ_=>none⟩
def ksW:List Clo.CK:=[.i .i64,.i .i64,.i .i64,.b,.s,.i .i64]
def kyW (x:WK):PV :=.agg [.int .i64 x.id,.int .i64 x.fd,.int .i64 x.nn,.bl x.fl,.str (x.tx.data.toList.map UInt8.toNat),.int .i64 x.rf]
def ad5 (s:ByteArray) : @Clo.den symW gxW (.str (s.data.toList.map UInt8.toNat))=some (.string s):=by
 have j:Clo.okStr (s.data.toList.map UInt8.toNat)=true:=by unfold Clo.okStr;rw[G'];intro b f;obtain⟨u,_,rfl⟩:=a_.1 f;exact Nat.ble_eq_true_of_le (UInt8.toNat_lt u)
 have g:((s.data.toList.map UInt8.toNat).map UInt8.ofNat)=s.data.toList:=by
  rw[r?];conv=>rhs;rw[←List.map_id s.data.toList]
  exact akL λu _=>by simp
 show(if Clo.okStr _=true then some (Clo.strV _)else none)=_;rw[q' j];unfold Clo.strV;rw[g]
def ll (x:WK) : @denP symW gxW (kyW x)=some (yS x):=by
 show(match @Clo.dens symW gxW _ with|some f=>some (Value.agg f.toArray)|none=>none)=_;have : @Clo.dens symW gxW [.int .i64 x.id,.int .i64 x.fd,.int .i64 x.nn,.bl x.fl,.str (x.tx.data.toList.map UInt8.toNat),.int .i64 x.rf]=some [.int .i64 x.id,.int .i64 x.fd,.int .i64 x.nn,.bool x.fl,.string x.tx,.int .i64 x.rf]:=by have:=ad5 x.tx;simp only[Clo.dens,Clo.den]at this⊢;rw[this]
 rw[this];rfl
def P4:∀{a b:List Nat},lsEq a b=true↔a=b
 |[],[]=>by simp[lsEq]
 |[],_::_=>by simp[lsEq]
 |_::_,[]=>by simp[lsEq]
 |x::a,y::b=>by
  cases h:Nat.beq x y with
  |true =>have:=κ h;simp[lsEq,h,P4,this]
  |false=>
   have:¬x=y:=λe=>by rw[e,akz]at h;cases h
   simp[lsEq,h,this]
def ae5 {x y:WK}(h:kyW x=kyW y):x=y:=by obtain⟨a1,a2,a3,a4,⟨j⟩,a6⟩:=x;obtain⟨b1,b2,b3,b4,⟨g⟩,b6⟩:=y;simp only[kyW,PV.agg.injEq,c_,CV.int.injEq,CV.bl.injEq,CV.str.injEq,true_and,N_]at h;obtain⟨rfl,rfl,rfl,rfl,f,rfl⟩:=h;have:j.toList=g.toList:=(List.map_inj_right λu v e=>UInt8.toNat_inj.1 e).1 f;rw[Array.toList_inj.1 this]
def abE (x y:WK):∃b,eqP ksW true (kyW x) (kyW y)=some b∧(b=true↔x=y):=by
 have h:eqP ksW true (kyW x) (kyW y)=some (bif decide (x.id=y.id)then(bif decide (x.fd=y.fd)then(bif decide (x.nn=y.nn)then(bif (match x.fl with|true=>y.fl|false=>!y.fl)then(bif lsEq (x.tx.data.toList.map UInt8.toNat) (y.tx.data.toList.map UInt8.toNat)then(bif decide (x.rf=y.rf)then true else false)else false)else false)else false)else false)else false):=rfl;refine⟨_,h,λe=>?_, ?_⟩
 ·rw[e]at h;exact ae5 (Clo.eqP_true h)
 ·rintro rfl;have:=(P4 (a:=x.tx.data.toList.map UInt8.toNat)).2 rfl;rw[this];cases x.fl <;> simp
def MC (ps:List (WK×Nat)):List ME:=ps.map λp=>⟨kyW p.1,.one (.bl true),p.2⟩
def vsW (ps:List (WK×Nat)):List MapEntry:=ps.map λp=>⟨yS p.1,.bool true,p.2⟩
def agI (ps:List (WK×Nat)) : @denEs symW gxW (MC ps) (vsW ps):=by
 refine⟨by simp[MC,vsW],λi e f=>?_⟩;unfold MC at f;rw[v_]at f;cases h:ps[i]? with
 |none=>rw[h]at f;cases f
 |some p =>rw[h]at f;cases f;exact⟨⟨yS p.1,.bool true,p.2⟩,by unfold vsW;rw[v_,h];rfl,ll _,rfl,rfl⟩
def Un (x:WK):∀(ps:List (WK×Nat)) (i:Nat),(∃j p,findE ksW true (kyW x) (MC ps) i=some (some (i+j,⟨kyW p.1,.one (.bl true),p.2⟩))∧ps[j]? = some p∧p.1=x)∨(findE ksW true (kyW x) (MC ps) i=some none∧∀p∈ps,p.1≠x)
 |[],i=>.inr ⟨rfl,λp h=>by cases h⟩
 |p::ps,i=>by
  obtain⟨b,P,f⟩:=abE x p.1;have J:findE ksW true (kyW x) (MC (p::ps)) i=match eqP ksW true (kyW x) (kyW p.1)with
   |some true=>some (some (i,⟨kyW p.1,.one (.bl true),p.2⟩))
   |some false=>findE ksW true (kyW x) (MC ps) (i+1)
   |none=>none:=rfl
  rw[J,P];cases b with
  |true=>exact .inl ⟨0,p,rfl,rfl,(f.1 rfl).symm⟩
  |false=>
   have l:¬x=p.1:=λe=>by have:=f.2 e;cases this
   rcases Un x ps (i+1)with⟨j,q,C,r,R⟩|⟨C,r⟩
   ·exact .inl ⟨j+1,q,by show findE _ _ _ _ _=_;rw[C,A_,K? 1 j],by simpa using r,R⟩
   ·exact .inr ⟨C,λq g=>by
     obtain rfl|g:=P'.1 g
     ·exact λe=>l e.symm
     ·exact r q g⟩
def Kh:kOk prog 44 ksW true:=⟨Φ,Φ⟩
def Oe:prog.underlying 117=some (.map 44 4):=Φ
def V4 (x:WK):Clo.keyOk ksW true (kyW x)=true:=by obtain⟨b,f,_⟩:=abE x x;unfold Clo.keyOk;rw[f]
def C8 (W:World)(b:Nat)(l:List WK):Prop :=
 ∃ps clock,W.heap[b]? = some (.map (vsW ps).toArray clock)∧(∀x,x∈ps.map (·.1)↔x∈l)∧(∀p∈ps,p.2<clock)∧(ps.map (·.2)).Nodup∧ps.length≤l.length
variable{W:World}{b:Nat}{l:List WK}
def C8.kept {j :World}{row:Option Nat}(h:C8 W b l)(p:W.grownBy j row)(f:some b≠row):C8 j b l:=by obtain⟨ps,clock,g,r⟩:=h;exact⟨ps,clock,(p.block b (δ.1 g).1 f).trans g,r⟩
def C8.new (W:World):C8 (W.alloc (.map #[] 0)) W.heap.size []:=⟨[],0,World.alloc_heap_new _ _,λx=>ala,λp h=>(by cases h),w?,ζ _⟩
open Classical in
def inW (l:List WK)(x:WK):Bool:=decide (x∈l)
def PQ {g:Type}{a:Array g}{j:Nat}{f:g→g}(h:∀e,a[j]? = some e→f e=e):a.modify j f=a:=by
 apply Array.ext
 ·simp
 ·intro i p l;rw[Array.getElem_modify];split
  next e=>subst e;exact h _ (Q_ l)
  ·rfl
def CI (W:World)(b:Nat)(o:Obj):W.grownBy { W with heap:=W.heap.setIfInBounds b o } (some b) :=
 ⟨rfl,rfl,rfl,Ψ,λk _ f=>by
  rw[aj9,B' (λe=>f (by rw[e]))]⟩
def XP (h:C8 W b l)(x:WK):∃W',(Instr.mapUpdate 117 (.map (some b)) (yS x) (.bool true)).run prog W = .ok () W'∧C8 W' b (l++[x])∧W.grownBy W' (some b):=by
 letI:=symW
 obtain⟨ps,clock,g,h2,h3,h4,h5⟩:=h;have C:=Clo.run_check (P:=prog) (w:=W) (φ:=gxW) Kh (ll x) (V4 x) false;have U:denEs gxW (MC ps) (vsW ps).toArray.toList:=agI ps;have hlt:=(δ.1 g).1;rcases Un x ps 0 with⟨j,p,f1,f2,f3⟩|⟨f1,f2⟩
 ·obtain⟨o,T,r⟩:=Clo.find_key (w:=W) Kh (ll x) U f1;obtain⟨j',m,e1,rfl,e2,e3,e4⟩:=r;obtain⟨y1,y2,y3,y4,y5⟩:=Clo.found_key U (ll x) e2 e3 e4;have hm:(vsW ps).toArray.modify (0+j) (λe=>{ e with key:=yS x,val :=.bool true })=(vsW ps).toArray:=PQ λe J=>by
   rw[Q',z?]at J;unfold vsW at J;rw[v_,f2]at J;cases J;show MapEntry.mk (yS x) (.bool true) p.2=MapEntry.mk (yS p.1) (.bool true) p.2;rw[f3]
  have hj:j'=j:=Ω
  subst hj;refine⟨{ W with heap:=W.heap.setIfInBounds b (.map (vsW ps).toArray clock) }, ?_,⟨ps,clock,(Go.MapKept.heap_set g).1,λy=>?_,h3,h4,by simp;omega⟩,CI _ _ _⟩
  ·have R:((((vsW ps).toArray[0+j']?).map (·.key)).getD (yS x))=yS x:=by rw[Q'];exact y1
   conv=>rhs;rw[←hm]
   simp only[Instr.mapUpdate,ν,η Oe,χ,e_ g,C,T,R,Clo.bits_self y5 (ll x),F_ _ g]
  ·rw[h2,π,ξ];refine⟨.inl,λh=>h.elim id ?_⟩;rintro rfl;rw[←h2,←f3];exact G? (X_ f2)
 ·obtain⟨o,T,r⟩:=Clo.find_key (w:=W) Kh (ll x) U f1;have r:o=none:=r;subst r;refine⟨{ W with heap:=W.heap.setIfInBounds b (.map ((vsW ps).toArray.push ⟨yS x,.bool true,clock⟩) (clock+1)) }, ?_,⟨ps++[(x,clock)],clock+1, ?_,λy=>?_,λp f=>?_, ?_,by simp;omega⟩,CI _ _ _⟩
  ·simp[Instr.mapUpdate,ν,η Oe,e_ g,C,T,F_ _ g]
  ·rw[(Go.MapKept.heap_set g).1];simp[vsW]
  ·rw[M_,π,π,h2];rfl
  ·obtain f|f:=π.1 f
   ·exact Nat.lt_succ_of_lt (h3 p f)
   ·rw[ξ.1 f];exact ak3 _
  ·rw[M_,akV];refine⟨h4,Ψ,λa ha c C e=>?_⟩;obtain⟨p,f,rfl⟩:=a_.1 ha;have C:c=clock:=by simpa using C
   have:=h3 p f;omega
def FQ (h:C8 W b l)(x:WK):(Instr.lookup 117 (.map (some b)) (yS x) false).run prog W = .ok (.bool (inW l x)) W:=by
 letI:=symW
 obtain⟨ps,clock,h1,h2,h3,h4,h5⟩:=h;have hc:=Clo.run_check (P:=prog) (w:=W) (φ:=gxW) Kh (ll x) (V4 x);have U:denEs gxW (MC ps) (vsW ps).toArray.toList:=agI ps;have hz:(zeroValue 4).run prog W = .ok (.bool false) W:=Φ
 unfold inW;rcases Un x ps 0 with⟨j,p,R,C,f3⟩|⟨R,C⟩
 ·obtain⟨o,J,g⟩:=Clo.find_key (w:=W) Kh (ll x) U R;obtain⟨T,m,e1,rfl,e2,r,e4⟩:=g;have hj:T=j:=Ω
  subst hj;have hv:m.val = .bool true:=by have r:(vsW ps)[T]? = some m:=r;unfold vsW at r;rw[v_,C]at r;cases r;rfl
  have f:x∈l:=by rw[←h2,←f3];exact G? (X_ C)
  simp[Instr.lookup,ν,η Oe,e_ h1,hc,J,hv,f]
 ·obtain⟨o,J,g⟩:=Clo.find_key (w:=W) Kh (ll x) U R;have g:o=none:=g;subst g;have f:¬x∈l:=λhx=>by
   obtain⟨p,hp,rfl⟩:=a_.1 ((h2 x).2 hx);exact C p hp rfl
  simp[Instr.lookup,ν,η Oe,e_ h1,hc,J,hz,f]
end Abs
namespace Abs
open Go Go.Proofs Go.RowKit Go.Maps Go.Shelf Tryz
variable{w:World}
def Ls {g:Array Oper}{rest:List Oper}{o:Oper}{a:Act}{Q:Exit→Act→World→Prop}(T:o.guard=none)(m x v:Operand)(j:o.op=Op.mapUpdate 117 m x v)(b:Nat){l:List WK}(R:a.eval m = .map (some b))(J:C8 w b l)(y:WK)(r:a.eval x=yS y)(C:a.eval v = .bool true)
  (U:∀f,C8 f b (l++[y])→w.grownBy f (some b)→wpList prog g Q rest (a.put o.dst undef) f):wpList prog g Q (o::rest) a w :=
 aky T λ_ p=>by obtain⟨f,P,h1,h2⟩:=XP J y;unfold Oper.wp execOp;simp[j,R,r,C,P,Result.andThen];exact p _ _ (U f h1 h2)
def bq {W:World}(f:w.grownBy W none):Below w.heap.size w W:=(Below.refl _ w).grown f (ζ _) λk e=>by cases e
def CJ {W f :World}{r:Nat}(h:w.grownBy W none)(j:W.grownBy f (some r))(g:w.heap.size≤r):w.grownBy f none:=rl h j g
set_option maxRecDepth 100000 in
set_option maxHeartbeats 1600000 in
def JE (f:List WK)(hl:f.length≤1048576)(w:World)(v:Value)(T:iX w w.heap.size v f.length (flW f)):Calls prog 79 #[v] w λe w'=>∃b,e = .returned (.map (some b))∧w.heap.size≤b∧C8 w' b f∧w.grownBy w' none:=by
 obtain⟨A,c,rfl,J⟩:=T;have T:iX w w.heap.size (.slice A f.length c) f.length (flW f):=⟨A,c,rfl,J⟩;clear J;have hmm:=@run_makeMap prog
 go_enter func79,ntmps79
 go_upto_region 2 with fail
 have hs0:=C8.new w;have p:=C' w (.map #[] 0) none;generalize w.alloc (.map #[] 0)=W0 at hs0 p⊢;clear hmm
 go_wp2
 go_loopw [9] (λi wr=>∃k:Nat,k≤f.length∧i = .int .i64 k∧w.grownBy wr none∧C8 wr w.heap.size (f.take k)) (λi _=>f.length-(Go.RowKit.intOf i).toNat)
 case atStart=>exact⟨0,i_ _,rfl,p,by simpa using hs0⟩
 case round=>
  clear hs0 p;obtain⟨k,hk,rfl,R,r⟩:=hrel;by_cases l:k<f.length
  ·obtain⟨pb,po,rfl,hpb,C⟩:=NQ T k l;obtain⟨x0,x1,x2,x3,x4,x5⟩:=C.keep (bq R) hpb
   go_upto_region 5 with fail
   have g:=C' wr (.cells #[.int .i64 f[k].id,.int .i64 f[k].fd,.int .i64 f[k].nn,.bool f[k].fl,.string f[k].tx,.int .i64 f[k].rf] 44) none;have j:=World.alloc_heap_new wr (.cells #[.int .i64 f[k].id,.int .i64 f[k].fd,.int .i64 f[k].nn,.bool f[k].fl,.string f[k].tx,.int .i64 f[k].rf] 44);generalize wr.alloc (.cells #[.int .i64 f[k].id,.int .i64 f[k].fd,.int .i64 f[k].nn,.bool f[k].fl,.string f[k].tx,.int .i64 f[k].rf] 44)=X at g j⊢;have r:=r.kept g Ψ;have R:=R.trans g;clear x0 x1 x2 x3 x4 x5 C g;have r0:=(ae j 0 rfl).1;have r1:=(ae j 1 rfl).1;have r2:=(ae j 2 rfl).1;have r3:=(ae j 3 rfl).1;have r4:=(ae j 4 rfl).1;have r5:=(ae j 5 rfl).1
   go_upto_region 6 with(first
    |(at_mapUpdate;refine Ls rfl _ _ _ rfl w.heap.size rfl r f[k] rfl rfl ?_;intro w3 U hg3)
    |go_in)
   clear r0 r1 r2 r3 r4 r5 j r;have P:=CJ R hg3 (ζ _)
   go_wp2
   go_roundw
   case rel=>exact⟨k+1,l,Ψ,P,by rw[J' l];exact U⟩
   case measure=>simp[Go.RowKit.intOf];omega
  ·obtain rfl:k=f.length:=Ω
   rw[z_]at r
   go_wp2
   go_ret
   exact⟨_,rfl,ζ _,r,R⟩
end Abs
namespace Abs
open Go Go.Proofs Go.RowKit Go.Maps Go.Shelf Tryz
open Go.ChangeMaps (setBlock)
def sZ (w:World)(q:Nat):w.grownBy (w.drewN q) none:=⟨rfl,rfl,rfl,ζ _,λ_ _ _=>rfl⟩
def vq (f g:List Int)(hx:f.length≤1048576)(hy:g.length≤1048576)(w:World)(J C:Value){B:Nat}(ha:iX w B J f.length (intsI f))(hb:iX w B C g.length (intsI g)) :
  Calls prog 78 #[J,C] w λe p=>e = .returned (.bool (decide (f=g)))∧w.grownBy p none:=by
 obtain⟨A1,c1,rfl,k1,h1⟩:=ha;obtain⟨U,c2,rfl,k2,h2⟩:=hb;by_cases r:f.length=g.length
 ·by_cases T:f.length=0
  ·obtain rfl:=U' T;obtain rfl:=U' (r.symm.trans T);refine(Any.slices_Equal_int_empty equI A1 U c1 0 c2 w Ω).mono ?_;rintro e p ⟨rfl,rfl⟩;exact⟨rfl,sZ _ 0⟩
  ·obtain⟨b1,R,rfl,_,g1⟩:=h1 Ω;obtain⟨b2,P,rfl,_,g2⟩:=h2 Ω;have cell:∀(l:List Int) (b o:Nat),(∀j v,(intsI l)[j]? = some v→w.cell? ⟨b,o+j,none⟩=some v)→∀j,j<l.length→w.cell? ⟨b,o+j,none⟩=some (.int .i64 (l.getD j 0)):=λl b o h j hj=>by
    refine h j _ ?_;simp[intsI,hj]
   refine(Any.slices_Equal_int equI b1 R f.length c1 b2 P g.length c2 f g w (ζ _) (ζ _) Ω Ω (cell f b1 R g1) (cell g b2 P g2)).mono ?_;rintro e p ⟨rfl,q,rfl⟩;refine⟨?_,sZ _ q⟩;rw[z_,z_];by_cases e:f=g
   ·subst e;simp
   ·simp[e]
 ·refine(Any.slices_Equal_int_lens equI A1 U f.length c1 g.length c2 w r).mono ?_;rintro e p ⟨rfl,rfl⟩;refine⟨?_,sZ _ 0⟩;rw[h? λe=>r (by rw[e])]
section
variable {P:Program}{w:World}{ops:Array Oper}{rest:List Oper}{o:Oper}{a:Act}{Q:Exit→Act→World→Prop}
def Ca (J:o.guard=none)(m:Operand)(t:TypeId)(g:o.op=Op.range t m)(k e:TypeId)(r:P.underlying t=some (.map k e))(b:Nat)(p:Array MapEntry)(clock:Nat)(C:a.eval m = .map (some b))(R:w.heap[b]? = some (.map p clock))
  (T:∀l,l=w.alloc (.mapIter (some b) clock #[] clock)→wpList P ops Q rest (a.put o.dst (.pointer (some ⟨w.heap.size,0,none⟩))) l):wpList P ops Q (o::rest) a w :=
 aky J λU j=>by have f:=run_range_map w t k e b p clock r R;unfold Oper.wp;simp[execOp,g,C,f,Result.andThen];exact j _ _ (T _ rfl)
def Ec (hg:o.guard=none)(it:Operand)(l:o.op=Op.next it false)(b r:Nat)(j:Array MapEntry)(clock:Nat)(R:List Nat)(p:∀x∈j.toList,x.born<clock)(hnd:(j.toList.map (·.born)).Nodup)
  (hit:a.eval it = .pointer (some ⟨r,0,none⟩)) (h:RawIt w b r j clock R)
  (J:(∀i,i<j.size→i∈R)→wpList P ops Q rest (a.put o.dst (.tuple #[.bool false])) w)
  (C:∀i g,i<j.size→i ∉ R→RawIt g b r j clock (R++[i])→w.grownBy g (some r)→g.heap.size=w.heap.size→(Instr.entry (.pointer (some ⟨r,0,none⟩))).run P g = .ok (.tuple #[(entA j i).key,(entA j i).val]) g →
   wpList P ops Q rest (a.put o.dst (.tuple #[.bool true,(entA j i).key,(entA j i).val])) g):wpList P ops Q (o::rest) a w:=by
 refine aky hg λK' U=>?_;have f:=iw (F:=Fence.wide) (n:=0) (P:=P) (ops:=ops) (rest:=[]) (o:=o) (a:=a) (Q:=λe a' g=>match e with|.normal=>K' a' g|_=>False) hg it l b r j clock R p hnd hit h (λhd=>U _ _ (J hd)) (λi g h1 h2 h3 h4 h5 h6=>U _ _ (C i g h1 h2 h3 h4 h5 h6));simp only[wpListIn,Region.wanted,hg,i?]at f;have f:=f.2;rw[Oper.semAt_plain Fence.wide _ _ (by rw[l];intro c e;cases e)]at f;unfold Oper.wp;cases T:(execOp a.eval o).run P w with
 |ok x g =>rw[T]at f;unfold execOp at T;simp only[l]at T;obtain⟨v,rfl⟩:=LP _ _ _ _ _ T;exact f
 |halt x g =>rw[T]at f;cases x <;> exact f.elim
end
end Abs
namespace Abs
open Go Go.Proofs Go.RowKit Go.Maps Go.Shelf Tryz
def jy (p:PF)(c:CF):Bool:=decide (p.c.ps=c.ps)&&(decide (p.c.qs=c.qs)&&((p.c.nt.toList == c.nt.toList)&&(p.c.wl.all (inW c.wl)&&decide (c.wl.countP (λx=>!inW p.c.wl x)=p.left))))
def nZ (w:World)(B:Nat)(c:CF)(pv g f:Value):Prop:=iX w B pv c.ps.length (intsI c.ps)∧iX w B g c.qs.length (intsI c.qs)∧iX w B f c.wl.length (flW c.wl)
def ZM (c:CF):Prop:=c.ps.length≤1048576∧c.qs.length≤1048576∧c.wl.length≤1048576
def nZ.keep {w w':World}{B:Nat}{c:CF}{pv j g:Value}(h:nZ w B c pv j g)(f:Below B w w'):nZ w' B c pv j g:=⟨h.1.keep f,h.2.1.keep f,h.2.2.keep f⟩
def nZ.mono {w:World}{B l:Nat}{c:CF}{pv j g:Value}(h:nZ w B c pv j g)(f:B≤l):nZ w l c pv j g:=⟨h.1.mono f,h.2.1.mono f,h.2.2.mono f⟩
def Rj {l:List WK}{f:WK→Bool}{m:Nat}(h:m<l.length):(l.take (m+1)).countP f=(l.take m).countP f+(if f l[m]then 1 else 0):=by rw[J' h,List.countP_append];simp[List.countP_cons]
def adx (a b:Nat):((a:Int) == (b:Int))=decide (a=b):=by rw[N?,ajY,v?];omega
set_option maxRecDepth 100000 in
set_option maxHeartbeats 3200000 in
def Rq (p:PF)(c:CF)(hlp:ZM p.c)(hlc:ZM c)(w:World)(pv qv wv pv' qv' wv':Value)(hp:nZ w w.heap.size p.c pv qv wv)(hc:nZ w w.heap.size c pv' qv' wv') :
  Calls prog 44 #[.agg #[.int .i64 p.c.st,pv,qv,.string p.c.nt,wv,.int .i64 p.left],.agg #[.int .i64 c.st,pv',qv',.string c.nt,wv']] w λe w'=>e = .returned (.bool (jy p c))∧w.grownBy w' none:=by
 obtain⟨⟨A1,c1,rfl,x1⟩,⟨A2,c2,rfl,x2⟩,⟨A3,c3,rfl,x3⟩⟩:=id hp;obtain⟨⟨A4,c4,rfl,x4⟩,⟨A5,c5,rfl,x5⟩,⟨A6,c6,rfl,x6⟩⟩:=id hc;clear x1 x2 x3 x4 x5 x6
 go_enter func44,ntmps44
 go_upto_region 1 with fail
 have hA:=(Below.heap_alloc (w.alloc (.cells #[.int .i64 p.c.st,.slice A1 p.c.ps.length c1,.slice A2 p.c.qs.length c2,.string p.c.nt,.slice A3 p.c.wl.length c3,.int .i64 p.left] 54)) (.cells #[.int .i64 c.st,.slice A4 c.ps.length c4,.slice A5 c.qs.length c5,.string c.nt,.slice A6 c.wl.length c6] 38) w.heap.size Ψ).trans (World.alloc_heap_new w (.cells #[.int .i64 p.c.st,.slice A1 p.c.ps.length c1,.slice A2 p.c.qs.length c2,.string p.c.nt,.slice A3 p.c.wl.length c3,.int .i64 p.left] 54));have hB:=World.alloc_heap_new (w.alloc (.cells #[.int .i64 p.c.st,.slice A1 p.c.ps.length c1,.slice A2 p.c.qs.length c2,.string p.c.nt,.slice A3 p.c.wl.length c3,.int .i64 p.left] 54)) (.cells #[.int .i64 c.st,.slice A4 c.ps.length c4,.slice A5 c.qs.length c5,.string c.nt,.slice A6 c.wl.length c6] 38);rw[P_]at hB;have hg:w.grownBy ((w.alloc (.cells #[.int .i64 p.c.st,.slice A1 p.c.ps.length c1,.slice A2 p.c.qs.length c2,.string p.c.nt,.slice A3 p.c.wl.length c3,.int .i64 p.left] 54)).alloc (.cells #[.int .i64 c.st,.slice A4 c.ps.length c4,.slice A5 c.qs.length c5,.string c.nt,.slice A6 c.wl.length c6] 38)) none:=(C' w _ none).trans (C' _ _ none);have hs:((w.alloc (.cells #[.int .i64 p.c.st,.slice A1 p.c.ps.length c1,.slice A2 p.c.qs.length c2,.string p.c.nt,.slice A3 p.c.wl.length c3,.int .i64 p.left] 54)).alloc (.cells #[.int .i64 c.st,.slice A4 c.ps.length c4,.slice A5 c.qs.length c5,.string c.nt,.slice A6 c.wl.length c6] 38)).heap.size=w.heap.size+2:=by simp
 generalize (w.alloc (.cells #[.int .i64 p.c.st,.slice A1 p.c.ps.length c1,.slice A2 p.c.qs.length c2,.string p.c.nt,.slice A3 p.c.wl.length c3,.int .i64 p.left] 54)).alloc (.cells #[.int .i64 c.st,.slice A4 c.ps.length c4,.slice A5 c.qs.length c5,.string c.nt,.slice A6 c.wl.length c6] 38)=W at hA hB hg hs⊢;have T:=vq p.c.ps c.ps hlp.1 hlc.1 W _ _ (hp.1.keep (bq hg)) (hc.1.keep (bq hg));have a1:=(ae hA 1 rfl).1;have a2:=(ae hB 1 rfl).1;by_cases e1:p.c.ps=c.ps;case neg=>
  rw[h? e1]at T
  go_wp2_with (first
   |(go_at_call 78;refine T.mono ?_;rintro e W1 ⟨rfl,g⟩)
   |go_in)
  go_ret
  exact⟨by simp[jy,e1],hg.trans g⟩
 rw[L_ e1]at T;have e1A:Aside (p.c.ps=c.ps):=e1;clear e1;by_cases e2:p.c.qs=c.qs;case neg=>
  go_wp2_with (first
   |(go_at_call 78;refine T.mono ?_;clear T;rintro e W1 ⟨rfl,g⟩
     have C:=vq p.c.qs c.qs hlp.2.1 hlc.2.1 W1 _ _ (hp.2.1.keep (bq (hg.trans g))) (hc.2.1.keep (bq (hg.trans g)));rw[h? e2]at C;have b1:=(ae ((g.block _ Ω Ψ).trans hA) 2 rfl).1;have b2:=(ae ((g.block _ Ω Ψ).trans hB) 2 rfl).1)
   |(go_at_call 78;refine C.mono ?_;rintro e W2 ⟨rfl,r⟩)
   |go_in)
  go_ret
  exact⟨by simp[jy,e2],(hg.trans g).trans r⟩
 have C:=λ(W1:World) (g:W.grownBy W1 none)=>vq p.c.qs c.qs hlp.2.1 hlc.2.1 W1 _ _ (hp.2.1.keep (bq (hg.trans g))) (hc.2.1.keep (bq (hg.trans g)));rw[L_ e2]at C;have e2A:Aside (p.c.qs=c.qs):=e2;clear e2;cases e3:p.c.nt.toList == c.nt.toList;case false=>
  go_wp2_with (first
   |(go_at_call 78;refine T.mono ?_;clear T;rintro e W1 ⟨rfl,g⟩
     have C:=C W1 g;have b1:=(ae ((g.block _ Ω Ψ).trans hA) 2 rfl).1;have b2:=(ae ((g.block _ Ω Ψ).trans hB) 2 rfl).1)
   |(go_at_call 78;refine C.mono ?_;clear C;rintro e W2 ⟨rfl,r⟩
     have d1:=(ae ((r.block _ (by have:=g.size;omega) Ψ).trans ((g.block _ Ω Ψ).trans hA)) 3 rfl).1;have d2:=(ae ((r.block _ (by have:=g.size;omega) Ψ).trans ((g.block _ Ω Ψ).trans hB)) 3 rfl).1)
   |go_in)
  go_ret
  exact⟨by simp[jy,e3],(hg.trans g).trans r⟩
 go_upto_region 3 with(first
  |(go_at_call 78;refine T.mono ?_;clear T;rintro e W1 ⟨rfl,g⟩
    have C:=C W1 g;have b1:=(ae ((g.block _ Ω Ψ).trans hA) 2 rfl).1;have b2:=(ae ((g.block _ Ω Ψ).trans hB) 2 rfl).1)
  |(go_at_call 78;refine C.mono ?_;clear C;rintro e W2 ⟨rfl,r⟩
    have d1:=(ae ((r.block _ (by have:=g.size;omega) Ψ).trans ((g.block _ Ω Ψ).trans hA)) 3 rfl).1;have d2:=(ae ((r.block _ (by have:=g.size;omega) Ψ).trans ((g.block _ Ω Ψ).trans hB)) 3 rfl).1)
  |go_in)
 have hA2:=(r.block _ (by have:=g.size;omega) Ψ).trans ((g.block _ Ω Ψ).trans hA);have hB2:=(r.block _ (by have:=g.size;omega) Ψ).trans ((g.block _ Ω Ψ).trans hB);have P:=(hg.trans g).trans r;have hs2:w.heap.size+2≤W2.heap.size:=by have:=g.size;have:=r.size;omega
 have hq:∀X,W2.grownBy X none→iX X X.heap.size (.slice A3 p.c.wl.length c3) p.c.wl.length (flW p.c.wl):=λX h=>(hp.2.2.keep (bq (P.trans h))).mono (P.trans h).size;have hq':∀X,W2.grownBy X none→iX X X.heap.size (.slice A6 c.wl.length c6) c.wl.length (flW c.wl):=λX h=>(hc.2.2.keep (bq (P.trans h))).mono (P.trans h).size;have f1:=(ae hA2 4 rfl).1;have f2:=(ae hB2 4 rfl).1;have hdr:W2.grownBy W2.drew none:=⟨rfl,rfl,rfl,ζ _,λ_ _ _=>rfl⟩;clear a1 a2 b1 b2 d1 d2 hA hB hg g r hs
 go_region_held3 (λX=>X.cell? ⟨w.heap.size,4,none⟩=some (.slice A3 p.c.wl.length c3)∧X.cell? ⟨w.heap.size+1,4,none⟩=some (.slice A6 c.wl.length c6)) (go_keep)
  (first
   |(go_at_call_of 79 (Value.slice A3 p.c.wl.length c3);refine(JE p.c.wl hlp.2.2 _ _ (hq _ hdr)).mono ?_;rintro e W3 ⟨s6,rfl,hb6,hs6,R⟩
     have g1:=(ae ((R.block _ (by show w.heap.size<W2.heap.size;omega) Ψ).trans hA2) 4 rfl).1;have g2:=(ae ((R.block _ (by show w.heap.size+1<W2.heap.size;omega) Ψ).trans hB2) 4 rfl).1)
   |(go_at_call_of 79 (Value.slice A6 c.wl.length c6);refine(JE c.wl hlc.2.2 _ _ (hq' _ (hdr.trans R))).mono ?_;rintro e W4 ⟨s7,rfl,hb7,hs7,hg4⟩
     have k1:=(ae ((hg4.block _ (by have:=R.size;have:=hdr.size;omega) Ψ).trans ((R.block _ (by show w.heap.size<W2.heap.size;omega) Ψ).trans hA2)) 4 rfl).1;have k2:=(ae ((hg4.block _ (by have:=R.size;have:=hdr.size;omega) Ψ).trans ((R.block _ (by show w.heap.size+1<W2.heap.size;omega) Ψ).trans hB2)) 4 rfl).1))
 have J:=hdr.trans (R.trans hg4);have hA4:=(J.block _ Ω Ψ).trans hA2;have hB4:=(J.block _ Ω Ψ).trans hB2;have hg04:=P.trans J;have hs6:=hs6.kept hg4 Ψ;have hq4':=hq' W4 J;have hs4:w.heap.size+2≤W4.heap.size:=Δ hs2 J.size;clear hq hq' f1 f2 g1 g2 k1 k2 hb6 hb7 hdr R hg4 hA2 hB2 P hs2 J;obtain⟨l,clock,m1,m2,m3,m4,m5⟩:=id hs6;have hborn:∀x∈(vsW l).toArray.toList,x.born<clock:=λx hx=>by unfold vsW at hx;obtain⟨y,hy,rfl⟩:=a_.1 hx;exact m3 y hy
 have hnd:((vsW l).toArray.toList.map (·.born)).Nodup:=by unfold vsW;simpa[r?,Function.comp_def]using m4
 have hent:∀i,i<(vsW l).toArray.size→∃h:i<l.length,(entA (vsW l).toArray i).key=yS l[i].1∧(entA (vsW l).toArray i).val = .bool true:=λi hi=>by
  have hl:i<l.length:=by simpa[vsW]using hi
  refine⟨hl, ?_⟩;have:=entA_at hi;unfold vsW at this⊢;simp[hl]at this;rw[←this];exact⟨rfl,rfl⟩
 go_wp2_with (first
  |(at_range;refine Ca rfl _ 117 rfl 44 4 Oe s6 (vsW l).toArray clock rfl m1 ?_;intro W5 hW5
    have hg45:W4.grownBy W5 none:=by rw[hW5];exact C' _ _ _
    have hr0:RawIt W5 s6 W4.heap.size (vsW l).toArray clock []:=by rw[hW5];exact⟨(Below.heap_alloc _ _ s6 (δ.1 m1).1).trans m1,World.alloc_heap_new _ _,w?,λ_ h=>by cases h⟩
    clear hW5)
  |go_in)
 go_loopw [4] (λ_ wr=>∃is:List Nat,RawIt wr s6 W4.heap.size (vsW l).toArray clock is∧(∀i∈is,∀h:i<l.length,l[i].1∈c.wl)∧W4.grownBy wr none) (λ_ wr=>(vsW l).toArray.size-zP wr W4.heap.size)
 case atStart=>exact⟨[],hr0,λi h=>(by cases h),hg45⟩
 case round=>
  clear hr0 hg45;obtain⟨is,hr,hin,hg5⟩:=hrel
  go_wp2_with (first
   |(at_next;refine Ec rfl _ rfl s6 W4.heap.size (vsW l).toArray clock is hborn hnd rfl hr ?_ ?_)
   |go_in)
  ·intro hall;have hallB:p.c.wl.all (inW c.wl)=true:=by
    rw[G'];intro x hx;obtain⟨y,hy,rfl⟩:=a_.1 ((m2 x).2 hx);obtain⟨i,hi⟩:=Y_ hy;have hl:=(S'.1 hi).1;have:=hin i (hall i (by simpa[vsW]using hl)) hl;rw[ε hl]at hi;cases hi;unfold inW;simpa using this
   have hA5:=(hg5.block _ Ω Ψ).trans hA4;have hB5:=(hg5.block _ Ω Ψ).trans hB4;have f1:=(ae hB5 4 rfl).1;have hs65:=hs6.kept hg5 Ψ;have hg05:=hg04.trans hg5;have hlc3:=hlc.2.2;clear hin hall hr hent hnd hborn m1 m2 m3 m4 m5 hs7 hs6 hA4 hB4
   go_wp2
   clear f1;generalize wr=V at *
   go_loopw [55,8] (λi n wx=>∃k:Nat,k≤c.wl.length∧i = .int .i64 k∧n = .int .i64 ((c.wl.take k).countP (λx=>!inW p.c.wl x):Nat)∧V.grownBy wx none) (λi _ _=>c.wl.length-(Go.RowKit.intOf i).toNat)
   case atStart=>exact⟨0,i_ _,rfl,Ψ,sZ V 0⟩
   case round=>
    obtain⟨k,hk,rfl,rfl,hgx⟩:=hrel;by_cases hlt:k<c.wl.length
    ·obtain⟨pb,po,rfl,hpb,hwr⟩:=NQ hq4' k hlt;obtain⟨x0,x1,x2,x3,x4,x5⟩:=hwr.keep (bq (hg5.trans hgx)) hpb;have hcn:(c.wl.take k).countP (λx=>!inW p.c.wl x)≤k:=Δ akB (by rw[g_];omega);have hct:=Rj (f:=λx=>!inW p.c.wl x) hlt;generalize (c.wl.take k).countP (λx=>!inW p.c.wl x)=cn at hcn hct⊢;have hgX:=hgx.trans (C' wr (.cells #[.int .i64 c.wl[k].id,.int .i64 c.wl[k].fd,.int .i64 c.wl[k].nn,.bool c.wl[k].fl,.string c.wl[k].tx,.int .i64 c.wl[k].rf] 44) none);have U:=FQ (hs65.kept hgX Ψ) c.wl[k];unfold yS at U;cases hb:inW p.c.wl c.wl[k]with
     |false=>
      rw[hb]at U;rw[hb]at hct
      go_wp2
      go_roundw
      case rel=>exact⟨k+1,hlt,Ψ,by rw[hct];simp,hgX⟩
      case measure=>simp[Go.RowKit.intOf];omega
     |true=>
      rw[hb]at U;rw[hb]at hct
      go_wp2
      go_roundw
      case rel=>exact⟨k+1,hlt,Ψ,by rw[hct];simp,hgX⟩
      case measure=>simp[Go.RowKit.intOf];omega
    ·obtain rfl:k=c.wl.length:=Ω
     rw[z_];have f5:=(ae ((hgx.block _ (by have:=hg5.size;omega) Ψ).trans hA5) 5 rfl).1;have hcn:c.wl.countP (λx=>!inW p.c.wl x)≤c.wl.length:=akB;have hX:jy p c=decide (c.wl.countP (λx=>!inW p.c.wl x)=p.left):=by simp[jy,e1A.out,e2A.out,e3,hallB]
     go_wp2
     go_ret
     exact⟨by rw[hX];simp;exact adx _ _,hg05.trans hgx⟩
  ·intro i w6 hi hni hr6 hg6 hsz6 hen;obtain⟨hil,hk,hv⟩:=hent i hi;rw[hk,hv]at hen⊢;have hg46:=CJ hg5 hg6 (ζ _);have hgX:=hg46.trans (C' w6 (.cells #[.int .i64 l[i].1.id,.int .i64 l[i].1.fd,.int .i64 l[i].1.nn,.bool l[i].1.fl,.string l[i].1.tx,.int .i64 l[i].1.rf] 44) none);have U:=FQ (hs7.kept hgX Ψ) l[i].1;have hrX:=hr6.alloc (.cells #[.int .i64 l[i].1.id,.int .i64 l[i].1.fd,.int .i64 l[i].1.nn,.bool l[i].1.fl,.string l[i].1.tx,.int .i64 l[i].1.rf] 44);unfold yS at hen U⊢;clear hr6 hg6 hsz6 hk hv;cases hb:inW c.wl l[i].1 with
   |false=>
    rw[hb]at U
    go_wp2
    go_ret
    refine⟨?_,hg04.trans hgX⟩;have:p.c.wl.all (inW c.wl)=false:=by rw[akW];exact⟨l[i].1,(m2 _).1 (G? (w_ hil)),by rw[hb];simp⟩
    simp[jy,this]
   |true=>
    rw[hb]at U
    go_wp2
    go_roundw
    case rel=>exact⟨_,hrX,λj hj h=>by
     obtain hj|hj:=π.1 hj
     ·exact hin j hj h
     ·obtain rfl:=ξ.1 hj;unfold inW at hb;simpa using hb,hgX⟩
    case measure =>have:=Ct hrX.nd hrX.lt;rw[hrX.len,hr.len,Y'];rw[Y']at this;simp at this⊢;omega
end Abs
namespace Abs
open Go Go.Proofs Go.RowKit Go.Maps Go.Shelf Tryz
open Go.Proofs.YtfgpipfjalmooaaGreat.Clo (SymVal)
def vsC (ps:List ((Int×Value)×Nat)):List MapEntry:=ps.map λp=>⟨.int .i64 p.1.1,p.1.2,p.2⟩
def fsC (ps:List ((Int×Value)×Nat))(k:Int):Option Value:=(ps.find? λp=>p.1.1 == k).map (·.1.2)
def kE (f:List CF)(k:Int):Option CF:=f.find? λc=>c.st == k
def Z9:prog.underlying 82=some (.map 3 38):=Φ
def aiQ:Clo.kOk prog 3 [.i .i64] false:=⟨Φ,Φ⟩
def agm:prog.underlying 3=some (.int .i64):=Φ
def ae7 (k:Int):Clo.keyOk [.i .i64] false (.one (.int .i64 k))=true:=by have:Clo.eqP [.i .i64] false (.one (.int .i64 k)) (.one (.int .i64 k))=some (bif decide (k=k)then true else false):=rfl;unfold Clo.keyOk;rw[this]
def agx (k:Int):∀(ps:List ((Int×Value)×Nat)) (i:Nat),match fsC ps k with
  |some v=>∃j,Instr.findNow (.int .i64) (.int .i64 k) (vsC ps) i=some (some (j,v))
  |none=>Instr.findNow (.int .i64) (.int .i64 k) (vsC ps) i=some none
 |[],i=>rfl
 |p::ps,i=>by
  have f:=agx k ps (i+1);have g:Instr.findNow (.int .i64) (.int .i64 k) (vsC (p::ps)) i=match (some (k == p.1.1):Option Bool)with
   |some true=>some (some (i,p.1.2))
   |some false=>Instr.findNow (.int .i64) (.int .i64 k) (vsC ps) (i+1)
   |none=>none:=by
   unfold vsC;simp[Instr.findNow,Instr.sameNow];cases k == p.1.1 <;> rfl
  have l:fsC (p::ps) k=if p.1.1 == k then some p.1.2 else fsC ps k:=by unfold fsC;rw[List.find?_cons];cases p.1.1 == k <;> rfl
  rw[g,l];by_cases e:p.1.1=k
  ·subst e;simp
  ·have r:¬k=p.1.1:=λh=>e h.symm;simp only[F?.2 e,F?.2 r];exact f
def ut (w:World)(k:Int)(em:Bool):(Instr.checkKey em 10000 3 (.int .i64 k)).run prog w = .ok () w:=by
 letI:=symW
 exact Clo.run_check (P:=prog) (w:=w) (φ:=gxW) aiQ (p :=.one (.int .i64 k)) rfl (ae7 k) em
def FT (w:World)(k:Int)(ps:List ((Int×Value)×Nat)):match fsC ps k with
  |some v=>∃j,(Instr.findKey 3 (.int .i64 k) (vsC ps)).run prog w = .ok (some (j,v)) w
  |none=>(Instr.findKey 3 (.int .i64 k) (vsC ps)).run prog w = .ok none w:=by
 have h:=agx k ps 0;cases e:fsC ps k with
 |some v =>rw[e]at h;obtain⟨j,h⟩:=h;exact⟨j,by simp[Instr.findKey,η agm,h]⟩
 |none =>rw[e]at h;have h:Instr.findNow _ _ _ _=_:=h;show Sem.run _ _ _=_;simp[Instr.findKey,η agm,h]
def xz (w:World)(B:Nat)(W:World)(b:Nat)(j:List CF):Prop :=
 ∃ps clock,W.heap[b]? = some (.map (vsC ps).toArray clock)∧∀k,match kE j k with
  |some c=>∃pv g f,nZ w B c pv g f∧fsC ps k=some (.agg #[.int .i64 c.st,pv,g,.string c.nt,f])
  |none=>fsC ps k=none
variable{w W:World}{B b:Nat}{cs:List CF}
def xz.kept {j :World}(h:xz w B W b cs){row:Option Nat}(l:W.grownBy j row)(f:some b≠row):xz w B j b cs:=by obtain⟨ps,clock,g,p⟩:=h;exact⟨ps,clock,(l.block b (δ.1 g).1 f).trans g,p⟩
def xz.new (w W:World)(B:Nat):xz w B (W.alloc (.map #[] 0)) W.heap.size []:=⟨[],0,World.alloc_heap_new _ _,λ_=>rfl⟩
def KE (cs:List CF)(c:CF)(k:Int):kE (cs++[c]) k=match kE cs k with
  |some d=>some d
  |none=>if c.st == k then some c else none:=by
 unfold kE;rw[List.find?_append];cases cs.find? λc=>c.st == k with
 |some d=>rfl
 |none =>rw[List.find?_singleton];rfl
def xz.skip (h:xz w B W b cs){c d:CF}(g:kE cs c.st=some d):xz w B W b (cs++[c]):=by
 obtain⟨ps,clock,l,j⟩:=h;refine⟨ps,clock,l,λk=>?_⟩;have:=j k;rw[KE];cases e:kE cs k with
 |some x =>rw[e]at this;exact this
 |none=>
  rw[e]at this;have f:(c.st == k)=false:=by apply F?.2;rintro rfl;rw[g]at e;cases e
  simp only[f];exact this
def abz (h:xz w B W b cs)(k:Int) :
  (∃c pv p l,kE cs k=some c∧nZ w B c pv p l∧(Instr.lookup 82 (.map (some b)) (.int .i64 k) true).run prog W = .ok (.tuple #[.agg #[.int .i64 c.st,pv,p,.string c.nt,l],.bool true]) W) ∨
  (kE cs k=none∧(Instr.lookup 82 (.map (some b)) (.int .i64 k) true).run prog W = .ok (.tuple #[.agg #[.int .i64 0,.slice none 0 0,.slice none 0 0,.string { data :=#[] },.slice none 0 0],.bool false]) W):=by
 obtain⟨ps,clock,r,g⟩:=h;have g:=g k;have f:=FT W k ps;have C:(zeroValue 38).run prog W = .ok (.agg #[.int .i64 0,.slice none 0 0,.slice none 0 0,.string { data :=#[] },.slice none 0 0]) W:=Φ
 cases e:kE cs k with
 |some c =>rw[e]at g;obtain⟨pv,p,l,P,J⟩:=g;rw[J]at f;obtain⟨j,f⟩:=f;refine .inl ⟨c,pv,p,l,rfl,P, ?_⟩;simp[Instr.lookup,ν,η Z9,e_ r,ut,f]
 |none =>rw[e]at g;have g:fsC ps k=none:=g;rw[g]at f;have f:Sem.run _ _ _=_:=f;refine .inr ⟨rfl, ?_⟩;simp[Instr.lookup,ν,η Z9,e_ r,ut,f,C]
def aiF (h:xz w B W b cs){c:CF}(hc:kE cs c.st=none){pv qv f:Value}(hr:nZ w B c pv qv f) :
  ∃C,(Instr.mapUpdate 82 (.map (some b)) (.int .i64 c.st) (.agg #[.int .i64 c.st,pv,qv,.string c.nt,f])).run prog W = .ok () C∧xz w B C b (cs++[c])∧W.grownBy C (some b):=by
 obtain⟨ps,clock,r,J⟩:=h;have j:=FT W c.st ps;have l:=J c.st;rw[hc]at l;have l:fsC ps c.st=none:=l;rw[l]at j;have j:Sem.run _ _ _=_:=j;refine⟨{ W with heap:=W.heap.setIfInBounds b (.map ((vsC ps).toArray.push ⟨.int .i64 c.st,.agg #[.int .i64 c.st,pv,qv,.string c.nt,f],clock⟩) (clock+1)) }, ?_,⟨ps++[((c.st,.agg #[.int .i64 c.st,pv,qv,.string c.nt,f]),clock)],clock+1, ?_,λk=>?_⟩,CI _ _ _⟩
 ·simp[Instr.mapUpdate,ν,η Z9,e_ r,ut,j,F_ _ r]
 ·rw[(Go.MapKept.heap_set r).1];simp[vsC]
 ·have g:=J k;have ha:fsC (ps++[((c.st,.agg #[.int .i64 c.st,pv,qv,.string c.nt,f]),clock)]) k=match fsC ps k with
   |some v=>some v
   |none=>if c.st == k then some (.agg #[.int .i64 c.st,pv,qv,.string c.nt,f])else none:=by
   unfold fsC;rw[List.find?_append];cases ps.find? λp=>p.1.1 == k with
   |some d=>rfl
   |none =>rw[List.find?_singleton];cases c.st == k <;> rfl
  rw[KE,ha];cases e:kE cs k with
  |some d =>rw[e]at g;obtain⟨p1,U,T,R,P⟩:=g;rw[P];exact⟨p1,U,T,R,rfl⟩
  |none=>
   rw[e]at g;have g:fsC ps k=none:=g;rw[g];cases c.st == k with
   |true=>exact⟨pv,qv,f,hr,rfl⟩
   |false=>rfl
end Abs
namespace Abs
open Go Go.Proofs Go.RowKit Go.Maps Go.Shelf Tryz
section
variable {P:Program}{ops:Array Oper}{Q:Exit→Act→World→Prop}{R:Region.Mode}{S:World→Prop}
def Kf (R:Region.Mode)(ops:Array Oper)(f:List Nat)(j:Nat):Bool:=f.all λi=>match ops[j]? with
 |some o=>o.after.any λe=>Region.binds R e&&e.on == i
 |none=>false
def pD (P:Program)(R:Region.Mode)(ops:Array Oper)(Q:Exit→Act→World→Prop)(S:World→Prop)(g:List Nat):Nat→Array Bool→Act→World→Prop
 |0,C,a,w=>Region.ready R ops C=[]∧Q .normal a w
 |fuel+1,C,a,w=>
  (Region.ready R ops C=[]→Q .normal a w) ∧
  ∀i∈Region.ready R ops C,wpOp P ops Q i (λj f=>(Kf R ops g i=false→S f)∧pD P R ops Q S g fuel (C.setIfInBounds i true) j f) a w
def xB {is:List Nat}:∀(f:Nat) (C:Array Bool) (a:Act) (w:World),pD P R ops Q S is f C a w→wpAny P R ops Q f C a w
 |0,_,_,_,h=>h
 |f+1,_,_,_,h=>⟨h.1,λi j=>wpOp_mono (λp g l=>xB f _ p g l.2) (h.2 i j)⟩
variable{is:List Nat}{i:Nat}{C:Array Bool}{a:Act}{w:World}
def Lu (his:i∈is){oi:Oper}{v:Value}(hi:ops[i]? = some oi)(T:∀(j:Nat) (o:Oper) cs b,ops[j]? = some o→o.op ≠ .select cs b)
  (hQ:∀c a w,Q (.panic c) (a.put oi.dst v) w→Q (.panic c) a w) :
  ∀(g:Nat) (C:Array Bool) (a:Act) (w:World),
   (∀j oj,ops[j]? = some oj→j≠i→C.getD j true=false→(∀e∈oj.after,Region.binds R e=true→e.on≠i)→oi.apart ops oj=true) →
   i∈Region.ready R ops C→YieldsIf P ops S oi v a→S w →
   pD P R ops Q S is g (C.setIfInBounds i true) (a.put oi.dst v) w→pD P R ops Q S is (g+1) C a w:=by
 intro g;induction g with
 |zero=>
  intro C a w _ hr hy hS H;refine⟨λh=>(by rw[h]at hr;cases hr),λj hj=>?_⟩;by_cases f:j=i
  ·subst f;exact hy.wpOp hi hS ⟨λ_=>hS,H⟩
  ·have:=ready_mono hj f;rw[H.1]at this;cases this
 |succ g ih=>
  intro C a w p hr hy hS H;refine⟨λh=>(by rw[h]at hr;cases hr),λj hj=>?_⟩;by_cases f:j=i
  ·subst f;exact hy.wpOp hi hS ⟨λ_=>hS,H⟩
  ·have h1:=H.2 j (ready_mono hj f);obtain⟨hjun,oj,r,hall⟩:=akJ.1 hj;have U:∀e∈oj.after,Region.binds R e=true→e.on≠i:=λe he hb heq=>by
    have h1:=hall e he hb;have h0:=(akJ.1 hr).1;rw[heq]at h1;obtain h'|h':=Z' i C.size
    ·simp[h']at h0 h1;rw[h0]at h1;cases h1
    ·simp[Array.getElem?_eq_none h']at h1
   have l:Kf R ops is j=false:=by unfold Kf;rw[akW];refine⟨i,his, ?_⟩;rw[r];simp only[Array.any_eq_true',ι,ajY];rintro⟨e,he,hb,heq⟩;exact U e he hb heq
   have h2:=wpOp_putIf r (p j oj r f hjun U) (λcs b=>T i oi cs b hi) (λcs b=>T j oj cs b r) hQ hy h1;have J:∀k ok,ops[k]? = some ok→k≠i→(C.setIfInBounds j true).getD k true=false →
     (∀e∈ok.after,Region.binds R e=true→e.on≠i)→oi.apart ops ok=true:=λk ok hk hki hun hno=>by
    refine p k ok hk hki ?_ hno;by_cases hjk:j=k
    ·subst hjk;exact hjun
    ·rw[getD_set_ne true hjk]at hun;exact hun
   refine wpOp_mono (λa' w' h3=>⟨λ_=>h3.2.1 l,ih (C.setIfInBounds j true) a' w' J (ready_mono hr (Ne.symm f)) h3.1 (h3.2.1 l) ?_⟩) h2;rw[Array.setIfInBounds_comm _ _ f];exact h3.2.2
def dV {f:Nat}(g:Region.ready R ops C=[i])(h:wpOp P ops Q i (λr w'=>(Kf R ops is i=false→S w')∧pD P R ops Q S is f (C.setIfInBounds i true) r w') a w):pD P R ops Q S is (f+1) C a w :=
 ⟨λp=>(by rw[g]at p;cases p),λj l=>by rw[g]at l;rw[ξ.1 l];exact h⟩
def Ke (f:Region.ready R ops C=[])(h:Q .normal a w):pD P R ops Q S is 0 C a w:=⟨f,h⟩
def Hc {w:World}{all:List Nat}(g:Region.noSelect ops=true)(p:S w)(r:∀c d v a w,Q (.panic c) (a.put d v) w→Q (.panic c) a w){f:Nat}:∀(is:List Nat) (C:Array Bool) (a:Act),(∀i∈is,i∈all)→Va R ops is C=true →
  Fp P ops S is (λU=>pD P R ops Q S all f (abC is C) U w) a→pD P R ops Q S all (f+is.length) C a w
 |[],_,_,_,_,h=>h
 |i::is,C,a,hal,hB,h=>by simp only[Va,ι]at hB;obtain⟨o,v,l,J,h⟩:=h;exact Lu (hal i (X' ..)) l (Region.noSelect_spec g) (λc a w h=>r c _ _ a w h) _ C a w (Region.free_spec l hB.1) (by simpa using hB.2.1) J p (Hc g p r is _ _ (λj T=>hal j (F' _ T)) hB.2.2 h)
def tS {id:Nat}(j:P.follows .mixedOrders=true)(g:Region.noSelect ops=true)(is:List Nat)(f:Nat)(l:f+is.length=ops.size)(C:Va .any ops is (Array.replicate ops.size false)=true)(r:∀c d v a w,Q (.panic c) (a.put d v) w→Q (.panic c) a w)(p:S w.drew)
  (h:Fp P ops S is (λJ=>pD P .any ops Q S is f (abC is (Array.replicate ops.size false)) J w.drew) a):(Code.region id ops true).wp P Q a w:=by
 refine wp_region_any j (xB (S:=S) (is:=is) _ _ _ _ ?_);have:=Hc g p r is _ _ (λ_ h=>h) C h;rwa[l]at this
def E5 {o:Oper}{K:Act→World→Prop}{f:FuncId}{args:Array Value}(l:ops[i]? = some o)(g:Region.wanted o (yielded ops a.tmps)=true)(j:(execOp a.eval o).run P w = .ok (.enter f args) w)(h:Calls P f args w λe w'=>∃v,e = .returned v∧K (a.put o.dst v) w'):wpOp P ops Q i K a w:=by unfold wpOp;simp[l,g];refine .inl ?_;unfold Oper.wp;rw[j];refine h.mono ?_;rintro e w' ⟨v,rfl,p⟩;exact p
end
structure FiS (w W:World)(B J T:Nat)(cs:List CF)(U pv:Value)(wl:List Int)(l:List PF)(vs:List (List Value)):Prop where
 below:Below w.heap.size w W
 res:W.heap[w.heap.size+1]? = some (.cells #[.slice none 0 0,.slice none 0 0] 31 (0,0))
 has:xz w w.heap.size W (w.heap.size+2) cs
 lo:w.heap.size+3≤B
 top:B≤J∧J<T∧T≤W.heap.size
 box:W.heap[J]? = some (.cells #[U,pv] 31 (0,0))
 want:W.ownsRow B 3 1 U wl.length (intsI wl)
 parts:W.ownsRow B 54 6 pv l.length vs.flatten
 wlt:∀g,U.ownBlock=some g→g<T
 plt:∀g,pv.ownBlock=some g→g<T
 held:fG W B T l vs
def FiS.old {w W P:World}{B J T:Nat}{C:List CF}{U pv:Value}{p:List Int}{l:List PF}{vs:List (List Value)}{row:Option Nat}(h:FiS w W B J T C U pv p l vs)(f:W.grownBy P row)(j:∀r,row=some r→T≤r):FiS w P B J T C U pv p l vs:=by
 have lo:=h.lo;have R:=h.top;have lt:∀{k:Nat} {o:Obj},W.heap[k]? = some o→k<W.heap.size:=λh=>(δ.1 h).1;have ne:∀k,k<T→some k≠row:=λk hk e=>by have:=j k e.symm;omega
 have k:∀v:Value,(∀g,v.ownBlock=some g→g<T)→v.ownBlock=none∨v.ownBlock≠row:=λv hv=>by
  cases e:v.ownBlock with
  |none=>exact .inl rfl
  |some g=>exact .inr (ne g (hv g e))
 exact⟨h.below.grown f h.below.size λr e=>by have:=j r e;omega,(f.block _ (lt h.res) (ne _ Ω)).trans h.res,h.has.kept f (ne _ Ω),h.lo,⟨h.top.1,h.top.2.1,Δ h.top.2.2 f.size⟩,(f.block _ (lt h.box) (ne _ h.top.2.1)).trans h.box,
  h.want.kept f (k U h.wlt),h.parts.kept f (k pv h.plt),h.wlt,h.plt,h.held.all λx v hx=>hx.old f j⟩
variable{w W' :World}{J:Nat}{cs:List CF}{U pv:Value}{wl:List Int}{l:List PF}{vs:List (List Value)}
def FiS.quiet {W:World}{B T:Nat}(h:FiS w W B J T cs U pv wl l vs)(f:W.grownBy W' none):FiS w W' B J T cs U pv wl l vs:=h.old f λr e=>by cases e
def FiS.mono {w W:World}{B J T j:Nat}{cs:List CF}{U pv:Value}{wl:List Int}{l:List PF}{vs:List (List Value)}(h:FiS w W B J T cs U pv wl l vs)(f:T≤j)(r:j≤W.heap.size):FiS w W B J j cs U pv wl l vs :=
 ⟨h.below,h.res,h.has,h.lo,⟨h.top.1,f_ h.top.2.1 f,r⟩,h.box,h.want,h.parts,λg e=>f_ (h.wlt g e) f,λg e=>f_ (h.plt g e) f,h.held.all λx v p=>p.mono f⟩
def FiS.done {W:World}{B T:Nat}(h:FiS w W B J T cs U pv wl l vs)(C:W.grownBy W' pv.ownBlock){x:PF}{v:List Value}(hx:cN W B W.heap.size x v){pv':Value}(ho:W'.ownsRow B 54 6 pv' (l.length+1) (vs.flatten++v))(hown:pv'.ownBlock=pv.ownBlock∨pv'.ownBlock=some W.heap.size) :
  FiS w (W'.setCell ⟨J,1,none⟩ pv') B J W'.heap.size cs U pv' wl (l++[x]) (vs++[v]):=by
 have lo:=h.lo;have top:=h.top;have lt:∀{k:Nat} {o:Obj},W.heap[k]? = some o→k<W.heap.size:=λh=>(δ.1 h).1;have hsz:=C.size;have p:∀r,pv.ownBlock=some r→B≤r∧∃f,W.heap[r]? = some (.cells f 54 (0,0)):=λr e=>sx h.parts e;have hneq:∀k o,W.heap[k]? = some o→(∀f,o ≠ .cells f 54 (0,0))→some k≠pv.ownBlock:=λk o h1 h2 e=>by obtain⟨_,f,h3⟩:=p k e.symm;rw[h3]at h1;cases h1;exact h2 f rfl
 have j:=(C.block _ (lt h.box) (hneq _ _ h.box λf e=>by cases e)).trans h.box;have hhas':=h.has.kept C (by
  obtain⟨ps,clock,h1,_⟩:=h.has;exact hneq _ _ h1 λf e=>by cases e)
 have R:=(C.block _ (lt h.res) (hneq _ _ h.res λf e=>by cases e)).trans h.res;obtain⟨h1,h2⟩:=cU j 1 pv';have P:∀{e size n:Nat} {u:Value} {xs:List Value},e≠54→W.ownsRow B e size u n xs→W'.ownsRow B e size u n xs:=λ{e size n u xs} hne hu=>by
  cases e':pv.ownBlock with
  |none=>rw[e']at C;exact dq hu C
  |some r=>
   rw[e']at C;obtain⟨_,f,h3⟩:=p r e';exact bK hu C h3 λcur' e=>by cases e;exact hne rfl
 have hpart:∀y u,cN W B W.heap.size y u→cN W' B W'.heap.size y u:=λy u hy=>by
  cases e':pv.ownBlock with
  |none=>rw[e']at C;exact(hy.old C λr e=>by cases e).mono hsz
  |some r =>rw[e']at C;obtain⟨_,f,h3⟩:=p r e';exact(hy.stays C h3 (λcur' e=>by cases e) λcur' e=>by cases e).mono hsz
 have ho1:∀{e size n:Nat} {u:Value} {xs:List Value},e≠31→W'.ownsRow B e size u n xs→(W'.setCell ⟨J,1,none⟩ pv').ownsRow B e size u n xs:=λhne hu=>bK hu h2 j λf e=>by cases e;exact hne rfl
 have hlt':∀{e size n:Nat} {u:Value} {xs:List Value},W'.ownsRow B e size u n xs→∀g,u.ownBlock=some g→g<W'.heap.size:=λhu g e=>by obtain⟨_,f,h3⟩:=sx hu e;exact(δ.1 h3).1
 have hll:(l++[x]).length=l.length+1:=by simp
 refine⟨(h.below.grown C h.below.size λr e=>by have:=(p r e).1;omega).grown h2 (Δ h.below.size hsz) λr e=>by injection e with e;omega,(h2.block _ (δ.1 R).1 λe=>by injection e with e;omega).trans R,hhas'.kept h2 λe=>by injection e with e;omega,h.lo,⟨h.top.1,f_ (lt h.box) hsz,alt (by simp[World.setCell])⟩,by simpa using h1,ho1 Ϛ (P Ϛ h.want),ho1 Ϛ (by rw[hll];simpa using ho),hlt' (P Ϛ h.want),hlt' ho, ?_⟩;have hold:=(h.mono h.top.2.2 (ζ _)).held;exact((hold.push hx).all hpart).all λy u hy=>hy.stays h2 j (λf e=>by cases e) λf e=>by cases e
def FiS.fin {W:World}{B T:Nat}(h:FiS w W B J T cs U pv wl l vs)(r:W'=(W.setCell ⟨w.heap.size+1,0,none⟩ U).setCell ⟨w.heap.size+1,1,none⟩ pv) :
  W'.heap[w.heap.size+1]? = some (.cells #[U,pv] 31 (0,0))∧Below w.heap.size w W'∧W'.ownsRow w.heap.size 3 1 U wl.length (intsI wl)∧W'.ownsRow w.heap.size 54 6 pv l.length vs.flatten∧fG W' w.heap.size W'.heap.size l vs:=by
 subst r;have p:=h.lo;obtain⟨C,g⟩:=Vj (v0:=U) (v1:=pv) h.res;exact⟨C,h.below.grown g h.below.size λk e=>(by injection e with e;omega),iM (bK h.want g h.res λf e=>(by cases e)) Ω,iM (bK h.parts g h.res λf e=>(by cases e)) Ω,
  h.held.all λx v j=>((j.stays g h.res (λf e=>(by cases e)) λf e=>(by cases e)).lo Ω).mono (Δ h.top.2.2 g.size)⟩
def aeb {b:Nat}{a0 a1 a2 a3 a4 a5 v0 v1 v2 v3 v4 v5:Value}{t:TypeId}(h:w.heap[b]? = some (.cells #[a0,a1,a2,a3,a4,a5] t (0,0))) :
  ((((((w.setCell ⟨b,0,none⟩ v0).setCell ⟨b,1,none⟩ v1).setCell ⟨b,2,none⟩ v2).setCell ⟨b,3,none⟩ v3).setCell ⟨b,4,none⟩ v4).setCell ⟨b,5,none⟩ v5).heap[b]? = some (.cells #[v0,v1,v2,v3,v4,v5] t (0,0)) ∧
  w.grownBy ((((((w.setCell ⟨b,0,none⟩ v0).setCell ⟨b,1,none⟩ v1).setCell ⟨b,2,none⟩ v2).setCell ⟨b,3,none⟩ v3).setCell ⟨b,4,none⟩ v4).setCell ⟨b,5,none⟩ v5) (some b):=by
 obtain⟨r,U⟩:=cU h 0 v0;obtain⟨p,T⟩:=cU r 1 v1;obtain⟨l,R⟩:=cU p 2 v2;obtain⟨j,P⟩:=cU l 3 v3;obtain⟨g,J⟩:=cU j 4 v4;obtain⟨f,C⟩:=cU g 5 v5;exact⟨by simpa using f,cX (cX (cX (cX (cX U T) R) P) J) C⟩
structure S18 (J b13:Nat)(U pv s1 s2 s3:Value)(y:PF)(Z:World):Prop where
 c:Z.heap[J]? = some (.cells #[U,pv] 31 (0,0))
 b:Z.heap[b13]? = some (.cells #[.int .i64 y.c.st,s1,s2,.string y.c.nt,s3,.int .i64 y.left] 54 (0,0))
def S18.kept {f:Nat}{s1 s2 s3:Value}{y:PF}{Z j:World}{row:Option Nat}(h:S18 J f U pv s1 s2 s3 y Z)(g:Z.grownBy j row)(p:some J≠row)(l:some f≠row):S18 J f U pv s1 s2 s3 y j :=
 ⟨(g.block _ (δ.1 h.c).1 p).trans h.c,(g.block _ (δ.1 h.b).1 l).trans h.b⟩
def qD {P:Program}{fn:Func}{p q:Tmp}{j:TypeId}(h:fn.results = #[.cell p j,.tmp q])(f:Array Value)(w:World)(g:Nat)(t:TypeId)(cs:Array Value)(r:Nat×Nat)(d:TypeDesc)
  (J:f.getD p undef = .pointer (some ⟨g,0,none⟩)) (T:w.heap[g]? = some (.cells cs t r))
  (C:P.underlying j=some d) (U:(match d with|.struct _|.array _ _=>true|_=>false)=true) (R:(P.info? j).map (·.size)=some cs.size) :
  (results fn f).run P w = .ok (.tuple #[.agg cs,f.getD q undef]) w:=by
 have l:f[p]?.getD undef = .pointer (some ⟨g,0,none⟩):=by simpa using J
 simp[results,h,l,asAddr,run_loadVar_row w g t j cs r d T C U R]
end Abs
