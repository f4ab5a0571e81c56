/- slices. -/
import Derived.Test.YtfgpipfjalmooaaGreatAl
import Derived.Test.YtfgpipfjalmooaaGreatProg
import Derived.RangeFuncGives
import Derived.RangeFuncSeq
import Derived.Sort.MapsRangeIn
import Derived.Shelf.AbstractIn
import Derived.OwnWalkIn
import Derived.TacticsInMore
import Derived.RegionIn
import Derived.LoopNIn
import Derived.LoopIn
import Derived.WalkKit
import Derived.Maps.RangeWalk
import Derived.Shelf.SlIter.Collect
import Derived.Shelf.SlSortCmp.InsertionK
import Derived.StillTailTactics
import Derived.Shelf.SlSortCmp.WholeK
import Derived.Shelf.SlSortCmp.NoneTotal
open Option renaming some→ä,none→ö
open Go renaming World→ü,Value→ß,TypeId→æ,FuncId→ø,undef→å
set_option linter.all false
namespace Go.Proofs.YtfgpipfjalmooaaGreat
namespace Abs
open Go Go.Proofs Go.RowKit Go.Maps Tryz
open Go.ChangeMaps (setBlock)
attribute [local go_sem] Oper.semAt_some
def z8 (x:Int×Int):Value :=.agg #[.int .i64 x.1,.int .i64 x.2]
def ajr:prog.underlying 244=ä (.map 246 144):=Φ
def entA (f:Array MapEntry)(i:Nat):MapEntry:=f.getD i default
variable{es:Array MapEntry}{i clock:Nat}{is:List Nat}
def entA_at (h:i<es.size):es.toList[i]? = ä (entA es i):=by unfold entA;rw[p_,u_,X_ h];rfl
def PZ (h:i<es.size):entA es i∈es.toList:=x? (entA_at h)
def aaT {e:MapEntry}(h:e∈es.toList):∃i,i<es.size∧entA es i=e:=by
 obtain⟨i,g⟩:=f? h;have f:i<es.size:=by simpa using(f_.1 g).1
 refine⟨i,f, ?_⟩;rw[entA_at f]at g;exact Δ g
structure RawIt (W:ü)(b r:Nat)(es:Array MapEntry)(clock:Nat)(is:List Nat):Prop where
 map:W.heap[b]? = ä (.map es clock)
 it:W.heap[r]? = ä (.mapIter (ä b) clock (is.map λi=>(entA es i).born).toArray clock)
 nd:is.Nodup
 lt:∀i∈is,i<es.size
def RawIt.ne {W:ü}{b r:Nat}(h:RawIt W b r es clock is):r≠b:=λe=>by have f:=h.it;rw[e,h.map]at f;cases f
def RawIt.kept {W g:ü}{b r:Nat}(h:RawIt W b r es clock is)(f:KeepsWalks W g):RawIt g b r es clock is:=by exact⟨f.same _ _ h.map rfl,f.same _ _ h.it rfl,h.nd,h.lt⟩
section
variable {F:Fence}{n:Nat}{P:Program}{w:ü}{ops:Array Oper}{rest:List Oper}{o:Oper}{a:Act}{Q:Exit→Act→ü→Prop}
def xn (J:o.guard=ö)(m:Operand)(t:æ)(f:o.op=Op.range t m)(k e:æ)(r:P.underlying t=ä (.map k e))(b:Nat)(es:Array MapEntry)(clock:Nat)(C:a.eval m = .map (ä b))(R:w.heap[b]? = ä (.map es clock))
  (T:∀p,p=w.alloc (.mapIter (ä b) clock #[] clock)→wpListIn F n P ops Q rest (a.put o.dst (.pointer (ä ⟨w.heap.size,0,ö⟩))) p):wpListIn F n P ops Q (o::rest) a w:=by
 refine wpListIn_plain J λU l=>?_;have g:=run_range_map w t k e b es clock r R;unfold Oper.wpIn;refine⟨?_, ?_⟩
 ·simp[Oper.about,f]
 ·rw[Oper.semAt_plain F _ _ (by rw[f];intro c j;cases j)];simp[execOp,f,C,g,Result.andThen];exact l _ _ (T _ rfl)
def nk (hg:o.guard=ö)(it:Operand)(hop:o.op=Op.next it false)(b r:Nat)(es:Array MapEntry)(clock:Nat)(is:List Nat)(hborn:∀x∈es.toList,x.born<clock)(hnd:(es.toList.map (·.born)).Nodup)
  (hit:a.eval it = .pointer (ä ⟨r,0,ö⟩)) (h:RawIt w b r es clock is)
  (hDone:(∀i,i<es.size→i∈is)→wpListIn F n P ops Q rest (a.put o.dst (.tuple #[.bool false])) w)
  (hMore:∀i w',i<es.size→i ∉ is→RawIt w' b r es clock (is++[i])→w.grownBy w' (ä r)→w'.heap.size=w.heap.size→(Instr.entry (.pointer (ä ⟨r,0,ö⟩))).run P w' = .ok (.tuple #[(entA es i).key,(entA es i).val]) w' →
   wpListIn F n P ops Q rest (a.put o.dst (.tuple #[.bool true,(entA es i).key,(entA es i).val])) w'):wpListIn F n P ops Q (o::rest) a w:=by
 refine wpListIn_plain hg λK' hK'=>?_;unfold Oper.wpIn;refine⟨by simp[Oper.about,hop], ?_⟩;rw[Oper.semAt_plain F _ _ (by rw[hop];intro c hc';cases hc')];have hinj:∀i j,i<es.size→j<es.size→(entA es i).born=(entA es j).born→i=j:=λi j p T he=>by
  have h1:(es.toList.map (·.born))[i]? = ä (entA es i).born:=by rw[F_,entA_at p];rfl
  have h2:(es.toList.map (·.born))[j]? = ä (entA es i).born:=by rw[F_,entA_at T,he];rfl
  have hi':i<(es.toList.map (·.born)).length:=by simpa using p
  have hj':j<(es.toList.map (·.born)).length:=by simpa using T
  rw[ζ hi']at h1;rw[ζ hj']at h2;have he2:=(Δ h1).trans (Δ h2).symm;obtain hlt|he'|hlt:=z? i j
  ·exact(W_.1 hnd i j hi' hj' hlt he2).elim
  ·exact he'
  ·exact(W_.1 hnd j i hj' hi' hlt he2.symm).elim
 have C:∀i,i<es.size→((is.map λi=>(entA es i).born).toArray.contains (entA es i).born=true↔i∈is):=λi p=>by rw[alZ,a?,a_];exact⟨λ⟨j,T,he⟩=>hinj j i (h.lt j T) p he ▸ T,λhm=>⟨i,hm,rfl⟩⟩
 rcases run_next_at (P:=P) w o.type r b clock clock (is.map λi=>(entA es i).born).toArray es clock h.it h.map hborn (ε _)with⟨h0,f⟩|⟨e,he,w1,hw1,f⟩
 ·simp[execOp,hop,hit,f,Result.andThen];refine hK' _ _ (hDone λi p=>?_);apply akH;intro hni;have g:entA es i∈(leftOf es (is.map λi=>(entA es i).born).toArray).toList:=by
   unfold leftOf;rw[z_,akR];refine⟨z_.1 (PZ p), ?_⟩;cases hc:(is.map λi=>(entA es i).born).toArray.contains (entA es i).born with
   |false=>rfl
   |true=>exact(hni ((C i p).1 hc)).elim
  have:=akl g;rw[ο]at this;omega
 ·unfold leftOf at he;have g:=akR.1 (z_.1 he);obtain⟨i,p,rfl⟩:=aaT (z_.2 g.1);have hni:i ∉ is:=λhm=>by
   have:=(C i p).2 hm;rw[this]at g;simp at g
  have J:w1.heap=w.heap:=by obtain rfl|rfl:=hw1 <;> rfl
  have hit1:w1.heap[r]? = ä (.mapIter (ä b) clock (is.map λi=>(entA es i).born).toArray clock):=by rw[J];exact h.it
  have R:(is.map λi=>(entA es i).born).toArray.push (entA es i).born=((is++[i]).map λi=>(entA es i).born).toArray:=by simp
  rw[R]at f;have hg1:w.grownBy (setBlock w1 r (.mapIter (ä b) clock ((is++[i]).map λi=>(entA es i).born).toArray clock)) (ä r):=by
   refine⟨?_, ?_, ?_, ?_,λk _ hk=>?_⟩
   ·obtain rfl|rfl:=hw1 <;> rfl
   ·obtain rfl|rfl:=hw1 <;> rfl
   ·obtain rfl|rfl:=hw1 <;> rfl
   ·simp[setBlock,J]
   ·rw[show(setBlock w1 r _).heap[k]? = _ from(ako hit1).2 k λe=>hk (by rw[e]),J]
  have hsz2:(setBlock w1 r (.mapIter (ä b) clock ((is++[i]).map λi=>(entA es i).born).toArray clock)).heap.size=w.heap.size:=by simp[setBlock,J]
  have U:(setBlock w1 r (.mapIter (ä b) clock ((is++[i]).map λi=>(entA es i).born).toArray clock)).heap[r]? = ä (.mapIter (ä b) clock ((is++[i]).map λi=>(entA es i).born).toArray clock):=(ako hit1).1;have l:(setBlock w1 r (.mapIter (ä b) clock ((is++[i]).map λi=>(entA es i).born).toArray clock)).heap[b]? = ä (.map es clock):=by rw[show(setBlock w1 r _).heap[b]? = _ from(ako hit1).2 b λe=>h.ne e.symm,J];exact h.map
  generalize setBlock w1 r (.mapIter (ä b) clock ((is++[i]).map λi=>(entA es i).born).toArray clock)=w2 at f hg1 U l hsz2;simp[execOp,hop,hit,f,Result.andThen];refine hK' _ _ (hMore i w2 p hni ⟨l,U, ?_, ?_⟩ hg1 hsz2 ?_)
  ·rw[alg];exact⟨h.nd,Ψ,λx hx y hy e=>hni (by rw[E']at hy;rw[←hy,←e];exact hx)⟩
  ·intro j T;obtain T|T:=q'.1 T
   ·exact h.lt j T
   ·rw[E'.1 T];exact p
  ·exact run_entry_at w2 r b clock (is.map λi=>(entA es i).born).toArray es clock (entA es i) (by rw[U,←R]) l (PZ p) hnd
end
attribute [local go_sem] Oper.semAt_some
def C5 (W:ü)(r:Nat):Nat:=match W.heap[r]? with
 |some (.mapIter _ _ seen _)=>seen.size
 |_=>0
variable{is:List Nat}
def RawIt.len {W:ü}{b r:Nat}{es:Array MapEntry}{clock:Nat}(h:RawIt W b r es clock is):C5 W r=is.length:=by unfold C5;rw[h.it];simp
def II {n:Nat}(g:is.Nodup)(p:∀i∈is,i<n):is.length≤n:=by
 have:∀{a:List Nat} {b:List Nat},a.Nodup→(∀x∈a,x∈b)→a.length≤b.length:=by
  intro a;induction a with
  |nil=>intro b _ _;exact Y' _
  |cons x a l =>intro b g h;have ⟨C,r⟩:=aj7.1 g;have f:=h x (m_ ..);have:=l (b:=b.erase x) r λy j=>(ak2 λe:y=x=>C (by rw[←e];exact j)).2 (h y (e_ _ j));rw[akJ f]at this;have:=akl f;simp;omega
 have:=this g λx f=>N_.2 (p x f);rwa[List.length_range]at this
def RawIt.alloc {W:ü}{b r:Nat}{es:Array MapEntry}{clock:Nat}{is:List Nat}(h:RawIt W b r es clock is)(o:Obj):RawIt (W.alloc o) b r es clock is:=h.kept (KeepsWalks.alloc _ _)
set_option maxRecDepth 100000 in
set_option maxHeartbeats 1000000 in
def aa6 (F:Fence)(n:Nat)(h10:F.fn 244)(hro:F.round=ö)(hn:1≤n)(l Bm b:Nat)(es:Array MapEntry)(clock:Nat)(C:∀x∈es.toList,x.born<clock)(hnd:(es.toList.map (·.born)).Nodup)(R:∀i,i<es.size→∃x,(entA es i).key=z8 x)(J:List Nat→ü→Prop)
  (hY:∀is i W,J is W→is.Nodup→i<es.size→i ∉ is→is.length<es.size→YieldAt F (n-1) prog l #[(entA es i).key] W λe W'=>e = .returned (.bool true)∧J (is++[i]) W'∧KeepsWalks W W')
  (W:ü) (hJ:AbidesFrom W.heap.size J) (hm:W.cell? ⟨Bm,0,ö⟩=ä (.map (ä b))) (hb:W.heap[b]? = ä (.map es clock)) (h0:J [] W) :
  CallsIn F n prog 244 #[.func (.yield l) #[] #[],.pointer (ä ⟨Bm,0,ö⟩)] W λe W'=>(∃v,e = .returned v)∧∃is:List Nat,is.Nodup∧(∀i,i∈is↔i<es.size)∧J is W':=by
 refine callsIn_of_wp func244 rfl h10 ?_ hro;simp[ntmps244,l?,v_,J?,Nat.reduceAdd,Nat.reduceSub,P?,O?,K?,Q?,s_,aj3]
 gi_wp2_with (first
  |(gi_at_range;refine xn rfl _ 244 rfl 246 144 ajr b es clock rfl hb ?_;intro w0 p)
  |gi_in)
 have hg0:W.grownBy w0 none:=by rw[p];exact κ _ _ _
 have hr0:RawIt w0 b W.heap.size es clock []:=by rw[p];exact⟨(Below.heap_alloc _ _ b (δ.1 hb).1).trans hb,World.alloc_heap_new _ _,ajZ,λ_ h=>by cases h⟩
 clear p
 go_frame
 gi_loopw [3] (λ_ wr=>∃is:List Nat,RawIt wr b W.heap.size es clock is∧J is wr) (λ_ wr=>es.size-C5 wr W.heap.size)
 case atStart=>exact⟨[],hr0,hJ [] W w0 ö h0 hg0 (λr e=>by cases e)⟩
 case round=>
  obtain⟨is,g,hJs⟩:=hrel
  gi_wp2_with (first
   |(gi_at_next;refine nk rfl _ rfl b W.heap.size es clock is C hnd rfl g ?_ ?_)
   |gi_in)
  ·
   intro U
   gi_wp2
   go_end0
   exact⟨⟨_,rfl⟩,is,g.nd,λi=>⟨g.lt i,U i⟩,hJs⟩
  ·intro i w2 hi hni f hg2 hs2 T;obtain⟨x,hx⟩:=R i hi;have hJ2:J is w2:=hJ is wr w2 (ä W.heap.size) hJs hg2 (λr e=>by cases e;exact⟨ε _,_,g.it,rfl⟩);have hJ3:J is (w2.alloc (.cells #[.int .i64 x.1,.int .i64 x.2] 246)):=hJ is w2 _ ö hJ2 (κ _ _ _) (λr e=>by cases e);have hlen:=f.lt;have hll:is.length<es.size:=by
    have:=II f.nd f.lt;rw[J']at this;exact this
   obtain⟨fn,tmps,assign,body,hy,hR⟩:=hY is i _ hJ3 g.nd hi hni hll;rw[hx]at hy T⊢;have P:=f.alloc (.cells #[.int .i64 x.1,.int .i64 x.2] 246);clear hs2;unfold z8 at hy T⊢
   gi_wp2
   refine hR.mono ?_;rintro e W3 ⟨rfl,hJ4,hk3⟩
   gi_wp2
   have j:=P.kept hk3
   go_roundw
   case rel=>exact⟨_,j,hJ4⟩
   case measure=>rw[j.len,g.len,J'];simp;omega
def Pd (F:Fence)(n:Nat)(h10:F.fn 244)(C:F.round=ö)(hn:1≤n)(r b:Nat)(es:Array MapEntry)(clock:Nat)(g:∀x∈es.toList,x.born<clock)(P:(es.toList.map (·.born)).Nodup)(j:Nat→Int×Int)(f:∀i,i<es.size→(entA es i).key=z8 (j i))
  (w:ü) (T:r<w.heap.size) (hm:w.cell? ⟨r,0,ö⟩=ä (.map (ä b))) (hb:w.heap[b]? = ä (.map es clock)) :
  SeqGives F n prog 244 #[.pointer (ä ⟨r,0,ö⟩)] (λi=>z8 (j i)) (λis:List Nat=>is.Nodup∧∀i,i∈is↔i<es.size) es.size w:=λl J W hW hJ hY h0=>by
 refine(aa6 F n h10 C hn l r b es clock g P (λi R=>⟨_,f i R⟩) J (λis i W1 h1 _ R _ U=>by rw[f i R];exact hY is i W1 h1 U) W hJ ((hW.cell (p:=⟨r,0,ö⟩) T).trans hm) ((hW.block b (δ.1 hb).1).trans hb) h0).mono ?_;rintro e W' ⟨h1,is,U,h3,h4⟩;exact⟨h1,is,⟨U,h3⟩,h4⟩
open Go.Shelf
attribute [local go_sem] Oper.semAt_some
def ajq:prog.underlying 249=ä (.slice 246):=Φ
def ajc:(prog.info? 246).map (λi=>(i.zero,i.size,i.bytes))=ä (ä (.agg #[.int .i64 0,.int .i64 0]),2,16):=Φ
def celS (x:Int×Int):List Value:=[.int .i64 x.1,.int .i64 x.2]
def flS (l:List (Int×Int)):List Value:=(l.map celS).flatten
def afi (l:List (Int×Int))(x:Int×Int):flS (l++[x])=flS l++celS x:=by simp[flS]
def LU (l:List (Int×Int)):(flS l).length=l.length*2:=by
 induction l with
 |nil=>rfl
 |cons x l f=>simp[flS,celS]at f⊢;omega
def apA:Code :=.region 2 #[{ dst:=ä 5,op:=Op.alloc 246,type:=0,pos:="iter.go:51",after :=#[],guard:=ö },
 { dst:=ö,op:=Op.store 246 (Operand.tmp 5) (Operand.tmp 7),type:=0,pos:="iter.go:51",after :=#[{ on:=0,ground:=Ground.data },{ on:=0,ground:=Ground.phase }],guard:=ö }] false
def apB:Code :=.block 1 (.region 3 #[{ dst:=ä 8,op:=Op.load 249 (Operand.tmp 2),type:=249,pos:="iter.go:52",after :=#[],guard:=ö },
 { dst:=ä 9,op:=Op.load 246 (Operand.tmp 5),type:=246,pos:="iter.go:52",after :=#[],guard:=ö },
 { dst:=ä 10,op:=Op.buildSlice 249 1 #[(0,Operand.tmp 9)],type:=249,pos:="iter.go:52",after :=#[{ on:=1,ground:=Ground.data }],guard:=ö },
 { dst:=ä 11,op:=Op.call { callee:=Callee.builtin Builtin.append,args :=#[Operand.tmp 8,Operand.tmp 10],argTypes :=#[249,249] },type:=249,pos:="iter.go:52",after :=#[{ on:=0,ground:=Ground.data },{ on:=2,ground:=Ground.data }],guard:=ö },
 { dst:=ö,op:=Op.store 249 (Operand.tmp 2) (Operand.tmp 11),type:=0,pos:="iter.go:52",after :=#[{ on:=3,ground:=Ground.data },{ on:=3,ground:=Ground.chain },{ on:=0,ground:=Ground.phase },{ on:=1,ground:=Ground.phase },{ on:=2,ground:=Ground.phase },{ on:=3,ground:=Ground.phase }],guard:=ö }] false)
def sy (fn:ø)(sv:ß)(j D:Nat)(g:LoopState)(f:Option Code):Loop :=
 { state:=g,pending:=f,fn,tmps :=#[.slice ö 0 0,sv,.pointer (ä ⟨j,0,ö⟩),å,.slice ö 0 0,å,sv,å,å,å,å,å,å],params :=#[7],assign:=apA,body:=apB,defers:=D }
structure ApS (key:Nat→Int×Int)(w0:ü)(fn:ø)(sv:ß)(Bs l D:Nat)(is:List Nat)(W:ü):Prop where
 box:∃v,W.heap[Bs]? = ä (.cells #[v] 249 (0,0))∧W.ownsRow w0.heap.size 246 2 v is.length (flS (is.map key))
 L:W.heap[l]? = ä (.loop (sy fn sv Bs D .ready ö))
 K:W.heap[D]? = ä (.deferred (ä []))
 below:Below w0.heap.size w0 W
def TH (p:Nat→Int×Int)(C:ü)(fn:ø)(P:ß)(U l D B:Nat)(T:C.heap.size≤B):AbidesFrom B (ApS p C fn P U l D):=λs W W' row h j g=>by
 have f:∀r,row=ä r→∃o:Obj,W.heap[r]? = ä o∧o.isWalk=true:=λr e=>(g r e).2;obtain⟨v,J,R⟩:=h.box;exact⟨⟨v,(grownBy_keeps j f J rfl).trans J,ownsRow_abides_a R j f⟩,(grownBy_keeps j f h.L rfl).trans h.L,(grownBy_keeps j f h.K rfl).trans h.K,
  h.below.grown j h.below.size (λk e=>ξ T (g k e).1)⟩
def Ml (w:ü)(a b:ß)(t:æ):∀j u,[a,b][j]? = ä u→(w.alloc (.cells #[a,b] t)).cell? ((⟨w.heap.size,0,ö⟩:Addr).add j)=ä u:=λj u h=>by
 have f:=World.alloc_heap_new w (.cells #[a,b] t);match j,h with
 |0,h=>cases h;show World.cell? _ ⟨w.heap.size,0,ö⟩=_;unfold World.cell?;rw[f];rfl
 |1,h=>cases h;show World.cell? _ ⟨w.heap.size,1,ö⟩=_;unfold World.cell?;rw[f];rfl
set_option maxRecDepth 100000 in
set_option maxHeartbeats 2000000 in
def ade (f:Nat→Int×Int)(F:Fence)(m:Nat)(w0:ü)(fn:ø)(hfn:F.fn fn)(sv:ß)(p l D:Nat)(hBl:p≠l)(hDl:D≠l)(hDB:D≠p)(h0B:w0.heap.size≤p)(h0l:w0.heap.size≤l)
  (N:Nat) (hN:N≤maxLen) (hNb:N*16≤140737488355328) (ss:List Nat) (x:Nat) (W:ü) (h:ApS f w0 fn sv p l D ss W) (hlen:ss.length<N) :
  YieldAt F m prog l #[z8 (f x)] W λe W'=>e = .returned (.bool true)∧ApS f w0 fn sv p l D (ss++[x]) W'∧KeepsWalks W W':=by
 have hne:(249:æ)≠246:=by decide
 obtain⟨i0,hi,hz0,hz1,hz2⟩:=info_parts ajc;obtain⟨v,hv,hrow⟩:=h.box;refine⟨fn, #[.slice ö 0 0,sv,.pointer (ä ⟨p,0,ö⟩),å,.slice ö 0 0,å,sv,z8 (f x),å,å,å,å,å],apA,apB,by simpa[sy]using run_yield (P:=prog) (args :=#[z8 (f x)]) h.L rfl,roundIn_of_wpIn hfn ?_⟩;unfold apA z8
 gi_wp2_with gi_round_op_a
 have hl0:l<W.heap.size:=(δ.1 h.L).1;obtain⟨WA,hWA⟩:∃WA,W.alloc (.cells #[.int .i64 (f x).1,.int .i64 (f x).2] 246)=WA:=⟨_,rfl⟩;have hWl:=λk hk=>Below.heap_alloc W (.cells #[.int .i64 (f x).1,.int .i64 (f x).2] 246) k hk;have hWn:=World.alloc_heap_new W (.cells #[.int .i64 (f x).1,.int .i64 (f x).2] 246);have hWg:=κ W (.cells #[.int .i64 (f x).1,.int .i64 (f x).2] 246);have hWk:=KeepsWalks.alloc W (.cells #[.int .i64 (f x).1,.int .i64 (f x).2] 246);have hWr:=hrow.alloc (.cells #[.int .i64 (f x).1,.int .i64 (f x).2] 246);have hWb:=h.below.alloc h.below.size (.cells #[.int .i64 (f x).1,.int .i64 (f x).2] 246);have hWs:WA.heap.size=W.heap.size+1:=by rw[←hWA];simp
 rw[hWA]at hWl hWn hWg hWk hWr hWb;have hLA:WA.heap[l]? = ä (.loop (sy fn sv p D .ready ö)):=(hWl l hl0).trans h.L;have hl:l<WA.heap.size:=Ω
 have hbr:=run_beginRound (P:=prog) hLA rfl;obtain⟨r,J⟩:∃r,WA.putObj l (.loop { sy fn sv p D .ready ö with state :=.busy })=r:=⟨_,rfl⟩;rw[J]at hbr;have hg2:WA.grownBy r (ä l):=by rw[←J];exact grownBy_putObj_a _ _ _
 have hk2:KeepsWalks W r:=hWk.trans (by rw[←J];exact KeepsWalks.putObj _ hLA rfl);have hv2:r.heap[p]? = ä (.cells #[v] 249 (0,0)):=by rw[←J];exact(World.putObj_heap_other hBl).trans ((hWl p (δ.1 hv).1).trans hv)
 have hK2:r.heap[D]? = ä (.deferred (ä [])):=by rw[←J];exact(World.putObj_heap_other hDl).trans ((hWl D (δ.1 h.K).1).trans h.K)
 have hx2:r.heap[W.heap.size]? = ä (.cells #[.int .i64 (f x).1,.int .i64 (f x).2] 246 (0,0)):=by rw[←J];exact(World.putObj_heap_other Ω).trans hWn
 have hL2:r.heap[l]? = ä (.loop { sy fn sv p D .ready ö with state :=.busy }):=by rw[←J];exact World.putObj_heap_same hl
 have C:r.ownsRow w0.heap.size 246 2 v ss.length (flS (ss.map f)):=hWr.kept hg2 (ownsRow_ne_a hWr hLA (λU e=>by first|cases e|exact hne (Z? e).2.1));have hb2:Below w0.heap.size w0 r:=hWb.grown hg2 hWb.size (λk e=>by cases e;exact h0l);obtain⟨hc2,hf2⟩:=cell_of_box_a hv2;have hBlt:p<r.heap.size:=(δ.1 hv2).1;have hl2:l<r.heap.size:=(δ.1 hL2).1;have hDlt:D<r.heap.size:=(δ.1 hK2).1;have hxlt:W.heap.size<r.heap.size:=(δ.1 hx2).1;have hx20:r.cell? ⟨W.heap.size,0,ö⟩=ä (.int .i64 (f x).1):=by simp[World.cell?,hx2]
 have hx21:r.cell? ⟨W.heap.size,1,ö⟩=ä (.int .i64 (f x).2):=by simp[World.cell?,hx2]
 have R:∀{j:Nat} {o:Obj},r.heap[j]? = ä o→(∀U,o ≠ .cells U 246 (0,0))→ä j≠v.ownBlock:=λhj hno=>by
  obtain e|e:=ownsRow_ne_a C hj hno
  ·rw[e];simp
  ·exact λe'=>e e'.symm
 clear hWl;rw[hWA];refine⟨r,hbr, ?_⟩;clear J hWA hbr;unfold apB
 gi_wp2_with (first
  |(gi_at_builtin;refine wpListIn_append_own _ rfl _ _ 249 rfl w0.heap.size 246 i0 (.agg #[.int .i64 0,.int .i64 0]) 2 16 ajq hi hz0 hz1 hz2 rfl Ϛ _ _ _ rfl (C.alloc _) ⟨r.heap.size,0,ö⟩ 1 1 (celS (f x)) rfl rfl (Ml _ _ _ _) (by simp[Value.oneCell',celS]) Ω Ω (by have:=hb2.size;simp;omega) ?_;intro v' w3 T hg3 hnil3
    have hv3:w3.heap[p]? = ä (.cells #[v] 249 (0,0)):=(hg3.block p Ξ (R hv2 (λU e=>by first|cases e|exact hne (Z? e).2.1))).trans ((Below.heap_alloc _ _ p hBlt).trans hv2);obtain⟨hc3,hf3⟩:=cell_of_box_a hv3;obtain⟨g',g,cur',rfl,hbase',hgb',hr1,hr2,hr3,hr4⟩:∃g' g cur',v' = .slice (ä ⟨g',0,ö⟩) (ss.length+1) g∧w0.heap.size≤g'∧w3.heap[g']? = ä (.cells cur' 246 (0,0))∧ss.length+1≤g∧g≤maxLen∧cur'.size=g*2∧cur'.toList.take ((ss.length+1)*2)=flS (ss.map f)++celS (f x):=by
     rcases T.2 with⟨_,h0⟩|h'
     ·exact absurd h0 Ω
     ·exact h'
    go_frame)
  |gi_round_op_a)
 have hg3':(r.alloc (.cells #[.int .i64 (f x).1,.int .i64 (f x).2] 246)).grownBy w3 v.ownBlock:=hg3;have hL3:w3.heap[l]? = ä (.loop { sy fn sv p D .ready ö with state :=.busy }):=(hg3'.block l Ξ (R hL2 (λU e=>by first|cases e|exact hne (Z? e).2.1))).trans ((Below.heap_alloc _ _ l hl2).trans hL2);have hK3:w3.heap[D]? = ä (.deferred (ä [])):=(hg3'.block D Ξ (R hK2 (λU e=>by first|cases e|exact hne (Z? e).2.1))).trans ((Below.heap_alloc _ _ D hDlt).trans hK2);obtain⟨w4,hw4⟩:∃w4,w3.setCell ⟨p,0,ö⟩ (.slice (ä ⟨g',0,ö⟩) (ss.length+1) g)=w4:=⟨_,rfl⟩;rw[hw4];have hg4:w3.grownBy w4 (ä p):=by rw[←hw4];exact grownBy_setCell0_a _ _ _
 have hv4:w4.heap[p]? = ä (.cells #[.slice (ä ⟨g',0,ö⟩) (ss.length+1) g] 249 (0,0)):=by rw[←hw4];exact heap_setCell_box_a _ hv3
 have hL4:w4.heap[l]? = ä (.loop { sy fn sv p D .ready ö with state :=.busy }):=(hg4.block l (δ.1 hL3).1 (λe=>hBl (by cases e;rfl))).trans hL3;have hK4:w4.heap[D]? = ä (.deferred (ä [])):=(hg4.block D (δ.1 hK3).1 (λe=>hDB (by cases e;rfl))).trans hK3;have hrow4:=T.kept hg4 (ownsRow_ne_a T hv3 (λU e=>by first|cases e|exact hne (Z? e).2.1));have hl4:l<w4.heap.size:=(δ.1 hL4).1;have hb3:Below w0.heap.size w0 w3:=(hb2.alloc hb2.size _).grown hg3' (by have:=hb2.size;simp;omega) (λk e=>(C.lt k e).1);have hb4:Below w0.heap.size w0 w4:=hb3.grown hg4 hb3.size (λk e=>by cases e;exact h0B);have hk4:KeepsWalks W w4:=((hk2.trans (KeepsWalks.alloc _ _)).trans (KeepsWalks.of_grownBy hg3' (ownsRow_not_walk_a (C.alloc _)))).trans (by rw[←hw4];exact KeepsWalks.setCell _ _ _);clear hw4;refine⟨_,_,run_endRound ö hL4,rfl,⟨⟨_,(World.putObj_heap_other hBl).trans hv4, ?_⟩,World.putObj_heap_same hl4,(World.putObj_heap_other hDl).trans hK4,hb4.grown (grownBy_putObj_a _ _ _) hb4.size (λk e=>by cases e;exact h0l)⟩,hk4.trans (KeepsWalks.putObj _ hL4 rfl)⟩;have:=hrow4.kept (grownBy_putObj_a w4 l (.loop { { sy fn sv p D .ready ö with state :=.busy }with state:=if (ö:Option Code).isNone then .ready else .done,pending:=ö })) (ownsRow_ne_a hrow4 hL4 (λU e=>by first|cases e|exact hne (Z? e).2.1));rw[T_,show List.map f [x]=[f x] from rfl,afi];simpa using this
set_option maxRecDepth 100000 in
set_option maxHeartbeats 2000000 in
def HU (f:Nat→Int×Int)(F:Fence)(n:Nat)(h11:F.fn 290)(hro:F.round=ö)(hn:2≤n)(g:Nat)(C:Array ß)(hFg:F.fn g)(eg:∀args w,(callFunc g args).run prog w = .ok (.enter g args) w)
  (S:List Nat→Prop) (N:Nat) (hN:N≤maxLen) (hNb:N*16≤140737488355328) (w:ü) (hseq:SeqGives F (n-1) prog g C (λi=>z8 (f i)) S N w) :
  CallsIn F n prog 290 #[.slice ö 0 0,.func (.func g) #[] C] w λe w'=>∃(v:ß) (is:List Nat),e = .returned v∧S is∧w'.ownsRow w.heap.size 246 2 v is.length (flS (is.map f))∧Below w.heap.size w w':=by
 have h1:1≤n:=Ω
 have hne:(249:æ)≠246:=by decide
 refine callsIn_of_wp_marks func290 rfl h11 ?_ hro;simp only[ntmps290,l?,v_,J?,Nat.reduceAdd,Nat.reduceSub,P?,O?,K?,Q?,s_,aj3]
 gi_wp2
 refine wpIn_rangeFunc ?_;intro fn hfn;rw[hro];obtain⟨W0,J⟩:∃W0,w.alloc (.cells #[.slice ö 0 0] 249)=W0:=⟨_,rfl⟩;have hs0:W0.heap.size=w.heap.size+1:=by rw[←J];simp
 have hv0:W0.heap[w.heap.size]? = ä (.cells #[.slice ö 0 0] 249 (0,0)):=by rw[←J];exact World.alloc_heap_new w _
 have hb0:Below w.heap.size w W0:=by rw[←J];exact(Below.refl _ w).alloc (ε _) _
 rw[J];obtain⟨r,j⟩:∃r,(W0.alloc (.deferred (ä []))).alloc (.loop (sy fn (.func (.func g) #[] C) w.heap.size W0.heap.size .ready ö))=r:=⟨_,rfl⟩;have hold:∀k,k<W0.heap.size→r.heap[k]? = W0.heap[k]?:=λk hk=>by rw[←j];exact(Below.heap_alloc _ _ k Ξ).trans (Below.heap_alloc _ _ k hk)
 have U:Below w.heap.size w r:=by rw[←j];exact(hb0.alloc hb0.size _).alloc (by have:=hb0.size;simp;omega) _
 have hs1:r.heap.size=W0.heap.size+2:=by rw[←j];simp
 have hM:ApS f w fn (.func (.func g) #[] C) w.heap.size (W0.heap.size+1) W0.heap.size [] r :=
  ⟨⟨_,(hold w.heap.size Ω).trans hv0,⟨rfl,.inl ⟨rfl,rfl⟩⟩⟩,
   by rw[←j];have:=World.alloc_heap_new (W0.alloc (.deferred (ä []))) (.loop (sy fn (.func (.func g) #[] C) w.heap.size W0.heap.size .ready ö));rwa[X']at this,
   by rw[←j];exact(Below.heap_alloc _ _ _ Ψ).trans (World.alloc_heap_new W0 _),U⟩
 refine⟨W0.heap.size+1,[{ target :=.collected W0.heap.size,args :=#[] }],r,{ target :=.fn (.func g) C,args :=#[.func (.yield (W0.heap.size+1)) #[] #[]] },r,g,
  #[.func (.yield (W0.heap.size+1)) #[] #[]]++C,r, ?_, ?_, ?_, ?_,λ_=>h1, ?_⟩
 ·rw[←j];exact run_enterLoop_outer _ _ _ _ _
 ·simp[resolve,go_sem]
 ·intro f' hf';simp[Target.leads]at hf';subst hf';exact hFg
 ·simp[invoke,go_sem,eg]
 ·refine(hseq (W0.heap.size+1) (ApS f w fn (.func (.func g) #[] C) w.heap.size (W0.heap.size+1) W0.heap.size) r U (TH f _ _ _ _ _ _ _ U.size)
   (λpre x W hJ hl=>ade f F (n-1-1) w fn hfn _ w.heap.size (W0.heap.size+1) W0.heap.size Ω Ω Ω (ε _) Ω N hN hNb pre x W hJ hl) hM).mono ?_
  rintro e W2 ⟨⟨v0,rfl⟩,ss,hS,h2⟩;obtain⟨v,hv,R⟩:=h2.box;have T:=run_endLoop (P:=prog) h2.L (by simp[sy]);obtain⟨W3,p⟩:∃W3,W2.putObj (W0.heap.size+1) (.loop { sy fn (.func (.func g) #[] C) w.heap.size W0.heap.size .ready ö with state :=.exhausted })=W3:=⟨_,rfl⟩;rw[p]at T;have hg3:W2.grownBy W3 (ä (W0.heap.size+1)):=by rw[←p];exact grownBy_putObj_a _ _ _
  have hv3:W3.heap[w.heap.size]? = ä (.cells #[v] 249 (0,0)):=by rw[←p];exact(World.putObj_heap_other Ω).trans hv
  have hK3:W3.heap[W0.heap.size]? = ä (.deferred (ä [])):=by rw[←p];exact(World.putObj_heap_other Ω).trans h2.K
  have l:=R.kept hg3 (ownsRow_ne_a R h2.L (λcur e=>by first|cases e|exact hne (Z? e).2.1));have hb3:Below w.heap.size w W3:=h2.below.grown hg3 h2.below.size (λk e=>by cases e;omega);obtain⟨hc3,hf3⟩:=cell_of_box_a hv3;clear p;refine⟨ö,W3,T, ?_⟩
  gi_wp2
  rw[←hs0];refine⟨Ψ,.inl ⟨_,_,rfl,run_takeDeferred hK3, ?_⟩⟩;exact⟨_,results_tmp rfl _ _ _,v,ss,rfl,hS,l.kept (grownBy_putObj_a _ _ _) (ownsRow_ne_a l hK3 (λcur e=>by first|cases e|exact hne (Z? e).2.1)),hb3.grown (grownBy_putObj_a _ _ _) hb3.size (λk e=>by cases e;omega)⟩
set_option maxHeartbeats 1000000 in
def Qo (f:Nat→Int×Int)(F:Fence)(n:Nat)(h8:F.fn 242)(R:F.fn 290)(p:F.round=ö)(hn:3≤n)(g:Nat)(C:Array ß)(P:F.fn g)(eg:∀args w,(callFunc g args).run prog w = .ok (.enter g args) w)
  (S:List Nat→Prop) (N:Nat) (hN:N≤maxLen) (J:N*16≤140737488355328) (w:ü) (j:SeqGives F (n-1-1) prog g C (λi=>z8 (f i)) S N w) :
  CallsIn F n prog 242 #[.func (.func g) #[] C] w λe r=>∃(v:ß) (is:List Nat),e = .returned v∧S is∧r.ownsRow w.heap.size 246 2 v is.length (flS (is.map f))∧Below w.heap.size w r:=by
 have e11:∀args w,(callFunc 290 args).run prog w = .ok (.enter 290 args) w:=enters_of func290 Φ rfl;refine callsIn_of_wp func242 rfl h8 ?_ p;simp only[ntmps242,l?,v_,J?,Nat.reduceAdd,Nat.reduceSub,P?,O?,K?,Q?,s_,aj3]
 gi_wp2
 refine⟨λ_=>Ω,(HU f F (n-1) R p Ω g C P eg S N hN J _ j).mono ?_⟩;rintro e r ⟨v,ss,rfl,U,l,T⟩
 gi_wp2
 go_ret
 exact⟨v,ss,rfl,U,l,T⟩
open Go.Sort
attribute [local go_sem] Oper.semAt_some
def Pg (x:Int)(w:ü):Calls prog 70 #[.int .i64 x] w λe f=>e = .returned (.bool false)∧f=w:=by
 go_enter func70,ntmps70
 go_wp2
 go_ret
 exact⟨Ψ,rfl⟩
def rU (x y:Int):Int:=if x<y then -1 else if y<x then 1 else 0
set_option maxHeartbeats 1000000 in
def xf (x y:Int)(w:ü):Calls prog 41 #[.int .i64 x,.int .i64 y] w λe f=>e = .returned (.int .i64 (rU x y))∧f=w:=by
 go_enter func41,ntmps41
 go_wp2_with (first|(go_at_call 70;refine(Pg _ _).mono ?_;rintro e f ⟨rfl,g⟩;rw[g])|go_in)
 all_goals (go_ret;refine⟨?_,rfl⟩;unfold rU;(repeat' split) <;> first|rfl|(exfalso;omega))
def Xc (a b:Int):Int:=if a=0 then b else a
set_option maxHeartbeats 1000000 in
def aaw (a b:Int)(v:Nat)(w:ü)(r:w.cell? ⟨v,0,ö⟩=ä (.int .i64 a))(p:w.cell? ⟨v,1,ö⟩=ä (.int .i64 b)) :
  Calls prog 211 #[.slice (ä ⟨v,0,ö⟩) 2 2] w λe j=>e = .returned (.int .i64 (Xc a b))∧j=w:=by
 by_cases g:a=0
 ·subst g;by_cases l:b=0
  ·subst l
   go_enter func211,ntmps211
   go_wp2
   go_loopw [5,8] (λ_ i wr=>∃k:Nat,k≤2∧i = .int .i64 k∧wr=w) (λ_ i _=>2-(intOf i).toNat)
   case atStart=>exact⟨0,Ω,rfl,rfl⟩
   case round=>
    obtain⟨k,f,rfl,rfl⟩:=hrel;match k,f with
    |0,_=>
     go_wp2;go_roundw;case rel=>exact⟨1,Ω,Ψ,apa⟩
     case measure=>simp[intOf]
    |1,_=>
     go_wp2;go_roundw;case rel=>exact⟨2,Ω,Ψ,apa⟩
     case measure=>simp[intOf]
    |2,_=>go_wp2;go_ret;exact⟨rfl,rfl⟩
  ·go_enter func211,ntmps211
   go_wp2
   go_loopw [5,8] (λ_ i wr=>∃k:Nat,k≤1∧i = .int .i64 k∧wr=w) (λ_ i _=>2-(intOf i).toNat)
   case atStart=>exact⟨0,Ω,rfl,rfl⟩
   case round=>
    obtain⟨k,f,rfl,rfl⟩:=hrel;match k,f with
    |0,_=>
     go_wp2;go_roundw;case rel=>exact⟨1,Ω,Ψ,apa⟩
     case measure=>simp[intOf]
    |1,_=>go_wp2;go_ret;exact⟨by simp[Xc],rfl⟩
 ·go_enter func211,ntmps211
  go_wp2
  go_loopw [5,8] (λ_ i wr=>i = .int .i64 0∧wr=w) (λ_ i _=>2-(intOf i).toNat)
  case atStart=>exact⟨rfl,rfl⟩
  case round=>
   obtain⟨rfl,rfl⟩:=hrel
   go_wp2;go_ret;exact⟨by simp[Xc,g],rfl⟩
def ajo (a b:ü):Prop:=a=b
def X5 (w:ü)(f:Array Obj):(grow w f).drew=grow (w.drewN 1) f:=rfl
def Tc (w:ü)(f:Array Obj)(g:Array ß)(t:æ):(grow w f).alloc (.cells g t)=grow w (f ++ #[.cells g t]):=by rw[←grow_grow];rfl
set_option maxRecDepth 100000 in
set_option maxHeartbeats 2000000 in
def Hr (x y:Int×Int)(w:ü):Calls prog 196 #[z8 x,z8 y] w λe C=>e = .returned (.int .i64 (Xc (rU x.1 y.1) (rU x.2 y.2)))∧∃q j,C=grow (w.drewN q) j:=by
 unfold z8
 go_enter func196,ntmps196
 go_wp2
 have T:prog.follows .mixedOrders=true:=Φ
 have P:=World.alloc_heap_new w (.cells #[.int .i64 x.1,.int .i64 x.2] 246);have f:=(Below.heap_alloc (w.alloc (.cells #[.int .i64 x.1,.int .i64 x.2] 246)) (.cells #[.int .i64 y.1,.int .i64 y.2] 246) w.heap.size Ψ).trans P;have p:=World.alloc_heap_new (w.alloc (.cells #[.int .i64 x.1,.int .i64 x.2] 246)) (.cells #[.int .i64 y.1,.int .i64 y.2] 246);rw[X']at p;have l:∃j,(w.alloc (.cells #[.int .i64 x.1,.int .i64 x.2] 246)).alloc (.cells #[.int .i64 y.1,.int .i64 y.2] 246)=grow w j:=⟨#[_] ++ #[_],by rw[←grow_grow];rfl⟩;generalize (w.alloc (.cells #[.int .i64 x.1,.int .i64 x.2] 246)).alloc (.cells #[.int .i64 y.1,.int .i64 y.2] 246)=W at *;have c0:W.cell? ⟨w.heap.size,0,ö⟩=ä (.int .i64 x.1):=by simp[World.cell?,f]
 have c1:W.cell? ⟨w.heap.size,1,ö⟩=ä (.int .i64 x.2):=by simp[World.cell?,f]
 have c2:W.cell? ⟨w.heap.size+1,0,ö⟩=ä (.int .i64 y.1):=by simp[World.cell?,p]
 have c3:W.cell? ⟨w.heap.size+1,1,ö⟩=ä (.int .i64 y.2):=by simp[World.cell?,p]
 refine wp_region_still_tail 10 T Φ ?_;simp;iterate 4 still_step
 still_call (xf x.1 y.1 W.drew)
 iterate 4 still_step
 still_call (xf x.2 y.2 W.drew)
 refine wpStill_nil ?_;change wpList _ _ _ _ _ W.drew;clear P f p c0 c1 c2 c3;obtain⟨j,l⟩:=l;have r:ajo W.drew (grow (w.drewN 1) j):=by rw[l,X5];rfl
 clear l;generalize W.drew=g at *;have J:=World.alloc_heap_new g (.cells #[.int .i64 (rU x.1 y.1),.int .i64 (rU x.2 y.2)] 3);have d0:(g.alloc (.cells #[.int .i64 (rU x.1 y.1),.int .i64 (rU x.2 y.2)] 3)).cell? ⟨g.heap.size,0,ö⟩=ä (.int .i64 (rU x.1 y.1)):=by unfold World.cell?;rw[J];rfl
 have U:(g.alloc (.cells #[.int .i64 (rU x.1 y.1),.int .i64 (rU x.2 y.2)] 3)).cell? ⟨g.heap.size,1,ö⟩=ä (.int .i64 (rU x.2 y.2)):=by unfold World.cell?;rw[J];rfl
 go_wp2_with (go_at_call 211;refine(aaw (rU x.1 y.1) (rU x.2 y.2) g.heap.size _ d0 U).mono ?_;rintro e C ⟨rfl,R⟩;rw[R])
 go_ret
 refine⟨rfl,1,j ++ #[.cells #[.int .i64 (rU x.1 y.1),.int .i64 (rU x.2 y.2)] 3], ?_⟩;rw[show g=_ from r,Tc]
end Abs
namespace Go.Proofs
open Go.Shelf Tryz
def Tryz.laysK_ren:Go.Shelf.Ren:=⟨λ|6=>243|15=>67|14=>291|28=>119|29=>120|20=>325|21=>326|22=>327|23=>328|24=>329|25=>330|26=>331|27=>332|46=>369|47=>153|48=>154|49=>370|50=>371|57=>389|n=>n,λ|22=>249|24=>246|25=>254|3=>3|39=>108|0=>0|53=>158|55=>160|4=>4|46=>150|45=>149|50=>155|5=>5|9=>9|66=>201|70=>205|76=>240|77=>128|n=>n,λ|n=>n⟩
def Tryz.laysK:Go.Proofs.SlLaysF0.n6 Tryz.prog Tryz.laysK_ren:={
 mixed:=by kernel_rfl
 f6:=⟨Tryz.f243.name,by decide,Tryz.func243.trans (congrArg ä (by kernel_rfl))⟩
 f14:=⟨Tryz.f291.name,by decide,Tryz.func291.trans (congrArg ä (by kernel_rfl))⟩
 f15:=Tryz.func67.trans (congrArg ä (by kernel_rfl))
 f20:=⟨Tryz.f325.name,by decide,Tryz.func325.trans (congrArg ä (by kernel_rfl))⟩
 f21:=⟨Tryz.f326.name,by decide,Tryz.func326.trans (congrArg ä (by kernel_rfl))⟩
 f22:=⟨Tryz.f327.name,by decide,Tryz.func327.trans (congrArg ä (by kernel_rfl))⟩
 f23:=⟨Tryz.f328.name,by decide,Tryz.func328.trans (congrArg ä (by kernel_rfl))⟩
 f24:=⟨Tryz.f329.name,by decide,Tryz.func329.trans (congrArg ä (by kernel_rfl))⟩
 f25:=⟨Tryz.f330.name,by decide,Tryz.func330.trans (congrArg ä (by kernel_rfl))⟩
 f26:=⟨Tryz.f331.name,by decide,Tryz.func331.trans (congrArg ä (by kernel_rfl))⟩
 f27:=⟨Tryz.f332.name,by decide,Tryz.func332.trans (congrArg ä (by kernel_rfl))⟩
 f28:=Tryz.func119.trans (congrArg ä (by kernel_rfl))
 f29:=Tryz.func120.trans (congrArg ä (by kernel_rfl))
 f46:=⟨Tryz.f369.name,by decide,Tryz.func369.trans (congrArg ä (by kernel_rfl))⟩
 f47:=Tryz.func153.trans (congrArg ä (by kernel_rfl))
 f48:=Tryz.func154.trans (congrArg ä (by kernel_rfl))
 f49:=⟨Tryz.f370.name,by decide,Tryz.func370.trans (congrArg ä (by kernel_rfl))⟩
 f50:=⟨Tryz.f371.name,by decide,Tryz.func371.trans (congrArg ä (by kernel_rfl))⟩
 f57:=⟨Tryz.f389.name,by decide,Tryz.func389.trans (congrArg ä (by kernel_rfl))⟩
 t0:=Tryz.underlying0
 a0:=Tryz.isAgg0
 z0:=Tryz.sizeOf0
 v0:=Tryz.zeroValue0
 t3:=Tryz.underlying3
 a3:=Tryz.isAgg3
 z3:=Tryz.sizeOf3
 v3:=Tryz.zeroValue3
 t4:=Tryz.underlying4
 a4:=Tryz.isAgg4
 z4:=Tryz.sizeOf4
 v4:=Tryz.zeroValue4
 t5:=Tryz.underlying5
 a5:=Tryz.isAgg5
 z5:=Tryz.sizeOf5
 v5:=Tryz.zeroValue5
 t9:=Tryz.underlying9
 a9:=Tryz.isAgg9
 z9:=Tryz.sizeOf9
 v9:=Tryz.zeroValue9
 t22:=Tryz.underlying249
 a22:=Tryz.isAgg249
 z22:=Tryz.sizeOf249
 v22:=Tryz.zeroValue249
 t25:=Tryz.underlying254
 a25:=Tryz.isAgg254
 z25:=Tryz.sizeOf254
 v25:=Tryz.zeroValue254
 t39:=Tryz.underlying108
 a39:=Tryz.isAgg108
 z39:=Tryz.sizeOf108
 v39:=Tryz.zeroValue108
 t45:=Tryz.underlying149
 a45:=Tryz.isAgg149
 z45:=Tryz.sizeOf149
 v45:=Tryz.zeroValue149
 t46:=Tryz.underlying150
 a46:=Tryz.isAgg150
 z46:=Tryz.sizeOf150
 v46:=Tryz.zeroValue150
 t50:=Tryz.underlying155
 a50:=Tryz.isAgg155
 z50:=Tryz.sizeOf155
 v50:=Tryz.zeroValue155
 t53:=Tryz.underlying158
 a53:=Tryz.isAgg158
 z53:=Tryz.sizeOf158
 v53:=Tryz.zeroValue158
 t55:=Tryz.underlying160
 a55:=Tryz.isAgg160
 z55:=Tryz.sizeOf160
 v55:=Tryz.zeroValue160
 t66:=Tryz.underlying201
 a66:=Tryz.isAgg201
 z66:=Tryz.sizeOf201
 v66:=Tryz.zeroValue201
 t70:=Tryz.underlying205
 a70:=Tryz.isAgg205
 z70:=Tryz.sizeOf205
 v70:=Tryz.zeroValue205
 t76:=Tryz.underlying240
 a76:=Tryz.isAgg240
 z76:=Tryz.sizeOf240
 v76:=Tryz.zeroValue240
 t77:=Tryz.underlying128
 a77:=Tryz.isAgg128
 z77:=Tryz.sizeOf128
 v77:=Tryz.zeroValue128 }
end Go.Proofs
namespace Abs
open Go Go.Proofs Go.RowKit Go.Maps Go.Shelf Go.Sort Tryz
attribute [local go_sem] Oper.semAt_some
def cmpS (x y:Int×Int):Int:=Xc (rU x.1 y.1) (rU x.2 y.2)
def cmpS_lt (x y:Int×Int):cmpS x y<0↔(x.1<y.1∨(x.1=y.1∧x.2<y.2)):=by
 unfold cmpS Xc rU
 repeat' split
 all_goals omega
def acu:SWO (ltOf cmpS) where
 irrefl x:=by simp only[ltOf,akd,cmpS_lt];omega
 trans x y z h1 h2:=by simp only[ltOf,υ,cmpS_lt]at *;omega
 ntrans x y z h1 h2:=by simp only[ltOf,akd,cmpS_lt]at *;omega
def acG (x:Int×Int):(celS x).length=2:=rfl
def acF (x:Int×Int):∀v∈celS x,v.oneCell'=true:=by simp[celS,Value.oneCell']
def agM (d:Array (Int×Int)):(flatK celS 2 d).toList=flS d.toList:=by
 have p:∀(l:List (Int×Int)) (j:Nat),j<l.length*2→(flS l)[j]? = ä ((celS l.toArray[j/2]!)[j%2]!):=by
  intro l;induction l with
  |nil=>intro j g;simp at g
  |cons h l r=>
   intro j g;match j with
   |0=>rfl
   |1=>rfl
   |j+2=>
    rw[show(flS (h::l))[j+2]? = (flS l)[j]? from rfl,r j (by simp at g;omega),show(j+2)/2=j/2+1 by omega,show(j+2)%2=j%2 by omega];have f:j/2<l.length:=by simp at g;omega
    simp[akA,f]
 apply N?;intro j;by_cases g:j<d.size*2
 ·rw[p d.toList j (by simpa using g)];have f:j<(flatK celS 2 d).size:=by rw[size_flatK];exact g
  rw[p_,X_ f,←getElem!_pos _ j f,get_flatK _ _ _ _ g]
 ·rw[w_ (by rw[ο,size_flatK];omega),w_ (by rw[LU];simp;omega)]
variable{W:ü}{f:Array ß}{e:æ}{l:List (Int×Int)}{d:Array (Int×Int)}
def ah1 {g:Nat}(h:W.heap[g]? = ä (.cells f e (0,0)))(P:f.toList.take (l.length*2)=flS l):HoldsK celS 2 W g 0 l.toArray:=by
 intro j C;rw[size_flatK]at C;have C:j<l.length*2:=by simpa using C
 have p:j<f.size:=by have:=l_ List.length P;simp[LU]at this;omega
 have T:f[j]? = (flS l)[j]?:=by rw[←P,aj6 C,p_]
 have R:(flatK celS 2 l.toArray)[j]! = f[j]:=by
  have r:j<(flatK celS 2 l.toArray).size:=by rw[size_flatK];simpa using C
  rw[akA _ j r];have J:=l_ (λx=>x[j]?) (agM l.toArray);simp[X_ r]at J;rw[←T,X_ p]at J;exact Δ J
 rw[R,Z'];refine⟨?_, ?_⟩
 ·unfold World.cell?;rw[h];simp[p]
 ·unfold World.frozen?;rw[h];simp
def K1 (w:ü)(g j:Nat)(F:Array ß){l:Nat×Nat}(h:w.heap[g]? = ä (.cells f e l)):(putRow id w g j F).heap[g]? = ä (.cells (putCells id j F f) e l):=by unfold putRow mapBlock;simp[b?,h,onCells]
def xC (w:ü)(f g:Nat)(F:Array ß){b:Nat}(h:b≠f):(putRow id w f g F).heap[b]? = w.heap[b]?:=by unfold putRow mapBlock;simp[b?,Ne.symm h]
def E6 (F f:Array ß)(h:F.size≤f.size):(putCells id 0 F f).toList.take F.size=F.toList:=by
 apply N?;intro j;simp only[putCells,b_];by_cases g:j<F.size
 ·have:j<f.size:=Ω
  simp[g,this,akA]
 ·rw[ω g,w_ Ξ]
def agv (w:ü)(g f n:Nat)(d:Array (Int×Int))(j:Array Obj):(putRowK celS 2 (Sort.ahead w n) g f d).heap.size=w.heap.size:=size_putRow _ _ _ _ _
def Wv {g cap n:Nat}{j:Nat}{os:Array Obj}(r:j≤g)(h:W.heap[g]? = ä (.cells f e (0,0)))(T:d.size≤cap)(R:cap≤maxLen)(C:f.size=cap*2) :
  (sortWorldK celS 2 W g 0 n d os).ownsRow j e 2 (.slice (ä ⟨g,0,ö⟩) d.size cap) d.size (flS d.toList)∧W.grownBy (sortWorldK celS 2 W g 0 n d os) (ä g):=by
 have p:g<W.heap.size:=(δ.1 h).1;have P:(sortWorldK celS 2 W g 0 n d os).heap[g]? = ä (.cells (putCells id 0 (flatK celS 2 d) f) e (0,0)):=by unfold sortWorldK grow;simp only;rw[n? (by rw[agv W g 0 n d os];exact p)];exact K1 (Sort.ahead W n) g 0 _ h
 refine⟨⟨by rw[LU];simp,.inr ⟨g,cap,_,rfl,r,P,T,R,by rw[←C];simp[putCells], ?_⟩⟩,rfl,rfl,rfl,size_sortWorldK_c _ _ _ _ _ _ _ _,λb r l=>?_⟩
 ·have J:(flatK celS 2 d).size=d.size*2:=size_flatK ..;rw[←agM,←J,E6 _ _ (by rw[J,C];omega)]
 ·have l:b≠g:=λe=>l (by rw[e]);unfold sortWorldK grow;simp only;rw[n? (by rw[agv W g 0 n d os];exact r)];exact xC _ _ _ _ l
def Ht (J:d.toList.Perm l)(C:SortedIn (ltOf cmpS) 0 d.size d)(P:l.Pairwise λx y=>cmpS x y<0):d.toList=l:=by
 have r:d.toList.Pairwise λx y=>¬cmpS y x<0:=by
  rw[W_];intro i j T R g;have p:i<d.size:=by simpa using T
  have f:j<d.size:=by simpa using R
  have:=C i j (Y' _) g f;rw[akA d j f,akA d i p]at this;simpa[ltOf]using this
 refine List.Perm.eq_of_pairwise (le:=λx y=>¬cmpS y x<0) (λx y _ _ r U=>?_) r (P.imp λ{x y} h=>?_) J
 ·rw[cmpS_lt]at r U;exact Prod.ext Ω Ω
 ·rw[cmpS_lt]at h⊢;omega
set_option maxRecDepth 100000 in
set_option maxHeartbeats 2000000 in
def sortedS_calls (Bm b:Nat)(r:Array MapEntry)(clock:Nat)(U:∀x∈r.toList,x.born<clock)(hnd:(r.toList.map (·.born)).Nodup)(g:Nat→Int×Int)(hkey:∀i,i<r.size→(entA r i).key=z8 (g i))(h0:0<r.size)(hN:r.size≤1048576)(J:List (Int×Int))(hks:((List.range r.size).map g).Perm J)(hlt:J.Pairwise λx y=>cmpS x y<0)
  (w:ü) (hBm:Bm<w.heap.size) (hm:w.cell? ⟨Bm,0,ö⟩=ä (.map (ä b))) (hb:w.heap[b]? = ä (.map r clock)) :
  Calls prog 194 #[.func (.func 244) #[] #[.pointer (ä ⟨Bm,0,ö⟩)],.func (.func 196) #[] #[]] w
   λe w'=>∃v,e = .returned v∧Below w.heap.size w w'∧w'.ownsRow w.heap.size 246 2 v J.length (flS J):=by
 let F:Fence:={ fn:=λ_=>True };have hg2:=Pd F 3 trivial rfl Ω Bm b r clock U hnd g hkey w hBm hm hb;have hc:=(Qo g F 5 trivial trivial rfl Ω 244 #[.pointer (ä ⟨Bm,0,ö⟩)] trivial (enters_of func244 Φ rfl) _ r.size (by unfold maxLen;omega) Ω w hg2).calls (λk d h=>by cases h)
 go_enter func194,ntmps194
 go_wp2_with (go_at_call 242;refine hc.mono ?_;rintro e W ⟨v,C,rfl,⟨hin,hmem⟩,hrow,P⟩)
 have j:(C.map g).length=C.length:=G' ..;have l:(C.map g).Perm J:=by refine List.Perm.trans (List.Perm.map g ?_) hks;rw[alD hin List.nodup_range];intro i;rw[hmem,N_]
 have R:C.length=J.length:=by rw[←j];exact l.length_eq
 have hkl:J.length=r.size:=by rw[←hks.length_eq];simp
 rcases hrow.2 with⟨_,hz⟩|⟨gb,cap,f,rfl,p,T,r1,r2,r3,r4⟩
 ·omega
 have hgl:gb<W.heap.size:=(δ.1 T).1;have hH:HoldsK celS 2 W gb 0 (C.map g).toArray:=ah1 T (by rw[j];exact r4);have hS:=AnyQ.slices_SortFunc laysK 2 isAgg246 sizeOf246 celS acG acF cmpS acu 196 #[] gb 0 cap (C.map g).toArray W (enters_of func196 Φ rfl)
  (λm os dk _ x y=>Hr x y _) hH hgl Ξ
 rw[l?,j]at hS
 go_wp2_with (go_at_call 243;refine hS.mono ?_;rintro e w' ⟨rfl,d',n,os,⟨p1,p2,p3⟩,hsd,rfl⟩)
 go_ret
 have hp:d'.toList.Perm J:=by
  have h1:d'.size=(C.map g).toArray.size:=p1;have:(d'.extract 0 d'.size).toList.Perm (C.map g):=by rw[h1];have q:=p3;simp[j]at q⊢;simpa[k?,j]using q
  simp at this;exact this.trans l
 have hd:=Ht hp (by rw[show d'.size=C.length by rw[p1];simp];exact hsd) hlt;have hds:d'.size=C.length:=by rw[p1];simp
 have hr:=Wv (n:=n) (os:=os) (d:=d') p T Ω r2 r3;rw[hd,hds,R,hkl]at hr;refine⟨_,rfl,P.grown hr.2 P.size (λk e=>by cases e;exact p), ?_⟩;rw[hkl];exact hr.1
